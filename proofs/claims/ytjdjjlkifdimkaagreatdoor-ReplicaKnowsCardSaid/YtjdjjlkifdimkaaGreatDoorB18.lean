import Derived.Maps.Own
import Derived.Maps.OwnIn
import Derived.Maps.Views
import Derived.Maps.RangeWalk
import Derived.Shelf.Spec.SlicesInsertGrow
import Derived.Test.YtjdjjlkifdimkaaGreatDoorB17
set_option maxHeartbeats 16000000
set_option linter.all false
set_option maxRecDepth 100000
namespace Go.Proofs.YtjdjjlkifdimkaaGreatDoor
def dK{p:Prop}(h:p:=by simp [Act.eval,Act.put]):p:=h
def tH:=@Go.World.ownsRow.cells
def Te:=@Go.run_append_own_at
def Tg:=@Go.World.cell?_setCells_out
def Tl:=@Go.World.cell?_alloc_past
def Tm:=@Go.World.frozen?_setCells
def Tv:=@Go.IntKind.wrap_i64
def TB:=@Go.wpList_next_ranges
def TG:=@Go.wpList_range_own
def TM:=@Go.World.ownsMap_made
def TN:=@Go.run_copy_cells
def TO:=@Go.Lib.run_append_grow_zeros
def TQ:=@Go.Maps.has_put_other
def TU:=@Go.Maps.has_put_same
def TV:=@Go.World.frozen?_alloc_at
def TW:=@Go.Lib.run_overlaps_apart
def TY:=@Go.Maps.atKey_put_other
open Go.RowKit
open Go.Proofs.Tryz
open Go.Proofs.Tryz renaming prog->xt
section
open Go.Maps
abbrev DV:=DataW Value
def rV(v:Value):Option (DV×List MemPlace):=some (.held v,[])
def zP:Value:=.agg #[.slice none 0 0,.slice none 0 0]
def kR(r:Nat):Lit:=.int .u64 (r:Nat)
def vF:Keyed xt 36 := int_keyed underlying36
def zeC(w:World):(zeroValue 243).run xt w=.ok zP w:=dM
def Zq{r:Nat}(h:r<zk):keyOf xt 36 (.int .u64 (r:Nat))=some (kR r):=by rw[zw]at h;refine keyOf_int_mk underlying36 ?_;simp[Lit.wf,IntKind.min,IntKind.max,IntKind.signed,IntKind.bits];omega
def Qc(r:Nat):WideAt.IsKeyLit (kR r):=trivial
def Xa{r s:Nat}(h:kR r=kR s):r=s:=by unfold kR at h;injection h with _ h;omega
def DL(C:xT)(j:Nat)(w:World):Nat->Nat->Prop:=λb o=>C b o\/(j<b/\b<w.heap.size)
def rdF(C:xT)(w:World)(b o:Nat)(e:En):Prop:=w.cell? ⟨b,o,none⟩=some (.int .u64 e.rep)/\w.cell? ⟨b,o+1,none⟩=some (.int .u64 e.max)/\(∃j,w.cell? ⟨b,o+2,none⟩=some j/\Dat C w j (rg e.holes))/\e.rep<zk/\e.max<zk
def RdF(C:xT)(j:Nat)(w:World)(v:Value)(l:List En):Prop:=RdSl 3 (rdF C) 0 j w v l
def RdF.keep{C:xT}{j:Nat}{w w':World}{v:Value}{l:List En}(u:∀b o,C b o->b<j)(h:RdF C j w v l)(hb:∀k,k<j->w'.heap[k]?=w.heap[k]?):RdF C j w' v l:=
 RdSl.keep h (Zp _) (Zp _) λb o x _ h2 ⟨c0,c1,⟨hv,c2,c3⟩,c4⟩=>
  ⟨(tk (a:=⟨b,o,none⟩) (hb b h2)).trans c0,(tk (a:=⟨b,o+1,none⟩) (hb b h2)).trans c1,⟨hv,(tk (a:=⟨b,o+2,none⟩) (hb b h2)).trans c2,c3.mono (λ_ _ h=>h) λb o x y A=>(tk (a:=⟨b,o,none⟩) (hb b (u b o y))).trans A⟩,c4⟩
def dat_rdf{D:xT}{w:World}{x:Value}{v:List En}(h:Dat D w x (vp v))(K:∀b o,D b o->b<w.heap.size)(hb:∀e∈v,ZL e):RdF D w.heap.size w x v:=by
 unfold vp at h;generalize F:v.map ec=es at h;cases h with
 |sl a cap sz es o b off u hc hz hm ha hsz hd hx=>have G:es.length=v.length:=(by rw[<-F];simp);refine⟨a,cap,by rw[G],a9,hm,λB=>?_⟩;have y:0<v.length:=wU.2 B;have g:∀i (h:i<v.length),es[i]?=some (ec v[i]):=λi h=>(by rw[<-F];exact xo h);obtain rfl:3=sz:=hsz 0 _ (g 0 y);have A:es≠[]:=(by intro e;subst e;simp at G;omega);have j:b<w.heap.size:=K _ _ (hd 0 a9).1;refine⟨b,off,ha A,X4 _,j,λi hi=>?_⟩;have J:=(hx i _ 0 _ (g i hi) rfl).v_inv;have e1:=(hx i _ 1 _ (g i hi) rfl).v_inv;have e2:=hx i _ 2 _ (g i hi) rfl;have C:=(hd (i*3+0) a9).2.1;have E:=(hd (i*3+1) a9).2.1;have I:=(hd (i*3+2) a9).2.1;rw[J]at C;rw[e1]at E;obtain⟨b1,b2,H⟩:=hb _ (Yf hi);exact⟨C,E,⟨_,I,e2⟩,H,b2⟩
def PairD(C:xT)(w:World)(o:Nat)(D:DV)(j:List Nat)(A B:Nat->List Iv):Prop:=
 IsMap D/\∀r,has D (kR r)=decide (r∈j)/\∃u y,D.atKey (kR r) (.held zP)=.held (.agg #[u,y])/\Dat (DL C o w) w u (rg (A r))/\Dat (DL C o w) w y (rg (B r))
def KN{D:xT}{w:World}:Dat D w (.slice none 0 0) (rg []):=.sl none 0 2 [] .sh 0 0 (λ_=>undef) b7 (λh=>by cases h) b9 (λh=>absurd rfl h) (λi e h=>by simp at h) (λj h=>by simp at h) (λi e j p h=>by simp at h)
def PairD.start(C:xT)(w:World)(j:Nat):PairD C w j (.map []) [] (λ_=>[]) (λ_=>[]):=
 ⟨⟨[],rfl⟩,λr=>⟨by simp[has],_,_,rfl,KN,KN⟩⟩
def PairD.mono{C:xT}{w w':World}{u:Nat}{D:DV}{y:List Nat}{A B:Nat->List Iv}(H:∀b o,C b o->b<u)(h:PairD C w u D y A B)(hs:w.heap.size<=w'.heap.size)(hb:∀k,k<w.heap.size->k≠u->w'.heap[k]?=w.heap[k]?):PairD C w' u D y A B:=by
 refine⟨h.1,λr=>⟨(h.2 r).1,?_⟩⟩;obtain⟨I,J,e,d0,G⟩:=(h.2 r).2;have E:∀b o x,DL C u w b o->w.cell? ⟨b,o,none⟩=some x->w'.cell? ⟨b,o,none⟩=some x:=λb o x j F=>
  (tk (a:=⟨b,o,none⟩) (hb b (tn w ⟨b,o,none⟩ F) (by rcases j with j|j;have:=H b o j;omega;omega))).trans F
 have j:∀b o,DL C u w b o->DL C u w' b o:=λb o j=>j.imp id λh=>⟨h.1,vw h.2 hs⟩;exact⟨I,J,e,d0.mono j E,G.mono j E⟩
def PairD.put0{C:xT}{w:World}{A:Nat}{D:DV}{o:List Nat}{E F:Nat->List Iv}(h:PairD C w A D o E F){j:Nat}{l:List Iv}{s J B:Value}(hs:Dat (DL C A w) w s (rg l))(I:D.atKey (kR j) (.held zP)=.held (.agg #[J,B])):
 PairD C w A (D.put (kR j) (.held (.agg #[s,B]))) (o++[j]) (λr=>if r=j then l else E r) F:=by
 refine⟨h.1.put _ _,λr=>?_⟩;by_cases e:r=j
 .subst e;obtain⟨G,H,e1,d0,y⟩:=(h.2 r).2;rw[I]at e1;cases e1;exact⟨by rw[TU h.1 (Qc _)];simp,s,B,atKey_put_same h.1 (Qc _) _ _,by dsimp only;rw[vj rfl];exact hs,y⟩
 .have u:kR r≠kR j:=λh=>e (Xa h);obtain⟨G,H,e1,d0,y⟩:=(h.2 r).2;exact⟨by rw[TQ u,(h.2 r).1];simp[e],G,H,by rw[TY u];exact e1,by dsimp only;rw[vD e];exact d0,y⟩
def PairD.put1{C:xT}{w:World}{y:Nat}{D:DV}{o:List Nat}{E F:Nat->List Iv}(h:PairD C w y D o E F){j:Nat}{l:List Iv}{s A J:Value}(hs:Dat (DL C y w) w s (rg l))(I:D.atKey (kR j) (.held zP)=.held (.agg #[A,J])):
 PairD C w y (D.put (kR j) (.held (.agg #[A,s]))) (o++[j]) E (λr=>if r=j then l else F r):=by
 refine⟨h.1.put _ _,λr=>?_⟩;by_cases e:r=j
 .subst e;obtain⟨G,H,e1,d0,B⟩:=(h.2 r).2;rw[I]at e1;cases e1;exact⟨by rw[TU h.1 (Qc _)];simp,A,s,atKey_put_same h.1 (Qc _) _ _,d0,by dsimp only;rw[vj rfl];exact hs⟩
 .have u:kR r≠kR j:=λh=>e (Xa h);obtain⟨G,H,e1,d0,B⟩:=(h.2 r).2;exact⟨by rw[TQ u,(h.2 r).1];simp[e],G,H,by rw[TY u];exact e1,d0,by dsimp only;rw[vD e];exact B⟩
def zc9{v:List En}{e:En}(h:∀f∈v,f.rep≠e.rep)(r:Nat):zT (v++[e]) r=if r=e.rep then kn e else zT v r:=by
 unfold zT;rw[List.find?_append];by_cases j:r=e.rep
 .subst j;rw[vj rfl,show List.find? (λf=>f.rep == e.rep) v=none from uP.2 λf o=>by simpa using h f o];simp
 .rw[vD j];have:List.find? (λf=>f.rep == r) [e]=none:=(by simp;exact λh=>j h.symm);rw[this,Option.or_none]
def Vj{v:List En}(h:zsC v){k:Nat}(hk:k<v.length):zT (v.take (k+1))=λr=>if r=v[k].rep then kn v[k] else zT (v.take k) r:=by
 funext r;rw[X3 hk];refine zc9 (λf o=>?_) r;obtain⟨i,hi,rfl⟩:=Wd o;have j:i<k:=by simp at hi;omega
 have:=wI.1 h.2 i k a9 hk j;simp only[uI];omega
def SmV(v:List En):Prop:=zsC v/\v.length<=1048576/\∀e∈v,e.holes.length<=10000
end
section
open Go.Maps
attribute [-go_sem] z7
def zkt(j y:Option Addr)(u B o A:Nat)(w:World):(Instr.index 272 (.agg #[.slice j u o,.slice y B A]) (.int .i64 0)).run xt w=.ok (.slice j u o) w:=dM
def zku(y j:Option Addr)(B u A o:Nat)(w:World):(Instr.index 272 (.agg #[.slice y B A,.slice j u o]) (.int .i64 1)).run xt w=.ok (.slice j u o) w:=dM
def zK{D:xT}{w:World}{v:Value}{l:List Iv}(h:Dat D w v (rg l)):∃o j,v=.slice o l.length j:=by have u:Dat D w v (.sl (l.map Q2) .sh):=h;obtain⟨o,j,sz,b,y,f,e1,_⟩:=(Rel.dat (ρ:=λ_=>0) (nb:=0) u).inv_sl;rw[wt]at e1;exact⟨o,j,e1⟩
def yg{w o:World}{b n:Nat}{D:DV}(h:w.ownsMap xt 36 rV b n D)(hb:o.heap[b]?=w.heap[b]?):o.ownsMap xt 36 rV b n D:=by obtain⟨u,j,y,r⟩:=h;exact⟨u,j,hb.trans y,r⟩
def Qf{w:World}{b n:Nat}{D:DV}(h:w.ownsMap xt 36 rV b n D){r:Nat}(B:r<zk){o u:Value}(A:D.atKey (kR r) (.held zP)=.held (.agg #[o,u])):
 (Instr.lookup 238 (.map (some b)) (.int .u64 (r:Nat)) false).run xt w=.ok (.agg #[o,u]) w:=by
 obtain⟨v,C,y,j⟩:=h.lookup vF underlying238 (zeC w) (zd:=.held zP) (zp:=[]) rfl (Zq B);rw[A]at j;unfold rV at j;cases j;exact y
def zeI{D:xT}{w:World}{e:En}{o:Option Addr}{u:Nat}(y:Dat D w (.slice o e.holes.length u) (rg e.holes)):Dat D w (.agg #[.int .u64 e.rep,.int .u64 e.max,.slice o e.holes.length u]) (ep e):=by
 refine .agg _ _ rfl (λi hi=>?_) λi p j=>?_
 .match i,hi with
  |0,_=>rfl
  |1,_=>rfl
  |2,_=>rfl
 .match i,j with
  |0,j=>cases j;exact .v _
  |1,j=>cases j;exact .v _
  |2,j=>cases j;exact y
def zaa{C:xT}{w:World}{I:Nat}{e:En}{E:Option Addr}{F:Nat}(M:zO e)(U:e.holes.length<=10000)(P:Dat C w (.slice E e.holes.length F) (rg e.holes))(L:∀b o,C b o->b<I)(O:I<=w.heap.size)(N:GL C w):
 Calls xt 194 #[.agg #[.int .u64 e.rep,.int .u64 e.max,.slice E e.holes.length F]] w λG y=>∃A j,G=.returned (.slice A (kn e).length j)/\Below w.heap.size w y/\Dat (λb o=>C b o\/(w.heap.size<=b/\b<y.heap.size)) y (.slice A (kn e).length j) (rg (kn e)):=by
 refine((XZ e M a9).2 C w _ N (λb o h=>vw (L b o h) O) rfl (λi p u=>?_)).mono ?_
 .match i,u with
  |0,u=>cases u;exact zeI P
  |i+1,u=>simp at u
 .rintro G y ⟨v,J,rfl,hb,V,S,T,H,_⟩;have B:Dat J y v (.sl ((kn e).map Q2) .sh):=H;obtain⟨A,j,sz,b,Q,f,e1,_⟩:=(Rel.dat (ρ:=λ_=>0) (nb:=0) B).inv_sl;rw[wt]at e1;subst e1;exact⟨A,j,rfl,hb,H.mono (λb o h=>(S b o h).imp id λK=>⟨K,T b o h⟩) λ_ _ _ _ h=>h⟩
def zW{w:World}{g:Nat}{j:Array Value}{t:TypeId}(h:w.heap[g]?=some (.cells j t (0,0)))(i:Nat)(v:Value)(o:j[i]?=some v):w.cell? ⟨g,i,none⟩=some v/\w.frozen? ⟨g,i,none⟩=false:=by
 constructor
 .simp[World.cell?,h,o]
 .simp[World.frozen?,h]
def zmT:(λr=>zT [] r)=λ_=>[]:=rfl
def Qm{C:xT}{w wr y I:World}{D:DV}{u:List Nat}{A B:Nat->List Iv}{e:En}{U V v:Value}{G H:Obj}(J:∀b o,C b o->b<w.heap.size)(M:PairD C wr w.heap.size D u A B)(Q:D.atKey (kR e.rep) (.held zP)=.held (.agg #[U,V]))
 (P:Below w.heap.size w wr) (Z:w.heap.size<wr.heap.size) (E:Below ((wr.alloc G).alloc H).heap.size ((wr.alloc G).alloc H) y) (X:Dat (λb o=>C b o\/(((wr.alloc G).alloc H).heap.size<=b/\b<y.heap.size)) y v (rg (kn e))) (j:Nat)
 (K:(y.setCell ⟨wr.heap.size+1,j,none⟩ v).grownBy I (some w.heap.size)) :
 PairD C I w.heap.size (D.put (kR e.rep) (.held (.agg #[v,V]))) (u++[e.rep]) (λr=>if r=e.rep then kn e else A r) B /\
 PairD C I w.heap.size (D.put (kR e.rep) (.held (.agg #[U,v]))) (u++[e.rep]) A (λr=>if r=e.rep then kn e else B r)/\Below w.heap.size w I:=by
 have hs:((wr.alloc G).alloc H).heap.size=wr.heap.size+2:=b7
 have h3:wr.heap.size+2<=y.heap.size:=hs▸E.size;have F:∀k,k<wr.heap.size->(y.setCell ⟨wr.heap.size+1,j,none⟩ v).heap[k]?=wr.heap[k]?:=λk hk=>by rw[tv _ _ _ _ (by show k≠wr.heap.size+1;omega),E.block k a9,tr _ _ _ b6,tr _ _ _ hk]
 have T:PairD C (y.setCell ⟨wr.heap.size+1,j,none⟩ v) w.heap.size D u A B:=M.mono J b6 λk hk _=>F k hk;have O:Dat (DL C w.heap.size (y.setCell ⟨wr.heap.size+1,j,none⟩ v)) (y.setCell ⟨wr.heap.size+1,j,none⟩ v) v (rg (kn e)):=by
  refine X.mono (λb o h=>h.imp id λh=>⟨a9,?_⟩) λb o x h hx=>?_
  .show b<(y.setCell ⟨wr.heap.size+1,j,none⟩ v).heap.size;simp;omega
  .refine(tk (a:=⟨b,o,none⟩) (tv _ _ _ _ ?_)).trans hx;show b≠wr.heap.size+1;rcases h with h|h
   .have:=J b o h;omega
   .omega
 have S:∀{D:DV}{u:List Nat}{A B:Nat->List Iv},PairD C (y.setCell ⟨wr.heap.size+1,j,none⟩ v) w.heap.size D u A B->PairD C I w.heap.size D u A B:=λh=>h.mono J K.size λk hk L=>K.block k hk (dL L);refine⟨S (T.put0 O Q),S (T.put1 O Q),?_⟩;have N:Below w.heap.size w (y.setCell ⟨wr.heap.size+1,j,none⟩ v):=by refine tW ?_ (by show w.heap.size<=wr.heap.size+1;omega) _;refine Below.trans ((P.alloc P.size G).alloc b6 H) (E.mono a9)
 exact N.grown K N.size λj Y=>by cases Y;exact Zp _
def J4(C:xT)(a b:List En)(va vb:Value)(w:World)(ha:SmV a)(hb:SmV b)(ra:RdF C w.heap.size w va a)(rb:RdF C w.heap.size w vb b)(U:∀b o,C b o->b<w.heap.size)(hG:GL C w):
 Calls xt 157 #[va,vb] w λe w'=>e=.returned (.map (some w.heap.size))/\Below w.heap.size w w'/\∃D,w'.ownsMap xt 36 rV w.heap.size (a.length+b.length) D/\PairD C w' w.heap.size D (zM a++zM b) (zT a) (zT b):=by
 have aJ:=@run_makeMap xt
 have RA:=qL ra;have RB:=qL rb;obtain⟨aa,ca,rfl,aH,aA,_⟩:=ra;obtain⟨ab,cb,rfl,aI,aB,_⟩:=rb;unfold maxLen at aA aB;have i0:=zkt aa ab a.length b.length ca cb;have i1:=zku aa ab a.length b.length ca cb;go_enter func157,ntmps157
 go_wp2_with fail
 go_loopg [15] 2 (λg x wr=>∃D,((g=2/\x=.int .i64 0/\wr.ownsMap xt 36 rV w.heap.size 0 D/\PairD C wr w.heap.size D [] (λ_=>[]) (λ_=>[])) \/
  (g=1/\x=.int .i64 1/\wr.ownsMap xt 36 rV w.heap.size a.length D/\PairD C wr w.heap.size D (zM a) (zT a) (λ_=>[])) \/
  (g=0/\x=.int .i64 2/\wr.ownsMap xt 36 rV w.heap.size (a.length+b.length) D/\PairD C wr w.heap.size D (zM a++zM b) (zT a) (zT b)))/\Below w.heap.size w wr)
 case atStart=>exact⟨.map [],.inl ⟨rfl,rfl,TM _ _ _ _,PairD.start _ _ _⟩,(tq _ _).alloc (Zp _) _⟩
 case round=>
  obtain⟨D,aw,hB⟩:=hrel;obtain⟨wo,aF⟩:=xm (wr);subst aF;have Q:=qL hB;clear hB;rcases aw with⟨rfl,rfl,E,N⟩|⟨rfl,rfl,E,N⟩|⟨rfl,rfl,E,N⟩
  .have J:=qL E;have L:=qL N;clear E N
   go_wp2_with fail
   go_loopg [21] a.length (λg x wr=>∃k D,k<=a.length/\g=a.length-k/\x=.int .i64 k/\wr.ownsMap xt 36 rV w.heap.size (0+k) D/\PairD C wr w.heap.size D (zM (a.take k)) (zT (a.take k)) (λ_=>[])/\Below w.heap.size w wr/\w.heap.size<wr.heap.size)
   case atStart=>exact⟨0,D,X4 _,rfl,rfl,J.o,L.o,Q.o,J.o.lt⟩
   case round=>
    obtain⟨k,D',hk,rfl,rfl,u,I,F,aj⟩:=hrel;clear J L Q;by_cases y:k<a.length
    .have J:=qL u;have L:=qL I;have Q:=qL F;obtain⟨a',X,Z,_,_,ac⟩:=RdF.keep U RA.o λj T=>F.block j T;obtain⟨bb,aG,av,_,aC,M⟩:=ac (by intro e;subst e;simp at y);obtain⟨rfl,_,rfl⟩:aa=a'/\a.length=a.length/\ca=X:=(dL Z);subst av;obtain⟨c0,c1,⟨hv,c2,K⟩,S,az⟩:=M k y;have HE:qA (∃e,e=a[k]):=⟨_,rfl⟩;obtain⟨e,he⟩:=HE.o;have hE:zO e/\e.holes.length<=10000:=(by rw[he];exact⟨ha.1.1 _ (Yf y),ha.2.2 _ (Yf y)⟩);have hT:=Vj ha.1 y;have hR:zM (a.take (k+1))=zM (a.take k)++[e.rep]:=(by unfold zM;rw[X3 y,he,WI];rfl);rw[<-he]at c0 c1 K S az hT;have HT:=qL hT;have HR:=qL hR;clear ac M he HE Z u I F hT hR;obtain⟨s0,s1,Y,ae,af⟩:=(L.o.2 e.rep).2;obtain⟨a0,n0,rfl⟩:=zK ae;obtain⟨a1,n1,rfl⟩:=zK af;clear ae af;have HA:=qL Y;have aD:e.holes.length<=maxLen:=(by have:=hE.2;unfold maxLen;omega);obtain⟨ah,ch,rfl⟩:=zK K;have HH:=qL K;clear K;have aE:=Qf (J.o.alloc (.cells #[.int .u64 e.rep,.int .u64 e.max,.slice ah e.holes.length ch] 155)) S HA.o;have ai:=zaa (w:=(wr.alloc (.cells #[.int .u64 e.rep,.int .u64 e.max,.slice ah e.holes.length ch] 155)).alloc (.cells #[.slice a0 (zT (a.take k) e.rep).length n0,.slice a1 ([]:List Iv).length n1] 243)) hE.1 hE.2
      (HH.o.mono (λ_ _ h=>h) λj o x T hx=>(tk (a:=⟨j,o,none⟩) (by have ax:=U j o T;rw[tr _ _ _ b6,tr _ _ _ (by show j<_;omega)])).trans hx) U b6
      (hG.mono (λ_ _ h=>h) λj o x T hx=>(tk (a:=⟨j,o,none⟩) (by have ax:=U j o T;rw[tr _ _ _ b6,tr _ _ _ (by show j<_;omega),Q.o.block j (U j o T)])).trans hx)
     have HK:=qL ai;clear Y ai;have HG:=qL hG;clear hG;have O:True:=trivial;have P:True:=trivial
     go_wp2_with (first
      | (go_at_call 194;have _t:=O;refine HK.o.mono ?_;rintro e' w3 ⟨ad,au,rfl,G,ag⟩
         have am:w3.heap[wr.heap.size]?=some (.cells #[.int .u64 e.rep,.int .u64 e.max,.slice ah e.holes.length ch] 155 (0,0)):=(by rw[G.block _ b6,tr _ _ _ b7];exact tl wr _);have B:w3.heap[wr.heap.size+1]?=some (.cells #[.slice a0 (zT (a.take k) e.rep).length n0,.slice a1 ([]:List Iv).length n1] 243 (0,0)):=by rw[G.block _ b7];have:=tl (wr.alloc (.cells #[.int .u64 e.rep,.int .u64 e.max,.slice ah e.holes.length ch] 155)) (.cells #[.slice a0 (zT (a.take k) e.rep).length n0,.slice a1 ([]:List Iv).length n1] 243);rwa[tu]at this
         have ak:w3.heap[w.heap.size]?=wr.heap[w.heap.size]?:=(by rw[G.block _ b6,tr _ _ _ b6,tr _ _ _ a9]);have f1:=(zW am 0 _ rfl).1;have f2:=(zW B 0 _ rfl).1;have f3:=(zW B 0 _ rfl).2;have f4:=(zW B 1 _ rfl).1;have ar:=qL (((yg J.o ak).setCell (a:=⟨wr.heap.size+1,0,none⟩) (by show w.heap.size≠wr.heap.size+1;omega) (.slice ad (kn e).length au)));have an:=qL G;have ao:=qL ag;clear am B ak G ag O)
      |(at_mapUpdate;have _t:=P;refine wpList_mapUpdate_own _ rfl _ _ _ 238 rfl 36 243 vF underlying238 rV w.heap.size (0+k) D' rfl ar.o (by have:=ha.2.1;unfold maxLen;omega) _ _ (kR e.rep) rfl rfl (Zq S) _ [] rfl ?_;intro w5 H A;clear P;have V:=qL H;have aq:=qL A;clear H A;dsimp only[Act.put])
      |go_in)
     obtain⟨p1,p2,p3⟩:=Qm U L.o HA.o Q.o aj an.o ao.o 0 aq.o;have h5:w.heap.size<w5.heap.size:=V.o.lt;go_roundg (a.length-(k+1));case measure=>omega
     case rel=>exact⟨k+1,_,y,rfl,b7,V.o,by rw[HR.o,HT.o];exact p1,p3,h5⟩
    .have ay:k=a.length:=a9;subst ay;rw[Wk]at I;have J:=qL u;have L:=qL I;have Q:=qL F;clear u I F
     go_wp2_with fail
     go_roundg 1;case measure=>omega
     case rel=>exact⟨D',.inr (.inl ⟨rfl,rfl,by have:=J.o;simpa using this,L.o⟩),Q.o⟩
  .have J:=qL E;have L:=qL N;clear E N
   go_wp2_with fail
   go_loopg [21] b.length (λg x wr=>∃k D,k<=b.length/\g=b.length-k/\x=.int .i64 k/\wr.ownsMap xt 36 rV w.heap.size (a.length+k) D/\PairD C wr w.heap.size D (zM a++zM (b.take k)) (zT a) (zT (b.take k))/\Below w.heap.size w wr/\w.heap.size<wr.heap.size)
   case atStart=>exact⟨0,D,X4 _,rfl,rfl,J.o.mono a9,(by have:=L.o;simpa[zM,zmT]using this),Q.o,J.o.lt⟩
   case round=>
    obtain⟨k,D',hk,rfl,rfl,u,I,F,aj⟩:=hrel;clear J L Q;by_cases y:k<b.length
    .have J:=qL u;have L:=qL I;have Q:=qL F;obtain⟨a',X,Z,_,_,ac⟩:=RdF.keep U RB.o λj T=>F.block j T;obtain⟨bb,aG,av,_,aC,M⟩:=ac (by intro e;subst e;simp at y);obtain⟨rfl,_,rfl⟩:ab=a'/\b.length=b.length/\cb=X:=(dL Z);subst av;obtain⟨c0,c1,⟨hv,c2,K⟩,S,az⟩:=M k y;have HE:qA (∃e,e=b[k]):=⟨_,rfl⟩;obtain⟨e,he⟩:=HE.o;have hE:zO e/\e.holes.length<=10000:=(by rw[he];exact⟨hb.1.1 _ (Yf y),hb.2.2 _ (Yf y)⟩);have hT:=Vj hb.1 y;have hR:zM (b.take (k+1))=zM (b.take k)++[e.rep]:=(by unfold zM;rw[X3 y,he,WI];rfl);rw[<-he]at c0 c1 K S az hT;have HT:=qL hT;have HR:=qL hR;clear ac M he HE Z u I F hT hR;obtain⟨s0,s1,Y,ae,af⟩:=(L.o.2 e.rep).2;obtain⟨a0,n0,rfl⟩:=zK ae;obtain⟨a1,n1,rfl⟩:=zK af;clear ae af;have HA:=qL Y;have aD:e.holes.length<=maxLen:=(by have:=hE.2;unfold maxLen;omega);obtain⟨ah,ch,rfl⟩:=zK K;have HH:=qL K;clear K;have aE:=Qf (J.o.alloc (.cells #[.int .u64 e.rep,.int .u64 e.max,.slice ah e.holes.length ch] 155)) S HA.o;have ai:=zaa (w:=(wr.alloc (.cells #[.int .u64 e.rep,.int .u64 e.max,.slice ah e.holes.length ch] 155)).alloc (.cells #[.slice a0 (zT a e.rep).length n0,.slice a1 (zT (b.take k) e.rep).length n1] 243)) hE.1 hE.2
      (HH.o.mono (λ_ _ h=>h) λj o x T hx=>(tk (a:=⟨j,o,none⟩) (by have ax:=U j o T;rw[tr _ _ _ b6,tr _ _ _ (by show j<_;omega)])).trans hx) U b6
      (hG.mono (λ_ _ h=>h) λj o x T hx=>(tk (a:=⟨j,o,none⟩) (by have ax:=U j o T;rw[tr _ _ _ b6,tr _ _ _ (by show j<_;omega),Q.o.block j (U j o T)])).trans hx)
     have HK:=qL ai;clear Y ai;have HG:=qL hG;clear hG;have O:True:=trivial;have P:True:=trivial
     go_wp2_with (first
      | (go_at_call 194;have _t:=O;refine HK.o.mono ?_;rintro e' w3 ⟨ad,au,rfl,G,ag⟩
         have am:w3.heap[wr.heap.size]?=some (.cells #[.int .u64 e.rep,.int .u64 e.max,.slice ah e.holes.length ch] 155 (0,0)):=(by rw[G.block _ b6,tr _ _ _ b7];exact tl wr _);have B:w3.heap[wr.heap.size+1]?=some (.cells #[.slice a0 (zT a e.rep).length n0,.slice a1 (zT (b.take k) e.rep).length n1] 243 (0,0)):=by rw[G.block _ b7];have:=tl (wr.alloc (.cells #[.int .u64 e.rep,.int .u64 e.max,.slice ah e.holes.length ch] 155)) (.cells #[.slice a0 (zT a e.rep).length n0,.slice a1 (zT (b.take k) e.rep).length n1] 243);rwa[tu]at this
         have ak:w3.heap[w.heap.size]?=wr.heap[w.heap.size]?:=(by rw[G.block _ b6,tr _ _ _ b6,tr _ _ _ a9]);have f1:=(zW am 0 _ rfl).1;have f2:=(zW B 0 _ rfl).1;have f3:=(zW B 1 _ rfl).2;have f4:=(zW B 1 _ rfl).1;have ar:=qL (((yg J.o ak).setCell (a:=⟨wr.heap.size+1,1,none⟩) (by show w.heap.size≠wr.heap.size+1;omega) (.slice ad (kn e).length au)));have an:=qL G;have ao:=qL ag;clear am B ak G ag O)
      |(at_mapUpdate;have _t:=P;refine wpList_mapUpdate_own _ rfl _ _ _ 238 rfl 36 243 vF underlying238 rV w.heap.size (a.length+k) D' rfl ar.o (by have:=hb.2.1;have:=ha.2.1;unfold maxLen;omega) _ _ (kR e.rep) rfl rfl (Zq S) _ [] rfl ?_;intro w5 H A;clear P;have V:=qL H;have aq:=qL A;clear H A;dsimp only[Act.put])
      |go_in)
     obtain⟨p1,p2,p3⟩:=Qm U L.o HA.o Q.o aj an.o ao.o 1 aq.o;have h5:w.heap.size<w5.heap.size:=V.o.lt;go_roundg (b.length-(k+1));case measure=>omega
     case rel=>exact⟨k+1,_,y,rfl,b7,V.o,by rw[HR.o,HT.o];rw[<-wQ];exact p2,p3,h5⟩
    .have ay:k=b.length:=a9;subst ay;rw[Wk]at I;have J:=qL u;have L:=qL I;have Q:=qL F;clear u I F
     go_wp2_with fail
     go_roundg 0;case measure=>omega
     case rel=>exact⟨D',.inr (.inr ⟨rfl,rfl,J.o,L.o⟩),Q.o⟩
  .have J:=qL E;have L:=qL N;clear E N
   go_wp2_with fail
   refine tx (tI rfl _ _ _) rfl ?_;exact⟨rfl,Q.o,D,J.o,L.o⟩
end
section
open Go.Lib
attribute [-go_sem] z7
def uV(r:Nat):Value:=.int .u64 (r:Nat)
def OwnU(base:Nat)(w:World)(v:Value)(l:List Nat):Prop:=w.ownsRow base 36 1 v l.length (l.map uV)
def kF{α:Type}:List α->Nat->List α->List α
 |xs,_,[]=>xs
 |xs,o,v::r=>kF (xs.set o v) (o+1) r
def jt{α:Type}:∀(u j:List α)(o:Nat),o+u.length<=j.length->kF j o u=j.take o++u++j.drop (o+u.length)
 |[],j,o,h=>by simp[kF]
 |v::r,j,o,h=>by simp only[wn]at h;rw[kF,jt r (j.set o v) (o+1) (by rw[Ug];omega)];rw[List.drop_set_of_lt a9,X3 (by rw[Ug];omega),List.take_set_of_le (Zp _),List.getElem_set_self];simp only[wQ,wn,yb,Y1];rw[show o+1+r.length=o+(r.length+1) by omega]
def jW(w:World)(r:Option Nat):w.grownBy w r:=⟨rfl,rfl,rfl,Zp _,λ_ _ _=>rfl⟩
def yn{a b c:World}{r:Option Nat}(h:a.grownBy b r)(k:b.grownBy c r):a.grownBy c r:=
 ⟨k.os.trans h.os,k.tape.trans h.tape,k.output.trans h.output,VS h.size k.size,λi hi hs=>(k.block i (vw hi h.size) hs).trans (h.block i hi hs)⟩
def z9{base:Nat}{e:TypeId}{size g n j:Nat}:∀(y:List Value)(o:Nat)(w:World)(u:List Value),w.ownsRow base e size (.slice (some ⟨g,0,none⟩) n j) n u ->
 (w.setCells g o y).ownsRow base e size (.slice (some ⟨g,0,none⟩) n j) n (kF u o y)/\w.grownBy (w.setCells g o y) (some g)
 |[],_,w,u,h=>⟨h,jW _ _⟩
 |v::r,o,w,u,h=>by obtain⟨A,B⟩:=h.stored o v;obtain⟨C,E⟩:=z9 r (o+1) _ _ A;exact⟨C,yn B E⟩
def Vf:(xt.info? 36).map (λi=>(i.zero,i.size,i.bytes))=some (some (.int .u64 0),1,8):=dM
def QN{l:List Nat}:∀v∈l.map uV,v.oneCell'=true:=λv j=>by obtain⟨r,_,rfl⟩:=wy.1 j;rfl
def OwnU.cases{base:Nat}{w:World}{v:Value}{l:List Nat}(h:OwnU base w v l):(v=.slice none 0 0/\l=[]) \/
 ∃g j o,v=.slice (some ⟨g,0,none⟩) l.length j/\base<=g/\g<w.heap.size/\w.heap[g]?=some (.cells o 36 (0,0))/\l.length<=j/\j<=maxLen/\o.size=j/\o.toList.take l.length=l.map uV:=by
 rcases h.2 with⟨u,y⟩|⟨g,j,o,u,y,A,B,C,F,E⟩
 .exact .inl ⟨u,wV.1 y⟩
 .exact .inr ⟨g,j,o,u,y,(XE.1 A).1,A,B,C,a9,by rwa[Uh]at E⟩
def zc5{j:List Value}{u x:Value}{i:Nat}(hi:i<=j.length):kF (kF (j++[u]) (i+1) (j.drop i)) i [x]=j.take i++x::j.drop i:=by
 rw[jt (j.drop i) _ _ b6];have w:i+1+(j.drop i).length=j.length+1:=b6
 rw[w,show j.length+1=(j++[u]).length by simp,uM,wX];rw[jt [x] _ _ b6];rw[Wo b6,List.take_take,WY a9,Wo hi];have o:((j++[u]).take (i+1)).length=i+1:=b6
 rw[show i+[x].length=i+1 from rfl,Uz,o,UK,Wh,show ((j++[u]).take (i+1)).drop (i+1)=[] from UY a9];simp
def kG{α:Type}(a b c v:List α)(h:b.length=v.length){i:Nat}(hi:i=a.length):kF (a++b++c) i v=a++v++c:=by subst hi;rw[jt _ _ _ b6,wQ a b c,List.take_left' rfl,<-List.drop_drop,List.drop_left' rfl,<-h,List.drop_left' rfl]
def zc4{j:List Value}{u x:Value}{i:Nat}(hi:i<=j.length):kF (kF (j.take i++List.replicate (j.length+1-i) u) i [x]) (i+1) (j.drop i)=j.take i++x::j.drop i:=by
 have o:(j.take i).length=i:=b6
 have e1:=kG (j.take i) [u] (List.replicate (j.length-i) u) [x] rfl o.symm;have e2:=kG (j.take i++[x]) (List.replicate (j.length-i) u) [] (j.drop i) b7 (i:=i+1) b6;rw[show j.length+1-i=(j.length-i)+1 by omega,List.replicate_succ,show j.take i++u::List.replicate (j.length-i) u=j.take i++[u]++List.replicate (j.length-i) u by simp,e1];rw[wX,wX]at e2;rw[e2];simp
def vH{w:World}{A:Nat}{vt:TypeId}{x:Nat}(y:w.heap[A]?=some (.cells #[uV x] vt (0,0))):∀j u,[uV x][j]?=some u->w.cell? ((⟨A,0,none⟩:Addr).add j)=some u:=λj u o=>by
 match j,o with
 |0,o=>cases o;simp[World.cell?,Addr.add,y]
 |j+1,o=>simp at o
def zfr(base J:Nat)(vt:TypeId)(w:World)(v:Value)(l:List Nat)(x:Nat)(j:OwnU base w v l)(N:w.heap[J]?=some (.cells #[uV x] vt (0,0)))(hl:l.length<=1099511627776)(y:base<=w.heap.size):
 Calls xt 196 #[v,.int .i64 (l.length:Nat),.slice (some ⟨J,0,none⟩) 1 1] w λe A=>∃o,e=.returned o/\OwnU base A o (l++[x])/\w.grownBy A v.ownBlock/\(o.ownBlock=v.ownBlock\/o.ownBlock=some w.heap.size):=by
 obtain⟨T,F,G,H,I⟩:=tN Vf;have Q:=vH N;have B:∀u∈[uV x],u.oneCell'=true:=λu S=>by simp at S;subst S;rfl
 have O:=qL j;have fin:∀o A,A.ownsRow base 36 1 o (l.length+1) (l.map uV++[uV x])->OwnU base A o (l++[x]):=λo A h=>by unfold OwnU;simpa using h
 rcases j.cases with⟨rfl,rfl⟩|⟨g,K,U,rfl,V,X,Y,Z,L,ab,M⟩
 .clear j;go_enter func196,ntmps196
  go_wp2_with (at_builtin;refine Tc _ rfl _ _ 147 rfl base 36 T (.int .u64 0) 1 8 underlying147 F G H I rfl b9 _ _ _ rfl O.o ⟨J,0,none⟩ 1 1 [uV x] rfl rfl Q B (by simp[maxLen]) b7 y ?_;intro o A ho E _ C)
  go_ret;exact⟨o,rfl,fin o A ho,E,C⟩
 .unfold maxLen at L;have P:K<=9223372036854775807:=a9;clear j M;go_enter func196,ntmps196
  go_wp2_with (at_builtin;refine Tc _ rfl _ _ 147 rfl base 36 T (.int .u64 0) 1 8 underlying147 F G H I rfl b9 _ _ _ rfl O.o ⟨J,0,none⟩ 1 1 [uV x] rfl rfl Q B dF a9 y ?_;intro o A ho E _ C)
  all_goals (go_ret;exact⟨o,rfl,fin o A ho,E,C⟩)
def zgG(n:Nat):(Builtin.zeroCells (Value.int .u64 0).cells n).toList=List.replicate n (.int .u64 0):=by
 apply List.ext_getElem
 .simp[Builtin.zeroCells,Value.cells]
 .intro i j o;simp[Builtin.zeroCells,Value.cells,Nat.mod_one]
def KX{base:Nat}{w:World}{v:Value}{l:List Nat}{x i:Nat}(hi:i<=l.length)(h:w.ownsRow base 36 1 v (l.length+1) ((l.map uV).take i++uV x::(l.map uV).drop i)):OwnU base w v (l.take i++x::l.drop i):=by unfold OwnU;rw[show (l.take i++x::l.drop i).length=l.length+1 by simp;omega,WI,Wx,List.map_take,List.map_drop];exact h
def zfs(base S:Nat)(vt:TypeId)(w:World)(g o:Nat)(l:List Nat)(x i:Nat)(hi:i<l.length)(E:OwnU base w (.slice (some ⟨g,0,none⟩) l.length o) l)(J:o<l.length+1)(af:w.heap[S]?=some (.cells #[uV x] vt (0,0)))(hl:l.length<=1099511627776)(ab:base<=w.heap.size):
 Calls xt 196 #[.slice (some ⟨g,0,none⟩) l.length o,.int .i64 (i:Nat),.slice (some ⟨S,0,none⟩) 1 1] w λe w'=>∃v',e=.returned v'/\OwnU base w' v' (l.take i++x::l.drop i)/\w.grownBy w' none/\v'.ownBlock=some w.heap.size:=by
 obtain⟨i0,am,aC,hzs,au⟩:=tN Vf;obtain⟨n,hn⟩:=xm (l.length);obtain⟨A,I⟩:=xm (l.map uV);have ac:A.length=n:=by rw[I,hn,wt]
 have Q:∀u∈A,u.oneCell'=true:=by rw[I];exact QN
 have aq:=vH af;have aB:S<w.heap.size:=(XE.1 af).1;have az:g<w.heap.size:=(E.lt g rfl).2;have aL:n<=o:=by
  rcases E.cases with⟨h,_⟩|⟨g',aE,_,h,_,_,_,h4,_⟩
  .cases h
  .cases h;omega
 have hg:∀j v,A[j]?=some v->w.cell? ⟨g,j,none⟩=some v:=λj v F=>by have:=tH E (g:=g) rfl j v (by rw[<-I];exact F);rw[zh,wk]at this;exact this
 rw[<-hn]at hi E J hl⊢;have ao:(n:Int)+1-(i:Int)=((n+1-i:Nat):Int):=a9
 have ad:i+(n+1-i)=n+1:=a9
 have P:(Builtin.firstCells i0.size i (.slice (some ⟨g,0,none⟩) i o)).run xt w.drew=.ok (A.take i).toArray w.drew:=by
  rw[hzs];refine TK w.drew 1 i ⟨g,0,none⟩ i o (A.take i) (by rw[Wb];omega) (λj v F=>?_);rw[wm]at F;split at F
  .have:=hg j v F;rw[zh,wk];exact this
  .cases F
 have ae:∀L,(Builtin.append_ #[147,3] L #[.slice (some ⟨g,0,none⟩) i o,.int .i64 ((n:Int)+1-(i:Int))]).run xt w =
  .ok (.slice (some ⟨w.heap.size,0,none⟩) (n+1) (grownCap w (n+1) o 36)) (w.drew.alloc (.cells ((A.take i).toArray++Builtin.zeroCells (Value.int .u64 0).cells (n+1-i)++Builtin.zeroCells (Value.int .u64 0).cells (grownCap w (n+1) o 36 - (n+1))) 36)):=λL=>by
  have h:=TO w 147 3 L 36 i0 _ .i64 .i64 underlying147 underlying3 am aC (some ⟨g,0,none⟩) i o (A.take i) P (n+1-i) a9 a9 a9 a9 (by rw[au];omega) (by rw[au,ad];exact T0 J a9);rw[ad]at h;rw[ao];exact h
 obtain⟨G,hG⟩:∃G,G=grownCap w (n+1) o 36 := ⟨_,rfl⟩;have ax:n+1<=G:=by rw[hG];exact TH w _ _ _
 have ag:G<=maxLen:=by rw[hG];exact Tz w _ _ _ dF
 obtain⟨R,hR⟩:∃R:Array Value,R=(A.take i).toArray++Builtin.zeroCells (Value.int .u64 0).cells (n+1-i)++Builtin.zeroCells (Value.int .u64 0).cells (G-(n+1)):=⟨_,rfl⟩;rw[<-hG,<-hR]at ae;have aA:(A.take i).length=i:=by rw[Wb];omega
 have Y:R.toList=(A.take i++List.replicate (A.length+1-i) (.int .u64 0))++List.replicate (G-(n+1)) (.int .u64 0):=by rw[hR];simp only[WT,zgG,ac]
 have ay:R.size=G:=by have:R.toList.length=G:=(by rw[Y];simp;omega);simpa using this
 obtain⟨B,C⟩:=xm (w.drew.alloc (.cells R 36));have o1:B.ownsRow base 36 1 (.slice (some ⟨w.heap.size,0,none⟩) (n+1) G) (n+1) (A.take i++List.replicate (A.length+1-i) (.int .u64 0)):=by
  refine⟨b6,.inr ⟨w.heap.size,G,R,rfl,ab,?_,ax,ag,a9,?_⟩⟩
  .rw[C];exact tl w.drew _
  .rw[Y,Wo b6,wj b6]
 obtain⟨o2,V⟩:=z9 [uV x] i _ _ o1;obtain⟨o3,g3⟩:=z9 (A.drop i) (i+1) ((B.setCells w.heap.size i [uV x]).drew) _ o2;rw[zc4 a9]at o3;have U:w.grownBy B none:=by rw[C];exact⟨rfl,rfl,rfl,b7,λk hk _=>tr w.drew _ _ hk⟩
 have N:w.grownBy (((B.setCells w.heap.size i [uV x]).drew).setCells w.heap.size (i+1) (A.drop i)) none:=by refine⟨g3.os.trans (V.os.trans U.os),g3.tape.trans (V.tape.trans U.tape),g3.output.trans (V.output.trans U.output),VS U.size (VS V.size g3.size),λk hk _=>?_⟩;have an:k<B.heap.size:=vw hk U.size;have M:some k≠some w.heap.size:=λe=>(by cases e;omega);rw[g3.block k (vw an V.size) M];show (B.setCells w.heap.size i [uV x]).heap[k]?=_;rw[V.block k an M,U.block k hk b7]
 have OF:=qL (KX (l:=l) (x:=x) (i:=i) a9 (by rw[<-hn,<-I];exact o3));have GA:=qL N;clear o3 N o1 o2;rw[<-C]at ae;have hN:∀j,j<n+1->(B.cell? ⟨w.heap.size,j,none⟩).isSome=true:=λj F=>by rw[C,tV (w:=w.drew) R _ w.heap.size j rfl,Wc a9];rfl
 have X:∀j,B.frozen? ⟨w.heap.size,j,none⟩=false:=λj=>by rw[C];exact TV (w:=w.drew) R _ w.heap.size j rfl
 have ah:∀j v,w.cell? ⟨g,j,none⟩=some v->B.cell? ⟨g,j,none⟩=some v:=λj v h=>by rw[C,Tl (w:=w.drew) _ g j az];exact h
 have ai:∀j v,w.cell? ⟨S,j,none⟩=some v->B.cell? ⟨S,j,none⟩=some v:=λj v h=>by rw[C,Tl (w:=w.drew) _ S j aB];exact h
 have ar:(xt.info? 36).map (·.size)=some 1:=by rw[am];simp[hzs]
 have K:∀u∈[uV x],u.oneCell'=true:=λu hu=>by simp at hu;subst hu;rfl
 have aj:∀(W:World),(∀y,W.cell? y=B.cell? y)->(∀y,W.frozen? y=B.frozen? y)->∀L T,(Builtin.copy_ #[147,147] L #[.slice (some ⟨w.heap.size,i,none⟩) (n+1-i) T,.slice (some ⟨S,0,none⟩) 1 1]).run xt W=.ok (goInt [uV x].length) (W.setCells w.heap.size i [uV x]):=λW H Z L T=>
  TN W _ _ L 36 w.heap.size i (n+1-i) T ⟨S,0,none⟩ 1 1 [uV x] underlying147 ar (by simp only[uW,Uj];split<;>omega)
   (λj v F=>by have:=aq j v F;rw[zh]at this;rw[H,zh];exact ai _ v this)
   (λj F=>by rw[H];simp at F;exact hN _ a9) (λj F=>by rw[Z];exact X _) K
 have ak:(A.drop i).length=n-i:=by rw[W7,ac]
 have M:g≠w.heap.size:=a9
 have O:∀(W:World),(∀y,W.cell? y=(B.setCells w.heap.size i [uV x]).cell? y)->(∀y,W.frozen? y=(B.setCells w.heap.size i [uV x]).frozen? y)->∀L T sc,(Builtin.copy_ #[147,147] L #[.slice (some ⟨w.heap.size,i+1,none⟩) (n-i) T,.slice (some ⟨g,i,none⟩) (n-i) sc]).run xt W=.ok (goInt (A.drop i).length) (W.setCells w.heap.size (i+1) (A.drop i)):=λW H Z L T sc=>
  TN W _ _ L 36 w.heap.size (i+1) (n-i) T ⟨g,i,none⟩ (n-i) sc (A.drop i) underlying147 ar (by rw[ak];simp only[Uj];split<;>omega)
   (λj v F=>by
     rw[H,zh,Tg _ _ _ _ _ (λh _=>absurd h M)];exact ah _ v (hg (i+j) v (by rwa[Wi]at F)))
   (λj F=>by rw[H];exact isSome_setCells _ _ _ _ (λt ht=>hN _ (by simp at ht;omega)) _ (hN _ a9))
   (λj F=>by rw[Z,Tm];exact X _) (λv hv=>Q v (Ws hv))
 have av:∀y,((B.setCells w.heap.size i [uV x]).drew).cell? y=(B.setCells w.heap.size i [uV x]).cell? y:=λy=>rfl;have aw:∀y,((B.setCells w.heap.size i [uV x]).drew).frozen? y=(B.setCells w.heap.size i [uV x]).frozen? y:=λy=>rfl;have aO:¬((i:Int)=(n:Int)):=a9
 have aP:(o:Int)<(n:Int)+1:=a9
 unfold maxLen at ag;have aG:¬(G=i):=a9
 have aF:¬(G=i+1):=a9
 have aJ:¬(o=i):=a9
 have aN:IntKind.i64.wrap ((i:Int)+1)=(i:Int)+1:=by rw[Tv];omega
 have aH:(0:Int)<=(i:Int)+1:=a9
 have aK:i<=n:=a9
 have aM:((i:Int)+1).toNat=i+1:=a9
 have aI:(i:Int)<=(n:Int):=a9
 clear hn ao ad P hG Y hR ay E hg hN X ah ai Q K ac I aq af aA ak U V g3 C;go_enter func196,ntmps196
 go_wp2_with (first
  |(at_builtin;refine Lib.wpList_append_run _ rfl _ _ _ _ rfl _ _ rfl rfl _ _ (ae _) ?_)
  |(at_builtin;refine wpList_copy_runI _ rfl _ _ 147 147 rfl _ _ rfl rfl (aj _ (λ_=>rfl) (λ_=>rfl) _ _) ?_)
  |(at_builtin;refine wpList_copy_runI _ rfl _ _ 147 147 rfl _ _ rfl rfl (O _ (λ_=>rfl) (λ_=>rfl) _ _ _) ?_))
 have aD:xt.follows .mixedOrders=true:=dM
 go_region_law_o (refine step_copy_runI rfl _ _ 147 147 rfl (.slice (some ⟨w.heap.size,i+1,none⟩) (n-i) (G-(i+1))) (.slice (some ⟨g,i,none⟩) (n-i) (o-i)) dK dK (O _ av aw _ (G-(i+1)) (o-i)) ?_)
 go_wp2;refine tx (tI rfl _ _ _) rfl ?_;exact⟨_,rfl,OF.o,GA.o,rfl⟩
def za8(base N:Nat)(vt:TypeId)(w:World)(g o:Nat)(l:List Nat)(x i:Nat)(hi:i<l.length)(E:OwnU base w (.slice (some ⟨g,0,none⟩) l.length o) l)(L:l.length+1<=o)(M:w.heap[N]?=some (.cells #[uV x] vt (0,0)))(ai:N≠g)(hl:l.length<=1099511627776):
 Calls xt 196 #[.slice (some ⟨g,0,none⟩) l.length o,.int .i64 (i:Nat),.slice (some ⟨N,0,none⟩) 1 1] w λe w'=>∃v',e=.returned v'/\OwnU base w' v' (l.take i++x::l.drop i)/\w.grownBy w' (some g)/\v'.ownBlock=some g:=by
 obtain⟨i0,av,aG,hzs,aI⟩:=tN Vf;obtain⟨n,hn⟩:=xm (l.length);obtain⟨F,H⟩:=xm (l.map uV);have ad:F.length=n:=by rw[H,hn,wt]
 have Q:∀u∈F,u.oneCell'=true:=by rw[H];exact QN
 have aj:=vH M;obtain⟨A,ar,J,P,U,Y⟩:∃A,base<=g/\w.heap[g]?=some (.cells A 36 (0,0))/\o<=maxLen/\A.size=o/\A.toList.take l.length=l.map uV:=by
  rcases E.cases with⟨h,_⟩|⟨g',ay,A,h,h1,_,h3,_,h5,h6,h7⟩
  .cases h
  .cases h;exact⟨A,h1,h3,h5,h6,h7⟩
 rw[<-hn,<-H]at Y;rw[<-hn]at hi E L hl⊢;have ah:n<A.toList.length:=b6
 obtain⟨u,hu⟩:=xm (A.toList[n]);have o0:w.drew.ownsRow base 36 1 (.slice (some ⟨g,0,none⟩) (n+1) o) (n+1) (F++[u]):=by refine⟨b6,.inr ⟨g,o,A,rfl,ar,J,L,P,a9,?_⟩⟩;rw[Uh,X3 ah,Y,hu]
 obtain⟨o1,g1⟩:=z9 (F.drop i) (i+1) _ _ o0;obtain⟨o2,g2⟩:=z9 [uV x] i _ _ o1;rw[zc5 a9]at o2;have g0:w.grownBy w.drew (some g):=⟨rfl,rfl,rfl,Zp _,λ_ _ _=>rfl⟩;have OF:=qL (KX (l:=l) (x:=x) (i:=i) a9 (by rw[<-hn,<-H];exact o2));have GA:=qL (yn g0 (yn g1 g2));have B:∀j,j<o->(w.cell? ⟨g,j,none⟩).isSome=true:=λj C=>by simp[World.cell?,J,U,C]
 have X:∀j,w.frozen? ⟨g,j,none⟩=false:=λj=>by simp[World.frozen?,J]
 have hg:∀j v,F[j]?=some v->w.cell? ⟨g,j,none⟩=some v:=λj v C=>by have:=tH E (g:=g) rfl j v (by rw[<-H];exact C);rw[zh,wk]at this;exact this
 have ak:w.shape? N=some (vt,1):=by simp[World.shape?,M]
 have am:w.shape? g=some (36,o):=by simp[World.shape?,J,U]
 have af:w.frozen? ⟨N,0,none⟩=false:=by simp[World.frozen?,M]
 have ag:w.frozen? ⟨N,1,none⟩=false:=by simp[World.frozen?,M]
 have an:(xt.info? 36).map (·.size)=some 1:=by rw[av];simp[hzs]
 have K:∀u∈[uV x],u.oneCell'=true:=λu hu=>by simp at hu;subst hu;rfl
 have aw:∀lb cb,(callFunc 215 #[.slice (some ⟨N,0,none⟩) 1 1,.slice (some ⟨g,i+1,none⟩) lb cb]).run xt w=.ok (.value (.bool false)) w:=λlb cb=>by
  rw[tK func215 dM dM dM (e:=Extern.SlicesOverlaps.overlaps #[147,147] #[4]) dM,
   TW w 147 4 36 underlying147 1 (λw=>dM) ⟨N,0,none⟩ ⟨g,i+1,none⟩ 1 1 lb cb ai vt 36 1 o ak am a9 af ag]
  rfl
 have V:(F.drop i).length=n-i:=by rw[W7,ad]
 have I:∀O T sc,(Builtin.copy_ #[147,147] O #[.slice (some ⟨g,i+1,none⟩) (n-i) T,.slice (some ⟨g,i,none⟩) (n+1-i) sc]).run xt w.drew=.ok (goInt (F.drop i).length) (w.drew.setCells g (i+1) (F.drop i)):=λO T sc=>
  TN w.drew _ _ O 36 g (i+1) (n-i) T ⟨g,i,none⟩ (n+1-i) sc (F.drop i) underlying147 an (by rw[V];simp only[Uj];split<;>omega)
   (λj v C=>by rw[zh];exact hg (i+j) v (by rwa[Wi]at C))
   (λj C=>B _ a9) (λj C=>X _) (λv hv=>Q v (Ws hv))
 obtain⟨W1,G⟩:=xm (w.drew.setCells g (i+1) (F.drop i));have S:∀k,k<o->(W1.cell? ⟨g,k,none⟩).isSome=true:=λk hk=>by rw[G];exact isSome_setCells g (F.drop i) (i+1) w.drew (λj C=>B _ (by rw[V]at C;omega)) k (B k hk)
 have ae:∀(W:World),(∀y,W.cell? y=W1.cell? y)->(∀y,W.frozen? y=W1.frozen? y)->∀O T,(Builtin.copy_ #[147,147] O #[.slice (some ⟨g,i,none⟩) (n+1-i) T,.slice (some ⟨N,0,none⟩) 1 1]).run xt W=.ok (goInt [uV x].length) (W.setCells g i [uV x]):=λW ac aq O T=>
  TN W _ _ O 36 g i (n+1-i) T ⟨N,0,none⟩ 1 1 [uV x] underlying147 an (by simp only[uW,Uj];split<;>omega)
   (λj v C=>by
     rw[ac,G,Tg g _ _ _ _ (λh _=>absurd h (by rw[zh];exact ai))];exact aj j v C)
   (λj C=>by rw[ac];simp at C;exact S _ a9) (λj C=>by rw[aq,G,Tm];exact X _) K
 rw[<-G]at I;have ao:=qL G;have aH:¬((i:Int)=(n:Int)):=a9
 unfold maxLen at P;have aF:IntKind.i64.wrap ((i:Int)+1)=(i:Int)+1:=by rw[Tv];omega
 have az:(0:Int)<=(i:Int)+1:=a9
 have aD:i<=n:=a9
 have aE:((i:Int)+1).toNat=i+1:=a9
 have aA:¬(o=i+1):=a9
 have aB:(i:Int)<=(n:Int)+1:=a9
 have aC:¬(o=i):=a9
 clear hn o0 o1 o2 g0 g1 g2 E B X hg ak am af ag S G V Q K aj ad H M J U Y ah hu;go_enter func196,ntmps196
 have au:=λO=>I O (o-(i+1)) (o-i);have ax:xt.follows .mixedOrders=true:=dM
 go_wp2_with (simp only[aw])
 go_region_law_o (refine step_copy_runI rfl _ _ 147 147 rfl _ _ dK dK (I _ _ _) ?_)
 go_wp2_with (first|(at_builtin;refine wpList_copy_runI _ rfl _ _ 147 147 rfl _ _ rfl rfl (ae _ (λ_=>rfl) (λ_=>rfl) _ _) ?_))
 have ab:=OF.o;have Z:=GA.o;rw[<-ao.o]at ab Z;refine tx (tI rfl _ _ _) rfl ?_;exact⟨_,rfl,ab,Z,rfl⟩
def Y9(base E:Nat)(F:TypeId)(w:World)(v:Value)(l:List Nat)(x i:Nat)(hi:i<=l.length)(j:OwnU base w v l)(C:w.heap[E]?=some (.cells #[uV x] F (0,0)))(K:v.ownBlock≠some E)(J:l.length<=1099511627776)(o:base<=w.heap.size):
 Calls xt 196 #[v,.int .i64 (i:Nat),.slice (some ⟨E,0,none⟩) 1 1] w λe G=>∃u,e=.returned u/\OwnU base G u (l.take i++x::l.drop i)/\w.grownBy G v.ownBlock/\(u.ownBlock=v.ownBlock\/u.ownBlock=some w.heap.size):=by
 by_cases O:i=l.length
 .subst O;rw[Wk,uM];exact zfr base E F w v l x j C J o
 .have B:i<l.length:=a9;rcases j.cases with⟨_,M⟩|⟨g,y,L,rfl,_⟩
  .subst M;simp at B
  .by_cases N:y<l.length+1
   .refine(zfs base E F w g y l x i B j N C J o).mono ?_;rintro e G ⟨u,rfl,H,A,I⟩;exact⟨u,rfl,H,⟨A.os,A.tape,A.output,A.size,λk hk _=>A.block k hk b7⟩,.inr I⟩
   .refine(za8 base E F w g y l x i B j a9 C (λe=>K (by rw[e];rfl)) J).mono ?_;rintro e G ⟨u,rfl,H,A,I⟩;exact⟨u,rfl,H,A,.inl I⟩
end
def DX(C:xT)(j:Nat)(w:World)(v:Value):Nat->Nat->Prop:=λb o=>DL C j w b o/\v.ownBlock≠some b
def OutE(C:xT)(mb base:Nat)(w:World)(v:Value)(j:List En):Prop:=
 ∃o,w.ownsRow base 155 3 v j.length o/\∀i (h:i<j.length),o[i*3]?=some (uV j[i].rep)/\o[i*3+1]?=some (uV j[i].max)/\∃u,o[i*3+2]?=some u/\Dat (DX C mb w v) w u (rg j[i].holes)
def OutE.start(C:xT)(j base:Nat)(w:World):OutE C j base w (.slice none 0 0) []:=⟨[],tR _ _ _ _,λi h=>absurd h b7⟩
def OutE.owns{C:xT}{u base:Nat}{w:World}{v:Value}{j:List En}(h:OutE C u base w v j):∀k,v.ownBlock=some k->base<=k/\k<w.heap.size:=by obtain⟨y,o,_⟩:=h;exact o.lt
def DX.keep{C:xT}{u:Nat}{w w':World}{v:Value}{x:Value}{p:PV}(h:Dat (DX C u w v) w x p)(hs:w.heap.size<=w'.heap.size)(hb:∀k,k<w.heap.size->v.ownBlock≠some k->w'.heap[k]?=w.heap[k]?):Dat (DX C u w' v) w' x p:=
 h.mono (λb o h=>⟨h.1.imp id λh=>⟨h.1,vw h.2 hs⟩,h.2⟩) λb o x h j=>(tk (a:=⟨b,o,none⟩) (hb b (tn w ⟨b,o,none⟩ j) h.2)).trans j
def OutE.keep{C:xT}{B base:Nat}{w w':World}{v:Value}{u:List En}(h:OutE C B base w v u)(hs:w.heap.size<=w'.heap.size)(hb:∀k,k<w.heap.size->w'.heap[k]?=w.heap[k]?):OutE C B base w' v u:=by
 obtain⟨xs,y,E⟩:=h;refine⟨xs,⟨y.1,?_⟩,λi hi=>?_⟩
 .rcases y.2 with h|⟨g,j,o,e,F,A,r⟩
  .exact .inl h
  .exact .inr ⟨g,j,o,e,F,(hb g (XE.1 A).1).trans A,r⟩
 .obtain⟨a,b,G,c,d⟩:=E i hi;exact⟨a,b,G,c,DX.keep d hs λk hk _=>hb k hk⟩
def OutE.push{C:xT}{mb base:Nat}{w G:World}{v F:Value}{j:List En}{e:En}{A:List Value}{y:Value}(K:∀i (h:i<j.length),A[i*3]?=some (uV j[i].rep)/\A[i*3+1]?=some (uV j[i].max)/\∃y,A[i*3+2]?=some y/\Dat (DX C mb w v) w y (rg j[i].holes))
 (J:w.ownsRow base 155 3 v j.length A) (M:Dat (DX C mb w v) w y (rg e.holes)) (L:∀b o,C b o->b<mb) (N:mb<w.heap.size) (ho:G.ownsRow base 155 3 F (j.length+1) (A++[uV e.rep,uV e.max,y])) (H:w.grownBy G v.ownBlock) (u:F.ownBlock=v.ownBlock\/F.ownBlock=some w.heap.size) :
 OutE C mb base G F (j++[e]):=by
 have E:∀{x:Value}{p:PV},Dat (DX C mb w v) w x p->Dat (DX C mb G F) G x p:=λ{x p} h=>
  h.mono (λb o h=>⟨h.1.imp id λh=>⟨h.1,vw h.2 H.size⟩,λe=>by
   rcases u with u|u
   .exact h.2 (u.symm.trans e)
   .rw[u]at e;cases e;rcases h.1 with h|h
    .have:=L _ _ h;omega
    .omega⟩) λb o x h I=>(tk (a:=⟨b,o,none⟩) (H.block b (tn w ⟨b,o,none⟩ I) λe=>h.2 e.symm)).trans I
 have O:=J.1;refine⟨A++[uV e.rep,uV e.max,y],dL ho,λi hi=>?_⟩;simp only[wi,wn,Wp,wk]at hi;by_cases B:i<j.length
 .obtain⟨a,b,y,c,d⟩:=K i B;rw[uw B];refine⟨?_,?_,y,?_,E d⟩
  .rw[V1 a9];exact a
  .rw[V1 a9];exact b
  .rw[V1 a9];exact c
 .obtain rfl:i=j.length:=a9;rw[Wu (Zp _)];simp only[UK,uA];refine⟨?_,?_,y,?_,E M⟩
  .rw[V0 a9,show j.length*3-A.length=0 by omega];rfl
  .rw[V0 a9,show j.length*3+1-A.length=1 by omega];rfl
  .rw[V0 a9,show j.length*3+2-A.length=2 by omega];rfl
def Ki{D:xT}{w:World}{v:Value}{l:List Iv}(h:Dat D w v (rg l)):v.oneCell'=true:=by obtain⟨o,j,rfl⟩:=zK h;rfl
def OutE.dat{C:xT}{H base:Nat}{w:World}{v:Value}{o:List En}(h:OutE C H base w v o)(hb:H<base):Dat (DL C H w) w v (vp o):=by
 obtain⟨K,L,O⟩:=h;rcases L.2 with⟨rfl,N⟩|⟨g,I,M,rfl,X,Q,V,U,hs,ht⟩
 .obtain rfl:=wV.1 N;exact .sl none 0 3 [] .sh 0 0 (λ_=>undef) b7 (λh=>by cases h) b9 (λh=>absurd rfl h) (λi e h=>by simp at h) (λj h=>by simp at h) (λi e j p h=>by simp at h)
 .have J:=(XE.1 Q).1;have F:∀j x,K[j]?=some x->w.cell? ⟨g,j,none⟩=some x:=λj x B=>(by have:=L.cells (g:=g) rfl j x B;rw[zh,wk]at this;exact this);have u:∀i (h:i<o.length) j p,(ec o[i])[j]?=some p->∃x,K[i*3+j]?=some x/\Dat (DL C H w) w x p/\x.oneCell'=true:=λi h j p A=>by
   obtain⟨a,b,Y,c,d⟩:=O i h;match j,A with
   |0,A=>cases A;exact⟨_,a,.v _,rfl⟩
   |1,A=>cases A;exact⟨_,b,.v _,rfl⟩
   |2,A=>cases A;exact⟨_,c,d.mono (λ_ _ h=>h.1) λ_ _ _ _ h=>h,Ki d⟩
   |j+3,A=>simp[ec]at A
  have E:∀(i:Nat)(e:List PV),(o.map ec)[i]?=some e->∃h:i<o.length,e=ec o[i]:=λi e G=>(by rw[wh]at G;obtain⟨x,B,rfl⟩:=ZZ.1 G;obtain⟨h,rfl⟩:=Zw.1 B;exact⟨h,rfl⟩);have y:(o.map ec).length=o.length:=wt _;unfold vp;rw[<-y];refine .sl (some ⟨g,0,none⟩) I 3 (o.map ec) .sh g 0 (λj=>(K[j]?).getD undef) (by rw[y];exact V) (λh=>by cases h) U (λ_=>rfl) (λi e G=>?_) (λj T=>?_) (λi e j p G A=>?_)
  .obtain⟨h,rfl⟩:=E i e G;rfl
  .rw[y]at T;have hi:j/3<o.length:=a9;have P:j%3<(ec o[j/3]).length:=UZ _ b9;obtain⟨x,B,_,ho⟩:=u (j/3) hi (j%3) ((ec o[j/3])[j%3]) (Zv P);rw[show j/3*3+j%3=j by omega]at B;rw[wk];refine⟨.inr ⟨a9,J⟩,?_,?_⟩
   .rw[B];exact F j x B
   .rw[B];exact ho
  .obtain⟨h,rfl⟩:=E i e G;obtain⟨x,B,S,_⟩:=u i h j p A;rw[B];exact S
def us(l:List Nat):PV:=.sl (l.map yN) .sh
attribute [go_sem] us
def zik(x:Nat):Cn xt 214 [.v (.int .u64 x)] (.v (.bool false)):=by refine zt func214 1 ?_;exact pd
def zie(x y:Nat):Cn xt 204 [.v (.int .u64 x),.v (.int .u64 y)] (.v (.bool (decide (x<y)))):=by refine zt func204 2 ?_;refine pw ?_;exact .d (zdn x)
def zaI(l:List Nat)(x i:Nat)(hi:i<=l.length)(C:∀j,(h:j<l.length)->j<i->l[j]<x)(E:∀j,(h:j<l.length)->i<=j->x<=l[j])(F:l.length<=1152921504606846976):
 Cn xt 195 [us l,.v (.int .u64 x)] (.tup [.v (.int .i64 i),.v (.bool (decide (l[i]?=some x)))]):=by
 refine zt func195 2 ?_;refine pw ?_;refine pLoop.go (λp:Nat×Nat=>p.1<=i/\i<=p.2/\p.2<=l.length) (λp=>[(7,.v (.int .i64 (p.1:Nat))),(8,.v (.int .i64 (p.2:Nat)))]) (λ_=>[]) (λp=>p.2-p.1) (0,l.length) [7,8] ?_ ?_ ?_
 .exact⟨X4 _,hi,Zp _⟩
 .exact pd
 .rintro⟨p,q⟩ ⟨y,A,B⟩;simp only at y A B;refine pw ?_;refine .i ?_ ?_<;>intro h<;>first|refine pw ?_|exact pd
  .have w:(p+q)/2<l.length:=a9;refine pw ?_;refine .c (zie l[(p+q)/2] x) ?_;refine .i ?_ ?_<;>intro u<;>first|refine pw ?_|exact pd
   .refine⟨((p+q)/2+1,q),⟨?_,A,B⟩,by simp only;omega,rfl,rfl⟩;simp only;refine Uy λo=>?_;have:=E _ w o;omega
   .refine⟨(p,(p+q)/2),⟨y,?_,by simp only;omega⟩,by simp only;omega,rfl,rfl⟩;simp only;refine ur λo=>?_;have:=C _ w o;omega
  .obtain rfl:p=i:=a9;obtain rfl:q=p:=a9;refine .i ?_ ?_<;>intro u<;>first|refine pw ?_|exact pd
   .rw[show l[q]?=some l[q] from Zv u];refine .i ?_ ?_<;>intro o<;>first|refine pw ?_|exact pd
    .simp[o]
    .refine .c (zik l[q]) ?_;simp[o]
   .rw[show l[q]?=none from WU a9];simp
section
open Go.Maps
attribute [-go_sem] z7
def XY{D:xT}{w:World}{x a b:Value}(h:Dat D w x (.tup [.v a,.v b])):x=.tuple #[a,b]:=by
 cases h with
 | tup vs cs hs h=>
   obtain⟨l⟩:=vs;match l,hs with
   |[p,q],_=>have j:=(h 0 _ rfl).v_inv;have e1:=(h 1 _ rfl).v_inv;simp at j e1;rw[j,e1]
def zhv{D:xT}{w:World}{x:Value}{e:En}(h:Dat D w x (ep e)):∃j o,x=.agg #[.int .u64 e.rep,.int .u64 e.max,.slice j e.holes.length o]/\Dat D w (.slice j e.holes.length o) (rg e.holes):=by
 have y:Dat D w x (.agg [.v (.int .u64 e.rep),.v (.int .u64 e.max),rg e.holes]):=h;cases y with
 | agg vs cs hs _ h=>
   obtain⟨l⟩:=vs;match l,hs with
   |[p,q,r],_=>have u:=(h 0 _ rfl).v_inv;have e1:=(h 1 _ rfl).v_inv;have e2:=h 2 _ rfl;simp at u e1 e2;obtain⟨j,o,rfl⟩:=zK e2;rw[u,e1];exact⟨j,o,rfl,e2⟩
def Yk{D:xT}{w:World}{x:Value}{e:En}{b:Bool}(h:Dat D w x (.tup [ep e,.v (.bool b)])):∃j o,x=.tuple #[.agg #[.int .u64 e.rep,.int .u64 e.max,.slice j e.holes.length o],.bool b]/\Dat D w (.slice j e.holes.length o) (rg e.holes):=by
 cases h with
 | tup vs cs hs h=>
   obtain⟨l⟩:=vs;match l,hs with
   |[p,q],_=>have u:=h 0 _ rfl;have e1:=(h 1 _ rfl).v_inv;simp at u e1;obtain⟨j,o,rfl,y⟩:=zhv u;rw[e1];exact⟨j,o,rfl,y⟩
def jP{f:FuncId}{A:List PV}{r:PV}(h:Cn xt f A r){D:xT}{w:World}{vs:Array Value}(E:GL D w)(C:∀b o,D b o->b<w.heap.size)(y:vs.size=A.length)(u:∀(i:Nat) p,A[i]?=some p->Dat D w (vs.getD i undef) p):
 Calls xt f vs w λe j=>∃v,e=.returned v/\Below w.heap.size w j/\Dat (λb o=>D b o\/(w.heap.size<=b/\b<j.heap.size)) j v r:=by
 refine(h.2 D w vs E C y u).mono ?_;rintro e j ⟨v,H,rfl,hb,_,F,G,u,_⟩;exact⟨v,rfl,hb,u.mono (λb o h=>(F b o h).imp id λB=>⟨B,G b o h⟩) λ_ _ _ _ h=>h⟩
def OwnU.keep{base:Nat}{w w':World}{v:Value}{l:List Nat}(h:OwnU base w v l)(hb:∀g,v.ownBlock=some g->w'.heap[g]?=w.heap[g]?):OwnU base w' v l:=by
 refine⟨h.1,?_⟩;rcases h.2 with h|⟨g,j,o,e,y,u,r⟩
 .exact .inl h
 .exact .inr ⟨g,j,o,e,y,(hb g (by rw[e];rfl)).trans u,r⟩
def OwnU.lt{base:Nat}{w:World}{v:Value}{l:List Nat}(h:OwnU base w v l):∀g,v.ownBlock=some g->base<=g/\g<w.heap.size:=λg j=>World.ownsRow.lt h g j
def KC(x:Nat):∀{l:List Nat},YN l->∃i,i<=l.length/\(∀j,(h:j<l.length)->j<i->l[j]<x)/\(∀j,(h:j<l.length)->i<=j->x<=l[j])
 |[],_=>⟨0,Zp _,λj h=>absurd h b7,λj h=>absurd h b7⟩
 | y::l,h=>by
   have ⟨h1,h2⟩:=V2.1 h;by_cases B:y<x
   .obtain⟨i,hi,C,E⟩:=KC x h2;refine⟨i+1,b6,λj o A=>?_,λj o w=>?_⟩
    .match j with
     |0=>exact B
     |j+1=>exact C j (dL o) a9
    .match j with
     |0=>omega
     |j+1=>exact E j (dL o) a9
   .refine⟨0,X4 _,λj _ o=>a9,λj o _=>?_⟩;match j with
    |0=>simp;omega
    |j+1=>have u:j<l.length:=(dL o);have:=h1 _ (Yf u);simp only[WN];omega
def zmj{C:xT}{base:Nat}{w:World}{v:Value}{l:List Nat}(x i:Nat)(y:OwnU base w v l)(F:∀b o,C b o->b<w.heap.size)(G:GL C w)(hi:i<=l.length)(A:∀j,(h:j<l.length)->j<i->l[j]<x)(B:∀j,(h:j<l.length)->i<=j->x<=l[j])(I:l.length<=1152921504606846976):
 Calls xt 195 #[v,.int .u64 (x:Nat)] w λe E=>(∃b,e=.returned (.tuple #[.int .i64 (i:Nat),.bool b]))/\Below w.heap.size w E:=by
 refine(jP (zaI l x i hi A B I) (D:=λb o=>C b o\/(base<=b/\b<w.heap.size)) (G.mono (λ_ _ h=>.inl h) λ_ _ _ _ h=>h) (λb o h=>h.elim (F b o) W9) rfl (λj p u=>?_)).mono ?_
 .match j,u with
  |0,u=>cases u;exact vL y λb o A B=>.inr ⟨A,B⟩
  |1,u=>cases u;exact .v _
  |j+2,u=>simp at u
 .rintro e E ⟨v,rfl,hb,H⟩;rw[XY H];exact⟨⟨_,rfl⟩,hb⟩
def zaD{C:xT}{base rb:Nat}{w:World}{v:Value}{xs:List Nat}(x:Nat)(y:OwnU base w v (srt xs))(A:Boxed w rb 241 v)(ad:rb<base)(G:x∉xs)(hl:(srt xs).length<=4194304)(V:base<=w.heap.size)(hC:∀b o,C b o->b<w.heap.size)(hG:GL C w):
 Calls xt 158 #[.pointer (some ⟨rb,0,none⟩),.int .u64 (x:Nat)] w λe w'=>(∃u,e=.returned u)/\∃v',Boxed w' rb 241 v'/\OwnU base w' v' (srt (xs++[x]))/\Keep (λk=>k=rb\/base<=k) w w':=by
 obtain⟨i,hi,Y,Z⟩:=KC x (yi xs);have Q:=qL (zmj x i y hC hG hi Y Z a9);have F:srt (xs++[x])=(srt xs).take i++x::(srt xs).drop i:=kJ hi (λk hk X=>by
  have h1:=Z k hk X;have h2:(srt xs)[k]≠x:=λe=>G (qr.1 (e▸Yf hk));omega) (by
  rcases WB i with h0|h0
  .exact .inl h0
  .exact .inr ⟨a9,Y _ a9 a9⟩)
 have HI:=qL F;have L:=qL y;have HX:=qL A;have c0:=A.cell;have N:=A.lt;clear F y A hC hG Y Z G;have H:True:=trivial;have I:True:=trivial;go_enter func158,ntmps158
 go_wp2_with (first
  | (go_at_call 195;have _t:=H;refine Q.o.mono ?_;rintro e P ⟨⟨bb,rfl⟩,J⟩
     have c1:P.cell? ⟨rb,0,none⟩=some v:=(tk (a:=⟨rb,0,none⟩) (J.block rb N)).trans c0;have j:=qL J;clear J H)
  | (go_at_call 196;have _t:=I
     refine(Y9 base P.heap.size _ _ v (srt xs) x i hi (L.o.keep λg O=>by rw[tr _ _ _ (vw (L.o.lt g O).2 j.o.size),j.o.block g (L.o.lt g O).2]) (tl P _) (λe=>by have h8:=(L.o.lt _ e).2;have h9:=j.o.size;omega) a9 (by have:=j.o.size;simp;omega)).mono ?_;rintro e w3 ⟨v',rfl,B,K,_⟩;have E:Boxed w3 rb 241 v:=((show Boxed P rb _ v from (j.o.block rb N).trans HX.o).alloc _).kept K (λe=>by have:=(L.o.lt rb e.symm).1;omega);have c3:=E.cell;have f3:=E.frozen;have U:=qL E;have T:=qL ((((Keep.of_below' (S:=λk=>k=rb\/base<=k) j.o (Zp _)).alloc _).grown K λk hk _=>.inr (L.o.lt k hk).1));rw[<-HI.o]at B;obtain⟨g3,ab,ac,rfl,_⟩:=(show _\/_ from B.cases).resolve_left (λh=>by have:=h.2;rw[HI.o]at this;simp at this);have M:=qL B;clear E K B I)
  |go_in)
 go_end0
 exact⟨⟨_,rfl⟩,_,U.o.set _,M.o.keep λg O=>tv _ _ _ _ (by have:=(M.o.lt g O).1;show g≠rb;omega),T.o.setCell (λ_=>.inl rfl) _⟩
def jL{n:Nat}{A B C:World}{S:Nat->Prop}(h:Below n A B)(hk:Keep S B C)(hs:∀k,k<n->¬S k)(o:n<=A.heap.size):Below n A C:=
 ⟨hk.os.trans h.os,hk.tape.trans h.tape,hk.output.trans h.output,VS h.size hk.size,λk j=>(hk.block k (by have:=h.size;omega) (hs k j)).trans (h.block k j)⟩
def yD{w y:World}{b r n YV:Nat}{D:DV}{left:Lit->Bool}(h:w.ranges xt 36 rV b r n D left YV)(hb:y.heap[b]?=w.heap[b]?)(H:y.heap[r]?=w.heap[r]?):y.ranges xt 36 rV b r n D left YV:=by obtain⟨B,j,o,u,A,C,F,hs,G,E,rest⟩:=h;exact⟨B,j,o,u,A,hb.trans C,F,hs,G,H.trans E,rest⟩
def zhV:∀(j:Value)(kl:Lit),keyOf xt 36 j=some kl->∃x:{r:Nat // r<zk},j=Value.int .u64 (x.1:Nat):=λj kl h=>by obtain⟨x,rfl,_,o⟩:=Maps.keyOf_int_inv underlying36 h;simp[Lit.wf,IntKind.min,IntKind.max,IntKind.signed,IntKind.bits]at o;refine⟨⟨x.toNat,by rw[zw];omega⟩,?_⟩;rw[td a9]
def QM{left:Lit->Bool}{r x:Nat}:(left (kR r) && !(kR r).sameKey (kR x))=false↔left (kR r)=false\/r=x:=by
 have h:(kR r).sameKey (kR x)=decide (r=x):=by simp[kR,Lit.sameKey];omega
 rw[h];cases left (kR r)<;>simp
def zeK:∀(r j:List Nat),YN r->(∀y∈r,y∈j)->r.length<=j.length:=by
 intro r;induction r with
 |nil=>intro j _ _;exact X4 _
 | cons x r ih=>
   intro j h u;have o:=V2.1 h;have:=ih (j.erase x) o.2 λy A=>by have B:=o.1 y A;exact(WW a9).2 (u y (by simp[A]))
   have w:x∈j:=u x b7;rw[WF w]at this;have:=uj w;simp;omega
def zkr(j y:Option Addr)(u B o A:Nat)(w:World):(Instr.index 243 (.agg #[.slice j u o,.slice y B A]) (.int .i64 0)).run xt w=.ok (.slice j u o) w:=dM
def zks(y j:Option Addr)(B u A o:Nat)(w:World):(Instr.index 243 (.agg #[.slice y B A,.slice j u o]) (.int .i64 1)).run xt w=.ok (.slice j u o) w:=dM
def zkk:(xt.info? 155).map (λi=>(i.zero,i.size,i.bytes))=some (some (.agg #[.int .u64 0,.int .u64 0,.slice none 0 0]),3,40):=dM
def OwnU.shape{base:Nat}{w:World}{v:Value}{l:List Nat}(h:OwnU base w v l):∃u o,v=.slice u l.length o/\l.length<=o/\o<=maxLen/\(l≠[]->∃g,u=some ⟨g,0,none⟩/\g<w.heap.size/\∀j (y:j<l.length),w.cell? ⟨g,j,none⟩=some (.int .u64 (l[j]:Nat))):=by
 rcases h.cases with⟨rfl,rfl⟩|⟨g,o,A,rfl,F,B,G,C,E,H,I⟩
 .exact⟨none,0,rfl,Zp _,X4 _,λh=>absurd rfl h⟩
 .refine⟨_,o,rfl,C,E,λ_=>⟨g,rfl,B,λj y=>?_⟩⟩;have:=tH h (g:=g) rfl j (uV l[j]) (by rw[wh,Zv y];rfl);rw[zh,wk]at this;exact this
def zac{f:Q3}{a b:List En}{r:Nat}{e:En}{ok:Bool}(h:Qi r (qy f (zT a r) (zT b r))=(e,ok)):vE f a b r=if ok=true then some e else none:=by unfold vE Xd;rw[h]
def KZ{f:Q3}{a b:List En}{L:List Nat}{k:Nat}(hk:k<L.length):(L.take (k+1)).filterMap (vE f a b)=(L.take k).filterMap (vE f a b)++(vE f a b L[k]).toList:=by
 rw[X3 hk,U4,uJ,UP];cases vE f a b L[k]<;>rfl
def Ja{P:Program}{f:FuncId}{t:Tmp}{xs:List Operand}{c:Call}{o:Oper}{a:Act}{w:World}{K:Act->World->Prop}{Q:Exit->Act->World->Prop}(ho:o.op=.call c)(A:c.callee=.value (.tmp t))(E:a.eval (.tmp t)=.func (.func f) #[] #[])(y:c.args.toList=xs)
 (B:∀j w,(callFunc f j).run P w=.ok (.enter f j) w)
 (h:Calls P f (xs.map a.eval).toArray w λe u=>match e with|.returned v=>K (a.put o.dst v) u|.panicked chain=>Q (.panic chain) a u|.outgrown=>LetsOut Q):o.wp P a w K Q:=by
 have C:(execOp a.eval o).run P w=.ok (.enter f (xs.map a.eval).toArray) w:=by have e:c.args.map a.eval=(xs.map a.eval).toArray:=WD.1 (by rw[WS,y]);simp only[execOp,ho,resolve,A,e,E,Deferred.ofValue,tC,tG,tw,invoke];rw[show (#[]++(xs.map a.eval).toArray++#[]:Array Value)=(xs.map a.eval).toArray from by simp];exact B _ _
 unfold Oper.wp;rw[C,t9];exact h.mono (λe F h=>by cases e<;>exact h)
def Zi{P:Program}{w:World}{o:Oper}{a:Act}{K:Act->World->Prop}{Q:Exit->Act->World->Prop}(s x:Operand)(t:TypeId)
 (ho:o.op=.call { callee:=.builtin .append,args:=#[s,x],argTypes:=#[t,t] })
 (base:Nat) (e:TypeId) (i:TypeInfo) (z:Value) (size A:Nat) (ht:P.underlying t=some (.slice e)) (hi:P.info? e=some i) (hz:i.zero=some z)
 (F:i.size=size) (M:i.bytes=A) (hzs:z.cells.size=size) (N:0<size)
 (v:Value) (n:Nat) (O:List Value) (hs:a.eval s=v) (H:w.ownsRow base e size v n O)
 (J:Addr) (m c:Nat) (y:List Value) (hx:a.eval x=.slice (some J) m c) (Y:y.length=m*size) (E:∀j u,y[j]?=some u->w.cell? (J.add j)=some u) (S:∀u∈y,u.oneCell'=true)
 (L:n+m<=maxLen) (B:(n+m)*A<=140737488355328) (C:base<=w.heap.size)
 (h:∀G I,I.ownsRow base e size G (n+m) (O++y)->w.grownBy I v.ownBlock->(G=.slice none 0 0↔v=.slice none 0 0/\m=0)->(G.ownBlock=v.ownBlock\/G.ownBlock=some w.heap.size)->K (a.put o.dst G) I) :
 o.wp P a w K Q:=by
 obtain⟨G,I,Z,T,U,V,X⟩:=Te (P:=P) w base t o.type e i z size A ht hi hz F M hzs N v n O H J m c y Y E S L B C;unfold Oper.wp execOp;simp only[ho,resolve,invoke,builtin,tC,tG,tw,uh,Wx,W6,hs,hx,Z];exact h G I T U V X
def zcD(C:xT)(a b:List En)(va vb:Value)(w:World)(f:Q3)(op:FuncId)(aT:∀r,Cn xt op [rg (zT a r),rg (zT b r)] (rg (qy f (zT a r) (zT b r))))
 (ha:SmV a) (hb:SmV b) (ra:RdF C w.heap.size w va a) (rb:RdF C w.heap.size w vb b) (hC:∀b o,C b o->b<w.heap.size) (hG:GL C w) :
 Calls xt 113 #[va,vb,.func (.func op) #[] #[]] w λe w'=>∃v,e=.returned v/\Below w.heap.size w w'/\Dat (DL C w.heap.size w') w' v (vp (ks f a b)):=by
 have ch:=qL (J4 C a b va vb w ha hb ra rb hC hG);have bX:=qL hG;have aw:=(aT 0).1;have cg:=qL aT;have HM:=qL (Xr ha.1 hb.1);obtain⟨I,K⟩:=xm (zM a++zM b);have cr:I.length<=2097152:=by have h1:=ha.2.1;have h2:=hb.2.1;rw[K];simp[zM];omega
 have ax:ks f a b=(srt I).filterMap (vE f a b):=by rw[K];rfl
 rw[<-K]at HM;have bh:=qL ax;have cH:=qL K;clear hG ra rb aT ax;have aA:True:=trivial;have aB:True:=trivial;go_enter func113,ntmps113
 go_wp2_with (first
  | (go_at_call 157;have _t:=aA;refine ch.o.mono ?_;rintro e J ⟨rfl,bt,D,A,ab⟩
     rw[<-K]at ab;have cW:w.heap.size<J.heap.size:=A.lt;have cc:=qL A;have bi:=qL ab;have bR:=qL bt;clear A ab bt aA)
  |(at_range;have _t:=aB;refine TG _ rfl _ 238 rfl 36 243 vF underlying238 rV w.heap.size (a.length+b.length) D rfl (cc.o.alloc _) ?_;intro w2 ak Q cC;clear aB)
  |go_in)
 go_frame
 simp only[tu]at ak cC⊢;clear K;have cP:=qL Q;have au:Boxed w2 J.heap.size 241 (.slice none 0 0):=(tQ J _ _).kept Q b7;have bc:qA (∀k,k<J.heap.size->w2.heap[k]?=J.heap[k]?):=qL λk hk=>(Q.block k b6 b7).trans (tr _ _ _ hk);have bS:=qL (jL bR.o (S:=λ_=>False) ⟨Q.os,Q.tape,Q.output,VS b7 Q.size,λk hk _=>bc.o k hk⟩ (λ_ _ h=>h) (Zp _));clear Q;go_loopg [9] (Maps.size D) (λg x wr=>∃left xs v,wr.ranges xt 36 rV w.heap.size (J.heap.size+1) (a.length+b.length) D left g/\(∀r,r∈xs↔r∈I/\left (kR r)=false)/\(∀r,left (kR r)=true->r∈I) /\
  OwnU (J.heap.size+2) wr v (srt xs)/\Boxed wr J.heap.size 241 v/\Keep (λk=>J.heap.size<=k) w2 wr)
 case atStart=>
  have ab:=bi.o;refine⟨Maps.has D,[],.slice none 0 0,ak,λr=>?_,λr h=>?_,?_,au,Keep.refl _ _⟩
  .rw[(ab.2 r).1];simp
  .rw[(ab.2 r).1]at h;simpa using h
  .rw[XB];exact tR _ _ _ _
 case round=>
  obtain⟨left,xs,v,bM,aV,bF,A,bw,hK⟩:=hrel;obtain⟨wl,cE⟩:∃x,x=wr:=⟨_,rfl⟩;subst cE;have bj:=qL bM;have ao:=qL aV;have aF:=qL bF;have af:=qL A;have aD:=qL bw;have bZ:=qL hK;have bN:(srt xs).length<=2097152:=VS (zeK _ I (yi xs) λy hy=>((aV y).1 (qr.1 hy)).1) cr;have cJ:w2.heap.size<=wl.heap.size:=hK.size;have cb:qA (∀k,k<J.heap.size->wl.heap[k]?=J.heap[k]?):=qL λk hk=>(hK.block k a9 a9).trans (bc.o k hk);have aW:=qL (jL bS.o hK (λk hk=>a9) (Zp _));have aZ:qA (GL C wl):=qL (bX.o.mono (λ_ _ h=>h) λj o x B V=>(tk (a:=⟨j,o,none⟩) (aW.o.block j (hC j o B))).trans V);clear ak au bM aV bF A bw hK
  go_wp2_with (first
   |(at_next;refine TB _ rfl _ rfl 36 vF rV (λr:{r:Nat // r<zk}=>Value.int .u64 (r.1:Nat)) (λc:Value=>c) zhV (λv y _=>⟨v,rfl⟩) w.heap.size (J.heap.size+1) (a.length+b.length) D left gk rfl bj.o ?_ ?_)
   |go_in)
  ·intro cS bE;have hL:srt xs=srt I:=XA (yi I) λy=>(by rw[qr,ao.o y,bE];simp);have Y:=af.o;rw[hL]at Y bN;have c0:=aD.o.cell;have A:=bj.o.owns;have HO:=qL A;clear A bE hL af ao aF;obtain⟨L,aJ⟩:=xm (srt I);rw[<-aJ]at Y bN;obtain⟨ad,cR,rfl,cI,cq,bz⟩:=Y.shape;unfold maxLen at cq;have bU:=qL bz;have bg:=qL aJ;clear bz aJ Y
   go_wp2_with fail
   go_loopg [10,29] L.length (λg y x wr=>∃k,k<=L.length/\g=L.length-k/\x=.int .i64 k/\OutE C w.heap.size wl.heap.size wr y ((L.take k).filterMap (vE f a b))/\Keep (λk=>wl.heap.size<=k) wl wr)
   case atStart=>exact⟨0,X4 _,rfl,rfl,OutE.start _ _ _ _,Keep.refl _ _⟩
   case round=>
    obtain⟨k,hk,rfl,rfl,ay,br⟩:=hrel;have ac:=qL br;have F:=qL ay;clear br ay;have cK:=ac.o.size;have am:qA (∀j,j<wl.heap.size->wr.heap[j]?=wl.heap[j]?):=qL λj B=>ac.o.block j B a9;have bT:=qL (jL aW.o ac.o (λk hk=>a9) (Zp _));by_cases M:k<L.length
    .obtain⟨g,cn,ct,Z⟩:=bU.o (λe=>by rw[e]at M;simp at M);subst cn;obtain⟨r,hr⟩:=xm (L[k]);have cB:r<zk:=HM.o r (by rw[hr,<-bg.o];exact Yf M);have ck:wr.cell? ⟨g,k,none⟩=some (.int .u64 (r:Nat)):=(by rw[hr];exact(tk (a:=⟨g,k,none⟩) (am.o g ct)).trans (Z k M));obtain⟨s0,s1,aq,aL,aM⟩:=(bi.o.2 r).2;obtain⟨a0,n0,rfl⟩:=zK aL;obtain⟨a1,n1,rfl⟩:=zK aM;have aQ:=Qf (yg HO.o (am.o _ a9)) cB aq;have aR:∀j o x,DL C w.heap.size J j o->J.cell? ⟨j,o,none⟩=some x->wr.cell? ⟨j,o,none⟩=some x:=λj o x B V=>(by have bB:=tn J ⟨j,o,none⟩ V;exact(tk (a:=⟨j,o,none⟩) ((am.o j (vw bB a9)).trans (cb.o j bB))).trans V);have aN:∀j o,DL C w.heap.size J j o->DX C w.heap.size wr u10 j o:=λj o B=>⟨B.imp id λh=>⟨h.1,a9⟩,λe=>by
      have h5:=(F.o.owns j e).1;rcases B with B|B
      .have:=hC j o B;omega
      .omega⟩
     have ag:∀j o,DX C w.heap.size wr u10 j o->j<wr.heap.size:=λj o h=>h.1.elim (λh=>by have:=hC j o h;omega) W9;have aI:GL (DX C w.heap.size wr u10) wr:=aZ.o.mono (λj o h=>⟨.inl h,λe=>by have h5:=(F.o.owns j e).1;have:=hC j o h;omega⟩) λj o x B V=>(tk (a:=⟨j,o,none⟩) (am.o j (by have:=hC j o B;omega))).trans V;have an:=qL ag;have ba:=qL aI;have ae:=qL (jP (cg.o r) aI ag (vs:=#[.slice a0 (zT a r).length n0,.slice a1 (zT b r).length n1]) rfl (λi p H=>by
      match i,H with
      |0,H=>cases H;exact aL.mono aN aR
      |1,H=>cases H;exact aM.mono aN aR
      |i+2,H=>simp at H))
     have bJ:Nrm (qy f (zT a r) (zT b r)):=qH (qi ha.1 r) (qi hb.1 r);have cA:(qy f (zT a r) (zT b r)).length<=80100:=(by have h1:=xR f (zT a r) (zT b r);have h2:=ji (n:=1048576) (h:=10000) ha r;have h3:=ji (n:=1048576) (h:=10000) hb r;omega);have aS:=zjT r (qy f (zT a r) (zT b r)) bJ a9;obtain⟨e,ok,hE⟩:∃e ok,Qi r (qy f (zT a r) (zT b r))=(e,ok):=⟨_,_,rfl⟩;rw[hE]at aS;have aG:=qL aS;have bG:=zac (f:=f) (a:=a) (b:=b) hE;have aU:=KZ (f:=f) (a:=a) (b:=b) M;rw[<-hr,bG]at aU;have bn:=qL aU;have cV:e.holes.length<=1000000:=(by have:=J0 r (qy f (zT a r) (zT b r));rw[hE]at this;simp only at this;omega);have cy:(zT a r).length<=maxLen:=(by have:=ji (n:=1048576) (h:=10000) ha r;unfold maxLen;omega);have cz:(zT b r).length<=maxLen:=(by have:=ji (n:=1048576) (h:=10000) hb r;unfold maxLen;omega);unfold maxLen at cy cz;have i0:=zkr a0 a1 (zT a r).length (zT b r).length n0 n1;have i1:=zks a0 a1 (zT a r).length (zT b r).length n0 n1;obtain⟨ls,bH⟩:=xm (qy f (zT a r) (zT b r));rw[<-bH]at aG ae cA;clear aS hE bG aU aq aL aM aR aN Z ag aI bJ hr bH;have cL:True:=trivial;have cM:True:=trivial;have cN:True:=trivial;cases ok with
     | false=>
       go_wp2_with fail
       refine Ja (t:=35) (f:=op) (xs:=[.tmp 39,.tmp 43]) rfl rfl rfl rfl aw ?_;refine ae.o.mono ?_;rintro e' w3 ⟨v3,rfl,G,U⟩;obtain⟨a3,n3,rfl⟩:=zK U;have E:=qL G;have aE:=qL U;clear G U;dsimp only
       go_wp2_with fail
       refine(jP aG.o (D:=λj o=>DX C w.heap.size wr u10 j o\/(wr.heap.size<=j/\j<w3.heap.size)) (ba.o.mono (λ_ _ h=>.inl h) λj o x B V=>(tk (a:=⟨j,o,none⟩) (E.o.block j (an.o j o B))).trans V) (λj o h=>h.elim (λh=>vw (an.o j o h) E.o.size) W9) rfl (λi p H=>?_)).mono ?_
       .match i,H with
        |0,H=>cases H;exact .v _
        |1,H=>cases H;exact aE.o
        |i+2,H=>simp at H
       rintro e' X ⟨v4,rfl,ah,ai⟩;obtain⟨N,O,rfl,P⟩:=Yk ai;have T:=qL ah;have aY:=qL P;clear ah ai P;dsimp only
       go_wp2_with fail
       go_roundg (L.length-(k+1));case measure=>omega
       case rel=>
        have cj:=E.o.size;have cm:=T.o.size;refine⟨k+1,M,rfl,b7,?_,ac.o.trans (((Keep.of_below' E.o (Zp _)).trans (Keep.of_below' T.o (Zp _))).alloc _)⟩;rw[bn.o];simp only[uD,UV,Option.toList_none,wX];exact F.o.keep b6 λj B=>by rw[tr _ _ _ a9,T.o.block j a9,E.o.block j B]
     | true=>
       go_wp2_with fail
       refine Ja (t:=35) (f:=op) (xs:=[.tmp 39,.tmp 43]) rfl rfl rfl rfl aw ?_;refine ae.o.mono ?_;rintro e' w3 ⟨v3,rfl,G,U⟩;obtain⟨a3,n3,rfl⟩:=zK U;have E:=qL G;have aE:=qL U;clear G U;dsimp only
       go_wp2_with fail
       refine(jP aG.o (D:=λj o=>DX C w.heap.size wr u10 j o\/(wr.heap.size<=j/\j<w3.heap.size)) (ba.o.mono (λ_ _ h=>.inl h) λj o x B V=>(tk (a:=⟨j,o,none⟩) (E.o.block j (an.o j o B))).trans V) (λj o h=>h.elim (λh=>vw (an.o j o h) E.o.size) W9) rfl (λi p H=>?_)).mono ?_
       .match i,H with
        |0,H=>cases H;exact .v _
        |1,H=>cases H;exact aE.o
        |i+2,H=>simp at H
       rintro e' X ⟨v4,rfl,ah,ai⟩;obtain⟨N,O,rfl,P⟩:=Yk ai;have T:=qL ah;have aY:=qL P;clear ah ai P;dsimp only
       go_wp2_with fail
       have bO:((X.alloc (.cells #[.int .u64 e.rep,.int .u64 e.max,.slice N e.holes.length O] 155)).alloc (.cells #[.int .u64 e.rep,.int .u64 e.max,.slice N e.holes.length O] 155)).heap.size=X.heap.size+2:=b7;have cj:=E.o.size;have cm:=T.o.size;have aK:∀j,j<wr.heap.size->((X.alloc (.cells #[.int .u64 e.rep,.int .u64 e.max,.slice N e.holes.length O] 155)).alloc (.cells #[.int .u64 e.rep,.int .u64 e.max,.slice N e.holes.length O] 155)).heap[j]?=wr.heap[j]?:=λj B=>(by rw[tr _ _ _ b6,tr _ _ _ a9,T.o.block j a9,E.o.block j B]);obtain⟨cG,aH,bq⟩:=F.o.keep a9 aK;have bI:((X.alloc (.cells #[.int .u64 e.rep,.int .u64 e.max,.slice N e.holes.length O] 155)).alloc (.cells #[.int .u64 e.rep,.int .u64 e.max,.slice N e.holes.length O] 155)).heap[X.heap.size+1]?=some (.cells #[.int .u64 e.rep,.int .u64 e.max,.slice N e.holes.length O] 155 (0,0)):=by
        have:=tl (X.alloc (.cells #[.int .u64 e.rep,.int .u64 e.max,.slice N e.holes.length O] 155)) (.cells #[.int .u64 e.rep,.int .u64 e.max,.slice N e.holes.length O] 155)
        rwa[tu]at this
       have bA:Dat (DX C w.heap.size ((X.alloc (.cells #[.int .u64 e.rep,.int .u64 e.max,.slice N e.holes.length O] 155)).alloc (.cells #[.int .u64 e.rep,.int .u64 e.max,.slice N e.holes.length O] 155)) u10) ((X.alloc (.cells #[.int .u64 e.rep,.int .u64 e.max,.slice N e.holes.length O] 155)).alloc (.cells #[.int .u64 e.rep,.int .u64 e.max,.slice N e.holes.length O] 155)) (.slice N e.holes.length O) (rg e.holes):=by
        refine aY.o.mono (λj o h=>?_) λj o x h V=>?_
        .have bP:wr.heap.size<=j->j<X.heap.size->DX C w.heap.size ((X.alloc (.cells #[.int .u64 e.rep,.int .u64 e.max,.slice N e.holes.length O] 155)).alloc (.cells #[.int .u64 e.rep,.int .u64 e.max,.slice N e.holes.length O] 155)) u10 j o:=λh1 h2=>⟨.inr ⟨a9,a9⟩,λh=>by have:=(F.o.owns j h).2;omega⟩;rcases h with(h|h)|h
         .exact⟨h.1.imp id λh=>⟨h.1,a9⟩,h.2⟩
         .exact bP h.1 a9
         .exact bP a9 h.2
        .have bC:=tn X ⟨j,o,none⟩ V;exact(tk (a:=⟨j,o,none⟩) (by rw[tr _ _ _ (by simp;exact uk bC),tr _ _ _ bC])).trans V
       have cU:((L.take k).filterMap (vE f a b)).length<=k:=VS (Ue _ _) b6;obtain⟨ie,cu,cF,cD,co⟩:=tN zkk;refine Zi _ _ 48 rfl wl.heap.size 155 ie _ 3 40 underlying48 cu cF cD co rfl b9 _ _ cG rfl aH ⟨X.heap.size+1,0,none⟩ 1 1 [.int .u64 e.rep,.int .u64 e.max,.slice N e.holes.length O] rfl rfl (λj u B=>by
        rw[zh,wk];exact(zW bI j u (dL B)).1) (λu hu=>by simp at hu;rcases hu with rfl|rfl|rfl<;>rfl) dF a9 a9 ?_
       intro v6 w6 bL aP _ ar;have ci:=qL (OutE.push (mb:=w.heap.size) bq aH bA hC a9 bL aP ar);have bW:=qL aP;have cO:=qL aK;have cQ:=qL bO;have cf:=qL (λj (h:u10.ownBlock=some j)=>(F.o.owns j h).1);clear bL aP ar aH bq bA bI aK bO
       go_wp2_with fail
       go_roundg (L.length-(k+1));case measure=>omega
       case rel=>refine⟨k+1,M,rfl,b7,?_,ac.o.trans ((((((Keep.of_below' E.o (Zp _)).trans (Keep.of_below' T.o (Zp _))).alloc _).alloc _).grown bW.o λj B _=>cf.o j B))⟩;rw[bn.o];simp only[UJ,Option.toList_some];exact ci.o
    .obtain rfl:k=L.length:=a9
     go_wp2_with fail
     refine tx (tI rfl _ _ _) rfl ?_;have h:=F.o.dat a9;rw[Wk,bg.o,<-bh.o]at h;exact⟨_,rfl,bT.o,h⟩
  .intro x V c kl y ys w3 bp aj aQ hv aq az M aO cX cs;try dsimp only at aj cs⊢
   obtain rfl:kl=kR x:=(by have:=(Zq V).symm.trans aj;simpa using this.symm);have bl:=qL az;have bY:=qL ((bZ.o.grown aO (λk hk _=>by cases hk;omega)));have G:∀k,k≠J.heap.size+1->k<wl.heap.size->w3.heap[k]?=wl.heap[k]?:=λk hk cx=>aO.block k cx (λe=>hk (by cases e;rfl));have E:=qL G;have bu:=aD.o.lt;have bQ:=qL (zaD (C:=C) (base:=J.heap.size+2) (rb:=J.heap.size) (w:=w3) (v:=v) (xs:=xs) x (af.o.keep λg hg=>G g (by have:=(af.o.lt g hg).1;omega) (af.o.lt g hg).2) ((G _ a9 bu).trans aD.o) a9 (λh=>by have:=((ao.o x).1 h).2;rw[aQ]at this;cases this) a9 a9
    (λb o h=>by have:=hC b o h;omega) (aZ.o.mono (λ_ _ h=>h) λj o y B hy=>(tk (a:=⟨j,o,none⟩) (G j (by have:=hC j o B;omega) (by have:=hC j o B;omega))).trans hy))
   clear aj hv aq az aO G;have aC:True:=trivial
   go_wp2_with (first
    |(go_at_call 158;have _t:=aC;refine bQ.o.mono ?_;rintro e X ⟨⟨u,rfl⟩,v',av,bK,bD⟩;have aX:=qL av;have ce:=qL bK;have be:=qL bD;clear av bK bD aC)
    |go_in)
   go_roundg bp;case measure=>exact M
   case rel=>
    have hm:∀k,k<w3.heap.size->k≠J.heap.size->k<J.heap.size+2->X.heap[k]?=w3.heap[k]?:=λk hk h1 h2=>be.o.block k hk a9;refine⟨_,xs++[x],v',yD bl.o (hm _ a9 a9 a9) (hm _ a9 a9 a9),λr=>?_,λr h=>?_,ce.o,aX.o,bY.o.trans (be.o.mono λk _ h=>a9)⟩
    .rw[QM,wA,ao.o r,wD];constructor
     .rintro(⟨h1,h2⟩|rfl)
      .exact⟨h1,.inl h2⟩
      .exact⟨aF.o _ aQ,.inr rfl⟩
     .rintro⟨h1,h2|h2⟩
      .exact .inl ⟨h1,h2⟩
      .exact .inr h2
    .exact aF.o r (by cases h0:left (kR r)with|true=>rfl|false=>rw[h0]at h;simp at h)
def yZ{f:FuncId}{C:List PV}{r:PV}(H:r.own=none)(u:∀j w,(callFunc f j).run xt w=.ok (.enter f j) w)
 (h:∀(D:xT)(w:World)(y:Array Value),GL D w->(∀b o,D b o->b<w.heap.size)->y.size=C.length->(∀(i:Nat) p,C[i]?=some p->Dat D w (y.getD i undef) p) ->
   Calls xt f y w λe A=>∃v,e=.returned v/\Below w.heap.size w A/\Dat (λb o=>D b o\/(w.heap.size<=b/\b<A.heap.size)) A v r):Cn xt f C r:=by
 refine⟨u,λD w y F E B G=>(h D w y F E B G).mono ?_⟩;rintro e A ⟨v,rfl,hb,I⟩;exact⟨v,_,rfl,hb,λb o h=>.inl h,λb o h=>h.imp id UO,λb o h=>h.elim (λh=>vw (E b o h) hb.size) W9,I,zr H⟩
def zjx{j:Array Value}(h:j.size=3):j=#[j.getD 0 undef,j.getD 1 undef,j.getD 2 undef]:=by
 obtain⟨l⟩:=j;match l,h with
 |[x,y,z],_=>rfl
def zcA{D:xT}{w:World}{x:Value}{f:Fn}(h:Dat D w x (.fn f [] [])):x=.func f #[] #[]:=by
 cases h with
 |fn f va vb fs cs h1 h2 _ _=>rw[Uq.1 h1,Uq.1 h2]
def SmV.bd{v:List En}(h:SmV v):∀e∈v,ZL e:=λe j=>Jg (h.1.1 e j)
def zde(a b:List En)(f:Q3)(op:FuncId)(A:∀r,Cn xt op [rg (zT a r),rg (zT b r)] (rg (qy f (zT a r) (zT b r))))(C:SmV a)(hb:SmV b):
 Cn xt 113 [vp a,vp b,.fn (.func op) [] []] (vp (ks f a b)):=by
 refine yZ rfl (enters_of func113 dM rfl) λD w F E u B j=>?_;rw[zjx B,zcA (j 2 _ rfl)];refine(zcD D a b _ _ w f op A C hb (dat_rdf (j 0 _ rfl) u C.bd) (dat_rdf (j 1 _ rfl) u hb.bd) u E).mono ?_;rintro e G ⟨v,rfl,y,j⟩;exact⟨v,rfl,y,j.mono (λb o h=>h.imp id λh=>⟨a9,h.2⟩) λ_ _ _ _ h=>h⟩
def qS{v:List En}(h:SmV v)(r:Nat):Nrm (zT v r)/\(zT v r).length<=20003:=⟨qi h.1 r,ji (n:=1048576) (h:=10000) h r⟩
def zdc(a b:List En)(j:SmV a)(hb:SmV b):Cn xt 72 [vp a,vp b] (vp (ks zn a b)):=by
 have h:=zde a b zn 87 (λr=>zaz _ _ (qS j r).1 (qS hb r).1 (by have:=(qS j r).2;have:=(qS hb r).2;omega)) j hb;refine zt func72 2 ?_;refine pw ?_
 (first|exact .d (h)|exact .q (h))
end
end Go.Proofs.YtjdjjlkifdimkaaGreatDoor
