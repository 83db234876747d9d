import Derived.Maps.OwnSet
import Derived.WideKeyEntry
import Derived.Deep.RegionWith
import Derived.Test.YtjdjjlkifdimkaaGreatDoorB22
set_option maxHeartbeats 16000000
set_option linter.all false
set_option maxRecDepth 100000
namespace Go.Proofs.YtjdjjlkifdimkaaGreatDoor
def Tx:=@Go.heap_alloc2_new
def Ty:=@Go.heap_alloc2_old
def TL:=@Go.MapKept.run_getObj_map
def TM:=@Go.MapKept.run_setObj_map
open Go.RowKit
open Go.Proofs.Tryz
open Go.Proofs.Tryz renaming prog->xT
section
attribute [-go_sem] z7
def RwE(base:Nat)(w:World)(u:Value)(v:List En)(X:Nat->En->Value->Prop):Prop:=
 ∃j,w.ownsRow base 155 3 u v.length j/\∀i (h:i<v.length),j[i*3]?=some (uV v[i].rep)/\j[i*3+1]?=some (uV v[i].max)/\∃o,j[i*3+2]?=some o/\X i v[i] o
def RwE.imp{base:Nat}{w:World}{u:Value}{v:List En}{X Y:Nat->En->Value->Prop}(h:RwE base w u v X)(hi:∀i e o,i<v.length->X i e o->Y i e o):RwE base w u v Y:=by obtain⟨B,y,A⟩:=h;refine⟨B,y,λi j=>?_⟩;obtain⟨a,b,o,c,d⟩:=A i j;exact⟨a,b,o,c,hi i _ o j d⟩
def RwE.shape{base:Nat}{w:World}{u:Value}{v:List En}{X:Nat->En->Value->Prop}(h:RwE base w u v X):∃A j,u=.slice A v.length j/\v.length<=j/\j<=maxLen/\(v≠[]->∃g o,A=some ⟨g,0,none⟩/\base<=g/\g<w.heap.size/\w.heap[g]?=some (.cells o 155 (0,0))/\0<j):=by
 obtain⟨I,E,_⟩:=h;rcases E.2 with⟨rfl,C⟩|⟨g,j,o,rfl,F,B,H,G,_,_⟩
 .have:v=[]:=Wc.1 C;subst this;exact⟨none,0,rfl,Zp _,dE,λh=>absurd rfl h⟩
 .refine⟨_,j,rfl,H,G,λy=>⟨g,o,rfl,F,(Y1.1 B).1,B,?_⟩⟩;have:=Wb.2 y;omega
def RwE.at{base g n u:Nat}{w:World}{v:List En}{X:Nat->En->Value->Prop}(h:RwE base w (.slice (some ⟨g,0,none⟩) n u) v X)(L:0<u){i:Nat}(hi:i<v.length):
 w.cell? ⟨g,i*3,none⟩=some (uV v[i].rep)/\w.frozen? ⟨g,i*3,none⟩=false/\w.cell? ⟨g,i*3+1,none⟩=some (uV v[i].max)/\w.frozen? ⟨g,i*3+1,none⟩=false/\∃A,w.cell? ⟨g,i*3+2,none⟩=some A/\w.frozen? ⟨g,i*3+2,none⟩=false/\X i v[i] A:=by
 obtain⟨J,E,G⟩:=h;obtain⟨a,b,A,c,d⟩:=G i hi;have B:∀o,w.frozen? ⟨g,o,none⟩=false:=by
  rcases E.2 with⟨e,_⟩|⟨K,C,F,e,_,H,_⟩
  .cases e
  .cases e;intro o;simp[World.frozen?,H]
 have y:∀j x,J[j]?=some x->w.cell? ⟨g,j,none⟩=some x:=λj x I=>by have:=tQ E (g:=g) (by cases u with|zero=>omega|succ c=>rfl) j x I;rw[zh,wy]at this;exact this
 exact⟨y _ _ a,B _,y _ _ b,B _,A,y _ _ c,B _,d⟩
def RwE.set{base g u j:Nat}{w:World}{v:List En}{X:Nat->En->Value->Prop}{o:Value}(h:RwE base w (.slice (some ⟨g,0,none⟩) v.length u) v X){Y:Nat->En->Value->Prop}(G:∀i (h:i<v.length) A,i≠j->X i v[i] A->Y i v[i] A)(J:j<v.length)(C:Y j v[j] o):
 RwE base (w.setCell ⟨g,j*3+2,none⟩ o) (.slice (some ⟨g,0,none⟩) v.length u) v Y:=by
 obtain⟨I,E,F⟩:=h;obtain⟨H,_⟩:=E.stored (j*3+2) o;refine⟨I.set (j*3+2) o,H,λi hi=>?_⟩;obtain⟨a,b,A,c,d⟩:=F i hi;refine⟨by rw[wZ b6];exact a,by rw[wZ b6];exact b,?_⟩;by_cases y:i=j
 .subst y;have B:=(ZZ.1 c).1;exact⟨o,by rw[WS B],C⟩
 .exact⟨A,by rw[wZ b6];exact c,G i hi A y d⟩
def RwE.keep{base:Nat}{w w':World}{u:Value}{v:List En}{X:Nat->En->Value->Prop}(h:RwE base w u v X)(hb:∀k,k<w.heap.size->w'.heap[k]?=w.heap[k]?):RwE base w' u v X:=by
 obtain⟨xs,y,B⟩:=h;refine⟨xs,⟨y.1,?_⟩,B⟩;rcases y.2 with h|⟨g,j,o,e,C,A,r⟩
 .exact .inl h
 .exact .inr ⟨g,j,o,e,C,(hb g (Y1.1 A).1).trans A,r⟩
def RwE.dat{D:Qk}{base:Nat}{w:World}{u:Value}{v:List En}{X:Nat->En->Value->Prop}(h:RwE base w u v X)(M:∀i e K,X i e K->Dat D w K (rg e.holes))(T:∀b o,base<=b->b<w.heap.size->D b o):Dat D w u (vp v):=by
 obtain⟨N,E,rfl,Q,L,S⟩:=h.shape;have B:(v.map ec).length=v.length:=wB _;unfold vp;by_cases G:v=[]
 .subst G;exact .sl N E 3 [] .sh 0 0 (λ_=>undef) (vj _) (λh=>by cases h) L (λh=>absurd rfl h) (λi e h=>by simp at h) (λj h=>by simp at h) (λi e j p h=>by simp at h)
 obtain⟨g,O,rfl,V,J,_,P⟩:=S G;have A:∀i (hi:i<v.length) j p,(ec v[i])[j]?=some p->∃x,w.cell? ⟨g,i*3+j,none⟩=some x/\Dat D w x p/\x.oneCell'=true:=λi hi j p C=>by
  obtain⟨a,_,b,_,K,c,_,d⟩:=h.at P hi;match j,C with
  |0,C=>cases C;exact⟨_,a,.v _,rfl⟩
  |1,C=>cases C;exact⟨_,b,.v _,rfl⟩
  |2,C=>cases C;exact⟨_,c,M _ _ _ d,Ki (M _ _ _ d)⟩
  |j+3,C=>simp[ec]at C
 rw[<-B];refine .sl (some ⟨g,0,none⟩) E 3 (v.map ec) .sh g 0 (λj=>(w.cell? ⟨g,j,none⟩).getD undef) (by rw[B];exact Q) (λh=>by cases h) L (λ_=>rfl) (λi e F=>?_) (λj Y=>?_) (λi e j p F C=>?_)
 .rw[wn]at F;obtain⟨x,_,rfl⟩:=Z3.1 F;rfl
 .rw[B]at Y;have hi:j/3<v.length:=b6;have I:j%3<(ec v[j/3]).length:=U8 _ dE;obtain⟨x,H,_,ho⟩:=A (j/3) hi (j%3) ((ec v[j/3])[j%3]) (Zv I);rw[show j/3*3+j%3=j by omega]at H;simp only[wy,H,WX];exact⟨T _ _ V J,trivial,ho⟩
 .rw[wn]at F;obtain⟨x,H,rfl⟩:=Z3.1 F;obtain⟨hi,rfl⟩:=ZZ.1 H;obtain⟨y,Z,U,_⟩:=A i hi j p C;simp only[Z,WX];exact U
def zq3{D:Qk}{w:World}{x:Value}(v:List En)(d:Dat D w x (vp v))(hD:∀b o,D b o->b<w.heap.size)(hb:∀e∈v,ZL e)(hl:v.length<=1073741824)(hh:∀e∈v,e.holes.length<=1073741824):
 Calls xT 65 #[x] w λe w'=>∃u,e=.returned u/\Below w.heap.size w w'/\RwE w.heap.size w' u v (λ_ e E=>OwnR w.heap.size w' E e.holes):=by
 have S:=znV (es:=v.map ec) d (λe T=>by obtain⟨x,_,rfl⟩:=wG.1 T;rfl) (by rw[wB];exact hl);have X:=qL S;have O:=qL hD;have HB:=qL hb;have HH:=qL hh;clear S d hD hb hh;go_enter func65,ntmps65
 go_upto_region 2 with(go_at_call 106;refine X.o.mono ?_;rintro e w1 ⟨u,xs,rfl,J,L,F⟩)
 have y:RwE w.heap.size w1 u v (λ_ e E=>Dat D w E (rg e.holes)):=by refine⟨xs,by rw[wB]at L;exact L,λi hi=>?_⟩;have T:(v.map ec)[i]?=some (ec v[i]):=(by rw[wn,Zv hi];rfl);obtain⟨x0,a0,d0⟩:=F i _ 0 _ T rfl;obtain⟨x1,a1,d1⟩:=F i _ 1 _ T rfl;obtain⟨x2,a2,d2⟩:=F i _ 2 _ T rfl;have e0:=(Rel.dat (ρ:=λ_=>0) (nb:=0) d0).v_inv;have e1:=(Rel.dat (ρ:=λ_=>0) (nb:=0) d1).v_inv;rw[e0]at a0;rw[e1]at a1;exact⟨a0,a1,x2,a2,d2⟩
 obtain⟨ad,ac,rfl,ah,ae,G⟩:=y.shape;unfold maxLen at ae;have ab:=qL y;have V:=qL J;have P:=qL G;have ai:=J.size;clear y L F J G
 go_wp2_with fail
 go_loopg [9] v.length (λgh x wr=>∃j,j<=v.length/\gh=v.length-j/\x=.int .i64 j/\RwE w.heap.size wr (.slice ad v.length ac) v (λi e E=>(i<j->OwnR w1.heap.size wr E e.holes)/\(j<=i->Dat D w E (rg e.holes)))/\Below w.heap.size w wr/\w1.heap.size<=wr.heap.size)
 case atStart=>exact⟨0,vj _,rfl,rfl,ab.o.imp λi e E _ h=>⟨λh0=>absurd h0 (Un _),λ_=>h⟩,V.o,Zp _⟩
 case round=>
  obtain⟨j,hj,rfl,rfl,y,Q,ag⟩:=hrel;have HR:=qL y;have I:=qL Q;by_cases C:j<v.length
  .obtain⟨g,aj,rfl,hg,ak,_,h0⟩:=P.o (by intro e;subst e;simp at C);obtain⟨_,_,_,_,E,ch,fh,_,B⟩:=y.at h0 C;have B:=B (Zp _);have K:=X3 C;obtain⟨av,cv,rfl⟩:=zK B;have U:∀W,Below w.heap.size w W->RdR 0 W.heap.size W (.slice av v[j].holes.length cv) v[j].holes:=λW hW=>je (B.mono (λ_ _ h=>h) λb o x h N=>(tw (a:=⟨b,o,none⟩) (hW.block b (O.o b o h))).trans N) (λb o h=>Vq (O.o b o h) hW.size) (HB.o _ K).1;have Z:=qL U;have am:=HH.o _ K;clear y Q B U K
   go_wp2_with fail
   refine(zeX (Z.o _ I.o) b6).mono ?_;rintro e w3 ⟨u3,rfl,M,A⟩;obtain⟨au,cu,rfl⟩:=M.val;have c3:=(tw (a:=⟨g,j*3+2,none⟩) (A.block g b6)).trans ch;have f3:w3.frozen? ⟨g,j*3+2,none⟩=false:=(by have e:=A.block g b6;simp only[World.frozen?,e]at fh⊢;exact fh);have Y:=qL M;have H:=qL A;have ao:=A.size;clear M A ch fh;dsimp only
   go_wp2_with fail
   go_roundg (v.length-(j+1));case measure=>omega
   case rel=>
    refine⟨j+1,C,rfl,b8,(HR.o.keep λk hk=>H.o.block k hk).set (λi hi E an N=>⟨λaf=>?_,λaf=>N.2 b6⟩) C ⟨λ_=>?_,λh=>b6⟩,?_,b7⟩
    .exact((N.1 b6).below H.o (Zp _)).keep ((Keep.refl (λk=>k=g) w3).setCell (λ_=>rfl) _) λk hk e=>b6
    .exact(Y.o.mono ag).keep ((Keep.refl (λk=>k=g) w3).setCell (λ_=>rfl) _) λk hk e=>b6
    .exact Tb (I.o.trans (H.o.mono b6)) (by show w.heap.size<=g;omega) _
  .obtain rfl:j=v.length:=b6
   go_wp2_with fail
   refine tI (tR rfl _ _ _) rfl ?_;exact⟨_,rfl,I.o,HR.o.imp λi e E hi N=>(N.1 hi).mono b6⟩
def zrs(j:Addr)(n c:Nat)(w:World):(binOp .eql 41 (.slice (some j) n c) (.slice none 0 0)).run xT w=.ok (.bool false) w:=dN
def zrr(n c:Nat)(w:World):(binOp .eql 41 (.slice none n c) (.slice none 0 0)).run xT w=.ok (.bool true) w:=dN
def zry{D:Qk}{w:World}{x:Value}{es:List (List PV)}(d:Dat D w x (.sl es .sh))(hs:∀e∈es,e.length=2)(hl:es.length<=1073741824):
 Calls xT 63 #[x] w λe P=>∃u F,e=.returned u/\Below w.heap.size w P/\P.ownsRow w.heap.size 50 2 u es.length F/\∀(i:Nat)(e:List PV)(j:Nat)(p:PV),es[i]?=some e->e[j]?=some p->∃v,F[i*2+j]?=some v/\Dat D w v p:=by
 obtain⟨I,y,F,rfl,_,_,M,N,J,K⟩:=dat_row d hs;obtain⟨i0,A,B,C,E⟩:=tV Z9;cases I with
 | none=>
   obtain⟨Q,rfl⟩:es.length=0/\F=[]:=by
    rcases J with h|⟨b,G,e,_⟩
    .exact h
    .cases e
   have hq:=zrr es.length y;have L:=qL K;have T:=qL Q;clear M N J K d hl A B C E Q;go_enter func63,ntmps63
   go_wp2;go_ret;refine⟨_,[],rfl,tB _ _,?_,L.o⟩;rw[T.o];exact tX _ _ _ _
 | some I=>
   have hq:=zrs I es.length y;have o:∀(j:Nat)(u:Value),F[j]?=some u->(w.alloc (.cells #[] 50)).cell? (I.add j)=some u:=λj u O=>by
    rcases J with⟨_,e⟩|⟨b,G,e,h⟩
    .rw[e]at O;simp at O
    .cases e;have S:=(h j u O).2;rw[zh];exact(tw (a:=⟨b,G+j,none⟩) (tC _ _ _ (tz w _ S))).trans S
   have Y:=qL (tx w (.cells #[] 50 (0,0)));have X:=qL o;have U:=qL M;have V:=qL N;have L:=qL K;have H:=qL (And.intro A (And.intro B (And.intro C E)));clear M N J K d o A B C E;go_enter func63,ntmps63
   go_wp2_with (at_builtin;refine zq6 _ _ 41 50 rfl rfl i0 _ 2 48 underlying41 H.o.1 H.o.2.1 H.o.2.2.1 H.o.2.2.2 rfl dE dE w.heap.size _ 0 [] rfl (zrH (Zp _) Y.o) _ es.length y F rfl U.o (.inr ⟨_,rfl,X.o⟩) V.o b6 b8 ?_;intro v' P ho Z hv)
   go_ret;rw[wy]at ho;refine⟨v',F,rfl,?_,ho,L.o⟩;exact(((tB _ w).alloc (Zp _) _).grown Z b8 λj hj=>by cases hj;exact Zp _)
def VO(base:Nat)(w:World)(u:Value)(v:List En):Prop:=RwE base w u v (λ_ e j=>OwnR base w j e.holes)
def VO.keep{base:Nat}{S:Nat->Prop}{w w':World}{u:Value}{v:List En}(h:VO base w u v)(hk:Keep S w w')(o:∀g,base<=g->¬S g):VO base w' u v:=by obtain⟨xs,j,y⟩:=h;refine⟨xs,hk.ownsRow j λg A=>o g ((j.lt g A).1),λi hi=>?_⟩;obtain⟨a,b,B,c,d⟩:=y i hi;exact⟨a,b,B,c,d.keep hk o⟩
def VO.mono{base j:Nat}{w:World}{u:Value}{v:List En}(h:VO base w u v)(hb:j<=base):VO j w u v:=by
 obtain⟨G,B,C⟩:=h;refine⟨G,⟨B.1,?_⟩,λi hi=>?_⟩
 .rcases B.2 with F|⟨g,o,y,A,E,r⟩
  .exact .inl F
  .exact .inr ⟨g,o,y,A,V3 hb E,r⟩
 .obtain⟨a,b,A,c,d⟩:=C i hi;exact⟨a,b,A,c,d.mono hb⟩
def VO.shape{base:Nat}{w:World}{u:Value}{v:List En}(h:VO base w u v):∃a c,u=.slice a v.length c:=by obtain⟨a,c,e,_⟩:=RwE.shape h;exact⟨a,c,e⟩
def RwF(base:Nat)(w:World)(u:Value)(k:List Fg)(X:Nat->Fg->Value->Value->Prop):Prop:=
 ∃j,w.ownsRow base 50 2 u k.length j/\∀i (h:i<k.length),∃o hb,j[i*2]?=some o/\j[i*2+1]?=some hb/\X i k[i] o hb
def RwF.imp{base:Nat}{w:World}{u:Value}{k:List Fg}{X Y:Nat->Fg->Value->Value->Prop}(h:RwF base w u k X)(hi:∀i f a b,i<k.length->X i f a b->Y i f a b):RwF base w u k Y:=by obtain⟨A,o,y⟩:=h;refine⟨A,o,λi j=>?_⟩;obtain⟨a,b,c,d,e⟩:=y i j;exact⟨a,b,c,d,hi i _ a b j e⟩
def RwF.shape{base:Nat}{w:World}{u:Value}{k:List Fg}{X:Nat->Fg->Value->Value->Prop}(h:RwF base w u k X):∃A j,u=.slice A k.length j/\k.length<=j/\j<=maxLen/\(k≠[]->∃g o,A=some ⟨g,0,none⟩/\base<=g/\g<w.heap.size/\w.heap[g]?=some (.cells o 50 (0,0))/\0<j):=by
 obtain⟨I,E,_⟩:=h;rcases E.2 with⟨rfl,C⟩|⟨g,j,o,rfl,F,B,H,G,_,_⟩
 .have:k=[]:=Wc.1 C;subst this;exact⟨none,0,rfl,Zp _,dE,λh=>absurd rfl h⟩
 .refine⟨_,j,rfl,H,G,λy=>⟨g,o,rfl,F,(Y1.1 B).1,B,?_⟩⟩;have:=Wb.2 y;omega
def RwF.at{base g n u:Nat}{w:World}{k:List Fg}{X:Nat->Fg->Value->Value->Prop}(h:RwF base w (.slice (some ⟨g,0,none⟩) n u) k X)(L:0<u){i:Nat}(hi:i<k.length):
 ∃C hb,w.cell? ⟨g,i*2,none⟩=some C/\w.frozen? ⟨g,i*2,none⟩=false/\w.cell? ⟨g,i*2+1,none⟩=some hb/\w.frozen? ⟨g,i*2+1,none⟩=false/\X i k[i] C hb:=by
 obtain⟨J,B,G⟩:=h;obtain⟨a,b,c,d,e⟩:=G i hi;have E:∀o,w.frozen? ⟨g,o,none⟩=false:=by
  rcases B.2 with⟨e,_⟩|⟨K,A,F,e,_,H,_⟩
  .cases e
  .cases e;intro o;simp[World.frozen?,H]
 have y:∀j x,J[j]?=some x->w.cell? ⟨g,j,none⟩=some x:=λj x I=>by have:=tQ B (g:=g) (by cases u with|zero=>omega|succ c=>rfl) j x I;rw[zh,wy]at this;exact this
 exact⟨a,b,y _ _ c,E _,y _ _ d,E _,e⟩
def RwF.set{base g o j:Nat}{w:World}{k:List Fg}{X:Nat->Fg->Value->Value->Prop}{y A:Value}(h:RwF base w (.slice (some ⟨g,0,none⟩) k.length o) k X){Y:Nat->Fg->Value->Value->Prop}(F:∀i (h:i<k.length) a b,i≠j->X i k[i] a b->Y i k[i] a b)(K:j<k.length)(B:Y j k[j] y A):
 RwF base ((w.setCell ⟨g,j*2,none⟩ y).setCell ⟨g,j*2+1,none⟩ A) (.slice (some ⟨g,0,none⟩) k.length o) k Y:=by
 obtain⟨L,C,E⟩:=h;obtain⟨I,_⟩:=C.stored (j*2) y;obtain⟨J,_⟩:=I.stored (j*2+1) A;refine⟨_,J,λi hi=>?_⟩;obtain⟨a,b,c,d,e⟩:=E i hi;by_cases u:i=j
 .subst u;have G:=(ZZ.1 c).1;have H:=(ZZ.1 d).1;exact⟨y,A,by rw[wZ b6,WS G],by rw[WS (dM H)],B⟩
 .exact⟨a,b,by rw[wZ b6,wZ b6];exact c,by rw[wZ b6,wZ b6];exact d,F i hi a b u e⟩
def RwF.keep{base:Nat}{w w':World}{u:Value}{k:List Fg}{X:Nat->Fg->Value->Value->Prop}(h:RwF base w u k X)(hb:∀k,k<w.heap.size->w'.heap[k]?=w.heap[k]?):RwF base w' u k X:=by
 obtain⟨xs,y,B⟩:=h;refine⟨xs,⟨y.1,?_⟩,B⟩;rcases y.2 with h|⟨g,j,o,e,C,A,r⟩
 .exact .inl h
 .exact .inr ⟨g,j,o,e,C,(hb g (Y1.1 A).1).trans A,r⟩
def KO(base:Nat)(w:World)(u:Value)(k:List Fg):Prop:=RwF base w u k (λ_ f a b=>OwnR base w a f.items/\VO base w b f.vec)
def KO.dat{D:Qk}{base:Nat}{w:World}{u:Value}{k:List Fg}(h:KO base w u k)(K:∀b o,base<=b->b<w.heap.size->D b o):Dat D w u (kp k):=by
 obtain⟨O,H,rfl,F,E,S⟩:=RwF.shape h;have B:(k.map fc).length=k.length:=wB _;unfold kp;by_cases J:k=[]
 .subst J;exact .sl O H 2 [] .sh 0 0 (λ_=>undef) (vj _) (λh=>by cases h) E (λh=>absurd rfl h) (λi e h=>by simp at h) (λj h=>by simp at h) (λi e j p h=>by simp at h)
 obtain⟨g,P,rfl,T,N,_,Q⟩:=S J;have A:∀i (hi:i<k.length) j p,(fc k[i])[j]?=some p->∃x,w.cell? ⟨g,i*2+j,none⟩=some x/\Dat D w x p/\x.oneCell'=true:=λi hi j p C=>by
  obtain⟨Z,hb,a,_,b,_,c,d⟩:=RwF.at h Q hi;match j,C with
  |0,C=>cases C;have G:=jp (D:=D) c.rd λb o F E=>K b o F E;exact⟨_,a,G,Ki G⟩
  |1,C=>cases C;have G:=RwE.dat (D:=D) d (λi e hv h=>jp h.rd λb o F E=>K b o F E) λb o F E=>K b o F E;obtain⟨X,Y,e⟩:=d.shape;exact⟨_,b,G,by rw[e];rfl⟩
  |j+2,C=>simp[fc]at C
 rw[<-B];refine .sl (some ⟨g,0,none⟩) H 2 (k.map fc) .sh g 0 (λj=>(w.cell? ⟨g,j,none⟩).getD undef) (by rw[B];exact F) (λh=>by cases h) E (λ_=>rfl) (λi e I=>?_) (λj U=>?_) (λi e j p I C=>?_)
 .rw[wn]at I;obtain⟨x,_,rfl⟩:=Z3.1 I;rfl
 .rw[B]at U;have hi:j/2<k.length:=b6;have M:j%2<(fc k[j/2]).length:=U8 _ dE;obtain⟨x,L,_,ho⟩:=A (j/2) hi (j%2) ((fc k[j/2])[j%2]) (Zv M);rw[show j/2*2+j%2=j by omega]at L;simp only[wy,L,WX];exact⟨K _ _ T N,trivial,ho⟩
 .rw[wn]at I;obtain⟨x,L,rfl⟩:=Z3.1 I;obtain⟨hi,rfl⟩:=ZZ.1 L;obtain⟨y,V,G,_⟩:=A i hi j p C;simp only[wy,V,WX];exact G
def zss{D:Qk}{w:World}{x:Value}{v:List En}(h:Dat D w x (vp v)):∃a c,x=.slice a v.length c:=by obtain⟨⟨a,n,c⟩,rfl,e⟩:=kH h;simp only[wB]at e;subst e;exact⟨a,c,rfl⟩
def zrM{D:Qk}{w:World}{x:Value}(k:List Fg)(d:Dat D w x (kp k))(hD:∀b o,D b o->b<w.heap.size)(hb:∀f∈k,(∀s∈f.items,s.lo<zk/\s.hi<zk)/\∀e∈f.vec,ZL e)(hl:k.length<=1000000)(hz:∀f∈k,f.items.length<=1000000/\f.vec.length<=1000000/\∀e∈f.vec,e.holes.length<=1000000):
 Calls xT 28 #[x] w λe w'=>∃u,e=.returned u/\Below w.heap.size w w'/\KO w.heap.size w' u k:=by
 have aA:=zry (es:=k.map fc) d (λe he=>by obtain⟨x,_,rfl⟩:=wG.1 he;rfl) (by rw[wB];omega);obtain⟨aa,ca,fs,rfl,aQ,C,aB⟩:=kX d hD;have aN:=C.1;have az:=C.2.1;unfold maxLen at az;rw[aQ]at aN;have aH:=qL aA;have ar:=qL C;have aI:=qL aB;have aq:=qL hD;have HB:=qL hb;have HZ:=qL hz;have aR:xT.follows .mixedOrders=true:=dN
 clear aA d hD hb hz C aB;go_enter func28,ntmps28
 go_upto_region 2 with(go_at_call 63;refine aH.o.mono ?_;rintro e w1 ⟨u,xs,rfl,ag,ak,am⟩)
 have G:RwF w.heap.size w1 u k (λ_ _ _ _=>True):=by refine⟨xs,by rw[wB]at ak;exact ak,λi hi=>?_⟩;have he:(k.map fc)[i]?=some (fc k[i]):=(by rw[wn,Zv hi];rfl);obtain⟨x0,a0,_⟩:=am i _ 0 _ he rfl;obtain⟨x1,T,_⟩:=am i _ 1 _ he rfl;exact⟨x0,x1,a0,T,trivial⟩
 obtain⟨ad,aM,rfl,aS,aO,aC⟩:=G.shape;unfold maxLen at aO;have aL:=qL G;have aE:=qL ag;have aK:=qL aC;have aT:=ag.size;clear G ak am ag aC
 go_wp2_with fail
 go_loopg [10] k.length (λgh x wr=>∃j,j<=k.length/\gh=k.length-j/\x=.int .i64 j/\RwF w.heap.size wr (.slice ad k.length aM) k (λi f a b=>i<j->OwnR w1.heap.size wr a f.items/\VO w1.heap.size wr b f.vec)/\Below w.heap.size w wr/\w1.heap.size<=wr.heap.size)
 case atStart=>exact⟨0,vj _,rfl,rfl,aL.o.imp λi f a b _ _=>λh0=>absurd h0 (Un _),aE.o,Zp _⟩
 case round=>
  obtain⟨j,hj,rfl,rfl,G,I,bi⟩:=hrel;have HR:=qL G;have ao:=qL I;by_cases L:j<k.length
  .obtain⟨g,aY,rfl,hg,bc,_,h0⟩:=aK.o (by intro e;subst e;simp at L);have M:j<fs.length:=b6;obtain⟨bb,aD,rfl,ax,Y⟩:=ar.o.2.2 (by intro e;subst e;simp at M);obtain⟨c0,c1⟩:=Y j M;obtain⟨d0,d1⟩:=aI.o j M;replace c0:=(I.cell (p:=⟨bb,aD+j*2,none⟩) ax).trans c0;replace c1:=(I.cell (p:=⟨bb,aD+j*2+1,none⟩) ax).trans c1;have aj:=X3 L;have U:=HB.o _ aj;have an:=HZ.o _ aj;obtain⟨f,hf⟩:=xm (k[j]);obtain⟨q,hq⟩:=xm (fs[j]);rw[<-hf]at d0 d1 U an;rw[<-hq]at d0 d1 c0 c1;obtain⟨af,cf,e0⟩:=zK d0;obtain⟨av,cv,e1⟩:=zss d1;rw[e0]at c0 d0;rw[e1]at c1 d1;have HF:=qL hf;clear hq e0 e1 hf aj Y;obtain⟨y,O⟩:=xm (wr.alloc (.cells #[.slice af f.items.length cf,.slice av f.vec.length cv] 50));have V:y.heap[wr.heap.size]?=some (.cells #[.slice af f.items.length cf,.slice av f.vec.length cv] 50 (0,0)):=(by rw[O];exact tx wr _);have ah:Below wr.heap.size wr y:=(by rw[O];exact(tB _ wr).alloc (Zp _) _);have bh:y.heap.size=wr.heap.size+1:=(by rw[O];simp);have ac:∀W,Below y.heap.size y W->Below w.heap.size w W:=λW H=>I.trans ((ah.mono b6).trans (H.mono b6));have hw:∀W,Below y.heap.size y W->∀b o x,D b o->w.cell? ⟨b,o,none⟩=some x->W.cell? ⟨b,o,none⟩=some x:=λW H b o x h hx=>(tw (a:=⟨b,o,none⟩) ((ac W H).block b (aq.o b o h))).trans hx;have ae:∀W,Below y.heap.size y W->∀b o,D b o->b<W.heap.size:=λW H b o h=>Vq (aq.o b o h) (ac W H).size;have aF:=qL (λW (H:Below y.heap.size y W)=>zeX (je (d0.mono (λ_ _ h=>h) (hw W H)) (ae W H) U.1) b6);have aG:=qL (λW (H:Below y.heap.size y W)=>zq3 f.vec (d1.mono (λ_ _ h=>h) (hw W H)) (ae W H) U.2 b6 λe he=>by have:=an.2.2 e he;omega);have aV:=qL V;have Z:=qL ah
   have g0:=(zW V 0 _ rfl).1;have g1:=(zW V 1 _ rfl).1;clear d0 d1 V ah ac hw ae U an G I
   go_wp2_with fail
   rw[<-O];have ay:Below y.heap.size y y.drew:=(tB _ _).drew;clear O;refine Kg (Sw:=qe) 9 27 (λQ=>Below y.heap.size y Q/\Q.cell? ⟨wr.heap.size,0,none⟩=some (.slice af f.items.length cf)/\Q.cell? ⟨wr.heap.size,1,none⟩=some (.slice av f.vec.length cv)) dN dN rfl ⟨ay,g0,g1⟩ ?_;simp only[wT,Wg];refine Jz ?_;refine V7 (λu Q=>∃E F,u=.slice E f.items.length F/\OwnR y.heap.size Q u f.items) (λu wa y h hk=>by obtain⟨E,F,e,h⟩:=h;exact⟨E,F,e,h.keep hk λ_ _=>id⟩) rfl ?_ ?_
   .intro P w2 A hk hr K X;have HK:=qL X;clear X;simp[Rds,zA,lk,Op.operands,Call.operands,RdEq]at hr;go_simp;refine(aF.o _ A.1).mono ?_;rintro e w3 ⟨u,rfl,ho,hb⟩;obtain⟨E,F,rfl⟩:=ho.val;have B:Keep qe _ w3:=Keep.of_below' hb (Zp _);exact HK.o _ _ B ⟨A.1.trans (hb.mono A.1.size),B.cell_some A.2.1 id,B.cell_some A.2.2 id⟩ ⟨E,F,rfl,ho.mono A.1.size⟩
   simp only[XV,Yf];refine Jz ?_;refine V7 (λu Q=>∃E F,u=.slice E f.vec.length F/\VO y.heap.size Q u f.vec) (λu wa y h hk=>by obtain⟨E,F,e,h⟩:=h;exact⟨E,F,e,h.keep hk λ_ _=>id⟩) rfl ?_ ?_
   .intro P w2 A hk hr K X;have HK:=qL X;clear X;simp[Rds,zA,lk,Op.operands,Call.operands,RdEq]at hr;go_simp;refine(aG.o _ A.1).mono ?_;rintro e w3 ⟨u,rfl,hb,ho⟩;have ho:VO _ w3 u f.vec:=ho;obtain⟨E,F,rfl⟩:=ho.shape;have B:Keep qe _ w3:=Keep.of_below' hb (Zp _);exact HK.o _ _ B ⟨A.1.trans (hb.mono A.1.size),B.cell_some A.2.1 id,B.cell_some A.2.2 id⟩ ⟨E,F,rfl,ho.mono A.1.size⟩
   simp only[XV,Yf];refine Jz ?_;refine V7 (λu Q=>∃T n1 P n2,u=.agg #[.slice T f.items.length n1,.slice P f.vec.length n2]/\OwnR y.heap.size Q (.slice T f.items.length n1) f.items/\VO y.heap.size Q (.slice P f.vec.length n2) f.vec) (λu wa y h hk=>by obtain⟨T,n1,P,n2,e,h,h'⟩:=h;exact⟨T,n1,P,n2,e,h.keep hk λ_ _=>id,h'.keep hk λ_ _=>id⟩) rfl ?_ ?_
   .intro P w2 A hk hr K X;have HK:=qL X;clear X;simp[Rds,zA,lk,Op.operands,Call.operands,RdEq]at hr;obtain⟨⟨_,⟨e1,e2⟩,⟨E,F,rfl⟩,ho⟩,_,⟨e3,e4⟩,⟨aw,cw,rfl⟩,hv⟩:=hr;go_simp;exact HK.o _ _ (Keep.refl _ _) A ⟨E,F,aw,cw,rfl,ho,hv⟩
   simp only[XV,Yf];intro w2 ai aP;simp only[finG,WZ,XV,Yf,wR,Wo,W5];simp only[Act.put,wF,wW,wX];rintro _ ⟨_,_,rfl,_⟩ _ ⟨_,_,rfl,_⟩ _ ⟨T,n1,P,n2,rfl,hu,hv⟩;have HU:=qL hu;have HV:=qL hv;have ab:=qL ai.1;have aU:=ai.1.size;have N:=HR.o.keep (w':=w2) (λb hb=>(ab.o.block b b6).trans (Z.o.block b hb));obtain⟨xa,xb,aW,aZ,aX,ba,_⟩:=N.at h0 L;have aJ:=qL N;clear hu hv ai aP ay N g0 g1 c0 c1
   go_wp2_with fail
   go_roundg (k.length-(j+1));case measure=>omega
   case rel=>
    have hS:∀x,w1.heap.size<=x->¬x=g:=λx hx e=>b6;refine⟨j+1,L,rfl,b8,aJ.o.set (λi hi a b bg hx be=>?_) L (λ_=>?_),?_,b7⟩
    .have J:=(((Keep.of_below' (S:=λx=>x=g) Z.o (Zp _)).trans (Keep.of_below' ab.o (Zp _))).setCell (p:=⟨g,j*2,none⟩) (λ_=>rfl) (.slice T f.items.length n1)).setCell (p:=⟨g,j*2+1,none⟩) (λ_=>rfl) (.slice P f.vec.length n2);obtain⟨h1,h2⟩:=hx b6;exact⟨h1.keep J hS,h2.keep J hS⟩
    .have J:=((Keep.refl (λx=>x=g) w2).setCell (p:=⟨g,j*2,none⟩) (λ_=>rfl) (.slice T f.items.length n1)).setCell (p:=⟨g,j*2+1,none⟩) (λ_=>rfl) (.slice P f.vec.length n2);rw[<-HF.o];exact⟨(HU.o.mono b6).keep J hS,(HV.o.mono b6).keep J hS⟩
    .exact Tb (Tb (ao.o.trans ((Z.o.mono b6).trans (ab.o.mono b6))) (by show w.heap.size<=g;omega) _) (by show w.heap.size<=g;omega) _
  .obtain rfl:j=k.length:=b6
   go_wp2_with fail
   refine tI (tR rfl _ _ _) rfl ?_;exact⟨_,rfl,ao.o,HR.o.imp λi f a b hi hx=>⟨(hx hi).1.mono b6,(hx hi).2.mono b6⟩⟩
end
structure Rc where
 item:Nat
 rep:Nat
 ctr:Nat
 val:ByteArray
def rcc(x:Rc):List PV:=[.v (.int .u64 x.item),.v (.int .u64 x.rep),.v (.int .u64 x.ctr),.v (.string x.val)]
def rcp(x:Rc):PV:=.agg (rcc x)
def rcv(x:Rc):Value:=.agg #[.int .u64 x.item,.int .u64 x.rep,.int .u64 x.ctr,.string x.val]
def lp(l:List Rc):PV:=.sl (l.map rcc) .sh
def zrZ(l:List Rc)(i:Nat):Option Rc:=l.find? λx=>decide (x.item=i)
def zr4:List Rc->Rc->List Rc
 |[],x=>[x]
 |y::l,x=>if y.item<x.item then y::zr4 l x else if y.item=x.item then x::l else x::y::l
def zr8(l:List Rc):Prop:=l.Pairwise λx y=>x.item<y.item
def zr3:∀{l:List Rc}{x y:Rc},y∈zr4 l x->y=x\/y∈l
 |[],x,y,h=>by simp[zr4]at h;exact .inl h
 | z::l,x,y,h=>by
   unfold zr4 at h;split at h
   .rcases wm.1 h with rfl|h
    .exact .inr b8
    .exact(zr3 h).imp id λh=>by simp[h]
   .split at h
    .exact(wm.1 h).imp id λh=>by simp[h]
    .exact(wm.1 h).imp id id
def ztN:∀(l:List Rc)(x:Rc),(zr4 l x).length<=l.length+1
 |[],x=>by simp[zr4]
 | z::l,x=>by
   unfold zr4;have:=ztN l x;split
   .simp;omega
   .split<;>simp
def zr6:∀{l:List Rc}{x:Rc},zr8 l->zr8 (zr4 l x)
 |[],x,_=>by simp[zr4,zr8]
 | z::l,x,h=>by
   obtain⟨o,u⟩:=wk.1 h;unfold zr4;split
   .rename_i hlt;exact wk.2 ⟨λy j=>(zr3 j).elim (λe=>by rw[e];exact hlt) (o y),zr6 u⟩
   .split
    .rename_i e;exact wk.2 ⟨λy j=>by have:=o y j;omega,u⟩
    .refine wk.2 ⟨λy j=>?_,h⟩;rcases wm.1 j with rfl|j
     .omega
     .have:=o y j;omega
def ztk{l:List Rc}{i:Nat}(h:∀y∈l,y.item≠i):zrZ l i=none:=by unfold zrZ;rw[uW];intro x j;simp[h x j]
def zsB{l:List Rc}{i:Nat}{x:Rc}(h:zrZ l i=some x):x∈l/\x.item=i:=by unfold zrZ at h;exact⟨uL h,by simpa using List.find?_some h⟩
def zrf(y:Rc)(l:List Rc)(i:Nat):zrZ (y::l) i=if y.item=i then some y else zrZ l i:=by
 unfold zrZ;rw[List.find?_cons];by_cases h:y.item=i<;>simp[h]
def zsb:∀{l:List Rc}{x:Rc}(i:Nat),zr8 l->zrZ (zr4 l x) i=if x.item=i then some x else zrZ l i
 |[],x,i,_=>by rw[zr4,zrf]
 | z::l,x,i,h=>by
   obtain⟨o,j⟩:=wk.1 h;unfold zr4;split
   .rename_i hlt;rw[zrf,zsb i j,zrf];by_cases e:z.item=i
    .rw[VS e,VS e,V2 b6]
    .rw[V2 e,V2 e]
   .split
    .rename_i e0;rw[zrf,zrf];by_cases e:x.item=i
     .rw[VS e,VS e]
     .rw[V2 e,V2 e,V2 b6]
    .rw[zrf]
def ixR:List Rc->Nat->Int->Int
 |[],_,_ =>-1
 |x::l,i,n=>if x.item=i then n else ixR l i (n+1)
section
open Go.Maps Go.ChangeMaps
attribute [-go_sem] z7
def zR:Value:=.agg #[.int .u64 0,.int .u64 0,.int .u64 0,.string ⟨#[]⟩]
def zsv(w:World):(zeroValue 66).run xT w=.ok zR w:=dN
def zRc:Rc:=⟨0,0,0,⟨#[]⟩⟩
def MR(t B:Nat)(w:World)(l:List Rc):Prop:=∃D,w.ownsMap xT 36 rV B t D/\IsMap D/\(∀r,has D (kR r)=(zrZ l r).isSome)/\∀r,D.atKey (kR r) (.held zR)=.held (rcv ((zrZ l r).getD zRc))
def MR.made(w:World):MR 0 w.heap.size (w.alloc (.map #[] 0)) []:=⟨_,TU _ _ _ _,⟨[],rfl⟩,λr=>by simp[has,zrZ],λr=>by simp[zrZ];rfl⟩
def MR.keep{t B:Nat}{w w':World}{l:List Rc}(h:MR t B w l)(hb:w'.heap[B]?=w.heap[B]?):MR t B w' l:=by obtain⟨D,j,o⟩:=h;exact⟨D,yg j hb,o⟩
def MR.lt{t B:Nat}{w:World}{l:List Rc}(h:MR t B w l):B<w.heap.size:=by obtain⟨D,j,_⟩:=h;exact j.lt
def MR.mono{t j B:Nat}{w:World}{l:List Rc}(h:MR t B w l)(ht:t<=j):MR j B w l:=by obtain⟨D,o,u⟩:=h;exact⟨D,o.mono ht,u⟩
def zsX{t B:Nat}{w:World}{l:List Rc}{j:Array Oper}{rest:List Oper}{o:Oper}{a:Act}{Q:Exit->Act->World->Prop}(G:o.guard=none)(m x:Operand)(u:o.op=.lookup 89 m x true)
 (H:a.eval m=.map (some B)) (h:MR t B w l) {r:Nat} (J:r<zk) (K:a.eval x=.int .u64 (r:Nat))
 (I:zrZ l r=none->wpList xT j Q rest (a.put o.dst (.tuple #[.agg #[.int .u64 0,.int .u64 0,.int .u64 0,.string ⟨#[]⟩],.bool false])) w) (hs:∀y,zrZ l r=some y->wpList xT j Q rest (a.put o.dst (.tuple #[.agg #[.int .u64 y.item,.int .u64 y.rep,.int .u64 y.ctr,.string y.val],.bool true])) w):wpList xT j Q (o::rest) a w:=by
 obtain⟨D,C,L,E,F⟩:=h;refine wpList_lookup_own_ok w G m x _ u 36 66 vF underlying89 rV (zsv w) (.held zR) [] rfl B t D H C _ (kR r) K (Zq J) λv M A=>?_;rw[F r]at A;unfold rV at A;cases A;rw[E r];cases hq:zrZ l r with
 |none=>exact I hq
 |some y=>exact hs y hq
def ztf{t B:Nat}{w:World}{l:List Rc}{u:Array Oper}{rest:List Oper}{o:Oper}{a:Act}{Q:Exit->Act->World->Prop}(H:o.guard=none)(m x:Operand)(C:o.op=.lookup 89 m x false)
 (I:a.eval m=.map (some B)) (h:MR t B w l) {r:Nat} (J:r<zk) (K:a.eval x=.int .u64 (r:Nat)) {y:Rc} (L:zrZ l r=some y) (hs:wpList xT u Q rest (a.put o.dst (.agg #[.int .u64 y.item,.int .u64 y.rep,.int .u64 y.ctr,.string y.val])) w):wpList xT u Q (o::rest) a w:=by
 obtain⟨D,F,N,O,G⟩:=h;refine T1 H λM A=>?_;obtain⟨v,P,j,E⟩:=F.lookup vF underlying89 (zsv w) (zd:=.held zR) (zp:=[]) rfl (Zq J);rw[G r,L]at E;unfold rV at E;cases E;unfold Oper.wp;simp[execOp,C,I,K,j,Result.andThen];exact A _ _ hs
def MR.put{t B:Nat}{u:World}{D:DV}{l:List Rc}{y:Rc}(j:IsMap D)(w:∀r,has D (kR r)=(zrZ l r).isSome)(A:∀r,D.atKey (kR r) (.held zR)=.held (rcv ((zrZ l r).getD zRc)))(o:zr8 l)(C:u.ownsMap xT 36 rV B t (D.put (kR y.item) (.held (rcv y)))):MR t B u (zr4 l y):=by
 refine⟨_,C,j.put _ _,λs=>?_,λs=>?_⟩
 .rw[zsb s o];by_cases e:s=y.item
  .subst e;rw[T2 j (Qc _),VS rfl];rfl
  .rw[TY (λh=>e (Xa h)),w s,V2 (λh=>e h.symm)]
 .rw[zsb s o];by_cases e:s=y.item
  .subst e;rw[VS rfl];exact atKey_put_same j (Qc _) _ _
  .rw[V2 (λh=>e h.symm),T6 (λh=>e (Xa h))];exact A s
open Go.WideElems Go.MapKept Go.ChangeMaps in
def zuk{w:World}{B:Nat}{u:Array MapEntry}{c:Nat}{y v:Value}{kl:Lit}(hb:w.heap[B]?=some (.map u c))(F:WideElems.Fit (H:=Value) xT 36 rV u c)(hk:keyOf xT 36 y=some kl):
 ∃(v0:Value) (st:Nat) (J:Array MapEntry) (Y:Nat),(Instr.mapEntry 89 (.map (some B)) y).run xT w=.ok (.tuple #[v0,goInt st]) (setBlock w B (.map J Y))/\∀N:World,N.heap[B]?=some (.map J Y) ->
  ∃K Z,(Instr.entryStore 89 (.map (some B)) (goInt st) v).run xT N=.ok () (setBlock N B (.map K Z))/\(Instr.mapUpdate 89 (.map (some B)) y v).run xT w=.ok () (setBlock w B (.map K Z)):=by
 have S:=tN (w:=w) underlying89
 have Q:=TL (P:=xT) hb;have C:=λem=>vF.check w em hk;have E:=λo=>TM (P:=xT) o hb;rcases vF.find w hk u.toList F.keys with⟨L,_⟩|⟨j,I,L,G,O⟩
 .refine⟨zR,c,u.push ⟨y,zR,c⟩,c+1,?_,λN M=>⟨u.push ⟨y,v,c⟩,c+1,?_,?_⟩⟩
  .simp[Instr.mapEntry,S,Q,C,L,zsv,E,Result.andThen,setBlock];exact⟨rfl,rfl⟩
  .have V:((u.push ⟨y,zR,c⟩).toList.map (·.born)).Nodup:=(by rw[U2,WP,Uw];refine⟨F.stamped.2.1,b8,λa ha b hb e=>?_⟩;obtain⟨x,hx,rfl⟩:=wG.1 ha;have:=F.stamped.1 x hx;simp at hb;omega);have A:=findIdx_born V (j:=u.size) (e0:=⟨y,zR,c⟩) b8;rw[<-findIdx_arr]at A;have U:(u.push ⟨y,zR,c⟩).modify u.size (λe=>{ e with val:=v })=u.push ⟨y,v,c⟩:=Array.ext' (by
    rw[Uk,U2,U2,<-Array.length_toList,modify_last])
   simp[Instr.entryStore,TL M,asInt,asIntOf,goInt,A,U,TM _ M,Result.andThen,setBlock]
  .simp[Instr.mapUpdate,S,Q,C,L,E,Result.andThen,setBlock]
 .have hj:u[j]?=some I:=(dM G);have T:({ I with key:=y }:MapEntry)=I:=(by rw[<-O]);have X:u.modify j (λe=>{ e with key:=y })=u:=Array.ext' (by rw[Uk,modify_eq_set _ _ _ _ G,T];exact set_self _ _ _ G);refine⟨I.val,I.born,u,c,?_,λN M=>⟨u.modify j (λe=>{ e with key:=y,val:=v }),c,?_,?_⟩⟩
  .simp[Instr.mapEntry,S,Q,C,L,hj,O,vF.stays w hk,X,E,Result.andThen,setBlock]
  .have A:=findIdx_born F.stamped.2.1 G;rw[<-findIdx_arr]at A;have U:u.modify j (λe=>{ e with val:=v })=u.modify j (λe=>{ e with key:=y,val:=v }):=Array.ext' (by rw[Uk,Uk,modify_eq_set _ _ _ _ G,modify_eq_set _ _ _ _ G,<-O]);simp[Instr.entryStore,TL M,asInt,asIntOf,goInt,A,U,TM _ M,Result.andThen,setBlock]
  .simp[Instr.mapUpdate,S,Q,C,L,hj,O,vF.stays w hk,E,Result.andThen,setBlock]
def zu8{t B:Nat}{w:World}{l:List Rc}(h:MR t B w l)(T:zr8 l)(U:t<maxLen){y:Rc}(N:y.item<zk):∃(I:Value) (st:Int) (J K:World),(Instr.mapEntry 89 (.map (some B)) (.int .u64 (y.item:Nat))).run xT w=.ok (.tuple #[I,.int .i64 st]) J /\
 (Instr.entryStore 89 (.map (some B)) (.int .i64 st) (rcv y)).run xT J=.ok () K/\MR (t+1) B K (zr4 l y)/\w.grownBy K (some B)/\(∀k,k≠B->J.heap[k]?=w.heap[k]?):=by
 obtain⟨D,M,P,Q,S⟩:=h;obtain⟨w',j,X,Y⟩:=M.update vF underlying89 U (Zq N) (val:=rcv y) rfl;have E:=M;obtain⟨Z,C,hb,F,_,_⟩:=E;obtain⟨I,st,o,A,e1,e2⟩:=zuk (v:=rcv y) hb F (Zq N);have H:=(Y1.1 hb).1;have G:(setBlock w B (.map o A)).heap[B]?=some (.map o A):=by simp[setBlock,H]
 obtain⟨u,L,O,V⟩:=e2 _ G;rw[V]at j;cases j;have e:setBlock (setBlock w B (.map o A)) B (.map u L)=setBlock w B (.map u L):=by simp[setBlock]
 rw[e]at O;exact⟨I,st,_,_,e1,O,MR.put P Q S T X,Y,λk hk=>by simp[setBlock,Um hk]⟩
end
section
attribute [-go_sem] z7 zae zaf Vr
end
section
def zqt(i r c:Nat)(j:c<zk):Cn xT 93 [.v (.int .u64 i),.v (.int .u64 r),.v (.int .u64 c)] (kp (znP i r c)):=by refine zt func93 3 ?_;refine pw ?_;refine .c (zq7 r c j) ?_;rfl
def zqd{C:Q9}{R:List Nat}{n:Nat}(k:List Fg)(i r c:Nat)(u:c<zk)(hk:Kn C R n k)(o:Kn C R n (znP i r c))(ok:OkX C R)(w:n<=20000):Cn xT 56 [kp k,.v (.int .u64 i),.v (.int .u64 r),.v (.int .u64 c)] (kp (vh zn k (znP i r c))):=by
 have j:Cn xT 61 [kp k,kp (znP i r c),.v (.int .i64 0)] (kp (vh zn k (znP i r c))):=YG k (znP i r c) 0 b6 hk o ok w;refine zt func56 4 ?_;refine pw ?_;refine .c (zqt i r c u) ?_
 (first|exact .d (j)|exact .q (j))
def Kn.proj{C:Q9}{R:List Nat}{n m:Nat}{k:List Fg}{items:List Iv}(h:Kn C R n k)(hi:Nrm items)(A:2*n+2*(k.length*items.length)<=m):Kn C R m (zl5 k items):=by
 have u:=zoG hi h.r;have w:=h.m;have y:=h.l;refine⟨znX h.r hi,λg o=>?_,λg o=>?_,b6,?_⟩
 .obtain⟨f,j,rfl⟩:=wG.1 o;exact h.ik f j
 .obtain⟨f,j,rfl⟩:=wG.1 o;exact h.s f j
 .unfold zl5;rw[wB];omega
def zqU{C:Q9}{R:List Nat}{n:Nat}(k:List Fg)(h:Kn C R n k)(ok:OkX C R)(j:n<=40000):Cn xT 105 [kp k] (kp (zbx k)):=by show Cn xT 105 [kp k] (kp (zL (jq k)));refine zt func105 1 ?_;refine pw ?_;refine .c (zqR k (h.ok12 ok b6)) ?_;exact .d (Kc (jq k) (h.refine ok) ok b6)
def zqV(k:List Fg)(items:List Iv){j:Nat}(h:j<k.length):((zl5 k items).take (j+1)).map fc=((zl5 k items).take j).map fc++[fc ⟨qy fMeet k[j].items items,k[j].vec⟩]:=by have u:(zl5 k items).length=k.length:=wB _;have o:(zl5 k items)[j]'b6=⟨qy fMeet k[j].items items,k[j].vec⟩:=UH _;rw[vw b6,WP,o];rfl
def zqQ{C:Q9}{R:List Nat}{n m:Nat}(k:List Fg)(items:List Iv)(hk:Kn C R n k)(hi:Nrm items)(A:items.length<=100000)(G:Kn C R m (zl5 k items))(ok:OkX C R)(J:n<=100000)(F:m<=40000):Cn xT 62 [kp k,rg items] (kp (znF k items)):=by
 have B:=hk.l;have w:=zqU (zl5 k items) G ok F;have H:(zl5 k items).length=k.length:=wB _;refine zt func62 2 ?_;refine pw ?_;refine pLoop.go (λj=>j<=k.length) (λj=>[(5,.sl (((zl5 k items).take j).map fc) (.r 28 2)),(6,.v (.int .i64 (j:Nat)))]) (λ_=>[]) (λj=>k.length-j) 0 [5,6] ?_ ?_ ?_
 .exact vj _
 .exact pd
 .rintro j I;refine pw ?_;refine .i ?_ ?_<;>intro h<;>first|refine pw ?_|exact pd
  .have y:=zqV k items h;have u:=X3 h;have E:k[j].items.length<=100000:=(by have:=yv u;have:=hk.m;omega);refine .c (zq2 k[j].items items (hk.r _ u).1 hi b6 b6) ?_;refine cutP.full rfl ?_ rfl ?_ ?_
   .exact pd
   .exact pd
   .refine pw ?_;exact⟨j+1,h,b6,y.symm,rfl⟩
  .have o:Cn xT 105 [.sl (((zl5 k items).take j).map fc) .sh] (kp (znF k items)):=(by rw[ww b6];exact w)
   (first|exact .d (o)|exact .q (o))
def EdI(E:List Nat)(k:List Fg):Prop:=∀f∈k,∀x,Ed f.items x->x∈E
def zsx{E:List Nat}{k:List Fg}(h:RightK k)(B:EdI E k)(u:0∈E):∀x∈zq k,x∈E:=λx G=>by
 obtain⟨w,y⟩:=(vZ h).1 G;by_cases e:x=0
 .rw[e];exact u
 have A:=y.resolve_left e;have:∃f∈k,mem f.items (x-1)≠mem f.items x:=wY λF=>by have:qX k (x-1) x=true:=qo.2 λf j=>wY λC=>F ⟨f,j,C⟩;rw[A]at this;cases this
 obtain⟨f,j,o⟩:=this;exact B f j x ⟨w,by rw[V2 e];exact λe=>o e.symm⟩
def zsj{E:List Nat}{k:List Fg}(h:RightK k)(A:EdI E k)(w:0∈E):(zu k).length<=E.length/\∀s∈zu k,∀x,Ed [s] x->x∈E:=by
 have hs:=zsx h A w;have u:(cutsK k).length=(zq k).length:=vO _;have B:=Ji _ _ (startsK_asc k) hs;constructor
 .have:(zu k).length<=(cutsK k).length:=WH _ _;omega
 .intro s C x o;obtain⟨i,hi,rfl⟩:=Wr (Wv.1 C).1;have j:i<(zq k).length:=b6;have e:(cutsK k)[i]=⟨(zq k)[i],if h:i+1<(zq k).length then (zq k)[i+1]-1 else zk-1⟩:=Vx (zq k) i j;have F:=o.1;rw[e]at o;rcases zhC o with rfl|y
  .exact hs _ (X3 j)
  .split at y
   .rename_i h3;have G:=wU.1 (startsK_asc k) i (i+1) j h3 b6;rw[show x=(zq k)[i+1] by omega];exact hs _ (X3 h3)
   .have:=xM;omega
def zsu{E:List Nat}:∀{o:List Fg}{f:Fg},(∀g∈o,Nrm g.items)->Nrm f.items->EdI E o->(∀x,Ed f.items x->x∈E)->EdI E (qN o f)
 |[],f,_,_,_,hf=>λg u=>by simp only[qN,wK]at u;subst u;exact hf
 | g::o,f,hn,hnf,ho,hf=>by
   have w:=zsu (o:=o) (f:=f) (λx j=>hn x (by simp[j])) hnf (λx j=>ho x (by simp[j])) hf;have u:=ho g b8;unfold qN;split
   .intro x j;rcases wm.1 j with rfl|j
    .exact u
    .exact w x j
   .split
    .intro x j;rcases wm.1 j with rfl|j
     .exact λy A=>(zcM rfl (hn g b8) hnf A).elim (u y) (hf y)
     .exact ho x (by simp[j])
    .intro x j;rcases wm.1 j with rfl|j
     .exact hf
     .exact ho x j
def zsf{E:List Nat}:∀{k o:List Fg},GrpI o->RightK k->EdI E o->EdI E k->EdI E (k.foldl yo o)
 |[],_,_,_,ho,_=>ho
 | f::k,o,j,hr,ho,hk=>by
   have u:=hr f b8;rw[WN];refine zsf (Yr j u).1 (λg j=>hr g (by simp[j])) ?_ λg j=>hk g (by simp[j]);unfold yo;split
   .exact ho
   .exact zsu (λg h=>(j.ok g h).2.2.1) u.1 ho (hk f b8)
def zsl{E:List Nat}{k:List Fg}(h:RightK k)(j:EdI E k):EdI E (zL k):=zsf GrpI.nil h (λf h=>by cases h) j
structure Ke(C:Q9)(R E:List Nat)(k:List Fg):Prop where
 can:CanK k
 ik:IK C R k
 s:∀f∈k,SmV f.vec
 ed:EdI E k
 m:qE k<=E.length
 l:k.length<=E.length
section
variable {C:Q9}{R E:List Nat}{a b k:List Fg}
def Ke.r(h:Ke C R E k):RightK k:=h.can.right
def Ke.kn(h:Ke C R E k):Kn C R E.length k:=⟨h.r,h.ik,h.s,h.m,h.l⟩
def Ke.nil:Ke C R E []:=⟨zaJ,(λf h=>by cases h),(λf h=>by cases h),(λf h=>by cases h),vj _,vj _⟩
def Ke.do{f:XE}(B:f false false=false)(j:Ke C R E a)(hb:Ke C R E b)(ok:OkX C R)(w:0∈E):Ke C R E (vh f a b):=by
 have F:=j.r.app hb.r;have A:EdI E (a++b):=λf h=>(wI.1 h).elim (j.ed f) (hb.ed f);obtain⟨G,y⟩:=zsj F A w;have u:=xU (f:=f) j.r hb.r;have hk:=Kn.do B j.kn hb.kn ok;have o:=jU u;refine⟨ze5 j.r hb.r,hk.ik,hk.s,zsl u λg o=>?_,?_,?_⟩
 .obtain⟨s,hs,rfl⟩:=wG.1 o;exact y s hs
 .have:qE (yy f a b)=(zu (a++b)).length:=Zf _ _;unfold vh;omega
 .have:(yy f a b).length=(zu (a++b)).length:=wB _;unfold vh;omega
def Ke.canonP{n:Nat}(hk:Kn C R n k)(A:EdI E k)(ok:OkX C R)(w:0∈E):Ke C R E (zbx k):=by
 obtain⟨B,y⟩:=zsj hk.r A w;have u:=Yb hk.r;have j:=hk.canon ok;have o:=jU u;refine⟨zbX hk.r,j.ik,j.s,zsl u λg o=>?_,?_,?_⟩
 .obtain⟨s,hs,rfl⟩:=wG.1 o;exact y s hs
 .have:qE (jq k)=(zu k).length:=Zf _ _;unfold zbx;omega
 .have:(jq k).length=(zu k).length:=wB _;unfold zbx;omega
def zsF{items:List Iv}(h:Ke C R E k)(hi:Nrm items)(o:∀x,Ed items x->x∈E):EdI E (zl5 k items):=λg u=>by obtain⟨f,j,rfl⟩:=wG.1 u;exact λx w=>(zcM rfl (h.r f j).1 hi w).elim (h.ed f j x) (o x)
end
structure Rs where
 id:Nat
 recs:List Rc
 known:List Fg
 next:Nat
def zs7(x y:Rc):Bool:=decide (y.ctr<x.ctr) || (decide (x.ctr=y.ctr) && decide (y.rep<x.rep))
def zsq(s:Rs)(i:Nat):Nat:=match zrZ s.recs i with
 |some x=>if s.next<=x.ctr then x.ctr+1 else s.next
 |none=>s.next
def ztL(s:Rs)(i:Nat)(v:ByteArray):Rc:=⟨i,s.id,zsq s i,v⟩
noncomputable def ztM (s:Rs) (i:Nat) (v:ByteArray):Rs:=⟨s.id,zr4 s.recs (ztL s i v),vh zn s.known (znP i s.id (zsq s i)),zsq s i+1⟩
def zs0(s:Rs)(known:List Fg)(items:List Iv):List Rc:=s.recs.filter λx=>mem items x.item && !hasK known x.item x.rep x.ctr
def zse(l:List Rc)(x:Rc):List Rc:=match zrZ l x.item with
 |some y=>if zs7 x y=true then zr4 l x else l
 |none=>zr4 l x
noncomputable def ztt (s f:Rs) (items:List Iv):Rs:=⟨s.id,(zs0 f s.known items).foldl zse s.recs,vh zn s.known (znF f.known items),s.next⟩
structure Env25(C:Q9)(R E I:List Nat):Prop where
 ok:OkX C R
 c:∀r x,x<=26->x∈C r
 z:0∈E
 e:E.length<=1000
 i:I.length<=25
 m:∀i∈I,i<zk/\i∈E/\(i+1<zk->i+1∈E)
structure Ok25(C:Q9)(R E I:List Nat)(n:Nat)(s:Rs):Prop where
 k:Ke C R E s.known
 a:zr8 s.recs
 x:∀x∈s.recs,x.item∈I/\x.rep<zk/\x.ctr<n/\x.val.size<=100
 n:s.next<=n
 i:s.id<zk/\s.id∈R
def zsA{l:List Rc}{I:List Nat}(h:zr8 l)(j:∀x∈l,x.item∈I):l.length<=I.length:=by
 have:=Ji (l.map Rc.item) I (uD.2 h) λy u=>by obtain⟨x,o,rfl⟩:=wG.1 u;exact j x o
 simpa using this
section
variable {C:Q9}{R E I:List Nat}{n:Nat}{s f:Rs}
def Ok25.len(h:Ok25 C R E I n s)(e:Env25 C R E I):s.recs.length<=25:=by have:=zsA h.a λx j=>(h.x x j).1;have:=e.i;omega
def Ok25.ctr(h:Ok25 C R E I n s)(i:Nat):zsq s i<=n:=by
 unfold zsq;have:=h.n;cases hg:zrZ s.recs i with
 |none=>exact this
 | some x=>
   have j:=(h.x x (zsB hg).1).2.2.1;dsimp only;split
   .omega
   .exact this
def Ok25.mono{m:Nat}(h:Ok25 C R E I n s)(o:n<=m):Ok25 C R E I m s:=
 ⟨h.k,h.a,λx j=>by have:=h.x x j;exact⟨this.1,this.2.1,b6,this.2.2.2⟩,by have:=h.n;omega,h.i⟩
def ztd(e:Env25 C R E I){i r c:Nat}(hi:i∈I)(H:r<zk)(K:r∈R)(N:c<=25):Ke C R E (znP i r c):=by
 have M:=zw;obtain⟨A,B,F⟩:=e.m i hi;have u:c<zk:=b6
 have L:1<=E.length:=um e.z;have o:=zkS H u;have G:IV C R (zl9 r c):=by
  refine⟨o.right,λq x w=>?_,λy J=>?_⟩
  .rw[zoE H u]at w;split at w
   .rcases zhC w with rfl|rfl
    .exact e.c _ _ b6
    .exact e.c _ _ b6
   .exact absurd w zcL
  .simp only[zl9,wK]at J;subst J;rw[qD b8];exact K
 refine⟨⟨⟨λg j=>?_,by simp[znP]⟩,by simp[znP,xh]⟩,λg j=>?_,λg j=>?_,λg j x w=>?_,?_,?_⟩
 .simp only[znP,wK]at j;subst j;exact⟨o,by simp[zl9],qG (Zp _) A,b8⟩
 .simp only[znP,wK]at j;subst j;exact G
 .simp only[znP,wK]at j;subst j;exact zoF H u
 .simp only[znP,wK]at j;subst j;rcases zhC w with rfl|rfl
  .exact B
  .exact F w.1
 .simp[znP,qE];omega
 .simp[znP];omega
def Ok25.put(h:Ok25 C R E I n s)(e:Env25 C R E I){i:Nat}{v:ByteArray}(hi:i∈I)(o:v.size<=100)(w:n<=25):Ok25 C R E I (n+1) (ztM s i v):=by
 have u:=h.ctr i;refine⟨h.k.do rfl (ztd e hi h.i.1 h.i.2 b6) e.ok e.z,zr6 h.a,λx j=>?_,by show zsq s i+1<=n+1;omega,h.i⟩;rcases zr3 j with rfl|j
 .exact⟨hi,h.i.1,by show zsq s i<n+1;omega,o⟩
 .have:=h.x x j;exact⟨this.1,this.2.1,b6,this.2.2.2⟩
def zsz{l:List Rc}{x y:Rc}(h:y∈zse l x):y=x\/y∈l:=by
 unfold zse at h;split at h
 .split at h
  .exact zr3 h
  .exact .inr h
 .exact zr3 h
def zsy{l:List Rc}{x:Rc}(h:zr8 l):zr8 (zse l x):=by
 unfold zse;split
 .split
  .exact zr6 h
  .exact h
 .exact zr6 h
def zsa:∀{m l:List Rc},zr8 l->zr8 (m.foldl zse l)/\∀x∈m.foldl zse l,x∈m\/x∈l
 |[],l,h=>⟨h,λx o=>.inr o⟩
 | y::m,l,h=>by
   obtain⟨u,w⟩:=zsa (m:=m) (zsy (x:=y) h);refine⟨u,λx o=>?_⟩;rcases w x o with j|j
   .exact .inl (by simp[j])
   .exact(zsz j).imp (λe=>by simp[e]) id
def zsR{k:List Fg}(h:Ke C R E k)(e:Env25 C R E I){items:List Iv}(hi:Nrm items)(o:∀x,Ed items x->x∈E)(u:items.length<=10):Ke C R E (znF k items)/\Kn C R 22000 (zl5 k items):=by have w:=h.l;have y:=h.m;have A:=e.e;have B:k.length*items.length<=1000*10:=UW b6 u;have j:Kn C R 22000 (zl5 k items):=Kn.proj h.kn hi b6;exact⟨Ke.canonP j (zsF h hi o) e.ok e.z,j⟩
def Ok25.pull(h:Ok25 C R E I n s)(o:Ok25 C R E I n f)(e:Env25 C R E I){items:List Iv}(hi:Nrm items)(y:∀x,Ed items x->x∈E)(A:items.length<=10):Ok25 C R E I n (ztt s f items):=by
 obtain⟨u,w⟩:=zsa (m:=zs0 f s.known items) h.a;refine⟨h.k.do rfl (zsR o.k e hi y A).1 e.ok e.z,u,λx B=>?_,h.n,h.i⟩;rcases w x B with j|j
 .exact o.x x (Wv.1 j).1
 .exact h.x x j
end
end
section
attribute [-go_sem] z7
def cn_bool{f:FuncId}{A:List PV}{b:Bool}(F:Cn xT f A (.v (.bool b))){D:Qk}{w:World}{vs:Array Value}(E:GL D w)(C:∀b o,D b o->b<w.heap.size)(y:vs.size=A.length)(j:∀(i:Nat) p,A[i]?=some p->Dat D w (vs.getD i undef) p):
 Calls xT f vs w λe B=>e=.returned (.bool b)/\Below w.heap.size w B:=by
 refine(jP F E C y j).mono ?_;rintro e B ⟨u,rfl,hb,j⟩;have e:=(Rel.dat (ρ:=λ_=>0) (nb:=0) j).v_inv;rw[e];exact⟨rfl,hb⟩
def wp_some{P:Program}{c:Code}{a:Act}{W:World}{Q:Exit->Act->World->Prop}{R:World->Prop}(h:R W)(k:∀W,R W->c.wp P Q a W):c.wp P Q a W:=k W h
def Nw(D:Qk)(w j:World):Nat->Nat->Prop:=λb o=>D b o\/(w.heap.size<=b/\b<j.heap.size)
def Gd(D:Qk)(w:World):Prop:=GL D w/\∀b o,D b o->b<w.heap.size
def Rpl(D:Qk)(t:Nat)(w:World)(b m:Nat)(s:Rs):Prop:=
 ∃ka j,w.heap[b]?=some (.cells #[.int .u64 s.id,.map (some m),.slice ka s.known.length j,.int .u64 s.next,.bool false] 91 (0,0))/\MR t m w s.recs/\Dat D w (.slice ka s.known.length j) (kp s.known)
def Gd.keep{D:Qk}{S:Nat->Prop}{w w':World}(h:Gd D w)(hk:Keep S w w')(u:∀b o,D b o->¬S b):Gd D w':=
 ⟨h.1.mono (λ_ _ h=>h) λb o x j y=>hk.cell_some y (u b o j),λb o j=>Vq (h.2 b o j) hk.size⟩
def Gd.new{D:Qk}{w w0 j:World}(h:Gd D j)(hs:w0.heap.size<=j.heap.size):Gd (Nw D w0 j) j:=⟨h.1.mono (λ_ _ h=>.inl h) λ_ _ _ _ h=>h,λb o u=>u.elim (h.2 b o) ui⟩
def Rpl.keep{D D':Qk}{S:Nat->Prop}{t b m:Nat}{w w':World}{s:Rs}(h:Rpl D t w b m s)(hk:Keep S w w')(hb:¬S b)(C:¬S m)(u:∀b o,D b o->D' b o/\¬S b):Rpl D' t w' b m s:=by obtain⟨ka,F,y,j,A⟩:=h;exact⟨ka,F,hk.obj y hb,j.keep (hk.block m j.lt C),A.mono (λb o h=>(u b o h).1) λb o x B E=>hk.cell_some E (u b o B).2⟩
def Rpl.mono{D:Qk}{t j b m:Nat}{w:World}{s:Rs}(h:Rpl D t w b m s)(ht:t<=j):Rpl D j w b m s:=by obtain⟨ka,A,o,u,y⟩:=h;exact⟨ka,A,o,u.mono ht,y⟩
def zuI(id:Nat)(D:Qk)(w:World):Calls xT 20 #[.int .u64 (id:Nat)] w λe o=>e=.returned (.pointer (some ⟨w.heap.size+1,0,none⟩))/\Below w.heap.size w o/\o.heap.size=w.heap.size+2/\Rpl D 0 o (w.heap.size+1) w.heap.size ⟨id,[],[],0⟩:=by
 have u:=@run_makeMap xT
 go_enter func20,ntmps20
 go_wp2;refine tI (tR rfl _ _ _) rfl ?_;exact⟨rfl,((tB _ w).alloc (Zp _) _).alloc b8 _,b8,none,0,Tx _ _ _,(MR.made w).keep (tC _ _ _ b8),.sl none 0 1 [] .sh 0 0 (λ_=>undef) (Zp _) (λh=>by cases h) dE (λh=>absurd rfl h) (λi e h=>by simp at h) (λj h=>by simp at h) (λi e j p h=>by simp at h)⟩
def zte{D:Qk}{t b m n:Nat}{w:World}{s:Rs}(K:Rpl D t w b m s)(F:Gd D w)(hb:CanK s.known)(I:s.known.length<=1000000)(hz:∀f∈s.known,f.items.length<=1000000/\f.vec.length<=1000000/\∀e∈f.vec,e.holes.length<=1000000):
 Calls xT 10 #[.pointer (some ⟨b,0,none⟩)] w λe C=>∃v,e=.returned v/\Below w.heap.size w C/\Dat (Nw D w C) C v (kp s.known):=by
 obtain⟨ka,L,y,A,E⟩:=K;have G:=zrM s.known E F.2 (λf H=>⟨(hb.right f H).1.lt,(hb.gi.ok f H).1.bd⟩) I hz;have O:w.cell? ⟨b,2,none⟩=some (.slice ka s.known.length L):=(zW y 2 _ rfl).1;have J:=qL G;clear G y A E F hb I hz;go_enter func10,ntmps10
 go_wp2_with (go_at_call 28;refine J.o.mono ?_;rintro e P ⟨u,rfl,B,j⟩;obtain⟨M,N,rfl,_⟩:=RwF.shape j)
 go_ret;exact⟨_,rfl,B,KO.dat j λb o y A=>.inr ⟨y,A⟩⟩
def zs4{fn:Func}{p u:Tmp}{o t:TypeId}{A:Array Field}{w:World}{g:Nat}{cs:Array Value}{j:Array Value}(h:fn.results=#[.cell p o,.tmp u])(C:j.getD p undef=.pointer (some ⟨g,0,none⟩))(B:w.heap[g]?=some (.cells cs t (0,0)))
 (E:xT.underlying o=some (.struct A)) (hi:(xT.info? o).map (·.size)=some cs.size):(results fn j).run xT w=.ok (.tuple #[.agg cs,j.getD u undef]) w:=by
 have y:j[p]?.getD undef=.pointer (some ⟨g,0,none⟩):=dM C
 simp[results,h,y,asAddr,run_loadVar_row w g t o cs (0,0) _ B E rfl hi]
def zwk{D:Qk}{t b m:Nat}{w:World}{s:Rs}{i:Nat}(I:Rpl D t w b m s)(hi:i<zk):Calls xT 19 #[.pointer (some ⟨b,0,none⟩),.int .u64 (i:Nat)] w λe J=>e=.returned (.tuple #[rcv ((zrZ s.recs i).getD zRc),.bool (zrZ s.recs i).isSome])/\Below w.heap.size w J:=by
 obtain⟨ka,K,j,u,H⟩:=I;have F:w.cell? ⟨b,1,none⟩=some (.map (some m)):=(zW j 1 _ rfl).1;have E:=qL u;have B:=u.lt;have A:=(Y1.1 j).1;have G:∀o,(w.alloc o).cell? ⟨b,1,none⟩=some (.map (some m)):=λo=>(tw (a:=⟨b,1,none⟩) (tC _ _ _ A)).trans F;clear j u H;go_enter func19,ntmps19
 go_wp2_with (at_lookup;refine zsX rfl _ _ rfl rfl (E.o.keep (tC _ _ _ B)) hi rfl (λC=>?_) λy C=>?_)
 .refine tI (zs4 rfl rfl (Ty _ _ _) underlying66 dN) rfl ?_;rw[C];exact⟨rfl,((tB _ w).alloc (Zp _) _).alloc b8 _⟩
 .refine tI (zs4 rfl rfl (Ty _ _ _) underlying66 dN) rfl ?_;rw[C];exact⟨rfl,((tB _ w).alloc (Zp _) _).alloc b8 _⟩
def zti{D:Qk}{w:World}{v:Value}{k:List Fg}(h:Dat D w v (.tup [kp k,.v .nilIface])):∃a c,v=.tuple #[.slice a k.length c,.nilIface]/\Dat D w (.slice a k.length c) (kp k):=by
 cases h with
 | tup vs cs hs h=>
   have d0:=h 0 _ rfl;have o:=(h 1 _ rfl).v_inv;obtain⟨⟨a,n,c⟩,e,j⟩:=kH d0;obtain⟨l⟩:=vs;match l,hs with
   |[x,y],_=>simp at d0 o e;subst e;subst o;rw[wB]at j;simp only at j;subst j;exact⟨a,c,rfl,d0⟩
def zuD{C:Q9}{R E I:List Nat}{D:Qk}{w:World}{x:Value}{k:List Fg}(e:Env25 C R E I)(hk:Ke C R E k){i r c:Nat}(hi:i∈I)(B:r<zk)(F:r∈R)(G:c<=25)(A:Gd D w)(d:Dat D w x (kp k)):
 Calls xT 52 #[x,.int .u64 (i:Nat),.int .u64 (r:Nat),.int .u64 (c:Nat)] w λe y=>∃a u,e=.returned (.tuple #[.slice a (vh zn k (znP i r c)).length u,.nilIface])/\Below w.heap.size w y/\Dat (Nw D w y) y (.slice a (vh zn k (znP i r c)).length u) (kp (vh zn k (znP i r c))):=by
 refine(jP (znJ k i r c B (by have:=zw;omega) hk.kn (ztd e hi B F G).kn e.ok (by have:=e.e;omega)) A.1 A.2 rfl λj p o=>?_).mono ?_
 .match j,o with
  |0,o=>cases o;exact d
  |1,o=>cases o;exact .v _
  |2,o=>cases o;exact .v _
  |3,o=>cases o;exact .v _
  |j+4,o=>simp at o
 .rintro e y ⟨v,rfl,hb,H⟩;obtain⟨a,u,rfl,h⟩:=zti H;exact⟨a,u,rfl,hb,h⟩
def zt8{x c:Nat}(h:c=x+1)(o:c<zk)(w:World):Calls xT 51 #[.int .u64 (x:Nat)] w λe j=>e=.returned (.tuple #[.int .u64 (c:Nat),.bool true])/\j=w:=by have:=zw;refine(zdr x b6 w).mono ?_;rintro e j ⟨rfl,rfl⟩;rw[h];exact⟨rfl,rfl⟩
def SlK(D:Qk)(j:World)(k:List Fg)(u:Value)(W:World):Prop:=∃a c,u=.slice a k.length c/\Dat (Nw D j W) W (.slice a k.length c) (kp k)
def TuK(D:Qk)(j:World)(k:List Fg)(u:Value)(W:World):Prop:=∃a c,u=.tuple #[.slice a k.length c,.nilIface]/\Dat (Nw D j W) W (.slice a k.length c) (kp k)
def Nw.dat{D:Qk}{j A B:World}{x:Value}{p:PV}(h:Dat (Nw D j A) A x p)(hk:Keep qe A B):Dat (Nw D j B) B x p:=h.mono (λb o h=>h.imp id λh=>⟨h.1,Vq h.2 hk.size⟩) λb o x _ u=>hk.cell_some u id
def SlK.stab{D:Qk}{j:World}{k:List Fg}(u:Value)(A B:World)(h:SlK D j k u A)(hk:Keep qe A B):SlK D j k u B:=by obtain⟨a,c,e,h⟩:=h;exact⟨a,c,e,Nw.dat h hk⟩
def TuK.stab{D:Qk}{j:World}{k:List Fg}(u:Value)(A B:World)(h:TuK D j k u A)(hk:Keep qe A B):TuK D j k u B:=by obtain⟨a,c,e,h⟩:=h;exact⟨a,c,e,Nw.dat h hk⟩
def zvG{C:Q9}{R E I:List Nat}{n t b m i:Nat}{D:Qk}{w:World}{s:Rs}{v:ByteArray}(e:Env25 C R E I)(h:Ok25 C R E I n s)(hn:n<=25)(hi:i∈I)(hR:Rpl D t w b m s)(hG:Gd D w)(bH:∀o,¬D b o)(bJ:∀o,¬D m o)(aB:b≠m)(ht:t<1000000):
 Calls xT 22 #[.pointer (some ⟨b,0,none⟩),.int .u64 (i:Nat),.string v] w λe w'=>e=.returned (.tuple #[rcv (ztL s i v),.nilIface])/\Keep (λk=>k=b\/k=m) w w'/\Rpl (Nw D w w') (t+1) w' b m (ztM s i v):=by
 have hM:=zw;have aq:=(e.m i hi).1;obtain⟨ka,kc,h1,h2,h3⟩:=hR;have U:=(Y1.1 h1).1;have aw:=h2.lt;obtain⟨c,G⟩:=xm (zsq s i);have bR:c<=n:=by rw[G];exact h.ctr i
 obtain⟨nx,aH⟩:=xm (s.next);obtain⟨kl,au⟩:=xm (s.known.length);have aD:(zrZ s.recs i=none/\c=nx)\/(∃y,zrZ s.recs i=some y/\y.ctr<nx/\c=nx)\/(∃y,zrZ s.recs i=some y/\nx<=y.ctr/\c=y.ctr+1):=by
  rw[G,aH];unfold zsq;cases hg:zrZ s.recs i with
  |none=>exact .inl ⟨rfl,rfl⟩
  | some y=>
    dsimp only;by_cases av:s.next<=y.ctr
    .exact .inr (.inr ⟨y,rfl,av,by rw[VS av]⟩)
    .exact .inr (.inl ⟨y,rfl,b6,by rw[V2 av]⟩)
 have ag:=λW (hW:Below w.heap.size w W)=>zuD (w:=W) (c:=c) e h.k hi h.i.1 h.i.2 b6 (hG.keep (Keep.of_below' (S:=qe) hW (Zp _)) λ_ _ _=>id) (h3.mono (λ_ _ h=>h) λb o x J hx=>(tw (a:=⟨b,o,none⟩) (hW.block b (hG.2 b o J))).trans hx);obtain⟨kr,aF⟩:=xm (vh zn s.known (znP i s.id c));have bn:=qL aF;have bl:=qL au;rw[<-au,<-aF]at ag;have aG:ztL s i v=⟨i,s.id,c,v⟩:=by unfold ztL;rw[<-G]
 have aW:ztM s i v=⟨s.id,zr4 s.recs ⟨i,s.id,c,v⟩,vh zn s.known (znP i s.id c),c+1⟩:=by unfold ztM;rw[aG,<-G]
 have c0:w.cell? ⟨b,0,none⟩=some (.int .u64 s.id):=(zW h1 0 _ rfl).1;have c1:w.cell? ⟨b,1,none⟩=some (.map (some m)):=(zW h1 1 _ rfl).1;have c2:w.cell? ⟨b,2,none⟩=some (.slice ka kl kc):=by rw[au];exact(zW h1 2 _ rfl).1
 have c3:w.cell? ⟨b,3,none⟩=some (.int .u64 nx):=by rw[aH];exact(zW h1 3 _ rfl).1
 have c4:w.cell? ⟨b,4,none⟩=some (.bool false):=(zW h1 4 _ rfl).1;have H1:=qL h1;have HM:=qL h2;have bi:=qL ag;have br:=qL h;have bq:=qL aG;have bt:=qL aW;have HG:=qL hG;obtain⟨F,af⟩:∃q,q=s.id:=⟨_,rfl⟩;have ab:=qL af;rw[<-af]at c0;have bM:xT.follows .mixedOrders=true:=dN
 clear h1 h2 h3 ag h aG aW hG G aH au af aF;go_enter func22,ntmps22
 go_wp2_with fail
 go_region;obtain⟨w1,ah⟩:=xm ((w.alloc (.cells #[.int .u64 0,.int .u64 0,.int .u64 0,.string ⟨#[]⟩] 66)).drew);have az:Below w.heap.size w w1:=by rw[ah];exact((tB _ w).alloc (Zp _) _).drew
 have bK:w1.heap.size=w.heap.size+1:=by rw[ah];exact tE _ _
 have aY:w1.heap[w.heap.size]?=some (.cells #[.int .u64 0,.int .u64 0,.int .u64 0,.string ⟨#[]⟩] 66 (0,0)):=by rw[ah];exact tx w _
 have d1:w1.cell? ⟨b,1,none⟩=some (.map (some m)):=(tw (a:=⟨b,1,none⟩) (az.block b U)).trans c1;have ak:=qL az;have bz:=qL aY;rw[<-ah];clear ah az aY;have ax:∀(o:Obj)(W:World),W=w1.alloc o->Below w.heap.size w W/\W.heap.size=w.heap.size+2/\W.heap[w.heap.size]?=some (.cells #[.int .u64 0,.int .u64 0,.int .u64 0,.string ⟨#[]⟩] 66 (0,0)):=λo W hW=>by rw[hW];exact⟨ak.o.alloc b6 _,by rw[tE,bK],(tC _ _ _ b6).trans bz.o⟩
 have aO:=qL ax;clear ax;rcases aD with⟨hq,V⟩|⟨y,hq,av,V⟩|⟨y,hq,bS,V⟩;case' inl=>
  subst V
  go_wp2_with (at_lookup;refine zsX rfl _ _ rfl rfl (HM.o.keep (ak.o.block m aw)) aq rfl (λ_=>?_) λy Q=>by rw[hq]at Q;cases Q)
 case' inr.inl=>
  subst V
  go_wp2_with (at_lookup;refine zsX rfl _ _ rfl rfl (HM.o.keep (ak.o.block m aw)) aq rfl (λQ=>by rw[hq]at Q;cases Q) λy' Q=>?_;rw[hq]at Q;cases Q)
 case' inr.inr=>
  have bg:=qL V;clear V
  go_wp2_with (first
   |(at_lookup;refine zsX rfl _ _ rfl rfl (HM.o.keep (ak.o.block m aw)) aq rfl (λQ=>by rw[hq]at Q;cases Q) λy' Q=>?_;rw[hq]at Q;cases Q)
   |(go_at_call 51;refine(zt8 bg.o b6 _).mono ?_;rintro e w3 ⟨rfl,rfl⟩))
 all_goals
  refine wp_some (R:=λW=>Below w.heap.size w W/\W.heap.size=w.heap.size+2/\W.heap[w.heap.size]?=some (.cells #[.int .u64 0,.int .u64 0,.int .u64 0,.string ⟨#[]⟩] 66 (0,0))) (aO.o _ _ rfl) ?_;rintro j ⟨an,bT,aZ⟩;have e0:j.cell? ⟨b,0,none⟩=some (.int .u64 F):=(tw (a:=⟨b,0,none⟩) (an.block b U)).trans c0;have e2:j.cell? ⟨b,2,none⟩=some (.slice ka kl kc):=(tw (a:=⟨b,2,none⟩) (an.block b U)).trans c2;have aP:=qL λW (hW:Below w.heap.size w W)=>bi.o W hW;rw[<-ab.o]at aP;have am:=qL an;have bA:=qL aZ;have aU:Below j.heap.size j j.drew:=(tB _ _).drew;clear an aZ;refine Kg (Sw:=qe) 16 109 (λw9=>Below j.heap.size j w9/\w9.cell? ⟨b,0,none⟩=some (.int .u64 F)/\w9.cell? ⟨b,2,none⟩=some (.slice ka kl kc)) dN dN rfl ⟨aU,e0,e2⟩ ?_;simp only[wT,Wg];refine Jz ?_;refine V7 (TuK D j kr) TuK.stab rfl ?_ ?_
  .intro a5 A G hk Y K N;have HK:=qL N;clear N;simp[Rds,zA,lk,Op.operands,Call.operands,RdEq]at Y;go_simp;refine(aP.o A (am.o.trans (G.1.mono am.o.size))).mono ?_;rintro e w3 ⟨H,k3,rfl,aT,ao⟩;have aE:Keep qe A w3:=Keep.of_below' aT (Zp _);exact HK.o _ _ aE ⟨G.1.trans (aT.mono G.1.size),aE.cell_some G.2.1 id,aE.cell_some G.2.2 id⟩ ⟨H,k3,rfl,ao.mono (λb o h=>h.imp id λh=>⟨V3 G.1.size h.1,h.2⟩) λ_ _ _ _ h=>h⟩
  simp only[XV,Yf];refine Jz ?_;refine V7 (TuK D j kr) TuK.stab rfl ?_ ?_
  .intro a5 A G hk Y K N;have HK:=qL N;clear N;simp[Rds,zA,lk,Op.operands,Call.operands,RdEq]at Y;obtain⟨_,⟨e1,e2⟩,H,k3,rfl,J⟩:=Y;go_simp;exact HK.o _ _ (Keep.refl _ _) G ⟨H,k3,rfl,J⟩
  simp only[XV,Yf];refine Jz ?_;refine V7 (SlK D j kr) SlK.stab rfl ?_ ?_
  .intro a5 A G hk Y K N;have HK:=qL N;clear N;simp[Rds,zA,lk,Op.operands,Call.operands,RdEq]at Y;obtain⟨_,⟨e1,e2⟩,H,k3,rfl,J⟩:=Y;go_simp;exact HK.o _ _ (Keep.refl _ _) G ⟨H,k3,rfl,J⟩
  simp only[XV,Yf];refine Jz ?_;refine V7 (λu _=>u=.nilIface) (yj _) rfl ?_ ?_
  .intro a5 A G hk Y K N;have HK:=qL N;clear N;simp[Rds,zA,lk,Op.operands,Call.operands,RdEq]at Y;obtain⟨_,⟨e1,e2⟩,H,k3,rfl,J⟩:=Y;go_simp;exact HK.o _ _ (Keep.refl _ _) G rfl
  simp only[XV,Yf];refine Jz ?_;refine V7 (SlK D j kr) SlK.stab rfl ?_ ?_
  .intro a5 A G hk Y K N;have HK:=qL N;clear N;simp[Rds,zA,lk,Op.operands,Call.operands,RdEq]at Y;obtain⟨_,⟨e1,e2⟩,H,k3,rfl,J⟩:=Y;go_simp;exact HK.o _ _ (Keep.refl _ _) G ⟨H,k3,rfl,J⟩
  simp only[XV,Yf];refine Jz ?_;intro j ae bI;simp only[finG,WZ,XV,Yf,wR,Wo,W5];simp only[Act.put,wF,wW,wX];rintro bZ bF bY bE cb bG _ ⟨H,k3,rfl,ao⟩;clear bF bE bG;have aC:Below w.heap.size w j:=am.o.trans (ae.1.mono am.o.size);have ba:=(ae.1.block _ b6).trans bA.o;have bU:=ae.1.size;have e1:j.cell? ⟨b,1,none⟩=some (.map (some m)):=(tw (a:=⟨b,1,none⟩) (aC.block b U)).trans c1;have bh:=qL ao;have aN:=qL aC;have bC:=qL ba;have bP:=ae.2.1;clear ao ae bI aC ba aU e0 e2
  go_wp2_with fail
  refine wp_some (R:=λW=>Below j.heap.size j W/\W.heap[j.heap.size]?=some (.cells #[.int .u64 i,.int .u64 F,.int .u64 c,.string v] 66 (0,0))/\W.heap.size=j.heap.size+1) ⟨(tB _ _).alloc (Zp _) _,tx _ _,b8⟩ ?_;rintro w4 ⟨aA,M,bW⟩;have ac:Below w.heap.size w w4.drew:=(aN.o.trans (aA.mono aN.o.size)).drew;obtain⟨v0,st,we,wf,q1,q2,q3,q4,q5⟩:=zu8 (w:=w4.drew) (t:=t) (B:=m) (l:=s.recs) (HM.o.keep (ac.block m aw)) br.o.a dG (y:=⟨i,F,c,v⟩) aq;dsimp only[rcv]at q1 q2;have ai:we.heap[j.heap.size]?=some (.cells #[.int .u64 i,.int .u64 F,.int .u64 c,.string v] 66 (0,0)):=(q5 _ b6).trans M;have aJ:∀k,k<w4.heap.size->k≠m->wf.heap[k]?=w4.heap[k]?:=λk hk X=>q4.block k hk λe=>X (dM e);have O:wf.heap[b]?=some (.cells #[.int .u64 F,.map (some m),.slice ka kl kc,.int .u64 s.next,.bool false] 91 (0,0)):=(aJ b b6 aB).trans ((ac.block b U).trans (by rw[ab.o,bl.o];exact H1.o));have f1:w4.cell? ⟨b,1,none⟩=some (.map (some m)):=(tw (a:=⟨b,1,none⟩) (ac.block b U)).trans c1;have x0:w4.cell? ⟨j.heap.size,0,none⟩=some (.int .u64 i):=(zW M 0 _ rfl).1;have x1:w4.cell? ⟨j.heap.size,1,none⟩=some (.int .u64 F):=(zW M 1 _ rfl).1;have x2:w4.cell? ⟨j.heap.size,2,none⟩=some (.int .u64 c):=(zW M 2 _ rfl).1;have x3:w4.cell? ⟨j.heap.size,3,none⟩=some (.string v):=(zW M 3 _ rfl).1;have y0:we.cell? ⟨j.heap.size,0,none⟩=some (.int .u64 i):=(zW ai 0 _ rfl).1;have y1:we.cell? ⟨j.heap.size,1,none⟩=some (.int .u64 F):=(zW ai 1 _ rfl).1;have y2:we.cell? ⟨j.heap.size,2,none⟩=some (.int .u64 c):=(zW ai 2 _ rfl).1;have y3:we.cell? ⟨j.heap.size,3,none⟩=some (.string v):=(zW ai 3 _ rfl).1
  have g2:wf.cell? ⟨b,2,none⟩=some (.slice ka kl kc):=(zW O 2 _ rfl).1;have z2:wf.frozen? ⟨b,2,none⟩=false:=(zW O 2 _ rfl).2;have bu:=qL q3;have aR:=qL q4;have bw:=qL aJ;have be:=qL O;have bB:=qL M;have aM:=qL ac;have aL:=qL aA;clear q3 q4 q5 aJ O M ai ac aA;go_region;obtain⟨A,L⟩:=xm (wf.setCell ⟨b,2,none⟩ (.slice H kr.length k3));have T:A.heap[b]?=some (.cells #[.int .u64 F,.map (some m),.slice H kr.length k3,.int .u64 s.next,.bool false] 91 (0,0)):=(by rw[L];exact zsw be.o 2 _);have ar:∀k,k<w4.heap.size->k≠m->k≠b->A.heap[k]?=w4.heap[k]?:=λk h1 h2 h3=>(by rw[L];exact(tG _ _ _ _ h3).trans (bw.o k h1 h2));have bQ:=aM.o.size;have bX:w4.heap.size<=A.heap.size:=(by rw[L];simp;exact aR.o.size);have aK:A.heap[w.heap.size]?=some (.cells #[.int .u64 0,.int .u64 0,.int .u64 0,.string ⟨#[]⟩] 66 (0,0)):=(ar _ b6 b6 b6).trans ((aL.o.block _ b6).trans bC.o);have aj:A.heap[j.heap.size]?=some (.cells #[.int .u64 i,.int .u64 F,.int .u64 c,.string v] 66 (0,0)):=(ar _ b6 b6 b6).trans bB.o;have aQ:qA (Keep (λk=>k=b\/k=m) w A):=qL (by
   rw[L];exact(((Keep.of_below' (S:=λk=>k=b\/k=m) aM.o (Zp _)).grown aR.o λk e _=>.inr (dM e.symm)).setCell (p:=⟨b,2,none⟩) (λ_=>.inl rfl) _))
  have bp:qA (MR (t+1) m A (zr4 s.recs ⟨i,F,c,v⟩)):=qL (bu.o.keep (by rw[L];exact tG _ _ _ _ (Um aB)));rw[<-L];have b3:A.cell? ⟨b,3,none⟩=some (.int .u64 s.next):=(zW T 3 _ rfl).1;have r3:A.frozen? ⟨b,3,none⟩=false:=(zW T 3 _ rfl).2;have b4:A.cell? ⟨b,4,none⟩=some (.bool false):=(zW T 4 _ rfl).1;have r4:A.frozen? ⟨b,4,none⟩=false:=(zW T 4 _ rfl).2;have hz:=λk x h=>zW aK k x h;have n0:A.cell? ⟨w.heap.size,0,none⟩=some (.int .u64 0):=(hz 0 _ rfl).1;have n1:A.cell? ⟨w.heap.size,1,none⟩=some (.int .u64 0):=(hz 1 _ rfl).1;have n2:A.cell? ⟨w.heap.size,2,none⟩=some (.int .u64 0):=(hz 2 _ rfl).1;have n3:A.cell? ⟨w.heap.size,3,none⟩=some (.string ⟨#[]⟩):=(hz 3 _ rfl).1;have m0:A.frozen? ⟨w.heap.size,0,none⟩=false:=(hz 0 _ rfl).2;have m1:A.frozen? ⟨w.heap.size,1,none⟩=false:=(hz 1 _ rfl).2;have m2:A.frozen? ⟨w.heap.size,2,none⟩=false:=(hz 2 _ rfl).2;have m3:A.frozen? ⟨w.heap.size,3,none⟩=false:=(hz 3 _ rfl).2;have p0:A.cell? ⟨j.heap.size,0,none⟩=some (.int .u64 i):=(zW aj 0 _ rfl).1;have p1:A.cell? ⟨j.heap.size,1,none⟩=some (.int .u64 F):=(zW aj 1 _ rfl).1;have p2:A.cell? ⟨j.heap.size,2,none⟩=some (.int .u64 c):=(zW aj 2 _ rfl).1;have p3:A.cell? ⟨j.heap.size,3,none⟩=some (.string v):=(zW aj 3 _ rfl).1;have bO:j.heap.size≠w.heap.size:=b6;have ad:b≠w.heap.size:=b6;have bN:b≠j.heap.size:=b6;have bc:=qL T;have bD:=qL aK;have bj:=qL ar;clear L T ar aK aj hz q1 q2 x0 x1 x2 x3 y0 y1 y2 y3 f1 g2 z2
  go_wp2_with (go_at_call 51;refine(zt8 (x:=c) (c:=c+1) rfl b6 _).mono ?_;rintro e w6 ⟨rfl,rfl⟩)
  have bL:∀x y:Value,((w6.setCell ⟨b,3,none⟩ x).setCell ⟨b,4,none⟩ y).heap[w.heap.size]?=some (.cells #[.int .u64 0,.int .u64 0,.int .u64 0,.string ⟨#[]⟩] 66 (0,0)):=λx y=>(tG _ _ _ _ (Um ad)).trans ((tG _ _ _ _ (Um ad)).trans bD.o);refine tI (zs4 (cs:=#[.int .u64 i,.int .u64 F,.int .u64 c,.string v]) rfl rfl (by simpa using zsw (zsw (zsw (zsw (bL _ _) 0 _) 1 _) 2 _) 3 _) underlying66 dN) rfl ?_;have P:¬(w.heap.size<w.heap.size):=tr _;have aV:∀x y a1 a2 H a4:Value,Keep (λk=>k=b\/k=m) w ((((((w6.setCell ⟨b,3,none⟩ x).setCell ⟨b,4,none⟩ y).setCell ⟨w.heap.size,0,none⟩ a1).setCell ⟨w.heap.size,1,none⟩ a2).setCell ⟨w.heap.size,2,none⟩ H).setCell ⟨w.heap.size,3,none⟩ a4):=λx y a1 a2 H a4=>
   (((((aQ.o.setCell (p:=⟨b,3,none⟩) (λ_=>.inl rfl) x).setCell (p:=⟨b,4,none⟩) (λ_=>.inl rfl) y).setCell (p:=⟨w.heap.size,0,none⟩) (λh=>absurd h P) a1).setCell (p:=⟨w.heap.size,1,none⟩) (λh=>absurd h P) a2).setCell (p:=⟨w.heap.size,2,none⟩) (λh=>absurd h P) H).setCell (p:=⟨w.heap.size,3,none⟩) (λh=>absurd h P) a4
  refine⟨by rw[bq.o,<-ab.o];rfl,aV _ _ _ _ _ _,?_⟩;rw[bt.o,<-bn.o];have aI:∀(W:World)(k:Nat),k≠w.heap.size->∀a1 a2 H a4:Value,((((W.setCell ⟨w.heap.size,0,none⟩ a1).setCell ⟨w.heap.size,1,none⟩ a2).setCell ⟨w.heap.size,2,none⟩ H).setCell ⟨w.heap.size,3,none⟩ a4).heap[k]?=W.heap[k]?:=λW k hk _ _ _ _=>(tG _ _ _ _ hk).trans ((tG _ _ _ _ hk).trans ((tG _ _ _ _ hk).trans (tG _ _ _ _ hk)));have aX:∀k,k≠b->∀x y:Value,((w6.setCell ⟨b,3,none⟩ x).setCell ⟨b,4,none⟩ y).heap[k]?=w6.heap[k]?:=λk hk _ _=>(tG _ _ _ _ hk).trans (tG _ _ _ _ hk);have aS:=bp.o;rw[ab.o]at aS;refine⟨H,k3,?_,aS.keep ((aI _ m b6 _ _ _ _).trans (aX m (Um aB) _ _)),bh.o.mono (λZ o h=>h.imp id λh=>⟨b6,?_⟩) λZ o x J hx=>?_⟩
  .refine(aI _ b ad _ _ _ _).trans ?_;have:=zsw (zsw bc.o 3 (.int .u64 ((c+1:Nat):Int))) 4 (.bool false);rw[ab.o]at this;simpa using this
  .have:=(aV (.int .u64 (c+1)) (.bool false) (.int .u64 i) (.int .u64 F) (.int .u64 c) (.string v)).size;have h5:=aQ.o.size;simp;omega
  .have ay:=tz j ⟨Z,o,none⟩ hx;have X:Z≠b/\Z≠m/\Z≠w.heap.size:=by
    rcases J with J|J
    .have:=HG.o.2 Z o J;exact⟨λe=>bH o (e▸J),λe=>bJ o (e▸J),b6⟩
    .exact⟨b6,b6,b6⟩
   exact(tw (a:=⟨Z,o,none⟩) ((aI _ Z X.2.2 _ _ _ _).trans ((aX Z X.1 _ _).trans ((bj.o Z (by have:Z<j.heap.size:=ay;omega) X.2.1 X.1).trans (aL.o.block Z ay))))).trans hx
end
section
open Go.Maps
attribute [go_sem] rcp rcc
def zvf(x y:Rc):Cn xT 73 [rcp x,rcp y] (.v (.bool (zs7 x y))):=by
 unfold zs7;refine zt func73 2 ?_;refine pw ?_;refine .i ?_ ?_<;>intro h<;>first|refine pw ?_|exact pd
 .simp[h]
 .refine .i ?_ ?_<;>intro j<;>first|refine pw ?_|exact pd
  .simp[h,j]
  .simp[h,j]
attribute [-go_sem] z7
def ztH{t B:Nat}{w:World}{l:List Rc}(h:MR t B w l){r:Nat}(C:r<zk):(Instr.lookup 89 (.map (some B)) (.int .u64 (r:Nat)) true).run xT w=.ok (.tuple #[rcv ((zrZ l r).getD zRc),.bool (zrZ l r).isSome]) w:=by obtain⟨D,u,E,y,A⟩:=h;obtain⟨v,F,j,o⟩:=u.look_ok vF underlying89 (zsv w) (zd:=.held zR) (zp:=[]) rfl (Zq C);rw[A r]at o;unfold rV at o;cases o;rw[y r]at j;exact j
def zuc{t B:Nat}{w:World}{l:List Rc}(h:MR t B w l)(F:zr8 l)(G:t<maxLen){y:Rc}(H:y.item<zk):∃o,(Instr.mapUpdate 89 (.map (some B)) (.int .u64 (y.item:Nat)) (rcv y)).run xT w=.ok () o/\MR (t+1) B o (zr4 l y)/\w.grownBy o (some B):=by obtain⟨D,u,A,C,E⟩:=h;obtain⟨o,j,I,J⟩:=u.update vF underlying89 G (Zq H) (val:=rcv y) rfl;exact⟨o,j,MR.put A C E F I,J⟩
def ztb{D:Qk}{w:World}(x:Rc):Dat D w (.agg #[.int .u64 x.item,.int .u64 x.rep,.int .u64 x.ctr,.string x.val]) (rcp x):=by
 refine .agg _ _ rfl (λi hi=>?_) λi p j=>?_
 .match i,hi with
  |0,_=>rfl
  |1,_=>rfl
  |2,_=>rfl
  |3,_=>rfl
 .match i,j with
  |0,j=>cases j;exact .v _
  |1,j=>cases j;exact .v _
  |2,j=>cases j;exact .v _
  |3,j=>cases j;exact .v _
def zv2{D:Qk}{t b m:Nat}{w:World}{l:List Rc}{x:Rc}(hG:Gd D w)(hb:w.cell? ⟨b,1,none⟩=some (.map (some m)))(hm:MR t m w l)(ha:zr8 l)(ht:t<1000000)(hx:x.item<zk)(an:∀o,¬D m o):
 Calls xT 31 #[.pointer (some ⟨b,0,none⟩),rcv x] w λe w'=>(∃u,e=.returned u)/\MR (t+1) m w' (zse l x)/\Keep (λk=>k=m) w w':=by
 have Y:=tz w _ hb;have ab:=hm.lt;obtain⟨B,K⟩:=xm (w.alloc (.cells #[.int .u64 x.item,.int .u64 x.rep,.int .u64 x.ctr,.string x.val] 66));have O:Below w.heap.size w B:=by rw[K];exact(tB _ w).alloc (Zp _) _
 have ag:B.heap.size=w.heap.size+1:=by rw[K];exact tE _ _
 have F:B.heap[w.heap.size]?=some (.cells #[.int .u64 x.item,.int .u64 x.rep,.int .u64 x.ctr,.string x.val] 66 (0,0)):=by rw[K];exact tx w _
 have Q:MR t m B l:=hm.keep (O.block m ab);have q1:=ztH (w:=B.drew) Q hx;have q2:=ztH (w:=(B.alloc (.cells #[.int .u64 0,.int .u64 0,.int .u64 0,.string ⟨#[]⟩] 66)).drew) (Q.keep (tC _ _ _ (by show m<B.heap.size;omega))) hx;have b1:B.cell? ⟨b,1,none⟩=some (.map (some m)):=(tw (a:=⟨b,1,none⟩) (O.block b Y)).trans hb;obtain⟨y,hy⟩:=xm ((zrZ l x.item).getD zRc);obtain⟨ok,ac⟩:=xm ((zrZ l x.item).isSome);rw[<-hy,<-ac]at q1 q2;dsimp only[rcv]at q1 q2⊢;have x0:B.cell? ⟨w.heap.size,0,none⟩=some (.int .u64 x.item):=(zW F 0 _ rfl).1;have x1:B.cell? ⟨w.heap.size,1,none⟩=some (.int .u64 x.rep):=(zW F 1 _ rfl).1;have x2:B.cell? ⟨w.heap.size,2,none⟩=some (.int .u64 x.ctr):=(zW F 2 _ rfl).1;have x3:B.cell? ⟨w.heap.size,3,none⟩=some (.string x.val):=(zW F 3 _ rfl).1;have HY:=qL hy;have af:=qL ac;have ah:=qL Q;have ai:=qL F;have U:=qL O;have HG:=qL hG;have HA:=qL ha;have am:xT.follows .mixedOrders=true:=dN
 clear hy ac Q F O hG ha hm hb;go_enter func31,ntmps31
 go_wp2_with fail
 rw [<-K];clear K;go_region;all_goals
  obtain⟨C,E⟩:=xm ((B.alloc (.cells #[.int .u64 y.item,.int .u64 y.rep,.int .u64 y.ctr,.string y.val] 66)).drew);have P:Below w.heap.size w C:=(by rw[E];exact(U.o.alloc b6 _).drew);have ao:C.heap.size=w.heap.size+2:=(by rw[E];show (B.alloc _).heap.size=_;rw[tE,ag]);have M:C.heap[w.heap.size+1]?=some (.cells #[.int .u64 y.item,.int .u64 y.rep,.int .u64 y.ctr,.string y.val] 66 (0,0)):=(by rw[E,<-ag];exact tx B _);have G:C.heap[w.heap.size]?=some (.cells #[.int .u64 x.item,.int .u64 x.rep,.int .u64 x.ctr,.string x.val] 66 (0,0)):=(by rw[E];exact(tC _ _ _ b6).trans ai.o);rw[<-E];have H:=qL P;have aj:=qL G;have I:=qL (ah.o.keep ((P.block m ab).trans (U.o.block m ab).symm));have ak:C.cell? ⟨b,1,none⟩=some (.map (some m)):=(tw (a:=⟨b,1,none⟩) ((P.block b Y).trans (U.o.block b Y).symm)).trans b1;have z0:C.cell? ⟨w.heap.size,0,none⟩=some (.int .u64 x.item):=(zW G 0 _ rfl).1;have z1:C.cell? ⟨w.heap.size,1,none⟩=some (.int .u64 x.rep):=(zW G 1 _ rfl).1;have z2:C.cell? ⟨w.heap.size,2,none⟩=some (.int .u64 x.ctr):=(zW G 2 _ rfl).1;have z3:C.cell? ⟨w.heap.size,3,none⟩=some (.string x.val):=(zW G 3 _ rfl).1;have y0:C.cell? ⟨w.heap.size+1,0,none⟩=some (.int .u64 y.item):=(zW M 0 _ rfl).1;have y1:C.cell? ⟨w.heap.size+1,1,none⟩=some (.int .u64 y.rep):=(zW M 1 _ rfl).1;have y2:C.cell? ⟨w.heap.size+1,2,none⟩=some (.int .u64 y.ctr):=(zW M 2 _ rfl).1;have y3:C.cell? ⟨w.heap.size+1,3,none⟩=some (.string y.val):=(zW M 3 _ rfl).1;clear E P M G x0 x1 x2 x3 q1 q2 b1;cases ok with
  | false=>
    have hn:zrZ l x.item=none:=by
     have:=af.o;cases hg:zrZ l x.item with
     |none=>rfl
     |some z=>rw[hg]at this;cases this
    obtain⟨T,r1,r2,r3⟩:=zuc (w:=C.drew) I.o HA.o dG (y:=x) hx;dsimp only[rcv]at r1;have V:=qL r2;have X:=qL r3;clear r2 r3
    go_wp2_with fail
    go_region;all_goals
     go_wp2_with fail
     go_end0
     refine⟨⟨_,rfl⟩,?_,(Keep.of_below' H.o (Zp _)).drew.grown X.o λk e _=>dM e.symm⟩;unfold zse;rw[hn];exact V.o
  | true=>
    have hn:zrZ l x.item=some y:=by
     have h1:=af.o;have h2:=HY.o;cases hg:zrZ l x.item with
     |none=>rw[hg]at h1;cases h1
     |some z=>rw[hg]at h2;rw[h2];rfl
    have J:=cn_bool (zvf x y) (vs:=#[.agg #[.int .u64 x.item,.int .u64 x.rep,.int .u64 x.ctr,.string x.val],.agg #[.int .u64 y.item,.int .u64 y.rep,.int .u64 y.ctr,.string y.val]]) (HG.o.keep (Keep.of_below' (S:=qe) H.o (Zp _)) λ_ _ _=>id).1 (HG.o.keep (Keep.of_below' (S:=qe) H.o (Zp _)) λ_ _ _=>id).2 rfl λj p hp=>by
     match j,hp with
     |0,hp=>cases hp;exact ztb x
     |1,hp=>cases hp;exact ztb y
     |j+2,hp=>simp at hp
    obtain⟨la,Z⟩:=xm (zs7 x y);rw[<-Z]at J;have ae:=qL J;have ad:=qL Z;clear J Z;cases la with
    | false=>
      go_wp2_with (go_at_call 73;refine ae.o.mono ?_;rintro e T ⟨rfl,A⟩;have N:=qL A;clear A)
      go_end0
      have hk:=(Keep.of_below' (S:=λk=>k=m) H.o (Zp _)).trans (Keep.of_below' N.o (Zp _));refine⟨⟨_,rfl⟩,?_,hk⟩;unfold zse;rw[hn];dsimp only;rw[<-ad.o,V2 b8];exact(I.o.keep (N.o.block m I.o.lt)).mono b6
    | true=>
      go_wp2_with (go_at_call 73;refine ae.o.mono ?_;rintro e T ⟨rfl,A⟩
                   obtain⟨w4,r1,r2,r3⟩:=zuc (w:=T.drew) (I.o.keep (A.block m I.o.lt)) HA.o dG (y:=x) hx;dsimp only[rcv]at r1;have L:=(A.block _ b6).trans aj.o;have b3:T.cell? ⟨b,1,none⟩=some (.map (some m)):=(tw (a:=⟨b,1,none⟩) (A.block b b6)).trans ak;have v0:T.cell? ⟨w.heap.size,0,none⟩=some (.int .u64 x.item):=(zW L 0 _ rfl).1;have v1:T.cell? ⟨w.heap.size,1,none⟩=some (.int .u64 x.rep):=(zW L 1 _ rfl).1;have v2:T.cell? ⟨w.heap.size,2,none⟩=some (.int .u64 x.ctr):=(zW L 2 _ rfl).1;have v3:T.cell? ⟨w.heap.size,3,none⟩=some (.string x.val):=(zW L 3 _ rfl).1;have V:=qL r2;have X:=qL r3;have N:=qL A;clear r2 r3 A L)
      go_region;all_goals
       go_wp2_with fail
       go_end0
       have hk:=(Keep.of_below' (S:=λk=>k=m) H.o (Zp _)).trans (Keep.of_below' N.o (Zp _));refine⟨⟨_,rfl⟩,?_,hk.drew.grown X.o λk e _=>dM e.symm⟩;unfold zse;rw[hn];dsimp only;rw[<-ad.o,VS rfl];exact V.o
end
section
attribute [go_sem] lp
def rfc(s:Rs):List PV:=[.v (.int .u64 s.id),lp s.recs,kp s.known,.v (.int .u64 s.next),.v (.bool false)]
attribute [go_sem] rfc
def zuQ(s:Rs)(i:Nat)(u:s.recs.length<=1000000):Cn xT 53 [.cp (rfc s) 0,.v (.int .u64 i)] (.v (.int .i64 (ixR s.recs i 0))):=by
 refine zt func53 2 ?_;refine pw ?_;refine pLoop.go (λk=>k<=s.recs.length/\ixR s.recs i 0=ixR (s.recs.drop k) i k) (λk=>[(5,.v (.int .i64 (k:Nat)))]) (λ_=>[]) (λk=>s.recs.length-k) 0 [5] ?_ ?_ ?_
 .exact⟨vj _,rfl⟩
 .exact pd
 .rintro k ⟨hk,j⟩;refine pw ?_;refine .i ?_ ?_<;>intro h<;>first|refine pw ?_|exact pd
  .rw[V1 h,ixR]at j;refine pw ?_;refine .i ?_ ?_<;>intro o<;>first|refine pw ?_|exact pd
   .rw[VS o]at j;rw[j]
   .rw[V2 o]at j;exact⟨k+1,⟨h,j⟩,b6,rfl⟩
  .rw[j,wE b6];rfl
def ztX(x y:Rc):Cn xT 60 [rcp x,rcp y] (.v (.bool (zs7 x y))):=by
 unfold zs7;refine zt func60 2 ?_;refine pw ?_;refine .i ?_ ?_<;>intro h<;>first|refine pw ?_|exact pd
 .simp[h]
 .refine .i ?_ ?_<;>intro j<;>first|refine pw ?_|exact pd
  .simp[h,j]
  .simp[h,j]
def ztz(s:Rs)(k:List Fg)(items:List Iv)(F:s.recs.length<=1000000)(E:∀x∈s.recs,x.ctr<zk)(hi:Nrm items)(A:items.length<=1000000)(C:RightK k)(hz:QW k):Cn xT 59 [.cp (rfc s) 0,kp k,rg items] (lp (zs0 s k items)):=by
 unfold zs0;refine zt func59 3 ?_;refine pw ?_;refine pLoop.go (λj=>j<=s.recs.length) (λj=>[(7,.sl (((s.recs.take j).filter λx=>mem items x.item && !hasK k x.item x.rep x.ctr).map rcc) (.r 44 4)),(8,.v (.int .i64 (j:Nat)))]) (λ_=>[]) (λk=>s.recs.length-k) 0 [7,8] ?_ ?_ ?_
 .exact vj _
 .exact pd
 .rintro j hk;have B:((s.recs.take j).filter λx=>mem items x.item && !hasK k x.item x.rep x.ctr).length<=j:=V3 (WH _ _) b7;refine pw ?_;refine .i ?_ ?_<;>intro h<;>first|refine pw ?_|exact pd
  .have o:s.recs.take (j+1)=s.recs.take j++[s.recs[j]]:=vw h;have w:=E _ (X3 h);refine pw ?_;refine .c (kU items s.recs[j].item b6) ?_;refine .i ?_ ?_<;>intro u<;>first|refine pw ?_|exact pd
   .refine .c (zid k s.recs[j].item s.recs[j].rep s.recs[j].ctr C w hz) ?_;refine .i ?_ ?_<;>intro y<;>first|refine pw ?_|exact pd
    .refine⟨j+1,h,b6,?_,rfl⟩;rw[o,uw,ux,u,y];simp;rfl
    .refine⟨j+1,h,b6,?_,rfl⟩;rw[o,uw,ux,u,y];simp
   .refine⟨j+1,h,b6,?_,rfl⟩;rw[o,uw,ux,u];simp
  .rw[ww b6]
def ztR(l:List Opn):Bool:=decide (l.length<=25) && l.all λo=>decide (o.val.size<=100) && decide (o.items.length<=10)
attribute [go_sem] opc
end
end Go.Proofs.YtjdjjlkifdimkaaGreatDoor
