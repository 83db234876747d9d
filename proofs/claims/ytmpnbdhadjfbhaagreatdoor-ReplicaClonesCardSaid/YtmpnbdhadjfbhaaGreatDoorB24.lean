import Derived.Test.YtmpnbdhadjfbhaaGreatDoorB23
set_option maxHeartbeats 16000000
set_option linter.all false
set_option maxRecDepth 100000
namespace Go.Proofs.YtmpnbdhadjfbhaaGreatDoor
def Tu:=@Go.heap_alloc2_old
def TC:=@Go.heap_alloc2_new
open Go.RowKit
open Go.Proofs.Tryz
open Go.Proofs.Tryz renaming prog->xt
section
attribute [-go_sem] z7
def RwE(base:Nat)(w:World)(u:Value)(v:List En)(X:Nat->En->Value->Prop):Prop:=
 ∃j,w.ownsRow base 181 3 u v.length j/\∀i (h:i<v.length),j[i*3]?=some (uV v[i].rep)/\j[i*3+1]?=some (uV v[i].max)/\∃o,j[i*3+2]?=some o/\X i v[i] o
def RwE.imp{base:Nat}{w:World}{u:Value}{v:List En}{X Y:Nat->En->Value->Prop}(h:RwE base w u v X)(hi:∀i e o,i<v.length->X i e o->Y i e o):RwE base w u v Y:=by obtain⟨C,A,B⟩:=h;refine⟨C,A,λi j=>?_⟩;obtain⟨a,b,o,c,d⟩:=B i j;exact⟨a,b,o,c,hi i _ o j d⟩
def RwE.shape{base:Nat}{w:World}{u:Value}{v:List En}{X:Nat->En->Value->Prop}(h:RwE base w u v X):∃B j,u=.slice B v.length j/\v.length<=j/\j<=maxLen/\(v≠[]->∃g o,B=some ⟨g,0,none⟩/\base<=g/\g<w.heap.size/\w.heap[g]?=some (.cells o 181 (0,0))/\0<j):=by
 obtain⟨J,F,_⟩:=h;rcases F.2 with⟨rfl,E⟩|⟨g,j,o,rfl,G,C,I,H,_,_⟩
 .have:v=[]:=wY.1 E;subst this;exact⟨none,0,rfl,Zp _,b8,λh=>absurd rfl h⟩
 .refine⟨_,j,rfl,I,H,λA=>⟨g,o,rfl,G,(Yf.1 C).1,C,?_⟩⟩;have:=wX.2 A;omega
def RwE.at{base g n u:Nat}{w:World}{v:List En}{X:Nat->En->Value->Prop}(h:RwE base w (.slice (some ⟨g,0,none⟩) n u) v X)(M:0<u){i:Nat}(hi:i<v.length):
 w.cell? ⟨g,i*3,none⟩=some (uV v[i].rep)/\w.frozen? ⟨g,i*3,none⟩=false/\w.cell? ⟨g,i*3+1,none⟩=some (uV v[i].max)/\w.frozen? ⟨g,i*3+1,none⟩=false/\∃B,w.cell? ⟨g,i*3+2,none⟩=some B/\w.frozen? ⟨g,i*3+2,none⟩=false/\X i v[i] B:=by
 obtain⟨K,F,H⟩:=h;obtain⟨a,b,B,c,d⟩:=H i hi;have C:∀o,w.frozen? ⟨g,o,none⟩=false:=by
  rcases F.2 with⟨e,_⟩|⟨L,E,G,e,_,I,_⟩
  .cases e
  .cases e;intro o;simp[World.frozen?,I]
 have A:∀j x,K[j]?=some x->w.cell? ⟨g,j,none⟩=some x:=λj x J=>by have:=tK F (g:=g) (by cases u with|zero=>omega|succ c=>rfl) j x J;rw[zh,wn]at this;exact this
 exact⟨A _ _ a,C _,A _ _ b,C _,B,A _ _ c,C _,d⟩
def RwE.set{base g u j:Nat}{w:World}{v:List En}{X:Nat->En->Value->Prop}{o:Value}(h:RwE base w (.slice (some ⟨g,0,none⟩) v.length u) v X){Y:Nat->En->Value->Prop}(H:∀i (h:i<v.length) B,i≠j->X i v[i] B->Y i v[i] B)(K:j<v.length)(E:Y j v[j] o):
 RwE base (w.setCell ⟨g,j*3+2,none⟩ o) (.slice (some ⟨g,0,none⟩) v.length u) v Y:=by
 obtain⟨J,F,G⟩:=h;obtain⟨I,_⟩:=F.stored (j*3+2) o;refine⟨J.set (j*3+2) o,I,λi hi=>?_⟩;obtain⟨a,b,B,c,d⟩:=G i hi;refine⟨by rw[wW a8];exact a,by rw[wW a8];exact b,?_⟩;by_cases A:i=j
 .subst A;have C:=(Zw.1 c).1;exact⟨o,by rw[WP C],E⟩
 .exact⟨B,by rw[wW a8];exact c,H i hi B A d⟩
def RwE.keep{base:Nat}{w w':World}{u:Value}{v:List En}{X:Nat->En->Value->Prop}(h:RwE base w u v X)(hb:∀k,k<w.heap.size->w'.heap[k]?=w.heap[k]?):RwE base w' u v X:=by
 obtain⟨xs,A,C⟩:=h;refine⟨xs,⟨A.1,?_⟩,C⟩;rcases A.2 with h|⟨g,j,o,e,E,B,r⟩
 .exact .inl h
 .exact .inr ⟨g,j,o,e,E,(hb g (Yf.1 B).1).trans B,r⟩
def RwE.mu{base:Nat}{w:World}{u:Value}{v:List En}{X:Nat->En->Value->Prop}(h:RwE base w u v X)(L:∀i e o,X i e o->MuI (base<=·) w o):MuE (base<=·) w u:=by
 obtain⟨F,A,rfl,I,J,K⟩:=h.shape;refine⟨v.length,F,A,rfl,I,J,λE=>?_⟩;have B:v≠[]:=λe=>by rw[e]at E;exact E rfl
 obtain⟨g,G,rfl,C,_,_,H⟩:=K B;refine⟨g,0,rfl,λj M=>?_⟩;obtain⟨a,b,c,d,o,e,_,f⟩:=h.at H M;simp only[wn];exact⟨⟨C,_,a,b⟩,⟨C,_,c,d⟩,o,e,L _ _ _ f⟩
def RwE.dat{D:xT}{base:Nat}{w:World}{u:Value}{v:List En}{X:Nat->En->Value->Prop}(h:RwE base w u v X)(M:∀i e K,X i e K->Dat D w K (rg e.holes))(T:∀b o,base<=b->b<w.heap.size->D b o):Dat D w u (vp v):=by
 obtain⟨N,E,rfl,Q,L,S⟩:=h.shape;have B:(v.map ec).length=v.length:=wB _;unfold vp;by_cases G:v=[]
 .subst G;exact .sl N E 3 [] .sh 0 0 (λ_=>undef) (X3 _) (λh=>by cases h) L (λh=>absurd rfl h) (λi e h=>by simp at h) (λj h=>by simp at h) (λi e j p h=>by simp at h)
 obtain⟨g,O,rfl,V,J,_,P⟩:=S G;have A:∀i (hi:i<v.length) j p,(ec v[i])[j]?=some p->∃x,w.cell? ⟨g,i*3+j,none⟩=some x/\Dat D w x p/\x.oneCell'=true:=λi hi j p C=>by
  obtain⟨a,_,b,_,K,c,_,d⟩:=h.at P hi;match j,C with
  |0,C=>cases C;exact⟨_,a,.v _,rfl⟩
  |1,C=>cases C;exact⟨_,b,.v _,rfl⟩
  |2,C=>cases C;exact⟨_,c,M _ _ _ d,Ki (M _ _ _ d)⟩
  |j+3,C=>simp[ec]at C
 rw[<-B];refine .sl (some ⟨g,0,none⟩) E 3 (v.map ec) .sh g 0 (λj=>(w.cell? ⟨g,j,none⟩).getD undef) (by rw[B];exact Q) (λh=>by cases h) L (λ_=>rfl) (λi e F=>?_) (λj Y=>?_) (λi e j p F C=>?_)
 .rw[wh]at F;obtain⟨x,_,rfl⟩:=ZZ.1 F;rfl
 .rw[B]at Y;have hi:j/3<v.length:=a8;have I:j%3<(ec v[j/3]).length:=U3 _ b8;obtain⟨x,H,_,ho⟩:=A (j/3) hi (j%3) ((ec v[j/3])[j%3]) (Zv I);rw[show j/3*3+j%3=j by omega]at H;simp only[wn,H,WW];exact⟨T _ _ V J,trivial,ho⟩
 .rw[wh]at F;obtain⟨x,H,rfl⟩:=ZZ.1 F;obtain⟨hi,rfl⟩:=Zw.1 H;obtain⟨y,Z,U,_⟩:=A i hi j p C;simp only[Z,WW];exact U
def zq3{D:xT}{w:World}{x:Value}(v:List En)(d:Dat D w x (vp v))(hD:∀b o,D b o->b<w.heap.size)(hb:∀e∈v,ZL e)(hl:v.length<=1073741824)(hh:∀e∈v,e.holes.length<=1073741824):
 Calls xt 73 #[x] w λe w'=>∃u,e=.returned u/\Below w.heap.size w w'/\RwE w.heap.size w' u v (λ_ e F=>OwnR w.heap.size w' F e.holes):=by
 have T:=znV (es:=v.map ec) d (λe U=>by obtain⟨x,_,rfl⟩:=wD.1 U;rfl) (by rw[wB];exact hl);have Y:=qL T;have P:=qL hD;have HB:=qL hb;have HH:=qL hh;clear T d hD hb hh;go_enter func73,ntmps73
 go_upto_region 2 with(go_at_call 112;refine Y.o.mono ?_;rintro e w1 ⟨u,xs,rfl,K,M,G⟩)
 have A:RwE w.heap.size w1 u v (λ_ e F=>Dat D w F (rg e.holes)):=by refine⟨xs,by rw[wB]at M;exact M,λi hi=>?_⟩;have U:(v.map ec)[i]?=some (ec v[i]):=(by rw[wh,Zv hi];rfl);obtain⟨x0,a0,d0⟩:=G i _ 0 _ U rfl;obtain⟨x1,a1,d1⟩:=G i _ 1 _ U rfl;obtain⟨x2,a2,d2⟩:=G i _ 2 _ U rfl;have e0:=(Rel.dat (ρ:=λ_=>0) (nb:=0) d0).v_inv;have e1:=(Rel.dat (ρ:=λ_=>0) (nb:=0) d1).v_inv;rw[e0]at a0;rw[e1]at a1;exact⟨a0,a1,x2,a2,d2⟩
 obtain⟨ad,ae,rfl,ai,af,H⟩:=A.shape;unfold maxLen at af;have ac:=qL A;have X:=qL K;have Q:=qL H;have aj:=K.size;clear A M G K H
 go_wp2_with fail
 go_loopg [9] v.length (λgh x wr=>∃j,j<=v.length/\gh=v.length-j/\x=.int .i64 j/\RwE w.heap.size wr (.slice ad v.length ae) v (λi e F=>(i<j->OwnR w1.heap.size wr F e.holes)/\(j<=i->Dat D w F (rg e.holes)))/\Below w.heap.size w wr/\w1.heap.size<=wr.heap.size)
 case atStart=>exact⟨0,X3 _,rfl,rfl,ac.o.imp λi e F _ h=>⟨λh0=>absurd h0 (Uh _),λ_=>h⟩,X.o,Zp _⟩
 case round=>
  obtain⟨j,hj,rfl,rfl,A,S,ah⟩:=hrel;have HR:=qL A;have J:=qL S;by_cases E:j<v.length
  .obtain⟨g,ak,rfl,hg,am,_,h0⟩:=Q.o (by intro e;subst e;simp at E);obtain⟨_,_,_,_,F,ch,fh,_,C⟩:=A.at h0 E;have C:=C (Zp _);have L:=XE E;obtain⟨av,cv,rfl⟩:=zK C;have V:∀W,Below w.heap.size w W->RdR 0 W.heap.size W (.slice av v[j].holes.length cv) v[j].holes:=λW hW=>je (C.mono (λ_ _ h=>h) λb o x h O=>(tp (a:=⟨b,o,none⟩) (hW.block b (P.o b o h))).trans O) (λb o h=>vw (P.o b o h) hW.size) (HB.o _ L).1;have ab:=qL V;have an:=HH.o _ L;clear A S C V L
   go_wp2_with fail
   refine(zeX (ab.o _ J.o) a8).mono ?_;rintro e w3 ⟨u3,rfl,N,B⟩;obtain⟨au,cu,rfl⟩:=N.val;have c3:=(tp (a:=⟨g,j*3+2,none⟩) (B.block g a8)).trans ch;have f3:w3.frozen? ⟨g,j*3+2,none⟩=false:=(by have e:=B.block g a8;simp only[World.frozen?,e]at fh⊢;exact fh);have Z:=qL N;have I:=qL B;have aq:=B.size;clear N B ch fh;dsimp only
   go_wp2_with fail
   go_roundg (v.length-(j+1));case measure=>omega
   case rel=>
    refine⟨j+1,E,rfl,b6,(HR.o.keep λk hk=>I.o.block k hk).set (λi hi F ao O=>⟨λag=>?_,λag=>O.2 a8⟩) E ⟨λ_=>?_,λh=>a8⟩,?_,a9⟩
    .exact((O.1 a8).below I.o (Zp _)).keep ((Keep.refl (λk=>k=g) w3).setCell (λ_=>rfl) _) λk hk e=>a8
    .exact(Z.o.mono ah).keep ((Keep.refl (λk=>k=g) w3).setCell (λ_=>rfl) _) λk hk e=>a8
    .exact tZ (J.o.trans (I.o.mono a8)) (by show w.heap.size<=g;omega) _
  .obtain rfl:j=v.length:=a8
   go_wp2_with fail
   refine tA (tL rfl _ _ _) rfl ?_;exact⟨_,rfl,J.o,HR.o.imp λi e F hi O=>(O.1 hi).mono a8⟩
def zrs(j:Addr)(n c:Nat)(w:World):(binOp .eql 54 (.slice (some j) n c) (.slice none 0 0)).run xt w=.ok (.bool false) w:=dL
def zrr(n c:Nat)(w:World):(binOp .eql 54 (.slice none n c) (.slice none 0 0)).run xt w=.ok (.bool true) w:=dL
def zry{D:xT}{w:World}{x:Value}{es:List (List PV)}(d:Dat D w x (.sl es .sh))(hs:∀e∈es,e.length=2)(hl:es.length<=1073741824):
 Calls xt 71 #[x] w λe Q=>∃u G,e=.returned u/\Below w.heap.size w Q/\Q.ownsRow w.heap.size 59 2 u es.length G/\∀(i:Nat)(e:List PV)(j:Nat)(p:PV),es[i]?=some e->e[j]?=some p->∃v,G[i*2+j]?=some v/\Dat D w v p:=by
 obtain⟨J,A,G,rfl,_,_,N,O,K,L⟩:=dat_row d hs;obtain⟨i0,B,C,E,F⟩:=tR Z9;cases J with
 | none=>
   obtain⟨S,rfl⟩:es.length=0/\G=[]:=by
    rcases K with h|⟨b,H,e,_⟩
    .exact h
    .cases e
   have hq:=zrr es.length A;have M:=qL L;have U:=qL S;clear N O K L d hl B C E F S;go_enter func71,ntmps71
   go_wp2;go_ret;refine⟨_,[],rfl,tv _ _,?_,M.o⟩;rw[U.o];exact tV _ _ _ _
 | some J=>
   have hq:=zrs J es.length A;have o:∀(j:Nat)(u:Value),G[j]?=some u->(w.alloc (.cells #[] 59)).cell? (J.add j)=some u:=λj u P=>by
    rcases K with⟨_,e⟩|⟨b,H,e,h⟩
    .rw[e]at P;simp at P
    .cases e;have T:=(h j u P).2;rw[zh];exact(tp (a:=⟨b,H+j,none⟩) (tw _ _ _ (tr w _ T))).trans T
   have Z:=qL (tq w (.cells #[] 59 (0,0)));have Y:=qL o;have V:=qL N;have X:=qL O;have M:=qL L;have I:=qL (And.intro B (And.intro C (And.intro E F)));clear N O K L d o B C E F;go_enter func71,ntmps71
   go_wp2_with (at_builtin;refine zq6 _ _ 54 59 rfl rfl i0 _ 2 48 underlying54 I.o.1 I.o.2.1 I.o.2.2.1 I.o.2.2.2 rfl b8 b8 w.heap.size _ 0 [] rfl (zrH (Zp _) Z.o) _ es.length A G rfl V.o (.inr ⟨_,rfl,Y.o⟩) X.o a8 b6 ?_;intro v' Q ho hg hv)
   go_ret;rw[wn]at ho;refine⟨v',G,rfl,?_,ho,M.o⟩;exact(((tv _ w).alloc (Zp _) _).grown hg b6 λj hj=>by cases hj;exact Zp _)
def VO(base:Nat)(w:World)(u:Value)(v:List En):Prop:=RwE base w u v (λ_ e j=>OwnR base w j e.holes)
def VO.keep{base:Nat}{S:Nat->Prop}{w w':World}{u:Value}{v:List En}(h:VO base w u v)(hk:Keep S w w')(o:∀g,base<=g->¬S g):VO base w' u v:=by obtain⟨xs,j,A⟩:=h;refine⟨xs,hk.ownsRow j λg B=>o g ((j.lt g B).1),λi hi=>?_⟩;obtain⟨a,b,C,c,d⟩:=A i hi;exact⟨a,b,C,c,d.keep hk o⟩
def VO.mono{base j:Nat}{w:World}{u:Value}{v:List En}(h:VO base w u v)(hb:j<=base):VO j w u v:=by
 obtain⟨H,C,E⟩:=h;refine⟨H,⟨C.1,?_⟩,λi hi=>?_⟩
 .rcases C.2 with G|⟨g,o,A,B,F,r⟩
  .exact .inl G
  .exact .inr ⟨g,o,A,B,V0 hb F,r⟩
 .obtain⟨a,b,B,c,d⟩:=E i hi;exact⟨a,b,B,c,d.mono hb⟩
def VO.shape{base:Nat}{w:World}{u:Value}{v:List En}(h:VO base w u v):∃a c,u=.slice a v.length c:=by obtain⟨a,c,e,_⟩:=RwE.shape h;exact⟨a,c,e⟩
def RwF(base:Nat)(w:World)(u:Value)(k:List Fg)(X:Nat->Fg->Value->Value->Prop):Prop:=
 ∃j,w.ownsRow base 59 2 u k.length j/\∀i (h:i<k.length),∃o hb,j[i*2]?=some o/\j[i*2+1]?=some hb/\X i k[i] o hb
def RwF.imp{base:Nat}{w:World}{u:Value}{k:List Fg}{X Y:Nat->Fg->Value->Value->Prop}(h:RwF base w u k X)(hi:∀i f a b,i<k.length->X i f a b->Y i f a b):RwF base w u k Y:=by obtain⟨B,o,A⟩:=h;refine⟨B,o,λi j=>?_⟩;obtain⟨a,b,c,d,e⟩:=A i j;exact⟨a,b,c,d,hi i _ a b j e⟩
def RwF.shape{base:Nat}{w:World}{u:Value}{k:List Fg}{X:Nat->Fg->Value->Value->Prop}(h:RwF base w u k X):∃B j,u=.slice B k.length j/\k.length<=j/\j<=maxLen/\(k≠[]->∃g o,B=some ⟨g,0,none⟩/\base<=g/\g<w.heap.size/\w.heap[g]?=some (.cells o 59 (0,0))/\0<j):=by
 obtain⟨J,F,_⟩:=h;rcases F.2 with⟨rfl,E⟩|⟨g,j,o,rfl,G,C,I,H,_,_⟩
 .have:k=[]:=wY.1 E;subst this;exact⟨none,0,rfl,Zp _,b8,λh=>absurd rfl h⟩
 .refine⟨_,j,rfl,I,H,λA=>⟨g,o,rfl,G,(Yf.1 C).1,C,?_⟩⟩;have:=wX.2 A;omega
def RwF.at{base g n u:Nat}{w:World}{k:List Fg}{X:Nat->Fg->Value->Value->Prop}(h:RwF base w (.slice (some ⟨g,0,none⟩) n u) k X)(M:0<u){i:Nat}(hi:i<k.length):
 ∃E hb,w.cell? ⟨g,i*2,none⟩=some E/\w.frozen? ⟨g,i*2,none⟩=false/\w.cell? ⟨g,i*2+1,none⟩=some hb/\w.frozen? ⟨g,i*2+1,none⟩=false/\X i k[i] E hb:=by
 obtain⟨K,C,H⟩:=h;obtain⟨a,b,c,d,e⟩:=H i hi;have F:∀o,w.frozen? ⟨g,o,none⟩=false:=by
  rcases C.2 with⟨e,_⟩|⟨L,B,G,e,_,I,_⟩
  .cases e
  .cases e;intro o;simp[World.frozen?,I]
 have A:∀j x,K[j]?=some x->w.cell? ⟨g,j,none⟩=some x:=λj x J=>by have:=tK C (g:=g) (by cases u with|zero=>omega|succ c=>rfl) j x J;rw[zh,wn]at this;exact this
 exact⟨a,b,A _ _ c,F _,A _ _ d,F _,e⟩
def RwF.set{base g o j:Nat}{w:World}{k:List Fg}{X:Nat->Fg->Value->Value->Prop}{A B:Value}(h:RwF base w (.slice (some ⟨g,0,none⟩) k.length o) k X){Y:Nat->Fg->Value->Value->Prop}(G:∀i (h:i<k.length) a b,i≠j->X i k[i] a b->Y i k[i] a b)(L:j<k.length)(C:Y j k[j] A B):
 RwF base ((w.setCell ⟨g,j*2,none⟩ A).setCell ⟨g,j*2+1,none⟩ B) (.slice (some ⟨g,0,none⟩) k.length o) k Y:=by
 obtain⟨M,E,F⟩:=h;obtain⟨J,_⟩:=E.stored (j*2) A;obtain⟨K,_⟩:=J.stored (j*2+1) B;refine⟨_,K,λi hi=>?_⟩;obtain⟨a,b,c,d,e⟩:=F i hi;by_cases u:i=j
 .subst u;have H:=(Zw.1 c).1;have I:=(Zw.1 d).1;exact⟨A,B,by rw[wW a8,WP H],by rw[WP (dK I)],C⟩
 .exact⟨a,b,by rw[wW a8,wW a8];exact c,by rw[wW a8,wW a8];exact d,G i hi a b u e⟩
def RwF.keep{base:Nat}{w w':World}{u:Value}{k:List Fg}{X:Nat->Fg->Value->Value->Prop}(h:RwF base w u k X)(hb:∀k,k<w.heap.size->w'.heap[k]?=w.heap[k]?):RwF base w' u k X:=by
 obtain⟨xs,A,C⟩:=h;refine⟨xs,⟨A.1,?_⟩,C⟩;rcases A.2 with h|⟨g,j,o,e,E,B,r⟩
 .exact .inl h
 .exact .inr ⟨g,j,o,e,E,(hb g (Yf.1 B).1).trans B,r⟩
def KO(base:Nat)(w:World)(u:Value)(k:List Fg):Prop:=RwF base w u k (λ_ f a b=>OwnR base w a f.items/\VO base w b f.vec)
def KO.mu{base:Nat}{w:World}{u:Value}{k:List Fg}(h:KO base w u k):MuF (base<=·) w u:=by
 obtain⟨C,o,rfl,G,H,I⟩:=RwF.shape h;refine⟨k.length,C,o,rfl,G,H,λB=>?_⟩;have A:k≠[]:=λe=>by rw[e]at B;exact B rfl
 obtain⟨g,E,rfl,L,_,_,F⟩:=I A;refine⟨g,0,rfl,λj K=>?_⟩;obtain⟨J,hb,a,_,b,_,e,f⟩:=RwF.at h F K;simp only[wn];exact⟨⟨J,a,e.mu.mono λb h=>h.1⟩,hb,b,RwE.mu f λ_ _ _ h=>h.mu.mono λb h=>h.1⟩
def KO.dat{D:xT}{base:Nat}{w:World}{u:Value}{k:List Fg}(h:KO base w u k)(K:∀b o,base<=b->b<w.heap.size->D b o):Dat D w u (kp k):=by
 obtain⟨O,H,rfl,F,E,S⟩:=RwF.shape h;have B:(k.map fc).length=k.length:=wB _;unfold kp;by_cases J:k=[]
 .subst J;exact .sl O H 2 [] .sh 0 0 (λ_=>undef) (X3 _) (λh=>by cases h) E (λh=>absurd rfl h) (λi e h=>by simp at h) (λj h=>by simp at h) (λi e j p h=>by simp at h)
 obtain⟨g,P,rfl,T,N,_,Q⟩:=S J;have A:∀i (hi:i<k.length) j p,(fc k[i])[j]?=some p->∃x,w.cell? ⟨g,i*2+j,none⟩=some x/\Dat D w x p/\x.oneCell'=true:=λi hi j p C=>by
  obtain⟨Z,hb,a,_,b,_,c,d⟩:=RwF.at h Q hi;match j,C with
  |0,C=>cases C;have G:=jp (D:=D) c.rd λb o F E=>K b o F E;exact⟨_,a,G,Ki G⟩
  |1,C=>cases C;have G:=RwE.dat (D:=D) d (λi e hv h=>jp h.rd λb o F E=>K b o F E) λb o F E=>K b o F E;obtain⟨X,Y,e⟩:=d.shape;exact⟨_,b,G,by rw[e];rfl⟩
  |j+2,C=>simp[fc]at C
 rw[<-B];refine .sl (some ⟨g,0,none⟩) H 2 (k.map fc) .sh g 0 (λj=>(w.cell? ⟨g,j,none⟩).getD undef) (by rw[B];exact F) (λh=>by cases h) E (λ_=>rfl) (λi e I=>?_) (λj U=>?_) (λi e j p I C=>?_)
 .rw[wh]at I;obtain⟨x,_,rfl⟩:=ZZ.1 I;rfl
 .rw[B]at U;have hi:j/2<k.length:=a8;have M:j%2<(fc k[j/2]).length:=U3 _ b8;obtain⟨x,L,_,ho⟩:=A (j/2) hi (j%2) ((fc k[j/2])[j%2]) (Zv M);rw[show j/2*2+j%2=j by omega]at L;simp only[wn,L,WW];exact⟨K _ _ T N,trivial,ho⟩
 .rw[wh]at I;obtain⟨x,L,rfl⟩:=ZZ.1 I;obtain⟨hi,rfl⟩:=Zw.1 L;obtain⟨y,V,G,_⟩:=A i hi j p C;simp only[wn,V,WW];exact G
def zss{D:xT}{w:World}{x:Value}{v:List En}(h:Dat D w x (vp v)):∃a c,x=.slice a v.length c:=by obtain⟨⟨a,n,c⟩,rfl,e⟩:=kH h;simp only[wB]at e;subst e;exact⟨a,c,rfl⟩
def zrM{D:xT}{w:World}{x:Value}(k:List Fg)(d:Dat D w x (kp k))(hD:∀b o,D b o->b<w.heap.size)(hb:∀f∈k,(∀s∈f.items,s.lo<zk/\s.hi<zk)/\∀e∈f.vec,ZL e)(hl:k.length<=1000000)(hz:∀f∈k,f.items.length<=1000000/\f.vec.length<=1000000/\∀e∈f.vec,e.holes.length<=1000000):
 Calls xt 35 #[x] w λe w'=>∃u,e=.returned u/\Below w.heap.size w w'/\KO w.heap.size w' u k:=by
 have aB:=zry (es:=k.map fc) d (λe he=>by obtain⟨x,_,rfl⟩:=wD.1 he;rfl) (by rw[wB];omega);obtain⟨aa,ca,fs,rfl,aR,E,aC⟩:=kX d hD;have aO:=E.1;have aA:=E.2.1;unfold maxLen at aA;rw[aR]at aO;have aI:=qL aB;have ax:=qL E;have aJ:=qL aC;have ar:=qL hD;have HB:=qL hb;have HZ:=qL hz;have aS:xt.follows .mixedOrders=true:=dL
 clear aB d hD hb hz E aC;go_enter func35,ntmps35
 go_upto_region 2 with(go_at_call 71;refine aI.o.mono ?_;rintro e w1 ⟨u,xs,rfl,ah,am,an⟩)
 have H:RwF w.heap.size w1 u k (λ_ _ _ _=>True):=by refine⟨xs,by rw[wB]at am;exact am,λi hi=>?_⟩;have he:(k.map fc)[i]?=some (fc k[i]):=(by rw[wh,Zv hi];rfl);obtain⟨x0,a0,_⟩:=an i _ 0 _ he rfl;obtain⟨x1,U,_⟩:=an i _ 1 _ he rfl;exact⟨x0,x1,a0,U,trivial⟩
 obtain⟨ad,aN,rfl,aT,aP,aD⟩:=H.shape;unfold maxLen at aP;have aM:=qL H;have aF:=qL ah;have aL:=qL aD;have aU:=ah.size;clear H am an ah aD
 go_wp2_with fail
 go_loopg [10] k.length (λgh x wr=>∃j,j<=k.length/\gh=k.length-j/\x=.int .i64 j/\RwF w.heap.size wr (.slice ad k.length aN) k (λi f a b=>i<j->OwnR w1.heap.size wr a f.items/\VO w1.heap.size wr b f.vec)/\Below w.heap.size w wr/\w1.heap.size<=wr.heap.size)
 case atStart=>exact⟨0,X3 _,rfl,rfl,aM.o.imp λi f a b _ _=>λh0=>absurd h0 (Uh _),aF.o,Zp _⟩
 case round=>
  obtain⟨j,hj,rfl,rfl,H,J,bj⟩:=hrel;have HR:=qL H;have aq:=qL J;by_cases M:j<k.length
  .obtain⟨g,aZ,rfl,hg,be,_,h0⟩:=aL.o (by intro e;subst e;simp at M);have N:j<fs.length:=a8;obtain⟨bb,aE,rfl,ay,Z⟩:=ax.o.2.2 (by intro e;subst e;simp at N);obtain⟨c0,c1⟩:=Z j N;obtain⟨d0,d1⟩:=aJ.o j N;replace c0:=(J.cell (p:=⟨bb,aE+j*2,none⟩) ay).trans c0;replace c1:=(J.cell (p:=⟨bb,aE+j*2+1,none⟩) ay).trans c1;have ak:=XE M;have V:=HB.o _ ak;have ao:=HZ.o _ ak;obtain⟨f,hf⟩:=xm (k[j]);obtain⟨q,hq⟩:=xm (fs[j]);rw[<-hf]at d0 d1 V ao;rw[<-hq]at d0 d1 c0 c1;obtain⟨af,cf,e0⟩:=zK d0;obtain⟨av,cv,e1⟩:=zss d1;rw[e0]at c0 d0;rw[e1]at c1 d1;have HF:=qL hf;clear hq e0 e1 hf ak Z;obtain⟨A,P⟩:=xm (wr.alloc (.cells #[.slice af f.items.length cf,.slice av f.vec.length cv] 59));have X:A.heap[wr.heap.size]?=some (.cells #[.slice af f.items.length cf,.slice av f.vec.length cv] 59 (0,0)):=(by rw[P];exact tq wr _);have ai:Below wr.heap.size wr A:=(by rw[P];exact(tv _ wr).alloc (Zp _) _);have bi:A.heap.size=wr.heap.size+1:=(by rw[P];simp);have ae:∀W,Below A.heap.size A W->Below w.heap.size w W:=λW I=>J.trans ((ai.mono a8).trans (I.mono a8));have hw:∀W,Below A.heap.size A W->∀b o x,D b o->w.cell? ⟨b,o,none⟩=some x->W.cell? ⟨b,o,none⟩=some x:=λW I b o x h hx=>(tp (a:=⟨b,o,none⟩) ((ae W I).block b (ar.o b o h))).trans hx;have ag:∀W,Below A.heap.size A W->∀b o,D b o->b<W.heap.size:=λW I b o h=>vw (ar.o b o h) (ae W I).size;have aG:=qL (λW (I:Below A.heap.size A W)=>zeX (je (d0.mono (λ_ _ h=>h) (hw W I)) (ag W I) V.1) a8);have aH:=qL (λW (I:Below A.heap.size A W)=>zq3 f.vec (d1.mono (λ_ _ h=>h) (hw W I)) (ag W I) V.2 a8 λe he=>by have:=ao.2.2 e he;omega);have aW:=qL X;have ab:=qL ai
   have g0:=(zW X 0 _ rfl).1;have g1:=(zW X 1 _ rfl).1;clear d0 d1 X ai ae hw ag V ao H J
   go_wp2_with fail
   rw[<-P];have az:Below A.heap.size A A.drew:=(tv _ _).drew;clear P;refine Kg (Sw:=qe) 9 27 (λT=>Below A.heap.size A T/\T.cell? ⟨wr.heap.size,0,none⟩=some (.slice af f.items.length cf)/\T.cell? ⟨wr.heap.size,1,none⟩=some (.slice av f.vec.length cv)) dL dL rfl ⟨az,g0,g1⟩ ?_;simp only[wP,Wb];refine Jz ?_;refine V7 (λu T=>∃F G,u=.slice F f.items.length G/\OwnR A.heap.size T u f.items) (λu wa A h hk=>by obtain⟨F,G,e,h⟩:=h;exact⟨F,G,e,h.keep hk λ_ _=>id⟩) rfl ?_ ?_
   .intro Q w2 B hk hr K Y;have HK:=qL Y;clear Y;simp[Rds,zA,lk,Op.operands,Call.operands,RdEq]at hr;go_simp;refine(aG.o _ B.1).mono ?_;rintro e w3 ⟨u,rfl,ho,hb⟩;obtain⟨F,G,rfl⟩:=ho.val;have C:Keep qe _ w3:=Keep.of_below' hb (Zp _);exact HK.o _ _ C ⟨B.1.trans (hb.mono B.1.size),C.cell_some B.2.1 id,C.cell_some B.2.2 id⟩ ⟨F,G,rfl,ho.mono B.1.size⟩
   simp only[Y1,yb];refine Jz ?_;refine V7 (λu T=>∃F G,u=.slice F f.vec.length G/\VO A.heap.size T u f.vec) (λu wa A h hk=>by obtain⟨F,G,e,h⟩:=h;exact⟨F,G,e,h.keep hk λ_ _=>id⟩) rfl ?_ ?_
   .intro Q w2 B hk hr K Y;have HK:=qL Y;clear Y;simp[Rds,zA,lk,Op.operands,Call.operands,RdEq]at hr;go_simp;refine(aH.o _ B.1).mono ?_;rintro e w3 ⟨u,rfl,hb,ho⟩;have ho:VO _ w3 u f.vec:=ho;obtain⟨F,G,rfl⟩:=ho.shape;have C:Keep qe _ w3:=Keep.of_below' hb (Zp _);exact HK.o _ _ C ⟨B.1.trans (hb.mono B.1.size),C.cell_some B.2.1 id,C.cell_some B.2.2 id⟩ ⟨F,G,rfl,ho.mono B.1.size⟩
   simp only[Y1,yb];refine Jz ?_;refine V7 (λu T=>∃U n1 Q n2,u=.agg #[.slice U f.items.length n1,.slice Q f.vec.length n2]/\OwnR A.heap.size T (.slice U f.items.length n1) f.items/\VO A.heap.size T (.slice Q f.vec.length n2) f.vec) (λu wa A h hk=>by obtain⟨U,n1,Q,n2,e,h,h'⟩:=h;exact⟨U,n1,Q,n2,e,h.keep hk λ_ _=>id,h'.keep hk λ_ _=>id⟩) rfl ?_ ?_
   .intro Q w2 B hk hr K Y;have HK:=qL Y;clear Y;simp[Rds,zA,lk,Op.operands,Call.operands,RdEq]at hr;obtain⟨⟨_,⟨e1,e2⟩,⟨F,G,rfl⟩,ho⟩,_,⟨e3,e4⟩,⟨aw,cw,rfl⟩,hv⟩:=hr;go_simp;exact HK.o _ _ (Keep.refl _ _) B ⟨F,G,aw,cw,rfl,ho,hv⟩
   simp only[Y1,yb];intro w2 aj aQ;simp only[finG,WM,Y1,yb,wM,Wh,WO];simp only[Act.put,wu,wR,wS];rintro _ ⟨_,_,rfl,_⟩ _ ⟨_,_,rfl,_⟩ _ ⟨U,n1,Q,n2,rfl,hu,hv⟩;have HU:=qL hu;have HV:=qL hv;have ac:=qL aj.1;have aV:=aj.1.size;have O:=HR.o.keep (w':=w2) (λb hb=>(ac.o.block b a8).trans (ab.o.block b hb));obtain⟨xa,xb,aX,ba,aY,bc,_⟩:=O.at h0 M;have aK:=qL O;clear hu hv aj aQ az O g0 g1 c0 c1
   go_wp2_with fail
   go_roundg (k.length-(j+1));case measure=>omega
   case rel=>
    have hS:∀x,w1.heap.size<=x->¬x=g:=λx hx e=>a8;refine⟨j+1,M,rfl,b6,aK.o.set (λi hi a b bh hx bg=>?_) M (λ_=>?_),?_,a9⟩
    .have L:=(((Keep.of_below' (S:=λx=>x=g) ab.o (Zp _)).trans (Keep.of_below' ac.o (Zp _))).setCell (p:=⟨g,j*2,none⟩) (λ_=>rfl) (.slice U f.items.length n1)).setCell (p:=⟨g,j*2+1,none⟩) (λ_=>rfl) (.slice Q f.vec.length n2);obtain⟨h1,h2⟩:=hx a8;exact⟨h1.keep L hS,h2.keep L hS⟩
    .have L:=((Keep.refl (λx=>x=g) w2).setCell (p:=⟨g,j*2,none⟩) (λ_=>rfl) (.slice U f.items.length n1)).setCell (p:=⟨g,j*2+1,none⟩) (λ_=>rfl) (.slice Q f.vec.length n2);rw[<-HF.o];exact⟨(HU.o.mono a8).keep L hS,(HV.o.mono a8).keep L hS⟩
    .exact tZ (tZ (aq.o.trans ((ab.o.mono a8).trans (ac.o.mono a8))) (by show w.heap.size<=g;omega) _) (by show w.heap.size<=g;omega) _
  .obtain rfl:j=k.length:=a8
   go_wp2_with fail
   refine tA (tL rfl _ _ _) rfl ?_;exact⟨_,rfl,aq.o,HR.o.imp λi f a b hi hx=>⟨(hx hi).1.mono a8,(hx hi).2.mono a8⟩⟩
end
section
attribute [-go_sem] z7 zae zaf Vr
end
section
def zaJ:CanK []:=⟨GrpI.nil,List.Pairwise.nil⟩
def zcY(i r c:Nat):hasK [] i r c=false:=rfl
abbrev Tr:=Nat×Nat×Nat
def leT(t u:Tr):Prop:=t.1<u.1\/(t.1=u.1/\(t.2.1<u.2.1\/(t.2.1=u.2.1/\t.2.2<=u.2.2)))
structure IsLeast(k:List Fg)(t:Tr):Prop where
 b1:t.1<zk
 b2:t.2.2<zk
 has:hasK k t.1 t.2.1 t.2.2=true
 le:∀i r c,i<zk->c<zk->hasK k i r c=true->leT t (i,r,c)
def zfo{k:List Fg}(h:RightK k){i r c:Nat}:hasK k i r c=true↔∃f∈k,mem f.items i=true/\∃e∈f.vec,e.rep=r/\mem (kn e) c=true:=by
 rw[km];refine exists_congr λf=>uR λB=>uR λ_=>?_;have A:=(h f B).2;constructor
 .intro j;by_cases u:∀e∈f.vec,e.rep≠r
  .rw[qC u]at j;cases j
  .simp only[Classical.not_forall,Classical.not_not]at u;obtain⟨e,o,w⟩:=u;refine⟨e,o,w,?_⟩;rw[<-w,kq A.2 o]at j;exact j
 .rintro⟨e,o,rfl,j⟩;rw[kq A.2 o];exact j
def trc(t:Tr):List PV:=[.v (.int .u64 t.1),.v (.int .u64 t.2.1),.v (.int .u64 t.2.2)]
def trp(t:Tr):PV:=.agg (trc t)
attribute [go_sem] trc trp
def zl3(a b:List En)(j:SmV a)(hb:SmV b):Cn xt 64 [vp a,vp b] (vp (ks zn a b)):=by refine zt func64 2 ?_;refine pw ?_;exact .d (zdc a b j hb)
def knowUnion_c{C:Qk}{R:List Nat}{n:Nat}(a b:List Fg)(j:Kn C R n a)(hb:Kn C R n b)(ok:OkX C R)(o:n<=40000):Cn xt 27 [kp a,kp b] (.tup [kp (vh zn a b),.v .nilIface]):=by refine zt func27 2 ?_;refine pw ?_;exact .d (Vk zn rfl 64 a b j hb ok o (λx=>zl3 _ _ (j.at ok x) (hb.at ok x)))
def zir{op:Nat}(h:op<3):Qj op false false=false:=by
 obtain rfl|rfl|rfl:op=0\/op=1\/op=2:=a8
 all_goals rfl
def YG{C:Qk}{R:List Nat}{n:Nat}(a b:List Fg)(op:Nat)(ho:op<3)(A:Kn C R n a)(hb:Kn C R n b)(ok:OkX C R)(N:n<=20000):Cn xt 57 [kp a,kp b,.v (.int .i64 op)] (kp (vh (Qj op) a b)):=by
 have E:=A.app hb;have o:=E.ok12 ok a8;have u:=A.ok12 ok a8;have w:=hb.ok12 ok a8;have L:=xW (a++b);have I:=o.t;have J:=A.l;have K:=hb.l;have G:=A.parts (zir ho) hb ok;have F:=Kc (yy (Qj op) a b) G ok a8;refine zt func57 3 ?_;refine pw ?_;rw[<-WK];refine .c (VT (a++b) o.r o.z o.l o.t (Ya (a++b) o.r o.z o.l o.t o.i)) ?_;refine pLoop.go (λj=>j<=(zu (a++b)).length) (λj=>[(9,.sl (((zu (a++b)).take j).map (λs=>fc (Zx (Qj op) a b s))) (.r 51 2)),(10,.v (.int .i64 (j:Nat)))]) (λ_=>[]) (λj=>(zu (a++b)).length-j) 0 [6,7,9,10,12,13,14,15,16,17,18,19] ?_ ?_ ?_
 .exact X3 _
 .exact pd
 .rintro j M;refine pw ?_;refine .i ?_ ?_<;>intro h<;>first|refine pw ?_|exact pd
  .have H:=Qr (Qj op) a b h;refine .c (VR a (zu (a++b))[j].lo u.ik u.ok u.r u.s u.z) ?_;refine .c (VR b (zu (a++b))[j].lo w.ik w.ok w.r w.s w.z) ?_;refine .c (zcC (qc a (zu (a++b))[j].lo) (qc b (zu (a++b))[j].lo) op ho (A.at ok _) (hb.at ok _)) ?_;exact⟨j+1,h,a8,H.symm,rfl⟩
  .have B:Cn xt 98 [.sl (((zu (a++b)).take j).map (λs=>fc (Zx (Qj op) a b s))) .sh] (kp (vh (Qj op) a b)):=(by rw[YC (Qj op) a b a8];exact F)
   (first|exact .d (B)|exact .q (B))
def zds{C:Qk}{R:List Nat}{n:Nat}(k:List Fg)(h:Kn C R n k)(ok:OkX C R)(j:n<=40000):Cn xt 62 [kp k] (kp (zbx k)):=by show Cn xt 62 [kp k] (kp (zL (jq k)));refine zt func62 1 ?_;refine pw ?_;refine .c (ziJ k (h.ok12 ok a8)) ?_;exact .d (zfn (jq k) (h.refine ok) ok a8)
structure Cr15(a b:List Fg):Prop where
 ra:RightK a
 rb:RightK b
 ka:Kn (CKL [a,b]) (RKL [a,b]) 240 a
 kb:Kn (CKL [a,b]) (RKL [a,b]) 240 b
 ok:OkX (CKL [a,b]) (RKL [a,b])
attribute [go_sem] zou
def znP(i r c:Nat):List Fg:=[⟨[⟨i,i⟩],zl9 r c⟩]
def zmg:zsC []:=⟨λe h=>(by cases h),List.Pairwise.nil⟩
def zic:RightK []:=λf h=>by cases h
def zoC{r c:Nat}(u:r<zk)(j:c<zk):ks zn [] (zl9 r c)=zl9 r c:=
 zoY rfl zmg (zkS u j).right (zkS u j) λx=>by have o:=qi (zkS u j).right x;have w:Nrm []:=trivial;refine Nrm.unique o (qH w o) λy A=>?_;rw[knV_nil,qj w o A];simp[zn,mem]
def zoH:SmV []:=⟨zmg,b6,λe h=>by cases h⟩
def znJ{C:Qk}{R:List Nat}{n:Nat}(k:List Fg)(i r c:Nat)(w:r<zk)(u:c<zk)(hk:Kn C R n k)(A:Kn C R n (znP i r c))(ok:OkX C R)(B:n<=40000):Cn xt 37 [kp k,.v (.int .u64 i),.v (.int .u64 r),.v (.int .u64 c)] (.tup [kp (vh zn k (znP i r c)),.v .nilIface]):=by
 have j:=zoX [] r c zoH w u;rw[zoC w u]at j;refine zt func37 4 ?_;refine pw ?_
 (first|refine .c (j) ?_|refine .o (j) ?_)
 exact .d (knowUnion_c k (znP i r c) hk A ok B)
def zo1{D:xT}{w:World}{v:Value}{s:ByteArray}{c k:Int}{t j:TypeId}(h:Dat D w v (.ifc t (.agg [.v (.string s),.ifc j (.agg [.v (.int .i64 c),.v (.int .i64 k)])]))):v=.iface t (.agg #[.string s,.iface j (.agg #[.int .i64 c,.int .i64 k])]):=by
 cases h with
 | ifc t x p h=>
   generalize u:[PV.v (.string s),PV.ifc j (.agg [.v (.int .i64 c),.v (.int .i64 k)])]=cs at h;cases h with
   | agg us cs hs _ h=>
     subst u;obtain⟨l⟩:=us;match l,hs with
     |[x,y],_=>have o:=(Rel.dat (ρ:=λ_=>0) (nb:=0) (h 0 _ rfl)).v_inv;have e1:=zaX (h 1 _ rfl);simp at o e1;rw[o,e1]
def zqt(i r c:Nat)(j:c<zk):Cn xt 92 [.v (.int .u64 i),.v (.int .u64 r),.v (.int .u64 c)] (kp (znP i r c)):=by refine zt func92 3 ?_;refine pw ?_;refine .c (zq7 r c j) ?_;rfl
def zqd{C:Qk}{R:List Nat}{n:Nat}(k:List Fg)(i r c:Nat)(u:c<zk)(hk:Kn C R n k)(o:Kn C R n (znP i r c))(ok:OkX C R)(w:n<=20000):Cn xt 53 [kp k,.v (.int .u64 i),.v (.int .u64 r),.v (.int .u64 c)] (kp (vh zn k (znP i r c))):=by
 have j:Cn xt 57 [kp k,kp (znP i r c),.v (.int .i64 0)] (kp (vh zn k (znP i r c))):=YG k (znP i r c) 0 a8 hk o ok w;refine zt func53 4 ?_;refine pw ?_;refine .c (zqt i r c u) ?_
 (first|exact .d (j)|exact .q (j))
def zqm{a b:List Iv}(j:Nrm a)(hb:Nrm b):(qy fMeet a b).length<=2*(a.length+b.length):=by have o:=zcK (C:=z6 a++z6 b) (qH (f:=fMeet) j hb) λx u=>(zcM rfl j hb u).elim (λh=>wF.2 (.inl (Y3 j.ivs2 h))) (λh=>wF.2 (.inr (Y3 hb.ivs2 h)));have w:=vq a;have A:=vq b;rw[wi]at o;omega
def zl5(k:List Fg)(items:List Iv):List Fg:=k.map λf=>⟨qy fMeet f.items items,f.vec⟩
def znX{k:List Fg}{items:List Iv}(h:RightK k)(hi:Nrm items):RightK (zl5 k items):=λg o=>by obtain⟨f,j,rfl⟩:=wD.1 o;exact⟨qH (h f j).1 hi,(h f j).2⟩
def zoG{items:List Iv}(hi:Nrm items):∀{k:List Fg},RightK k->qE (zl5 k items)<=2*qE k+2*(k.length*items.length)
 |[],_=>X3 _
 |f::k,h=>by have o:=zoG hi (k:=k) λg j=>h g (by simp[j]);have u:=zqm (h f b6).1 hi;have e:zl5 (f::k) items=⟨qy fMeet f.items items,f.vec⟩::zl5 k items:=rfl;rw[e];simp only[qE,ww,W7,Nat.one_mul];omega
def zn1{k:List Fg}{items:List Iv}(h:RightK k)(hi:Nrm items):CanK (znF k items):=zbX (znX h hi)
def zpu(f:FuncId):PV:=.fn (.func f) [] []
attribute [go_sem] zpu
structure Ok14(a b:List Fg):Prop where
 ra:RightK a
 rb:RightK b
 ka:Kn (CKL [a,b]) (RKL [a,b]) 240 a
 kb:Kn (CKL [a,b]) (RKL [a,b]) 240 b
 ok:OkX (CKL [a,b]) (RKL [a,b])
def Kn.proj{C:Qk}{R:List Nat}{n m:Nat}{k:List Fg}{items:List Iv}(h:Kn C R n k)(hi:Nrm items)(B:2*n+2*(k.length*items.length)<=m):Kn C R m (zl5 k items):=by
 have u:=zoG hi h.r;have w:=h.m;have A:=h.l;refine⟨znX h.r hi,λg o=>?_,λg o=>?_,a8,?_⟩
 .obtain⟨f,j,rfl⟩:=wD.1 o;exact h.ik f j
 .obtain⟨f,j,rfl⟩:=wD.1 o;exact h.s f j
 .unfold zl5;rw[wB];omega
def zqU{C:Qk}{R:List Nat}{n:Nat}(k:List Fg)(h:Kn C R n k)(ok:OkX C R)(j:n<=40000):Cn xt 100 [kp k] (kp (zbx k)):=by show Cn xt 100 [kp k] (kp (zL (jq k)));refine zt func100 1 ?_;refine pw ?_;refine .c (zqR k (h.ok12 ok a8)) ?_;exact .d (Kc (jq k) (h.refine ok) ok a8)
def zqV(k:List Fg)(items:List Iv){j:Nat}(h:j<k.length):((zl5 k items).take (j+1)).map fc=((zl5 k items).take j).map fc++[fc ⟨qy fMeet k[j].items items,k[j].vec⟩]:=by have u:(zl5 k items).length=k.length:=wB _;have o:(zl5 k items)[j]'a8=⟨qy fMeet k[j].items items,k[j].vec⟩:=UC _;rw[X4 a8,WK,o];rfl
def zqQ{C:Qk}{R:List Nat}{n m:Nat}(k:List Fg)(items:List Iv)(hk:Kn C R n k)(hi:Nrm items)(B:items.length<=100000)(H:Kn C R m (zl5 k items))(ok:OkX C R)(K:n<=100000)(G:m<=40000):Cn xt 58 [kp k,rg items] (kp (znF k items)):=by
 have E:=hk.l;have w:=zqU (zl5 k items) H ok G;have I:(zl5 k items).length=k.length:=wB _;refine zt func58 2 ?_;refine pw ?_;refine pLoop.go (λj=>j<=k.length) (λj=>[(5,.sl (((zl5 k items).take j).map fc) (.r 28 2)),(6,.v (.int .i64 (j:Nat)))]) (λ_=>[]) (λj=>k.length-j) 0 [5,6] ?_ ?_ ?_
 .exact X3 _
 .exact pd
 .rintro j J;refine pw ?_;refine .i ?_ ?_<;>intro h<;>first|refine pw ?_|exact pd
  .have A:=zqV k items h;have u:=XE h;have F:k[j].items.length<=100000:=(by have:=yv u;have:=hk.m;omega);refine .c (zq2 k[j].items items (hk.r _ u).1 hi a8 a8) ?_;refine cutP.full rfl ?_ rfl ?_ ?_
   .exact pd
   .exact pd
   .refine pw ?_;exact⟨j+1,h,a8,A.symm,rfl⟩
  .have o:Cn xt 100 [.sl (((zl5 k items).take j).map fc) .sh] (kp (znF k items)):=(by rw[wm a8];exact w)
   (first|exact .d (o)|exact .q (o))
def EdI(E:List Nat)(k:List Fg):Prop:=∀f∈k,∀x,Ed f.items x->x∈E
def zsx{E:List Nat}{k:List Fg}(h:RightK k)(C:EdI E k)(u:0∈E):∀x∈zq k,x∈E:=λx H=>by
 obtain⟨w,A⟩:=(vZ h).1 H;by_cases e:x=0
 .rw[e];exact u
 have B:=A.resolve_left e;have:∃f∈k,mem f.items (x-1)≠mem f.items x:=wV λG=>by have:qX k (x-1) x=true:=qo.2 λf j=>wV λF=>G ⟨f,j,F⟩;rw[B]at this;cases this
 obtain⟨f,j,o⟩:=this;exact C f j x ⟨w,by rw[Vq e];exact λe=>o e.symm⟩
def zsj{E:List Nat}{k:List Fg}(h:RightK k)(B:EdI E k)(w:0∈E):(zu k).length<=E.length/\∀s∈zu k,∀x,Ed [s] x->x∈E:=by
 have hs:=zsx h B w;have u:(cutsK k).length=(zq k).length:=vO _;have C:=Ji _ _ (xc k) hs;constructor
 .have:(zu k).length<=(cutsK k).length:=WF _ _;omega
 .intro s F x o;obtain⟨i,hi,rfl⟩:=Wp (WB.1 F).1;have j:i<(zq k).length:=a8;have e:(cutsK k)[i]=⟨(zq k)[i],if h:i+1<(zq k).length then (zq k)[i+1]-1 else zk-1⟩:=Vx (zq k) i j;have G:=o.1;rw[e]at o;rcases zhC o with rfl|A
  .exact hs _ (XE j)
  .split at A
   .rename_i h3;have H:=wT.1 (xc k) i (i+1) j h3 a8;rw[show x=(zq k)[i+1] by omega];exact hs _ (XE h3)
   .have:=xM;omega
def zsu{E:List Nat}:∀{o:List Fg}{f:Fg},(∀g∈o,Nrm g.items)->Nrm f.items->EdI E o->(∀x,Ed f.items x->x∈E)->EdI E (qN o f)
 |[],f,_,_,_,hf=>λg u=>by simp only[qN,wH]at u;subst u;exact hf
 | g::o,f,hn,hnf,ho,hf=>by
   have w:=zsu (o:=o) (f:=f) (λx j=>hn x (by simp[j])) hnf (λx j=>ho x (by simp[j])) hf;have u:=ho g b6;unfold qN;split
   .intro x j;rcases V3.1 j with rfl|j
    .exact u
    .exact w x j
   .split
    .intro x j;rcases V3.1 j with rfl|j
     .exact λy A=>(zcM rfl (hn g b6) hnf A).elim (u y) (hf y)
     .exact ho x (by simp[j])
    .intro x j;rcases V3.1 j with rfl|j
     .exact hf
     .exact ho x j
def zsf{E:List Nat}:∀{k o:List Fg},GrpI o->RightK k->EdI E o->EdI E k->EdI E (k.foldl yo o)
 |[],_,_,_,ho,_=>ho
 | f::k,o,j,hr,ho,hk=>by
   have u:=hr f b6;rw[WU];refine zsf (Yr j u).1 (λg j=>hr g (by simp[j])) ?_ λg j=>hk g (by simp[j]);unfold yo;split
   .exact ho
   .exact zsu (λg h=>(j.ok g h).2.2.1) u.1 ho (hk f b6)
def zsl{E:List Nat}{k:List Fg}(h:RightK k)(j:EdI E k):EdI E (zL k):=zsf GrpI.nil h (λf h=>by cases h) j
structure Ke(C:Qk)(R E:List Nat)(k:List Fg):Prop where
 can:CanK k
 ik:IK C R k
 s:∀f∈k,SmV f.vec
 ed:EdI E k
 m:qE k<=E.length
 l:k.length<=E.length
section
variable {C:Qk}{R E:List Nat}{a b k:List Fg}
def Ke.r(h:Ke C R E k):RightK k:=h.can.right
def Ke.kn(h:Ke C R E k):Kn C R E.length k:=⟨h.r,h.ik,h.s,h.m,h.l⟩
def Ke.nil:Ke C R E []:=⟨zaJ,(λf h=>by cases h),(λf h=>by cases h),(λf h=>by cases h),X3 _,X3 _⟩
def Ke.do{f:Q9}(F:f false false=false)(j:Ke C R E a)(hb:Ke C R E b)(ok:OkX C R)(w:0∈E):Ke C R E (vh f a b):=by
 have G:=j.r.app hb.r;have B:EdI E (a++b):=λf h=>(wF.1 h).elim (j.ed f) (hb.ed f);obtain⟨H,A⟩:=zsj G B w;have u:=xU (f:=f) j.r hb.r;have hk:=Kn.do F j.kn hb.kn ok;have o:=jU u;refine⟨ze5 j.r hb.r,hk.ik,hk.s,zsl u λg o=>?_,?_,?_⟩
 .obtain⟨s,hs,rfl⟩:=wD.1 o;exact A s hs
 .have:qE (yy f a b)=(zu (a++b)).length:=Zf _ _;unfold vh;omega
 .have:(yy f a b).length=(zu (a++b)).length:=wB _;unfold vh;omega
def Ke.canonP{n:Nat}(hk:Kn C R n k)(B:EdI E k)(ok:OkX C R)(w:0∈E):Ke C R E (zbx k):=by
 obtain⟨F,A⟩:=zsj hk.r B w;have u:=Yb hk.r;have j:=hk.canon ok;have o:=jU u;refine⟨zbX hk.r,j.ik,j.s,zsl u λg o=>?_,?_,?_⟩
 .obtain⟨s,hs,rfl⟩:=wD.1 o;exact A s hs
 .have:qE (jq k)=(zu k).length:=Zf _ _;unfold zbx;omega
 .have:(jq k).length=(zu k).length:=wB _;unfold zbx;omega
def zsF{items:List Iv}(h:Ke C R E k)(hi:Nrm items)(o:∀x,Ed items x->x∈E):EdI E (zl5 k items):=λg u=>by obtain⟨f,j,rfl⟩:=wD.1 u;exact λx w=>(zcM rfl (h.r f j).1 hi w).elim (h.ed f j x) (o x)
end
structure Rs where
 id:Nat
 recs:List Rc
 known:List Fg
 next:Nat
def zs7(x y:Rc):Bool:=decide (y.ctr<x.ctr) || (decide (x.ctr=y.ctr) && decide (y.rep<x.rep))
def zsq(s:Rs)(i:Nat):Nat:=match zrZ s.recs i with
 |some x=>if s.next<=x.ctr then x.ctr+1 else s.next
 |none=>s.next
def ztL(s:Rs)(i:Nat)(v:ByteArray):Rc:=⟨i,s.id,zsq s i,v⟩
noncomputable def ztM (s:Rs) (i:Nat) (v:ByteArray):Rs:=⟨s.id,zr4 s.recs (ztL s i v),vh zn s.known (znP i s.id (zsq s i)),zsq s i+1⟩
def zs0(s:Rs)(known:List Fg)(items:List Iv):List Rc:=s.recs.filter λx=>mem items x.item && !hasK known x.item x.rep x.ctr
def zse(l:List Rc)(x:Rc):List Rc:=match zrZ l x.item with
 |some y=>if zs7 x y=true then zr4 l x else l
 |none=>zr4 l x
noncomputable def ztt (s f:Rs) (items:List Iv):Rs:=⟨s.id,(zs0 f s.known items).foldl zse s.recs,vh zn s.known (znF f.known items),s.next⟩
structure Env25(C:Qk)(R E I:List Nat):Prop where
 ok:OkX C R
 c:∀r x,x<=26->x∈C r
 z:0∈E
 e:E.length<=1000
 i:I.length<=25
 m:∀i∈I,i<zk/\i∈E/\(i+1<zk->i+1∈E)
structure Ok25(C:Qk)(R E I:List Nat)(n:Nat)(s:Rs):Prop where
 k:Ke C R E s.known
 a:zr8 s.recs
 x:∀x∈s.recs,x.item∈I/\x.rep<zk/\x.ctr<n/\x.val.size<=100
 n:s.next<=n
 i:s.id<zk/\s.id∈R
def zsA{l:List Rc}{I:List Nat}(h:zr8 l)(j:∀x∈l,x.item∈I):l.length<=I.length:=by
 have:=Ji (l.map Rc.item) I (uw.2 h) λy u=>by obtain⟨x,o,rfl⟩:=wD.1 u;exact j x o
 simpa using this
section
variable {C:Qk}{R E I:List Nat}{n:Nat}{s f:Rs}
def Ok25.len(h:Ok25 C R E I n s)(e:Env25 C R E I):s.recs.length<=25:=by have:=zsA h.a λx j=>(h.x x j).1;have:=e.i;omega
def Ok25.ctr(h:Ok25 C R E I n s)(i:Nat):zsq s i<=n:=by
 unfold zsq;have:=h.n;cases hg:zrZ s.recs i with
 |none=>exact this
 | some x=>
   have j:=(h.x x (zsB hg).1).2.2.1;dsimp only;split
   .omega
   .exact this
def Ok25.mono{m:Nat}(h:Ok25 C R E I n s)(o:n<=m):Ok25 C R E I m s:=
 ⟨h.k,h.a,λx j=>by have:=h.x x j;exact⟨this.1,this.2.1,a8,this.2.2.2⟩,by have:=h.n;omega,h.i⟩
def ztd(e:Env25 C R E I){i r c:Nat}(hi:i<zk/\i∈E/\(i+1<zk->i+1∈E))(H:r<zk)(K:r∈R)(N:c<=25):Ke C R E (znP i r c):=by
 have M:=zw;obtain⟨A,B,F⟩:=hi;have u:c<zk:=a8
 have L:1<=E.length:=uj e.z;have o:=zkS H u;have G:IV C R (zl9 r c):=by
  refine⟨o.right,λq x w=>?_,λy J=>?_⟩
  .rw[zoE H u]at w;split at w
   .rcases zhC w with rfl|rfl
    .exact e.c _ _ a8
    .exact e.c _ _ a8
   .exact absurd w zcL
  .simp only[zl9,wH]at J;subst J;rw[qD b6];exact K
 refine⟨⟨⟨λg j=>?_,by simp[znP]⟩,by simp[znP,xh]⟩,λg j=>?_,λg j=>?_,λg j x w=>?_,?_,?_⟩
 .simp only[znP,wH]at j;subst j;exact⟨o,by simp[zl9],qG (Zp _) A,b6⟩
 .simp only[znP,wH]at j;subst j;exact G
 .simp only[znP,wH]at j;subst j;exact zoF H u
 .simp only[znP,wH]at j;subst j;rcases zhC w with rfl|rfl
  .exact B
  .exact F w.1
 .simp[znP,qE];omega
 .simp[znP];omega
def Ok25.put(h:Ok25 C R E I n s)(e:Env25 C R E I){i:Nat}{v:ByteArray}(hi:i∈I)(o:v.size<=100)(w:n<=25):Ok25 C R E I (n+1) (ztM s i v):=by
 have u:=h.ctr i;refine⟨h.k.do rfl (ztd e (e.m i hi) h.i.1 h.i.2 a8) e.ok e.z,zr6 h.a,λx j=>?_,by show zsq s i+1<=n+1;omega,h.i⟩;rcases zr3 j with rfl|j
 .exact⟨hi,h.i.1,by show zsq s i<n+1;omega,o⟩
 .have:=h.x x j;exact⟨this.1,this.2.1,a8,this.2.2.2⟩
def zsz{l:List Rc}{x y:Rc}(h:y∈zse l x):y=x\/y∈l:=by
 unfold zse at h;split at h
 .split at h
  .exact zr3 h
  .exact .inr h
 .exact zr3 h
def zsy{l:List Rc}{x:Rc}(h:zr8 l):zr8 (zse l x):=by
 unfold zse;split
 .split
  .exact zr6 h
  .exact h
 .exact zr6 h
def zsa:∀{m l:List Rc},zr8 l->zr8 (m.foldl zse l)/\∀x∈m.foldl zse l,x∈m\/x∈l
 |[],l,h=>⟨h,λx o=>.inr o⟩
 | y::m,l,h=>by
   obtain⟨u,w⟩:=zsa (m:=m) (zsy (x:=y) h);refine⟨u,λx o=>?_⟩;rcases w x o with j|j
   .exact .inl (by simp[j])
   .exact(zsz j).imp (λe=>by simp[e]) id
def zsR{k:List Fg}(h:Ke C R E k)(e:Env25 C R E I){items:List Iv}(hi:Nrm items)(o:∀x,Ed items x->x∈E)(u:items.length<=10):Ke C R E (znF k items)/\Kn C R 22000 (zl5 k items):=by have w:=h.l;have A:=h.m;have B:=e.e;have F:k.length*items.length<=1000*10:=UR a8 u;have j:Kn C R 22000 (zl5 k items):=Kn.proj h.kn hi a8;exact⟨Ke.canonP j (zsF h hi o) e.ok e.z,j⟩
def Ok25.pull(h:Ok25 C R E I n s)(o:Ok25 C R E I n f)(e:Env25 C R E I){items:List Iv}(hi:Nrm items)(A:∀x,Ed items x->x∈E)(B:items.length<=10):Ok25 C R E I n (ztt s f items):=by
 obtain⟨u,w⟩:=zsa (m:=zs0 f s.known items) h.a;refine⟨h.k.do rfl (zsR o.k e hi A B).1 e.ok e.z,u,λx F=>?_,h.n,h.i⟩;rcases w x F with j|j
 .exact o.x x (WB.1 j).1
 .exact h.x x j
end
end
section
attribute [-go_sem] z7
def Nw(D:xT)(w j:World):Nat->Nat->Prop:=λb o=>D b o\/(w.heap.size<=b/\b<j.heap.size)
def Gd(D:xT)(w:World):Prop:=GL D w/\∀b o,D b o->b<w.heap.size
def Rpl(D:xT)(t:Nat)(w:World)(b m:Nat)(s:Rs):Prop:=
 ∃ka j,w.heap[b]?=some (.cells #[.int .u64 s.id,.map (some m),.slice ka s.known.length j,.int .u64 s.next,.bool false] 84 (0,0))/\MR t m w s.recs/\Dat D w (.slice ka s.known.length j) (kp s.known)
def Gd.keep{D:xT}{S:Nat->Prop}{w w':World}(h:Gd D w)(hk:Keep S w w')(u:∀b o,D b o->¬S b):Gd D w':=
 ⟨h.1.mono (λ_ _ h=>h) λb o x j A=>hk.cell_some A (u b o j),λb o j=>vw (h.2 b o j) hk.size⟩
def Gd.new{D:xT}{w w0 j:World}(h:Gd D j)(hs:w0.heap.size<=j.heap.size):Gd (Nw D w0 j) j:=⟨h.1.mono (λ_ _ h=>.inl h) λ_ _ _ _ h=>h,λb o u=>u.elim (h.2 b o) uf⟩
def Rpl.keep{D D':xT}{S:Nat->Prop}{t b m:Nat}{w w':World}{s:Rs}(h:Rpl D t w b m s)(hk:Keep S w w')(hb:¬S b)(E:¬S m)(u:∀b o,D b o->D' b o/\¬S b):Rpl D' t w' b m s:=by obtain⟨ka,G,A,j,B⟩:=h;exact⟨ka,G,hk.obj A hb,j.keep (hk.block m j.lt E),B.mono (λb o h=>(u b o h).1) λb o x C F=>hk.cell_some F (u b o C).2⟩
def Rpl.mono{D:xT}{t j b m:Nat}{w:World}{s:Rs}(h:Rpl D t w b m s)(ht:t<=j):Rpl D j w b m s:=by obtain⟨ka,B,o,u,A⟩:=h;exact⟨ka,B,o,u.mono ht,A⟩
def zuI(id:Nat)(D:xT)(w:World):Calls xt 20 #[.int .u64 (id:Nat)] w λe o=>e=.returned (.pointer (some ⟨w.heap.size+1,0,none⟩))/\Below w.heap.size w o/\o.heap.size=w.heap.size+2/\Rpl D 0 o (w.heap.size+1) w.heap.size ⟨id,[],[],0⟩:=by
 have u:=@run_makeMap xt
 go_enter func20,ntmps20
 go_wp2;refine tA (tL rfl _ _ _) rfl ?_;exact⟨rfl,((tv _ w).alloc (Zp _) _).alloc b6 _,b6,none,0,TC _ _ _,(MR.made w).keep (tw _ _ _ b6),.sl none 0 1 [] .sh 0 0 (λ_=>undef) (Zp _) (λh=>by cases h) b8 (λh=>absurd rfl h) (λi e h=>by simp at h) (λj h=>by simp at h) (λi e j p h=>by simp at h)⟩
def c4s{w:World}{g:Nat}{a b c d:Value}{t:TypeId}(h:w.heap[g]?=some (.cells #[a,b,c,d] t (0,0))):(w.cell? ⟨g,0,none⟩=some a/\w.cell? ⟨g,1,none⟩=some b/\w.cell? ⟨g,2,none⟩=some c/\w.cell? ⟨g,3,none⟩=some d)/\w.frozen? ⟨g,0,none⟩=false/\w.frozen? ⟨g,1,none⟩=false/\w.frozen? ⟨g,2,none⟩=false/\w.frozen? ⟨g,3,none⟩=false:=
 have H:=zW h
 ⟨⟨(H 0 _ rfl).1,(H 1 _ rfl).1,(H 2 _ rfl).1,(H 3 _ rfl).1⟩,(H 0 _ rfl).2,(H 1 _ rfl).2,(H 2 _ rfl).2,(H 3 _ rfl).2⟩
def c6s{w:World}{g:Nat}{a b c d e f:Value}{t:TypeId}(h:w.heap[g]?=some (.cells #[a,b,c,d,e,f] t (0,0))):w.cell? ⟨g,0,none⟩=some a/\w.cell? ⟨g,1,none⟩=some b/\w.cell? ⟨g,2,none⟩=some c/\w.cell? ⟨g,3,none⟩=some d/\w.cell? ⟨g,4,none⟩=some e/\w.cell? ⟨g,5,none⟩=some f:=
 have H:=zW h
 ⟨(H 0 _ rfl).1,(H 1 _ rfl).1,(H 2 _ rfl).1,(H 3 _ rfl).1,(H 4 _ rfl).1,(H 5 _ rfl).1⟩
def zwa{D:xT}{t b m:Nat}{w:World}{s:Rs}(K:Rpl D t w b m s)(C:Gd D w)(hb:CanK s.known)(G:s.known.length<=1000000)(hz:∀f∈s.known,f.items.length<=1000000/\f.vec.length<=1000000/\∀e∈f.vec,e.holes.length<=1000000):
 Calls xt 15 #[.pointer (some ⟨b,0,none⟩)] w λe H=>∃v,e=.returned v/\Below w.heap.size w H/\KO w.heap.size H v s.known:=by
 obtain⟨ka,L,A,J,B⟩:=K;have E:=zrM s.known B C.2 (λf F=>⟨(hb.right f F).1.lt,(hb.gi.ok f F).1.bd⟩) G hz;have O:w.cell? ⟨b,2,none⟩=some (.slice ka s.known.length L):=(zW A 2 _ rfl).1;have I:=qL E;clear E A J B C hb G hz;go_enter func15,ntmps15
 go_wp2_with (go_at_call 35;refine I.o.mono ?_;rintro e P ⟨u,rfl,o,j⟩;obtain⟨M,N,rfl,_⟩:=RwF.shape j)
 go_ret;exact⟨_,rfl,o,j⟩
def zte{D:xT}{t b m n:Nat}{w:World}{s:Rs}(C:Rpl D t w b m s)(B:Gd D w)(hb:CanK s.known)(E:s.known.length<=1000000)(hz:∀f∈s.known,f.items.length<=1000000/\f.vec.length<=1000000/\∀e∈f.vec,e.holes.length<=1000000):
 Calls xt 15 #[.pointer (some ⟨b,0,none⟩)] w λe j=>∃v,e=.returned v/\Below w.heap.size w j/\Dat (Nw D w j) j v (kp s.known):=by
 refine(zwa C B hb E hz).mono ?_;rintro e j ⟨v,rfl,hb,hk⟩;exact⟨v,rfl,hb,KO.dat hk λb o u A=>.inr ⟨u,A⟩⟩
def zs4{fn:Func}{p u:Tmp}{o t:TypeId}{B:Array Field}{w:World}{g:Nat}{cs:Array Value}{j:Array Value}(h:fn.results=#[.cell p o,.tmp u])(E:j.getD p undef=.pointer (some ⟨g,0,none⟩))(C:w.heap[g]?=some (.cells cs t (0,0)))
 (F:xt.underlying o=some (.struct B)) (hi:(xt.info? o).map (·.size)=some cs.size):(results fn j).run xt w=.ok (.tuple #[.agg cs,j.getD u undef]) w:=by
 have A:j[p]?.getD undef=.pointer (some ⟨g,0,none⟩):=dK E
 simp[results,h,A,asAddr,run_loadVar_row w g t o cs (0,0) _ C F rfl hi]
def zwk{D:xT}{t b m:Nat}{w:World}{s:Rs}{i:Nat}(I:Rpl D t w b m s)(hi:i<zk):Calls xt 18 #[.pointer (some ⟨b,0,none⟩),.int .u64 (i:Nat)] w λe J=>e=.returned (.tuple #[rcv ((zrZ s.recs i).getD zRc),.bool (zrZ s.recs i).isSome])/\Below w.heap.size w J:=by
 obtain⟨ka,K,j,u,H⟩:=I;have F:w.cell? ⟨b,1,none⟩=some (.map (some m)):=(zW j 1 _ rfl).1;have E:=qL u;have B:=u.lt;have A:=(Yf.1 j).1;have G:∀o,(w.alloc o).cell? ⟨b,1,none⟩=some (.map (some m)):=λo=>(tp (a:=⟨b,1,none⟩) (tw _ _ _ A)).trans F;clear j u H;go_enter func18,ntmps18
 go_wp2_with (at_lookup;refine zsX rfl _ _ rfl rfl (E.o.keep (tw _ _ _ B)) hi rfl (λC=>?_) λy C=>?_)
 .refine tA (zs4 rfl rfl (Tu _ _ _) underlying47 dL) rfl ?_;rw[C];exact⟨rfl,((tv _ w).alloc (Zp _) _).alloc b6 _⟩
 .refine tA (zs4 rfl rfl (Tu _ _ _) underlying47 dL) rfl ?_;rw[C];exact⟨rfl,((tv _ w).alloc (Zp _) _).alloc b6 _⟩
def zvi{D:xT}{base sz:Nat}{w:World}{e:TypeId}{v:Value}{C:List (List PV)}{E:List Value}(h:w.ownsRow base e sz v C.length E)(hs:∀(i:Nat)(p:List PV),C[i]?=some p->p.length=sz)(N:∀u∈E,u.oneCell'=true)(Q:∀b o,base<=b->b<w.heap.size->D b o)
 (Y:∀(i:Nat)(l:List PV)(j:Nat)(p:PV),C[i]?=some l->l[j]?=some p->∃u,E[i*sz+j]?=some u/\Dat D w u p):Dat D w v (.sl C .sh):=by
 have hl:=h.1;rcases h.2 with⟨rfl,M⟩|⟨g,A,L,rfl,T,S,U,J,hz,ht⟩
 .rw[wY.1 M];exact .sl none 0 sz [] .sh 0 0 (λ_=>undef) (Zp _) (λh=>by cases h) b8 (λh=>absurd rfl h) (λi e h=>by simp at h) (λj h=>by simp at h) (λi e j p h=>by simp at h)
 .have G:=(Yf.1 S).1;by_cases F:C=[]
  .subst F;exact .sl _ A sz [] .sh g 0 (λ_=>undef) (X3 _) (λh=>by cases h) J (λ_=>rfl) (λi e h=>by simp at h) (λj h=>by simp at h) (λi e j p h=>by simp at h)
  have K:=wX.2 F;have I:∀j u,E[j]?=some u->w.cell? ⟨g,j,none⟩=some u:=λj u X=>(by have:=tK h (g:=g) (by cases A with|zero=>omega|succ c=>rfl) j u X;rw[zh,wn]at this;exact this);refine .sl _ A sz C .sh g 0 (λj=>(E[j]?).getD undef) U (λh=>by cases h) J (λ_=>rfl) hs (λj Z=>?_) (λi l j p H V=>?_)
  .have B:j<E.length:=a8;rw[Zv B,wn];exact⟨Q g j T G,I j _ (Zv B),N _ (XE B)⟩
  .obtain⟨u,O,P⟩:=Y i l j p H V;rw[O];exact P
def rcs(x:Rc):List Value:=[.int .u64 x.item,.int .u64 x.rep,.int .u64 x.ctr,.string x.val]
def OwnL(e:TypeId)(base:Nat)(w:World)(v:Value)(l:List Rc):Prop:=w.ownsRow base e 4 v l.length (l.flatMap rcs)
def zsD:∀{l:List Rc}{i:Nat}(h:i<l.length){j:Nat},j<4->(l.flatMap rcs)[i*4+j]?=(rcs l[i])[j]?
 |x::l,0,_,j,hj=>by rw[Wk,V2 (by simp[rcs];omega),Nat.zero_mul,wn];rfl
 |x::l,i+1,h,j,hj=>by rw[Wk,V1 (by simp[rcs];omega),show (i+1)*4+j-(rcs x).length=i*4+j by simp[rcs];omega,zsD (dK h) hj];rfl
def zs3{l:List Rc}:∀u∈l.flatMap rcs,u.oneCell'=true:=λu j=>by
 obtain⟨x,_,h⟩:=um.1 j;simp[rcs]at h;rcases h with rfl|rfl|rfl|rfl<;>rfl
def OwnL.dat{D:xT}{e:TypeId}{base:Nat}{w:World}{v:Value}{l:List Rc}(h:OwnL e base w v l)(B:∀b o,base<=b->b<w.heap.size->D b o):Dat D w v (lp l):=by
 refine zvi (sz:=4) (e:=e) (base:=base) (by rw[wB];exact h) (λi p u=>?_) zs3 B λi q j p A u=>?_
 .rw[wh]at u;obtain⟨x,_,rfl⟩:=ZZ.1 u;rfl
 .rw[wh]at A;obtain⟨x,C,rfl⟩:=ZZ.1 A;obtain⟨hi,rfl⟩:=Zw.1 C;match j,u with
  |0,u=>cases u;exact⟨_,zsD hi a8,.v _⟩
  |1,u=>cases u;exact⟨_,zsD hi a8,.v _⟩
  |2,u=>cases u;exact⟨_,zsD hi a8,.v _⟩
  |3,u=>cases u;exact⟨_,zsD hi a8,.v _⟩
def OwnL.val{e:TypeId}{base:Nat}{w:World}{v:Value}{l:List Rc}(h:OwnL e base w v l):∃a c,v=.slice a l.length c:=by
 rcases h.2 with⟨h,u⟩|⟨g,j,o,h,_⟩
 .exact⟨none,0,by rw[h,u]⟩
 .exact⟨_,_,h⟩
def zvb{l:List Rc}(u:zr8 l){j:Nat}(o:j<l.length):zrZ l l[j].item=some l[j]:=by
 cases hg:zrZ l l[j].item with
 |none=>unfold zrZ at hg;rw[Uj]at hg;exact absurd b6 (hg _ (XE o))
 | some y=>
   obtain⟨w,A⟩:=zsB hg;obtain⟨i,hi,rfl⟩:=Wp w;rcases WN i j with h|h|h
   .have:=wT.1 u i j hi o h;omega
   .subst h;rfl
   .have:=wT.1 u j i o hi h;omega
def zuW{P:Program}{f:FuncId}{t:Tmp}{xs:List Operand}{j:Array Value}{c:Call}{o:Oper}{a:Act}{w:World}{K:Act->World->Prop}{Q:Exit->Act->World->Prop}(ho:o.op=.call c)(C:c.callee=.value (.tmp t))(G:a.eval (.tmp t)=.func (.func f) #[] j)(B:c.args.toList=xs)
 (E:∀u w,(callFunc f u).run P w=.ok (.enter f u) w)
 (h:Calls P f ((xs.map a.eval).toArray++j) w λe A=>match e with|.returned v=>K (a.put o.dst v) A|.panicked chain=>Q (.panic chain) a A|.outgrown=>LetsOut Q):o.wp P a w K Q:=by
 have F:(execOp a.eval o).run P w=.ok (.enter f ((xs.map a.eval).toArray++j)) w:=by have e:c.args.map a.eval=(xs.map a.eval).toArray:=WG.1 (by rw[WX,B]);simp only[execOp,ho,resolve,C,e,G,Deferred.ofValue,tH,tJ,tB,invoke];rw[show (#[]++(xs.map a.eval).toArray++j:Array Value)=(xs.map a.eval).toArray++j from by simp];exact E _ _
 unfold Oper.wp;rw[F,Tc];exact h.mono (λe H h=>by cases e<;>exact h)
def zvP:(xt.info? 47).map (λi=>(i.zero,i.size,i.bytes))=some (some zR,4,40):=dL
def ztO{D:xT}{t b m:Nat}{w:World}{s:Rs}{q:Rc->Bool}{f:FuncId}{cap:Array Value}(hR:Rpl D t w b m s)(ha:zr8 s.recs)(hl:s.recs.length<=1000000)(hi:∀x∈s.recs,x.item<zk)(he:∀O w,(callFunc f O).run xt w=.ok (.enter f O) w)
 (hf:∀x∈s.recs,∀W,Below w.heap.size w W->Calls xt f (#[rcv x]++cap) W λe w'=>e=.returned (.bool (q x))/\Below W.heap.size W w') :
 Calls xt 29 #[.pointer (some ⟨b,0,none⟩),.func (.func f) #[] cap] w λe w'=>∃v,e=.returned v/\Below w.heap.size w w'/\OwnL 47 w.heap.size w' v (s.recs.filter q):=by
 obtain⟨ka,kc,h1,h2,h3⟩:=hR;have c1:w.cell? ⟨b,1,none⟩=some (.map (some m)):=(zW h1 1 _ rfl).1;have hb:=(Yf.1 h1).1;have HB:=qL h1;have HM:=qL h2;have HA:=qL ha;have HI:=qL hi;have HE:=qL he;have HF:=qL hf;obtain⟨n,hn⟩:=xm (s.recs.length);have HN:=qL hn;rw[<-hn]at hl;obtain⟨i0,ah,ao,aq,ar⟩:=tR zvP;have A:=qL (And.intro ah (And.intro ao (And.intro aq ar)));clear h1 h2 h3 ha hi he hf hn ah ao aq ar;go_enter func29,ntmps29
 go_wp2_with (first
  |(go_at_call 68;refine(zuG _ _).mono ?_;rintro e w1 ⟨rfl,rfl⟩)
  | (go_at_call 67;refine(ztB HA.o (HM.o.keep (tw _ _ _ HM.o.lt)) HI.o (tX w _ _) (by rw[<-HN.o];omega)).mono ?_
     rintro e E ⟨u2,rfl,V,N⟩;obtain⟨a2,c2,rfl⟩:∃a c,u2=.slice a n c:=by
      have ai:(s.recs.map Rc.item).length=n:=(by rw[wB,HN.o]);rcases V.2 with⟨h,h0⟩|⟨g,cap,T,h,_⟩
      .exact⟨none,0,by rw[h,<-ai,h0]⟩
      .exact⟨_,_,by rw[h,ai]⟩
     have ab:=qL V;have G:w.heap.size<=E.heap.size:=(by have:=N.size;simp only[tx]at this;omega);have I:=qL (((tv _ w).alloc (Zp _) _).trans (N.mono b6));have aC:=N.size;simp only[tx]at aC;clear V N))
 go_loopg [5,16] n (λg y x wr=>∃j,j<=n/\g=n-j/\x=.int .i64 j/\OwnL 47 E.heap.size wr y ((s.recs.take j).filter q)/\Below E.heap.size E wr)
 case atStart=>exact⟨0,X3 _,rfl,rfl,tV _ _ _ _,tv _ _⟩
 case round=>
  obtain⟨j,hj,rfl,rfl,X,o⟩:=hrel;have aA:=qL X;have av:=qL o;have aD:=o.size;by_cases U:j<n
  .have B:j<s.recs.length:=(by rw[<-HN.o];exact U);obtain⟨x,hx⟩:=xm (s.recs[j]);have F:x∈s.recs:=(by rw[hx];exact XE B);have P:zrZ s.recs x.item=some x:=(by rw[hx];exact zvb HA.o B);have am:s.recs.take (j+1)=s.recs.take j++[x]:=(by rw[hx];exact X4 B);obtain⟨g,rfl,hg,cg⟩:∃g,a2=some ⟨g,0,none⟩/\g<E.heap.size/\wr.cell? ⟨g,j,none⟩=some (.int .u64 x.item):=by
    rcases ab.o.2 with⟨_,h0⟩|⟨g,cap,T,h,hg,hc,ae,_,_,_⟩
    .rw[wB,<-HN.o]at h0;omega
    .obtain⟨rfl,_,rfl⟩:a2=some ⟨g,0,none⟩/\n=(s.recs.map Rc.item).length/\c2=cap:=(dK h);have ag:=(Yf.1 hc).1;rw[wB,<-HN.o]at ae;have:=tK ab.o (g:=g) (by cases c2 with|zero=>omega|succ c=>rfl) j (.int .u64 x.item) (by rw[Ub,wh,Zv B,<-hx];rfl);rw[zh,wn]at this;exact⟨g,rfl,ag,(tp (a:=⟨g,j,none⟩) (o.block g ag)).trans this⟩
   have cb:wr.cell? ⟨b,1,none⟩=some (.map (some m)):=(tp (a:=⟨b,1,none⟩) ((o.block b a8).trans (I.o.block b hb))).trans c1;have aj:MR t m wr s.recs:=HM.o.keep ((o.block m (by have:=HM.o.lt;omega)).trans (I.o.block m HM.o.lt));have aF:=HI.o x F;have aG:((s.recs.take j).filter q).length<=j:=V0 (WF _ _) a9;have HG:=qL P;have ax:=qL aj;have aw:=qL (HF.o x F);have ac:=qL am;obtain⟨wz,aE⟩:∃wz,wz=wr:=⟨wr,rfl⟩;subst aE;obtain⟨Z,H⟩:=xm (wz.alloc (.cells #[.int .u64 x.item,.int .u64 x.rep,.int .u64 x.ctr,.string x.val] 47));have aI:Z.heap.size=wz.heap.size+1:=(by rw[H];simp);have an:Z.heap[wz.heap.size]?=some (.cells #[.int .u64 x.item,.int .u64 x.rep,.int .u64 x.ctr,.string x.val] 47 (0,0)):=(by rw[H];exact tq wz _);have aB:=qL an;have Q:qA (Below E.heap.size E Z):=qL (by rw[H];exact o.alloc aD _);have az:qA (OwnL 47 E.heap.size Z u5 ((s.recs.take j).filter q)):=qL (by rw[H];exact X.alloc _);clear F P hx am aj X o an
   go_wp2_with (at_lookup;refine ztf rfl _ _ rfl rfl ax.o aF rfl HG.o ?_)
   rw[<-H];refine zuW (t:=26) (xs:=[.tmp 27]) rfl rfl rfl rfl HE.o ?_;refine(aw.o Z (I.o.trans (Q.o.mono G))).mono ?_;rintro e w4 ⟨rfl,C⟩;have M:OwnL 47 E.heap.size w4 u5 ((s.recs.take j).filter q):=(Keep.of_below' (S:=qe) C (Zp _)).ownsRow az.o λ_ _=>id;have L:Below E.heap.size E w4:=Q.o.trans (C.mono Q.o.size);have Y:=(C.block _ a8).trans aB.o;have aH:=C.size;cases hq:q x with
   | false=>
     dsimp only;have K:=qL M;have J:=qL L;clear M L Y C
     go_wp2_with fail
     go_roundg (n-(j+1));case measure=>omega
     case rel=>refine⟨j+1,U,rfl,b6,?_,J.o⟩;rw[ac.o,up,uB,hq,Vq b6,UK,Wc];exact K.o
   | true=>
     obtain⟨⟨x0,x1,x2,x3⟩,-⟩:=c4s Y;have K:=qL M;have J:=qL L;clear M L Y C;dsimp only
     go_wp2_with fail
     refine Zi _ _ 45 rfl E.heap.size 47 i0 _ 4 40 underlying45 A.o.1 A.o.2.1 A.o.2.2.1 A.o.2.2.2 rfl b8 _ _ (((s.recs.take j).filter q).flatMap rcs) rfl (World.ownsRow.alloc K.o _) ⟨w4.heap.size,0,none⟩ 1 1 (rcs x) rfl rfl (λk u hk=>by
      rw[zh,wn];exact(zW (tq w4 _) k u (by simpa[rcs]using hk)).1) (λu hu=>zs3 (l:=[x]) u (dK hu)) c8 a8 a9 ?_
     intro v6 w6 ak af _ _;have ad:=(J.o.alloc J.o.size _).grown af a9 λk hk=>(World.ownsRow.lt K.o k hk).1;have ay:=qL ak;have au:=qL ad;clear ak af ad
     go_wp2_with fail
     go_roundg (n-(j+1));case measure=>omega
     case rel=>refine⟨j+1,U,rfl,b6,?_,au.o⟩;rw[ac.o,up,uB,hq,Vm rfl,UK];unfold OwnL;rw[wi,Wq,Wk,Uz,Wc];exact ay.o
  .obtain rfl:j=n:=a8
   go_wp2_with fail
   refine tA (tL rfl _ _ _) rfl ?_;have h:=aA.o;rw[wm (by rw[HN.o];exact Zp _)]at h;exact⟨_,rfl,I.o.trans (av.o.mono G),h.1,h.2.imp id λ⟨g,cap,T,q1,q2,q3⟩=>⟨g,cap,T,q1,V0 G q2,q3⟩⟩
end
section
open Go.ChangeShapes Go.WideShapes Go.ChangeAt Go.Deep
structure Opn where
 who:Int
 from_:Int
 item:Nat
 val:ByteArray
 items:List Iv
instance : Inhabited Opn:=⟨⟨0,0,0,⟨#[]⟩,[]⟩⟩
def opc(o:Opn):List PV:=[.v (.int .i64 o.who),.v (.int .i64 o.from_),.v (.int .u64 o.item),.v (.string o.val),rg o.items]
def opp(l:List Opn):PV:=.sl (l.map opc) .sh
def I63(x:Int):Prop := -9223372036854775808<=x/\x<9223372036854775808
def BdO(o:Opn):Prop:=(I63 o.who/\I63 o.from_)/\o.item<zk/\o.val.size<=maxLen/\(∀s∈o.items,s.lo<zk/\s.hi<zk)/\o.items.length<=9223372036854775807
section
variable {H:Type}{enc:TypeId×Value->H}{w:World}{base:Nat}{spare:Nat->Bool}{held:Bool}
def ztP{t:TypeId}{j:Nat}{o:List Value}{x:DataW H×List MemPlace}(ht:xt.underlying t=some (.int .i64))(h:DataW.trod enc xt w base spare held j t o=some x):∃n:Int,o=[.int .i64 n]/\I63 n:=by obtain⟨n,rfl,_,u⟩:=DataW.trod_int ht h;refine⟨n,rfl,?_⟩;simp[Lit.wf,IntKind.min,IntKind.max,IntKind.signed,IntKind.bits]at u;unfold I63;omega
def zvh{n:Nat}{a:Addr}{I:List Value}{y:DataW H×List MemPlace}(h1:w.cells? base a 5=some I)(h2:DataW.trod enc xt w base spare held n 38 I=some y):a.spot=none/\a.block<w.heap.size/\∃o,rdC opc BdO w a.block a.off o:=by
 obtain⟨_,E,u⟩:=World.cells?_some h1;obtain⟨xs,k,_,_,_,L,C⟩:=DataW.trod_struct underlying38 h2;match xs,L,I,E with
 | [y0,y1,y2,y3,y4],_,[v0,v1,v2,v3,v4],_=>
   have N:=C 0 _ rfl;have O:=C 1 _ rfl;have P:=C 2 _ rfl;have Q:=C 3 _ rfl;have S:=C 4 _ rfl;have X:xt.cellsOf 3 = 1:=dL;have Y:xt.cellsOf 36 = 1:=dL;have Z:xt.cellsOf 9 = 1:=dL;have c4:xt.cellsOf 24 = 1:=dL;simp[X,Y,Z,c4]at N O P Q S;have B:=u 0 a8;have e1:=u 1 a8;have e2:=u 2 a8;have e3:=u 3 a8;have e4:=u 4 a8;obtain⟨T,q0,U⟩:=ztP underlying3 N;obtain⟨m1,q1,b1⟩:=ztP underlying3 O;obtain⟨m2,q2,b2⟩:=kM underlying36 P;obtain⟨m3,q3,_,V⟩:=DataW.trod_string underlying9 Q;obtain⟨M,l,q4,G⟩:=ZA S;obtain rfl:v0=_:=(dK q0);obtain rfl:v1=_:=(dK q1);obtain rfl:v2=_:=(dK q2);obtain rfl:v3=_:=(dK q3);obtain rfl:v4=M:=(dK q4);replace B:w.cell? a=some (.int .i64 T):=(by simpa[Addr.add]using B);obtain⟨b,ab,F⟩:=a;obtain rfl:F=none:=World.cell?_spot B;have hd:Dat (ZG w) w v4 (rg l):=jp G λ_ _ _ h=>h;have J:=G.bound;have K:l.length<=9223372036854775807:=(by have:=G.len;unfold maxLen at this;omega);refine⟨rfl,tr _ _ B,⟨T,m1,m2,m3,l⟩,λj p A=>?_,⟨U,b1⟩,b2,V,J,K⟩;obtain⟨aa,c,rfl,_⟩:=G;match j,A with
   |0,A=>cases A;exact⟨_,B,rfl,.v _⟩
   |1,A=>cases A;exact⟨_,by simpa[Addr.add]using e1,rfl,.v _⟩
   |2,A=>cases A;exact⟨_,by simpa[Addr.add]using e2,rfl,.v _⟩
   |3,A=>cases A;exact⟨_,by simpa[Addr.add]using e3,rfl,.v _⟩
   |4,A=>cases A;exact⟨_,by simpa[Addr.add]using e4,rfl,hd⟩
def zwo{r:Reach}{C:Nat}{v:Value}{d:DataW H}{J:List MemPlace}(j:Value.okWide xt w r C 22 v)(h:DataW.Trod enc xt w base spare held 22 v d J):∃l,Dat (ZG w) w v (opp l)/\(∀o∈l,BdO o)/\l.length<=9223372036854775807:=by obtain⟨a,len,E,rfl⟩:=okWide_slice underlying22 j;obtain⟨u,I⟩:=h;obtain⟨v,l,B,A⟩:=Za (rdC opc BdO) underlying22 dL (λ_ _ _ _ F G=>zvh F G) I;simp[Value.cells]at B;rw[<-B]at A;exact⟨l,VQ (cv:=opc) (bd:=BdO) (λ_=>rfl) A⟩
def zxI{r:Reach}{u:Nat}{v:Value}{d:DataW H}{B:List MemPlace}(j:Value.okWide xt w r u 9 v)(h:DataW.Trod enc xt w base spare held 9 v d B):∃s:ByteArray,Dat (ZG w) w v (.v (.string s))/\s.size<=maxLen:=by obtain⟨s,rfl⟩:=okWide_string underlying9 j;obtain⟨o,A⟩:=h;obtain⟨q,e,_,b⟩:=DataW.trod_string underlying9 A;simp[Value.cells]at e;exact⟨s,.v _,e▸b⟩
end
end
end Go.Proofs.YtmpnbdhadjfbhaaGreatDoor
