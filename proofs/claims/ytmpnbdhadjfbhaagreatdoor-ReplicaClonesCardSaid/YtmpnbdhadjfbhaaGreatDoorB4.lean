import Derived.Test.YtmpnbdhadjfbhaaGreatDoorB3
set_option linter.all false
namespace Go.Proofs.YtmpnbdhadjfbhaaGreatDoor
def tv:=@Go.RowKit.Below.refl
def tB:=@Go.Result.andThen_ok
def tI:=@Go.run_underlying
def Tv:=@Go.wpOp_mono
def Tx:=@Go.Oper.wp_mono
def TT:=@Go.wp_region_any
open Go.RowKit
section
structure PS where
 t:List (Nat×PV)
 b:List (List PV)
def yr:List (Nat×PV)->Nat->PV
 |[],_=>.und
 |(j,p)::r,i=>if j=i then p else yr r i
def PS.get(s:PS)(i:Nat):PV:=yr s.t i
def PS.put(s:PS)(d:Option Nat)(p:PV):PS:=match d with|some d=>⟨(d,p)::s.t,s.b⟩|none=>s
structure Gh where
 D:Nat->Nat->Prop
 ρ:Nat->Nat
structure Bs where
 w0:World
 D0:Nat->Nat->Prop
 Sb:Nat->Prop
 gl:GL D0 w0
 df:List Deferred
def Bs.W(B:Bs)(k:Nat):Prop:=B.w0.heap.size<=k\/B.Sb k
structure Fr(B:Bs)(D:xT)(w:World):Prop where
 os:w.os=B.w0.os
 tape:w.tape=B.w0.tape
 output:w.output=B.w0.output
 size:B.w0.heap.size<=w.heap.size
 block:∀k,k<B.w0.heap.size->¬B.Sb k->w.heap[k]?=B.w0.heap[k]?
 d0:∀b o,B.D0 b o->D b o
 cell:∀b o x,B.D0 b o->B.w0.cell? ⟨b,o,none⟩=some x->w.cell? ⟨b,o,none⟩=some x
 new:∀b o,D b o->B.D0 b o\/B.W b
 d0lt:∀b o,B.D0 b o->b<B.w0.heap.size
def zaA(g:Gh)(nb:Nat)(w:World)(i:Nat)(u:List PV):Prop:=
 ∃o e,w.heap[g.ρ i]?=some (.cells o e (0,0))/\o.size=u.length/\∀(j:Nat)(p:PV),u[j]?=some p->Rel g.D g.ρ nb w (o.getD j undef) p/\(o.getD j undef).oneCell'=true
def zQ(g:Gh)(s:PS)(x:Nat->Value)(w:World)(u:Value)(p:PV):Prop:=
 (∃t,u=x t/\p=s.get t)\/(∃(i j:Nat) (o:List PV),s.b[i]?=some o/\o[j]?=some p/\w.cell? ⟨g.ρ i,j,none⟩=some u)
structure R(B:Bs)(g:Gh)(s:PS)(x:Nat->Value)(w:World):Prop where
 slots:∀t,Rel g.D g.ρ s.b.length w (x t) (s.get t)
 boxes:∀(i:Nat) cs,s.b[i]?=some cs->B.W (g.ρ i)/\zaA g s.b.length w i cs
 inj:∀i j,i<s.b.length->j<s.b.length->g.ρ i=g.ρ j->i=j
 owns:∀u p,zQ g s x w u p->yW g.D B.W w u p
 disj:∀u p u' p' b,zQ g s x w u p->zQ g s x w u' p'->p.own≠none->p'.own≠none->zc u=some b->zc u'=some b->p.own=p'.own
 ownbox:∀u p b i,zQ g s x w u p->p.own≠none->zc u=some b->i<s.b.length->g.ρ i≠b
 dlt:∀b o,g.D b o->b<w.heap.size
 dbox:∀i,i<s.b.length->∀o,¬g.D (g.ρ i) o
 fr:Fr B g.D w
def qa{n:Nat}{w w':World}(h:Below n w w'){b o:Nat}{x:Value}(hb:b<n)(j:w.cell? ⟨b,o,none⟩=some x):w'.cell? ⟨b,o,none⟩=some x:=(h.cell (p:=⟨b,o,none⟩) hb).trans j
def qF{w:World}{b o:Nat}{x:Value}(j:w.cell? ⟨b,o,none⟩=some x):b<w.heap.size:=tr w ⟨b,o,none⟩ j
def QO(x:Nat->Value)(d:Option Nat)(u:Value):Nat->Value:=λt=>if d=some t then u else x t
def kN(x:Nat->Value)(d:Nat)(u:Value):QO x (some d) u d=u:=by simp[QO]
def QP(x:Nat->Value){d t:Nat}(u:Value)(h:d≠t):QO x (some d) u t=x t:=by simp[QO,h]
def zF(s:PS)(d:Nat)(p:PV):(s.put (some d) p).get d=p:=by simp[PS.put,PS.get,yr]
def zV(s:PS){d t:Nat}(p:PV)(h:d≠t):(s.put (some d) p).get t=s.get t:=by simp[PS.put,PS.get,yr,h]
variable {B:Bs}{g:Gh}{s:PS}{x:Nat->Value}{w w':World}
def R.gl(h:R B g s x w):GL g.D w:=B.gl.mono h.fr.d0 h.fr.cell
def R.slot(h:R B g s x w)(t:Nat):zQ g s x w (x t) (s.get t):=.inl ⟨t,rfl,rfl⟩
def R.ρlt(h:R B g s x w){i:Nat}(hi:i<s.b.length):g.ρ i<w.heap.size:=by obtain⟨_,o,e,j,_⟩:=h.boxes i _ (Zv hi);exact(Yf.1 j).1
def zX{D:xT}{W:Nat->Prop}{u:Value}{p:PV}{b:Nat}(h:yW D W w u p)(ho:p.own≠none)(hb:zc u=some b):b<w.heap.size/\W b:=by
 cases p<;>try exact absurd rfl ho
 rename_i o;cases o<;>try exact absurd rfl ho
 rcases h with⟨a,rfl,_⟩|⟨B,j,A,e,rfl,C,E,_⟩
 .cases a<;>cases hb
 .obtain rfl:B=b:=by cases j<;>simp[zc]at hb;exact hb
  exact⟨(Yf.1 E).1,C⟩
def QH{D:xT}{ρ:Nat->Nat}{nb:Nat}{a:Option Addr}{n j:Nat}{A:List (List PV)}{o:Ow}(h:Rel D ρ nb w (.slice a n j) (.sl A o)):n<=j/\n=A.length/\j<=maxLen:=by
 rcases h with(h|⟨i,o,h,_⟩)|⟨f,va,vb,fs,cs,h,_⟩
 .cases h with
  |sl a j sz A o b off u hc hz hm ha hsz hD h=>exact⟨hc,rfl,hm⟩
 .cases h
 .cases h
def R.slot_rel(h:R B g s x w){u:Value}{p:PV}(hs:zQ g s x w u p):Rel g.D g.ρ s.b.length w u p:=by
 rcases hs with⟨t,rfl,rfl⟩|⟨i,j,A,C,E,o⟩
 .exact h.slots t
 .obtain⟨_,I,e,H,G,F⟩:=h.boxes i A C;have:=(F j p E).1;simp only[World.cell?,H]at o;simp only[Option.isSome_none,uC,U0]at o;rw[wC,o]at this;exact this
def OwnNew(B:Bs)(g:Gh)(s:PS)(x:Nat->Value)(w:World)(u:Value)(p:PV):Prop:=
 p.own≠none->yW g.D B.W w u p/\(∀v q b,zQ g s x w v q->q.own≠none->zc v=some b->zc u=some b->q.own=p.own)/\(∀b i,zc u=some b->i<s.b.length->g.ρ i≠b)
def OwnNew.none{u:Value}{p:PV}(h:p.own=none):OwnNew B g s x w u p:=λj=>absurd h j
def R.ownNew(h:R B g s x w){u:Value}{p:PV}(hs:zQ g s x w u p):OwnNew B g s x w u p:=λho=>
 ⟨h.owns _ _ hs,λv q b j o A C=>h.disj _ _ _ _ b j hs o ho A C,λb i j o=>h.ownbox _ _ b i hs ho j o⟩
def R.put(h:R B g s x w)(d:Option Nat){u:Value}{p:PV}(K:Rel g.D g.ρ s.b.length w u p)(ho:OwnNew B g s x w u p):
 R B g (s.put d p) (QO x d u) w:=by
 cases d with
 |none=>have:QO x none u=x:=(by funext t;simp[QO]);rw[this];exact h
 |some d=>
 have hs:∀v q,zQ g (s.put (some d) p) (QO x (some d) u) w v q->(v=u/\q=p)\/zQ g s x w v q:=by
  rintro v q (⟨t,rfl,rfl⟩|hb)
  .by_cases e:d=t
   .subst e;exact .inl ⟨kN _ _ _,zF _ _ _⟩
   .exact .inr (.inl ⟨t,QP _ _ e,zV _ _ e⟩)
  .exact .inr (.inr hb)
 refine⟨?_,h.boxes,h.inj,?_,?_,?_,h.dlt,h.dbox,h.fr⟩
 .intro t;by_cases e:d=t
  .subst e;rw[kN,zF];exact K
  .rw[QP _ _ e,zV _ _ e];exact h.slots t
 .intro v q j;by_cases C:q.own=none
  .exact zr C
  .rcases hs v q j with⟨rfl,rfl⟩|j
   .exact(ho C).1
   .exact h.owns _ _ j
 .intro v q H G b I J o A b1 b2;rcases hs v q I with⟨rfl,rfl⟩|E<;>rcases hs H G J with⟨rfl,rfl⟩|F
  .rfl
  .exact((ho o).2.1 H G b F A b2 b1).symm
  .exact(ho A).2.1 v q b E o b1 b2
  .exact h.disj _ _ _ _ b E F o A b1 b2
 .intro v q b i j o b1 hi;rcases hs v q j with⟨rfl,rfl⟩|j
  .exact(ho o).2.2 b i b1 hi
  .exact h.ownbox _ _ b i j o b1 hi
def R.frame(h:R B g s x w)(F:xT)(J:∀b o y,g.D b o->w.cell? ⟨b,o,none⟩=some y->w'.cell? ⟨b,o,none⟩=some y)
 (V:∀i,i<s.b.length->w'.heap[g.ρ i]?=w.heap[g.ρ i]?) (c3:∀u p b,zQ g s x w u p->p.own≠none->zc u=some b->w'.heap[b]?=w.heap[b]?)
 (M:∀b o,g.D b o->F b o) (N:∀b o,F b o->g.D b o\/(B.W b/\(∀i,i<s.b.length->g.ρ i≠b)/\∀u p,zQ g s x w u p->p.own≠none->zc u≠some b)) (d3:∀b o,F b o->b<w'.heap.size)
 (e1:w'.os=w.os) (e2:w'.tape=w.tape) (e3:w'.output=w.output) (e4:w.heap.size<=w'.heap.size) (e5:∀k,k<B.w0.heap.size->¬B.Sb k->w'.heap[k]?=w.heap[k]?):R B ⟨F,g.ρ⟩ s x w':=by
 have hs:∀u q,zQ ⟨F,g.ρ⟩ s x w' u q->zQ g s x w u q:=by
  rintro u q (T|⟨i,j,K,Y,h5,h6⟩)
  .exact .inl T
  .exact .inr ⟨i,j,K,Y,h5,by rw[<-h6];exact(tp (a:=⟨g.ρ i,j,none⟩) (V i (Zw.1 Y).1)).symm⟩
 refine⟨λt=>(h.slots t).mono M J (Zp _) λ_ _=>rfl,?_,h.inj,?_,?_,?_,d3,?_,?_⟩
 .intro i K hi;obtain⟨O,vs,e,hv,S,hr⟩:=h.boxes i K hi;exact⟨O,vs,e,(V i (Zw.1 hi).1).trans hv,S,λj p Z=>⟨(hr j p Z).1.mono M J (Zp _) λ_ _=>rfl,(hr j p Z).2⟩⟩
 .intro u q T;by_cases Q:q.own=none
  .exact zr Q
  have E:=hs u q T;have:=h.owns u q E;cases q<;>try trivial
  rename_i es o;cases o<;>try trivial
  rcases this with I|⟨X,G,L,e,rfl,O,hh,hc,he,hd⟩
  .exact .inl I
  .cases G with
   | zero=>
     by_cases H:es=[]
     .subst H;exact .inl ⟨_,rfl,rfl⟩
     .obtain⟨P,_⟩:=QH (h.slot_rel E);exact absurd (wJ (tb.1 P)) H
   | succ G=>
     refine .inr ⟨X,_,L,e,rfl,O,(c3 _ _ X E Q rfl).trans hh,hc,he,λo ho C=>?_⟩;rcases N _ _ C with A|A
     .exact hd o ho A
     .exact A.2.2 _ _ E Q rfl
 .intro u q u' q' b U k2;exact h.disj u q u' q' b (hs _ _ U) (hs _ _ k2)
 .intro u q b i U;exact h.ownbox u q b i (hs _ _ U)
 .intro i hi o C;rcases N _ _ C with A|A
  .exact h.dbox i hi o A
  .exact A.2.1 i hi rfl
 .refine⟨e1.trans h.fr.os,e2.trans h.fr.tape,e3.trans h.fr.output,V0 h.fr.size e4,λk hk I=>(e5 k hk I).trans (h.fr.block k hk I),λb o C=>M _ _ (h.fr.d0 b o C),?_,?_,?_⟩
  .intro b o y C hy;exact J _ _ _ (h.fr.d0 b o C) (h.fr.cell b o y C hy)
  .intro b o C;rcases N _ _ C with A|A
   .exact h.fr.new b o A
   .exact .inr A.1
  .exact h.fr.d0lt
def R.grow(h:R B g s x w)(hb:Below w.heap.size w w')(j:xT)(G:∀b o,g.D b o->j b o)
 (H:∀b o,j b o->g.D b o\/w.heap.size<=b) (I:∀b o,j b o->b<w'.heap.size):R B ⟨j,g.ρ⟩ s x w':=by
 refine h.frame j (λb o y _ F=>qa hb (qF F) F) (λi hi=>hb.block _ (h.ρlt hi)) (λu p b E ho C=>hb.block _ (zX (h.owns u p E) ho C).1) G ?_ I
  hb.os hb.tape hb.output hb.size λk hk _=>hb.block k (vw hk h.fr.size)
 intro b o J;rcases H b o J with A|A
 .exact .inl A
 .refine .inr ⟨.inl (V0 h.fr.size A),λi hi e=>?_,λu p E ho e=>?_⟩
  .have:=h.ρlt hi;omega
  .have:=(zX (h.owns u p E) ho e).1;omega
def R.drew(h:R B g s x w):R B g s x w.drew:=
 h.grow (w':=w.drew) ⟨rfl,rfl,rfl,Zp _,λ_ _=>rfl⟩ g.D (λ_ _ h=>h) (λ_ _ h=>.inl h) h.dlt
def R.box(h:R B g s x w)(d:Option Nat)(E:Array Value)(e:TypeId)(G:List PV)(ac:E.size=G.length)
 (hr:∀(j:Nat)(p:PV),G[j]?=some p->Rel g.D g.ρ s.b.length w (E.getD j undef) p/\(E.getD j undef).oneCell'=true) (ho:∀p∈G,p.own=none) :
 R B ⟨g.D,λi=>if i=s.b.length then w.heap.size else g.ρ i⟩ (PS.put ⟨s.t,s.b++[G]⟩ d (.bx s.b.length 0)) (QO x d (.pointer (some ⟨w.heap.size,0,none⟩))) (w.alloc (.cells E e)):=by
 have hb:Below w.heap.size w (w.alloc (.cells E e)):=(tv _ _).alloc (Zp _) _;have J:R B g s x (w.alloc (.cells E e)):=h.grow hb g.D (λ_ _ h=>h) (λ_ _ h=>.inl h) λb o Y=>vw (h.dlt b o Y) hb.size;obtain⟨ρ',M⟩:=xn ((λi=>if i=s.b.length then w.heap.size else g.ρ i));rw[M];have e1:∀i,i<s.b.length->ρ' i=g.ρ i:=λi hi=>by rw[<-M];simp;omega
 have e2:ρ' s.b.length=w.heap.size:=by rw[<-M];simp
 have K:∀b o x,g.D b o->w.cell? ⟨b,o,none⟩=some x->(w.alloc (.cells E e)).cell? ⟨b,o,none⟩=some x:=λb o x _ N=>qa hb (qF N) N;have mono:∀u p,Rel g.D g.ρ s.b.length (w.alloc (.cells E e)) u p->Rel g.D ρ' (s.b++[G]).length (w.alloc (.cells E e)) u p:=λu p hu=>hu.mono (λ_ _ h=>h) (λ_ _ _ _ h=>h) b6 e1;have ae:(s.b++[G]).length=s.b.length+1:=b6
 have hs:∀u q,zQ ⟨g.D,ρ'⟩ ⟨s.t,s.b++[G]⟩ x (w.alloc (.cells E e)) u q->q.own≠none->zQ g s x (w.alloc (.cells E e)) u q:=by
  rintro u q (N|⟨i,j,F,H,U,X⟩) V
  .exact .inl N
  .rcases wL i s.b.length with hi|hi
   .rw[V2 hi]at H;exact .inr ⟨i,j,F,H,U,by rw[<-X];show _=World.cell? _ ⟨ρ' i,j,none⟩;rw[e1 i hi]⟩
   .rw[V1 hi]at H;have L:i-s.b.length=0:=by have:=(Zw.1 H).1;simp at this;omega
    rw[L]at H;simp at H;subst H;exact absurd (ho q (wO U)) V
 have r1:R B ⟨g.D,ρ'⟩ ⟨s.t,s.b++[G]⟩ x (w.alloc (.cells E e)):=by
  refine⟨λt=>mono _ _ (J.slots t),?_,?_,?_,?_,?_,J.dlt,?_,J.fr⟩
  .intro i F hi;rcases wL i s.b.length with A|A
   .rw[V2 A]at hi;obtain⟨hW,ad,e',hv,T,S⟩:=J.boxes i F hi;refine⟨by show B.W (ρ' i);rw[e1 i A];exact hW,ad,e',by show _=_;rw[<-hv];show (World.alloc _ _).heap[ρ' i]?=_;rw[e1 i A],T,λj p Q=>⟨mono _ _ (S j p Q).1,(S j p Q).2⟩⟩
   .rw[V1 A]at hi;have L:i-s.b.length=0:=by have:=(Zw.1 hi).1;simp at this;omega
    rw[L]at hi;simp at hi;subst hi;have:i=s.b.length:=a8;subst this;refine⟨by show B.W (ρ' _);rw[e2];exact .inl h.fr.size,E,e,?_,ac,λj p Q=>⟨mono _ _ ((hr j p Q).1.mono (λ_ _ h=>h) K (Zp _) λ_ _=>rfl),(hr j p Q).2⟩⟩;show (World.alloc _ _).heap[ρ' _]?=_;rw[e2];exact tq w _
  .intro i j hi hj ab;have Z:i<s.b.length+1:=(dK hi);have af:j<s.b.length+1:=(dK hj);have C:ρ' i=ρ' j:=ab;rcases wL i s.b.length with A|A<;>rcases wL j s.b.length with P|P
   .rw[e1 i A,e1 j P]at C;exact J.inj i j A P C
   .have:j=s.b.length:=a8;rw[e1 i A,this,e2]at C;have:=h.ρlt A;omega
   .have:i=s.b.length:=a8;rw[e1 j P,this,e2]at C;have:=h.ρlt P;omega
   .omega
  .intro u q hu;by_cases V:q.own=none
   .exact zr V
   .exact J.owns u q (hs u q hu V)
  .intro u q u' q' b k1 k2 O o2;exact J.disj u q u' q' b (hs _ _ k1 O) (hs _ _ k2 o2) O o2
  .intro u q b i k1 O b1 hi;have k:=hs _ _ k1 O;show ρ' i≠b;rcases wL i s.b.length with A|A
   .rw[e1 i A];exact J.ownbox u q b i k O b1 A
   .have:i=s.b.length:=(by have:i<(s.b++[G]).length:=hi;simp at this;omega);rw[this,e2];have k0:zQ g s x w u q:=by
     rcases k with N|⟨i,j,F,H,U,X⟩
     .exact .inl N
     .exact .inr ⟨i,j,F,H,U,by rw[<-X];exact(hb.cell (p:=⟨g.ρ i,j,none⟩) (h.ρlt (Zw.1 H).1)).symm⟩
    have:=(zX (h.owns u q k0) O b1).1;omega
  .intro i hi o Y;have Z:i<s.b.length+1:=(by have:i<(s.b++[G]).length:=hi;simpa using this);have I:g.D (ρ' i) o:=Y;rcases wL i s.b.length with A|A
   .rw[e1 i A]at I;exact h.dbox i A o I
   .have:i=s.b.length:=a8;rw[this,e2]at I;have:=h.dlt _ _ I;omega
 refine r1.put d (.inl (.inr ⟨s.b.length,0,rfl,b6,?_⟩)) (.none rfl);show _=Value.pointer (some ⟨ρ' s.b.length,0,none⟩);rw[e2]
def R.boxAt(h:R B g s x w)(d:Option Nat)(S:Array Value)(e:TypeId)(E:List PV)(ab:S.size=E.length){F:Nat}(hh:w.heap[F]?=some (.cells S e (0,0)))(U:B.W F)(N:∀i,i<s.b.length->g.ρ i≠F)(Y:∀o,¬g.D F o)(Z:∀u q,zQ g s x w u q->q.own≠none->zc u≠some F)
 (hr:∀(j:Nat)(p:PV),E[j]?=some p->Rel g.D g.ρ s.b.length w (S.getD j undef) p/\(S.getD j undef).oneCell'=true) (ho:∀p∈E,p.own=none) :
 R B ⟨g.D,λi=>if i=s.b.length then F else g.ρ i⟩ (PS.put ⟨s.t,s.b++[E]⟩ d (.bx s.b.length 0)) (QO x d (.pointer (some ⟨F,0,none⟩))) w:=by
 obtain⟨ρ',K⟩:=xn ((λi=>if i=s.b.length then F else g.ρ i));rw[K];have e1:∀i,i<s.b.length->ρ' i=g.ρ i:=λi hi=>by rw[<-K];simp;omega
 have e2:ρ' s.b.length=F:=by rw[<-K];simp
 have mono:∀u p,Rel g.D g.ρ s.b.length w u p->Rel g.D ρ' (s.b++[E]).length w u p:=λu p hu=>hu.mono (λ_ _ h=>h) (λ_ _ _ _ h=>h) b6 e1;have ad:(s.b++[E]).length=s.b.length+1:=b6
 have hs:∀u q,zQ ⟨g.D,ρ'⟩ ⟨s.t,s.b++[E]⟩ x w u q->q.own≠none->zQ g s x w u q:=by
  rintro u q (hx|⟨i,j,H,I,h5,h6⟩) T
  .exact .inl hx
  .rcases wL i s.b.length with hi|hi
   .rw[V2 hi]at I;exact .inr ⟨i,j,H,I,h5,by rw[<-h6];show _=World.cell? _ ⟨ρ' i,j,none⟩;rw[e1 i hi]⟩
   .rw[V1 hi]at I;have J:i-s.b.length=0:=by have:=(Zw.1 I).1;simp at this;omega
    rw[J]at I;simp at I;subst I;exact absurd (ho q (wO h5)) T
 have r1:R B ⟨g.D,ρ'⟩ ⟨s.t,s.b++[E]⟩ x w:=by
  refine⟨λt=>mono _ _ (h.slots t),?_,?_,?_,?_,?_,h.dlt,?_,h.fr⟩
  .intro i H hi;rcases wL i s.b.length with C|C
   .rw[V2 C]at hi;obtain⟨U,ac,e',hv,Q,P⟩:=h.boxes i H hi;refine⟨by show B.W (ρ' i);rw[e1 i C];exact U,ac,e',by show _=_;rw[<-hv];show w.heap[ρ' i]?=_;rw[e1 i C],Q,λj p O=>⟨mono _ _ (P j p O).1,(P j p O).2⟩⟩
   .rw[V1 C]at hi;have J:i-s.b.length=0:=by have:=(Zw.1 hi).1;simp at this;omega
    rw[J]at hi;simp at hi;subst hi;have:i=s.b.length:=a8;subst this;refine⟨by show B.W (ρ' _);rw[e2];exact U,S,e,?_,ab,λj p O=>⟨mono _ _ (hr j p O).1,(hr j p O).2⟩⟩;show w.heap[ρ' _]?=_;rw[e2];exact hh
  .intro i j hi hj X;have V:i<s.b.length+1:=(dK hi);have ae:j<s.b.length+1:=(dK hj);have A:ρ' i=ρ' j:=X;rcases wL i s.b.length with C|C<;>rcases wL j s.b.length with M|M
   .rw[e1 i C,e1 j M]at A;exact h.inj i j C M A
   .have:j=s.b.length:=a8;rw[e1 i C,this,e2]at A;exact absurd A (N i C)
   .have:i=s.b.length:=a8;rw[e1 j M,this,e2]at A;exact absurd A.symm (N j M)
   .omega
  .intro u q hu;by_cases T:q.own=none
   .exact zr T
   .exact h.owns u q (hs u q hu T)
  .intro u q u' q' b k1 k2 L o2;exact h.disj u q u' q' b (hs _ _ k1 L) (hs _ _ k2 o2) L o2
  .intro u q b i k1 L b1 hi;have k:=hs _ _ k1 L;show ρ' i≠b;rcases wL i s.b.length with C|C
   .rw[e1 i C];exact h.ownbox u q b i k L b1 C
   .have:i=s.b.length:=(by have:i<(s.b++[E]).length:=hi;simp at this;omega);rw[this,e2];exact λe3=>Z u q k L (by rw[b1,<-e3])
  .intro i hi o hD;have V:i<s.b.length+1:=(by have:i<(s.b++[E]).length:=hi;simpa using this);have G:g.D (ρ' i) o:=hD;rcases wL i s.b.length with C|C
   .rw[e1 i C]at G;exact h.dbox i C o G
   .have:i=s.b.length:=a8;rw[this,e2]at G;exact Y o G
 refine r1.put d (.inl (.inr ⟨s.b.length,0,rfl,b6,?_⟩)) (.none rfl);show _=Value.pointer (some ⟨ρ' s.b.length,0,none⟩);rw[e2]
def PV.down(n:Nat):PV->PV
 |.sl es (.r m sz)=>if m=n then .sl es .sh else .sl es (.r m sz)
 |p=>p
def PS.down(n:Nat)(s:PS):PS:=⟨s.t.map λy=>(y.1,y.2.down n),s.b.map λj=>j.map (PV.down n)⟩
def PV.down_or(n:Nat)(p:PV):p.down n=p.strip\/(p.down n=p/\p.own≠some n):=by
 cases p<;>try exact .inl rfl
 rename_i es o;cases o with
 |sh=>exact .inl rfl
 |z=>exact .inl rfl
 |n k=>exact .inr ⟨rfl,by simp[PV.own]⟩
 |p k=>exact .inr ⟨rfl,by simp[PV.own]⟩
 | r m sz=>
   by_cases e:m=n
   .exact .inl (by simp[PV.down,PV.strip,e])
   .exact .inr ⟨by simp[PV.down,e],by simp[PV.own,e]⟩
def PV.down_own{n:Nat}{p:PV}(h:(p.down n).own≠none):p.down n=p/\p.own≠some n:=by
 rcases PV.down_or n p with e|e
 .rw[e]at h;exact absurd p.strip_own h
 .exact e
def Vn(n t:Nat):∀l:List (Nat×PV),yr (l.map λy=>(y.1,y.2.down n)) t=(yr l t).down n
 |[]=>rfl
 | (j,p)::l=>by
   simp only[WA,yr];split
   .rfl
   .exact Vn n t l
def Va(n t:Nat)(s:PS):(s.down n).get t=(s.get t).down n:=Vn n t s.t
def Rel.down{D:xT}{ρ:Nat->Nat}{nb:Nat}{u:Value}{p:PV}(n:Nat)(h:Rel D ρ nb w u p):Rel D ρ nb w u (p.down n):=by
 rcases PV.down_or n p with e|e
 .rw[e];exact h.strip
 .rw[e.1];exact h
def zbH{n:Nat}{u:Value}{q:PV}(h:zQ g (s.down n) x w u q):∃p,q=p.down n/\zQ g s x w u p:=by
 rcases h with⟨t,rfl,rfl⟩|⟨i,j,E,o,A,C⟩
 .exact⟨_,Va n t s,.inl ⟨t,rfl,rfl⟩⟩
 .simp only[PS.down,wh,ZZ]at o;obtain⟨B,o,rfl⟩:=o;simp only[wh,ZZ]at A;obtain⟨p,A,rfl⟩:=A;exact⟨p,rfl,.inr ⟨i,j,B,o,A,C⟩⟩
def R.down(h:R B g s x w)(n:Nat):R B g (s.down n) x w/\∀u p,zQ g (s.down n) x w u p->p.own≠none->zQ g s x w u p/\p.own≠some n:=by
 have A:(s.down n).b.length=s.b.length:=by simp[PS.down]
 have hs:∀u p,zQ g (s.down n) x w u p->p.own≠none->zQ g s x w u p/\p.own≠some n:=by intro u q F ho;obtain⟨p,rfl,o⟩:=zbH F;obtain⟨e1,e2⟩:=PV.down_own ho;rw[e1];exact⟨o,e2⟩
 refine⟨⟨λt=>?_,?_,λi j=>by rw[A];exact h.inj i j,?_,?_,?_,h.dlt,λi=>by rw[A];exact h.dbox i,h.fr⟩,hs⟩
 .rw[Va,A];exact(h.slots t).down n
 .intro i P hi;simp only[PS.down,wh,ZZ]at hi;obtain⟨E,hi,rfl⟩:=hi;obtain⟨M,O,e,K,L,H⟩:=h.boxes i E hi;refine⟨M,O,e,K,dK L,λj p o=>?_⟩;simp only[wh,ZZ]at o;obtain⟨J,o,rfl⟩:=o;rw[A];exact⟨(H j J o).1.down n,(H j J o).2⟩
 .intro u q F;by_cases ho:q.own=none
  .exact zr ho
  .exact h.owns _ _ (hs u q F ho).1
 .intro u q S Q b G N C I;exact h.disj _ _ _ _ b (hs _ _ G C).1 (hs _ _ N I).1 C I
 .intro u q b i G C b1 hi;exact h.ownbox _ _ b i (hs _ _ G C).1 C b1 (by rw[<-A];exact hi)
def PS.clean(s:PS):PS:=⟨s.t.map λy=>(y.1,y.2.clean),s.b⟩
def Yy(t:Nat):∀l:List (Nat×PV),yr (l.map λy=>(y.1,y.2.clean)) t=(yr l t).clean
 |[]=>rfl
 | (j,p)::l=>by
   simp only[WA,yr];split
   .rfl
   .exact Yy t l
def kT(t:Nat)(s:PS):s.clean.get t=(s.get t).clean:=Yy t s.t
def Rel.clean{D:xT}{ρ:Nat->Nat}{nb:Nat}{u:Value}{p:PV}(h:Rel D ρ nb w u p):Rel D ρ nb w u p.clean:=by
 rcases PV.clean_or p with e|e
 .rw[e];exact h.strip
 .rw[e];exact h
def R.clean(h:R B g s x w):R B g s.clean x w:=by
 have hs:∀u p,zQ g s.clean x w u p->p.own≠none->zQ g s x w u p:=λu p j ho=>by
  rcases j with⟨t,rfl,rfl⟩|j
  .rw[kT]at ho⊢;rcases PV.clean_or (s.get t)with e|e
   .rw[e]at ho;exact absurd (s.get t).strip_own ho
   .rw[e];exact .inl ⟨t,rfl,rfl⟩
  .exact .inr j
 refine⟨λt=>by rw[kT];exact(h.slots t).clean,h.boxes,h.inj,λu p j=>?_,λu p G F b C E o A=>h.disj u p G F b (hs _ _ C o) (hs _ _ E A) o A,λu p b i k o=>h.ownbox u p b i (hs _ _ k o) o,h.dlt,h.dbox,h.fr⟩;by_cases ho:p.own=none
 .exact zr ho
 .exact h.owns _ _ (hs _ _ j ho)
end
inductive PO where
 |t (i:Nat)
 |c (p:PV)
 |f (f:FuncId)
def PS.ev(s:PS):PO->PV
 |.t i=>s.get i
 |.c p=>p
 |.f f=>.fn (.func f) [] []
def Q6:Value->PV
 |.slice none 0 0=>.sl [] .sh
 |v=>.v v
def ofV:Value->PV
 |.slice none 0 0=>.sl [] .z
 |.agg vs=>if vs.toList.all (·.oneCell') then .agg (vs.toList.map Q6) else .v (.agg vs)
 |v=>.v v
def po:Operand->Option PO
 |.tmp t=>some (.t t)
 |.const v=>some (.c (ofV v))
 |.func f=>some (.f f)
 |.global _=>none
inductive PK where
 |mv (x:PO)
 |bin (op:BinOp) (x y:PO)
 |beq (neg:Bool) (x y:PO)
 |eq2 (neg:Bool) (x y:PO) (n:Nat)
 |nil (neg:Bool) (x:PO)
 |not (x:PO)
 |cv (k:IntKind) (x:PO)
 |fa (x:PO) (off:Nat)
 |ia (x y:PO) (sz:Nat)
 |aa (x y:PO) (n sz:Nat)
 |ix (x y:PO) (n:Nat) (ag:Bool) (sz:Nat)
 |fl (x:PO) (off:Nat) (ag:Bool) (sz:Nat)
 |ld (x:PO) (ag:Bool) (sz:Nat)
 |nc (x:PO)
 |bd (zs:List PV) (ps:List (Nat×Nat×PO))
 |bs (sz:Nat) (ps:List PO)
 |ln (x:PO)
 |ex (x:PO) (i:Nat)
 |mf (f:Fn) (fs cs:List PO)
 |mi (t:TypeId) (x:PO)
 |pk (c x y:PO)
 |sc (x:PO) (lo hi:Option PO) (sz:Nat)
 |ap (x y:PO) (sz bytes:Nat)
 |mm (max:Bool) (x y:PO)
 |ca (f:FuncId) (xs:List PO)
 |cl (f:PO) (xs:List PO)
 |iv (x:PO) (m:String) (xs:List PO)
 |sb (op:BinOp) (x y:PO)
 |al (zs:List PV)
 |bo (x:PO)
 |st (x y:PO) (sz:Nat)
structure PI where
 d:Option Nat
 g:Option (Nat×Bool)
 k:PK
def Qb:TypeDesc->Bool
 |.struct _=>true
 |.array _ _=>true
 |_=>false
def XH(P:Program)(t:TypeId):Option (Bool×Nat):=(P.info? t).bind λi=>(P.underlying t).map λd=>(Qb d,i.size)
def Qu:List Operand->Option (List PO)
 |[]=>some []
 |x::r=>(po x).bind λy=>(Qu r).map λl=>y::l
def poo:Option Operand->Option (Option PO)
 |none=>some none
 |some x=>(po x).map some
def Qq(P:Program)(j:Array Field):List (Nat×Operand)->Option (List (Nat×Nat×PO))
 |[]=>some []
 |(i,x)::r=>(j[i]?).bind λf=>(P.info? f.type).bind λn=>(po x).bind λy=>(Qq P j r).map λl=>(f.offset,n.size,y)::l
def Qp(sz:Nat):List (Nat×Operand)->Option (List (Nat×Nat×PO))
 |[]=>some []
 |(i,x)::r=>(po x).bind λy=>(Qp sz r).map λl=>(i*sz,sz,y)::l
def xg(P:Program)(t:TypeId):Option (List PV):=(P.info? t).bind λi=>i.zero.bind λz=>if z.cells.toList.all (·.oneCell') then some (z.cells.toList.map Q6) else none
def jX(P:Program)(t:TypeId):Bool:=match P.underlying t with
 |some (.int _)=>true
 |_=>false
def K8(P:Program):Nat->List Field->Bool
 |_,[]=>true
 |i,f::r=>(f.name != "_") && f.offset == i && jX P f.type && K8 P (i+1) r
def za9(P:Program)(t:TypeId):Option Nat:=match P.underlying t with
 |some (.struct fs)=>if K8 P 0 fs.toList && !P.stoodInHeld t && !P.eqGuardType P.depth t then some fs.size else none
 |some (.array n e)=>if jX P e && (P.info? e).isSome && P.cellsOf e == 1 && !P.eqGuardType P.depth t then some n else none
 |_=>none
def JL:Operand->Bool
 |.const .nilIface=>true
 |_=>false
def zk3:BinOp->Bool
 |.add|.sub|.mul|.quo|.rem|.eql|.neq|.lss|.leq|.gtr|.geq|.shr=>true
 |_=>false
def zoQ:BinOp->Bool
 |.add|.eql|.neq=>true
 |_=>false
def zpq(P:Program)(t:TypeId):Bool:=match P.underlying t with
 |some .string=>true
 |_=>false
def zc6(P:Program)(t:TypeId):Bool:=match P.underlying t with
 |some (.interface _)=>true
 |_=>false
def zh0(P:Program)(t:TypeId):Bool:=match P.underlying t with
 |some .bool=>true
 |_=>false
def zmS(P:Program)(t:TypeId):Bool:=match P.underlying t with
 |some (.int _)=>true
 |_=>false
def XR(P:Program)(o:Oper):Option PK:=
 match o.op with
 |.move x=>(po x).map .mv
 |.assign x=>(po x).map .mv
 |.pick c a b=>(po c).bind λc=>(po a).bind λa=>(po b).map λb=>.pk c a b
 |.alloc e=>(xg P e).map .al
 |.box _ x=>(po x).map .bo
 | .build t parts=>(xg P t).bind λC=>match P.underlying t with
   |some (.struct u)=>if u.toList.all (λf=>(P.info? f.type).isSome) then (Qq P u parts.toList).map λB=>.bd C B else none
   |some (.array _ e)=>(P.info? e).bind λi=>(Qp i.size parts.toList).map λB=>.bd C B
   |_=>none
 | .buildSlice t n parts=>match P.underlying t with
   |some (.slice e)=>(P.info? e).bind λi=>(xg P e).bind λC=>(Qu (parts.toList.map (·.2))).bind λB=>if parts.toList.map (·.1)=List.range n/\n*i.size<=16777216/\n<=16777216 then some (.bs i.size B) else none
   |_=>none
 |.load t a=>(XH P t).bind fun(ag,n)=>if ag || n == 1 then (po a).map λa=>.ld a ag n else none
 |.store t a v=>(XH P t).bind fun(_,n)=>(po a).bind λa=>(po v).map λv=>.st a v n
 |.nilCheck x=>(po x).map .nc
 | .binOp op t x y _=>(po x).bind λw=>(po y).bind λE=>
   if (op == .eql || op == .neq) && JL y && zc6 P t then some (.nil (op == .neq) w)
   else if (op == .eql || op == .neq) && (za9 P t).isSome then some (.eq2 (op == .neq) w E ((za9 P t).getD 0))
   else if (op == .eql || op == .neq) && zh0 P t then some (.beq (op == .neq) w E)
   else if zk3 op && zmS P t then some (.bin op w E)
   else if zoQ op && zpq P t then some (.sb op w E) else none
 |.unOp .not _ x=>(po x).map .not
 | .convert s t x=>match P.underlying s,P.underlying t with
   |some (.int _),some (.int k)=>(po x).map (.cv k)
   |_,_=>none
 | .makeInterface t x=>match P.underlying t with
   |some (.interface _)=>none
   |some _=>(po x).map (.mi t)
   |none=>none
 |.makeFunc f u F=>(Qu u.toList).bind λu=>(Qu F.toList).map λF=>.mf f u F
 | .slice t x lo hi none=>match P.underlying t with
   |some (.slice e)=>(P.info? e).bind λi=>(po x).bind λx=>(poo lo).bind λlo=>(poo hi).map λhi=>.sc x lo hi i.size
   |_=>none
 | .fieldAddr t x f=>match P.underlying t with
   |some (.struct u)=>(u[f]?).bind λA=>(P.info? A.type).bind λi=>if i.size=0 then none else (po x).map λx=>.fa x A.offset
   |_=>none
 | .field t x f=>match P.underlying t with
   |some (.struct u)=>(u[f]?).bind λA=>(XH P A.type).bind fun(ag,n)=>if ag || n == 1 then (po x).map λx=>.fl x A.offset ag n else none
   |_=>none
 | .indexAddr t x y=>match P.underlying t with
   |some (.slice e)=>(P.info? e).bind λi=>(po x).bind λx=>(po y).map λy=>.ia x y i.size
   |some (.array n e)=>(P.info? e).bind λi=>(po x).bind λx=>(po y).map λy=>.aa x y n i.size
   |_=>none
 | .index t x y=>match P.underlying t with
   |some (.array n e)=>(XH P e).bind fun(ag,k)=>if ag || k == 1 then (po x).bind λx=>(po y).map λy=>.ix x y n ag k else none
   |_=>none
 |.extract x i=>(po x).map λx=>.ex x i
 | .call c=>match c.callee,c.args.toList,c.argTypes.toList with
   | .builtin .len,[x],[t]=>match P.underlying t with
     |some (.slice _)=>(po x).map .ln
     |_=>none
   | .builtin .append,[x,y],[t,t']=>match P.underlying t with
     |some (.slice e)=>(P.info? e).bind λi=>if t=t'/\0<i.size/\0<i.bytes then (xg P e).bind λC=>if C.length=i.size then (po x).bind λx=>(po y).map λy=>.ap x y i.size i.bytes else none else none
     |_=>none
   |.builtin .max,[x,y],_=>(po x).bind λx=>(po y).map λy=>.mm true x y
   |.builtin .min,[x,y],_=>(po x).bind λx=>(po y).map λy=>.mm false x y
   |.value (.func f),j,_=>(Qu j).map λj=>.ca f j
   |.value (.tmp t),j,_=>(Qu j).map λj=>.cl (.t t) j
   |.invoke (.tmp t) m,j,_=>(Qu j).map λj=>.iv (.t t) m j
   |_,_,_=>none
 |.unOp .neg _ x=>(po x).map λw=>.bin .sub (.c (.v (.int .i64 0))) w
 |_=>none
def Cn(P:Program)(f:FuncId)(B:List PV)(r:PV):Prop:=
 (∀j w,(callFunc f j).run P w=.ok (.enter f j) w) /\
 ∀(D:xT)(w:World)(A:Array Value),GL D w->(∀b o,D b o->b<w.heap.size)->A.size=B.length->(∀(i:Nat) p,B[i]?=some p->Dat D w (A.getD i undef) p)->Calls P f A w λe w'=>
  ∃v u,e=.returned v/\Below w.heap.size w w'/\(∀b o,D b o->u b o)/\(∀b o,u b o->D b o\/w.heap.size<=b)/\(∀b o,u b o->b<w'.heap.size)/\Dat u w' v r/\yW u (λk=>w.heap.size<=k) w' v r
def OCn(P:Program)(f:FuncId)(C:List (List PV))(sz:Nat)(E:List PV)(F:List (List PV)):Prop:=
 (∀j w,(callFunc f j).run P w=.ok (.enter f j) w) /\
 ∀(D:xT) (w:World) (v:Value) (B:Array Value),GL D w->(∀b o,D b o->b<w.heap.size)->B.size=E.length->(∀(i:Nat) p,E[i]?=some p->Dat D w (B.getD i undef) p)->Dat D w v (.sl C .sh)->yW D (λ_=>True) w v (.sl C (.r 0 sz)) ->
  Calls P f (#[v]++B) w λe w'=>∃u A,e=.returned u/\(w'.os=w.os/\w'.tape=w.tape/\w'.output=w.output/\w.heap.size<=w'.heap.size)/\(∀k,k<w.heap.size->zc v≠some k->w'.heap[k]?=w.heap[k]?) /\
   (∀b o y,D b o->w.cell? ⟨b,o,none⟩=some y->w'.cell? ⟨b,o,none⟩=some y)/\(∀b o,D b o->A b o)/\(∀b o,A b o->D b o\/w.heap.size<=b\/zc v=some b)/\(∀b o,A b o->b<w'.heap.size) /\
   Dat A w' u (.sl F .sh)/\yW A (λk=>w.heap.size<=k\/zc v=some k) w' u (.sl F (.r 0 sz))
def qW(p:PV)(K:List PV->Prop):Prop:=match p with
 |.agg cs=>K cs
 |.v x=>x.oneCell'=true/\K [.v x]
 |.sl es o=>K [.sl es o]
 |.cp cs o=>K [.cp cs o]
 |.bx i o=>K [.bx i o]
 |.fn f fs cs=>K [.fn f fs cs]
 |.ifc t x=>K [.ifc t x]
 |_=>False
def qV(p:PV)(K:Bool->Prop):Prop:=match p with
 |.v (.bool b)=>K b
 |_=>False
def vR(p:PV)(K:IntKind->Int->Prop):Prop:=match p with
 |.v (.int k n)=>K k n
 |_=>False
def QA(p:PV)(K:List (List PV)->Prop):Prop:=match p with
 |.sl es _=>K es
 |_=>False
def qar(k:IntKind)(n:Int)(K:PV->Prop):Prop:=match k with
 |.i64=>(-9223372036854775808<=n/\n<9223372036854775808)/\K (.v (.int .i64 n))
 |k=>K (.v (.int k (k.wrap n)))
def zgm(k:IntKind)(a b:Int):Int:=a.fdiv (2 ^ (min b.toNat k.bits))
def Xo(op:BinOp)(k:IntKind)(a b:Int)(K:PV->Prop):Prop:=match op with
 |.add=>qar k (a+b) K
 |.sub=>qar k (a-b) K
 |.mul=>qar k (a*b) K
 |.quo=>b≠0/\qar k (a.tdiv b) K
 |.rem=>b≠0/\K (.v (.int k (a.tmod b)))
 |.eql=>K (.v (.bool (decide (a=b))))
 |.neq=>K (.v (.bool (!decide (a=b))))
 |.lss=>K (.v (.bool (decide (a<b))))
 |.leq=>K (.v (.bool (decide (a<=b))))
 |.gtr=>K (.v (.bool (decide (b<a))))
 |.geq=>K (.v (.bool (decide (b<=a))))
 |.shr=>0<=b/\K (.v (.int k (zgm k a b)))
 |_=>False
def QB(op:BinOp)(p q:PV)(K:PV->Prop):Prop:=match p,q with
 |.v (.int k a),.v (.int k' b)=>k=k'/\Xo op k a b K
 |_,_=>False
def jy:List PV->List PV->Prop
 |[],[]=>True
 |.v (.int k _)::r,.v (.int k' _)::r'=>k=k'/\jy r r'
 |_,_=>False
def xQ:List PV->List PV->Bool
 |.v (.int _ a)::r,.v (.int _ b)::r'=>decide (a=b) && xQ r r'
 |_,_=>true
def zbz(j:Bool)(m:Nat)(p q:PV)(K:PV->Prop):Prop:=match p,q with
 |.agg xs,.agg ys=>(xs.length=m/\jy xs ys)/\K (.v (.bool (j != xQ xs ys)))
 |_,_=>False
def sbV(op:BinOp)(a b:ByteArray):PV:=match op with
 |.add=>.v (.string (a++b))
 |.eql=>.v (.bool (a.toList == b.toList))
 |_=>.v (.bool !(a.toList == b.toList))
def qsb(op:BinOp)(p q:PV)(K:PV->Prop):Prop:=match p,q with
 |.v (.string a),.v (.string b)=>a.size+b.size<=9223372036854775807/\K (sbV op a b)
 |_,_=>False
def Mth(P:Program)(t:TypeId)(m:String)(f:FuncId):Prop:=∀(v:Value)(j:Array Value)(w:World),(callMethod (.iface t v) m j).run P w=(callFunc f (#[v]++j)).run P w
def VI(j:List PV)(o:Nat)(u:Bool)(n:Nat)(K:PV->Prop):Prop:=match u with
 |true=>o+n<=j.length/\K (.agg ((j.drop o).take n))
 | false=>match j[o]? with
   |some p=>K p
   |none=>False
def zY(j:List PV):Bool:=j.all PV.isD
def XI(u o:List PV)(j:Nat):List PV:=u.take j++o++u.drop (j+o.length)
def vS(s:PS):List (Nat×Nat×PO)->List PV->(List PV->Prop)->Prop
 |[],zs,K=>K zs
 |(off,n,x)::r,zs,K=>qW (s.ev x) λj=>j.length=n/\off+n<=zs.length/\zY j=true/\vS s r (XI zs (j.map PV.sh) off) K
def yP(s:PS)(sz:Nat):List PO->(List (List PV)->Prop)->Prop
 |[],K=>K []
 |x::r,K=>qW (s.ev x) λj=>j.length=sz/\zY j=true/\yP s sz r λo=>K (j.map PV.sh::o)
def Xw(lo:Option PO)(p:PV):Ow:=match lo,p with
 |none,.sl _ (.p i)=>.p i
 |_,_=>.sh
def qBd(s:PS)(y:Option PO)(n:Nat)(K:Nat->Prop):Prop:=match y with
 |none=>K n
 |some y=>vR (s.ev y) λ_ n=>0<=n/\K n.toNat
def PK.q(P:Program)(s:PS)(k:PK)(K:PV->Prop):Prop:=match k with
 | .mv x=>match x with
   |.t i=>K ((s.get i).pre i)
   |x=>K (s.ev x).strip
 |.bin op x y=>QB op (s.ev x) (s.ev y) K
 |.beq n x y=>qV (s.ev x) λa=>qV (s.ev y) λb=>K (.v (.bool (n != (a == b))))
 |.eq2 n x y m=>zbz n m (s.ev x) (s.ev y) K
 | .nil n x=>match s.ev x with
   |.v .nilIface=>K (.v (.bool (!n)))
   |.ifc _ _=>K (.v (.bool n))
   |_=>False
 |.not x=>qV (s.ev x) λb=>K (.v (.bool (!b)))
 |.cv k x=>vR (s.ev x) λ_ n=>K (.v (.int k (k.wrap n)))
 | .fa x off=>match s.ev x with
   |.bx i o=>K (.bx i (o+off))
   |.cp j o=>K (.cp j (o+off))
   |_=>False
 | .ia x y sz=>QA (s.ev x) λu=>vR (s.ev y) λ_ n=>0<=n/\match u[n.toNat]? with
   |some e=>e.length=sz/\K (.cp e 0)
   |none=>False
 | .aa x y n sz=>vR (s.ev y) λ_ m=>(0<=m/\m<n)/\match s.ev x with
   |.bx i o=>K (.bx i (o+m.toNat*sz))
   |.cp j o=>K (.cp j (o+m.toNat*sz))
   |_=>False
 | .ix x y n ag sz=>vR (s.ev y) λ_ m=>(0<=m/\m<n)/\match s.ev x with
   |.agg j=>VI j (m.toNat*sz) ag sz λp=>K p.strip
   |_=>False
 | .fl x off ag n=>match s.ev x with
   |.agg j=>VI j off ag n λp=>K p.strip
   |_=>False
 | .ld x ag n=>match s.ev x with
   |.cp j o=>VI j o ag n λp=>K p.strip
   | .bx i o=>match s.b[i]? with
     |some j=>zY ((j.drop o).take n)=true/\VI j o ag n λp=>K p.strip
     |none=>False
   |_=>False
 | .nc x=>match s.ev x with
   |.bx i o=>K (.bx i o)
   |.cp j o=>K (.cp j o)
   |_=>False
 |.bd zs ps=>vS s ps zs λj=>K (.agg j)
 |.bs sz ps=>yP s sz ps λu=>K (.sl u .z)
 |.ln x=>QA (s.ev x) λu=>K (.v (.int .i64 u.length))
 | .ex x i=>match s.ev x with
   | .tup j=>match j[i]? with
     |some p=>K p.strip
     |none=>False
   |_=>False
 |.mf f fs j=>(fs.all (λx=>(s.ev x).sh.isD || (s.ev x).sh.isB) && j.all (λx=>(s.ev x).sh.isD || (s.ev x).sh.isB))=true/\K (.fn f (fs.map λx=>(s.ev x).sh) (j.map λx=>(s.ev x).sh))
 | .mi t x=>match (s.ev x).isD with
   |true=>K (.ifc t (s.ev x).sh)
   |false=>False
 |.pk c x y=>qV (s.ev c) λb=>(b=true->K (s.ev x).strip)/\(b=false->K (s.ev y).strip)
 |.sc x lo hi sz=>QA (s.ev x) λu=>qBd s hi u.length λh=>qBd s lo 0 λl=>l<=h/\h<=u.length/\(∀e∈u,e.length=sz)/\K (.sl ((u.take h).drop l) (Xw lo (s.ev x)))
 |.mm m x y=>vR (s.ev x) λk a=>vR (s.ev y) λA b=>k=A/\K (.v (.int k (if m then (if b > a then b else a) else (if b<a then b else a))))
 |.ca f xs=>∃r,Cn P f (xs.map λx=>(s.ev x).sh) r/\zY (xs.map λx=>(s.ev x).sh)=true/\K r.strip
 | .cl y xs=>match s.ev y with
   |.fn (.func f) fs j=>∃r,Cn P f (fs++(xs.map λx=>(s.ev x).sh)++j) r/\zY (fs++(xs.map λx=>(s.ev x).sh)++j)=true/\K r.strip
   |_=>False
 | .iv x m xs=>match s.ev x with
   |.ifc t p=>∃f,Mth P t m f/\∃r,Cn P f (p.sh::xs.map λx=>(s.ev x).sh) r/\zY (p.sh::xs.map λx=>(s.ev x).sh)=true/\K r.strip
   |_=>False
 |.sb op x y=>qsb op (s.ev x) (s.ev y) K
 | .ap x y sz by_=>match s.ev x with
   |.sl u .z=>QA (s.ev y) λw=>(∀e∈u,e.length=sz)/\(∀e∈w,e.length=sz)/\(u.length+w.length)*by_<=140737488355328/\K (.sl (u++w) (.n sz))
   |_=>False
 |_=>False
def yC(y:PO)(p:PV)(j:List PV):List PV:=match y,p with
 |.t _,.sl es o=>[.sl es o]
 |_,_=>j.map PV.sh
def apO(o j:List (List PV))(d sz:Nat):Ow:=match o,j with
 |_::_,[]=>.sh
 |_,_=>.r d sz
def isT:PO->Bool
 |.t _=>true
 |_=>false
def PV.fz1(b:List (List PV)):PV->PV
 |.bx i o=>.cp ((b[i]?.getD []).map PV.sh) o
 |p=>p
def PV.fz(b:List (List PV)):PV->PV
 |.fn f fs cs=>.fn f (fs.map (PV.fz1 b)) (cs.map (PV.fz1 b))
 |p=>p.fz1 b
def PS.fz(s:PS):PS:=⟨s.t.map λy=>(y.1,y.2.fz s.b),[]⟩
def PK.e(P:Program)(k:PK)(d:Option Nat)(s:PS)(K:PS->Prop):Prop:=match k with
 |.mf f fs w=>if (fs.any λx=>(s.ev x).isB) || (w.any λx=>(s.ev x).isB) then s.b.all zY=true/\PK.q P s.fz (.mf f fs w) λp=>K (s.fz.put d p) else PK.q P s (.mf f fs w) λp=>K (s.put d p)
 |.mv (.t i)=>K (s.put d (s.get i))
 |.sc x lo hi sz=>PK.q P s (.sc x lo hi sz) λp=>K (s.put d p.strip)
 | .ld x false 1=>match s.ev x with
   | .bx i o=>match s.b[i]? with
     | some w=>match w[o]? with
       |some p=>K (s.put d p)
       |none=>False
     |none=>False
   |_=>PK.q P s (.ld x false 1) λp=>K (s.put d p)
 |.al zs=>K (PS.put ⟨s.t,s.b++[zs]⟩ d (.bx s.b.length 0))
 | .bs sz ps=>match d with
   |some d=>yP s sz ps λu=>K (s.put (some d) (.sl u (.r d sz)))
   |none=>PK.q P s (.bs sz ps) λp=>K (s.put d p)
 |.bo x=>qW (s.ev x) λw=>K (PS.put ⟨s.t,s.b++[w.map PV.sh]⟩ d (.bx s.b.length 0))
 | .st x y sz=>match s.ev x with
   | .bx i o=>match s.b[i]? with
     |some w=>qW (s.ev y) λus=>us.length=sz/\o+sz<=w.length/\K (PS.put ⟨s.t,s.b.set i (XI w (yC y (s.ev y) us) o)⟩ d (.v undef))
     |none=>False
   |_=>False
 | .ap x y sz by_=>match s.ev x with
   |.sl u (.r n sz')=>sz'=sz/\isT x=true/\QA (s.ev y) λj=>(∀e∈j,e.length=sz)/\(u.length+j.length)*by_<=140737488355328/\K ((s.down n).put d (.sl (u++j) (.r n sz)))
   | .sl u .z=>match d with
     |some d=>QA (s.ev y) λj=>(∀e∈u,e.length=sz)/\(∀e∈j,e.length=sz)/\(u.length+j.length)*by_<=140737488355328/\K (s.put (some d) (.sl (u++j) (apO u j d sz)))
     |none=>PK.q P s (.ap x y sz by_) λp=>K (s.put d p.strip)
   |_=>False
 | .ca f xs=>match xs with
   | .t i::xs'=>match s.get i with
     |.sl u (.r n sz)=>(∃r,Cn P f (xs.map λx=>(s.ev x).sh) r/\zY (xs.map λx=>(s.ev x).sh)=true/\K (s.put d r))\/∃A,OCn P f u sz (xs'.map λx=>(s.ev x).sh) A/\zY (xs'.map λx=>(s.ev x).sh)=true/\K ((s.down n).put d (.sl A (.r n sz)))
     |_=>∃r,Cn P f (xs.map λx=>(s.ev x).sh) r/\zY (xs.map λx=>(s.ev x).sh)=true/\K (s.put d r)
   |_=>∃r,Cn P f (xs.map λx=>(s.ev x).sh) r/\zY (xs.map λx=>(s.ev x).sh)=true/\K (s.put d r)
 |k=>k.q P s λp=>K (s.put d p)
section
variable {P:Program}{s:PS}
def Det{α:Type}(H:(α->Prop)->Prop):Prop:=∀K,H K->∃x,K x/\H λy=>y=x
def Det.pure{α:Type}(x:α):Det λK:α->Prop=>K x:=λK h=>⟨x,h,rfl⟩
def Det.false{α:Type}:Det λ_:α->Prop=>False:=λ_ h=>h.elim
def Det.and{α:Type}{H:(α->Prop)->Prop}(p:Prop)(h:Det H):Det λK=>p/\H K:=λK hk=>by obtain⟨x,j,o⟩:=h K hk.2;exact⟨x,j,hk.1,o⟩
def Qw{α:Type}{p:PV}{H:List PV->(α->Prop)->Prop}(h:∀j,Det (H j)):Det λK=>qW p λj=>H j K:=by
 intro K hk;unfold qW at hk⊢;split at hk<;>first|exact h _ K hk|exact Det.and _ (h _) K hk|exact hk.elim
def jm{α:Type}{p:PV}{H:Bool->(α->Prop)->Prop}(h:∀b,Det (H b)):Det λK=>qV p λb=>H b K:=by
 intro K hk;unfold qV at hk⊢;split at hk
 .exact h _ K hk
 .exact hk.elim
def yQ{α:Type}{p:PV}{H:IntKind->Int->(α->Prop)->Prop}(h:∀k n,Det (H k n)):Det λK=>vR p λk n=>H k n K:=by
 intro K hk;unfold vR at hk⊢;split at hk
 .exact h _ _ K hk
 .exact hk.elim
def ZQ{α:Type}{p:PV}{H:List (List PV)->(α->Prop)->Prop}(h:∀j,Det (H j)):Det λK=>QA p λj=>H j K:=by
 intro K hk;unfold QA at hk⊢;split at hk
 .exact h _ K hk
 .exact hk.elim
def zav(k:IntKind)(n:Int):Det (qar k n):=by
 intro K hk;unfold qar at hk⊢;split at hk
 .exact⟨_,hk.2,hk.1,rfl⟩
 .exact⟨_,hk,rfl⟩
def zdZ(op:BinOp)(k:IntKind)(a b:Int):Det (Xo op k a b):=by
 intro K hk;unfold Xo at hk⊢;split at hk<;>first|exact zav _ _ K hk|exact Det.and _ (zav _ _) K hk|exact Det.and _ (Det.pure _) K hk|exact⟨_,hk,rfl⟩|exact hk.elim
def zdV(op:BinOp)(p q:PV):Det (QB op p q):=by
 intro K hk;unfold QB at hk⊢;split at hk
 .exact Det.and _ (zdZ _ _ _ _) K hk
 .exact hk.elim
def zdY(n:Bool)(m:Nat)(p q:PV):Det (zbz n m p q):=by
 intro K hk;unfold zbz at hk⊢;split at hk
 .exact⟨_,hk.2,hk.1,rfl⟩
 .exact hk.elim
def zgf(u:List PV)(o:Nat)(j:Bool)(n:Nat):Det (VI u o j n):=by
 intro K hk;unfold VI at hk⊢;split at hk
 .exact⟨_,hk.2,hk.1,rfl⟩
 .split at hk
  .exact⟨_,hk,rfl⟩
  .exact hk.elim
def kB{α:Type}(w:List PV)(o:Nat)(u:Bool)(n:Nat)(f:PV->α):Det λK:α->Prop=>VI w o u n λp=>K (f p):=by
 intro K hk;obtain⟨x,A,j⟩:=zgf w o u n _ hk;refine⟨f x,A,?_⟩;unfold VI at j⊢;split at j
 .exact⟨j.1,by rw[j.2]⟩
 .split at j
  .rw[j]
  .exact j.elim
def Qy{α:Type}(f:List PV->α):∀(u:List (Nat×Nat×PO))(j:List PV),Det λK:α->Prop=>vS s u j λo=>K (f o)
 |[],j=>Det.pure _
 |(off,n,x)::r,j=>Qw λo=>Det.and _ (Det.and _ (Det.and _ (Qy f r _)))
def Qx{α:Type}(sz:Nat):∀(u:List PO)(f:List (List PV)->α),Det λK:α->Prop=>yP s sz u λj=>K (f j)
 |[],f=>Det.pure _
 |x::r,f=>Qw λo=>Det.and _ (Det.and _ (Qx sz r λj=>f (o.map PV.sh::j)))
def zar{α:Type}(y:Option PO)(n:Nat){H:Nat->(α->Prop)->Prop}(h:∀n,Det (H n)):Det λK=>qBd s y n λm=>H m K:=by
 cases y with
 |none=>exact h n
 |some y=>exact yQ λ_ _=>Det.and _ (h _)
def zat(k:PK):Det (k.q P s):=by
 cases k with
 |mv x=>cases x<;>exact Det.pure _
 |bin op x y=>exact zdV _ _ _
 |beq n x y=>exact jm λa=>jm λb=>Det.pure _
 |eq2 n x y m=>exact zdY _ _ _ _
 | nil n x=>
   intro K hk;simp only[PK.q]at hk⊢;split at hk<;>first|exact⟨_,hk,rfl⟩|exact hk.elim
 |not x=>exact jm λa=>Det.pure _
 |cv k x=>exact yQ λa b=>Det.pure _
 | fa x off=>
   intro K hk;simp only[PK.q]at hk⊢;split at hk<;>first|exact⟨_,hk,rfl⟩|exact hk.elim
 | ia x y sz=>
   refine ZQ λw=>yQ λ_ n=>Det.and _ λK hk=>?_;split at hk
   .exact⟨_,hk.2,hk.1,rfl⟩
   .exact hk.elim
 | aa x y n sz=>
   refine yQ λ_ m=>Det.and _ λK hk=>?_;split at hk<;>first|exact⟨_,hk,rfl⟩|exact hk.elim
 | ix x y n ag sz=>
   refine yQ λ_ m=>Det.and _ λK hk=>?_;split at hk
   .exact kB _ _ _ _ _ K hk
   .exact hk.elim
 | fl x off ag n=>
   intro K hk;simp only[PK.q]at hk⊢;split at hk
   .exact kB _ _ _ _ _ K hk
   .exact hk.elim
 | ld x ag n=>
   intro K hk;simp only[PK.q]at hk⊢;split at hk
   .exact kB _ _ _ _ _ K hk
   .split at hk
    .exact Det.and _ (kB _ _ _ _ _) K hk
    .exact hk.elim
   .exact hk.elim
 | nc x=>
   intro K hk;simp only[PK.q]at hk⊢;split at hk<;>first|exact⟨_,hk,rfl⟩|exact hk.elim
 |bd zs ps=>exact Qy _ _ _
 |bs sz ps=>exact Qx _ _ _
 |ln x=>exact ZQ λ_=>Det.pure _
 | ex x i=>
   intro K hk;simp only[PK.q]at hk⊢;split at hk
   .split at hk
    .exact⟨_,hk,rfl⟩
    .exact hk.elim
   .exact hk.elim
 |mf f fs cs=>exact Det.and _ (Det.pure _)
 | mi t x=>
   intro K hk;simp only[PK.q]at hk⊢;split at hk
   .exact⟨_,hk,rfl⟩
   .exact hk.elim
 | pk c x y=>
   refine jm λb=>?_;intro K hk;cases b with
   |true=>exact⟨_,hk.1 rfl,λ_=>rfl,nofun⟩
   |false=>exact⟨_,hk.2 rfl,nofun,λ_=>rfl⟩
 |sc x lo hi sz=>exact ZQ λw=>zar _ _ λh=>zar _ _ λl=>Det.and _ (Det.and _ (Det.and _ (Det.pure _)))
 | ap x y sz b=>
   intro K hk;simp only[PK.q]at hk⊢;split at hk
   .exact ZQ (λA=>Det.and _ (Det.and _ (Det.and _ (Det.pure _)))) K hk
   .exact hk.elim
 |mm m x y=>exact yQ λ_ _=>yQ λ_ _=>Det.and _ (Det.pure _)
 |ca f xs=>intro K hk;obtain⟨r,j,o,u⟩:=hk;exact⟨_,u,r,j,o,rfl⟩
 | cl y xs=>
   intro K hk;simp only[PK.q]at hk⊢;split at hk
   .obtain⟨r,j,o,u⟩:=hk;exact⟨_,u,r,j,o,rfl⟩
   .exact hk.elim
 | iv x m xs=>
   intro K hk;simp only[PK.q]at hk⊢;split at hk
   .obtain⟨f,B,r,j,o,u⟩:=hk;exact⟨_,u,f,B,r,j,o,rfl⟩
   .exact hk.elim
 | sb op x y=>
   intro K hk;simp only[PK.q]at hk⊢;unfold qsb at hk⊢;split at hk
   .exact⟨_,hk.2,hk.1,rfl⟩
   .exact hk.elim
 |al zs=>exact Det.false
 |bo x=>exact Det.false
 |st x y n=>exact Det.false
end
section
def lk:List (Option Tmp×VP)->Tmp->Option VP
 |[],_=>none
 |(d,V)::r,t=>if d=some t then some V else lk r t
def Rds(env:List (Option Tmp×VP))(a0:Act):List Tmp->Act->World->Prop
 |[],_,_=>True
 |t::ts,a,w=>(match lk env t with|some V=>∃u,RdEq a t u/\V u w|none=>RdEq a t (a0.tmps.getD t undef))/\Rds env a0 ts a w
def headOk(Sw:Nat->Prop)(j:Oper->Act->World->(Act->World->Prop)->Prop)(a0:Act)(w0:World)(C:World->Prop)(env:List (Option Tmp×VP))(o:Oper)(V:VP):Prop:=
 ∀a w,C w->Keep Sw w0 w->Rds env a0 (zA o) a w->∀K:Act->World->Prop,(∀u w',Keep Sw w w'->C w'->V u w'->K (a.put o.dst u) w')->j o a w K
def isV(env:List (Option Tmp×VP))(j:Nat)(x:Value):Prop:=match env[j]? with|some (_,V)=>∀u w,V u w->u=x|none=>False
def stepOk(Sw:Nat->Prop)(w:Oper->Act->World->(Act->World->Prop)->Prop)(a0:Act)(w0:World)(C:World->Prop)(env:List (Option Tmp×VP))(o:Oper)(V:VP):Prop:=
 match o.guard with
 |none=>headOk Sw w a0 w0 C env o V
 |some (j,b)=>(isV env j (.bool b)/\headOk Sw w a0 w0 C env o V)\/((isV env j (.bool !b)\/isV env j undef)/\V=λu _=>u=undef)
def finG(F:Act->World->Prop)(w:World):List (Option Tmp×VP)->Act->Prop
 |[],a=>F a w
 |(none,_)::r,a=>finG F w r a
 |(some d,V)::r,a=>∀u,V u w->finG F w r (a.put (some d) u)
def walkG(Sw:Nat->Prop)(j:Oper->Act->World->(Act->World->Prop)->Prop)(a0:Act)(w0:World)(C:World->Prop)(F:Act->World->Prop):List Oper->List (Option Tmp×VP)->Prop
 |[],env=>∀w,C w->Keep Sw w0 w->finG F w env a0
 |o::l,env=>∃V:VP,(∀u w w',V u w->Keep Sw w w'->V u w')/\stepOk Sw j a0 w0 C env o V/\walkG Sw j a0 w0 C F l (env++[(o.dst,V)])
section
variable {Sw:Nat->Prop}{ops:Array Oper}{nh:Nat}{a0:Act}{w0:World}{C:World->Prop}
@[reducible] def zoB (Sw:Nat->Prop):Pl.Kpo World:=⟨Keep Sw,Keep.refl Sw,λ_ _ _ h k=>h.trans k⟩
def zoO:∀(env:List (Option Tmp×VP))(t:Tmp),@Pl.lk World env t=lk env t
 |[],t=>rfl
 |(d,V)::r,t=>by rw[lk,Pl.lk,zoO r t]
def zop(env:List (Option Tmp×VP))(a0:Act):∀(j:List Tmp)(a:Act)(w:World),@Pl.Rds World env a0 j a w=Rds env a0 j a w
 |[],a,w=>rfl
 | t::j,a,w=>by
   rw[Rds,Pl.Rds,zop env a0 j a w,zoO];cases lk env t<;>rfl
def zoV(env:List (Option Tmp×VP))(j:Nat)(x:Value):@Pl.isV World env j x=isV env j x:=by
 unfold isV Pl.isV;cases env[j]?<;>rfl
def zoy{j:Oper->Act->World->(Act->World->Prop)->Prop}{env:List (Option Tmp×VP)}{o:Oper}{V:VP}:@Pl.headOk World (zoB Sw) j a0 w0 C env o V=headOk Sw j a0 w0 C env o V:=by unfold headOk Pl.headOk;simp only[zop];rfl
def zoI{u:Oper->Act->World->(Act->World->Prop)->Prop}{env:List (Option Tmp×VP)}{o:Oper}{V:VP}:@Pl.stepOk World (zoB Sw) u a0 w0 C env o V=stepOk Sw u a0 w0 C env o V:=by
 unfold stepOk Pl.stepOk;rw[zoy];cases o.guard with
 |none=>rfl
 |some p=>obtain⟨j,b⟩:=p;simp only[zoV]
def znS{F:Act->World->Prop}{w:World}:∀(env:List (Option Tmp×VP))(a:Act),@Pl.finG World F w env a=finG F w env a
 |[],a=>rfl
 |(none,_)::r,a=>by rw[finG,Pl.finG,znS r a]
 |(some d,V)::r,a=>by rw[finG,Pl.finG];simp only[znS r]
def znZ{j:Oper->Act->World->(Act->World->Prop)->Prop}{F:Act->World->Prop}:∀(l:List Oper)(env:List (Option Tmp×VP)),walkG Sw j a0 w0 C F l env->@Pl.walkG World (zoB Sw) j a0 w0 C F l env
 |[],env,h=>λw u hk=>by rw[znS];exact h w u hk
 |o::l,env,⟨V,h1,h2,h3⟩=>⟨V,h1,by rw[zoI];exact h2,znZ l _ h3⟩
def gready{M:Nat}{l:List Oper}(P:ops=l.toArray)(E:Oper->Act->World->(Act->World->Prop)->Prop)(step:Nat->(Act->World->Prop)->Act->World->Prop)(W:Nat->Array Bool->Act->World->Prop)(G:Act->World->Prop)(T:Nat->Act->World->Prop)
 (B:∀i o K a w,ops[i]?=some o->(if Region.wanted o (yielded ops a.tmps) then E o a w K else K (a.put o.dst undef) w)->step i K a w)
 (A:∀i K N a w,(∀a w,K a w->N a w)->step i K a w->step i N a w)
 (I:∀j a w,Region.ready .any ops j=[]->G a w->W 0 j a w)
 (S:∀u j a w,(Region.ready .any ops j=[]->G a w)->(∀i∈Region.ready .any ops j,step i (W u (j.setIfInBounds i true)) a w)->W (u+1) j a w)
 (Q:∀k a w,k<ops.size->T k a w->step k (T (k+1)) a w) (H:∀a w,T ops.size a w->G a w)
 (F:xk ops nh M=true) (J:yK ops nh=true) (L:a0.tmps.size=M) (O:C w0)
 (h:walkG Sw E a0 w0 C (T nh) (l.take nh) []):W ops.size (Array.replicate ops.size false) a0 w0:=
 @Pl.gready World (zoB Sw) ops nh a0 w0 C M l P E step W G T B A I S Q H F J L O (znZ _ _ h)
end
def Kg{Sw:Nat->Prop}{P:Program}{id:Nat}{l:List Oper}{Q:Exit->Act->World->Prop}{a:Act}{w:World}(nh H:Nat)(C:World->Prop)(J:P.follows .mixedOrders=true)
 (E:(xk l.toArray nh H && yK l.toArray nh)=true) (F:a.tmps.size=H) (I:C w.drew)
 (h:walkG Sw (λo a w K=>o.wp P a w K Q) a w.drew C (λa w=>wpList P l.toArray Q (l.drop nh) a w) (l.take nh) []):(Code.region id l.toArray true).wp P Q a w:=by
 rw[VS]at E;refine TT J ?_;refine gready (ops:=l.toArray) (a0:=a) (w0:=w.drew) (C:=C) rfl (λo a w K=>o.wp P a w K Q) (wpOp P l.toArray Q) (wpAny P .any l.toArray Q) (λa w=>Q .normal a w) (λk a w=>wpList P l.toArray Q (l.drop k) a w)
  ?_ (λi K L a w hk hs=>Tv hk hs) (λj a w A B=>⟨A,B⟩) (λG j a w A B=>⟨A,B⟩) ?_ ?_ E.1 E.2 F I h
 .intro i o K a w ho hs;unfold wpOp;simp only[ho];split
  .rename_i hw;rw[Vm hw]at hs;exact .inl hs
  .rename_i hw;rw[Vq hw]at hs;exact hs
 .intro k a w hk ht;have u:k<l.length:=(dK hk);simp only[vD u,wpList]at ht;unfold wpOp;simp only[wI,Zv u];exact ht
 .intro a w ht;simpa[wpList]using ht
def Kh{Sw:Nat->Prop}{P:Program}{F:Fence}{n:Nat}(hF:∀f,F.fn f){id:Nat}{l:List Oper}{Q:Exit->Act->World->Prop}{a:Act}{w:World}(nh I:Nat)(C:World->Prop)(L:P.follows .mixedOrders=true)
 (E:(xk l.toArray nh I && yK l.toArray nh)=true) (G:a.tmps.size=I) (J:C w.drew)
 (h:walkG Sw (λo a w K=>o.wpIn F n P a w K Q) a w.drew C (λa w=>wpListIn F n P l.toArray Q (l.drop nh) a w) (l.take nh) []):(Code.region id l.toArray true).wpIn F n P Q a w:=by
 rw[VS]at E;refine wpIn_region_any L ?_;refine gready (ops:=l.toArray) (a0:=a) (w0:=w.drew) (C:=C) rfl (λo a w K=>o.wpIn F n P a w K Q) (wpOpIn F n P l.toArray Q) (wpAnyIn F n P .any l.toArray Q) (λa w=>Q .normal a w) (λk a w=>wpListIn F n P l.toArray Q (l.drop k) a w)
  ?_ (λi K M a w hk hs=>wpOpIn_mono hk hs) (λj a w A B=>⟨A,B⟩) (λH j a w A B=>⟨A,B⟩) ?_ ?_ E.1 E.2 G J h
 .intro i o K a w ho hs;unfold wpOpIn;simp only[ho];split
  .rename_i hw;rw[Vm hw]at hs;exact hs
  .rename_i hw;rw[Vq hw]at hs;exact⟨λf _=>hF f,hs⟩
 .intro k a w hk ht;have u:k<l.length:=(dK hk);simp only[vD u,wpListIn]at ht;unfold wpOpIn;simp only[wI,Zv u];exact ht
 .intro a w ht;simpa[wpListIn]using ht
section
variable {Sw:Nat->Prop}{P:Program}{Q:Exit->Act->World->Prop}{a0:Act}{w0:World}{C:World->Prop}{F:Act->World->Prop}{l:List Oper}{o:Oper}{env:List (Option Tmp×VP)}
abbrev xC(P:Program)(Q:Exit->Act->World->Prop):Oper->Act->World->(Act->World->Prop)->Prop:=λo a w K=>o.wp P a w K Q
abbrev zdw(G:Fence)(n:Nat)(P:Program)(Q:Exit->Act->World->Prop):Oper->Act->World->(Act->World->Prop)->Prop:=λo a w K=>o.wpIn G n P a w K Q
def yj(v:Value):∀(u:Value)(w w':World),(fun(u:Value) (_:World)=>u=v) u w->Keep Sw w w'->(fun(u:Value) (_:World)=>u=v) u w':=λ_ _ _ h _=>h
def zG{j:Nat}{d:Option Tmp}{v x:Value}(h:env[j]?=some (d,λu _=>u=v))(e:v=x):isV env j x:=by unfold isV;rw[h];exact λu _ h=>h.trans e
def Vc(v:Value)(h:∀a w,C w->Keep Sw w0 w->Rds env a0 (zA o) a w->(execOp a.eval o).run P w=.ok (.value v) w):headOk Sw (xC P Q) a0 w0 C env o (λu _=>u=v):=by intro a w j hk B K A;show o.upon P a K Q ((execOp a.eval o).run P w);rw[h a w j hk B];exact A v w (Keep.refl _ _) j rfl
def Yu{G:Fence}{n:Nat}(A:∀f,G.fn f)(v:Value)(h:∀a w,C w->Keep Sw w0 w->Rds env a0 (zA o) a w->(o.semAt G.round a.eval).run P w=.ok (.value v) w):headOk Sw (zdw G n P Q) a0 w0 C env o (λu _=>u=v):=by intro a w j hk E K B;refine⟨λf _=>A f,?_⟩;rw[h a w j hk E];exact B v w (Keep.refl _ _) j rfl
def zev(v:Value)(j:o.guard=none)(h:∀a w,C w->Keep Sw w0 w->Rds env a0 (zA o) a w->(execOp a.eval o).run P w=.ok (.value v) w)
 (A:walkG Sw (xC P Q) a0 w0 C F l (env++[(o.dst,λu _=>u=v)])):walkG Sw (xC P Q) a0 w0 C F (o::l) env:=
 ⟨_,yj v,by unfold stepOk;rw[j];exact Vc v h,A⟩
def V5{G:Fence}{n:Nat}(j:∀f,G.fn f)(v:Value)(A:o.guard=none)(h:∀a w,C w->Keep Sw w0 w->Rds env a0 (zA o) a w->(o.semAt G.round a.eval).run P w=.ok (.value v) w)
 (B:walkG Sw (zdw G n P Q) a0 w0 C F l (env++[(o.dst,λu _=>u=v)])):walkG Sw (zdw G n P Q) a0 w0 C F (o::l) env:=
 ⟨_,yj v,by unfold stepOk;rw[A];exact Yu j v h,B⟩
def V6{j:Nat}{b:Bool}(A:o.guard=some (j,b))(B:isV env j (.bool b))(v:Value)(h:∀a w,C w->Keep Sw w0 w->Rds env a0 (zA o) a w->(execOp a.eval o).run P w=.ok (.value v) w)
 (E:walkG Sw (xC P Q) a0 w0 C F l (env++[(o.dst,λu _=>u=v)])):walkG Sw (xC P Q) a0 w0 C F (o::l) env:=
 ⟨_,yj v,by unfold stepOk;rw[A];exact .inl ⟨B,Vc v h⟩,E⟩
def QQ{G:Fence}{n:Nat}(A:∀f,G.fn f){j:Nat}{b:Bool}(B:o.guard=some (j,b))(E:isV env j (.bool b))(v:Value)(h:∀a w,C w->Keep Sw w0 w->Rds env a0 (zA o) a w->(o.semAt G.round a.eval).run P w=.ok (.value v) w)
 (H:walkG Sw (zdw G n P Q) a0 w0 C F l (env++[(o.dst,λu _=>u=v)])):walkG Sw (zdw G n P Q) a0 w0 C F (o::l) env:=
 ⟨_,yj v,by unfold stepOk;rw[B];exact .inl ⟨E,Yu A v h⟩,H⟩
def jI{w:Oper->Act->World->(Act->World->Prop)->Prop}{j:Nat}{b:Bool}(A:o.guard=some (j,b))(B:isV env j (.bool !b)\/isV env j undef)
 (E:walkG Sw w a0 w0 C F l (env++[(o.dst,λu _=>u=undef)])):walkG Sw w a0 w0 C F (o::l) env:=
 ⟨_,yj undef,by unfold stepOk;rw[A];exact .inr ⟨B,rfl⟩,E⟩
def V7{j:Oper->Act->World->(Act->World->Prop)->Prop}(V:VP)(hs:∀u w w',V u w->Keep Sw w w'->V u w')(A:o.guard=none)
 (h:headOk Sw j a0 w0 C env o V) (B:walkG Sw j a0 w0 C F l (env++[(o.dst,V)])):walkG Sw j a0 w0 C F (o::l) env:=
 ⟨V,hs,by unfold stepOk;rw[A];exact h,B⟩
def zhg{A:Oper->Act->World->(Act->World->Prop)->Prop}{j:Nat}{b:Bool}(V:VP)(hs:∀u w w',V u w->Keep Sw w w'->V u w')(B:o.guard=some (j,b))(E:isV env j (.bool b))
 (h:headOk Sw A a0 w0 C env o V) (G:walkG Sw A a0 w0 C F l (env++[(o.dst,V)])):walkG Sw A a0 w0 C F (o::l) env:=
 ⟨V,hs,by unfold stepOk;rw[B];exact .inl ⟨E,h⟩,G⟩
end
def Jz{G o:Prop}(k:o)(e:Hd o->G:=by
 intro A;repeat (first
  |(refine zev ?_ rfl (λa w u _ j=>?_) ?_;rotate_left;(simp[Rds,zA,lk,Op.operands,Call.operands,RdEq]at j;go_simp;with_reducible rfl);simp only[Y1,yb])
  |(refine jI rfl ?_ ?_;(first|exact .inl (zG rfl rfl)|exact .inr (zG rfl rfl));simp only[Y1,yb])
  |(refine V6 rfl ?_ ?_ (λa w u _ j=>?_) ?_;exact(zG rfl rfl);rotate_left;(simp[Rds,zA,lk,Op.operands,Call.operands,RdEq]at j;go_simp;with_reducible rfl);simp only[Y1,yb]))
 exact A.h):G:=e ⟨k⟩
def zlE(f:Nat->Nat)(e:Edge):Edge:={ e with on:=f e.on }
def jA(f:Nat->Nat)(o:Oper):Oper:={ o with after:=o.after.map (zlE f),guard:=o.guard.map λy=>(f y.1,y.2) }
def z8(l:List Oper)(σ:List Nat):List Oper:=σ.map λi=>jA (λj=>σ.idxOf j) (l.getD i default)
def q9(n:Nat)(σ:List Nat):Bool:=σ.length == n && (List.range n).all (λi=>decide (σ.idxOf i<n)) && (List.range n).all λk=>decide (σ.getD k n<n) && decide (σ.idxOf (σ.getD k n)=k)
section
variable {P:Program}{Q:Exit->Act->World->Prop}{l:List Oper}{σ:List Nat}
def Xq(f:Nat->Nat)(o:Oper)(a:Act)(w:World)(K:Act->World->Prop):(jA f o).wp P a w K Q=o.wp P a w K Q:=by cases o;rfl
def zbD(f:Nat->Nat)(o:Oper)(a:Act)(w:World):(jA f o).asks P a w=o.asks P a w:=by cases o;rfl
def qU{n:Nat}(h:q9 n σ=true):σ.length=n/\(∀i,i<n->σ.idxOf i<n)/\∀k,k<n->σ.getD k n<n/\σ.idxOf (σ.getD k n)=k:=by unfold q9 at h;simp only[VS,tk,wN,WS,wG]at h;exact⟨h.1.1,h.1.2,h.2⟩
def vP{n i:Nat}(h:q9 n σ=true)(hi:i<n):σ.getD (σ.idxOf i) n=i:=by obtain⟨o,j,u⟩:=qU h;have w:=j i hi;rw[vj,Zv a8];exact List.getElem_idxOf a8
def VD{n j:Nat}(h:q9 n σ=true)(B:n<=j):σ.idxOf j=n:=by obtain⟨o,A,u⟩:=qU h;rw[<-o];refine List.idxOf_eq_length λw=>?_;obtain⟨k,hk,e⟩:=Wp w;have:=(u k a8).1;rw[vj,Zv hk]at this;simp at this;omega
def Qt{k:Nat}(h:q9 l.length σ=true)(hk:k<l.length):∃o,l[σ.getD k l.length]?=some o/\(z8 l σ)[k]?=some (jA (λj=>σ.idxOf j) o):=by
 obtain⟨A,B,w⟩:=qU h;have u:=(w k hk).1;refine⟨l[σ.getD k l.length],Zv u,?_⟩;unfold z8;have e:σ[k]?=some (σ.getD k l.length):=by rw[vj,Zv a8];rfl
 rw[wh,e];simp only[uQ];congr 2;rw[vj,Zv u];rfl
structure PermM(n:Nat)(σ:List Nat)(m m':Array Bool):Prop where
 s:m.size=n
 s':m'.size=n
 h:∀k,k<n->m'.getD k false=m.getD (σ.getD k n) false
def PermM.at{n:Nat}{m w:Array Bool}(u:q9 n σ=true)(h:PermM n σ m w)(j:Nat):w.getD (σ.idxOf j) false=m.getD j false:=by
 obtain⟨B,A,C⟩:=qU u;rcases wL j n with o|o
 .rw[h.h _ (A j o),vP u o]
 .rw[VD u o];have e1:w.getD n false=false:=by rw[wC,W9 (by rw[h.s'];exact Zp _)];rfl
  have e2:m.getD j false=false:=(by rw[wC,W9 (by rw[h.s];exact o)];rfl);rw[e1,e2]
def getD_tf{m:Array Bool}{i:Nat}(h:i<m.size):m.getD i true=m.getD i false:=by simp[h]
def PermM.set{n k:Nat}{m w:Array Bool}(B:q9 n σ=true)(h:PermM n σ m w)(hk:k<n):PermM n σ (m.setIfInBounds (σ.getD k n) true) (w.setIfInBounds k true):=by
 obtain⟨C,E,u⟩:=qU B;refine⟨dK h.s,dK h.s',λj o=>?_⟩;by_cases e:j=k
 .subst e;rw[zl (by rw[h.s'];exact o),zl (by rw[h.s];exact(u j o).1)]
 .have A:σ.getD j n≠σ.getD k n:=λe2=>e (by have:=(u j o).2;have:=(u k hk).2;rw[e2]at *;omega);rw[zj e,zj A,h.h j o]
def xG{ops:Array Oper}{m:Array Bool}{i:Nat}:i∈Region.ready .any ops m↔i<ops.size/\m.getD i true=false/\∃o,ops[i]?=some o/\(o.after.all λe=>!Region.binds .any e || m.getD e.on false)=true:=by unfold Region.ready;simp only[WB,WS,VS,Wo];refine uR λhi=>uR λ_=>?_;rw[Wg hi];simp
def jZ{m u:Array Bool}{k:Nat}(A:q9 l.length σ=true)(h:PermM l.length σ m u)(hk:k<l.length):k∈Region.ready .any (z8 l σ).toArray u↔σ.getD k l.length∈Region.ready .any l.toArray m:=by
 obtain⟨F,G,B⟩:=qU A;obtain⟨o,C,E⟩:=Qt A hk;have w:(z8 l σ).length=l.length:=by unfold z8;simpa using F
 have e:(u.getD k true=false)↔(m.getD (σ.getD k l.length) true=false):=by rw[getD_tf (by rw[h.s'];exact hk),getD_tf (by rw[h.s];exact(B k hk).1),h.h k hk]
 have e2:((jA (λj=>σ.idxOf j) o).after.all λe=>!Region.binds .any e || u.getD e.on false)=(o.after.all λe=>!Region.binds .any e || m.getD e.on false):=by show ((o.after.map (zlE λj=>σ.idxOf j)).all λe=>!Region.binds .any e || u.getD e.on false)=_;rw[Array.all_map];congr 1;funext e;show (!Region.binds .any e || u.getD (σ.idxOf e.on) false)=_;rw[h.at A]
 rw[xG,xG,e];simp only[WC,w,wI,C,E,wQ,exists_eq_left',e2,hk,(B k hk).1]
def J6(A:q9 l.length σ=true)(u:Array Value)(j:Nat):yielded (z8 l σ).toArray u (σ.idxOf j)=yielded l.toArray u j:=by
 obtain⟨F,G,H⟩:=qU A;have C:(z8 l σ).length=l.length:=by unfold z8;simpa using F
 have e:((z8 l σ).toArray[σ.idxOf j]?).bind (·.dst)=(l.toArray[j]?).bind (·.dst):=by
  simp only[wI];rcases wL j l.length with w|w
  .obtain⟨o,B,E⟩:=Qt A (G j w);rw[vP A w]at B;rw[B,E];rfl
  .rw[VD A w,WZ a8,WZ w]
 unfold yielded;rw[e]
def VE(w:q9 l.length σ=true)(o:Oper)(u:Array Value):Region.wanted (jA (λj=>σ.idxOf j) o) (yielded (z8 l σ).toArray u)=Region.wanted o (yielded l.toArray u):=by
 unfold Region.wanted jA;cases o.guard with
 |none=>rfl
 |some y=>obtain⟨j,b⟩:=y;simp only[uQ,J6 w]
def wpAny_perm(B:q9 l.length σ=true):∀(j:Nat)(m A:Array Bool)(a:Act)(w:World),PermM l.length σ m A->wpAny P .any (z8 l σ).toArray Q j A a w->wpAny P .any l.toArray Q j m a w:=by
 obtain⟨L,J,O⟩:=qU B;have nil:∀{m A:Array Bool},PermM l.length σ m A->Region.ready .any l.toArray m=[]->Region.ready .any (z8 l σ).toArray A=[]:=λ{m A} h e=>by refine Wz.2 λk hk=>?_;have C:(z8 l σ).length=l.length:=(by unfold z8;simpa using L);have H:k<l.length:=(by have:=(xG.1 hk).1;simp only[WC,C]at this;exact this);have:=(jZ B h H).1 hk;rw[e]at this;cases this
 have F:∀{m A:Array Bool},PermM l.length σ m A->Region.ready .any (z8 l σ).toArray A=[]->Region.ready .any l.toArray m=[]:=λ{m A} h e=>by refine Wz.2 λi hi=>?_;have u:i<l.length:=(by simpa using (xG.1 hi).1);have:=(jZ B h (J i u)).2 (by rw[vP B u];exact hi);rw[e]at this;cases this
 intro j;induction j with
 |zero=>intro m A a w h E;exact⟨F h E.1,E.2⟩
 | succ j ih=>
   intro m A a w h E;refine⟨λe=>E.1 (nil h e),λi hi=>?_⟩;have u:i<l.length:=(by simpa using (xG.1 hi).1);have hk:=J i u;have N:=(jZ B h hk).2 (by rw[vP B u];exact hi);have hs:=E.2 _ N;obtain⟨o,I,K⟩:=Qt B hk;have G:=h.set B hk;rw[vP B u]at I G;unfold wpOp at hs⊢;simp only[wI,I,K,VE B,Xq,zbD]at hs⊢;split
   .rename_i hwa;rw[Vm hwa]at hs;exact hs.imp (Tx λa w M=>ih _ _ a w G M) id
   .rename_i hwa;rw[Vq hwa]at hs;exact ih _ _ _ w G hs
def xd(u:q9 l.length σ=true){a:Act}{w:World}(h:wpAny P .any (z8 l σ).toArray Q (z8 l σ).toArray.size (Array.replicate (z8 l σ).toArray.size false) a w):wpAny P .any l.toArray Q l.toArray.size (Array.replicate l.toArray.size false) a w:=by
 obtain⟨A,B,C⟩:=qU u;have j:(z8 l σ).length=l.length:=by unfold z8;simpa using A
 simp only[WC,j]at h⊢;refine wpAny_perm u _ _ _ a w ⟨b6,b6,λk hk=>?_⟩ h;have o:∀i:Nat,(Array.replicate l.length false).getD i false=false:=λi=>by
  simp only[wC,uq];split<;>rfl
 rw[o,o]
end
end
section
attribute [local go_sem] Oper.semAt_some
def zB(a:Act):Nat->Value:=λt=>a.tmps.getD t undef
def zai(D:xT)(w:World)(v:Value):Dat D w v (Q6 v):=by
 unfold Q6;split
 .exact .sl none 0 1 [] .sh 0 0 (λ_=>undef) (Zp _) (λh=>by cases h) (X3 _) (λh=>absurd rfl h) (λi e h=>by simp at h) (λj h=>absurd h b6) (λi e j p h=>by simp at h)
 .exact .v _
def zfT(D:xT)(w:World)(v:Value):Dat D w v (ofV v):=by
 unfold ofV;split
 .exact .sl none 0 1 [] .z 0 0 (λ_=>undef) (Zp _) (λ_=>rfl) (X3 _) (λh=>absurd rfl h) (λi e h=>by simp at h) (λj h=>absurd h b6) (λi e j p h=>by simp at h)
 .rename_i vs;split
  .rename_i hall;refine .agg vs _ b6 (λi hi=>?_) λi p u=>?_
   .rw[wN]at hall;have o:i<vs.size:=(dK hi);exact hall _ (by simp[o])
   .simp only[wh,ZZ]at u;obtain⟨v,A,rfl⟩:=u;have:vs.getD i undef=v:=(by simp at A;simp[A]);rw[this];exact zai D w v
  .exact .v _
 .exact .v _
structure Rd(D:xT)(ρ:Nat->Nat)(s:PS)(x:Nat->Value)(ts:List Nat)(w:World):Prop where
 slots:∀t∈ts,Rel D ρ s.b.length w (x t) (s.get t)
 boxes:∀(i:Nat) cs,s.b[i]?=some cs->zaA ⟨D,ρ⟩ s.b.length w i cs
 gl:GL D w
def zbZ(o:Nat->Value)(j:Nat)(s:PS)(x:Nat->Value)(u:List Nat)(w:World):Prop:=
 j<=w.heap.size/\∀t∈u,NewOk o j w (x t) (s.get t)/\((s.get t).own≠none->o t=x t)
def Qok(P:Program)(o:Oper)(s:PS)(ρ:Nat->Nat)(D:xT)(a:Act)(w:World)(p:PV):Prop:=
 ∀(next:Act->World->Prop)(Q:Exit->Act->World->Prop),(∀u w',Below w.heap.size w w'->Rel (λb o=>D b o\/w.heap.size<=b) ρ s.b.length w' u p->(∀A j,zbZ A j s (zB a) (zA o) w->NewOk A j w' u p)->next (a.put o.dst u) w')->o.wp P a w next Q
variable {P:Program}{o:Oper}{D:xT}{ρ:Nat->Nat}{nb:Nat}{s:PS}{a:Act}{w:World}
def zby{u:Value}{p:PV}(E:(execOp a.eval o).run P w=.ok (.value u) w)(h:Rel D ρ s.b.length w u p)(B:∀A j,zbZ A j s (zB a) (zA o) w->NewOk A j w u p):Qok P o s ρ D a w p:=by
 intro next Q C
 show o.upon P a next Q ((execOp a.eval o).run P w)
 rw[E];exact C u w (tv _ _) (h.mono (λ_ _ h=>.inl h) (λ_ _ _ _ h=>h) (Zp _) λ_ _=>rfl) B
def zlD{u:Value}{p:PV}{w':World}(E:(execOp a.eval o).run P w=.ok (.value u) w')(hb:Below w.heap.size w w')(h:Rel (λb o=>D b o\/w.heap.size<=b) ρ s.b.length w' u p)(B:∀A j,zbZ A j s (zB a) (zA o) w->NewOk A j w' u p):Qok P o s ρ D a w p:=by
 intro next Q C
 show o.upon P a next Q ((execOp a.eval o).run P w)
 rw[E];exact C u w' hb h B
def Xk{y:Operand}{o:PO}(j:po y=some o)(h:∀t,y=.tmp t->Rel D ρ nb w (zB a t) (s.get t)):Rel D ρ nb w (a.eval y) (s.ev o):=by
 cases y with
 |tmp t=>cases j;exact h t rfl
 |const v=>cases j;exact .dat (zfT D w v)
 |func f=>cases j;exact .dat (.fn (.func f) #[] #[] [] [] rfl rfl (λi p h=>by simp at h) (λi p h=>by simp at h))
 |global g=>cases j
def Rd.at{j:List Nat}(h:Rd D ρ s (zB a) j w){y:Operand}{o:PO}(u:po y=some o)(ht:∀t,y=.tmp t->t∈j):Rel D ρ s.b.length w (a.eval y) (s.ev o):=
 Xk u λt e=>h.slots t (ht t e)
def Rel.inv_agg{u:Value}{j:List PV}(h:Rel D ρ nb w u (.agg j)):∃A:Array Value,u=.agg A/\A.size=j.length/\(∀i,i<j.length->(A.getD i undef).oneCell'=true)/\∀(i:Nat) p,j[i]?=some p->Dat D w (A.getD i undef) p:=by
 rcases h with(h|⟨i,o,h,_⟩)|⟨f,va,vb,fs,j,h,_⟩
 .cases h with|agg A j hs h1 h=>exact⟨A,rfl,hs,h1,h⟩
 .cases h
 .cases h
def Rel.inv_tup{u:Value}{j:List PV}(h:Rel D ρ nb w u (.tup j)):∃A:Array Value,u=.tuple A/\A.size=j.length/\∀(i:Nat) p,j[i]?=some p->Dat D w (A.getD i undef) p:=by
 rcases h with(h|⟨i,o,h,_⟩)|⟨f,va,vb,fs,j,h,_⟩
 .cases h with|tup A j hs h=>exact⟨A,rfl,hs,h⟩
 .cases h
 .cases h
def Rel.inv_ifc{u:Value}{t:TypeId}{p:PV}(h:Rel D ρ nb w u (.ifc t p)):∃x,u=.iface t x/\Dat D w x p:=by
 rcases h with(h|⟨i,o,h,_⟩)|⟨f,va,vb,fs,cs,h,_⟩
 .cases h with|ifc t x p h=>exact⟨x,rfl,h⟩
 .cases h
 .cases h
def Rel.inv_bx{u:Value}{i o:Nat}(h:Rel D ρ nb w u (.bx i o)):i<nb/\u=.pointer (some ⟨ρ i,o,none⟩):=by
 rcases h with(h|⟨i,o,h,hi,hu⟩)|⟨f,va,vb,fs,cs,h,_⟩
 .cases h
 .cases h;exact⟨hi,hu⟩
 .cases h
def Rel.inv_cp{u:Value}{B:List PV}{k:Nat}(h:Rel D ρ nb w u (.cp B k)):∃(b A:Nat) (f:Nat->Value),u=.pointer (some ⟨b,A+k,none⟩)/\(∀j,j<B.length->D b (A+j)/\w.cell? ⟨b,A+j,none⟩=some (f j)/\(f j).oneCell'=true)/\∀(j:Nat) p,B[j]?=some p->Dat D w (f j) p:=by
 rcases h with(h|⟨i,o,h,_⟩)|⟨f,va,vb,fs,B,h,_⟩
 .cases h with|cp b A B o u h1 h2=>exact⟨b,A,u,rfl,h1,h2⟩
 .cases h
 .cases h
def Rel.inv_sl{u:Value}{C:List (List PV)}{k:Ow}(h:Rel D ρ nb w u (.sl C k)):∃(E:Option Addr) (A sz b B:Nat) (f:Nat->Value),u=.slice E C.length A/\C.length<=A/\(k=.z->A=C.length)/\A<=maxLen/\(C≠[]->E=some ⟨b,B,none⟩) /\
 (∀(i:Nat) e,C[i]?=some e->e.length=sz)/\(∀j,j<C.length*sz->D b (B+j)/\w.cell? ⟨b,B+j,none⟩=some (f j)/\(f j).oneCell'=true)/\∀(i:Nat) e (j:Nat) p,C[i]?=some e->e[j]?=some p->Dat D w (f (i*sz+j)) p:=by
 rcases h with(h|⟨i,o,h,_⟩)|⟨f,va,vb,fs,cs,h,_⟩
 .cases h with|sl a A sz C o b B u hc hz hm ha hsz hD h=>exact⟨a,A,sz,b,B,u,rfl,hc,hz,hm,ha,hsz,hD,h⟩
 .cases h
 .cases h
def xE{p:PV}{K:Bool->Prop}{u:Value}(h:qV p K)(j:Rel D ρ nb w u p):∃b,u=.bool b/\p=.v (.bool b)/\K b:=by
 unfold qV at h;split at h
 .exact⟨_,j.v_inv,rfl,h⟩
 .exact h.elim
def yu{p:PV}{K:IntKind->Int->Prop}{u:Value}(h:vR p K)(j:Rel D ρ nb w u p):∃k n,u=.int k n/\p=.v (.int k n)/\K k n:=by
 unfold vR at h;split at h
 .exact⟨_,_,j.v_inv,rfl,h⟩
 .exact h.elim
def y8{p:PV}{K:List (List PV)->Prop}(h:QA p K):∃j k,p=.sl j k/\K j:=by
 unfold QA at h;split at h
 .exact⟨_,_,rfl,h⟩
 .exact h.elim
def kC{k:IntKind}{n:Int}{K:PV->Prop}(h:qar k n K):K (.v (.int k (k.wrap n))):=by
 unfold qar at h;split at h
 .obtain⟨⟨j,u⟩,o⟩:=h;have:IntKind.i64.wrap n=n:=IntWalk.i64_in _ ⟨j,a8⟩;rw[this];exact o
 .exact h
def zd0{op:BinOp}{k:IntKind}{x y:Int}{K:PV->Prop}(t:TypeId)(h:Xo op k x y K):∃u,(binOp op t (.int k x) (.int k y)).run P w=.ok u w/\K (.v u):=by
 unfold Xo at h;split at h;case h_1=>exact⟨_,by simp[binOp,Op.intArith],kC h⟩
 case h_2=>exact⟨_,by simp[binOp,Op.intArith],kC h⟩
 case h_3=>exact⟨_,by simp[binOp,Op.intArith],kC h⟩
 case h_4=>exact⟨_,by simp[binOp,Op.intDiv,h.1],kC h.2⟩
 case h_5=>exact⟨_,by simp[binOp,Op.intDiv,h.1],h.2⟩
 case h_6=>exact⟨.bool (decide (x=y)),by simp[binOp,Op.intCmp];rfl,h⟩
 case h_7=>exact⟨.bool (!decide (x=y)),by simp[binOp,Op.intCmp];rfl,h⟩
 case h_8=>exact⟨_,by simp[binOp,Op.intCmp],h⟩
 case h_9=>exact⟨_,by simp[binOp,Op.intCmp],h⟩
 case h_10=>exact⟨_,by simp[binOp,Op.intCmp],h⟩
 case h_11=>exact⟨_,by simp[binOp,Op.intCmp],h⟩
 case h_12=>exact⟨_,by simp[binOp,Op.shift,Int.not_lt.2 h.1];rfl,h.2⟩
 case h_13=>exact h.elim
def X0(op:BinOp)(t:TypeId)(x y:Operand)(k j:IntKind)(m n:Int):(eqGuard op t x y (.int k m) (.int j n)).run P w=.ok () w:=by
 unfold eqGuard;split<;>simp
def zdX{op:BinOp}{p q:PV}{K:PV->Prop}{u v:Value}(t:TypeId)(x y:Operand)(h:QB op p q K)(A:Rel D ρ nb w u p)(B:Rel D ρ nb w v q):
 ∃r,(do eqGuard op t x y u v;binOp op t u v:Sem Value).run P w=.ok r w/\K (.v r):=by
 unfold QB at h;split at h
 .obtain rfl:=A.v_inv;obtain rfl:=B.v_inv;obtain⟨rfl,h⟩:=h;obtain⟨r,j,o⟩:=zd0 (P:=P) (w:=w) t h;exact⟨r,by simp[X0,j],o⟩
 .exact h.elim
def kh(op:BinOp)(t:TypeId)(x y:Operand)(m n:Bool):(eqGuard op t x y (.bool m) (.bool n)).run P w=.ok () w:=by
 unfold eqGuard;split<;>simp
def JD{t:TypeId}(ht:P.underlying t=some .bool)(m n:Bool):(Op.equal t (.bool m) (.bool n)).run P w=.ok (m == n) w:=by unfold Op.equal Op.maxDepth;rw[show (10000:Nat)=9999+1 from rfl];unfold Op.equalIn;simp[tI ht]
def X1(op:BinOp)(t:TypeId)(x:Operand):(eqGuard op t x (.const .nilIface) .nilIface .nilIface).run P w=.ok () w:=by
 unfold eqGuard;cases op<;>cases x<;>simp
def Y5(op:BinOp)(t j:TypeId)(x y:Operand)(v:Value):(eqGuard op t x y (.iface j v) .nilIface).run P w=.ok () w:=by
 unfold eqGuard;cases op<;>simp
def za3{t:TypeId}{ms}(ht:P.underlying t=some (.interface ms)):(Op.equal t .nilIface .nilIface).run P w=.ok true w:=by unfold Op.equal Op.maxDepth;rw[show (10000:Nat)=9999+1 from rfl];unfold Op.equalIn;simp[tI ht]
def JE{t:TypeId}{ms}(ht:P.underlying t=some (.interface ms))(j:TypeId)(v:Value):(Op.equal t (.iface j v) .nilIface).run P w=.ok false w:=by unfold Op.equal Op.maxDepth;rw[show (10000:Nat)=9999+1 from rfl];unfold Op.equalIn;simp[tI ht]
def Y7{l:List PV}{j:Array Value}{i:Nat}{p:PV}(hs:j.size=l.length)(o:l[i]?=some p):i<j.size:=by rw[hs];exact(Zw.1 o).1
def CellsR(D:xT)(ρ:Nat->Nat)(nb:Nat)(w:World)(u:Value)(j:List PV):Prop:=
 u.cells.size=j.length/\∀(i:Nat) p,j[i]?=some p->Rel D ρ nb w (u.cells.getD i undef) p/\(u.cells.getD i undef).oneCell'=true
def yG{u:Value}{p:PV}(h:Rel D ρ nb w u p)(o:u.oneCell'=true):CellsR D ρ nb w u [p]:=by
 have e:u.cells=#[u]:=by cases u<;>first|rfl|cases o
 refine⟨by rw[e];rfl,λi q j=>?_⟩;have hi:i=0:=by have:=(Zw.1 j).1;simpa using this
 subst hi;simp at j;subst j;rw[e];exact⟨h,o⟩
def xY{p:PV}{K:List PV->Prop}{u:Value}(h:qW p K)(j:Rel D ρ nb w u p):∃A,K A/\CellsR D ρ nb w u A:=by
 unfold qW at h;split at h
 .obtain⟨F,rfl,hs,C,E⟩:=j.inv_agg;exact⟨_,h,hs,λi p B=>⟨.dat (E i p B),C i (Zw.1 B).1⟩⟩
 .obtain rfl:=j.v_inv;exact⟨_,h.2,yG j h.1⟩
 .obtain⟨_,_,_,_,_,_,rfl,_⟩:=j.inv_sl;exact⟨_,h,yG j rfl⟩
 .obtain⟨_,_,_,rfl,_⟩:=j.inv_cp;exact⟨_,h,yG j rfl⟩
 .obtain⟨_,rfl⟩:=j.inv_bx;exact⟨_,h,yG j rfl⟩
 .refine⟨_,h,yG j ?_⟩;rcases j with(j|⟨i,o,j,_⟩)|⟨f,va,vb,fs,A,_,rfl,_⟩
  .cases j;rfl
  .cases j
  .rfl
 .obtain⟨_,rfl,_⟩:=j.inv_ifc;exact⟨_,h,yG j rfl⟩
 .exact h.elim
def xy{t:TypeId}{d:TypeDesc}(h:P.underlying t=some d):(isAgg t).run P w=.ok (Qb d) w:=by
 unfold isAgg;simp only[tH,tI h,tB];cases d<;>simp[Qb]
def zE{t:TypeId}{i:TypeInfo}(h:P.info? t=some i):(sizeOf t).run P w=.ok i.size w:=by simp[sizeOf,typeInfo,h]
def vT{t:TypeId}{j:Bool}{n:Nat}(h:XH P t=some (j,n)):∃i d,P.info? t=some i/\P.underlying t=some d/\Qb d=j/\i.size=n:=by unfold XH at h;simp only[Z3,ZZ]at h;obtain⟨i,hi,d,o,e⟩:=h;cases e;exact⟨i,d,hi,o,rfl,rfl⟩
def Zs{t:TypeId}{n:Nat}{j:Addr}{v:Value}(h:XH P t=some (false,n))(A:w.cell? j=some v):(loadVar t j).run P w=.ok v w:=by obtain⟨i,d,B,o,u,C⟩:=vT h;simp[loadVar,xy o,u,A]
def Vo{t:TypeId}{n:Nat}{o:Addr}{f:Nat->Value}(h:XH P t=some (true,n))(E:∀j,j<n->w.cell? (o.add j)=some (f j)):(loadVar t o).run P w=.ok (.agg ((List.range n).map f).toArray) w:=by obtain⟨i,d,u,A,B,C⟩:=vT h;subst C;simp[loadVar,xy A,B,zE u,run_loadCells w o i.size f E]
def zh(b o j:Nat):(⟨b,o,none⟩:Addr).add j=⟨b,o+j,none⟩:=by unfold Addr.add;split<;>simp_all
def Qv{t:TypeId}{E:Bool}{n b C o:Nat}{F:List PV}{f:Nat->Value}{K:PV->Prop}(hs:XH P t=some (E,n))(B:VI F o E n K)
 (H:∀j,j<F.length->w.cell? ⟨b,C+j,none⟩=some (f j)/\(f j).oneCell'=true) (J:∀(j:Nat) p,F[j]?=some p->Rel D ρ nb w (f j) p) (M:E=true->zY ((F.drop o).take n)=true) :
 ∃u p,(loadVar t ⟨b,C+o,none⟩).run P w=.ok u w/\Rel D ρ nb w u p/\K p:=by
 unfold VI at B;cases E with
 | true=>
   obtain⟨N,L⟩:=B;refine⟨_,_,Vo (f:=λj=>f (o+j)) hs (λj O=>?_),?_,L⟩
   .rw[zh,Ww];exact(H _ a8).1
   .refine .dat (.agg _ _ a9 (λi hi=>?_) λi p A=>?_)
    .have I:i<n:=(by simp at hi;omega);have:((List.range n).map λj=>f (o+j)).toArray.getD i undef=f (o+i):=(by simp[I]);rw[this];exact(H _ a8).2
    .have hi:i<n:=(by have:=(Zw.1 A).1;simp at this;omega);have:((List.range n).map λj=>f (o+j)).toArray.getD i undef=f (o+i):=(by simp[hi]);rw[this];have G:=M rfl;unfold zY at G;rw[wN]at G;refine(J _ _ ?_).data (G p (wO A));rw[wt,Vm hi,Wn]at A;exact A
 | false=>
   simp only at B;split at B
   .rename_i p A;exact⟨_,p,Zs hs (H o (Zw.1 A).1).1,J _ _ A,B⟩
   .exact B.elim
def VJ{t:TypeId}{H:Bool}{n o:Nat}{G:List PV}{A:Array Value}{K:PV->Prop}(hs:XH P t=some (H,n))(C:VI G o H n K)(hz:A.size=G.length)(N:∀i,i<G.length->(A.getD i undef).oneCell'=true)
 (L:∀(j:Nat) p,G[j]?=some p->Dat D w (A.getD j undef) p):∃u p,(part t A o).run P w=.ok u w/\Dat D w u p/\K p:=by
 obtain⟨i,d,e1,e2,J,e4⟩:=vT hs;unfold VI at C;subst e4;cases H with
 | true=>
   obtain⟨Q,M⟩:=C;refine⟨.agg (A.extract o (o+i.size)),_,by simp[part,xy e2,J,zE e1],?_,M⟩;have F:∀j,j<i.size->(A.extract o (o+i.size)).getD j undef=A.getD (o+j) undef:=λj E=>(by have:o+j<A.size:=a8;have O:j<(A.extract o (o+i.size)).size:=a9;simp[wC,Wg O,Wg this]);refine .agg _ _ a9 (λj E=>?_) λj p B=>?_
   .have I:j<i.size:=(by simp at E;omega);rw[F j I];exact N _ a8
   .have E:j<i.size:=(by have:=(Zw.1 B).1;simp at this;omega);rw[F j E];rw[wt,Vm E,Wn]at B;exact L _ _ B
 | false=>
   simp only at C;split at C
   .rename_i p B;have ho:o<A.size:=Y7 hz B;refine⟨A.getD o undef,p,?_,L _ _ B,C⟩;simp[part,xy e2,J,ho]
   .exact C.elim
end
end Go.Proofs.YtmpnbdhadjfbhaaGreatDoor
