import Derived.Test.YtmpnbdhadjfbhaaGreatDoorB4
set_option linter.all false
namespace Go.Proofs.YtmpnbdhadjfbhaaGreatDoor
def tx:=@Go.Result.andThen_ok
def tE:=@Go.Sem.run_bind
def tG:=@Go.run_underlying
def Tu:=@Go.Oper.wp_mono
open Go.RowKit
section
structure PS where
 t:List (Nat×PV)
 b:List (List PV)
def yr:List (Nat×PV)->Nat->PV
 |[],_=>.und
 |(j,p)::r,i=>if j=i then p else yr r i
def PS.get(s:PS)(i:Nat):PV:=yr s.t i
def PS.put(s:PS)(d:Option Nat)(p:PV):PS:=match d with|some d=>⟨(d,p)::s.t,s.b⟩|none=>s
structure Gh where
 D:Nat->Nat->Prop
 ρ:Nat->Nat
structure Bs where
 w0:World
 D0:Nat->Nat->Prop
 Sb:Nat->Prop
 gl:GL D0 w0
 df:List Deferred
def Bs.W(B:Bs)(k:Nat):Prop:=B.w0.heap.size<=k\/B.Sb k
structure Fr(B:Bs)(D:Qk)(w:World):Prop where
 os:w.os=B.w0.os
 tape:w.tape=B.w0.tape
 output:w.output=B.w0.output
 size:B.w0.heap.size<=w.heap.size
 block:∀k,k<B.w0.heap.size->¬B.Sb k->w.heap[k]?=B.w0.heap[k]?
 d0:∀b o,B.D0 b o->D b o
 cell:∀b o x,B.D0 b o->B.w0.cell? ⟨b,o,none⟩=some x->w.cell? ⟨b,o,none⟩=some x
 new:∀b o,D b o->B.D0 b o\/B.W b
 d0lt:∀b o,B.D0 b o->b<B.w0.heap.size
def zaA(g:Gh)(nb:Nat)(w:World)(i:Nat)(u:List PV):Prop:=
 ∃o e,w.heap[g.ρ i]?=some (.cells o e (0,0))/\o.size=u.length/\∀(j:Nat)(p:PV),u[j]?=some p->Rel g.D g.ρ nb w (o.getD j undef) p/\(o.getD j undef).oneCell'=true
def zQ(g:Gh)(s:PS)(x:Nat->Value)(w:World)(u:Value)(p:PV):Prop:=
 (∃t,u=x t/\p=s.get t)\/(∃(i j:Nat) (o:List PV),s.b[i]?=some o/\o[j]?=some p/\w.cell? ⟨g.ρ i,j,none⟩=some u)
structure R(B:Bs)(g:Gh)(s:PS)(x:Nat->Value)(w:World):Prop where
 slots:∀t,Rel g.D g.ρ s.b.length w (x t) (s.get t)
 boxes:∀(i:Nat) cs,s.b[i]?=some cs->B.W (g.ρ i)/\zaA g s.b.length w i cs
 inj:∀i j,i<s.b.length->j<s.b.length->g.ρ i=g.ρ j->i=j
 owns:∀u p,zQ g s x w u p->yW g.D B.W w u p
 disj:∀u p u' p' b,zQ g s x w u p->zQ g s x w u' p'->p.own≠none->p'.own≠none->zc u=some b->zc u'=some b->p.own=p'.own
 ownbox:∀u p b i,zQ g s x w u p->p.own≠none->zc u=some b->i<s.b.length->g.ρ i≠b
 dlt:∀b o,g.D b o->b<w.heap.size
 dbox:∀i,i<s.b.length->∀o,¬g.D (g.ρ i) o
 fr:Fr B g.D w
def qa{n:Nat}{w w':World}(h:Below n w w'){b o:Nat}{x:Value}(hb:b<n)(j:w.cell? ⟨b,o,none⟩=some x):w'.cell? ⟨b,o,none⟩=some x:=(h.cell (p:=⟨b,o,none⟩) hb).trans j
def qF{w:World}{b o:Nat}{x:Value}(j:w.cell? ⟨b,o,none⟩=some x):b<w.heap.size:=tp w ⟨b,o,none⟩ j
def QO(x:Nat->Value)(d:Option Nat)(u:Value):Nat->Value:=λt=>if d=some t then u else x t
def kN(x:Nat->Value)(d:Nat)(u:Value):QO x (some d) u d=u:=by simp[QO]
def QP(x:Nat->Value){d t:Nat}(u:Value)(h:d≠t):QO x (some d) u t=x t:=by simp[QO,h]
def zF(s:PS)(d:Nat)(p:PV):(s.put (some d) p).get d=p:=by simp[PS.put,PS.get,yr]
def zV(s:PS){d t:Nat}(p:PV)(h:d≠t):(s.put (some d) p).get t=s.get t:=by simp[PS.put,PS.get,yr,h]
variable {B:Bs}{g:Gh}{s:PS}{x:Nat->Value}{w w':World}
def R.gl(h:R B g s x w):GL g.D w:=B.gl.mono h.fr.d0 h.fr.cell
def R.slot(h:R B g s x w)(t:Nat):zQ g s x w (x t) (s.get t):=.inl ⟨t,rfl,rfl⟩
def R.ρlt(h:R B g s x w){i:Nat}(hi:i<s.b.length):g.ρ i<w.heap.size:=by obtain⟨_,o,e,j,_⟩:=h.boxes i _ (Zv hi);exact(XV.1 j).1
def zX{D:Qk}{W:Nat->Prop}{u:Value}{p:PV}{b:Nat}(h:yW D W w u p)(ho:p.own≠none)(hb:zc u=some b):b<w.heap.size/\W b:=by
 cases p<;>try exact absurd rfl ho
 rename_i o;cases o<;>try exact absurd rfl ho
 rcases h with⟨a,rfl,_⟩|⟨A,j,y,e,rfl,B,C,_⟩
 .cases a<;>cases hb
 .obtain rfl:A=b:=by cases j<;>simp[zc]at hb;exact hb
  exact⟨(XV.1 C).1,B⟩
def QH{D:Qk}{ρ:Nat->Nat}{nb:Nat}{a:Option Addr}{n j:Nat}{y:List (List PV)}{o:Ow}(h:Rel D ρ nb w (.slice a n j) (.sl y o)):n<=j/\n=y.length/\j<=maxLen:=by
 rcases h with(h|⟨i,o,h,_⟩)|⟨f,va,vb,fs,cs,h,_⟩
 .cases h with
  |sl a j sz y o b off u hc hz hm ha hsz hD h=>exact⟨hc,rfl,hm⟩
 .cases h
 .cases h
def R.slot_rel(h:R B g s x w){u:Value}{p:PV}(hs:zQ g s x w u p):Rel g.D g.ρ s.b.length w u p:=by
 rcases hs with⟨t,rfl,rfl⟩|⟨i,j,y,A,C,o⟩
 .exact h.slots t
 .obtain⟨_,H,e,G,F,E⟩:=h.boxes i y A;have:=(E j p C).1;simp only[World.cell?,G]at o;simp only[Option.isSome_none,uA,UX]at o;rw[wu,o]at this;exact this
def OwnNew(B:Bs)(g:Gh)(s:PS)(x:Nat->Value)(w:World)(u:Value)(p:PV):Prop:=
 p.own≠none->yW g.D B.W w u p/\(∀v q b,zQ g s x w v q->q.own≠none->zc v=some b->zc u=some b->q.own=p.own)/\(∀b i,zc u=some b->i<s.b.length->g.ρ i≠b)
def OwnNew.none{u:Value}{p:PV}(h:p.own=none):OwnNew B g s x w u p:=λj=>absurd h j
def R.ownNew(h:R B g s x w){u:Value}{p:PV}(hs:zQ g s x w u p):OwnNew B g s x w u p:=λho=>
 ⟨h.owns _ _ hs,λv q b j o y A=>h.disj _ _ _ _ b j hs o ho y A,λb i j o=>h.ownbox _ _ b i hs ho j o⟩
def R.put(h:R B g s x w)(d:Option Nat){u:Value}{p:PV}(J:Rel g.D g.ρ s.b.length w u p)(ho:OwnNew B g s x w u p):
 R B g (s.put d p) (QO x d u) w:=by
 cases d with
 |none=>have:QO x none u=x:=(by funext t;simp[QO]);rw[this];exact h
 |some d=>
 have hs:∀v q,zQ g (s.put (some d) p) (QO x (some d) u) w v q->(v=u/\q=p)\/zQ g s x w v q:=by
  rintro v q (⟨t,rfl,rfl⟩|hb)
  .by_cases e:d=t
   .subst e;exact .inl ⟨kN _ _ _,zF _ _ _⟩
   .exact .inr (.inl ⟨t,QP _ _ e,zV _ _ e⟩)
  .exact .inr (.inr hb)
 refine⟨?_,h.boxes,h.inj,?_,?_,?_,h.dlt,h.dbox,h.fr⟩
 .intro t;by_cases e:d=t
  .subst e;rw[kN,zF];exact J
  .rw[QP _ _ e,zV _ _ e];exact h.slots t
 .intro v q j;by_cases A:q.own=none
  .exact zr A
  .rcases hs v q j with⟨rfl,rfl⟩|j
   .exact(ho A).1
   .exact h.owns _ _ j
 .intro v q G F b H I o y b1 b2;rcases hs v q H with⟨rfl,rfl⟩|C<;>rcases hs G F I with⟨rfl,rfl⟩|E
  .rfl
  .exact((ho o).2.1 G F b E y b2 b1).symm
  .exact(ho y).2.1 v q b C o b1 b2
  .exact h.disj _ _ _ _ b C E o y b1 b2
 .intro v q b i j o b1 hi;rcases hs v q j with⟨rfl,rfl⟩|j
  .exact(ho o).2.2 b i b1 hi
  .exact h.ownbox _ _ b i j o b1 hi
def R.frame(h:R B g s x w)(F:Qk)(J:∀b o y,g.D b o->w.cell? ⟨b,o,none⟩=some y->w'.cell? ⟨b,o,none⟩=some y)
 (V:∀i,i<s.b.length->w'.heap[g.ρ i]?=w.heap[g.ρ i]?) (c3:∀u p b,zQ g s x w u p->p.own≠none->zc u=some b->w'.heap[b]?=w.heap[b]?)
 (M:∀b o,g.D b o->F b o) (N:∀b o,F b o->g.D b o\/(B.W b/\(∀i,i<s.b.length->g.ρ i≠b)/\∀u p,zQ g s x w u p->p.own≠none->zc u≠some b)) (d3:∀b o,F b o->b<w'.heap.size)
 (e1:w'.os=w.os) (e2:w'.tape=w.tape) (e3:w'.output=w.output) (e4:w.heap.size<=w'.heap.size) (e5:∀k,k<B.w0.heap.size->¬B.Sb k->w'.heap[k]?=w.heap[k]?):R B ⟨F,g.ρ⟩ s x w':=by
 have hs:∀u q,zQ ⟨F,g.ρ⟩ s x w' u q->zQ g s x w u q:=by
  rintro u q (T|⟨i,j,K,Y,h5,h6⟩)
  .exact .inl T
  .exact .inr ⟨i,j,K,Y,h5,by rw[<-h6];exact(tl (a:=⟨g.ρ i,j,none⟩) (V i (Zw.1 Y).1)).symm⟩
 refine⟨λt=>(h.slots t).mono M J (Zp _) λ_ _=>rfl,?_,h.inj,?_,?_,?_,d3,?_,?_⟩
 .intro i K hi;obtain⟨O,vs,e,hv,S,hr⟩:=h.boxes i K hi;exact⟨O,vs,e,(V i (Zw.1 hi).1).trans hv,S,λj p Z=>⟨(hr j p Z).1.mono M J (Zp _) λ_ _=>rfl,(hr j p Z).2⟩⟩
 .intro u q T;by_cases Q:q.own=none
  .exact zr Q
  have E:=hs u q T;have:=h.owns u q E;cases q<;>try trivial
  rename_i es o;cases o<;>try trivial
  rcases this with I|⟨X,G,L,e,rfl,O,hh,hc,he,hd⟩
  .exact .inl I
  .cases G with
   | zero=>
     by_cases H:es=[]
     .subst H;exact .inl ⟨_,rfl,rfl⟩
     .obtain⟨P,_⟩:=QH (h.slot_rel E);exact absurd (wH (tb.1 P)) H
   | succ G=>
     refine .inr ⟨X,_,L,e,rfl,O,(c3 _ _ X E Q rfl).trans hh,hc,he,λo ho C=>?_⟩;rcases N _ _ C with A|A
     .exact hd o ho A
     .exact A.2.2 _ _ E Q rfl
 .intro u q u' q' b U k2;exact h.disj u q u' q' b (hs _ _ U) (hs _ _ k2)
 .intro u q b i U;exact h.ownbox u q b i (hs _ _ U)
 .intro i hi o C;rcases N _ _ C with A|A
  .exact h.dbox i hi o A
  .exact A.2.1 i hi rfl
 .refine⟨e1.trans h.fr.os,e2.trans h.fr.tape,e3.trans h.fr.output,V1 h.fr.size e4,λk hk I=>(e5 k hk I).trans (h.fr.block k hk I),λb o C=>M _ _ (h.fr.d0 b o C),?_,?_,?_⟩
  .intro b o y C hy;exact J _ _ _ (h.fr.d0 b o C) (h.fr.cell b o y C hy)
  .intro b o C;rcases N _ _ C with A|A
   .exact h.fr.new b o A
   .exact .inr A.1
  .exact h.fr.d0lt
def R.grow(h:R B g s x w)(hb:Below w.heap.size w w')(j:Qk)(G:∀b o,g.D b o->j b o)
 (H:∀b o,j b o->g.D b o\/w.heap.size<=b) (I:∀b o,j b o->b<w'.heap.size):R B ⟨j,g.ρ⟩ s x w':=by
 refine h.frame j (λb o y _ F=>qa hb (qF F) F) (λi hi=>hb.block _ (h.ρlt hi)) (λu p b E ho C=>hb.block _ (zX (h.owns u p E) ho C).1) G ?_ I
  hb.os hb.tape hb.output hb.size λk hk _=>hb.block k (Vm hk h.fr.size)
 intro b o J;rcases H b o J with A|A
 .exact .inl A
 .refine .inr ⟨.inl (V1 h.fr.size A),λi hi e=>?_,λu p E ho e=>?_⟩
  .have:=h.ρlt hi;omega
  .have:=(zX (h.owns u p E) ho e).1;omega
def R.drew(h:R B g s x w):R B g s x w.drew:=
 h.grow (w':=w.drew) ⟨rfl,rfl,rfl,Zp _,λ_ _=>rfl⟩ g.D (λ_ _ h=>h) (λ_ _ h=>.inl h) h.dlt
def R.box(h:R B g s x w)(d:Option Nat)(C:Array Value)(e:TypeId)(F:List PV)(ab:C.size=F.length)
 (hr:∀(j:Nat)(p:PV),F[j]?=some p->Rel g.D g.ρ s.b.length w (C.getD j undef) p/\(C.getD j undef).oneCell'=true) (ho:∀p∈F,p.own=none) :
 R B ⟨g.D,λi=>if i=s.b.length then w.heap.size else g.ρ i⟩ (PS.put ⟨s.t,s.b++[F]⟩ d (.bx s.b.length 0)) (QO x d (.pointer (some ⟨w.heap.size,0,none⟩))) (w.alloc (.cells C e)):=by
 have hb:Below w.heap.size w (w.alloc (.cells C e)):=(tr _ _).alloc (Zp _) _;have I:R B g s x (w.alloc (.cells C e)):=h.grow hb g.D (λ_ _ h=>h) (λ_ _ h=>.inl h) λb o X=>Vm (h.dlt b o X) hb.size;obtain⟨ρ',L⟩:=xt ((λi=>if i=s.b.length then w.heap.size else g.ρ i));rw[L];have e1:∀i,i<s.b.length->ρ' i=g.ρ i:=λi hi=>by rw[<-L];simp;omega
 have e2:ρ' s.b.length=w.heap.size:=by rw[<-L];simp
 have J:∀b o x,g.D b o->w.cell? ⟨b,o,none⟩=some x->(w.alloc (.cells C e)).cell? ⟨b,o,none⟩=some x:=λb o x _ M=>qa hb (qF M) M;have mono:∀u p,Rel g.D g.ρ s.b.length (w.alloc (.cells C e)) u p->Rel g.D ρ' (s.b++[F]).length (w.alloc (.cells C e)) u p:=λu p hu=>hu.mono (λ_ _ h=>h) (λ_ _ _ _ h=>h) b6 e1;have ad:(s.b++[F]).length=s.b.length+1:=b6
 have hs:∀u q,zQ ⟨g.D,ρ'⟩ ⟨s.t,s.b++[F]⟩ x (w.alloc (.cells C e)) u q->q.own≠none->zQ g s x (w.alloc (.cells C e)) u q:=by
  rintro u q (M|⟨i,j,E,G,T,V⟩) U
  .exact .inl M
  .rcases wJ i s.b.length with hi|hi
   .rw[wh hi]at G;exact .inr ⟨i,j,E,G,T,by rw[<-V];show _=World.cell? _ ⟨ρ' i,j,none⟩;rw[e1 i hi]⟩
   .rw[V2 hi]at G;have K:i-s.b.length=0:=by have:=(Zw.1 G).1;simp at this;omega
    rw[K]at G;simp at G;subst G;exact absurd (ho q (wL T)) U
 have r1:R B ⟨g.D,ρ'⟩ ⟨s.t,s.b++[F]⟩ x (w.alloc (.cells C e)):=by
  refine⟨λt=>mono _ _ (I.slots t),?_,?_,?_,?_,?_,I.dlt,?_,I.fr⟩
  .intro i E hi;rcases wJ i s.b.length with y|y
   .rw[wh y]at hi;obtain⟨hW,ac,e',hv,S,Q⟩:=I.boxes i E hi;refine⟨by show B.W (ρ' i);rw[e1 i y];exact hW,ac,e',by show _=_;rw[<-hv];show (World.alloc _ _).heap[ρ' i]?=_;rw[e1 i y],S,λj p P=>⟨mono _ _ (Q j p P).1,(Q j p P).2⟩⟩
   .rw[V2 y]at hi;have K:i-s.b.length=0:=by have:=(Zw.1 hi).1;simp at this;omega
    rw[K]at hi;simp at hi;subst hi;have:i=s.b.length:=a8;subst this;refine⟨by show B.W (ρ' _);rw[e2];exact .inl h.fr.size,C,e,?_,ab,λj p P=>⟨mono _ _ ((hr j p P).1.mono (λ_ _ h=>h) J (Zp _) λ_ _=>rfl),(hr j p P).2⟩⟩;show (World.alloc _ _).heap[ρ' _]?=_;rw[e2];exact tn w _
  .intro i j hi hj Z;have Y:i<s.b.length+1:=(dJ hi);have ae:j<s.b.length+1:=(dJ hj);have A:ρ' i=ρ' j:=Z;rcases wJ i s.b.length with y|y<;>rcases wJ j s.b.length with O|O
   .rw[e1 i y,e1 j O]at A;exact I.inj i j y O A
   .have:j=s.b.length:=a8;rw[e1 i y,this,e2]at A;have:=h.ρlt y;omega
   .have:i=s.b.length:=a8;rw[e1 j O,this,e2]at A;have:=h.ρlt O;omega
   .omega
  .intro u q hu;by_cases U:q.own=none
   .exact zr U
   .exact I.owns u q (hs u q hu U)
  .intro u q u' q' b k1 k2 N o2;exact I.disj u q u' q' b (hs _ _ k1 N) (hs _ _ k2 o2) N o2
  .intro u q b i k1 N b1 hi;have k:=hs _ _ k1 N;show ρ' i≠b;rcases wJ i s.b.length with y|y
   .rw[e1 i y];exact I.ownbox u q b i k N b1 y
   .have:i=s.b.length:=(by have:i<(s.b++[F]).length:=hi;simp at this;omega);rw[this,e2];have k0:zQ g s x w u q:=by
     rcases k with M|⟨i,j,E,G,T,V⟩
     .exact .inl M
     .exact .inr ⟨i,j,E,G,T,by rw[<-V];exact(hb.cell (p:=⟨g.ρ i,j,none⟩) (h.ρlt (Zw.1 G).1)).symm⟩
    have:=(zX (h.owns u q k0) N b1).1;omega
  .intro i hi o X;have Y:i<s.b.length+1:=(by have:i<(s.b++[F]).length:=hi;simpa using this);have H:g.D (ρ' i) o:=X;rcases wJ i s.b.length with y|y
   .rw[e1 i y]at H;exact h.dbox i y o H
   .have:i=s.b.length:=a8;rw[this,e2]at H;have:=h.dlt _ _ H;omega
 refine r1.put d (.inl (.inr ⟨s.b.length,0,rfl,b6,?_⟩)) (.none rfl);show _=Value.pointer (some ⟨ρ' s.b.length,0,none⟩);rw[e2]
def R.boxAt(h:R B g s x w)(d:Option Nat)(Q:Array Value)(e:TypeId)(C:List PV)(Z:Q.size=C.length){E:Nat}(hh:w.heap[E]?=some (.cells Q e (0,0)))(T:B.W E)(M:∀i,i<s.b.length->g.ρ i≠E)(X:∀o,¬g.D E o)(Y:∀u q,zQ g s x w u q->q.own≠none->zc u≠some E)
 (hr:∀(j:Nat)(p:PV),C[j]?=some p->Rel g.D g.ρ s.b.length w (Q.getD j undef) p/\(Q.getD j undef).oneCell'=true) (ho:∀p∈C,p.own=none) :
 R B ⟨g.D,λi=>if i=s.b.length then E else g.ρ i⟩ (PS.put ⟨s.t,s.b++[C]⟩ d (.bx s.b.length 0)) (QO x d (.pointer (some ⟨E,0,none⟩))) w:=by
 obtain⟨ρ',J⟩:=xt ((λi=>if i=s.b.length then E else g.ρ i));rw[J];have e1:∀i,i<s.b.length->ρ' i=g.ρ i:=λi hi=>by rw[<-J];simp;omega
 have e2:ρ' s.b.length=E:=by rw[<-J];simp
 have mono:∀u p,Rel g.D g.ρ s.b.length w u p->Rel g.D ρ' (s.b++[C]).length w u p:=λu p hu=>hu.mono (λ_ _ h=>h) (λ_ _ _ _ h=>h) b6 e1;have ac:(s.b++[C]).length=s.b.length+1:=b6
 have hs:∀u q,zQ ⟨g.D,ρ'⟩ ⟨s.t,s.b++[C]⟩ x w u q->q.own≠none->zQ g s x w u q:=by
  rintro u q (hx|⟨i,j,G,H,h5,h6⟩) S
  .exact .inl hx
  .rcases wJ i s.b.length with hi|hi
   .rw[wh hi]at H;exact .inr ⟨i,j,G,H,h5,by rw[<-h6];show _=World.cell? _ ⟨ρ' i,j,none⟩;rw[e1 i hi]⟩
   .rw[V2 hi]at H;have I:i-s.b.length=0:=by have:=(Zw.1 H).1;simp at this;omega
    rw[I]at H;simp at H;subst H;exact absurd (ho q (wL h5)) S
 have r1:R B ⟨g.D,ρ'⟩ ⟨s.t,s.b++[C]⟩ x w:=by
  refine⟨λt=>mono _ _ (h.slots t),?_,?_,?_,?_,?_,h.dlt,?_,h.fr⟩
  .intro i G hi;rcases wJ i s.b.length with A|A
   .rw[wh A]at hi;obtain⟨T,ab,e',hv,P,O⟩:=h.boxes i G hi;refine⟨by show B.W (ρ' i);rw[e1 i A];exact T,ab,e',by show _=_;rw[<-hv];show w.heap[ρ' i]?=_;rw[e1 i A],P,λj p N=>⟨mono _ _ (O j p N).1,(O j p N).2⟩⟩
   .rw[V2 A]at hi;have I:i-s.b.length=0:=by have:=(Zw.1 hi).1;simp at this;omega
    rw[I]at hi;simp at hi;subst hi;have:i=s.b.length:=a8;subst this;refine⟨by show B.W (ρ' _);rw[e2];exact T,Q,e,?_,Z,λj p N=>⟨mono _ _ (hr j p N).1,(hr j p N).2⟩⟩;show w.heap[ρ' _]?=_;rw[e2];exact hh
  .intro i j hi hj V;have U:i<s.b.length+1:=(dJ hi);have ad:j<s.b.length+1:=(dJ hj);have y:ρ' i=ρ' j:=V;rcases wJ i s.b.length with A|A<;>rcases wJ j s.b.length with L|L
   .rw[e1 i A,e1 j L]at y;exact h.inj i j A L y
   .have:j=s.b.length:=a8;rw[e1 i A,this,e2]at y;exact absurd y (M i A)
   .have:i=s.b.length:=a8;rw[e1 j L,this,e2]at y;exact absurd y.symm (M j L)
   .omega
  .intro u q hu;by_cases S:q.own=none
   .exact zr S
   .exact h.owns u q (hs u q hu S)
  .intro u q u' q' b k1 k2 K o2;exact h.disj u q u' q' b (hs _ _ k1 K) (hs _ _ k2 o2) K o2
  .intro u q b i k1 K b1 hi;have k:=hs _ _ k1 K;show ρ' i≠b;rcases wJ i s.b.length with A|A
   .rw[e1 i A];exact h.ownbox u q b i k K b1 A
   .have:i=s.b.length:=(by have:i<(s.b++[C]).length:=hi;simp at this;omega);rw[this,e2];exact λe3=>Y u q k K (by rw[b1,<-e3])
  .intro i hi o hD;have U:i<s.b.length+1:=(by have:i<(s.b++[C]).length:=hi;simpa using this);have F:g.D (ρ' i) o:=hD;rcases wJ i s.b.length with A|A
   .rw[e1 i A]at F;exact h.dbox i A o F
   .have:i=s.b.length:=a8;rw[this,e2]at F;exact X o F
 refine r1.put d (.inl (.inr ⟨s.b.length,0,rfl,b6,?_⟩)) (.none rfl);show _=Value.pointer (some ⟨ρ' s.b.length,0,none⟩);rw[e2]
def PV.down(n:Nat):PV->PV
 |.sl es (.r m sz)=>if m=n then .sl es .sh else .sl es (.r m sz)
 |p=>p
def PS.down(n:Nat)(s:PS):PS:=⟨s.t.map λy=>(y.1,y.2.down n),s.b.map λj=>j.map (PV.down n)⟩
def PV.down_or(n:Nat)(p:PV):p.down n=p.strip\/(p.down n=p/\p.own≠some n):=by
 cases p<;>try exact .inl rfl
 rename_i es o;cases o with
 |sh=>exact .inl rfl
 |z=>exact .inl rfl
 |n k=>exact .inr ⟨rfl,by simp[PV.own]⟩
 |p k=>exact .inr ⟨rfl,by simp[PV.own]⟩
 | r m sz=>
   by_cases e:m=n
   .exact .inl (by simp[PV.down,PV.strip,e])
   .exact .inr ⟨by simp[PV.down,e],by simp[PV.own,e]⟩
def PV.down_own{n:Nat}{p:PV}(h:(p.down n).own≠none):p.down n=p/\p.own≠some n:=by
 rcases PV.down_or n p with e|e
 .rw[e]at h;exact absurd p.strip_own h
 .exact e
def Vn(n t:Nat):∀l:List (Nat×PV),yr (l.map λy=>(y.1,y.2.down n)) t=(yr l t).down n
 |[]=>rfl
 | (j,p)::l=>by
   simp only[Wx,yr];split
   .rfl
   .exact Vn n t l
def Va(n t:Nat)(s:PS):(s.down n).get t=(s.get t).down n:=Vn n t s.t
def Rel.down{D:Qk}{ρ:Nat->Nat}{nb:Nat}{u:Value}{p:PV}(n:Nat)(h:Rel D ρ nb w u p):Rel D ρ nb w u (p.down n):=by
 rcases PV.down_or n p with e|e
 .rw[e];exact h.strip
 .rw[e.1];exact h
def zbH{n:Nat}{u:Value}{q:PV}(h:zQ g (s.down n) x w u q):∃p,q=p.down n/\zQ g s x w u p:=by
 rcases h with⟨t,rfl,rfl⟩|⟨i,j,C,o,y,B⟩
 .exact⟨_,Va n t s,.inl ⟨t,rfl,rfl⟩⟩
 .simp only[PS.down,wk,ZZ]at o;obtain⟨A,o,rfl⟩:=o;simp only[wk,ZZ]at y;obtain⟨p,y,rfl⟩:=y;exact⟨p,rfl,.inr ⟨i,j,A,o,y,B⟩⟩
def R.down(h:R B g s x w)(n:Nat):R B g (s.down n) x w/\∀u p,zQ g (s.down n) x w u p->p.own≠none->zQ g s x w u p/\p.own≠some n:=by
 have y:(s.down n).b.length=s.b.length:=by simp[PS.down]
 have hs:∀u p,zQ g (s.down n) x w u p->p.own≠none->zQ g s x w u p/\p.own≠some n:=by intro u q E ho;obtain⟨p,rfl,o⟩:=zbH E;obtain⟨e1,e2⟩:=PV.down_own ho;rw[e1];exact⟨o,e2⟩
 refine⟨⟨λt=>?_,?_,λi j=>by rw[y];exact h.inj i j,?_,?_,?_,h.dlt,λi=>by rw[y];exact h.dbox i,h.fr⟩,hs⟩
 .rw[Va,y];exact(h.slots t).down n
 .intro i O hi;simp only[PS.down,wk,ZZ]at hi;obtain⟨C,hi,rfl⟩:=hi;obtain⟨L,N,e,J,K,G⟩:=h.boxes i C hi;refine⟨L,N,e,J,dJ K,λj p o=>?_⟩;simp only[wk,ZZ]at o;obtain⟨I,o,rfl⟩:=o;rw[y];exact⟨(G j I o).1.down n,(G j I o).2⟩
 .intro u q E;by_cases ho:q.own=none
  .exact zr ho
  .exact h.owns _ _ (hs u q E ho).1
 .intro u q Q P b F M A H;exact h.disj _ _ _ _ b (hs _ _ F A).1 (hs _ _ M H).1 A H
 .intro u q b i F A b1 hi;exact h.ownbox _ _ b i (hs _ _ F A).1 A b1 (by rw[<-y];exact hi)
def PS.clean(s:PS):PS:=⟨s.t.map λy=>(y.1,y.2.clean),s.b⟩
def Yy(t:Nat):∀l:List (Nat×PV),yr (l.map λy=>(y.1,y.2.clean)) t=(yr l t).clean
 |[]=>rfl
 | (j,p)::l=>by
   simp only[Wx,yr];split
   .rfl
   .exact Yy t l
def kT(t:Nat)(s:PS):s.clean.get t=(s.get t).clean:=Yy t s.t
def Rel.clean{D:Qk}{ρ:Nat->Nat}{nb:Nat}{u:Value}{p:PV}(h:Rel D ρ nb w u p):Rel D ρ nb w u p.clean:=by
 rcases PV.clean_or p with e|e
 .rw[e];exact h.strip
 .rw[e];exact h
def R.clean(h:R B g s x w):R B g s.clean x w:=by
 have hs:∀u p,zQ g s.clean x w u p->p.own≠none->zQ g s x w u p:=λu p j ho=>by
  rcases j with⟨t,rfl,rfl⟩|j
  .rw[kT]at ho⊢;rcases PV.clean_or (s.get t)with e|e
   .rw[e]at ho;exact absurd (s.get t).strip_own ho
   .rw[e];exact .inl ⟨t,rfl,rfl⟩
  .exact .inr j
 refine⟨λt=>by rw[kT];exact(h.slots t).clean,h.boxes,h.inj,λu p j=>?_,λu p F E b A C o y=>h.disj u p F E b (hs _ _ A o) (hs _ _ C y) o y,λu p b i k o=>h.ownbox u p b i (hs _ _ k o) o,h.dlt,h.dbox,h.fr⟩;by_cases ho:p.own=none
 .exact zr ho
 .exact h.owns _ _ (hs _ _ j ho)
end
inductive PO where
 |t (i:Nat)
 |c (p:PV)
 |f (f:FuncId)
def PS.ev(s:PS):PO->PV
 |.t i=>s.get i
 |.c p=>p
 |.f f=>.fn (.func f) [] []
def Q6:Value->PV
 |.slice none 0 0=>.sl [] .sh
 |v=>.v v
def ofV:Value->PV
 |.slice none 0 0=>.sl [] .z
 |.agg vs=>if vs.toList.all (·.oneCell') then .agg (vs.toList.map Q6) else .v (.agg vs)
 |v=>.v v
def po:Operand->Option PO
 |.tmp t=>some (.t t)
 |.const v=>some (.c (ofV v))
 |.func f=>some (.f f)
 |.global _=>none
inductive PK where
 |mv (x:PO)
 |bin (op:BinOp) (x y:PO)
 |beq (neg:Bool) (x y:PO)
 |eq2 (neg:Bool) (x y:PO) (n:Nat)
 |nil (neg:Bool) (x:PO)
 |not (x:PO)
 |cv (k:IntKind) (x:PO)
 |fa (x:PO) (off:Nat)
 |ia (x y:PO) (sz:Nat)
 |aa (x y:PO) (n sz:Nat)
 |ix (x y:PO) (n:Nat) (ag:Bool) (sz:Nat)
 |fl (x:PO) (off:Nat) (ag:Bool) (sz:Nat)
 |ld (x:PO) (ag:Bool) (sz:Nat)
 |nc (x:PO)
 |bd (zs:List PV) (ps:List (Nat×Nat×PO))
 |bs (sz:Nat) (ps:List PO)
 |ln (x:PO)
 |ex (x:PO) (i:Nat)
 |mf (f:Fn) (fs cs:List PO)
 |mi (t:TypeId) (x:PO)
 |pk (c x y:PO)
 |sc (x:PO) (lo hi:Option PO) (sz:Nat)
 |ap (x y:PO) (sz bytes:Nat)
 |mm (max:Bool) (x y:PO)
 |ca (f:FuncId) (xs:List PO)
 |cl (f:PO) (xs:List PO)
 |iv (x:PO) (m:String) (xs:List PO)
 |sb (op:BinOp) (x y:PO)
 |al (zs:List PV)
 |bo (x:PO)
 |st (x y:PO) (sz:Nat)
structure PI where
 d:Option Nat
 g:Option (Nat×Bool)
 k:PK
def Qb:TypeDesc->Bool
 |.struct _=>true
 |.array _ _=>true
 |_=>false
def XH(P:Program)(t:TypeId):Option (Bool×Nat):=(P.info? t).bind λi=>(P.underlying t).map λd=>(Qb d,i.size)
def Qu:List Operand->Option (List PO)
 |[]=>some []
 |x::r=>(po x).bind λy=>(Qu r).map λl=>y::l
def poo:Option Operand->Option (Option PO)
 |none=>some none
 |some x=>(po x).map some
def Qq(P:Program)(j:Array Field):List (Nat×Operand)->Option (List (Nat×Nat×PO))
 |[]=>some []
 |(i,x)::r=>(j[i]?).bind λf=>(P.info? f.type).bind λn=>(po x).bind λy=>(Qq P j r).map λl=>(f.offset,n.size,y)::l
def Qp(j:Nat):List (Nat×Operand)->Option (List (Nat×Nat×PO))
 |[]=>some []
 |(i,x)::r=>(po x).bind λy=>(Qp j r).map λl=>(i*j,j,y)::l
def xg(P:Program)(t:TypeId):Option (List PV):=(P.info? t).bind λi=>i.zero.bind λz=>if z.cells.toList.all (·.oneCell') then some (z.cells.toList.map Q6) else none
def jX(P:Program)(t:TypeId):Bool:=match P.underlying t with
 |some (.int _)=>true
 |_=>false
def K8(P:Program):Nat->List Field->Bool
 |_,[]=>true
 |i,f::r=>(f.name != "_") && f.offset == i && jX P f.type && K8 P (i+1) r
def za9(P:Program)(t:TypeId):Option Nat:=match P.underlying t with
 |some (.struct fs)=>if K8 P 0 fs.toList && !P.stoodInHeld t && !P.eqGuardType P.depth t then some fs.size else none
 |some (.array n e)=>if jX P e && (P.info? e).isSome && P.cellsOf e == 1 && !P.eqGuardType P.depth t then some n else none
 |_=>none
def JL:Operand->Bool
 |.const .nilIface=>true
 |_=>false
def zk3:BinOp->Bool
 |.add|.sub|.mul|.quo|.rem|.eql|.neq|.lss|.leq|.gtr|.geq|.shr=>true
 |_=>false
def zoQ:BinOp->Bool
 |.add|.eql|.neq=>true
 |_=>false
def zpq(P:Program)(t:TypeId):Bool:=match P.underlying t with
 |some .string=>true
 |_=>false
def zc6(P:Program)(t:TypeId):Bool:=match P.underlying t with
 |some (.interface _)=>true
 |_=>false
def zh0(P:Program)(t:TypeId):Bool:=match P.underlying t with
 |some .bool=>true
 |_=>false
def zmS(P:Program)(t:TypeId):Bool:=match P.underlying t with
 |some (.int _)=>true
 |_=>false
def XR(P:Program)(o:Oper):Option PK:=
 match o.op with
 |.move x=>(po x).map .mv
 |.assign x=>(po x).map .mv
 |.pick c a b=>(po c).bind λc=>(po a).bind λa=>(po b).map λb=>.pk c a b
 |.alloc e=>(xg P e).map .al
 |.box _ x=>(po x).map .bo
 | .build t parts=>(xg P t).bind λC=>match P.underlying t with
   |some (.struct u)=>if u.toList.all (λf=>(P.info? f.type).isSome) then (Qq P u parts.toList).map λB=>.bd C B else none
   |some (.array _ e)=>(P.info? e).bind λi=>(Qp i.size parts.toList).map λB=>.bd C B
   |_=>none
 | .buildSlice t n parts=>match P.underlying t with
   |some (.slice e)=>(P.info? e).bind λi=>(xg P e).bind λC=>(Qu (parts.toList.map (·.2))).bind λB=>if parts.toList.map (·.1)=List.range n/\n*i.size<=16777216/\n<=16777216 then some (.bs i.size B) else none
   |_=>none
 |.load t a=>(XH P t).bind fun(ag,n)=>if ag || n == 1 then (po a).map λa=>.ld a ag n else none
 |.store t a v=>(XH P t).bind fun(_,n)=>(po a).bind λa=>(po v).map λv=>.st a v n
 |.nilCheck x=>(po x).map .nc
 | .binOp op t x y _=>(po x).bind λw=>(po y).bind λE=>
   if (op == .eql || op == .neq) && JL y && zc6 P t then some (.nil (op == .neq) w)
   else if (op == .eql || op == .neq) && (za9 P t).isSome then some (.eq2 (op == .neq) w E ((za9 P t).getD 0))
   else if (op == .eql || op == .neq) && zh0 P t then some (.beq (op == .neq) w E)
   else if zk3 op && zmS P t then some (.bin op w E)
   else if zoQ op && zpq P t then some (.sb op w E) else none
 |.unOp .not _ x=>(po x).map .not
 | .convert s t x=>match P.underlying s,P.underlying t with
   |some (.int _),some (.int k)=>(po x).map (.cv k)
   |_,_=>none
 | .makeInterface t x=>match P.underlying t with
   |some (.interface _)=>none
   |some _=>(po x).map (.mi t)
   |none=>none
 |.makeFunc f u F=>(Qu u.toList).bind λu=>(Qu F.toList).map λF=>.mf f u F
 | .slice t x lo hi none=>match P.underlying t with
   |some (.slice e)=>(P.info? e).bind λi=>(po x).bind λx=>(poo lo).bind λlo=>(poo hi).map λhi=>.sc x lo hi i.size
   |_=>none
 | .fieldAddr t x f=>match P.underlying t with
   |some (.struct u)=>(u[f]?).bind λA=>(P.info? A.type).bind λi=>if i.size=0 then none else (po x).map λx=>.fa x A.offset
   |_=>none
 | .field t x f=>match P.underlying t with
   |some (.struct u)=>(u[f]?).bind λA=>(XH P A.type).bind fun(ag,n)=>if ag || n == 1 then (po x).map λx=>.fl x A.offset ag n else none
   |_=>none
 | .indexAddr t x y=>match P.underlying t with
   |some (.slice e)=>(P.info? e).bind λi=>(po x).bind λx=>(po y).map λy=>.ia x y i.size
   |some (.array n e)=>(P.info? e).bind λi=>(po x).bind λx=>(po y).map λy=>.aa x y n i.size
   |_=>none
 | .index t x y=>match P.underlying t with
   |some (.array n e)=>(XH P e).bind fun(ag,k)=>if ag || k == 1 then (po x).bind λx=>(po y).map λy=>.ix x y n ag k else none
   |_=>none
 |.extract x i=>(po x).map λx=>.ex x i
 | .call c=>match c.callee,c.args.toList,c.argTypes.toList with
   | .builtin .len,[x],[t]=>match P.underlying t with
     |some (.slice _)=>(po x).map .ln
     |_=>none
   | .builtin .append,[x,y],[t,t']=>match P.underlying t with
     |some (.slice e)=>(P.info? e).bind λi=>if t=t'/\0<i.size/\0<i.bytes then (xg P e).bind λC=>if C.length=i.size then (po x).bind λx=>(po y).map λy=>.ap x y i.size i.bytes else none else none
     |_=>none
   |.builtin .max,[x,y],_=>(po x).bind λx=>(po y).map λy=>.mm true x y
   |.builtin .min,[x,y],_=>(po x).bind λx=>(po y).map λy=>.mm false x y
   |.value (.func f),j,_=>(Qu j).map λj=>.ca f j
   |.value (.tmp t),j,_=>(Qu j).map λj=>.cl (.t t) j
   |.invoke (.tmp t) m,j,_=>(Qu j).map λj=>.iv (.t t) m j
   |_,_,_=>none
 |.unOp .neg _ x=>(po x).map λw=>.bin .sub (.c (.v (.int .i64 0))) w
 |_=>none
def Cn(P:Program)(f:FuncId)(A:List PV)(r:PV):Prop:=
 (∀j w,(callFunc f j).run P w=.ok (.enter f j) w) /\
 ∀(D:Qk)(w:World)(y:Array Value),GL D w->(∀b o,D b o->b<w.heap.size)->y.size=A.length->(∀(i:Nat) p,A[i]?=some p->Dat D w (y.getD i undef) p)->Calls P f y w λe w'=>
  ∃v u,e=.returned v/\Below w.heap.size w w'/\(∀b o,D b o->u b o)/\(∀b o,u b o->D b o\/w.heap.size<=b)/\(∀b o,u b o->b<w'.heap.size)/\Dat u w' v r/\yW u (λk=>w.heap.size<=k) w' v r
def OCn(P:Program)(f:FuncId)(C:List (List PV))(G:Nat)(E:List PV)(F:List (List PV)):Prop:=
 (∀j w,(callFunc f j).run P w=.ok (.enter f j) w) /\
 ∀(D:Qk) (w:World) (v:Value) (B:Array Value),GL D w->(∀b o,D b o->b<w.heap.size)->B.size=E.length->(∀(i:Nat) p,E[i]?=some p->Dat D w (B.getD i undef) p)->Dat D w v (.sl C .sh)->yW D (λ_=>True) w v (.sl C (.r 0 G)) ->
  Calls P f (#[v]++B) w λe w'=>∃u A,e=.returned u/\(w'.os=w.os/\w'.tape=w.tape/\w'.output=w.output/\w.heap.size<=w'.heap.size)/\(∀k,k<w.heap.size->zc v≠some k->w'.heap[k]?=w.heap[k]?) /\
   (∀b o y,D b o->w.cell? ⟨b,o,none⟩=some y->w'.cell? ⟨b,o,none⟩=some y)/\(∀b o,D b o->A b o)/\(∀b o,A b o->D b o\/w.heap.size<=b\/zc v=some b)/\(∀b o,A b o->b<w'.heap.size) /\
   Dat A w' u (.sl F .sh)/\yW A (λk=>w.heap.size<=k\/zc v=some k) w' u (.sl F (.r 0 G))
def qW(p:PV)(K:List PV->Prop):Prop:=match p with
 |.agg cs=>K cs
 |.v x=>x.oneCell'=true/\K [.v x]
 |.sl es o=>K [.sl es o]
 |.cp cs o=>K [.cp cs o]
 |.bx i o=>K [.bx i o]
 |.fn f fs cs=>K [.fn f fs cs]
 |.ifc t x=>K [.ifc t x]
 |_=>False
def qV(p:PV)(K:Bool->Prop):Prop:=match p with
 |.v (.bool b)=>K b
 |_=>False
def vR(p:PV)(K:IntKind->Int->Prop):Prop:=match p with
 |.v (.int k n)=>K k n
 |_=>False
def QA(p:PV)(K:List (List PV)->Prop):Prop:=match p with
 |.sl es _=>K es
 |_=>False
def qar(k:IntKind)(n:Int)(K:PV->Prop):Prop:=match k with
 |.i64=>(-9223372036854775808<=n/\n<9223372036854775808)/\K (.v (.int .i64 n))
 |k=>K (.v (.int k (k.wrap n)))
def zgm(k:IntKind)(a b:Int):Int:=a.fdiv (2 ^ (min b.toNat k.bits))
def Xo(op:BinOp)(k:IntKind)(a b:Int)(K:PV->Prop):Prop:=match op with
 |.add=>qar k (a+b) K
 |.sub=>qar k (a-b) K
 |.mul=>qar k (a*b) K
 |.quo=>b≠0/\qar k (a.tdiv b) K
 |.rem=>b≠0/\K (.v (.int k (a.tmod b)))
 |.eql=>K (.v (.bool (decide (a=b))))
 |.neq=>K (.v (.bool (!decide (a=b))))
 |.lss=>K (.v (.bool (decide (a<b))))
 |.leq=>K (.v (.bool (decide (a<=b))))
 |.gtr=>K (.v (.bool (decide (b<a))))
 |.geq=>K (.v (.bool (decide (b<=a))))
 |.shr=>0<=b/\K (.v (.int k (zgm k a b)))
 |_=>False
def QB(op:BinOp)(p q:PV)(K:PV->Prop):Prop:=match p,q with
 |.v (.int k a),.v (.int k' b)=>k=k'/\Xo op k a b K
 |_,_=>False
def jy:List PV->List PV->Prop
 |[],[]=>True
 |.v (.int k _)::r,.v (.int k' _)::r'=>k=k'/\jy r r'
 |_,_=>False
def xQ:List PV->List PV->Bool
 |.v (.int _ a)::r,.v (.int _ b)::r'=>decide (a=b) && xQ r r'
 |_,_=>true
def zbz(j:Bool)(m:Nat)(p q:PV)(K:PV->Prop):Prop:=match p,q with
 |.agg xs,.agg ys=>(xs.length=m/\jy xs ys)/\K (.v (.bool (j != xQ xs ys)))
 |_,_=>False
def sbV(op:BinOp)(a b:ByteArray):PV:=match op with
 |.add=>.v (.string (a++b))
 |.eql=>.v (.bool (a.toList == b.toList))
 |_=>.v (.bool !(a.toList == b.toList))
def qsb(op:BinOp)(p q:PV)(K:PV->Prop):Prop:=match p,q with
 |.v (.string a),.v (.string b)=>a.size+b.size<=9223372036854775807/\K (sbV op a b)
 |_,_=>False
def Mth(P:Program)(t:TypeId)(m:String)(f:FuncId):Prop:=∀(v:Value)(j:Array Value)(w:World),(callMethod (.iface t v) m j).run P w=(callFunc f (#[v]++j)).run P w
def VI(j:List PV)(o:Nat)(u:Bool)(n:Nat)(K:PV->Prop):Prop:=match u with
 |true=>o+n<=j.length/\K (.agg ((j.drop o).take n))
 | false=>match j[o]? with
   |some p=>K p
   |none=>False
def zY(j:List PV):Bool:=j.all PV.isD
def XI(u o:List PV)(j:Nat):List PV:=u.take j++o++u.drop (j+o.length)
def vS(s:PS):List (Nat×Nat×PO)->List PV->(List PV->Prop)->Prop
 |[],zs,K=>K zs
 |(off,n,x)::r,zs,K=>qW (s.ev x) λj=>j.length=n/\off+n<=zs.length/\zY j=true/\vS s r (XI zs (j.map PV.sh) off) K
def yP(s:PS)(o:Nat):List PO->(List (List PV)->Prop)->Prop
 |[],K=>K []
 |x::r,K=>qW (s.ev x) λj=>j.length=o/\zY j=true/\yP s o r λu=>K (j.map PV.sh::u)
def Xw(lo:Option PO)(p:PV):Ow:=match lo,p with
 |none,.sl _ (.p i)=>.p i
 |_,_=>.sh
def qBd(s:PS)(y:Option PO)(n:Nat)(K:Nat->Prop):Prop:=match y with
 |none=>K n
 |some y=>vR (s.ev y) λ_ n=>0<=n/\K n.toNat
def PK.q(P:Program)(s:PS)(k:PK)(K:PV->Prop):Prop:=match k with
 | .mv x=>match x with
   |.t i=>K ((s.get i).pre i)
   |x=>K (s.ev x).strip
 |.bin op x y=>QB op (s.ev x) (s.ev y) K
 |.beq n x y=>qV (s.ev x) λa=>qV (s.ev y) λb=>K (.v (.bool (n != (a == b))))
 |.eq2 n x y m=>zbz n m (s.ev x) (s.ev y) K
 | .nil n x=>match s.ev x with
   |.v .nilIface=>K (.v (.bool (!n)))
   |.ifc _ _=>K (.v (.bool n))
   |_=>False
 |.not x=>qV (s.ev x) λb=>K (.v (.bool (!b)))
 |.cv k x=>vR (s.ev x) λ_ n=>K (.v (.int k (k.wrap n)))
 | .fa x off=>match s.ev x with
   |.bx i o=>K (.bx i (o+off))
   |.cp j o=>K (.cp j (o+off))
   |_=>False
 | .ia x y sz=>QA (s.ev x) λu=>vR (s.ev y) λ_ n=>0<=n/\match u[n.toNat]? with
   |some e=>e.length=sz/\K (.cp e 0)
   |none=>False
 | .aa x y n sz=>vR (s.ev y) λ_ m=>(0<=m/\m<n)/\match s.ev x with
   |.bx i o=>K (.bx i (o+m.toNat*sz))
   |.cp j o=>K (.cp j (o+m.toNat*sz))
   |_=>False
 | .ix x y n ag sz=>vR (s.ev y) λ_ m=>(0<=m/\m<n)/\match s.ev x with
   |.agg j=>VI j (m.toNat*sz) ag sz λp=>K p.strip
   |_=>False
 | .fl x off ag n=>match s.ev x with
   |.agg j=>VI j off ag n λp=>K p.strip
   |_=>False
 | .ld x ag n=>match s.ev x with
   |.cp j o=>VI j o ag n λp=>K p.strip
   | .bx i o=>match s.b[i]? with
     |some j=>zY ((j.drop o).take n)=true/\VI j o ag n λp=>K p.strip
     |none=>False
   |_=>False
 | .nc x=>match s.ev x with
   |.bx i o=>K (.bx i o)
   |.cp j o=>K (.cp j o)
   |_=>False
 |.bd zs ps=>vS s ps zs λj=>K (.agg j)
 |.bs sz ps=>yP s sz ps λu=>K (.sl u .z)
 |.ln x=>QA (s.ev x) λu=>K (.v (.int .i64 u.length))
 | .ex x i=>match s.ev x with
   | .tup j=>match j[i]? with
     |some p=>K p.strip
     |none=>False
   |_=>False
 |.mf f fs j=>(fs.all (λx=>(s.ev x).sh.isD || (s.ev x).sh.isB) && j.all (λx=>(s.ev x).sh.isD || (s.ev x).sh.isB))=true/\K (.fn f (fs.map λx=>(s.ev x).sh) (j.map λx=>(s.ev x).sh))
 | .mi t x=>match (s.ev x).isD with
   |true=>K (.ifc t (s.ev x).sh)
   |false=>False
 |.pk c x y=>qV (s.ev c) λb=>(b=true->K (s.ev x).strip)/\(b=false->K (s.ev y).strip)
 |.sc x lo hi sz=>QA (s.ev x) λu=>qBd s hi u.length λh=>qBd s lo 0 λl=>l<=h/\h<=u.length/\(∀e∈u,e.length=sz)/\K (.sl ((u.take h).drop l) (Xw lo (s.ev x)))
 |.mm m x y=>vR (s.ev x) λk a=>vR (s.ev y) λA b=>k=A/\K (.v (.int k (if m then (if b > a then b else a) else (if b<a then b else a))))
 |.ca f xs=>∃r,Cn P f (xs.map λx=>(s.ev x).sh) r/\zY (xs.map λx=>(s.ev x).sh)=true/\K r.strip
 | .cl y xs=>match s.ev y with
   |.fn (.func f) fs j=>∃r,Cn P f (fs++(xs.map λx=>(s.ev x).sh)++j) r/\zY (fs++(xs.map λx=>(s.ev x).sh)++j)=true/\K r.strip
   |_=>False
 | .iv x m xs=>match s.ev x with
   |.ifc t p=>∃f,Mth P t m f/\∃r,Cn P f (p.sh::xs.map λx=>(s.ev x).sh) r/\zY (p.sh::xs.map λx=>(s.ev x).sh)=true/\K r.strip
   |_=>False
 |.sb op x y=>qsb op (s.ev x) (s.ev y) K
 | .ap x y sz by_=>match s.ev x with
   |.sl u .z=>QA (s.ev y) λw=>(∀e∈u,e.length=sz)/\(∀e∈w,e.length=sz)/\(u.length+w.length)*by_<=140737488355328/\K (.sl (u++w) (.n sz))
   |_=>False
 |_=>False
def yC(y:PO)(p:PV)(j:List PV):List PV:=match y,p with
 |.t _,.sl es o=>[.sl es o]
 |_,_=>j.map PV.sh
def apO(o j:List (List PV))(d u:Nat):Ow:=match o,j with
 |_::_,[]=>.sh
 |_,_=>.r d u
def isT:PO->Bool
 |.t _=>true
 |_=>false
def PV.fz1(b:List (List PV)):PV->PV
 |.bx i o=>.cp ((b[i]?.getD []).map PV.sh) o
 |p=>p
def PV.fz(b:List (List PV)):PV->PV
 |.fn f fs cs=>.fn f (fs.map (PV.fz1 b)) (cs.map (PV.fz1 b))
 |p=>p.fz1 b
def PS.fz(s:PS):PS:=⟨s.t.map λy=>(y.1,y.2.fz s.b),[]⟩
def PK.e(P:Program)(k:PK)(d:Option Nat)(s:PS)(K:PS->Prop):Prop:=match k with
 |.mf f fs w=>if (fs.any λx=>(s.ev x).isB) || (w.any λx=>(s.ev x).isB) then s.b.all zY=true/\PK.q P s.fz (.mf f fs w) λp=>K (s.fz.put d p) else PK.q P s (.mf f fs w) λp=>K (s.put d p)
 |.mv (.t i)=>K (s.put d (s.get i))
 |.sc x lo hi sz=>PK.q P s (.sc x lo hi sz) λp=>K (s.put d p.strip)
 | .ld x false 1=>match s.ev x with
   | .bx i o=>match s.b[i]? with
     | some w=>match w[o]? with
       |some p=>K (s.put d p)
       |none=>False
     |none=>False
   |_=>PK.q P s (.ld x false 1) λp=>K (s.put d p)
 |.al zs=>K (PS.put ⟨s.t,s.b++[zs]⟩ d (.bx s.b.length 0))
 | .bs sz ps=>match d with
   |some d=>yP s sz ps λu=>K (s.put (some d) (.sl u (.r d sz)))
   |none=>PK.q P s (.bs sz ps) λp=>K (s.put d p)
 |.bo x=>qW (s.ev x) λw=>K (PS.put ⟨s.t,s.b++[w.map PV.sh]⟩ d (.bx s.b.length 0))
 | .st x y sz=>match s.ev x with
   | .bx i o=>match s.b[i]? with
     |some w=>qW (s.ev y) λus=>us.length=sz/\o+sz<=w.length/\K (PS.put ⟨s.t,s.b.set i (XI w (yC y (s.ev y) us) o)⟩ d (.v undef))
     |none=>False
   |_=>False
 | .ap x y sz by_=>match s.ev x with
   |.sl u (.r n sz')=>sz'=sz/\isT x=true/\QA (s.ev y) λj=>(∀e∈j,e.length=sz)/\(u.length+j.length)*by_<=140737488355328/\K ((s.down n).put d (.sl (u++j) (.r n sz)))
   | .sl u .z=>match d with
     |some d=>QA (s.ev y) λj=>(∀e∈u,e.length=sz)/\(∀e∈j,e.length=sz)/\(u.length+j.length)*by_<=140737488355328/\K (s.put (some d) (.sl (u++j) (apO u j d sz)))
     |none=>PK.q P s (.ap x y sz by_) λp=>K (s.put d p.strip)
   |_=>False
 | .ca f xs=>match xs with
   | .t i::xs'=>match s.get i with
     |.sl u (.r n sz)=>(∃r,Cn P f (xs.map λx=>(s.ev x).sh) r/\zY (xs.map λx=>(s.ev x).sh)=true/\K (s.put d r))\/∃A,OCn P f u sz (xs'.map λx=>(s.ev x).sh) A/\zY (xs'.map λx=>(s.ev x).sh)=true/\K ((s.down n).put d (.sl A (.r n sz)))
     |_=>∃r,Cn P f (xs.map λx=>(s.ev x).sh) r/\zY (xs.map λx=>(s.ev x).sh)=true/\K (s.put d r)
   |_=>∃r,Cn P f (xs.map λx=>(s.ev x).sh) r/\zY (xs.map λx=>(s.ev x).sh)=true/\K (s.put d r)
 |k=>k.q P s λp=>K (s.put d p)
section
variable {P:Program}{s:PS}
def Det{α:Type}(H:(α->Prop)->Prop):Prop:=∀K,H K->∃x,K x/\H λy=>y=x
def Det.pure{α:Type}(x:α):Det λK:α->Prop=>K x:=λK h=>⟨x,h,rfl⟩
def Det.false{α:Type}:Det λ_:α->Prop=>False:=λ_ h=>h.elim
def Det.and{α:Type}{H:(α->Prop)->Prop}(p:Prop)(h:Det H):Det λK=>p/\H K:=λK hk=>by obtain⟨x,j,o⟩:=h K hk.2;exact⟨x,j,hk.1,o⟩
def Qw{α:Type}{p:PV}{H:List PV->(α->Prop)->Prop}(h:∀j,Det (H j)):Det λK=>qW p λj=>H j K:=by
 intro K hk;unfold qW at hk⊢;split at hk<;>first|exact h _ K hk|exact Det.and _ (h _) K hk|exact hk.elim
def jm{α:Type}{p:PV}{H:Bool->(α->Prop)->Prop}(h:∀b,Det (H b)):Det λK=>qV p λb=>H b K:=by
 intro K hk;unfold qV at hk⊢;split at hk
 .exact h _ K hk
 .exact hk.elim
def yQ{α:Type}{p:PV}{H:IntKind->Int->(α->Prop)->Prop}(h:∀k n,Det (H k n)):Det λK=>vR p λk n=>H k n K:=by
 intro K hk;unfold vR at hk⊢;split at hk
 .exact h _ _ K hk
 .exact hk.elim
def ZQ{α:Type}{p:PV}{H:List (List PV)->(α->Prop)->Prop}(h:∀j,Det (H j)):Det λK=>QA p λj=>H j K:=by
 intro K hk;unfold QA at hk⊢;split at hk
 .exact h _ K hk
 .exact hk.elim
def zav(k:IntKind)(n:Int):Det (qar k n):=by
 intro K hk;unfold qar at hk⊢;split at hk
 .exact⟨_,hk.2,hk.1,rfl⟩
 .exact⟨_,hk,rfl⟩
def zdZ(op:BinOp)(k:IntKind)(a b:Int):Det (Xo op k a b):=by
 intro K hk;unfold Xo at hk⊢;split at hk<;>first|exact zav _ _ K hk|exact Det.and _ (zav _ _) K hk|exact Det.and _ (Det.pure _) K hk|exact⟨_,hk,rfl⟩|exact hk.elim
def zdV(op:BinOp)(p q:PV):Det (QB op p q):=by
 intro K hk;unfold QB at hk⊢;split at hk
 .exact Det.and _ (zdZ _ _ _ _) K hk
 .exact hk.elim
def zdY(n:Bool)(m:Nat)(p q:PV):Det (zbz n m p q):=by
 intro K hk;unfold zbz at hk⊢;split at hk
 .exact⟨_,hk.2,hk.1,rfl⟩
 .exact hk.elim
def zgf(u:List PV)(o:Nat)(j:Bool)(n:Nat):Det (VI u o j n):=by
 intro K hk;unfold VI at hk⊢;split at hk
 .exact⟨_,hk.2,hk.1,rfl⟩
 .split at hk
  .exact⟨_,hk,rfl⟩
  .exact hk.elim
def kB{α:Type}(w:List PV)(o:Nat)(u:Bool)(n:Nat)(f:PV->α):Det λK:α->Prop=>VI w o u n λp=>K (f p):=by
 intro K hk;obtain⟨x,y,j⟩:=zgf w o u n _ hk;refine⟨f x,y,?_⟩;unfold VI at j⊢;split at j
 .exact⟨j.1,by rw[j.2]⟩
 .split at j
  .rw[j]
  .exact j.elim
def Qy{α:Type}(f:List PV->α):∀(u:List (Nat×Nat×PO))(j:List PV),Det λK:α->Prop=>vS s u j λo=>K (f o)
 |[],j=>Det.pure _
 |(off,n,x)::r,j=>Qw λo=>Det.and _ (Det.and _ (Det.and _ (Qy f r _)))
def Qx{α:Type}(o:Nat):∀(w:List PO)(f:List (List PV)->α),Det λK:α->Prop=>yP s o w λj=>K (f j)
 |[],f=>Det.pure _
 |x::r,f=>Qw λu=>Det.and _ (Det.and _ (Qx o r λj=>f (u.map PV.sh::j)))
def zar{α:Type}(y:Option PO)(n:Nat){H:Nat->(α->Prop)->Prop}(h:∀n,Det (H n)):Det λK=>qBd s y n λm=>H m K:=by
 cases y with
 |none=>exact h n
 |some y=>exact yQ λ_ _=>Det.and _ (h _)
def zat(k:PK):Det (k.q P s):=by
 cases k with
 |mv x=>cases x<;>exact Det.pure _
 |bin op x y=>exact zdV _ _ _
 |beq n x y=>exact jm λa=>jm λb=>Det.pure _
 |eq2 n x y m=>exact zdY _ _ _ _
 | nil n x=>
   intro K hk;simp only[PK.q]at hk⊢;split at hk<;>first|exact⟨_,hk,rfl⟩|exact hk.elim
 |not x=>exact jm λa=>Det.pure _
 |cv k x=>exact yQ λa b=>Det.pure _
 | fa x off=>
   intro K hk;simp only[PK.q]at hk⊢;split at hk<;>first|exact⟨_,hk,rfl⟩|exact hk.elim
 | ia x y sz=>
   refine ZQ λw=>yQ λ_ n=>Det.and _ λK hk=>?_;split at hk
   .exact⟨_,hk.2,hk.1,rfl⟩
   .exact hk.elim
 | aa x y n sz=>
   refine yQ λ_ m=>Det.and _ λK hk=>?_;split at hk<;>first|exact⟨_,hk,rfl⟩|exact hk.elim
 | ix x y n ag sz=>
   refine yQ λ_ m=>Det.and _ λK hk=>?_;split at hk
   .exact kB _ _ _ _ _ K hk
   .exact hk.elim
 | fl x off ag n=>
   intro K hk;simp only[PK.q]at hk⊢;split at hk
   .exact kB _ _ _ _ _ K hk
   .exact hk.elim
 | ld x ag n=>
   intro K hk;simp only[PK.q]at hk⊢;split at hk
   .exact kB _ _ _ _ _ K hk
   .split at hk
    .exact Det.and _ (kB _ _ _ _ _) K hk
    .exact hk.elim
   .exact hk.elim
 | nc x=>
   intro K hk;simp only[PK.q]at hk⊢;split at hk<;>first|exact⟨_,hk,rfl⟩|exact hk.elim
 |bd zs ps=>exact Qy _ _ _
 |bs sz ps=>exact Qx _ _ _
 |ln x=>exact ZQ λ_=>Det.pure _
 | ex x i=>
   intro K hk;simp only[PK.q]at hk⊢;split at hk
   .split at hk
    .exact⟨_,hk,rfl⟩
    .exact hk.elim
   .exact hk.elim
 |mf f fs cs=>exact Det.and _ (Det.pure _)
 | mi t x=>
   intro K hk;simp only[PK.q]at hk⊢;split at hk
   .exact⟨_,hk,rfl⟩
   .exact hk.elim
 | pk c x y=>
   refine jm λb=>?_;intro K hk;cases b with
   |true=>exact⟨_,hk.1 rfl,λ_=>rfl,nofun⟩
   |false=>exact⟨_,hk.2 rfl,nofun,λ_=>rfl⟩
 |sc x lo hi sz=>exact ZQ λw=>zar _ _ λh=>zar _ _ λl=>Det.and _ (Det.and _ (Det.and _ (Det.pure _)))
 | ap x y sz b=>
   intro K hk;simp only[PK.q]at hk⊢;split at hk
   .exact ZQ (λA=>Det.and _ (Det.and _ (Det.and _ (Det.pure _)))) K hk
   .exact hk.elim
 |mm m x y=>exact yQ λ_ _=>yQ λ_ _=>Det.and _ (Det.pure _)
 |ca f xs=>intro K hk;obtain⟨r,j,o,u⟩:=hk;exact⟨_,u,r,j,o,rfl⟩
 | cl y xs=>
   intro K hk;simp only[PK.q]at hk⊢;split at hk
   .obtain⟨r,j,o,u⟩:=hk;exact⟨_,u,r,j,o,rfl⟩
   .exact hk.elim
 | iv x m xs=>
   intro K hk;simp only[PK.q]at hk⊢;split at hk
   .obtain⟨f,B,r,j,o,u⟩:=hk;exact⟨_,u,f,B,r,j,o,rfl⟩
   .exact hk.elim
 | sb op x y=>
   intro K hk;simp only[PK.q]at hk⊢;unfold qsb at hk⊢;split at hk
   .exact⟨_,hk.2,hk.1,rfl⟩
   .exact hk.elim
 |al zs=>exact Det.false
 |bo x=>exact Det.false
 |st x y n=>exact Det.false
end
section
def zlE(f:Nat->Nat)(e:Edge):Edge:={ e with on:=f e.on }
def jA(f:Nat->Nat)(o:Oper):Oper:={ o with after:=o.after.map (zlE f),guard:=o.guard.map λy=>(f y.1,y.2) }
def z8(l:List Oper)(σ:List Nat):List Oper:=σ.map λi=>jA (λj=>σ.idxOf j) (l.getD i default)
def q9(n:Nat)(σ:List Nat):Bool:=σ.length == n && (List.range n).all (λi=>decide (σ.idxOf i<n)) && (List.range n).all λk=>decide (σ.getD k n<n) && decide (σ.idxOf (σ.getD k n)=k)
section
variable {P:Program}{Q:Exit->Act->World->Prop}{l:List Oper}{σ:List Nat}
def Xq(f:Nat->Nat)(o:Oper)(a:Act)(w:World)(K:Act->World->Prop):(jA f o).wp P a w K Q=o.wp P a w K Q:=by cases o;rfl
def zbD(f:Nat->Nat)(o:Oper)(a:Act)(w:World):(jA f o).asks P a w=o.asks P a w:=by cases o;rfl
def qU{n:Nat}(h:q9 n σ=true):σ.length=n/\(∀i,i<n->σ.idxOf i<n)/\∀k,k<n->σ.getD k n<n/\σ.idxOf (σ.getD k n)=k:=by unfold q9 at h;simp only[V0,tj,wK,WO,wG]at h;exact⟨h.1.1,h.1.2,h.2⟩
def vP{n i:Nat}(h:q9 n σ=true)(hi:i<n):σ.getD (σ.idxOf i) n=i:=by obtain⟨o,j,u⟩:=qU h;have w:=j i hi;rw[vw,Zv a8];exact List.getElem_idxOf a8
def VD{n j:Nat}(h:q9 n σ=true)(A:n<=j):σ.idxOf j=n:=by obtain⟨o,y,u⟩:=qU h;rw[<-o];refine List.idxOf_eq_length λw=>?_;obtain⟨k,hk,e⟩:=Wj w;have:=(u k a8).1;rw[vw,Zv hk]at this;simp at this;omega
def Qt{k:Nat}(h:q9 l.length σ=true)(hk:k<l.length):∃o,l[σ.getD k l.length]?=some o/\(z8 l σ)[k]?=some (jA (λj=>σ.idxOf j) o):=by
 obtain⟨y,A,w⟩:=qU h;have u:=(w k hk).1;refine⟨l[σ.getD k l.length],Zv u,?_⟩;unfold z8;have e:σ[k]?=some (σ.getD k l.length):=by rw[vw,Zv a8];rfl
 rw[wk,e];simp only[uS];congr 2;rw[vw,Zv u];rfl
structure PermM(n:Nat)(σ:List Nat)(m m':Array Bool):Prop where
 s:m.size=n
 s':m'.size=n
 h:∀k,k<n->m'.getD k false=m.getD (σ.getD k n) false
def PermM.at{n:Nat}{m w:Array Bool}(u:q9 n σ=true)(h:PermM n σ m w)(j:Nat):w.getD (σ.idxOf j) false=m.getD j false:=by
 obtain⟨A,y,B⟩:=qU u;rcases wJ j n with o|o
 .rw[h.h _ (y j o),vP u o]
 .rw[VD u o];have e1:w.getD n false=false:=by rw[wu,W5 (by rw[h.s'];exact Zp _)];rfl
  have e2:m.getD j false=false:=(by rw[wu,W5 (by rw[h.s];exact o)];rfl);rw[e1,e2]
def getD_tf{m:Array Bool}{i:Nat}(h:i<m.size):m.getD i true=m.getD i false:=by simp[h]
def PermM.set{n k:Nat}{m w:Array Bool}(A:q9 n σ=true)(h:PermM n σ m w)(hk:k<n):PermM n σ (m.setIfInBounds (σ.getD k n) true) (w.setIfInBounds k true):=by
 obtain⟨B,C,u⟩:=qU A;refine⟨dJ h.s,dJ h.s',λj o=>?_⟩;by_cases e:j=k
 .subst e;rw[zl (by rw[h.s'];exact o),zl (by rw[h.s];exact(u j o).1)]
 .have y:σ.getD j n≠σ.getD k n:=λe2=>e (by have:=(u j o).2;have:=(u k hk).2;rw[e2]at *;omega);rw[zj e,zj y,h.h j o]
def xG{j:Array Oper}{m:Array Bool}{i:Nat}:i∈Region.ready .any j m↔i<j.size/\m.getD i true=false/\∃o,j[i]?=some o/\(o.after.all λe=>!Region.binds .any e || m.getD e.on false)=true:=by unfold Region.ready;simp only[Wh,WO,V0,Wk];refine uT λhi=>uT λ_=>?_;rw[Wd hi];simp
def jZ{m u:Array Bool}{k:Nat}(y:q9 l.length σ=true)(h:PermM l.length σ m u)(hk:k<l.length):k∈Region.ready .any (z8 l σ).toArray u↔σ.getD k l.length∈Region.ready .any l.toArray m:=by
 obtain⟨E,F,A⟩:=qU y;obtain⟨o,B,C⟩:=Qt y hk;have w:(z8 l σ).length=l.length:=by unfold z8;simpa using E
 have e:(u.getD k true=false)↔(m.getD (σ.getD k l.length) true=false):=by rw[getD_tf (by rw[h.s'];exact hk),getD_tf (by rw[h.s];exact(A k hk).1),h.h k hk]
 have e2:((jA (λj=>σ.idxOf j) o).after.all λe=>!Region.binds .any e || u.getD e.on false)=(o.after.all λe=>!Region.binds .any e || m.getD e.on false):=by show ((o.after.map (zlE λj=>σ.idxOf j)).all λe=>!Region.binds .any e || u.getD e.on false)=_;rw[Array.all_map];congr 1;funext e;show (!Region.binds .any e || u.getD (σ.idxOf e.on) false)=_;rw[h.at y]
 rw[xG,xG,e];simp only[WA,w,wF,B,C,wN,exists_eq_left',e2,hk,(A k hk).1]
def J6(y:q9 l.length σ=true)(u:Array Value)(j:Nat):yielded (z8 l σ).toArray u (σ.idxOf j)=yielded l.toArray u j:=by
 obtain⟨E,F,G⟩:=qU y;have B:(z8 l σ).length=l.length:=by unfold z8;simpa using E
 have e:((z8 l σ).toArray[σ.idxOf j]?).bind (·.dst)=(l.toArray[j]?).bind (·.dst):=by
  simp only[wF];rcases wJ j l.length with w|w
  .obtain⟨o,A,C⟩:=Qt y (F j w);rw[vP y w]at A;rw[A,C];rfl
  .rw[VD y w,WU a8,WU w]
 unfold yielded;rw[e]
def VE(w:q9 l.length σ=true)(o:Oper)(u:Array Value):Region.wanted (jA (λj=>σ.idxOf j) o) (yielded (z8 l σ).toArray u)=Region.wanted o (yielded l.toArray u):=by
 unfold Region.wanted jA;cases o.guard with
 |none=>rfl
 |some y=>obtain⟨j,b⟩:=y;simp only[uS,J6 w]
def wpAny_perm(A:q9 l.length σ=true):∀(j:Nat)(m y:Array Bool)(a:Act)(w:World),PermM l.length σ m y->wpAny P .any (z8 l σ).toArray Q j y a w->wpAny P .any l.toArray Q j m a w:=by
 obtain⟨K,I,N⟩:=qU A;have nil:∀{m y:Array Bool},PermM l.length σ m y->Region.ready .any l.toArray m=[]->Region.ready .any (z8 l σ).toArray y=[]:=λ{m y} h e=>by refine Wv.2 λk hk=>?_;have B:(z8 l σ).length=l.length:=(by unfold z8;simpa using K);have G:k<l.length:=(by have:=(xG.1 hk).1;simp only[WA,B]at this;exact this);have:=(jZ A h G).1 hk;rw[e]at this;cases this
 have E:∀{m y:Array Bool},PermM l.length σ m y->Region.ready .any (z8 l σ).toArray y=[]->Region.ready .any l.toArray m=[]:=λ{m y} h e=>by refine Wv.2 λi hi=>?_;have u:i<l.length:=(by simpa using (xG.1 hi).1);have:=(jZ A h (I i u)).2 (by rw[vP A u];exact hi);rw[e]at this;cases this
 intro j;induction j with
 |zero=>intro m y a w h C;exact⟨E h C.1,C.2⟩
 | succ j ih=>
   intro m y a w h C;refine⟨λe=>C.1 (nil h e),λi hi=>?_⟩;have u:i<l.length:=(by simpa using (xG.1 hi).1);have hk:=I i u;have M:=(jZ A h hk).2 (by rw[vP A u];exact hi);have hs:=C.2 _ M;obtain⟨o,H,J⟩:=Qt A hk;have F:=h.set A hk;rw[vP A u]at H F;unfold wpOp at hs⊢;simp only[wF,H,J,VE A,Xq,zbD]at hs⊢;split
   .rename_i hwa;rw[vD hwa]at hs;exact hs.imp (Tu λa w L=>ih _ _ a w F L) id
   .rename_i hwa;rw[Vq hwa]at hs;exact ih _ _ _ w F hs
def xd(u:q9 l.length σ=true){a:Act}{w:World}(h:wpAny P .any (z8 l σ).toArray Q (z8 l σ).toArray.size (Array.replicate (z8 l σ).toArray.size false) a w):wpAny P .any l.toArray Q l.toArray.size (Array.replicate l.toArray.size false) a w:=by
 obtain⟨y,A,B⟩:=qU u;have j:(z8 l σ).length=l.length:=by unfold z8;simpa using y
 simp only[WA,j]at h⊢;refine wpAny_perm u _ _ _ a w ⟨b6,b6,λk hk=>?_⟩ h;have o:∀i:Nat,(Array.replicate l.length false).getD i false=false:=λi=>by
  simp only[wu,uq];split<;>rfl
 rw[o,o]
end
end
section
attribute [local go_sem] Oper.semAt_some
def zB(a:Act):Nat->Value:=λt=>a.tmps.getD t undef
def zai(D:Qk)(w:World)(v:Value):Dat D w v (Q6 v):=by
 unfold Q6;split
 .exact .sl none 0 1 [] .sh 0 0 (λ_=>undef) (Zp _) (λh=>by cases h) (X4 _) (λh=>absurd rfl h) (λi e h=>by simp at h) (λj h=>absurd h b6) (λi e j p h=>by simp at h)
 .exact .v _
def zfT(D:Qk)(w:World)(v:Value):Dat D w v (ofV v):=by
 unfold ofV;split
 .exact .sl none 0 1 [] .z 0 0 (λ_=>undef) (Zp _) (λ_=>rfl) (X4 _) (λh=>absurd rfl h) (λi e h=>by simp at h) (λj h=>absurd h b6) (λi e j p h=>by simp at h)
 .rename_i vs;split
  .rename_i hall;refine .agg vs _ b6 (λi hi=>?_) λi p u=>?_
   .rw[wK]at hall;have o:i<vs.size:=(dJ hi);exact hall _ (by simp[o])
   .simp only[wk,ZZ]at u;obtain⟨v,y,rfl⟩:=u;have:vs.getD i undef=v:=(by simp at y;simp[y]);rw[this];exact zai D w v
  .exact .v _
 .exact .v _
structure Rd(D:Qk)(ρ:Nat->Nat)(s:PS)(x:Nat->Value)(ts:List Nat)(w:World):Prop where
 slots:∀t∈ts,Rel D ρ s.b.length w (x t) (s.get t)
 boxes:∀(i:Nat) cs,s.b[i]?=some cs->zaA ⟨D,ρ⟩ s.b.length w i cs
 gl:GL D w
def zbZ(o:Nat->Value)(j:Nat)(s:PS)(x:Nat->Value)(u:List Nat)(w:World):Prop:=
 j<=w.heap.size/\∀t∈u,NewOk o j w (x t) (s.get t)/\((s.get t).own≠none->o t=x t)
def Qok(P:Program)(o:Oper)(s:PS)(ρ:Nat->Nat)(D:Qk)(a:Act)(w:World)(p:PV):Prop:=
 ∀(next:Act->World->Prop)(Q:Exit->Act->World->Prop),(∀u w',Below w.heap.size w w'->Rel (λb o=>D b o\/w.heap.size<=b) ρ s.b.length w' u p->(∀y j,zbZ y j s (zB a) (zA o) w->NewOk y j w' u p)->next (a.put o.dst u) w')->o.wp P a w next Q
variable {P:Program}{o:Oper}{D:Qk}{ρ:Nat->Nat}{nb:Nat}{s:PS}{a:Act}{w:World}
def zby{u:Value}{p:PV}(C:(execOp a.eval o).run P w=.ok (.value u) w)(h:Rel D ρ s.b.length w u p)(A:∀y j,zbZ y j s (zB a) (zA o) w->NewOk y j w u p):Qok P o s ρ D a w p:=by
 intro next Q B
 show o.upon P a next Q ((execOp a.eval o).run P w)
 rw[C];exact B u w (tr _ _) (h.mono (λ_ _ h=>.inl h) (λ_ _ _ _ h=>h) (Zp _) λ_ _=>rfl) A
def zlD{u:Value}{p:PV}{w':World}(C:(execOp a.eval o).run P w=.ok (.value u) w')(hb:Below w.heap.size w w')(h:Rel (λb o=>D b o\/w.heap.size<=b) ρ s.b.length w' u p)(A:∀y j,zbZ y j s (zB a) (zA o) w->NewOk y j w' u p):Qok P o s ρ D a w p:=by
 intro next Q B
 show o.upon P a next Q ((execOp a.eval o).run P w)
 rw[C];exact B u w' hb h A
def Xk{y:Operand}{o:PO}(j:po y=some o)(h:∀t,y=.tmp t->Rel D ρ nb w (zB a t) (s.get t)):Rel D ρ nb w (a.eval y) (s.ev o):=by
 cases y with
 |tmp t=>cases j;exact h t rfl
 |const v=>cases j;exact .dat (zfT D w v)
 |func f=>cases j;exact .dat (.fn (.func f) #[] #[] [] [] rfl rfl (λi p h=>by simp at h) (λi p h=>by simp at h))
 |global g=>cases j
def Rd.at{j:List Nat}(h:Rd D ρ s (zB a) j w){y:Operand}{o:PO}(u:po y=some o)(ht:∀t,y=.tmp t->t∈j):Rel D ρ s.b.length w (a.eval y) (s.ev o):=
 Xk u λt e=>h.slots t (ht t e)
def Rel.inv_agg{u:Value}{j:List PV}(h:Rel D ρ nb w u (.agg j)):∃y:Array Value,u=.agg y/\y.size=j.length/\(∀i,i<j.length->(y.getD i undef).oneCell'=true)/\∀(i:Nat) p,j[i]?=some p->Dat D w (y.getD i undef) p:=by
 rcases h with(h|⟨i,o,h,_⟩)|⟨f,va,vb,fs,j,h,_⟩
 .cases h with|agg y j hs h1 h=>exact⟨y,rfl,hs,h1,h⟩
 .cases h
 .cases h
def Rel.inv_tup{u:Value}{j:List PV}(h:Rel D ρ nb w u (.tup j)):∃y:Array Value,u=.tuple y/\y.size=j.length/\∀(i:Nat) p,j[i]?=some p->Dat D w (y.getD i undef) p:=by
 rcases h with(h|⟨i,o,h,_⟩)|⟨f,va,vb,fs,j,h,_⟩
 .cases h with|tup y j hs h=>exact⟨y,rfl,hs,h⟩
 .cases h
 .cases h
def Rel.inv_ifc{u:Value}{t:TypeId}{p:PV}(h:Rel D ρ nb w u (.ifc t p)):∃x,u=.iface t x/\Dat D w x p:=by
 rcases h with(h|⟨i,o,h,_⟩)|⟨f,va,vb,fs,cs,h,_⟩
 .cases h with|ifc t x p h=>exact⟨x,rfl,h⟩
 .cases h
 .cases h
def Rel.inv_bx{u:Value}{i o:Nat}(h:Rel D ρ nb w u (.bx i o)):i<nb/\u=.pointer (some ⟨ρ i,o,none⟩):=by
 rcases h with(h|⟨i,o,h,hi,hu⟩)|⟨f,va,vb,fs,cs,h,_⟩
 .cases h
 .cases h;exact⟨hi,hu⟩
 .cases h
def Rel.inv_cp{u:Value}{A:List PV}{k:Nat}(h:Rel D ρ nb w u (.cp A k)):∃(b y:Nat) (f:Nat->Value),u=.pointer (some ⟨b,y+k,none⟩)/\(∀j,j<A.length->D b (y+j)/\w.cell? ⟨b,y+j,none⟩=some (f j)/\(f j).oneCell'=true)/\∀(j:Nat) p,A[j]?=some p->Dat D w (f j) p:=by
 rcases h with(h|⟨i,o,h,_⟩)|⟨f,va,vb,fs,A,h,_⟩
 .cases h with|cp b y A o u h1 h2=>exact⟨b,y,u,rfl,h1,h2⟩
 .cases h
 .cases h
def Rel.inv_sl{u:Value}{B:List (List PV)}{k:Ow}(h:Rel D ρ nb w u (.sl B k)):∃(E:Option Addr) (y C b A:Nat) (f:Nat->Value),u=.slice E B.length y/\B.length<=y/\(k=.z->y=B.length)/\y<=maxLen/\(B≠[]->E=some ⟨b,A,none⟩) /\
 (∀(i:Nat) e,B[i]?=some e->e.length=C)/\(∀j,j<B.length*C->D b (A+j)/\w.cell? ⟨b,A+j,none⟩=some (f j)/\(f j).oneCell'=true)/\∀(i:Nat) e (j:Nat) p,B[i]?=some e->e[j]?=some p->Dat D w (f (i*C+j)) p:=by
 rcases h with(h|⟨i,o,h,_⟩)|⟨f,va,vb,fs,cs,h,_⟩
 .cases h with|sl a y C B o b A u hc hz hm ha hsz hD h=>exact⟨a,y,C,b,A,u,rfl,hc,hz,hm,ha,hsz,hD,h⟩
 .cases h
 .cases h
def xE{p:PV}{K:Bool->Prop}{u:Value}(h:qV p K)(j:Rel D ρ nb w u p):∃b,u=.bool b/\p=.v (.bool b)/\K b:=by
 unfold qV at h;split at h
 .exact⟨_,j.v_inv,rfl,h⟩
 .exact h.elim
def yu{p:PV}{K:IntKind->Int->Prop}{u:Value}(h:vR p K)(j:Rel D ρ nb w u p):∃k n,u=.int k n/\p=.v (.int k n)/\K k n:=by
 unfold vR at h;split at h
 .exact⟨_,_,j.v_inv,rfl,h⟩
 .exact h.elim
def y8{p:PV}{K:List (List PV)->Prop}(h:QA p K):∃j k,p=.sl j k/\K j:=by
 unfold QA at h;split at h
 .exact⟨_,_,rfl,h⟩
 .exact h.elim
def kC{k:IntKind}{n:Int}{K:PV->Prop}(h:qar k n K):K (.v (.int k (k.wrap n))):=by
 unfold qar at h;split at h
 .obtain⟨⟨j,u⟩,o⟩:=h;have:IntKind.i64.wrap n=n:=IntWalk.i64_in _ ⟨j,a8⟩;rw[this];exact o
 .exact h
def zd0{op:BinOp}{k:IntKind}{x y:Int}{K:PV->Prop}(t:TypeId)(h:Xo op k x y K):∃u,(binOp op t (.int k x) (.int k y)).run P w=.ok u w/\K (.v u):=by
 unfold Xo at h;split at h;case h_1=>exact⟨_,by simp[binOp,Op.intArith],kC h⟩
 case h_2=>exact⟨_,by simp[binOp,Op.intArith],kC h⟩
 case h_3=>exact⟨_,by simp[binOp,Op.intArith],kC h⟩
 case h_4=>exact⟨_,by simp[binOp,Op.intDiv,h.1],kC h.2⟩
 case h_5=>exact⟨_,by simp[binOp,Op.intDiv,h.1],h.2⟩
 case h_6=>exact⟨.bool (decide (x=y)),by simp[binOp,Op.intCmp];rfl,h⟩
 case h_7=>exact⟨.bool (!decide (x=y)),by simp[binOp,Op.intCmp];rfl,h⟩
 case h_8=>exact⟨_,by simp[binOp,Op.intCmp],h⟩
 case h_9=>exact⟨_,by simp[binOp,Op.intCmp],h⟩
 case h_10=>exact⟨_,by simp[binOp,Op.intCmp],h⟩
 case h_11=>exact⟨_,by simp[binOp,Op.intCmp],h⟩
 case h_12=>exact⟨_,by simp[binOp,Op.shift,Int.not_lt.2 h.1];rfl,h.2⟩
 case h_13=>exact h.elim
def X0(op:BinOp)(t:TypeId)(x y:Operand)(k j:IntKind)(m n:Int):(eqGuard op t x y (.int k m) (.int j n)).run P w=.ok () w:=by
 unfold eqGuard;split<;>simp
def zdX{op:BinOp}{p q:PV}{K:PV->Prop}{u v:Value}(t:TypeId)(x y:Operand)(h:QB op p q K)(A:Rel D ρ nb w u p)(B:Rel D ρ nb w v q):
 ∃r,(do eqGuard op t x y u v;binOp op t u v:Sem Value).run P w=.ok r w/\K (.v r):=by
 unfold QB at h;split at h
 .obtain rfl:=A.v_inv;obtain rfl:=B.v_inv;obtain⟨rfl,h⟩:=h;obtain⟨r,j,o⟩:=zd0 (P:=P) (w:=w) t h;exact⟨r,by simp[X0,j],o⟩
 .exact h.elim
def kh(op:BinOp)(t:TypeId)(x y:Operand)(m n:Bool):(eqGuard op t x y (.bool m) (.bool n)).run P w=.ok () w:=by
 unfold eqGuard;split<;>simp
def JD{t:TypeId}(ht:P.underlying t=some .bool)(m n:Bool):(Op.equal t (.bool m) (.bool n)).run P w=.ok (m == n) w:=by unfold Op.equal Op.maxDepth;rw[show (10000:Nat)=9999+1 from rfl];unfold Op.equalIn;simp[tG ht]
def X1(op:BinOp)(t:TypeId)(x:Operand):(eqGuard op t x (.const .nilIface) .nilIface .nilIface).run P w=.ok () w:=by
 unfold eqGuard;cases op<;>cases x<;>simp
def Y5(op:BinOp)(t j:TypeId)(x y:Operand)(v:Value):(eqGuard op t x y (.iface j v) .nilIface).run P w=.ok () w:=by
 unfold eqGuard;cases op<;>simp
def za3{t:TypeId}{ms}(ht:P.underlying t=some (.interface ms)):(Op.equal t .nilIface .nilIface).run P w=.ok true w:=by unfold Op.equal Op.maxDepth;rw[show (10000:Nat)=9999+1 from rfl];unfold Op.equalIn;simp[tG ht]
def JE{t:TypeId}{ms}(ht:P.underlying t=some (.interface ms))(j:TypeId)(v:Value):(Op.equal t (.iface j v) .nilIface).run P w=.ok false w:=by unfold Op.equal Op.maxDepth;rw[show (10000:Nat)=9999+1 from rfl];unfold Op.equalIn;simp[tG ht]
def Y7{l:List PV}{j:Array Value}{i:Nat}{p:PV}(hs:j.size=l.length)(o:l[i]?=some p):i<j.size:=by rw[hs];exact(Zw.1 o).1
def CellsR(D:Qk)(ρ:Nat->Nat)(nb:Nat)(w:World)(u:Value)(j:List PV):Prop:=
 u.cells.size=j.length/\∀(i:Nat) p,j[i]?=some p->Rel D ρ nb w (u.cells.getD i undef) p/\(u.cells.getD i undef).oneCell'=true
def yG{u:Value}{p:PV}(h:Rel D ρ nb w u p)(o:u.oneCell'=true):CellsR D ρ nb w u [p]:=by
 have e:u.cells=#[u]:=by cases u<;>first|rfl|cases o
 refine⟨by rw[e];rfl,λi q j=>?_⟩;have hi:i=0:=by have:=(Zw.1 j).1;simpa using this
 subst hi;simp at j;subst j;rw[e];exact⟨h,o⟩
def xY{p:PV}{K:List PV->Prop}{u:Value}(h:qW p K)(j:Rel D ρ nb w u p):∃y,K y/\CellsR D ρ nb w u y:=by
 unfold qW at h;split at h
 .obtain⟨E,rfl,hs,B,C⟩:=j.inv_agg;exact⟨_,h,hs,λi p A=>⟨.dat (C i p A),B i (Zw.1 A).1⟩⟩
 .obtain rfl:=j.v_inv;exact⟨_,h.2,yG j h.1⟩
 .obtain⟨_,_,_,_,_,_,rfl,_⟩:=j.inv_sl;exact⟨_,h,yG j rfl⟩
 .obtain⟨_,_,_,rfl,_⟩:=j.inv_cp;exact⟨_,h,yG j rfl⟩
 .obtain⟨_,rfl⟩:=j.inv_bx;exact⟨_,h,yG j rfl⟩
 .refine⟨_,h,yG j ?_⟩;rcases j with(j|⟨i,o,j,_⟩)|⟨f,va,vb,fs,y,_,rfl,_⟩
  .cases j;rfl
  .cases j
  .rfl
 .obtain⟨_,rfl,_⟩:=j.inv_ifc;exact⟨_,h,yG j rfl⟩
 .exact h.elim
def xy{t:TypeId}{d:TypeDesc}(h:P.underlying t=some d):(isAgg t).run P w=.ok (Qb d) w:=by
 unfold isAgg;simp only[tE,tG h,tx];cases d<;>simp[Qb]
def zE{t:TypeId}{i:TypeInfo}(h:P.info? t=some i):(sizeOf t).run P w=.ok i.size w:=by simp[sizeOf,typeInfo,h]
def vT{t:TypeId}{j:Bool}{n:Nat}(h:XH P t=some (j,n)):∃i d,P.info? t=some i/\P.underlying t=some d/\Qb d=j/\i.size=n:=by unfold XH at h;simp only[Z3,ZZ]at h;obtain⟨i,hi,d,o,e⟩:=h;cases e;exact⟨i,d,hi,o,rfl,rfl⟩
def Zs{t:TypeId}{n:Nat}{j:Addr}{v:Value}(h:XH P t=some (false,n))(y:w.cell? j=some v):(loadVar t j).run P w=.ok v w:=by obtain⟨i,d,A,o,u,B⟩:=vT h;simp[loadVar,xy o,u,y]
def Vo{t:TypeId}{n:Nat}{o:Addr}{f:Nat->Value}(h:XH P t=some (true,n))(C:∀j,j<n->w.cell? (o.add j)=some (f j)):(loadVar t o).run P w=.ok (.agg ((List.range n).map f).toArray) w:=by obtain⟨i,d,u,y,A,B⟩:=vT h;subst B;simp[loadVar,xy y,A,zE u,run_loadCells w o i.size f C]
def zh(b o j:Nat):(⟨b,o,none⟩:Addr).add j=⟨b,o+j,none⟩:=by unfold Addr.add;split<;>simp_all
def Qv{t:TypeId}{C:Bool}{n b B o:Nat}{E:List PV}{f:Nat->Value}{K:PV->Prop}(hs:XH P t=some (C,n))(A:VI E o C n K)
 (G:∀j,j<E.length->w.cell? ⟨b,B+j,none⟩=some (f j)/\(f j).oneCell'=true) (I:∀(j:Nat) p,E[j]?=some p->Rel D ρ nb w (f j) p) (L:C=true->zY ((E.drop o).take n)=true) :
 ∃u p,(loadVar t ⟨b,B+o,none⟩).run P w=.ok u w/\Rel D ρ nb w u p/\K p:=by
 unfold VI at A;cases C with
 | true=>
   obtain⟨M,J⟩:=A;refine⟨_,_,Vo (f:=λj=>f (o+j)) hs (λj N=>?_),?_,J⟩
   .rw[zh,Wt];exact(G _ a8).1
   .refine .dat (.agg _ _ a9 (λi hi=>?_) λi p y=>?_)
    .have H:i<n:=(by simp at hi;omega);have:((List.range n).map λj=>f (o+j)).toArray.getD i undef=f (o+i):=(by simp[H]);rw[this];exact(G _ a8).2
    .have hi:i<n:=(by have:=(Zw.1 y).1;simp at this;omega);have:((List.range n).map λj=>f (o+j)).toArray.getD i undef=f (o+i):=(by simp[hi]);rw[this];have F:=L rfl;unfold zY at F;rw[wK]at F;refine(I _ _ ?_).data (F p (wL y));rw[wt,vD hi,Wi]at y;exact y
 | false=>
   simp only at A;split at A
   .rename_i p y;exact⟨_,p,Zs hs (G o (Zw.1 y).1).1,I _ _ y,A⟩
   .exact A.elim
def VJ{t:TypeId}{G:Bool}{n o:Nat}{F:List PV}{y:Array Value}{K:PV->Prop}(hs:XH P t=some (G,n))(B:VI F o G n K)(hz:y.size=F.length)(M:∀i,i<F.length->(y.getD i undef).oneCell'=true)
 (J:∀(j:Nat) p,F[j]?=some p->Dat D w (y.getD j undef) p):∃u p,(part t y o).run P w=.ok u w/\Dat D w u p/\K p:=by
 obtain⟨i,d,e1,e2,I,e4⟩:=vT hs;unfold VI at B;subst e4;cases G with
 | true=>
   obtain⟨O,L⟩:=B;refine⟨.agg (y.extract o (o+i.size)),_,by simp[part,xy e2,I,zE e1],?_,L⟩;have E:∀j,j<i.size->(y.extract o (o+i.size)).getD j undef=y.getD (o+j) undef:=λj C=>(by have:o+j<y.size:=a8;have N:j<(y.extract o (o+i.size)).size:=a9;simp[wu,Wd N,Wd this]);refine .agg _ _ a9 (λj C=>?_) λj p A=>?_
   .have H:j<i.size:=(by simp at C;omega);rw[E j H];exact M _ a8
   .have C:j<i.size:=(by have:=(Zw.1 A).1;simp at this;omega);rw[E j C];rw[wt,vD C,Wi]at A;exact J _ _ A
 | false=>
   simp only at B;split at B
   .rename_i p A;have ho:o<y.size:=Y7 hz A;refine⟨y.getD o undef,p,?_,J _ _ A,B⟩;simp[part,xy e2,I,ho]
   .exact B.elim
end
end Go.Proofs.YtmpnbdhadjfbhaaGreatDoor
