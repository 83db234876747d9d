import Derived.Test.YtmpnbdhadjfbhaaGreatDoorB6
set_option maxHeartbeats 16000000
set_option linter.all false
namespace Go.Proofs.YtmpnbdhadjfbhaaGreatDoor
def Tl:=@Go.setRow_other
def TJ:=@Go.setRow_heap
def TL:=@Go.run_firstCells_some
section
open Go.RowKit
variable {P:Program}{o:Oper}{D:Qk}{ρ:Nat->Nat}{nb:Nat}{s:PS}{a:Act}{w:World}
def KA{c:Call}{x y:Operand}{t A e:TypeId}{i:TypeInfo}{B:List PV}(ho:o.op=.call c)(H:c.callee=.builtin .append)(G:c.args.toList=[x,y])(u:c.argTypes.toList=[t,A])(ht:P.underlying t=some (.slice e))(hi:P.info? e=some i)(j:t=A/\0<i.size/\0<i.bytes)(hz:xg P e=some B)(I:B.length=i.size):
 ∃z,ApOp P o x y t e i z:=by
 obtain⟨J,z,w,C,rfl,_⟩:=qJ hz;rw[hi]at w;cases w;obtain⟨rfl,E,F⟩:=j;exact⟨z,⟨c,ho,H,WD.1 G,WD.1 u⟩,ht,hi,C,dJ I,E,F⟩
def y9{k:PK}{K:PV->Prop}(j:XR P o=some k)(A:Rd D ρ s (zB a) (zA o) w)(hk:k.q P s K):QS P o D ρ s a w K:=by
 unfold XR at j;split at j;case h_1 x ho=>simp only[ZZ]at j;obtain⟨E,u,rfl⟩:=j;exact zlz A (.inl ho) u hk
 case h_2 x ho=>simp only[ZZ]at j;obtain⟨E,u,rfl⟩:=j;exact zlz A (.inr ho) u hk
 case h_3 c x y ho=>simp only[Z3,ZZ]at j;obtain⟨c',B,E,C,H,G,rfl⟩:=j;exact zny A ho B C G hk
 case h_4 e ho=>simp only[ZZ]at j;obtain⟨z,hz,rfl⟩:=j;exact hk.elim
 case h_5 e x ho=>simp only[ZZ]at j;obtain⟨z,hz,rfl⟩:=j;exact hk.elim
 case h_6 t parts ho=>
  simp only[Z3]at j;obtain⟨V,hz,j⟩:=j;split at j
  .rename_i fs hu;split at j
   .rename_i hall;simp only[ZZ]at j;obtain⟨T,J,rfl⟩:=j;rw[wK]at hall;exact zlt A ho hu hz hall J hk
   .cases j
  .rename_i n e hu;simp only[Z3,ZZ]at j;obtain⟨i,hi,T,J,rfl⟩:=j;exact zls A ho hu hi hz J hk
  .cases j
 case h_7 t n parts ho=>
  split at j
  .rename_i e hu;simp only[Z3]at j;obtain⟨i,hi,V,hz,T,J,j⟩:=j;split at j
   .rename_i hcond;cases j;exact znk A ho hu hi hz J hcond.1 hcond.2.1 c8 hk
   .cases j
  .cases j
 case h_8 t x ho=>
  simp only[Z3]at j;obtain⟨⟨L,n⟩,hs,j⟩:=j;simp only at j;split at j
  .simp only[ZZ]at j;obtain⟨E,u,rfl⟩:=j;exact znt A ho hs u hk
  .cases j
 case h_9 t x y ho=>simp only[Z3,ZZ]at j;obtain⟨⟨L,n⟩,hs,E,u,H,F,rfl⟩:=j;exact hk.elim
 case h_10 x ho=>simp only[ZZ]at j;obtain⟨E,u,rfl⟩:=j;exact znx A ho u hk
 case h_11 op t x y t' ho=>
  simp only[Z3]at j;obtain⟨E,u,H,F,j⟩:=j;have I:∀{b:Bool},((op == .eql || op == .neq) && b)=true->op=.eql\/op=.neq:=λh=>by
   rw[V0]at h;have:=h.1;cases op<;>first|exact .inl rfl|exact .inr rfl|cases this
  split at j
  .rename_i hcond;cases j;rw[Bool.and_assoc]at hcond;have B:=I hcond;simp only[V0]at hcond;obtain⟨_,C,G⟩:=hcond;unfold zc6 at G;split at G
   .rename_i S hu;have:y=.const .nilIface:=by
     unfold JL at C;split at C
     .rfl
     .cases C
    subst this;exact zlB A ho B hu u hk
   .cases G
  .split at j
   .rename_i hcond;cases j;have B:=I hcond;rw[V0]at hcond;exact zlx A ho B hcond.2 u F hk
   .split at j
    .rename_i hcond;cases j;have B:=I hcond;rw[V0]at hcond;have C:=hcond.2;unfold zh0 at C;split at C
     .rename_i hu;exact zlu A ho B hu u F hk
     .cases C
    .split at j
     .cases j;exact zlv A ho u F hk
     .split at j
      .rename_i hcond;cases j;rw[V0]at hcond;exact zpV A ho hcond.1 u F hk
      .cases j
 case h_12 t x ho=>simp only[ZZ]at j;obtain⟨E,u,rfl⟩:=j;exact zlC A ho u hk
 case h_13 t t' x ho=>
  split at j
  .rename_i k1 k2 B C;simp only[ZZ]at j;obtain⟨E,u,rfl⟩:=j;exact znn A ho B C u hk
  .cases j
 case h_14 t x ho=>
  split at j
  .cases j
  .rename_i d hu hne;simp only[ZZ]at j;obtain⟨E,u,rfl⟩:=j;exact znw A ho hne (λS e=>hu S e) u hk
  .cases j
 case h_15 f fs cs ho=>simp only[Z3,ZZ]at j;obtain⟨Z,B,X,C,rfl⟩:=j;exact znv A ho B C hk
 case h_16 t x lo hi ho=>
  split at j
  .rename_i e hu;simp only[Z3,ZZ]at j;obtain⟨i,O,E,u,ac,Q,ab,N,rfl⟩:=j;exact znz A ho hu O u Q N hk
  .cases j
 case h_17 t x f ho=>
  split at j
  .rename_i fs hu;simp only[Z3]at j;obtain⟨Y,M,i,hi,j⟩:=j;split at j
   .cases j
   .rename_i hne;simp only[ZZ]at j;obtain⟨E,u,rfl⟩:=j;exact znp A ho hu M hi hne u hk
  .cases j
 case h_18 t x f ho=>
  split at j
  .rename_i fs hu;simp only[Z3]at j;obtain⟨Y,M,⟨L,n⟩,hs,j⟩:=j;simp only at j;split at j
   .simp only[ZZ]at j;obtain⟨E,u,rfl⟩:=j;exact znq A ho hu M hs u hk
   .cases j
  .cases j
 case h_19 t x y ho=>
  split at j
  .rename_i e hu;simp only[Z3,ZZ]at j;obtain⟨i,hi,E,u,H,F,rfl⟩:=j;exact znr A ho hu hi u F hk
  .rename_i n e hu;simp only[Z3,ZZ]at j;obtain⟨i,hi,E,u,H,F,rfl⟩:=j;exact zni A ho hu hi u F hk
  .cases j
 case h_20 t x y ho=>
  split at j
  .rename_i n e hu;simp only[Z3]at j;obtain⟨⟨L,m⟩,hs,j⟩:=j;simp only at j;split at j
   .simp only[Z3,ZZ]at j;obtain⟨E,u,H,F,rfl⟩:=j;exact zns A ho hu hs u F hk
   .cases j
  .cases j
 case h_21 x i ho=>simp only[ZZ]at j;obtain⟨E,u,rfl⟩:=j;exact zno A ho u hk
 case h_22 c ho=>
  split at j
  .rename_i x t B C G;split at j
   .rename_i e hu;simp only[ZZ]at j;obtain⟨E,u,rfl⟩:=j;exact znu A ho B (WD.1 C) (WD.1 G) hu u hk
   .cases j
  .rename_i x y t t' B C G;split at j
   .rename_i e hu;simp only[Z3]at j;obtain⟨i,hi,j⟩:=j;split at j
    .rename_i hcond;simp only[Z3]at j;obtain⟨V,hz,j⟩:=j;split at j
     .rename_i hl;simp only[Z3,ZZ]at j;obtain⟨E,u,H,F,rfl⟩:=j;obtain⟨z,hA⟩:=KA ho B C G hu hi hcond hz hl;exact znj A hA u F hk
     .cases j
    .cases j
   .cases j
  .rename_i x y B C;simp only[Z3,ZZ]at j;obtain⟨E,u,H,F,rfl⟩:=j;exact zly (m:=true) A ho B (WD.1 C) u F hk
  .rename_i x y B C;simp only[Z3,ZZ]at j;obtain⟨E,u,H,F,rfl⟩:=j;exact zly (m:=false) A ho B (WD.1 C) u F hk
  .rename_i f B;simp only[ZZ]at j;obtain⟨U,u,rfl⟩:=j;exact znl A ho B rfl u hk
  .rename_i t B;simp only[ZZ]at j;obtain⟨U,u,rfl⟩:=j;exact znm A ho B rfl u hk
  .rename_i t m B;simp only[ZZ]at j;obtain⟨U,u,rfl⟩:=j;exact zpU A ho B rfl u hk
  .cases j
 case h_23 t x ho=>simp only[ZZ]at j;obtain⟨E,u,rfl⟩:=j;exact zlA A ho u hk
 case h_24=>cases j
def zmd(P:Program)(o:Oper):PK->Prop
 |.mv y=>∃x,(o.op=.move x\/o.op=.assign x)/\po x=some y
 |.ld y u n=>∃t x,o.op=.load t x/\XH P t=some (u,n)/\po x=some y
 |.al A=>∃e,o.op=.alloc e/\xg P e=some A
 |.bs sz ps=>∃t e n parts w A,o.op=.buildSlice t n parts/\P.underlying t=some (.slice e)/\P.info? e=some w/\xg P e=some A/\Qu (parts.toList.map (·.2))=some ps/\parts.toList.map (·.1)=List.range n/\n*w.size<=16777216/\n<=16777216/\w.size=sz
 |.bo y=>∃e x,o.op=.box e x/\po x=some y
 |.st y z n=>∃t x j u,o.op=.store t x j/\XH P t=some (u,n)/\po x=some y/\po j=some z
 |.ap y z sz by_=>∃x j t e i B,ApOp P o x j t e i B/\po x=some y/\po j=some z/\i.size=sz/\i.bytes=by_
 |.ca f xs=>∃c,o.op=.call c/\c.callee=.value (.func f)/\Qu c.args.toList=some xs
 |_=>True
def vo{k:PK}(j:XR P o=some k):zmd P o k:=by
 unfold XR at j;split at j;case h_1 x ho=>simp only[ZZ]at j;obtain⟨w,u,rfl⟩:=j;exact⟨x,.inl ho,u⟩
 case h_2 x ho=>simp only[ZZ]at j;obtain⟨w,u,rfl⟩:=j;exact⟨x,.inr ho,u⟩
 case h_3 c x y ho=>simp only[Z3,ZZ]at j;obtain⟨Z,B,w,A,E,F,rfl⟩:=j;trivial
 case h_4 e ho=>simp only[ZZ]at j;obtain⟨z,hz,rfl⟩:=j;exact⟨e,ho,hz⟩
 case h_5 e x ho=>simp only[ZZ]at j;obtain⟨z,hz,rfl⟩:=j;exact⟨e,x,ho,hz⟩
 case h_6 t parts ho=>
  simp only[Z3]at j;obtain⟨J,hz,j⟩:=j;split at j
  .rename_i fs hu;split at j
   .rename_i hall;simp only[ZZ]at j;obtain⟨K,I,rfl⟩:=j;rw[wK]at hall;trivial
   .cases j
  .rename_i n e hu;simp only[Z3,ZZ]at j;obtain⟨i,hi,K,I,rfl⟩:=j;trivial
  .cases j
 case h_7 t n parts ho=>
  split at j
  .rename_i e hu;simp only[Z3]at j;obtain⟨i,hi,J,hz,K,I,j⟩:=j;split at j
   .rename_i hcond;cases j;exact⟨t,e,n,parts,i,J,ho,hu,hi,hz,I,hcond.1,hcond.2.1,hcond.2.2,rfl⟩
   .cases j
  .cases j
 case h_8 t x ho=>
  simp only[Z3]at j;obtain⟨⟨H,n⟩,hs,j⟩:=j;simp only at j;split at j
  .simp only[ZZ]at j;obtain⟨w,u,rfl⟩:=j;exact⟨t,x,ho,hs,u⟩
  .cases j
 case h_9 t x y ho=>simp only[Z3,ZZ]at j;obtain⟨⟨H,n⟩,hs,w,u,E,C,rfl⟩:=j;exact⟨t,x,y,H,ho,hs,u,C⟩
 case h_10 x ho=>simp only[ZZ]at j;obtain⟨w,u,rfl⟩:=j;trivial
 case h_11 op t x y t' ho=>
  simp only[Z3]at j;obtain⟨w,u,E,C,j⟩:=j;have G:∀{b:Bool},((op == .eql || op == .neq) && b)=true->op=.eql\/op=.neq:=λh=>by
   rw[V0]at h;have:=h.1;cases op<;>first|exact .inl rfl|exact .inr rfl|cases this
  split at j
  .rename_i hcond;cases j;rw[Bool.and_assoc]at hcond;have B:=G hcond;simp only[V0]at hcond;obtain⟨_,A,F⟩:=hcond;unfold zc6 at F;split at F
   .rename_i ms hu;have:y=.const .nilIface:=by
     unfold JL at A;split at A
     .rfl
     .cases A
    subst this;trivial
   .cases F
  .split at j
   .rename_i hcond;cases j;have B:=G hcond;rw[V0]at hcond;trivial
   .split at j
    .rename_i hcond;cases j;have B:=G hcond;rw[V0]at hcond;have A:=hcond.2;unfold zh0 at A;split at A
     .rename_i hu;trivial
     .cases A
    .split at j
     .cases j;trivial
     .split at j
      .cases j;trivial
      .cases j
 case h_12 t x ho=>simp only[ZZ]at j;obtain⟨w,u,rfl⟩:=j;trivial
 case h_13 t t' x ho=>
  split at j
  .rename_i k1 k2 B A;simp only[ZZ]at j;obtain⟨w,u,rfl⟩:=j;trivial
  .cases j
 case h_14 t x ho=>
  split at j
  .cases j
  .rename_i d hu hne;simp only[ZZ]at j;obtain⟨w,u,rfl⟩:=j;trivial
  .cases j
 case h_15 f fs cs ho=>simp only[Z3,ZZ]at j;obtain⟨O,B,M,A,rfl⟩:=j;trivial
 case h_16 t x lo hi ho=>
  split at j
  .rename_i e hu;simp only[Z3,ZZ]at j;obtain⟨i,U,w,u,Y,X,V,T,rfl⟩:=j;trivial
  .cases j
 case h_17 t x f ho=>
  split at j
  .rename_i fs hu;simp only[Z3]at j;obtain⟨N,S,i,hi,j⟩:=j;split at j
   .cases j
   .rename_i hne;simp only[ZZ]at j;obtain⟨w,u,rfl⟩:=j;trivial
  .cases j
 case h_18 t x f ho=>
  split at j
  .rename_i fs hu;simp only[Z3]at j;obtain⟨N,S,⟨H,n⟩,hs,j⟩:=j;simp only at j;split at j
   .simp only[ZZ]at j;obtain⟨w,u,rfl⟩:=j;trivial
   .cases j
  .cases j
 case h_19 t x y ho=>
  split at j
  .rename_i e hu;simp only[Z3,ZZ]at j;obtain⟨i,hi,w,u,E,C,rfl⟩:=j;trivial
  .rename_i n e hu;simp only[Z3,ZZ]at j;obtain⟨i,hi,w,u,E,C,rfl⟩:=j;trivial
  .cases j
 case h_20 t x y ho=>
  split at j
  .rename_i n e hu;simp only[Z3]at j;obtain⟨⟨H,m⟩,hs,j⟩:=j;simp only at j;split at j
   .simp only[Z3,ZZ]at j;obtain⟨w,u,E,C,rfl⟩:=j;trivial
   .cases j
  .cases j
 case h_21 x i ho=>simp only[ZZ]at j;obtain⟨w,u,rfl⟩:=j;trivial
 case h_22 c ho=>
  split at j
  .rename_i x t B A F;split at j
   .rename_i e hu;simp only[ZZ]at j;obtain⟨w,u,rfl⟩:=j;trivial
   .cases j
  .rename_i x y t t' B A F;split at j
   .rename_i e hu;simp only[Z3]at j;obtain⟨i,hi,j⟩:=j;split at j
    .rename_i hcond;simp only[Z3]at j;obtain⟨J,hz,j⟩:=j;split at j
     .rename_i hl;simp only[Z3,ZZ]at j;obtain⟨w,u,E,C,rfl⟩:=j;obtain⟨z,Q⟩:=KA ho B A F hu hi hcond hz hl;exact⟨x,y,t,e,i,z,Q,u,C,rfl,rfl⟩
     .cases j
    .cases j
   .cases j
  .rename_i x y B A;simp only[Z3,ZZ]at j;obtain⟨w,u,E,C,rfl⟩:=j;trivial
  .rename_i x y B A;simp only[Z3,ZZ]at j;obtain⟨w,u,E,C,rfl⟩:=j;trivial
  .rename_i f B;simp only[ZZ]at j;obtain⟨L,u,rfl⟩:=j;exact⟨c,ho,B,u⟩
  .rename_i t B;simp only[ZZ]at j;obtain⟨L,u,rfl⟩:=j;trivial
  .rename_i t m B;simp only[ZZ]at j;obtain⟨L,u,rfl⟩:=j;trivial
  .cases j
 case h_23 t x ho=>simp only[ZZ]at j;obtain⟨w,u,rfl⟩:=j;trivial
 case h_24=>cases j
variable {B:Bs}{g:Gh}
def Kz(P:Program)(o:Oper)(B:Bs)(a:Act)(w:World)(K:PS->Prop):Prop:=
 ∀(next:Act->World->Prop)(Q:Exit->Act->World->Prop),(∀s' y u j,K s'->R B y s' (zB (a.put o.dst u)) j->next (a.put o.dst u) j)->o.wp P a w next Q
def zN{d:Option Nat}{u:Value}(j:∀t,d=some t->t<a.tmps.size):zB (a.put d u)=QO (zB a) d u:=by
 funext t;cases d with
 |none=>simp[zB,QO,Act.put]
 | some d=>
   have:=j d rfl;by_cases e:d=t
   .subst e;simp[zB,QO,Act.put,this]
   .simp[zB,QO,Act.put,e,ui e]
def R.rd(h:R B g s (zB a) w):Rd g.D g.ρ s (zB a) (zA o) w:=⟨λt _=>h.slots t,λi j hi=>(h.boxes i j hi).2,h.gl⟩
def Z0{K:PS->Prop}(G:∀t,o.dst=some t->t<a.tmps.size)(h:R B g s (zB a) w)(y:QS P o g.D g.ρ s a w λp=>K (s.put o.dst p)):Kz P o B a w K:=by
 obtain⟨p,hk,ho,y⟩:=y;intro next Q H
 refine y next Q λu E hb I _=>?_
 have A:=I.restrict;have F:=h.grow (w':=E) hb (λb o=>(g.D b o\/w.heap.size<=b)/\b<E.heap.size) (λb o j=>⟨.inl j,Vm (h.dlt b o j) hb.size⟩) (λb o j=>j.1) (λb o j=>j.2);have C:=F.put o.dst A (.none ho);rw[<-zN G]at C;exact H _ _ _ _ hk C
def zmp{x:Operand}{i:Nat}{K:PS->Prop}(y:∀t,o.dst=some t->t<a.tmps.size)(h:R B g s (zB a) w)(ho:o.op=.move x\/o.op=.assign x)(u:po x=some (.t i))(hk:K (s.put o.dst (s.get i))):Kz P o B a w K:=by
 have j:x=.tmp i:=by cases x<;>first|(cases u;rfl)|cases u
 subst j;have C:(execOp a.eval o).run P w=.ok (.value (zB a i)) w:=by rcases ho with ho|ho<;>simp[execOp,ho,zB,Act.eval]
 intro next Q A
 show o.upon P a next Q ((execOp a.eval o).run P w)
 rw[C];refine A _ g _ w hk ?_;rw[zN y];exact h.put o.dst (h.slots i) (h.ownNew (h.slot i))
def zjQ{t:TypeId}{x:Operand}{J:PO}{i j:Nat}{A:List PV}{p:PV}{K:PS->Prop}(L:∀t,o.dst=some t->t<a.tmps.size)(h:R B g s (zB a) w)(ho:o.op=.load t x)(hs:XH P t=some (false,1))(O:po x=some J)(hb:s.ev J=.bx i j)(u:s.b[i]?=some A)(F:A[j]?=some p)(hk:K (s.put o.dst p)):Kz P o B a w K:=by
 have I:=h.rd (o:=o).op O (by simp[ho,Op.operands]);rw[hb]at I;obtain⟨hi,e1⟩:=I.inv_bx;obtain⟨T,G,S,N,hz,C⟩:=h.boxes i A u;have E:j<G.size:=Y7 hz F;have H:w.cell? ⟨g.ρ i,j,none⟩=some (G.getD j undef):=by simp only[World.cell?,N];simp[E]
 have y:(execOp a.eval o).run P w=.ok (.value (G.getD j undef)) w:=by have:=Zs hs H;simp only[execOp,ho,e1,Instr.loadAt,Instr.sureAddr,tE,tH,tx,this]
 intro next Q M
 show o.upon P a next Q ((execOp a.eval o).run P w)
 rw[y];refine M _ g _ w hk ?_;rw[zN L];exact h.put o.dst (C j p F).1 (h.ownNew (.inr ⟨i,j,A,u,F,H⟩))
def Rel.sh{u:Value}{p:PV}(h:Rel D ρ nb w u p):Rel D ρ nb w u p.sh:=by
 rcases h with(h|⟨i,o,rfl,hi,rfl⟩)|⟨f,va,vb,fs,cs,rfl,h⟩
 .exact .dat h.sh
 .exact .inl (.inr ⟨i,o,rfl,hi,rfl⟩)
 .exact .inr ⟨f,va,vb,fs,cs,rfl,h⟩
def zgO{e:TypeId}{u:Value}{cs:List PV}{K:PS->Prop}(F:∀t,o.dst=some t->t<a.tmps.size)(h:R B g s (zB a) w)(C:CellsR g.D g.ρ s.b.length w u cs)
 (y:(execOp a.eval o).run P w=.ok (.value (.pointer (some ⟨w.heap.size,0,none⟩))) (w.alloc (.cells u.cells e))) (hk:K (PS.put ⟨s.t,s.b++[cs.map PV.sh]⟩ o.dst (.bx s.b.length 0))):Kz P o B a w K:=by
 intro next Q G
 show o.upon P a next Q ((execOp a.eval o).run P w)
 rw[y];have:=h.box o.dst u.cells e (cs.map PV.sh) (dJ C.1) (λj p A=>by
  simp only[wk,ZZ]at A;obtain⟨q,E,rfl⟩:=A;exact⟨(C.2 j q E).1.sh,(C.2 j q E).2⟩) (λp A=>by obtain⟨q,_,rfl⟩:=wB.1 A;exact q.sh_own)
 rw[<-zN F]at this;exact G _ _ _ _ (dJ hk) this
def xH(u:Nat)(j o:Array Value)(t:TypeId)(y:w.heap[u]?=some (.cells j t (0,0))){b k:Nat}:(w.setRow u o).cell? ⟨b,k,none⟩=if b=u then o[k]? else w.cell? ⟨b,k,none⟩:=by
 split
 .rename_i e;subst e;exact cell_setRow_same w b k j o t (0,0) y
 .rename_i e;exact cell_setRow_other w u o ⟨b,k,none⟩ e
def R.store{x:Nat->Value}(h:R B g s x w){i o':Nat}{G us:List PV}{L:List Value}{A:Array Value}{t:TypeId}(S:s.b[i]?=some G)(C:w.heap[g.ρ i]?=some (.cells A t (0,0)))(hl:L.length=us.length)(ho:o'+us.length<=G.length)
 (hu:∀(j:Nat) p,us[j]?=some p->Rel g.D g.ρ s.b.length w (L.getD j undef) p/\(L.getD j undef).oneCell'=true/\(p.own=none\/zQ g s x w (L.getD j undef) p)) (d:Option Nat) :
 R B g (PS.put ⟨s.t,s.b.set i (XI G us o')⟩ d (.v undef)) (QO x d undef) (w.setRow (g.ρ i) (A.toList.take o'++L++A.toList.drop (o'+L.length)).toArray):=by
 have hi:i<s.b.length:=(Zw.1 S).1;obtain⟨Z,au,e0,af,ar,ac⟩:=h.boxes i G S;rw[C]at af;cases af;obtain⟨new,I⟩:=xt ((A.toList.take o'++L++A.toList.drop (o'+L.length)).toArray);rw[I];have ae:new.size=G.length:=by rw[<-I];simp;omega
 have M:∀k,new[k]?=if o'<=k/\k<o'+us.length then L[k-o']? else A[k]?:=λk=>by
  rw[<-I];have ht:(A.toList.take o').length=o':=a9;simp only[wF];by_cases h1:k<o'
  .rw[Vq a8,wQ,wh a8,wt,vD h1];simp
  .by_cases h2:k<o'+us.length
   .rw[vD a8,wQ,V2 a8,wh a8,ht]
   .rw[Vq a8,V2 a9,Wi];simp only[wj,ht,uU];congr 1;omega
 have E:(s.b.set i (XI G us o')).length=s.b.length:=b6
 have K:(XI G us o').length=G.length:=QK _ _ _ ho;have hD:∀b o x,g.D b o->w.cell? ⟨b,o,none⟩=some x->(w.setRow (g.ρ i) new).cell? ⟨b,o,none⟩=some x:=λb o y hb hx=>by
  rw[xH (g.ρ i) A new t C,Vq]
  .exact hx
  .intro e;subst e;exact h.dbox i hi o hb
 have mono:∀{u p},Rel g.D g.ρ s.b.length w u p->Rel g.D g.ρ s.b.length (w.setRow (g.ρ i) new) u p:=λhu=>hu.mono (λ_ _ h=>h) hD (Zp _) λ_ _=>rfl;have hs:∀u q,zQ g ⟨s.t,s.b.set i (XI G us o')⟩ x (w.setRow (g.ρ i) new) u q->q.own≠none->zQ g s x w u q:=by
  rintro u q (hx|⟨F,j,N,H,V,O⟩) hq
  .exact .inl hx
  .have ai:F<s.b.length:=(by have:=(Zw.1 H).1;simpa using this);by_cases e:i=F
   .subst e;rw[WM hi]at H;cases H;rw[xH (g.ρ i) A new t C,vD rfl,M]at O;rw[Xy _ _ _ _ ho]at V;by_cases Q:o'<=j/\j<o'+us.length
    .rw[vD Q]at V O;have:=(hu _ _ V).2.2;rw[vw,O]at this;rcases this with h7|h7
     .exact absurd h7 hq
     .exact h7
    .rw[Vq Q]at V O;refine .inr ⟨i,j,G,S,V,?_⟩;simp only[World.cell?,C];simpa using O
   .rw[wU e]at H;refine .inr ⟨F,j,N,H,V,?_⟩;rw[xH (g.ρ i) A new t C,Vq (λY=>e (h.inj _ _ ai hi Y).symm)]at O;exact O
 have r1:R B g ⟨s.t,s.b.set i (XI G us o')⟩ x (w.setRow (g.ρ i) new):=by
  refine⟨λt'=>by rw[E];exact mono (h.slots t'),?_,λF j'=>by rw[E];exact h.inj F j',?_,?_,?_,λb o hb=>by simpa using h.dlt b o hb,λF=>by rw[E];exact h.dbox F,?_⟩
  .intro F N H;rw[E];by_cases e:i=F
   .subst e;rw[WM hi]at H;cases H;refine⟨Z,new,t,TJ w _ A new t (0,0) C,by rw[ae,K],λj p J=>?_⟩;rw[Xy _ _ _ _ ho]at J;rw[wu,M];by_cases Q:o'<=j/\j<o'+us.length
    .rw[vD Q]at J⊢;rw[<-vw];exact⟨mono (hu _ _ J).1,(hu _ _ J).2.1⟩
    .rw[Vq Q]at J⊢;rw[<-wu];exact⟨mono (ac _ _ J).1,(ac _ _ J).2⟩
   .rw[wU e]at H;obtain⟨P,aq,Y,an,ao,ab⟩:=h.boxes F N H;have ak:g.ρ F≠g.ρ i:=λY=>e (h.inj _ _ (Zw.1 H).1 hi Y).symm;exact⟨P,aq,Y,(Tl w _ _ new ak).trans an,ao,λj p J=>⟨mono (ab j p J).1,(ab j p J).2⟩⟩
  .intro u q hq;by_cases U:q.own=none
   .exact zr U
   have T:=hs u q hq U;have:=h.owns u q T;have am:=h.ownbox u q;cases q<;>try trivial
   rename_i es ow;cases ow<;>try trivial
   rcases this with hn|⟨gg,X,ag,e,rfl,P,hh,Q,he,ah⟩
   .exact .inl hn
   .cases X with
    | zero=>
      by_cases ad:es=[]
      .subst ad;exact .inl ⟨_,rfl,rfl⟩
      .obtain⟨aj,_⟩:=QH (h.slot_rel T);exact absurd (wH (tb.1 aj)) ad
    |succ X=>exact .inr ⟨gg,_,ag,e,rfl,P,(Tl w _ _ new (am gg i T U rfl hi).symm).trans hh,Q,he,ah⟩
  .intro u q u' q' b k1 k2 o1 o2;exact h.disj _ _ _ _ b (hs _ _ k1 o1) (hs _ _ k2 o2) o1 o2
  .intro u q b F k1 o1 b1 h1;exact h.ownbox _ _ b F (hs _ _ k1 o1) o1 b1 (by rw[E]at h1;exact h1)
  .have f:=h.fr;refine⟨f.os,f.tape,f.output,dJ f.size,λk hk hn=>?_,f.d0,λb o y hb hy=>hD _ _ _ (f.d0 b o hb) (f.cell b o y hb hy),f.new,f.d0lt⟩;rw[Tl w _ _ new ?_]
   .exact f.block k hk hn
   .intro e;subst e;rcases Z with Z|Z
    .omega
    .exact hn Z
 exact r1.put d (.dat (.v _)) (.none rfl)
def zmq{t:TypeId}{ag:Bool}{n i F:Nat}{x y:Operand}{x' u:PO}{M:List PV}{K:PS->Prop}(hd:∀t,o.dst=some t->t<a.tmps.size)(h:R B g s (zB a) w)(ho:o.op=.store t x y)(hs:XH P t=some (ag,n))(hx:po x=some x')(V:po y=some u)
 (hb:s.ev x'=.bx i F) (G:s.b[i]?=some M) (hk:qW (s.ev u) λus=>us.length=n/\F+n<=M.length/\K (PS.put ⟨s.t,s.b.set i (XI M (yC u (s.ev u) us) F)⟩ o.dst (.v undef))):Kz P o B a w K:=by
 have hr:=h.rd (o:=o).op hx (by simp[ho,Op.operands]);have C:=h.rd (o:=o).op V (by simp[ho,Op.operands]);rw[hb]at hr;obtain⟨hi,e1⟩:=hr.inv_bx;obtain⟨us,⟨h1,h2,h3⟩,N⟩:=xY hk C;obtain⟨hW,Y,e',S,hz,ac⟩:=h.boxes i M G;obtain⟨it,dt,k1,k2,k3,k4⟩:=vT hs;have E:(a.eval y).cells.toList.length=us.length:=dJ N.1
 have J:∀v∈(a.eval y).cells.toList,v.oneCell'=true:=λv S=>by obtain⟨j,O⟩:=wI S;have T:j<us.length:=(by rw[<-E];exact(Zw.1 O).1);have:=(N.2 j _ (Zv T)).2;rw[wu,<-uU,O]at this;exact this
 have L:(execOp a.eval o).run P w=.ok .skip (w.setRow (g.ρ i) (Y.toList.take F++(a.eval y).cells.toList++Y.toList.drop (F+(a.eval y).cells.toList.length)).toArray):=by have:=run_storeCells_at P (g.ρ i) F e' (a.eval y).cells.toList 0 Y w S (by rw[E];omega) J;simp only[ud]at this;have U:¬((a.eval y).cells.size≠it.size):=(by rw[N.1,k4];omega);simp only[execOp,ho,e1,Instr.storeAt,Instr.sureAddr,tE,tH,tx,storeVar,zE k1,Vq U,this]
 have I:(yC u (s.ev u) us).length=us.length:=by
  unfold yC;split
  .rename_i j es ow e;rw[e]at hk;simp only[qW]at hk;rw[h1,<-hk.1]
  .simp
 intro next Q hn
 show o.upon P a next Q ((execOp a.eval o).run P w)
 rw[L];have:=h.store (us:=yC u (s.ev u) us) (o':=F) G S (by rw[I];exact E) (by rw[I];omega) (λj p A=>?_) o.dst
 .rw[<-zN hd]at this;exact hn _ _ _ _ h3 this
 .have H:∀j,(a.eval y).cells.toList.getD j undef=(a.eval y).cells.getD j undef:=λj=>b6;rw[H];unfold yC at A;split at A
  .rename_i j0 es ow e;have O:j=0:=(by have:=(Zw.1 A).1;simpa using this);subst O;simp at A;subst A;obtain⟨ad,ab,sz,b,ae,f,Z,_⟩:=(show Rel g.D g.ρ s.b.length w (a.eval y) (.sl es ow) from e▸C).inv_sl;have ec:(a.eval y).cells.getD 0 undef=a.eval y:=(by rw[Z];rfl);rw[ec];refine⟨e▸C,by rw[Z];rfl,.inr ?_⟩;have X:y=.tmp j0:=by cases y<;>first|(cases V;rfl)|cases V
   subst X;refine .inl ⟨j0,rfl,?_⟩;exact e.symm
  .simp only[wk,ZZ]at A;obtain⟨q,hq,rfl⟩:=A;have:=N.2 j q hq;exact⟨this.1.sh,this.2,.inl q.sh_own⟩
def R.fresh{x:Nat->Value}{E:World}(h:R B g s x w)(hb:Below w.heap.size w E){g':Nat}{u H n0:Nat}{G:Array Value}{e:TypeId}{C:List Value}{es:List (List PV)}(S:w.heap.size<=g')(K:E.heap[g']?=some (.cells G e (0,0)))(N:RowD g.D w H C es)
 (ht:∀j,j<C.length->G[j]?=some (C.getD j undef)) (Q:es.length<=u) (Z:u<=maxLen) (h3:G.size=u*H) (F:es≠[]) (d:Option Nat) :
 ∃X,R B X (s.put d (.sl es (.r n0 H))) (QO x d (.slice (some ⟨g',0,none⟩) es.length u)) E:=by
 have M:g'<E.heap.size:=(XV.1 K).1;have Y:=h.grow (w':=E) hb (λb o=>g.D b o\/(b=g'/\o<C.length)) (λb o y=>.inl y) (λb o y=>by rcases y with y|⟨rfl,_⟩;exact .inl y;exact .inr S) (λb o y=>by
  rcases y with y|⟨rfl,_⟩
  .exact Vm (h.dlt b o y) hb.size
  .exact M)
 have O:RowD (λb o=>g.D b o\/(b=g'/\o<C.length)) E H C es:=N.mono (λ_ _ h=>.inl h) λb o x _ T=>qa hb (qF T) T;refine⟨_,Y.put d (.dat (jr O K ht Q Z (λh=>by cases h) λj L=>.inr ⟨rfl,L⟩)) λ_=>⟨.inr ⟨g',u,G,e,rfl,.inl (V1 h.fr.size S),K,h3,λV J=>?_,λo ho y=>?_⟩,λv q b A P k3 k4=>?_,λb i A P=>?_⟩⟩
 .obtain⟨j,L⟩:=wI J;exact N.2.1 j V L
 .rcases y with y|⟨_,y⟩
  .have:=h.dlt _ _ y;omega
  .rw[N.1]at y;omega
 .exfalso;have hs:zQ g s x w v q:=by
   rcases A with A|⟨i,j,I,U,q2,q3⟩
   .exact .inl A
   .exact .inr ⟨i,j,I,U,q2,by rw[<-q3];exact(hb.cell (p:=⟨g.ρ i,j,none⟩) (h.ρlt (Zw.1 U).1)).symm⟩
  have:=(zX (h.owns v q hs) P k3).1;cases u with
  |zero=>exact F (wH (tb.1 Q))
  |succ u=>simp[zc]at k4;omega
 .have:=h.ρlt P;cases u with
  |zero=>cases A
  |succ u=>simp[zc]at A;show g.ρ i≠b;omega
def qk(w:World)(o:Obj):Below w.heap.size w (w.drew.alloc o):=(show Below w.heap.size w w.drew from ⟨rfl,rfl,rfl,Zp _,λ_ _=>rfl⟩).alloc (Zp _) _
def zjP{x y:Operand}{x' y':PO}{t e:TypeId}{i:TypeInfo}{z:Value}{K:PS->Prop}{n0:Nat}{G A:List (List PV)}{k:Ow}(hd:∀t,o.dst=some t->t<a.tmps.size)(h:R B g s (zB a) w)(L:ApOp P o x y t e i z)(hx:po x=some x')(hy:po y=some y')
 (ex:s.ev x'=.sl G .z) (ey:s.ev y'=.sl A k) (h1:∀e∈G,e.length=i.size) (h2:∀e∈A,e.length=i.size) (ab:(G.length+A.length)*i.bytes<=140737488355328) (af:A=[]->G=[])
 (hk:K (s.put o.dst (.sl (G++A) (.r n0 i.size)))):Kz P o B a w K:=by
 obtain⟨c,ho,hc,N,_⟩:=L.ho;have C:=h.rd (o:=o).op hx (by rw[ho];simp[Op.operands,Call.operands,hc,N]);have F:=h.rd (o:=o).op hy (by rw[ho];simp[Op.operands,Call.operands,hc,N]);rw[ex]at C;rw[ey]at F;intro next Q hn
 show o.upon P a next Q ((execOp a.eval o).run P w)
 rcases zjv L C F h1 h2 ab with⟨he,T⟩|⟨I,cs,vs,T,U,k2,k3,V,k5⟩
 .have ae:=af he;subst he;subst ae;rw[T];obtain⟨E,H,sz,b,ag,f,Z,c1,c2,c3,_⟩:=C.inv_sl;have O:=c2 rfl;have hz:a.eval x=.slice E 0 0:=(by rw[Z,O];rfl);have:=h.put (u:=a.eval x) (p:=.sl ([]++[]) (.r n0 i.size)) o.dst (.dat ?_) λ_=>⟨.inl ⟨E,hz,rfl⟩,λv q b _ _ _ V=>?_,λb i U _=>?_⟩
  .rw[<-zN hd]at this;exact hn _ _ _ _ hk this
  .rw[hz];exact .sl E 0 1 [] _ 0 0 (λ_=>undef) (Zp _) (λh=>by cases h) (X4 _) (λh=>absurd rfl h) (λi e h=>by simp at h) (λj h=>absurd h b6) (λi e j p h=>by simp at h)
  .rw[hz]at V;cases E<;>cases V
  .rw[hz]at U;cases E<;>cases U
 .rw[T];have S:G++A≠[]:=by intro e;have:=uR.1 e;obtain⟨rfl,rfl⟩:=this;obtain⟨E,H,sz,b,ag,f,Z,c1,c2,c3,_⟩:=F.inv_sl;obtain⟨X,I,ak,b',ah,f',J,ai,Y,aj,_⟩:=C.inv_sl;have ac:=Y rfl;rw[ac]at J;have:=L.run J Z (vl (ty:=o.type) (w:=w) L.ht L.hi X E 0 0 H (Zp _));have e0:=T.symm.trans this;injection e0 with e1 e2;have:=W8 (λw:World=>w.heap.size) e2;simp at this
  obtain⟨g2,M⟩:=h.fresh (n0:=n0) (qk w (.cells cs e)) (Zp _) (tn w.drew (.cells cs e)) V k5 U k2 k3 S o.dst;rw[<-zN hd,wj]at M;exact hn _ _ _ _ hk M
def vm{t ty e I:TypeId}{i:TypeInfo}(ht:P.underlying t=some (.slice e))(hi:P.info? e=some i){F y B:Nat}{A:Array Value}(L:w.heap[F]?=some (.cells A I (0,0)))
 {b:Addr} {m c:Nat} {o:List Value} (M:o.length=m*i.size) (C:∀j u,o[j]?=some u->w.cell? (b.add j)=some u) (J:∀u∈o,u.oneCell'=true) (E:y+m<=B) (G:y*i.size+o.length<=A.size) :
 (Builtin.append_ #[t,t] ty #[.slice (some ⟨F,0,none⟩) y B,.slice (some b) m c]).run P w =
   .ok (.slice (some ⟨F,0,none⟩) (y+m) B) (w.setRow F (A.toList.take (y*i.size)++o++A.toList.drop (y*i.size+o.length)).toArray):=by
 have K:=TL (P:=P) w i.size m b m c o M C;have H:=run_storeCells_at P F (y*i.size) I o 0 A w L (dJ G) J;simp only[ud]at H;simp[Builtin.append_,tG ht,zE hi,Builtin.lenOf,E,K,zh,H]
def zgN{x y:Operand}{j0:Nat}{y':PO}{t e:TypeId}{i:TypeInfo}{z:Value}{K:PS->Prop}{Z:Nat}{E F:List (List PV)}{k:Ow}(hd:∀t,o.dst=some t->t<a.tmps.size)(h:R B g s (zB a) w)(J:ApOp P o x y t e i z)(hx:po x=some (.t j0))(hy:po y=some y')
 (ex:s.get j0=.sl E (.r Z i.size)) (ey:s.ev y'=.sl F k) (h2:∀e∈F,e.length=i.size) (av:(E.length+F.length)*i.bytes<=140737488355328)
 (hk:K ((s.down Z).put o.dst (.sl (E++F) (.r Z i.size)))):Kz P o B a w K:=by
 obtain⟨c,ho,hc,aJ,_⟩:=J.ho;have aN:x=.tmp j0:=by cases x<;>first|(cases hx;rfl)|cases hx
 have aj:a.eval x=zB a j0:=by rw[aN];rfl
 have ag:=h.slots j0;have T:=h.slot j0;have af:=h.owns _ _ T;have aK:=λu q b hu ho hb aq=>h.disj u q _ _ b hu T ho (by rw[ex];simp[PV.own]) hb aq;have ac:=λb i hb hi=>h.ownbox _ _ b i T (by rw[ex];simp[PV.own]) hb hi;rw[ex]at ag af;have aC:=h.rd (o:=o).op hy (by rw[ho];simp[Op.operands,Call.operands,hc,aJ]);rw[ey]at aC;obtain⟨ah,aL⟩:=h.down Z;have Y:(s.down Z).b.length=s.b.length:=by simp[PS.down]
 obtain⟨aF,V,U,e2,d1,d2,_,r2,g2⟩:=sl_row aC h2
 -- another owner's slice lies elsewhere
 have L:∀u q b,zQ g (s.down Z) (zB a) w u q->q.own≠none->zc u=some b->zc (zB a j0)=some b->False:=λu q b hu hq hb aq=>by obtain⟨q1,q2⟩:=aL u q hu hq;have:=aK u q b q1 hq hb aq;rw[ex]at this;exact q2 this
 intro next Q hn
 show o.upon P a next Q ((execOp a.eval o).run P w)
 by_cases ai:F=[]
 .subst ai;obtain⟨ad,C,sz,b,aS,f,e3,c1,_⟩:=ag.inv_sl;have hr:=J.run (aj.trans e3) e2 (vl (ty:=o.type) (w:=w) J.ht J.hi ad aF E.length C V c1);rw[hr];have:=ah.put (u:=zB a j0) (p:=.sl (E++[]) (.r Z i.size)) o.dst (by rw[wY,Y];exact ag) λ_=>⟨by rw[wY];exact af,λv q b N O k3 k4=>(L v q b N O k3 k4).elim,λb i N O=>ac b i N (by rw[Y]at O;exact O)⟩;rw[<-zN hd,e3]at this;exact hn _ _ _ _ hk this
 .obtain⟨b',aE,rfl,g3⟩:=g2 ai;have aP:0<F.length:=wV.2 ai;have aA:E++F≠[]:=λe=>ai (uR.1 e).2;have ae:∀j v,U[j]?=some v->w.cell? ((⟨b',aE,none⟩:Addr).add j)=some v:=λj v hv=>(by rw[zh];exact(g3 j v hv).2);rcases af with⟨ad,hz,rfl⟩|⟨I,C,H,e',hu,hW,hh,aw,ax,az⟩
  .obtain⟨cp,cs,hr,N,O,k3,k4⟩:=yJ (P:=P) (w:=w) (ty:=o.type) (ad:=ad) (cap:=0) (c:=V) (n:=0) (olds:=[]) J.ht J.hi J.hz J.hzs J.hb b6 r2.1 (λhn=>absurd rfl hn) (λ_=>rfl) ae a8 (dJ av);rw[J.run (aj.trans hz) e2 hr];obtain⟨g4,ab⟩:=ah.fresh (n0:=Z) (qk w (.cells cs e)) (Zp _) (tn w.drew (.cells cs e)) (es:=[]++F) (dJ r2) (dJ k4) (dJ N) O k3 aA o.dst;rw[<-zN hd]at ab;refine hn _ _ _ _ hk (dJ ab)
  .have aB:∀{D' w'},(∀b o,g.D b o->D' b o)->(∀b o x,g.D b o->w.cell? ⟨b,o,none⟩=some x->w'.cell? ⟨b,o,none⟩=some x)->∃vs,RowD D' w' i.size vs E/\∀j v,vs[j]?=some v->H[j]?=some v:=λ{D' w'} M hw=>(by obtain⟨aR,aO,vs,X,_,_,_,f2,f3⟩:=sl_row ag ax;refine⟨vs,f2.mono M hw,λj v hv=>?_⟩;have ar:E≠[]:=(by intro e;subst e;have:=f2.1;have:=(Zw.1 hv).1;simp_all);obtain⟨b2,aQ,e4,f4⟩:=f3 ar;rw[hu]at X;injection X with X;rw[e4]at X;injection X with X;injection X with f5 f6;subst f5;subst f6;have:=(f4 j v hv).2;simp only[World.cell?,hh]at this;simpa using this);have aI:E.length<=C/\C<=maxLen:=(by have:=QH (show Rel g.D g.ρ s.b.length w (.slice (some ⟨I,0,none⟩) E.length C) (.sl E (.r Z i.size)) from hu▸ag);exact⟨this.1,this.2.2⟩);by_cases S:E.length+F.length<=C
   .have ay:E.length*i.size+U.length<=H.size:=(by rw[r2.1,aw,<-WY];exact Wq _ S);have hr:=vm (P:=P) (w:=w) (ty:=o.type) (c:=V) J.ht J.hi hh r2.1 ae (Xv r2) S ay;rw[J.run (aj.trans hu) e2 hr];obtain⟨new,au⟩:=xt ((H.toList.take (E.length*i.size)++U++H.toList.drop (E.length*i.size+U.length)).toArray);rw[au];have ht:(H.toList.take (E.length*i.size)).length=E.length*i.size:=a9;have an:∀k,k<E.length*i.size+U.length->new[k]?=if k<E.length*i.size then H[k]? else U[k-E.length*i.size]?:=λk hk=>by
     rw[<-au];simp only[wF];by_cases h1:k<E.length*i.size
     .rw[vD h1,wQ,wh a8,wt,vD h1];simp
     .rw[Vq h1,wQ,V2 a8,ht,wh a8]
    have G:∀b,C≠0->(zc (zB a j0)=some b↔I=b):=λb aH=>by
     rw[hu];cases C with
     |zero=>exact absurd rfl aH
     |succ C=>simp[zc]
    have A:C≠0:=a8;have aM:I<w.heap.size:=(XV.1 hh).1;have ao:∀b o y,g.D b o->w.cell? ⟨b,o,none⟩=some y->(w.setRow I new).cell? ⟨b,o,none⟩=some y:=λb o y M hy=>by
     rw[xH I H new e' hh];split
     .rename_i e;subst e;have ho:o<E.length*i.size:=by
       rcases wJ o (E.length*i.size)with h'|h'
       .exact h'
       .exact absurd M (az o h')
      rw[an o a8,vD ho];simp only[World.cell?,hh]at hy;simpa using hy
     .exact hy
    have hF:=ah.frame (w':=w.setRow I new) (λb o=>g.D b o\/(b=I/\o<(E.length+F.length)*i.size)) ao (λk hk=>Tl w _ _ new (ac I k ((G _ A).2 rfl) (by rw[Y]at hk;exact hk))) (λu p b N O k3=>Tl w _ _ new λe=>L u p b N O k3 ((G b A).2 e.symm))
     (λb o M=>.inl M) (λb o M=>by
       rcases M with M|⟨rfl,_⟩
       .exact .inl M
       .exact .inr ⟨hW,λk hk=>ac b k ((G b A).2 rfl) (by rw[Y]at hk;exact hk),λu p N O k3=>L u p b N O k3 ((G b A).2 rfl)⟩) (λb o M=>by
       rcases M with M|⟨rfl,_⟩
       .simpa using h.dlt b o M
       .simpa using aM) rfl rfl rfl b6 (λk hk hn=>Tl w _ _ new λe=>by
       subst e;rcases hW with hW|hW
       .omega
       .exact hn hW)
    obtain⟨vs,X,f2⟩:=aB (D':=λb o=>g.D b o\/(b=I/\o<(E.length+F.length)*i.size)) (w':=w.setRow I new) (λ_ _ h=>.inl h) ao;have r3:=X.append (r2.mono (D':=λb o=>g.D b o\/(b=I/\o<(E.length+F.length)*i.size)) (w':=w.setRow I new) (λ_ _ h=>.inl h) ao);have aD:vs.length=E.length*i.size:=X.1;have am:=jr (k:=.r Z i.size) (cap:=C) r3 (TJ w I H new e' (0,0) hh) (λj hj=>by
     rw[wj]at hj;rw[an j a8,vw];by_cases h1:j<E.length*i.size
     .rw[vD h1,wh a8];have ak:j<vs.length:=a8;rw[f2 j _ (Zv ak),Zv ak];rfl
     .rw[Vq h1,V2 a8,aD];have ak:j-E.length*i.size<U.length:=a8;rw[Zv ak];rfl) (dJ S) aI.2 (λh=>by cases h) (λj hj=>.inr ⟨rfl,by rw[wj,aD,r2.1,<-WY]at hj;exact hj⟩)
    rw[wj]at am;have:=hF.put o.dst (.dat am) λ_=>⟨.inr ⟨I,C,new,e',b6,hW,TJ w I H new e' (0,0) hh,by rw[<-aw,<-au];simp;omega,λe he=>?_,λo ho M=>?_⟩,λv q b N O k3 k4=>?_,λb k N O=>?_⟩
    .rw[<-zN hd]at this;exact hn _ _ _ _ hk this
    .rcases wC.1 he with he|he
     .exact ax e he
     .exact h2 e he
    .rw[wj]at ho;rcases M with M|⟨_,M⟩
     .exact az o (V1 (Wq _ a8) ho) M
     .omega
    .exfalso;have k5:zQ g (s.down Z) (zB a) w v q:=by
      rcases N with N|⟨i2,j,aG,q1,q2,q3⟩
      .exact .inl N
      .refine .inr ⟨i2,j,aG,q1,q2,?_⟩;rw[xH I H new e' hh,Vq]at q3
       .exact q3
       .exact ac I i2 ((G _ A).2 rfl) (by have:=(Zw.1 q1).1;rw[Y]at this;exact this)
     have:b=I:=by
      cases C with
      |zero=>exact absurd rfl A
      |succ C=>simp[zc]at k4;exact k4.symm
     subst this;exact L v q b k5 O k3 ((G b A).2 rfl)
    .have:b=I:=by
      cases C with
      |zero=>exact absurd rfl A
      |succ C=>simp[zc]at N;exact N.symm
     subst this;exact ac b k ((G b A).2 rfl) (by rw[Y]at O;exact O)
   .obtain⟨vs,X,f2⟩:=aB (D':=g.D) (w':=w) (λ_ _ h=>h) (λ_ _ _ _ h=>h);obtain⟨cp,cs,hr,N,O,k3,k4⟩:=yJ (P:=P) (w:=w) (ty:=o.type) (ad:=some ⟨I,0,none⟩) (cap:=C) (c:=V) (n:=E.length) (olds:=vs) J.ht J.hi J.hz J.hzs J.hb X.1 r2.1 (λ_=>⟨_,rfl,λj v hv=>by
     rw[zh];simp only[World.cell?,hh,wn];simpa using f2 j v hv⟩) (λh=>by cases h) ae a8 av
    rw[J.run (aj.trans hu) e2 hr];obtain⟨g4,ab⟩:=ah.fresh (n0:=Z) (qk w (.cells cs e)) (Zp _) (tn w.drew (.cells cs e)) (X.append r2) k4 (dJ N) O k3 aA o.dst;rw[<-zN hd,wj]at ab;exact hn _ _ _ _ hk ab
def zmo{f:FuncId}{O:List PO}{r:PV}{c:Call}{K:PS->Prop}(hd:∀t,o.dst=some t->t<a.tmps.size)(h:R B g s (zB a) w)(ho:o.op=.call c)(E:c.callee=.value (.func f))(L:Qu c.args.toList=some O)
 (T:Cn P f (O.map λx=>(s.ev x).sh) r) (y:zY (O.map λx=>(s.ev x).sh)=true) (hk:K (s.put o.dst r)):Kz P o B a w K:=by
 obtain⟨Z,h2⟩:=kf (h.rd (o:=o)) L (λx hx=>by rw[ho];simp only[Op.operands,Call.operands,E,WT,wC];exact .inr hx) y;intro next Q J
 refine KG (D:=g.D) h.gl T (by simp[Z]) (λi p L=>?_) (Jk ho E rfl T.1) next Q λu w' V hb M k2 k3 k4 N=>?_
 .have:=h2 i p L;simpa using this
 .have Y:=h.grow hb V (λb o y=>M b o ⟨y,h.dlt b o y⟩) (λb o y=>by rcases k2 b o y with k|k;exact .inl k.1;exact .inr k) k3;have:=Y.put (u:=u) (p:=r) o.dst (.dat k4) λU=>⟨?_,λv q b A C S q4=>?_,λb i A C=>?_⟩
  .rw[<-zN hd]at this;exact J _ _ _ _ hk this
  .cases r<;>try trivial
   rename_i es ow;cases ow<;>try trivial
   rcases N with J|⟨X,F,H,e,rfl,hW,hh,E,he,I⟩
   .exact .inl J
   .exact .inr ⟨X,F,H,e,rfl,.inl (V1 h.fr.size hW),hh,E,he,I⟩
  .exfalso;have hs:zQ g s (zB a) w v q:=by
    rcases A with M|⟨i,j,G,A,C,S⟩
    .exact .inl M
    .exact .inr ⟨i,j,G,A,C,by rw[<-S];exact(hb.cell (p:=⟨g.ρ i,j,none⟩) (h.ρlt (Zw.1 A).1)).symm⟩
   have e1:=(zX (h.owns v q hs) C S).1;have e2:=(zX N U q4).2;omega
  .have e1:=h.ρlt C;have e2:=(zX N U A).2;show g.ρ i≠b;omega
def zjR{f:FuncId}{i:Nat}{xs:List PO}{es rs:List (List PV)}{n X:Nat}{c:Call}{K:PS->Prop}(hd:∀t,o.dst=some t->t<a.tmps.size)(h:R B g s (zB a) w)(ho:o.op=.call c)(hc:c.callee=.value (.func f))(V:Qu c.args.toList=some (.t i::xs))(hi:s.get i=.sl es (.r n X))
 (hC:OCn P f es X (xs.map λx=>(s.ev x).sh) rs) (hD:zY (xs.map λx=>(s.ev x).sh)=true) (hk:K ((s.down n).put o.dst (.sl rs (.r n X)))):Kz P o B a w K:=by
 cases hargs:c.args.toList with
 |nil=>rw[hargs]at V;cases V
 | cons x1 xl=>
   rw[hargs]at V;simp only[Qu,Z3,ZZ]at V;obtain⟨y1,ac,yl,ai,e⟩:=V;injection e with e1 e2;subst e1;subst e2;have ah:x1=.tmp i:=by cases x1<;>first|(cases ac;rfl)|cases ac
   have ag:a.eval x1=zB a i:=(by rw[ah];rfl);obtain⟨h1,h2⟩:=kf (h.rd (o:=o)) ai (λx hx=>by rw[ho];simp only[Op.operands,Call.operands,hc,WT,wC];exact .inr (by rw[hargs];simp[hx])) hD;have ab:=h.slots i;have E:=h.slot i;have H:=h.owns _ _ E;have ae:=λu q b hu ho hb S=>h.disj u q _ _ b hu E ho (by rw[hi];simp[PV.own]) hb S;have I:=λb j hb G=>h.ownbox _ _ b j E (by rw[hi];simp[PV.own]) hb G;rw[hi]at ab H;obtain⟨A,af⟩:=h.down n;have J:(s.down n).b.length=s.b.length:=(by simp[PS.down]);have F:∀u q b,zQ g (s.down n) (zB a) w u q->q.own≠none->zc u=some b->zc (zB a i)=some b->False:=λu q b hu hq hb S=>(by obtain⟨C,y⟩:=af u q hu hq;have:=ae u q b C hq hb S;rw[hi]at this;exact y this);have O:∀b,zc (zB a i)=some b->B.W b:=λb hb=>(zX H (by simp[PV.own]) hb).2;have Z:Dat g.D w (zB a i) (.sl es .sh):=by
    rcases ab with(hr|⟨_,_,hh,_⟩)|⟨_,_,_,_,_,hh,_⟩
    .exact hr.sh
    .cases hh
    .cases hh
   have U:yW g.D (λ_=>True) w (zB a i) (.sl es (.r 0 X)):=by
    rcases H with T|⟨gg,M,N,e,C,y,L⟩
    .exact .inl T
    .exact .inr ⟨gg,M,N,e,C,trivial,L⟩
   intro next Q T
   show o.upon P a next Q ((execOp a.eval o).run P w)
   rw[Jk ho hc hargs hC.1,t8];have Y:((x1::xl).map a.eval).toArray=#[zB a i]++(xl.map a.eval).toArray:=(by simp[ag]);rw[Y];refine(hC.2 g.D w (zB a i) (xl.map a.eval).toArray h.gl h.dlt (by simp[h1]) (λj p V=>by have:=h2 j p V;simpa using this) Z U).mono ?_;rintro e w' ⟨u,D',rfl,⟨o1,o2,o3,o4⟩,k1,k2,k3,k4,k5,k6,k7⟩;show next (a.put o.dst u) w'
   have hF:=A.frame (w':=w') D' k2 (λj G=>k1 _ (A.ρlt G) λe=>I _ j e (by rw[J]at G;exact G) rfl) (λu p b C y L=>k1 b (zX (A.owns u p C) y L).1 λe=>F u p b C y L e) k3
    (λb o hD=>by
      rcases k4 b o hD with q|q|q
      .exact .inl q
      .refine .inr ⟨.inl (V1 h.fr.size q),λj G e=>?_,λu p C y e=>?_⟩
       .have:=A.ρlt G;omega
       .have:=(zX (A.owns u p C) y e).1;omega
      .exact .inr ⟨O b q,λj G=>I b j q (by rw[J]at G;exact G),λu p C y e=>F u p b C y e q⟩) k5 o1 o2 o3 o4
    (λk hk T=>k1 k (Vm hk h.fr.size) λe=>by
      rcases O k e with q|q
      .omega
      .exact T q)
   have ak:Rel D' g.ρ (s.down n).b.length w' u (.sl rs (.r n X)):=(by exact .dat (k6.owned n X));have:=hF.put (u:=u) (p:=.sl rs (.r n X)) o.dst ak λ_=>⟨?_,λv q b C y L q4=>?_,λb j C y=>?_⟩
   .rw[<-zN hd]at this;exact T _ _ _ _ hk this
   .rcases k7 with T|⟨gg,M,N,e,C,y,L⟩
    .exact .inl T
    .refine .inr ⟨gg,M,N,e,C,?_,L⟩;rcases y with y|y
     .exact .inl (V1 h.fr.size y)
     .exact O _ y
   .exfalso;have hs:zQ g (s.down n) (zB a) w v q:=by
     rcases C with aj|⟨i2,j,ad,r1,r2,r3⟩
     .exact .inl aj
     .refine .inr ⟨i2,j,ad,r1,r2,?_⟩;have G:=(Zw.1 r1).1;rw[<-r3];exact(tl (a:=⟨g.ρ i2,j,none⟩) (k1 _ (A.ρlt G) λe=>I _ i2 e (by rw[J]at G;exact G) rfl)).symm
    have e1:=(zX (A.owns v q hs) y L).1;have e2:=(zX k7 (by simp[PV.own]) q4).2;rcases e2 with e2|e2
    .omega
    .exact F v q b hs y L e2
   .have e1:=A.ρlt y;have e2:=(zX k7 (by simp[PV.own]) C).2;rcases e2 with e2|e2
    .show g.ρ j≠b;omega
    .exact I b j e2 (by rw[J]at y;exact y)
def zmn{t e:TypeId}{n n0:Nat}{parts:Array (Nat×Operand)}{C:TypeInfo}{zs:List PV}{S:List PO}{K:PS->Prop}(M:∀t,o.dst=some t->t<a.tmps.size)(h:R B g s (zB a) w)(ho:o.op=.buildSlice t n parts)(U:P.underlying t=some (.slice e))(V:P.info? e=some C)(hz:xg P e=some zs)
 (Z:Qu (parts.toList.map (·.2))=some S) (hi:parts.toList.map (·.1)=List.range n) (Y:n*C.size<=16777216) (H:n<=maxLen) (hk:yP s C.size S λJ=>K (s.put o.dst (.sl J (.r n0 C.size)))):Kz P o B a w K:=by
 obtain⟨J,y,I,A,hr,O,G⟩:=KF (h.rd (o:=o)) ho U V hz Z hi Y H hk;have hb:Below w.heap.size w (w.alloc (.cells y e)):=(tr _ _).alloc (Zp _) _;intro next Q N
 show o.upon P a next Q ((execOp a.eval o).run P w)
 rw[hr];by_cases F:J=[]
 .subst F;obtain rfl:0=n:=A;have T:=h.grow hb g.D (λ_ _ h=>h) (λ_ _ h=>.inl h) λb o X=>Vm (h.dlt b o X) hb.size;have:=T.put (u:=.slice (some ⟨w.heap.size,0,none⟩) 0 0) (p:=.sl [] (.r n0 C.size)) o.dst (.dat ?_) λ_=>⟨.inl ⟨_,rfl,rfl⟩,λv q b _ _ _ k4=>(by cases k4),λb i I _=>(by cases I)⟩
  .rw[<-zN M]at this;exact N _ _ _ _ I this
  .exact .sl _ 0 1 [] _ 0 0 (λ_=>undef) (Zp _) (λh=>by cases h) (X4 _) (λh=>absurd rfl h) (λi e h=>by simp at h) (λj h=>absurd h b6) (λi e j p h=>by simp at h)
 .have L:y.size=n*C.size:=(by have:=O.1;rw[A]at this;simpa using this);obtain⟨g2,E⟩:=h.fresh (n0:=n0) hb (Zp _) (tn w (.cells y e)) O G a8 H L F o.dst;rw[<-zN M,A]at E;exact N _ _ _ _ I E
def zcW{b:List (List PV)}{p:PV}(h:p.isB=false):p.fz1 b=p:=by cases p<;>first|rfl|cases h
def zcB{D:Qk}{w:World}{u:Value}{p:PV}(h:Dat D w u p):p.isB=false:=by cases h<;>rfl
def zhI{b:List (List PV)}{p:PV}:(p.fz b).own=p.own:=by cases p<;>rfl
def R.fz{x:Nat->Value}(h:R B g s x w)(hb:s.b.all zY=true):R B ⟨λb o=>g.D b o\/∃(i:Nat) (A:List PV),s.b[i]?=some A/\g.ρ i=b/\o<A.length,g.ρ⟩ s.fz x w:=by
 have box:∀(i:Nat) A,s.b[i]?=some A->∀o,Dat (λb o=>g.D b o\/∃(i:Nat) (A:List PV),s.b[i]?=some A/\g.ρ i=b/\o<A.length) w (.pointer (some ⟨g.ρ i,o,none⟩)) (.cp (A.map PV.sh) o):=by
  intro i A hi o;obtain⟨_,vs,e,U,hz,hr⟩:=h.boxes i A hi;have:=Dat.cp (D:=λb o=>g.D b o\/∃(i:Nat) (A:List PV),s.b[i]?=some A/\g.ρ i=b/\o<A.length) (w:=w) (g.ρ i) 0 (A.map PV.sh) o (λj=>vs.getD j undef) (λj hj=>by
   have Y:j<A.length:=(dJ hj);refine⟨.inr ⟨i,A,hi,rfl,a8⟩,?_,(hr j _ (Zv Y)).2⟩;have Z:j<vs.size:=a8;simp[World.cell?,U,Z]) (λj p O=>by
   rw[wk]at O;obtain⟨q,E,rfl⟩:=ZZ.1 O;have hd:q.isD=true:=by have C:=wK.1 hb A (wL hi);exact wK.1 C q (wL E)
   exact(((hr j q E).1.data hd).sh).mono (λ_ _ h=>.inl h) λ_ _ _ _ h=>h)
  simpa using this
 have I:∀{v:Value}{p:PV},Rel1 g.D g.ρ s.b.length w v p->Dat (λb o=>g.D b o\/∃(i:Nat) (A:List PV),s.b[i]?=some A/\g.ρ i=b/\o<A.length) w v (p.fz1 s.b):=by
  rintro v p (C|⟨i,o,rfl,hi,rfl⟩)
  .rw[zcW (zcB C)];exact C.mono (λ_ _ h=>.inl h) λ_ _ _ _ h=>h
  .show Dat _ w _ (.cp ((s.b[i]?.getD []).map PV.sh) o);rw[Zv hi];exact box i _ (Zv hi) o
 have L:∀(f:Fn)(J K:Array Value)(G A:List PV),J.size=G.length->K.size=A.length->(∀(i:Nat) q,G[i]?=some q->Rel1 g.D g.ρ s.b.length w (J.getD i undef) q)->(∀(i:Nat) q,A[i]?=some q->Rel1 g.D g.ρ s.b.length w (K.getD i undef) q) ->
  Dat (λb o=>g.D b o\/∃(i:Nat) (A:List PV),s.b[i]?=some A/\g.ρ i=b/\o<A.length) w (.func f J K) (.fn f (G.map (PV.fz1 s.b)) (A.map (PV.fz1 s.b))):=by
  intro f J K G A C N Q S;refine .fn f J K _ _ (dJ C) (dJ N) (λi q E=>?_) λi q E=>?_
  .rw[wk]at E;obtain⟨T,P,rfl⟩:=ZZ.1 E;exact I (Q i T P)
  .rw[wk]at E;obtain⟨T,P,rfl⟩:=ZZ.1 E;exact I (S i T P)
 have rel:∀{v:Value}{p:PV},Rel g.D g.ρ s.b.length w v p->Dat (λb o=>g.D b o\/∃(i:Nat) (A:List PV),s.b[i]?=some A/\g.ρ i=b/\o<A.length) w v (p.fz s.b):=by
  rintro v p (C|⟨f,J,K,G,A,rfl,rfl,C,N,Q,S⟩)
  .by_cases hf:∃f G A,p=.fn f G A
   .obtain⟨f,G,A,rfl⟩:=hf;rcases C with C|⟨i,o,C,_⟩
    .cases C with
     |fn f J K G A C N Q S=>exact L f J K G A C N (λi q E=>.inl (Q i q E)) λi q E=>.inl (S i q E)
    .cases C
   .have e:p.fz s.b=p.fz1 s.b:=by cases p<;>first|rfl|exact absurd ⟨_,_,_,rfl⟩ hf
    rw[e];exact I C
  .exact L f J K G A C N Q S
 have get:∀t,s.fz.get t=(s.get t).fz s.b:=λt=>by
  have ae:∀l:List (Nat×PV),yr (l.map λy=>(y.1,y.2.fz s.b)) t=(yr l t).fz s.b:=λl=>by
   induction l with
   |nil=>rfl
   | cons y l ih=>
     obtain⟨j,q⟩:=y;simp only[Wx,yr];split
     .rfl
     .exact ih
  exact ae s.t
 have sl:∀u q,zQ ⟨λb o=>g.D b o\/∃(i:Nat) (A:List PV),s.b[i]?=some A/\g.ρ i=b/\o<A.length,g.ρ⟩ s.fz x w u q->q.own≠none->∃p,zQ g s x w u p/\q=p/\p.own≠none:=by
  rintro u q (⟨t,rfl,rfl⟩|⟨i,j,A,C,_⟩) ho
  .rw[get]at ho⊢;rw[zhI]at ho;refine⟨s.get t,h.slot t,?_,ho⟩;cases e:s.get t<;>first|rfl|(rw[e]at ho;exact absurd rfl ho)
  .simp[PS.fz]at C
 refine⟨λt=>?_,λi A hi=>by simp[PS.fz]at hi,λi j hi=>by simp[PS.fz]at hi,λu q E=>?_,λu q u' T b C N o1 o2 b1 b2=>?_,λu q b i C o1 b1 hi=>by simp[PS.fz]at hi,λb o F=>?_,λi hi=>by simp[PS.fz]at hi,?_⟩
 .rw[get];exact .dat (rel (h.slots t))
 .by_cases ho:q.own=none
  .exact zr ho
  .obtain⟨p,O,rfl,H⟩:=sl u q E ho;have ac:=h.owns u q O;cases q<;>try exact absurd rfl H
   rename_i es ow;cases ow<;>try exact absurd rfl H
   rcases ac with hn|⟨gg,M,V,e,rfl,k2,k3,k4,k5,k6⟩
   .exact .inl hn
   .refine .inr ⟨gg,M,V,e,rfl,k2,k3,k4,k5,λo ab F=>?_⟩;rcases F with F|⟨i,A,hi,e1,_⟩
    .exact k6 o ab F
    .have X:=(Zw.1 hi).1;cases M with
     |zero=>obtain⟨_,vs,e2,U,hz,_⟩:=h.boxes i A hi;rw[e1,k3]at U;cases U;omega
     |succ M=>exact h.ownbox _ _ gg i O H rfl X e1
 .obtain⟨p,O,rfl,ho⟩:=sl u q C o1;obtain⟨p',ad,rfl,H⟩:=sl u' T N o2;exact h.disj _ _ _ _ b O ad ho H b1 b2
 .rcases F with F|⟨i,A,hi,rfl,_⟩
  .exact h.dlt b o F
  .exact h.ρlt (Zw.1 hi).1
 .refine⟨h.fr.os,h.fr.tape,h.fr.output,h.fr.size,h.fr.block,λb o F=>.inl (h.fr.d0 b o F),h.fr.cell,λb o F=>?_,h.fr.d0lt⟩;rcases F with F|⟨i,A,hi,rfl,_⟩
  .exact h.fr.new b o F
  .exact .inr (h.boxes i A hi).1
def ZO{k:PK}{K:PS->Prop}(S:XR P o=some k)(E:∀t,o.dst=some t->t<a.tmps.size)(h:R B g s (zB a) w)(hk:k.e P o.dst s K):Kz P o B a w K:=by
 have L:(k.q P s λp=>K (s.put o.dst p))->Kz P o B a w K:=λhk=>Z0 E h (y9 S h.rd hk);have hi:=vo S;cases k with
 | mv x=>
   cases x with
   |t i=>obtain⟨x,ho,G⟩:=hi;exact zmp E h ho G hk
   |c p=>exact L hk
   |f p=>exact L hk
 | ld x ag n=>
   cases ag with
   |true=>exact L hk
   | false=>
     by_cases N:n=1
     .subst N;obtain⟨t,y,ho,hs,G⟩:=hi;simp only[PK.e]at hk;split at hk
      .rename_i i o' hb;split at hk
       .rename_i Y hcs;split at hk
        .rename_i p O;exact zjQ E h ho hs G hb hcs O hk
        .exact hk.elim
       .exact hk.elim
      .exact L hk
     .refine L ?_;unfold PK.e at hk;split at hk<;>first|exact hk|simp_all
 | bs sz ps=>
   obtain⟨t,e,n,parts,ie,zs,ho,A,F,hz,O,ab,N,ae,rfl⟩:=hi;simp only[PK.e]at hk;split at hk
   .rename_i d hdst;rw[<-hdst]at hk;exact zmn (n0:=d) E h ho A F hz O ab N c8 hk
   .exact L hk
 | al zs=>
   obtain⟨e,ho,hz⟩:=hi;obtain⟨i,z,g1,g2,rfl,g4⟩:=qJ hz;have J:(execOp a.eval o).run P w=.ok (.value (.pointer (some ⟨w.heap.size,0,none⟩))) (w.alloc (.cells z.cells e)):=(by have ad:(zeroValue e).run P w=.ok z w:=(by simp[zeroValue,typeInfo,g1,g2]);simp[execOp,ho,Instr.alloc,ad,newVar,newRow]);have M:=yT (D:=g.D) (w:=w) g4;have ac:(z.cells.toList.map Q6).map PV.sh=z.cells.toList.map Q6:=by
    rw[Ud];apply UI;intro v _;show (Q6 v).sh=Q6 v;unfold Q6;split<;>rfl
   exact zgO E h (u:=z) (cs:=z.cells.toList.map Q6) ⟨M.1,λi p O=>⟨.dat (M.2 i p O).1,(M.2 i p O).2⟩⟩ J (by rw[ac];exact hk)
 |bo x=>obtain⟨e,y,ho,G⟩:=hi;obtain⟨Y,A,I⟩:=xY hk (h.rd (o:=o).op G (by simp[ho,Op.operands]));have J:(execOp a.eval o).run P w=.ok (.value (.pointer (some ⟨w.heap.size,0,none⟩))) (w.alloc (.cells (a.eval y).cells e)):=(by simp[execOp,ho,Instr.box,newVar,newRow]);exact zgO E h I J A
 | st x y n=>
   obtain⟨t,x1,x2,ag,ho,hs,G,X⟩:=hi;simp only[PK.e]at hk;split at hk
   .rename_i i o' hb;split at hk
    .rename_i Y hcs;exact zmq E h ho hs G X hb hcs hk
    .exact hk.elim
   .exact hk.elim
 | ap x y sz by_=>
   obtain⟨x1,x2,t,e,i,z0,hA,G,X,rfl,rfl⟩:=hi;simp only[PK.e]at hk;split at hk
   .rename_i es n sz' hb;obtain⟨rfl,hT,hk⟩:=hk;obtain⟨H,k,V,A,I,F⟩:=y8 hk;cases x with
    |t j=>exact zgN E h hA G X hb V A I F
    |c p=>cases hT
    |f p=>cases hT
   .rename_i es hb;have U:(PK.q P s (.ap x y i.size i.bytes) λp=>K (s.put o.dst p.strip))->Kz P o B a w K:=λhk=>by obtain⟨p,A,I,F⟩:=y9 S (h.rd (o:=o)) hk;refine Z0 E h ⟨p.strip,A,p.strip_own,λnext Q N=>F next Q λu w' hb hr _=>N u w' hb hr.strip λ_ _ _=>xA p.strip_isN⟩
    split at hk
    .rename_i d hdst;obtain⟨H,k,V,h0,A,I,F⟩:=y8 hk;rw[<-hdst]at F;by_cases hz:H=[]/\es≠[]
     .obtain⟨rfl,hz⟩:=hz;refine U ?_;simp only[PK.q,hb,V,QA];refine⟨h0,A,I,?_⟩;have:apO es [] d i.size=.sh:=by cases es<;>first|exact absurd rfl hz|rfl
      rw[this]at F;exact F
     .have T:H=[]->es=[]:=λe=>wT λh=>hz ⟨e,h⟩;have:apO es H d i.size=.r d i.size:=by cases es<;>cases H<;>first|rfl|(have:=T rfl;cases this)
      rw[this]at F;exact zjP (n0:=d) E h hA G X hb V h0 A I T F
    .rename_i hdst;exact U hk
   .exact hk.elim
 | ca f xs=>
   obtain⟨c,ho,A,I⟩:=hi;have C:(∃r,Cn P f (xs.map λx=>(s.ev x).sh) r/\zY (xs.map λx=>(s.ev x).sh)=true/\K (s.put o.dst r))->Kz P o B a w K:=λ⟨r,Z,hD,hk⟩=>zmo E h ho A I Z hD hk;simp only[PK.e]at hk;split at hk
   .rename_i i xs';split at hk
    .rename_i es n sz G;rcases hk with hk|⟨rs,Z,hD,hk⟩
     .exact C hk
     .exact zjR E h ho A I G Z hD hk
    .exact C hk
   .exact C hk
 |sc x lo hi' sz=>obtain⟨p,A,I,F⟩:=y9 S (h.rd (o:=o)) (show PK.q P s (.sc x lo hi' sz) λp=>K (s.put o.dst p.strip) from hk);exact Z0 E h ⟨p.strip,A,p.strip_own,λnext Q N=>F next Q λu w' hb hr _=>N u w' hb hr.strip λ_ _ _=>xA p.strip_isN⟩
 | mf f fs Y=>
   simp only[PK.e]at hk;split at hk
   .have h':=h.fz hk.1;exact Z0 E h' (y9 S h'.rd hk.2)
   .exact L hk
 |_=>exact L hk
end
end Go.Proofs.YtmpnbdhadjfbhaaGreatDoor
