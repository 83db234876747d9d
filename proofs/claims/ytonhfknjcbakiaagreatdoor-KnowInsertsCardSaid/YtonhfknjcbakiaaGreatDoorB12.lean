import Derived.Test.YtonhfknjcbakiaaGreatDoorB11
set_option maxHeartbeats 16000000
set_option linter.unusedVariables false
set_option linter.unusedSimpArgs false
namespace Go.Proofs.YtonhfknjcbakiaaGreatDoor
open Go.RowKit
variable {P:Program} {o:Oper} {D:Nat->Nat->Prop} {ρ:Nat->Nat} {nb:Nat} {s:PS} {a:Act} {w:World}
theorem KA {c:Call} {x y:Operand} {t w e:TypeId} {i:TypeInfo} {A:List PV} (ho:o.op=.call c) (G:c.callee=.builtin .append) (F:c.args.toList=[x,y]) (j:c.argTypes.toList=[t,w]) (ht:P.underlying t=some (.slice e)) (hi:P.info? e=some i) (a:t=w/\0<i.size/\0<i.bytes) (hz:xg P e=some A) (hl:A.length=i.size) :
 ∃ z,ApOp P o x y t e i z:=by
 obtain⟨H,z,u,B,rfl,_⟩:=qJ hz
 rw [hi] at u;cases u
 obtain⟨rfl,C,E⟩:=a
 exact⟨z,⟨c,ho,G,Array.toList_inj.1 F,Array.toList_inj.1 j⟩,ht,hi,B,by simpa using hl,C,E⟩
theorem y9 {k:PK} {K:PV->Prop} (j:XR P o=some k) (A:Rd D ρ s (zB a) (zA o) w) (hk:k.q P s K):QS P o D ρ s a w K:=by
 unfold XR at j
 split at j
 case h_1 x ho=>simp only [Option.map_eq_some_iff] at j;obtain⟨E,u,rfl⟩:=j;exact zlz A (.inl ho) u hk
 case h_2 x ho=>simp only [Option.map_eq_some_iff] at j;obtain⟨E,u,rfl⟩:=j;exact zlz A (.inr ho) u hk
 case h_3 c x y ho=>
  simp only [Option.bind_eq_some_iff,Option.map_eq_some_iff] at j
  obtain⟨c',B,E,C,H,G,rfl⟩:=j
  exact zny A ho B C G hk
 case h_4 e ho=>simp only [Option.map_eq_some_iff] at j;obtain⟨z,hz,rfl⟩:=j;exact hk.elim
 case h_5 e x ho=>simp only [Option.map_eq_some_iff] at j;obtain⟨z,hz,rfl⟩:=j;exact hk.elim
 case h_6 t parts ho=>
  simp only [Option.bind_eq_some_iff] at j
  obtain⟨V,hz,j⟩:=j
  split at j
  ·rename_i fs hu
   split at j
   ·rename_i hall
    simp only [Option.map_eq_some_iff] at j
    obtain⟨T,J,rfl⟩:=j
    rw [List.all_eq_true] at hall
    exact zlt A ho hu hz hall J hk
   ·cases j
  ·rename_i n e hu
   simp only [Option.bind_eq_some_iff,Option.map_eq_some_iff] at j
   obtain⟨i,hi,T,J,rfl⟩:=j
   exact zls A ho hu hi hz J hk
  ·cases j
 case h_7 t n parts ho=>
  split at j
  ·rename_i e hu
   simp only [Option.bind_eq_some_iff] at j
   obtain⟨i,hi,V,hz,T,J,j⟩:=j
   split at j
   ·rename_i hcond
    cases j
    exact znk A ho hu hi hz J hcond.1 hcond.2.1 (by unfold maxLen;omega) hk
   ·cases j
  ·cases j
 case h_8 t x ho=>
  simp only [Option.bind_eq_some_iff] at j
  obtain⟨⟨L,n⟩,hs,j⟩:=j
  simp only at j
  split at j
  ·simp only [Option.map_eq_some_iff] at j
   obtain⟨E,u,rfl⟩:=j
   exact znt A ho hs u hk
  ·cases j
 case h_9 t x y ho=>
  simp only [Option.bind_eq_some_iff,Option.map_eq_some_iff] at j
  obtain⟨⟨L,n⟩,hs,E,u,H,F,rfl⟩:=j
  exact hk.elim
 case h_10 x ho=>simp only [Option.map_eq_some_iff] at j;obtain⟨E,u,rfl⟩:=j;exact znx A ho u hk
 case h_11 op t x y t' ho=>
  simp only [Option.bind_eq_some_iff] at j
  obtain⟨E,u,H,F,j⟩:=j
  have I:∀ {b:Bool},((op == .eql || op == .neq) && b)=true->op=.eql\/op=.neq:=fun h=>by
   rw [Bool.and_eq_true] at h
   have:=h.1
   cases op<;>first | exact .inl rfl | exact .inr rfl | cases this
  split at j
  ·rename_i hcond
   cases j
   rw [Bool.and_assoc] at hcond
   have B:=I hcond
   simp only [Bool.and_eq_true] at hcond
   obtain⟨_,C,G⟩:=hcond
   unfold zc6 at G
   split at G
   ·rename_i S hu
    have:y=.const .nilIface:=by
     unfold JL at C
     split at C
     ·rfl
     ·cases C
    subst this
    exact zlB A ho B hu u hk
   ·cases G
  ·split at j
   ·rename_i hcond
    cases j
    have B:=I hcond
    rw [Bool.and_eq_true] at hcond
    exact zlx A ho B hcond.2 u F hk
   ·split at j
    ·rename_i hcond
     cases j
     have B:=I hcond
     rw [Bool.and_eq_true] at hcond
     have C:=hcond.2
     unfold zh0 at C
     split at C
     ·rename_i hu;exact zlu A ho B hu u F hk
     ·cases C
    ·split at j
     ·cases j
      exact zlv A ho u F hk
     ·split at j
      ·rename_i hcond
       cases j
       rw [Bool.and_eq_true] at hcond
       exact zpV A ho hcond.1 u F hk
      ·cases j
 case h_12 t x ho=>simp only [Option.map_eq_some_iff] at j;obtain⟨E,u,rfl⟩:=j;exact zlC A ho u hk
 case h_13 t t' x ho=>
  split at j
  ·rename_i k1 k2 B C
   simp only [Option.map_eq_some_iff] at j
   obtain⟨E,u,rfl⟩:=j
   exact znn A ho B C u hk
  ·cases j
 case h_14 t x ho=>
  split at j
  ·cases j
  ·rename_i d hu hne
   simp only [Option.map_eq_some_iff] at j
   obtain⟨E,u,rfl⟩:=j
   exact znw A ho hne (fun S e=>hu S e) u hk
  ·cases j
 case h_15 f fs cs ho=>
  simp only [Option.bind_eq_some_iff,Option.map_eq_some_iff] at j
  obtain⟨Z,B,X,C,rfl⟩:=j
  exact znv A ho B C hk
 case h_16 t x lo hi ho=>
  split at j
  ·rename_i e hu
   simp only [Option.bind_eq_some_iff,Option.map_eq_some_iff] at j
   obtain⟨i,O,E,u,ac,Q,ab,N,rfl⟩:=j
   exact znz A ho hu O u Q N hk
  ·cases j
 case h_17 t x f ho=>
  split at j
  ·rename_i fs hu
   simp only [Option.bind_eq_some_iff] at j
   obtain⟨Y,M,i,hi,j⟩:=j
   split at j
   ·cases j
   ·rename_i hne
    simp only [Option.map_eq_some_iff] at j
    obtain⟨E,u,rfl⟩:=j
    exact znp A ho hu M hi hne u hk
  ·cases j
 case h_18 t x f ho=>
  split at j
  ·rename_i fs hu
   simp only [Option.bind_eq_some_iff] at j
   obtain⟨Y,M,⟨L,n⟩,hs,j⟩:=j
   simp only at j
   split at j
   ·simp only [Option.map_eq_some_iff] at j
    obtain⟨E,u,rfl⟩:=j
    exact znq A ho hu M hs u hk
   ·cases j
  ·cases j
 case h_19 t x y ho=>
  split at j
  ·rename_i e hu
   simp only [Option.bind_eq_some_iff,Option.map_eq_some_iff] at j
   obtain⟨i,hi,E,u,H,F,rfl⟩:=j
   exact znr A ho hu hi u F hk
  ·rename_i n e hu
   simp only [Option.bind_eq_some_iff,Option.map_eq_some_iff] at j
   obtain⟨i,hi,E,u,H,F,rfl⟩:=j
   exact zni A ho hu hi u F hk
  ·cases j
 case h_20 t x y ho=>
  split at j
  ·rename_i n e hu
   simp only [Option.bind_eq_some_iff] at j
   obtain⟨⟨L,m⟩,hs,j⟩:=j
   simp only at j
   split at j
   ·simp only [Option.bind_eq_some_iff,Option.map_eq_some_iff] at j
    obtain⟨E,u,H,F,rfl⟩:=j
    exact zns A ho hu hs u F hk
   ·cases j
  ·cases j
 case h_21 x i ho=>simp only [Option.map_eq_some_iff] at j;obtain⟨E,u,rfl⟩:=j;exact zno A ho u hk
 case h_22 c ho=>
  split at j
  ·rename_i x t B C G
   split at j
   ·rename_i e hu
    simp only [Option.map_eq_some_iff] at j
    obtain⟨E,u,rfl⟩:=j
    exact znu A ho B (Array.toList_inj.1 C) (Array.toList_inj.1 G) hu u hk
   ·cases j
  ·rename_i x y t t' B C G
   split at j
   ·rename_i e hu
    simp only [Option.bind_eq_some_iff] at j
    obtain⟨i,hi,j⟩:=j
    split at j
    ·rename_i hcond
     simp only [Option.bind_eq_some_iff] at j
     obtain⟨V,hz,j⟩:=j
     split at j
     ·rename_i hl
      simp only [Option.bind_eq_some_iff,Option.map_eq_some_iff] at j
      obtain⟨E,u,H,F,rfl⟩:=j
      obtain⟨z,hA⟩:=KA ho B C G hu hi hcond hz hl
      exact znj A hA u F hk
     ·cases j
    ·cases j
   ·cases j
  ·rename_i x y B C
   simp only [Option.bind_eq_some_iff,Option.map_eq_some_iff] at j
   obtain⟨E,u,H,F,rfl⟩:=j
   exact zly (m:=true) A ho B (Array.toList_inj.1 C) u F hk
  ·rename_i x y B C
   simp only [Option.bind_eq_some_iff,Option.map_eq_some_iff] at j
   obtain⟨E,u,H,F,rfl⟩:=j
   exact zly (m:=false) A ho B (Array.toList_inj.1 C) u F hk
  ·rename_i f B
   simp only [Option.map_eq_some_iff] at j
   obtain⟨U,u,rfl⟩:=j
   exact znl A ho B rfl u hk
  ·rename_i t B
   simp only [Option.map_eq_some_iff] at j
   obtain⟨U,u,rfl⟩:=j
   exact znm A ho B rfl u hk
  ·rename_i t m B
   simp only [Option.map_eq_some_iff] at j
   obtain⟨U,u,rfl⟩:=j
   exact zpU A ho B rfl u hk
  ·cases j
 case h_23 t x ho=>simp only [Option.map_eq_some_iff] at j;obtain⟨E,u,rfl⟩:=j;exact zlA A ho u hk
 case h_24=>cases j
def zmd (P:Program) (o:Oper):PK->Prop
 | .mv y=>∃ x,(o.op=.move x\/o.op=.assign x)/\po x=some y
 | .ld y j n=>∃ t x,o.op=.load t x/\XH P t=some (j,n)/\po x=some y
 | .al w=>∃ e,o.op=.alloc e/\xg P e=some w
 | .bs sz ps=>∃ t e n parts u w,o.op=.buildSlice t n parts/\P.underlying t=some (.slice e)/\P.info? e=some u/\xg P e=some w/\Qu (parts.toList.map (·.2))=some ps/\parts.toList.map (·.1)=List.range n/\n * u.size<=16777216/\n<=16777216/\u.size=sz
 | .bo y=>∃ e x,o.op=.box e x/\po x=some y
 | .st y z n=>∃ t x a j,o.op=.store t x a/\XH P t=some (j,n)/\po x=some y/\po a=some z
 | .ap y z sz by_=>∃ x a t e i A,ApOp P o x a t e i A/\po x=some y/\po a=some z/\i.size=sz/\i.bytes=by_
 | .ca f xs=>∃ c,o.op=.call c/\c.callee=.value (.func f)/\Qu c.args.toList=some xs
 | _=>True
theorem vo {k:PK} (a:XR P o=some k):zmd P o k:=by
 unfold XR at a
 split at a
 case h_1 x ho=>simp only [Option.map_eq_some_iff] at a;obtain⟨u,j,rfl⟩:=a;exact⟨x,.inl ho,j⟩
 case h_2 x ho=>simp only [Option.map_eq_some_iff] at a;obtain⟨u,j,rfl⟩:=a;exact⟨x,.inr ho,j⟩
 case h_3 c x y ho=>
  simp only [Option.bind_eq_some_iff,Option.map_eq_some_iff] at a
  obtain⟨Y,A,u,w,C,E,rfl⟩:=a
  trivial
 case h_4 e ho=>simp only [Option.map_eq_some_iff] at a;obtain⟨z,hz,rfl⟩:=a;exact⟨e,ho,hz⟩
 case h_5 e x ho=>simp only [Option.map_eq_some_iff] at a;obtain⟨z,hz,rfl⟩:=a;exact⟨e,x,ho,hz⟩
 case h_6 t parts ho=>
  simp only [Option.bind_eq_some_iff] at a
  obtain⟨I,hz,a⟩:=a
  split at a
  ·rename_i fs hu
   split at a
   ·rename_i hall
    simp only [Option.map_eq_some_iff] at a
    obtain⟨J,H,rfl⟩:=a
    rw [List.all_eq_true] at hall
    trivial
   ·cases a
  ·rename_i n e hu
   simp only [Option.bind_eq_some_iff,Option.map_eq_some_iff] at a
   obtain⟨i,hi,J,H,rfl⟩:=a
   trivial
  ·cases a
 case h_7 t n parts ho=>
  split at a
  ·rename_i e hu
   simp only [Option.bind_eq_some_iff] at a
   obtain⟨i,hi,I,hz,J,H,a⟩:=a
   split at a
   ·rename_i hcond
    cases a
    exact⟨t,e,n,parts,i,I,ho,hu,hi,hz,H,hcond.1,hcond.2.1,hcond.2.2,rfl⟩
   ·cases a
  ·cases a
 case h_8 t x ho=>
  simp only [Option.bind_eq_some_iff] at a
  obtain⟨⟨G,n⟩,hs,a⟩:=a
  simp only at a
  split at a
  ·simp only [Option.map_eq_some_iff] at a
   obtain⟨u,j,rfl⟩:=a
   exact⟨t,x,ho,hs,j⟩
  ·cases a
 case h_9 t x y ho=>
  simp only [Option.bind_eq_some_iff,Option.map_eq_some_iff] at a
  obtain⟨⟨G,n⟩,hs,u,j,C,B,rfl⟩:=a
  exact⟨t,x,y,G,ho,hs,j,B⟩
 case h_10 x ho=>simp only [Option.map_eq_some_iff] at a;obtain⟨u,j,rfl⟩:=a;trivial
 case h_11 op t x y t' ho=>
  simp only [Option.bind_eq_some_iff] at a
  obtain⟨u,j,C,B,a⟩:=a
  have F:∀ {b:Bool},((op == .eql || op == .neq) && b)=true->op=.eql\/op=.neq:=fun h=>by
   rw [Bool.and_eq_true] at h
   have:=h.1
   cases op<;>first | exact .inl rfl | exact .inr rfl | cases this
  split at a
  ·rename_i hcond
   cases a
   rw [Bool.and_assoc] at hcond
   have A:=F hcond
   simp only [Bool.and_eq_true] at hcond
   obtain⟨_,w,E⟩:=hcond
   unfold zc6 at E
   split at E
   ·rename_i ms hu
    have:y=.const .nilIface:=by
     unfold JL at w
     split at w
     ·rfl
     ·cases w
    subst this
    trivial
   ·cases E
  ·split at a
   ·rename_i hcond
    cases a
    have A:=F hcond
    rw [Bool.and_eq_true] at hcond
    trivial
   ·split at a
    ·rename_i hcond
     cases a
     have A:=F hcond
     rw [Bool.and_eq_true] at hcond
     have w:=hcond.2
     unfold zh0 at w
     split at w
     ·rename_i hu;trivial
     ·cases w
    ·split at a
     ·cases a
      trivial
     ·split at a
      ·cases a
       trivial
      ·cases a
 case h_12 t x ho=>simp only [Option.map_eq_some_iff] at a;obtain⟨u,j,rfl⟩:=a;trivial
 case h_13 t t' x ho=>
  split at a
  ·rename_i k1 k2 A w
   simp only [Option.map_eq_some_iff] at a
   obtain⟨u,j,rfl⟩:=a
   trivial
  ·cases a
 case h_14 t x ho=>
  split at a
  ·cases a
  ·rename_i d hu hne
   simp only [Option.map_eq_some_iff] at a
   obtain⟨u,j,rfl⟩:=a
   trivial
  ·cases a
 case h_15 f fs cs ho=>
  simp only [Option.bind_eq_some_iff,Option.map_eq_some_iff] at a
  obtain⟨N,A,L,w,rfl⟩:=a
  trivial
 case h_16 t x lo hi ho=>
  split at a
  ·rename_i e hu
   simp only [Option.bind_eq_some_iff,Option.map_eq_some_iff] at a
   obtain⟨i,T,u,j,X,V,U,S,rfl⟩:=a
   trivial
  ·cases a
 case h_17 t x f ho=>
  split at a
  ·rename_i fs hu
   simp only [Option.bind_eq_some_iff] at a
   obtain⟨M,Q,i,hi,a⟩:=a
   split at a
   ·cases a
   ·rename_i hne
    simp only [Option.map_eq_some_iff] at a
    obtain⟨u,j,rfl⟩:=a
    trivial
  ·cases a
 case h_18 t x f ho=>
  split at a
  ·rename_i fs hu
   simp only [Option.bind_eq_some_iff] at a
   obtain⟨M,Q,⟨G,n⟩,hs,a⟩:=a
   simp only at a
   split at a
   ·simp only [Option.map_eq_some_iff] at a
    obtain⟨u,j,rfl⟩:=a
    trivial
   ·cases a
  ·cases a
 case h_19 t x y ho=>
  split at a
  ·rename_i e hu
   simp only [Option.bind_eq_some_iff,Option.map_eq_some_iff] at a
   obtain⟨i,hi,u,j,C,B,rfl⟩:=a
   trivial
  ·rename_i n e hu
   simp only [Option.bind_eq_some_iff,Option.map_eq_some_iff] at a
   obtain⟨i,hi,u,j,C,B,rfl⟩:=a
   trivial
  ·cases a
 case h_20 t x y ho=>
  split at a
  ·rename_i n e hu
   simp only [Option.bind_eq_some_iff] at a
   obtain⟨⟨G,m⟩,hs,a⟩:=a
   simp only at a
   split at a
   ·simp only [Option.bind_eq_some_iff,Option.map_eq_some_iff] at a
    obtain⟨u,j,C,B,rfl⟩:=a
    trivial
   ·cases a
  ·cases a
 case h_21 x i ho=>simp only [Option.map_eq_some_iff] at a;obtain⟨u,j,rfl⟩:=a;trivial
 case h_22 c ho=>
  split at a
  ·rename_i x t A w E
   split at a
   ·rename_i e hu
    simp only [Option.map_eq_some_iff] at a
    obtain⟨u,j,rfl⟩:=a
    trivial
   ·cases a
  ·rename_i x y t t' A w E
   split at a
   ·rename_i e hu
    simp only [Option.bind_eq_some_iff] at a
    obtain⟨i,hi,a⟩:=a
    split at a
    ·rename_i hcond
     simp only [Option.bind_eq_some_iff] at a
     obtain⟨I,hz,a⟩:=a
     split at a
     ·rename_i hl
      simp only [Option.bind_eq_some_iff,Option.map_eq_some_iff] at a
      obtain⟨u,j,C,B,rfl⟩:=a
      obtain⟨z,O⟩:=KA ho A w E hu hi hcond hz hl
      exact⟨x,y,t,e,i,z,O,j,B,rfl,rfl⟩
     ·cases a
    ·cases a
   ·cases a
  ·rename_i x y A w
   simp only [Option.bind_eq_some_iff,Option.map_eq_some_iff] at a
   obtain⟨u,j,C,B,rfl⟩:=a
   trivial
  ·rename_i x y A w
   simp only [Option.bind_eq_some_iff,Option.map_eq_some_iff] at a
   obtain⟨u,j,C,B,rfl⟩:=a
   trivial
  ·rename_i f A
   simp only [Option.map_eq_some_iff] at a
   obtain⟨K,j,rfl⟩:=a
   exact⟨c,ho,A,j⟩
  ·rename_i t A
   simp only [Option.map_eq_some_iff] at a
   obtain⟨K,j,rfl⟩:=a
   trivial
  ·rename_i t m A
   simp only [Option.map_eq_some_iff] at a
   obtain⟨K,j,rfl⟩:=a
   trivial
  ·cases a
 case h_23 t x ho=>simp only [Option.map_eq_some_iff] at a;obtain⟨u,j,rfl⟩:=a;trivial
 case h_24=>cases a
variable {B:Bs} {g:Gh}
def Kz (P:Program) (o:Oper) (B:Bs) (a:Act) (w:World) (K:PS->Prop):Prop:=
 ∀(next:Act->World->Prop) (Q:Exit->Act->World->Prop),(∀ s' y u j,K s'->R B y s' (zB (a.put o.dst u)) j->next (a.put o.dst u) j)->o.wp P a w next Q
theorem zN {d:Option Nat} {u:Value} (j:∀ t,d=some t->t<a.tmps.size):zB (a.put d u)=QO (zB a) d u:=by
 funext t
 cases d with
 | none=>simp [zB,QO,Act.put]
 | some d=>
   have:=j d rfl
   by_cases e:d=t
   ·subst e;simp [zB,QO,Act.put,this]
   ·simp [zB,QO,Act.put,e,Array.getElem?_setIfInBounds_ne e]
theorem R.rd (h:R B g s (zB a) w):Rd g.D g.ρ s (zB a) (zA o) w:=⟨fun t _=>h.slots t,fun i j hi=>(h.boxes i j hi).2,h.gl⟩
theorem Z0 {K:PS->Prop} (G:∀ t,o.dst=some t->t<a.tmps.size) (h:R B g s (zB a) w) (y:QS P o g.D g.ρ s a w fun p=>K (s.put o.dst p)):Kz P o B a w K:=by
 obtain⟨p,hk,ho,y⟩:=y
 intro next Q H
 refine y next Q fun u E hb I _=>?_
 have A:=I.restrict
 have F:=h.grow (w':=E) hb (fun b o=>(g.D b o\/w.heap.size<=b)/\b<E.heap.size) (fun b o j=>⟨.inl j,Nat.lt_of_lt_of_le (h.dlt b o j) hb.size⟩) (fun b o j=>j.1) (fun b o j=>j.2)
 have C:=F.put o.dst A (.none ho)
 rw [<-zN G] at C
 exact H _ _ _ _ hk C
theorem zmp {x:Operand} {i:Nat} {K:PS->Prop} (y:∀ t,o.dst=some t->t<a.tmps.size) (h:R B g s (zB a) w) (ho:o.op=.move x\/o.op=.assign x) (u:po x=some (.t i)) (hk:K (s.put o.dst (s.get i))):Kz P o B a w K:=by
 have j:x=.tmp i:=by cases x<;>first | (cases u;rfl) | cases u
 subst j
 have C:(execOp a.eval o).run P w=.ok (.value (zB a i)) w:=by rcases ho with ho | ho<;>simp [execOp,ho,zB,Act.eval]
 intro next Q A
 show o.upon P a next Q ((execOp a.eval o).run P w)
 rw [C]
 refine A _ g _ w hk ?_
 rw [zN y]
 exact h.put o.dst (h.slots i) (h.ownNew (h.slot i))
theorem zjQ {t:TypeId} {x:Operand} {J:PO} {i j:Nat} {A:List PV} {p:PV} {K:PS->Prop} (L:∀ t,o.dst=some t->t<a.tmps.size) (h:R B g s (zB a) w) (ho:o.op=.load t x) (hs:XH P t=some (false,1)) (O:po x=some J) (hb:s.ev J=.bx i j) (u:s.b[i]? = some A) (F:A[j]? = some p) (hk:K (s.put o.dst p)):Kz P o B a w K:=by
 have I:=h.rd (o:=o).op O (by simp [ho,Op.operands])
 rw [hb] at I
 obtain⟨hi,e1⟩:=I.inv_bx
 obtain⟨T,G,S,N,hz,C⟩:=h.boxes i A u
 have E:j<G.size:=Y7 hz F
 have H:w.cell? ⟨g.ρ i,j,none⟩=some (G.getD j undef):=by
  simp only [World.cell?,N];simp [E]
 have y:(execOp a.eval o).run P w=.ok (.value (G.getD j undef)) w:=by
  have:=Zs hs H
  simp only [execOp,ho,e1,Instr.loadAt,Instr.sureAddr,Sem.run_bind,Sem.run_pure,Result.andThen_ok,this]
 intro next Q M
 show o.upon P a next Q ((execOp a.eval o).run P w)
 rw [y]
 refine M _ g _ w hk ?_
 rw [zN L]
 exact h.put o.dst (C j p F).1 (h.ownNew (.inr ⟨i,j,A,u,F,H⟩))
theorem Rel.sh {u:Value} {p:PV} (h:Rel D ρ nb w u p):Rel D ρ nb w u p.sh:=by
 rcases h with(h | ⟨i,o,rfl,hi,rfl⟩) | ⟨f,va,vb,fs,cs,rfl,h⟩
 ·exact .dat h.sh
 ·exact .inl (.inr ⟨i,o,rfl,hi,rfl⟩)
 ·exact .inr ⟨f,va,vb,fs,cs,rfl,h⟩
theorem zgO {e:TypeId} {u:Value} {cs:List PV} {K:PS->Prop} (F:∀ t,o.dst=some t->t<a.tmps.size) (h:R B g s (zB a) w) (C:CellsR g.D g.ρ s.b.length w u cs)
 (y:(execOp a.eval o).run P w=.ok (.value (.pointer (some ⟨w.heap.size,0,none⟩))) (w.alloc (.cells u.cells e))) (hk:K (PS.put ⟨s.t,s.b++[cs.map PV.sh]⟩ o.dst (.bx s.b.length 0))):Kz P o B a w K:=by
 intro next Q G
 show o.upon P a next Q ((execOp a.eval o).run P w)
 rw [y]
 have:=h.box o.dst u.cells e (cs.map PV.sh) (by simpa using C.1) (fun j p A=>by
  simp only [List.getElem?_map,Option.map_eq_some_iff] at A
  obtain⟨q,E,rfl⟩:=A
  exact⟨(C.2 j q E).1.sh,(C.2 j q E).2⟩) (fun p A=>by obtain⟨q,_,rfl⟩:=List.mem_map.1 A;exact q.sh_own)
 rw [<-zN F] at this
 exact G _ _ _ _ (by simpa using hk) this
theorem xH (u:Nat) (a j:Array Value) (t:TypeId) (y:w.heap[u]? = some (.cells a t (0,0))) {b k:Nat}:(w.setRow u j).cell? ⟨b,k,none⟩=if b=u then j[k]? else w.cell? ⟨b,k,none⟩:=by
 split
 ·rename_i e;subst e;exact cell_setRow_same w b k a j t (0,0) y
 ·rename_i e;exact cell_setRow_other w u j ⟨b,k,none⟩ e
theorem R.store {x:Nat->Value} (h:R B g s x w) {i o':Nat} {F us:List PV} {K:List Value} {a:Array Value} {t:TypeId} (Q:s.b[i]? = some F) (A:w.heap[g.ρ i]? = some (.cells a t (0,0))) (hl:K.length=us.length) (ho:o'+us.length<=F.length)
 (hu:∀(j:Nat) p,us[j]? = some p->Rel g.D g.ρ s.b.length w (K.getD j undef) p/\(K.getD j undef).oneCell'=true/\(p.own=none\/zQ g s x w (K.getD j undef) p)) (d:Option Nat) :
 R B g (PS.put ⟨s.t,s.b.set i (XI F us o')⟩ d (.v undef)) (QO x d undef) (w.setRow (g.ρ i) (a.toList.take o'++K++a.toList.drop (o'+K.length)).toArray):=by
 have hi:i<s.b.length:=(List.getElem?_eq_some_iff.1 Q).1
 obtain⟨Y,ar,e0,ae,aq,ab⟩:=h.boxes i F Q
 rw [A] at ae
 cases ae
 obtain⟨new,H⟩:∃ new,(a.toList.take o'++K++a.toList.drop (o'+K.length)).toArray=new:=⟨_,rfl⟩
 rw [H]
 have ad:new.size=F.length:=by rw [<-H];simp;omega
 have L:∀ k,new[k]? = if o'<=k/\k<o'+us.length then K[k - o']? else a[k]?:=fun k=>by
  rw [<-H]
  have ht:(a.toList.take o').length=o':=by simp;omega
  simp only [List.getElem?_toArray]
  by_cases h1:k<o'
  ·rw [if_neg (by omega),List.append_assoc,List.getElem?_append_left (by omega),List.getElem?_take,if_pos h1];simp
  ·by_cases h2:k<o'+us.length
   ·rw [if_pos (by omega),List.append_assoc,List.getElem?_append_right (by omega),List.getElem?_append_left (by omega),ht]
   ·rw [if_neg (by omega),List.getElem?_append_right (by simp;omega),List.getElem?_drop]
    simp only [List.length_append,ht,Array.getElem?_toList]
    congr 1;omega
 have C:(s.b.set i (XI F us o')).length=s.b.length:=by simp
 have J:(XI F us o').length=F.length:=QK _ _ _ ho
 have hD:∀ b o x,g.D b o->w.cell? ⟨b,o,none⟩=some x->(w.setRow (g.ρ i) new).cell? ⟨b,o,none⟩=some x:=fun b o y hb hx=>by
  rw [xH (g.ρ i) a new t A,if_neg]
  ·exact hx
  ·intro e;subst e;exact h.dbox i hi o hb
 have mono:∀ {u p},Rel g.D g.ρ s.b.length w u p->Rel g.D g.ρ s.b.length (w.setRow (g.ρ i) new) u p:=fun hu=>hu.mono (fun _ _ h=>h) hD (Nat.le_refl _) fun _ _=>rfl
 have hs:∀ u q,zQ g ⟨s.t,s.b.set i (XI F us o')⟩ x (w.setRow (g.ρ i) new) u q->q.own≠none->zQ g s x w u q:=by
  rintro u q (hx | ⟨E,j,M,G,U,N⟩) hq
  ·exact .inl hx
  ·have ah:E<s.b.length:=by have:=(List.getElem?_eq_some_iff.1 G).1;simpa using this
   by_cases e:i=E
   ·subst e
    rw [List.getElem?_set_self hi] at G
    cases G
    rw [xH (g.ρ i) a new t A,if_pos rfl,L] at N
    rw [Xy _ _ _ _ ho] at U
    by_cases P:o'<=j/\j<o'+us.length
    ·rw [if_pos P] at U N
     have:=(hu _ _ U).2.2
     rw [List.getD_eq_getElem?_getD,N] at this
     rcases this with h7 | h7
     ·exact absurd h7 hq
     ·exact h7
    ·rw [if_neg P] at U N
     refine .inr ⟨i,j,F,Q,U,?_⟩
     simp only [World.cell?,A]
     simpa using N
   ·rw [List.getElem?_set_ne e] at G
    refine .inr ⟨E,j,M,G,U,?_⟩
    rw [xH (g.ρ i) a new t A,if_neg (fun X=>e (h.inj _ _ ah hi X).symm)] at N
    exact N
 have r1:R B g ⟨s.t,s.b.set i (XI F us o')⟩ x (w.setRow (g.ρ i) new):=by
  refine⟨fun t'=>by rw [C];exact mono (h.slots t'),?_,fun E j'=>by rw [C];exact h.inj E j',?_,?_,?_,fun b o hb=>by simpa using h.dlt b o hb,fun E=>by rw [C];exact h.dbox E,?_⟩
  ·intro E M G
   rw [C]
   by_cases e:i=E
   ·subst e
    rw [List.getElem?_set_self hi] at G
    cases G
    refine⟨Y,new,t,setRow_heap w _ a new t (0,0) A,by rw [ad,J],fun j p I=>?_⟩
    rw [Xy _ _ _ _ ho] at I
    rw [Array.getD_eq_getD_getElem?,L]
    by_cases P:o'<=j/\j<o'+us.length
    ·rw [if_pos P] at I ⊢
     rw [<-List.getD_eq_getElem?_getD]
     exact⟨mono (hu _ _ I).1,(hu _ _ I).2.1⟩
    ·rw [if_neg P] at I ⊢
     rw [<-Array.getD_eq_getD_getElem?]
     exact⟨mono (ab _ _ I).1,(ab _ _ I).2⟩
   ·rw [List.getElem?_set_ne e] at G
    obtain⟨O,ao,X,am,an,Z⟩:=h.boxes E M G
    have aj:g.ρ E≠g.ρ i:=fun X=>e (h.inj _ _ (List.getElem?_eq_some_iff.1 G).1 hi X).symm
    exact⟨O,ao,X,(setRow_other w _ _ new aj).trans am,an,fun j p I=>⟨mono (Z j p I).1,(Z j p I).2⟩⟩
  ·intro u q hq
   by_cases T:q.own=none
   ·exact zr T
   have S:=hs u q hq T
   have:=h.owns u q S
   have ak:=h.ownbox u q
   cases q<;>try trivial
   rename_i es ow
   cases ow<;>try trivial
   rcases this with hn | ⟨gg,V,af,e,rfl,O,hh,P,he,ag⟩
   ·exact .inl hn
   ·cases V with
    | zero=>
      by_cases ac:es=[]
      ·subst ac;exact .inl ⟨_,rfl,rfl⟩
      ·obtain⟨ai,_⟩:=QH (h.slot_rel S)
       exact absurd (List.eq_nil_of_length_eq_zero (Nat.le_zero.1 ai)) ac
    | succ V=>
      exact .inr ⟨gg,_,af,e,rfl,O,(setRow_other w _ _ new (ak gg i S T rfl hi).symm).trans hh,P,he,ag⟩
  ·intro u q u' q' b k1 k2 o1 o2
   exact h.disj _ _ _ _ b (hs _ _ k1 o1) (hs _ _ k2 o2) o1 o2
  ·intro u q b E k1 o1 b1 h1
   exact h.ownbox _ _ b E (hs _ _ k1 o1) o1 b1 (by rw [C] at h1;exact h1)
  ·have f:=h.fr
   refine⟨f.os,f.tape,f.output,by simpa using f.size,fun k hk hn=>?_,f.d0,fun b o y hb hy=>hD _ _ _ (f.d0 b o hb) (f.cell b o y hb hy),f.new,f.d0lt⟩
   rw [setRow_other w _ _ new ?_]
   ·exact f.block k hk hn
   ·intro e
    subst e
    rcases Y with Y | Y
    ·omega
    ·exact hn Y
 exact r1.put d (.dat (.v _)) (.none rfl)
theorem zmq {t:TypeId} {ag:Bool} {n i F:Nat} {x y:Operand} {x' u:PO} {M:List PV} {K:PS->Prop} (hd:∀ t,o.dst=some t->t<a.tmps.size) (h:R B g s (zB a) w) (ho:o.op=.store t x y) (hs:XH P t=some (ag,n)) (hx:po x=some x') (V:po y=some u)
 (hb:s.ev x'=.bx i F) (G:s.b[i]? = some M) (hk:qW (s.ev u) fun us=>us.length=n/\F+n<=M.length/\K (PS.put ⟨s.t,s.b.set i (XI M (yC u (s.ev u) us) F)⟩ o.dst (.v undef))):Kz P o B a w K:=by
 have hr:=h.rd (o:=o).op hx (by simp [ho,Op.operands])
 have C:=h.rd (o:=o).op V (by simp [ho,Op.operands])
 rw [hb] at hr
 obtain⟨hi,e1⟩:=hr.inv_bx
 obtain⟨us,⟨h1,h2,h3⟩,N⟩:=xY hk C
 obtain⟨hW,Y,e',S,hz,ac⟩:=h.boxes i M G
 obtain⟨it,dt,k1,k2,k3,k4⟩:=vT hs
 have E:(a.eval y).cells.toList.length=us.length:=by simpa using N.1
 have J:∀ v ∈ (a.eval y).cells.toList,v.oneCell'=true:=fun v S=>by
  obtain⟨j,O⟩:=List.getElem?_of_mem S
  have T:j<us.length:=by rw [<-E];exact(List.getElem?_eq_some_iff.1 O).1
  have:=(N.2 j _ (List.getElem?_eq_getElem T)).2
  rw [Array.getD_eq_getD_getElem?,<-Array.getElem?_toList,O] at this
  exact this
 have L:(execOp a.eval o).run P w=.ok .skip (w.setRow (g.ρ i) (Y.toList.take F++(a.eval y).cells.toList++Y.toList.drop (F+(a.eval y).cells.toList.length)).toArray):=by
  have:=run_storeCells_at P (g.ρ i) F e' (a.eval y).cells.toList 0 Y w S (by rw [E];omega) J
  simp only [Nat.add_zero] at this
  have U:¬((a.eval y).cells.size≠it.size):=by rw [N.1,k4];omega
  simp only [execOp,ho,e1,Instr.storeAt,Instr.sureAddr,Sem.run_bind,Sem.run_pure,Result.andThen_ok,storeVar,zE k1,if_neg U,this]
 have I:(yC u (s.ev u) us).length=us.length:=by
  unfold yC
  split
  ·rename_i j es ow e
   rw [e] at hk
   simp only [qW] at hk
   rw [h1,<-hk.1]
  ·simp
 intro next Q hn
 show o.upon P a next Q ((execOp a.eval o).run P w)
 rw [L]
 have:=h.store (us:=yC u (s.ev u) us) (o':=F) G S (by rw [I];exact E) (by rw [I];omega) (fun j p A=>?_) o.dst
 ·rw [<-zN hd] at this
  exact hn _ _ _ _ h3 this
 ·have H:∀ j,(a.eval y).cells.toList.getD j undef=(a.eval y).cells.getD j undef:=fun j=>by simp
  rw [H]
  unfold yC at A
  split at A
  ·rename_i j0 es ow e
   have O:j=0:=by have:=(List.getElem?_eq_some_iff.1 A).1;simpa using this
   subst O
   simp at A
   subst A
   obtain⟨ad,ab,sz,b,ae,f,Z,_⟩:=(show Rel g.D g.ρ s.b.length w (a.eval y) (.sl es ow) from e ▸ C).inv_sl
   have ec:(a.eval y).cells.getD 0 undef=a.eval y:=by rw [Z];rfl
   rw [ec]
   refine⟨e ▸ C,by rw [Z];rfl,.inr ?_⟩
   have X:y=.tmp j0:=by cases y<;>first | (cases V;rfl) | cases V
   subst X
   refine .inl ⟨j0,rfl,?_⟩
   exact e.symm
  ·simp only [List.getElem?_map,Option.map_eq_some_iff] at A
   obtain⟨q,hq,rfl⟩:=A
   have:=N.2 j q hq
   exact⟨this.1.sh,this.2,.inl q.sh_own⟩
theorem R.fresh {x:Nat->Value} {C:World} (h:R B g s x w) (hb:Below w.heap.size w C) {g':Nat} {a G n0:Nat} {F:Array Value} {e:TypeId} {A:List Value} {es:List (List PV)} (Q:w.heap.size<=g') (J:C.heap[g']? = some (.cells F e (0,0))) (M:RowD g.D w G A es)
 (ht:∀ j,j<A.length->F[j]? = some (A.getD j undef)) (P:es.length<=a) (Y:a<=maxLen) (Z:F.size=a * G) (E:es≠[]) (d:Option Nat) :
 ∃ V,R B V (s.put d (.sl es (.r n0 G))) (QO x d (.slice (some ⟨g',0,none⟩) es.length a)) C:=by
 have L:g'<C.heap.size:=(Array.getElem?_eq_some_iff.1 J).1
 have X:=h.grow (w':=C) hb (fun b o=>g.D b o\/(b=g'/\o<A.length)) (fun b o u=>.inl u) (fun b o u=>by rcases u with u | ⟨rfl,_⟩;exact .inl u;exact .inr Q) (fun b o u=>by
  rcases u with u | ⟨rfl,_⟩
  ·exact Nat.lt_of_lt_of_le (h.dlt b o u) hb.size
  ·exact L)
 have N:RowD (fun b o=>g.D b o\/(b=g'/\o<A.length)) C G A es:=M.mono (fun _ _ h=>.inl h) fun b o x _ S=>qa hb (qF S) S
 refine⟨_,X.put d (.dat (jr N J ht P Y (fun h=>by cases h) fun j K=>.inr ⟨rfl,K⟩)) fun _=>⟨.inr ⟨g',a,F,e,rfl,.inl (Nat.le_trans h.fr.size Q),J,Z,fun U I=>?_,fun o ho u=>?_⟩,fun v q b y O k3 k4=>?_,fun b i y O=>?_⟩⟩
 ·obtain⟨j,K⟩:=List.getElem?_of_mem I
  exact M.2.1 j U K
 ·rcases u with u | ⟨_,u⟩
  ·have:=h.dlt _ _ u;omega
  ·rw [M.1] at u;omega
 ·exfalso
  have hs:zQ g s x w v q:=by
   rcases y with y | ⟨i,j,H,T,q2,q3⟩
   ·exact .inl y
   ·exact .inr ⟨i,j,H,T,q2,by rw [<-q3];exact(hb.cell (p:=⟨g.ρ i,j,none⟩) (h.ρlt (List.getElem?_eq_some_iff.1 T).1)).symm⟩
  have:=(zX (h.owns v q hs) O k3).1
  cases a with
  | zero=>exact E (List.eq_nil_of_length_eq_zero (Nat.le_zero.1 P))
  | succ a=>simp [zc] at k4;omega
 ·have:=h.ρlt O
  cases a with
  | zero=>cases y
  | succ a=>
    simp [zc] at y
    show g.ρ i≠b
    omega
theorem qk (w:World) (o:Obj):Below w.heap.size w (w.drew.alloc o):=(show Below w.heap.size w w.drew from ⟨rfl,rfl,rfl,Nat.le_refl _,fun _ _=>rfl⟩).alloc (Nat.le_refl _) _
theorem zjP {x y:Operand} {x' y':PO} {t e:TypeId} {i:TypeInfo} {z:Value} {K:PS->Prop} {n0:Nat} {G A:List (List PV)} {k:Ow} (hd:∀ t,o.dst=some t->t<a.tmps.size) (h:R B g s (zB a) w) (L:ApOp P o x y t e i z) (hx:po x=some x') (hy:po y=some y')
 (ex:s.ev x'=.sl G .z) (ey:s.ev y'=.sl A k) (h1:∀ e ∈ G,e.length=i.size) (h2:∀ e ∈ A,e.length=i.size) (ab:(G.length+A.length) * i.bytes<=140737488355328) (af:A=[]->G=[])
 (hk:K (s.put o.dst (.sl (G++A) (.r n0 i.size)))):Kz P o B a w K:=by
 obtain⟨c,ho,hc,N,_⟩:=L.ho
 have C:=h.rd (o:=o).op hx (by rw [ho];simp [Op.operands,Call.operands,hc,N])
 have F:=h.rd (o:=o).op hy (by rw [ho];simp [Op.operands,Call.operands,hc,N])
 rw [ex] at C
 rw [ey] at F
 intro next Q hn
 show o.upon P a next Q ((execOp a.eval o).run P w)
 rcases zjv L C F h1 h2 ab with⟨he,T⟩ | ⟨I,cs,vs,T,U,k2,k3,V,k5⟩
 ·have ae:=af he
  subst he
  subst ae
  rw [T]
  obtain⟨E,H,sz,b,ag,f,Z,c1,c2,c3,_⟩:=C.inv_sl
  have O:=c2 rfl
  have hz:a.eval x=.slice E 0 0:=by rw [Z,O];rfl
  have:=h.put (u:=a.eval x) (p:=.sl ([]++[]) (.r n0 i.size)) o.dst (.dat ?_) fun _=>⟨.inl ⟨E,hz,rfl⟩,fun v q b _ _ _ V=>?_,fun b i U _=>?_⟩
  ·rw [<-zN hd] at this
   exact hn _ _ _ _ hk this
  ·rw [hz]
   exact .sl E 0 1 [] _ 0 0 (fun _=>undef) (Nat.le_refl _) (fun h=>by cases h) (Nat.zero_le _) (fun h=>absurd rfl h) (fun i e h=>by simp at h) (fun j h=>absurd h (by simp)) (fun i e j p h=>by simp at h)
  ·rw [hz] at V;cases E<;>cases V
  ·rw [hz] at U;cases E<;>cases U
 ·rw [T]
  have S:G++A≠[]:=by
   intro e
   have:=List.append_eq_nil_iff.1 e
   obtain⟨rfl,rfl⟩:=this
   obtain⟨E,H,sz,b,ag,f,Z,c1,c2,c3,_⟩:=F.inv_sl
   obtain⟨X,I,ak,b',ah,f',J,ai,Y,aj,_⟩:=C.inv_sl
   have ac:=Y rfl
   rw [ac] at J
   have:=L.run J Z (vl (ty:=o.type) (w:=w) L.ht L.hi X E 0 0 H (Nat.le_refl _))
   have e0:=T.symm.trans this
   injection e0 with e1 e2
   have:=congrArg (fun w:World=>w.heap.size) e2
   simp at this
  obtain⟨g2,M⟩:=h.fresh (n0:=n0) (qk w (.cells cs e)) (Nat.le_refl _) (World.alloc_heap_new w.drew (.cells cs e)) V k5 U k2 k3 S o.dst
  rw [<-zN hd,List.length_append] at M
  exact hn _ _ _ _ hk M
theorem vm {t ty e I:TypeId} {i:TypeInfo} (ht:P.underlying t=some (.slice e)) (hi:P.info? e=some i) {F y B:Nat} {A:Array Value} (L:w.heap[F]? = some (.cells A I (0,0)))
 {b:Addr} {m c:Nat} {a:List Value} (hl:a.length=m * i.size) (C:∀ j u,a[j]? = some u->w.cell? (b.add j)=some u) (J:∀ u ∈ a,u.oneCell'=true) (E:y+m<=B) (G:y * i.size+a.length<=A.size) :
 (Builtin.append_ #[t,t] ty #[.slice (some ⟨F,0,none⟩) y B,.slice (some b) m c]).run P w =
   .ok (.slice (some ⟨F,0,none⟩) (y+m) B) (w.setRow F (A.toList.take (y * i.size)++a++A.toList.drop (y * i.size+a.length)).toArray):=by
 have K:=run_firstCells_some (P:=P) w i.size m b m c a hl C
 have H:=run_storeCells_at P F (y * i.size) I a 0 A w L (by simpa using G) J
 simp only [Nat.add_zero] at H
 simp [Builtin.append_,run_underlying ht,zE hi,Builtin.lenOf,E,K,zh,H]
theorem zgN {x y:Operand} {j0:Nat} {y':PO} {t e:TypeId} {i:TypeInfo} {z:Value} {K:PS->Prop} {Z:Nat} {E F:List (List PV)} {k:Ow} (hd:∀ t,o.dst=some t->t<a.tmps.size) (h:R B g s (zB a) w) (J:ApOp P o x y t e i z) (hx:po x=some (.t j0)) (hy:po y=some y')
 (ex:s.get j0=.sl E (.r Z i.size)) (ey:s.ev y'=.sl F k) (h2:∀ e ∈ F,e.length=i.size) (av:(E.length+F.length) * i.bytes<=140737488355328)
 (hk:K ((s.down Z).put o.dst (.sl (E++F) (.r Z i.size)))):Kz P o B a w K:=by
 obtain⟨c,ho,hc,aJ,_⟩:=J.ho
 have aN:x=.tmp j0:=by cases x<;>first | (cases hx;rfl) | cases hx
 have aj:a.eval x=zB a j0:=by rw [aN];rfl
 have ag:=h.slots j0
 have T:=h.slot j0
 have af:=h.owns _ _ T
 have aK:=fun u q b hu ho hb aq=>h.disj u q _ _ b hu T ho (by rw [ex];simp [PV.own]) hb aq
 have ac:=fun b i hb hi=>h.ownbox _ _ b i T (by rw [ex];simp [PV.own]) hb hi
 rw [ex] at ag af
 have aC:=h.rd (o:=o).op hy (by rw [ho];simp [Op.operands,Call.operands,hc,aJ])
 rw [ey] at aC
 obtain⟨ah,aL⟩:=h.down Z
 have Y:(s.down Z).b.length=s.b.length:=by simp [PS.down]
 obtain⟨aF,V,U,e2,d1,d2,_,r2,g2⟩:=x5 aC h2
 -- another owner's slice lies elsewhere
 have L:∀ u q b,zQ g (s.down Z) (zB a) w u q->q.own≠none->zc u=some b->zc (zB a j0)=some b->False:=fun u q b hu hq hb aq=>by
  obtain⟨q1,q2⟩:=aL u q hu hq
  have:=aK u q b q1 hq hb aq
  rw [ex] at this
  exact q2 this
 intro next Q hn
 show o.upon P a next Q ((execOp a.eval o).run P w)
 by_cases ai:F=[]
 ·subst ai
  obtain⟨ad,C,sz,b,aS,f,e3,c1,_⟩:=ag.inv_sl
  have hr:=J.run (aj.trans e3) e2 (vl (ty:=o.type) (w:=w) J.ht J.hi ad aF E.length C V c1)
  rw [hr]
  have:=ah.put (u:=zB a j0) (p:=.sl (E++[]) (.r Z i.size)) o.dst (by rw [List.append_nil,Y];exact ag) fun _=>⟨by rw [List.append_nil];exact af,fun v q b N O k3 k4=>(L v q b N O k3 k4).elim,fun b i N O=>ac b i N (by rw [Y] at O;exact O)⟩
  rw [<-zN hd,e3] at this
  exact hn _ _ _ _ hk this
 ·obtain⟨b',aE,rfl,g3⟩:=g2 ai
  have aP:0<F.length:=List.length_pos_iff.2 ai
  have aA:E++F≠[]:=fun e=>ai (List.append_eq_nil_iff.1 e).2
  have ae:∀ j v,U[j]? = some v->w.cell? ((⟨b',aE,none⟩:Addr).add j)=some v:=fun j v hv=>by rw [zh];exact(g3 j v hv).2
  rcases af with⟨ad,hz,rfl⟩ | ⟨I,C,H,e',hu,hW,hh,aw,ax,az⟩
  ·obtain⟨cp,cs,hr,N,O,k3,k4⟩:=yJ (P:=P) (w:=w) (ty:=o.type) (ad:=ad) (cap:=0) (c:=V) (n:=0) (olds:=[]) J.ht J.hi J.hz J.hzs J.hb (by simp) r2.1 (fun hn=>absurd rfl hn) (fun _=>rfl) ae (by omega) (by simpa using av)
   rw [J.run (aj.trans hz) e2 hr]
   obtain⟨g4,ab⟩:=ah.fresh (n0:=Z) (qk w (.cells cs e)) (Nat.le_refl _) (World.alloc_heap_new w.drew (.cells cs e)) (es:=[]++F) (by simpa using r2) (by simpa using k4) (by simpa using N) O k3 aA o.dst
   rw [<-zN hd] at ab
   refine hn _ _ _ _ hk (by simpa using ab)
  ·have aB:∀ {D' w'},(∀ b o,g.D b o->D' b o)->(∀ b o x,g.D b o->w.cell? ⟨b,o,none⟩=some x->w'.cell? ⟨b,o,none⟩=some x)->∃ vs,RowD D' w' i.size vs E/\∀ j v,vs[j]? = some v->H[j]? = some v:=fun {D' w'} M hw=>by
    obtain⟨aR,aO,vs,X,_,_,_,f2,f3⟩:=x5 ag ax
    refine⟨vs,f2.mono M hw,fun j v hv=>?_⟩
    have ar:E≠[]:=by
     intro e;subst e
     have:=f2.1
     have:=(List.getElem?_eq_some_iff.1 hv).1
     simp_all
    obtain⟨b2,aQ,e4,f4⟩:=f3 ar
    rw [hu] at X
    injection X with X
    rw [e4] at X
    injection X with X
    injection X with f5 f6
    subst f5
    subst f6
    have:=(f4 j v hv).2
    simp only [World.cell?,hh] at this
    simpa using this
   have aI:E.length<=C/\C<=maxLen:=by
    have:=QH (show Rel g.D g.ρ s.b.length w (.slice (some ⟨I,0,none⟩) E.length C) (.sl E (.r Z i.size)) from hu ▸ ag)
    exact⟨this.1,this.2.2⟩
   by_cases S:E.length+F.length<=C
   ·have ay:E.length * i.size+U.length<=H.size:=by rw [r2.1,aw,<-Nat.add_mul];exact Nat.mul_le_mul_right _ S
    have hr:=vm (P:=P) (w:=w) (ty:=o.type) (c:=V) J.ht J.hi hh r2.1 ae (Xv r2) S ay
    rw [J.run (aj.trans hu) e2 hr]
    obtain⟨new,au⟩:∃ new,(H.toList.take (E.length * i.size)++U++H.toList.drop (E.length * i.size+U.length)).toArray=new:=⟨_,rfl⟩
    rw [au]
    have ht:(H.toList.take (E.length * i.size)).length=E.length * i.size:=by simp;omega
    have an:∀ k,k<E.length * i.size+U.length->new[k]? = if k<E.length * i.size then H[k]? else U[k - E.length * i.size]?:=fun k hk=>by
     rw [<-au]
     simp only [List.getElem?_toArray]
     by_cases h1:k<E.length * i.size
     ·rw [if_pos h1,List.append_assoc,List.getElem?_append_left (by omega),List.getElem?_take,if_pos h1];simp
     ·rw [if_neg h1,List.append_assoc,List.getElem?_append_right (by omega),ht,List.getElem?_append_left (by omega)]
    have G:∀ b,C≠0->(zc (zB a j0)=some b ↔ I=b):=fun b aH=>by
     rw [hu];cases C with
     | zero=>exact absurd rfl aH
     | succ C=>simp [zc]
    have A:C≠0:=by omega
    have aM:I<w.heap.size:=(Array.getElem?_eq_some_iff.1 hh).1
    have ao:∀ b o y,g.D b o->w.cell? ⟨b,o,none⟩=some y->(w.setRow I new).cell? ⟨b,o,none⟩=some y:=fun b o y M hy=>by
     rw [xH I H new e' hh]
     split
     ·rename_i e;subst e
      have ho:o<E.length * i.size:=by
       rcases Nat.lt_or_ge o (E.length * i.size) with h' | h'
       ·exact h'
       ·exact absurd M (az o h')
      rw [an o (by omega),if_pos ho]
      simp only [World.cell?,hh] at hy
      simpa using hy
     ·exact hy
    have hF:=ah.frame (w':=w.setRow I new) (fun b o=>g.D b o\/(b=I/\o<(E.length+F.length) * i.size)) ao (fun k hk=>setRow_other w _ _ new (ac I k ((G _ A).2 rfl) (by rw [Y] at hk;exact hk))) (fun u p b N O k3=>setRow_other w _ _ new fun e=>L u p b N O k3 ((G b A).2 e.symm))
     (fun b o M=>.inl M) (fun b o M=>by
       rcases M with M | ⟨rfl,_⟩
       ·exact .inl M
       ·exact .inr ⟨hW,fun k hk=>ac b k ((G b A).2 rfl) (by rw [Y] at hk;exact hk),fun u p N O k3=>L u p b N O k3 ((G b A).2 rfl)⟩) (fun b o M=>by
       rcases M with M | ⟨rfl,_⟩
       ·simpa using h.dlt b o M
       ·simpa using aM) rfl rfl rfl (by simp) (fun k hk hn=>setRow_other w _ _ new fun e=>by
       subst e
       rcases hW with hW | hW
       ·omega
       ·exact hn hW)
    obtain⟨vs,X,f2⟩:=aB (D':=fun b o=>g.D b o\/(b=I/\o<(E.length+F.length) * i.size)) (w':=w.setRow I new) (fun _ _ h=>.inl h) ao
    have r3:=X.append (r2.mono (D':=fun b o=>g.D b o\/(b=I/\o<(E.length+F.length) * i.size)) (w':=w.setRow I new) (fun _ _ h=>.inl h) ao)
    have aD:vs.length=E.length * i.size:=X.1
    have am:=jr (k:=.r Z i.size) (cap:=C) r3 (setRow_heap w I H new e' (0,0) hh) (fun j hj=>by
     rw [List.length_append] at hj
     rw [an j (by omega),List.getD_eq_getElem?_getD]
     by_cases h1:j<E.length * i.size
     ·rw [if_pos h1,List.getElem?_append_left (by omega)]
      have ak:j<vs.length:=by omega
      rw [f2 j _ (List.getElem?_eq_getElem ak),List.getElem?_eq_getElem ak]
      rfl
     ·rw [if_neg h1,List.getElem?_append_right (by omega),aD]
      have ak:j - E.length * i.size<U.length:=by omega
      rw [List.getElem?_eq_getElem ak]
      rfl) (by simpa using S) aI.2 (fun h=>by cases h) (fun j hj=>.inr ⟨rfl,by rw [List.length_append,aD,r2.1,<-Nat.add_mul] at hj;exact hj⟩)
    rw [List.length_append] at am
    have:=hF.put o.dst (.dat am) fun _=>⟨.inr ⟨I,C,new,e',by simp,hW,setRow_heap w I H new e' (0,0) hh,by rw [<-aw,<-au];simp;omega,fun e he=>?_,fun o ho M=>?_⟩,fun v q b N O k3 k4=>?_,fun b k N O=>?_⟩
    ·rw [<-zN hd] at this
     exact hn _ _ _ _ hk this
    ·rcases List.mem_append.1 he with he | he
     ·exact ax e he
     ·exact h2 e he
    ·rw [List.length_append] at ho
     rcases M with M | ⟨_,M⟩
     ·exact az o (Nat.le_trans (Nat.mul_le_mul_right _ (by omega)) ho) M
     ·omega
    ·exfalso
     have k5:zQ g (s.down Z) (zB a) w v q:=by
      rcases N with N | ⟨i2,j,aG,q1,q2,q3⟩
      ·exact .inl N
      ·refine .inr ⟨i2,j,aG,q1,q2,?_⟩
       rw [xH I H new e' hh,if_neg] at q3
       ·exact q3
       ·exact ac I i2 ((G _ A).2 rfl) (by have:=(List.getElem?_eq_some_iff.1 q1).1;rw [Y] at this;exact this)
     have:b=I:=by
      cases C with
      | zero=>exact absurd rfl A
      | succ C=>simp [zc] at k4;exact k4.symm
     subst this
     exact L v q b k5 O k3 ((G b A).2 rfl)
    ·have:b=I:=by
      cases C with
      | zero=>exact absurd rfl A
      | succ C=>simp [zc] at N;exact N.symm
     subst this
     exact ac b k ((G b A).2 rfl) (by rw [Y] at O;exact O)
   ·obtain⟨vs,X,f2⟩:=aB (D':=g.D) (w':=w) (fun _ _ h=>h) (fun _ _ _ _ h=>h)
    obtain⟨cp,cs,hr,N,O,k3,k4⟩:=yJ (P:=P) (w:=w) (ty:=o.type) (ad:=some ⟨I,0,none⟩) (cap:=C) (c:=V) (n:=E.length) (olds:=vs) J.ht J.hi J.hz J.hzs J.hb X.1 r2.1 (fun _=>⟨_,rfl,fun j v hv=>by
     rw [zh]
     simp only [World.cell?,hh,Nat.zero_add]
     simpa using f2 j v hv⟩) (fun h=>by cases h) ae (by omega) av
    rw [J.run (aj.trans hu) e2 hr]
    obtain⟨g4,ab⟩:=ah.fresh (n0:=Z) (qk w (.cells cs e)) (Nat.le_refl _) (World.alloc_heap_new w.drew (.cells cs e)) (X.append r2) k4 (by simpa using N) O k3 aA o.dst
    rw [<-zN hd,List.length_append] at ab
    exact hn _ _ _ _ hk ab
theorem zmo {f:FuncId} {O:List PO} {r:PV} {c:Call} {K:PS->Prop} (hd:∀ t,o.dst=some t->t<a.tmps.size) (h:R B g s (zB a) w) (ho:o.op=.call c) (E:c.callee=.value (.func f)) (L:Qu c.args.toList=some O)
 (T:Cn P f (O.map fun x=>(s.ev x).sh) r) (y:zY (O.map fun x=>(s.ev x).sh)=true) (hk:K (s.put o.dst r)):Kz P o B a w K:=by
 obtain⟨Z,h2⟩:=kf (h.rd (o:=o)) L (fun x hx=>by rw [ho];simp only [Op.operands,Call.operands,E,Array.toList_append,List.mem_append];exact .inr hx) y
 intro next Q J
 refine KG (D:=g.D) h.gl T (by simp [Z]) (fun i p L=>?_) (Jk ho E rfl T.1) next Q fun u w' V hb M k2 k3 k4 N=>?_
 ·have:=h2 i p L
  simpa using this
 ·have Y:=h.grow hb V (fun b o y=>M b o ⟨y,h.dlt b o y⟩) (fun b o y=>by rcases k2 b o y with k | k;exact .inl k.1;exact .inr k) k3
  have:=Y.put (u:=u) (p:=r) o.dst (.dat k4) fun U=>⟨?_,fun v q b A C S q4=>?_,fun b i A C=>?_⟩
  ·rw [<-zN hd] at this
   exact J _ _ _ _ hk this
  ·cases r<;>try trivial
   rename_i es ow
   cases ow<;>try trivial
   rcases N with J | ⟨X,F,H,e,rfl,hW,hh,E,he,I⟩
   ·exact .inl J
   ·exact .inr ⟨X,F,H,e,rfl,.inl (Nat.le_trans h.fr.size hW),hh,E,he,I⟩
  ·exfalso
   have hs:zQ g s (zB a) w v q:=by
    rcases A with M | ⟨i,j,G,A,C,S⟩
    ·exact .inl M
    ·exact .inr ⟨i,j,G,A,C,by rw [<-S];exact(hb.cell (p:=⟨g.ρ i,j,none⟩) (h.ρlt (List.getElem?_eq_some_iff.1 A).1)).symm⟩
   have e1:=(zX (h.owns v q hs) C S).1
   have e2:=(zX N U q4).2
   omega
  ·have e1:=h.ρlt C
   have e2:=(zX N U A).2
   show g.ρ i≠b
   omega
theorem zjR {f:FuncId} {i:Nat} {xs:List PO} {es rs:List (List PV)} {n X:Nat} {c:Call} {K:PS->Prop} (hd:∀ t,o.dst=some t->t<a.tmps.size) (h:R B g s (zB a) w) (ho:o.op=.call c) (hc:c.callee=.value (.func f)) (V:Qu c.args.toList=some (.t i::xs)) (hi:s.get i=.sl es (.r n X))
 (hC:OCn P f es X (xs.map fun x=>(s.ev x).sh) rs) (hD:zY (xs.map fun x=>(s.ev x).sh)=true) (hk:K ((s.down n).put o.dst (.sl rs (.r n X)))):Kz P o B a w K:=by
 cases hargs:c.args.toList with
 | nil=>rw [hargs] at V;cases V
 | cons x1 xl=>
   rw [hargs] at V
   simp only [Qu,Option.bind_eq_some_iff,Option.map_eq_some_iff] at V
   obtain⟨y1,ac,yl,ai,e⟩:=V
   injection e with e1 e2
   subst e1
   subst e2
   have ah:x1=.tmp i:=by cases x1<;>first | (cases ac;rfl) | cases ac
   have ag:a.eval x1=zB a i:=by rw [ah];rfl
   obtain⟨h1,h2⟩:=kf (h.rd (o:=o)) ai (fun x hx=>by rw [ho];simp only [Op.operands,Call.operands,hc,Array.toList_append,List.mem_append];exact .inr (by rw [hargs];simp [hx])) hD
   have ab:=h.slots i
   have E:=h.slot i
   have H:=h.owns _ _ E
   have ae:=fun u q b hu ho hb S=>h.disj u q _ _ b hu E ho (by rw [hi];simp [PV.own]) hb S
   have I:=fun b j hb G=>h.ownbox _ _ b j E (by rw [hi];simp [PV.own]) hb G
   rw [hi] at ab H
   obtain⟨A,af⟩:=h.down n
   have J:(s.down n).b.length=s.b.length:=by simp [PS.down]
   have F:∀ u q b,zQ g (s.down n) (zB a) w u q->q.own≠none->zc u=some b->zc (zB a i)=some b->False:=fun u q b hu hq hb S=>by
    obtain⟨C,y⟩:=af u q hu hq
    have:=ae u q b C hq hb S
    rw [hi] at this
    exact y this
   have O:∀ b,zc (zB a i)=some b->B.W b:=fun b hb=>(zX H (by simp [PV.own]) hb).2
   have Z:Dat g.D w (zB a i) (.sl es .sh):=by
    rcases ab with(hr | ⟨_,_,hh,_⟩) | ⟨_,_,_,_,_,hh,_⟩
    ·exact hr.sh
    ·cases hh
    ·cases hh
   have U:yW g.D (fun _=>True) w (zB a i) (.sl es (.r 0 X)):=by
    rcases H with T | ⟨gg,M,N,e,C,y,L⟩
    ·exact .inl T
    ·exact .inr ⟨gg,M,N,e,C,trivial,L⟩
   intro next Q T
   show o.upon P a next Q ((execOp a.eval o).run P w)
   rw [Jk ho hc hargs hC.1,Oper.upon_enter]
   have Y:((x1::xl).map a.eval).toArray=#[zB a i]++(xl.map a.eval).toArray:=by simp [ag]
   rw [Y]
   refine(hC.2 g.D w (zB a i) (xl.map a.eval).toArray h.gl h.dlt (by simp [h1]) (fun j p V=>by have:=h2 j p V;simpa using this) Z U).mono ?_
   rintro e w' ⟨u,D',rfl,⟨o1,o2,o3,o4⟩,k1,k2,k3,k4,k5,k6,k7⟩
   show next (a.put o.dst u) w'
   have hF:=A.frame (w':=w') D' k2 (fun j G=>k1 _ (A.ρlt G) fun e=>I _ j e (by rw [J] at G;exact G) rfl) (fun u p b C y L=>k1 b (zX (A.owns u p C) y L).1 fun e=>F u p b C y L e) k3
    (fun b o hD=>by
      rcases k4 b o hD with q | q | q
      ·exact .inl q
      ·refine .inr ⟨.inl (Nat.le_trans h.fr.size q),fun j G e=>?_,fun u p C y e=>?_⟩
       ·have:=A.ρlt G;omega
       ·have:=(zX (A.owns u p C) y e).1;omega
      ·exact .inr ⟨O b q,fun j G=>I b j q (by rw [J] at G;exact G),fun u p C y e=>F u p b C y e q⟩) k5 o1 o2 o3 o4
    (fun k hk T=>k1 k (Nat.lt_of_lt_of_le hk h.fr.size) fun e=>by
      rcases O k e with q | q
      ·omega
      ·exact T q)
   have ak:Rel D' g.ρ (s.down n).b.length w' u (.sl rs (.r n X)):=by
    exact .dat (k6.owned n X)
   have:=hF.put (u:=u) (p:=.sl rs (.r n X)) o.dst ak fun _=>⟨?_,fun v q b C y L q4=>?_,fun b j C y=>?_⟩
   ·rw [<-zN hd] at this
    exact T _ _ _ _ hk this
   ·rcases k7 with T | ⟨gg,M,N,e,C,y,L⟩
    ·exact .inl T
    ·refine .inr ⟨gg,M,N,e,C,?_,L⟩
     rcases y with y | y
     ·exact .inl (Nat.le_trans h.fr.size y)
     ·exact O _ y
   ·exfalso
    have hs:zQ g (s.down n) (zB a) w v q:=by
     rcases C with aj | ⟨i2,j,ad,r1,r2,r3⟩
     ·exact .inl aj
     ·refine .inr ⟨i2,j,ad,r1,r2,?_⟩
      have G:=(List.getElem?_eq_some_iff.1 r1).1
      rw [<-r3]
      exact(World.cell?_of_block (a:=⟨g.ρ i2,j,none⟩) (k1 _ (A.ρlt G) fun e=>I _ i2 e (by rw [J] at G;exact G) rfl)).symm
    have e1:=(zX (A.owns v q hs) y L).1
    have e2:=(zX k7 (by simp [PV.own]) q4).2
    rcases e2 with e2 | e2
    ·omega
    ·exact F v q b hs y L e2
   ·have e1:=A.ρlt y
    have e2:=(zX k7 (by simp [PV.own]) C).2
    rcases e2 with e2 | e2
    ·show g.ρ j≠b
     omega
    ·exact I b j e2 (by rw [J] at y;exact y)
theorem zmn {t e:TypeId} {n n0:Nat} {parts:Array (Nat × Operand)} {C:TypeInfo} {zs:List PV} {S:List PO} {K:PS->Prop} (M:∀ t,o.dst=some t->t<a.tmps.size) (h:R B g s (zB a) w) (ho:o.op=.buildSlice t n parts) (U:P.underlying t=some (.slice e)) (V:P.info? e=some C) (hz:xg P e=some zs)
 (Z:Qu (parts.toList.map (·.2))=some S) (hi:parts.toList.map (·.1)=List.range n) (Y:n * C.size<=16777216) (H:n<=maxLen) (hk:yP s C.size S fun J=>K (s.put o.dst (.sl J (.r n0 C.size)))):Kz P o B a w K:=by
 obtain⟨J,y,I,A,hr,O,G⟩:=KF (h.rd (o:=o)) ho U V hz Z hi Y H hk
 have hb:Below w.heap.size w (w.alloc (.cells y e)):=(Below.refl _ _).alloc (Nat.le_refl _) _
 intro next Q N
 show o.upon P a next Q ((execOp a.eval o).run P w)
 rw [hr]
 by_cases F:J=[]
 ·subst F
  obtain rfl:0=n:=A
  have T:=h.grow hb g.D (fun _ _ h=>h) (fun _ _ h=>.inl h) fun b o X=>Nat.lt_of_lt_of_le (h.dlt b o X) hb.size
  have:=T.put (u:=.slice (some ⟨w.heap.size,0,none⟩) 0 0) (p:=.sl [] (.r n0 C.size)) o.dst (.dat ?_) fun _=>⟨.inl ⟨_,rfl,rfl⟩,fun v q b _ _ _ k4=>(by cases k4),fun b i I _=>(by cases I)⟩
  ·rw [<-zN M] at this
   exact N _ _ _ _ I this
  ·exact .sl _ 0 1 [] _ 0 0 (fun _=>undef) (Nat.le_refl _) (fun h=>by cases h) (Nat.zero_le _) (fun h=>absurd rfl h) (fun i e h=>by simp at h) (fun j h=>absurd h (by simp)) (fun i e j p h=>by simp at h)
 ·have L:y.size=n * C.size:=by
   have:=O.1
   rw [A] at this
   simpa using this
  obtain⟨g2,E⟩:=h.fresh (n0:=n0) hb (Nat.le_refl _) (World.alloc_heap_new w (.cells y e)) O G (by omega) H L F o.dst
  rw [<-zN M,A] at E
  exact N _ _ _ _ I E
theorem zcW {b:List (List PV)} {p:PV} (h:p.isB=false):p.fz1 b=p:=by cases p<;>first | rfl | cases h
theorem zcB {D:Nat->Nat->Prop} {w:World} {u:Value} {p:PV} (h:Dat D w u p):p.isB=false:=by cases h<;>rfl
theorem zhI {b:List (List PV)} {p:PV}:(p.fz b).own=p.own:=by cases p<;>rfl
theorem R.fz {x:Nat->Value} (h:R B g s x w) (hb:s.b.all zY=true):R B ⟨fun b o=>g.D b o\/∃(i:Nat) (a:List PV),s.b[i]? = some a/\g.ρ i=b/\o<a.length,g.ρ⟩ s.fz x w:=by
 have box:∀(i:Nat) a,s.b[i]? = some a->∀ o,Dat (fun b o=>g.D b o\/∃(i:Nat) (a:List PV),s.b[i]? = some a/\g.ρ i=b/\o<a.length) w (.pointer (some ⟨g.ρ i,o,none⟩)) (.cp (a.map PV.sh) o):=by
  intro i a hi o
  obtain⟨_,vs,e,T,hz,hr⟩:=h.boxes i a hi
  have:=Dat.cp (D:=fun b o=>g.D b o\/∃(i:Nat) (a:List PV),s.b[i]? = some a/\g.ρ i=b/\o<a.length) (w:=w) (g.ρ i) 0 (a.map PV.sh) o (fun j=>vs.getD j undef) (fun j hj=>by
   have X:j<a.length:=by simpa using hj
   refine⟨.inr ⟨i,a,hi,rfl,by omega⟩,?_,(hr j _ (List.getElem?_eq_getElem X)).2⟩
   have Y:j<vs.size:=by omega
   simp [World.cell?,T,Y]) (fun j p N=>by
   rw [List.getElem?_map] at N
   obtain⟨q,C,rfl⟩:=Option.map_eq_some_iff.1 N
   have hd:q.isD=true:=by
    have A:=List.all_eq_true.1 hb a (List.mem_of_getElem? hi)
    exact List.all_eq_true.1 A q (List.mem_of_getElem? C)
   exact(((hr j q C).1.data hd).sh).mono (fun _ _ h=>.inl h) fun _ _ _ _ h=>h)
  simpa using this
 have H:∀ {v:Value} {p:PV},Rel1 g.D g.ρ s.b.length w v p->Dat (fun b o=>g.D b o\/∃(i:Nat) (a:List PV),s.b[i]? = some a/\g.ρ i=b/\o<a.length) w v (p.fz1 s.b):=by
  rintro v p (A | ⟨i,o,rfl,hi,rfl⟩)
  ·rw [zcW (zcB A)]
   exact A.mono (fun _ _ h=>.inl h) fun _ _ _ _ h=>h
  ·show Dat _ w _ (.cp ((s.b[i]?.getD []).map PV.sh) o)
   rw [List.getElem?_eq_getElem hi]
   exact box i _ (List.getElem?_eq_getElem hi) o
 have K:∀(f:Fn) (I J:Array Value) (F a:List PV),I.size=F.length->J.size=a.length->(∀(i:Nat) q,F[i]? = some q->Rel1 g.D g.ρ s.b.length w (I.getD i undef) q)->(∀(i:Nat) q,a[i]? = some q->Rel1 g.D g.ρ s.b.length w (J.getD i undef) q) ->
  Dat (fun b o=>g.D b o\/∃(i:Nat) (a:List PV),s.b[i]? = some a/\g.ρ i=b/\o<a.length) w (.func f I J) (.fn f (F.map (PV.fz1 s.b)) (a.map (PV.fz1 s.b))):=by
  intro f I J F a A M P Q
  refine .fn f I J _ _ (by simpa using A) (by simpa using M) (fun i q C=>?_) fun i q C=>?_
  ·rw [List.getElem?_map] at C
   obtain⟨S,O,rfl⟩:=Option.map_eq_some_iff.1 C
   exact H (P i S O)
  ·rw [List.getElem?_map] at C
   obtain⟨S,O,rfl⟩:=Option.map_eq_some_iff.1 C
   exact H (Q i S O)
 have rel:∀ {v:Value} {p:PV},Rel g.D g.ρ s.b.length w v p->Dat (fun b o=>g.D b o\/∃(i:Nat) (a:List PV),s.b[i]? = some a/\g.ρ i=b/\o<a.length) w v (p.fz s.b):=by
  rintro v p (A | ⟨f,I,J,F,a,rfl,rfl,A,M,P,Q⟩)
  ·by_cases hf:∃ f F a,p=.fn f F a
   ·obtain⟨f,F,a,rfl⟩:=hf
    rcases A with A | ⟨i,o,A,_⟩
    ·cases A with
     | fn f I J F a A M P Q=>exact K f I J F a A M (fun i q C=>.inl (P i q C)) fun i q C=>.inl (Q i q C)
    ·cases A
   ·have e:p.fz s.b=p.fz1 s.b:=by cases p<;>first | rfl | exact absurd ⟨_,_,_,rfl⟩ hf
    rw [e];exact H A
  ·exact K f I J F a A M P Q
 have get:∀ t,s.fz.get t=(s.get t).fz s.b:=fun t=>by
  have ad:∀ l:List (Nat × PV),yr (l.map fun y=>(y.1,y.2.fz s.b)) t=(yr l t).fz s.b:=fun l=>by
   induction l with
   | nil=>rfl
   | cons y l ih=>
     obtain⟨j,q⟩:=y
     simp only [List.map_cons,yr]
     split
     ·rfl
     ·exact ih
  exact ad s.t
 have sl:∀ u q,zQ ⟨fun b o=>g.D b o\/∃(i:Nat) (a:List PV),s.b[i]? = some a/\g.ρ i=b/\o<a.length,g.ρ⟩ s.fz x w u q->q.own≠none->∃ p,zQ g s x w u p/\q=p/\p.own≠none:=by
  rintro u q (⟨t,rfl,rfl⟩ | ⟨i,j,a,A,_⟩) ho
  ·rw [get] at ho ⊢
   rw [zhI] at ho
   refine⟨s.get t,h.slot t,?_,ho⟩
   cases e:s.get t<;>first | rfl | (rw [e] at ho;exact absurd rfl ho)
  ·simp [PS.fz] at A
 refine⟨fun t=>?_,fun i a hi=>by simp [PS.fz] at hi,fun i j hi=>by simp [PS.fz] at hi,fun u q C=>?_,fun u q u' S b A M o1 o2 b1 b2=>?_,fun u q b i A o1 b1 hi=>by simp [PS.fz] at hi,fun b o E=>?_,fun i hi=>by simp [PS.fz] at hi,?_⟩
 ·rw [get];exact .dat (rel (h.slots t))
 ·by_cases ho:q.own=none
  ·exact zr ho
  ·obtain⟨p,N,rfl,G⟩:=sl u q C ho
   have ab:=h.owns u q N
   cases q<;>try exact absurd rfl G
   rename_i es ow
   cases ow<;>try exact absurd rfl G
   rcases ab with hn | ⟨gg,L,U,e,rfl,k2,k3,k4,k5,k6⟩
   ·exact .inl hn
   ·refine .inr ⟨gg,L,U,e,rfl,k2,k3,k4,k5,fun o Z E=>?_⟩
    rcases E with E | ⟨i,a,hi,e1,_⟩
    ·exact k6 o Z E
    ·have V:=(List.getElem?_eq_some_iff.1 hi).1
     cases L with
     | zero=>
       obtain⟨_,vs,e2,T,hz,_⟩:=h.boxes i a hi
       rw [e1,k3] at T
       cases T
       omega
     | succ L=>exact h.ownbox _ _ gg i N G rfl V e1
 ·obtain⟨p,N,rfl,ho⟩:=sl u q A o1
  obtain⟨p',ac,rfl,G⟩:=sl u' S M o2
  exact h.disj _ _ _ _ b N ac ho G b1 b2
 ·rcases E with E | ⟨i,a,hi,rfl,_⟩
  ·exact h.dlt b o E
  ·exact h.ρlt (List.getElem?_eq_some_iff.1 hi).1
 ·refine⟨h.fr.os,h.fr.tape,h.fr.output,h.fr.size,h.fr.block,fun b o E=>.inl (h.fr.d0 b o E),h.fr.cell,fun b o E=>?_,h.fr.d0lt⟩
  rcases E with E | ⟨i,a,hi,rfl,_⟩
  ·exact h.fr.new b o E
  ·exact .inr (h.boxes i a hi).1
theorem ZO {k:PK} {K:PS->Prop} (S:XR P o=some k) (E:∀ t,o.dst=some t->t<a.tmps.size) (h:R B g s (zB a) w) (hk:k.e P o.dst s K):Kz P o B a w K:=by
 have L:(k.q P s fun p=>K (s.put o.dst p))->Kz P o B a w K:=fun hk=>Z0 E h (y9 S h.rd hk)
 have hi:=vo S
 cases k with
 | mv x=>
   cases x with
   | t i=>obtain⟨x,ho,G⟩:=hi;exact zmp E h ho G hk
   | c p=>exact L hk
   | f p=>exact L hk
 | ld x ag n=>
   cases ag with
   | true=>exact L hk
   | false=>
     by_cases N:n=1
     ·subst N
      obtain⟨t,y,ho,hs,G⟩:=hi
      simp only [PK.e] at hk
      split at hk
      ·rename_i i o' hb
       split at hk
       ·rename_i Y hcs
        split at hk
        ·rename_i p O
         exact zjQ E h ho hs G hb hcs O hk
        ·exact hk.elim
       ·exact hk.elim
      ·exact L hk
     ·refine L ?_
      unfold PK.e at hk
      split at hk<;>first | exact hk | simp_all
 | bs sz ps=>
   obtain⟨t,e,n,parts,ie,zs,ho,A,F,hz,O,ab,N,ae,rfl⟩:=hi
   simp only [PK.e] at hk
   split at hk
   ·rename_i d hdst
    rw [<-hdst] at hk
    exact zmn (n0:=d) E h ho A F hz O ab N (by unfold maxLen;omega) hk
   ·exact L hk
 | al zs=>
   obtain⟨e,ho,hz⟩:=hi
   obtain⟨i,z,g1,g2,rfl,g4⟩:=qJ hz
   have J:(execOp a.eval o).run P w=.ok (.value (.pointer (some ⟨w.heap.size,0,none⟩))) (w.alloc (.cells z.cells e)):=by
    have ad:(zeroValue e).run P w=.ok z w:=by simp [zeroValue,typeInfo,g1,g2]
    simp [execOp,ho,Instr.alloc,ad,newVar,newRow]
   have M:=yT (D:=g.D) (w:=w) g4
   have ac:(z.cells.toList.map Q6).map PV.sh=z.cells.toList.map Q6:=by
    rw [List.map_map]
    apply List.map_congr_left
    intro v _
    show (Q6 v).sh=Q6 v
    unfold Q6;split<;>rfl
   exact zgO E h (u:=z) (cs:=z.cells.toList.map Q6) ⟨M.1,fun i p O=>⟨.dat (M.2 i p O).1,(M.2 i p O).2⟩⟩ J (by rw [ac];exact hk)
 | bo x=>
   obtain⟨e,y,ho,G⟩:=hi
   obtain⟨Y,A,I⟩:=xY hk (h.rd (o:=o).op G (by simp [ho,Op.operands]))
   have J:(execOp a.eval o).run P w=.ok (.value (.pointer (some ⟨w.heap.size,0,none⟩))) (w.alloc (.cells (a.eval y).cells e)):=by
    simp [execOp,ho,Instr.box,newVar,newRow]
   exact zgO E h I J A
 | st x y n=>
   obtain⟨t,x1,x2,ag,ho,hs,G,X⟩:=hi
   simp only [PK.e] at hk
   split at hk
   ·rename_i i o' hb
    split at hk
    ·rename_i Y hcs
     exact zmq E h ho hs G X hb hcs hk
    ·exact hk.elim
   ·exact hk.elim
 | ap x y sz by_=>
   obtain⟨x1,x2,t,e,i,z0,hA,G,X,rfl,rfl⟩:=hi
   simp only [PK.e] at hk
   split at hk
   ·rename_i es n sz' hb
    obtain⟨rfl,hT,hk⟩:=hk
    obtain⟨H,k,V,A,I,F⟩:=y8 hk
    cases x with
    | t j=>exact zgN E h hA G X hb V A I F
    | c p=>cases hT
    | f p=>cases hT
   ·rename_i es hb
    have U:(PK.q P s (.ap x y i.size i.bytes) fun p=>K (s.put o.dst p.strip))->Kz P o B a w K:=fun hk=>by
     obtain⟨p,A,I,F⟩:=y9 S (h.rd (o:=o)) hk
     refine Z0 E h ⟨p.strip,A,p.strip_own,fun next Q N=>F next Q fun u w' hb hr _=>N u w' hb hr.strip fun _ _ _=>xA p.strip_isN⟩
    split at hk
    ·rename_i d hdst
     obtain⟨H,k,V,h0,A,I,F⟩:=y8 hk
     rw [<-hdst] at F
     by_cases hz:H=[]/\es≠[]
     ·obtain⟨rfl,hz⟩:=hz
      refine U ?_
      simp only [PK.q,hb,V,QA]
      refine⟨h0,A,I,?_⟩
      have:apO es [] d i.size=.sh:=by cases es<;>first | exact absurd rfl hz | rfl
      rw [this] at F
      exact F
     ·have T:H=[]->es=[]:=fun e=>Classical.byContradiction fun h=>hz ⟨e,h⟩
      have:apO es H d i.size=.r d i.size:=by cases es<;>cases H<;>first | rfl | (have:=T rfl;cases this)
      rw [this] at F
      exact zjP (n0:=d) E h hA G X hb V h0 A I T F
    ·rename_i hdst
     exact U hk
   ·exact hk.elim
 | ca f xs=>
   obtain⟨c,ho,A,I⟩:=hi
   have C:(∃ r,Cn P f (xs.map fun x=>(s.ev x).sh) r/\zY (xs.map fun x=>(s.ev x).sh)=true/\K (s.put o.dst r))->Kz P o B a w K:=fun⟨r,Z,hD,hk⟩=>zmo E h ho A I Z hD hk
   simp only [PK.e] at hk
   split at hk
   ·rename_i i xs'
    split at hk
    ·rename_i es n sz G
     rcases hk with hk | ⟨rs,Z,hD,hk⟩
     ·exact C hk
     ·exact zjR E h ho A I G Z hD hk
    ·exact C hk
   ·exact C hk
 | sc x lo hi' sz=>
   obtain⟨p,A,I,F⟩:=y9 S (h.rd (o:=o)) (show PK.q P s (.sc x lo hi' sz) fun p=>K (s.put o.dst p.strip) from hk)
   exact Z0 E h ⟨p.strip,A,p.strip_own,fun next Q N=>F next Q fun u w' hb hr _=>N u w' hb hr.strip fun _ _ _=>xA p.strip_isN⟩
 | mf f fs Y=>
   simp only [PK.e] at hk
   split at hk
   ·have h':=h.fz hk.1
    exact Z0 E h' (y9 S h'.rd hk.2)
   ·exact L hk
 | _=>exact L hk
end Go.Proofs.YtonhfknjcbakiaaGreatDoor
