import Derived.Test.YtopfkkogooocgaaGreatB11
set_option maxHeartbeats 16000000
set_option linter.unusedVariables false
set_option linter.unusedSimpArgs false
namespace Go.Proofs.YtopfkkogooocgaaGreat
open Go.RowKit
variable {P:Program} {o:Oper} {D:Nat->Nat->Prop} {ρ:Nat->Nat} {nb:Nat} {s:PS} {a:Act} {w:World}
theorem KA {c:Call} {x y:Operand} {t t' e:TypeId} {i:TypeInfo} {zs:List PV} (ho:o.op=.call c) (hc:c.callee=.builtin .append) (ha:c.args.toList=[x,y]) (hat:c.argTypes.toList=[t,t']) (ht:P.underlying t=some (.slice e)) (hi:P.info? e=some i) (hcond:t=t'/\0<i.size/\0<i.bytes) (hz:xg P e=some zs) (hl:zs.length=i.size) :
 ∃ z,ApOp P o x y t e i z:=by
 obtain⟨i',z,g1,g2,rfl,_⟩:=qJ hz
 rw [hi] at g1;cases g1
 obtain⟨rfl,h1,h2⟩:=hcond
 exact⟨z,⟨c,ho,hc,Array.toList_inj.1 ha,Array.toList_inj.1 hat⟩,ht,hi,g2,by simpa using hl,h1,h2⟩
theorem y9 {k:PK} {K:PV->Prop} (hc:XR P o=some k) (hR:Rd D ρ s (zB a) (zA o) w) (hk:k.q P s K):QS P o D ρ s a w K:=by
 unfold XR at hc
 split at hc
 case h_1 x ho=>simp only [Option.map_eq_some_iff] at hc;obtain⟨x',hx,rfl⟩:=hc;exact zlz hR (.inl ho) hx hk
 case h_2 x ho=>simp only [Option.map_eq_some_iff] at hc;obtain⟨x',hx,rfl⟩:=hc;exact zlz hR (.inr ho) hx hk
 case h_3 c x y ho=>
  simp only [Option.bind_eq_some_iff,Option.map_eq_some_iff] at hc
  obtain⟨c',h1,x',h2,y',h3,rfl⟩:=hc
  exact zny hR ho h1 h2 h3 hk
 case h_4 e ho=>simp only [Option.map_eq_some_iff] at hc;obtain⟨z,hz,rfl⟩:=hc;exact hk.elim
 case h_5 e x ho=>simp only [Option.map_eq_some_iff] at hc;obtain⟨z,hz,rfl⟩:=hc;exact hk.elim
 case h_6 t parts ho=>
  simp only [Option.bind_eq_some_iff] at hc
  obtain⟨zs,hz,hc⟩:=hc
  split at hc
  ·rename_i fs hu
   split at hc
   ·rename_i hall
    simp only [Option.map_eq_some_iff] at hc
    obtain⟨ps,hp,rfl⟩:=hc
    rw [List.all_eq_true] at hall
    exact zlt hR ho hu hz hall hp hk
   ·cases hc
  ·rename_i n e hu
   simp only [Option.bind_eq_some_iff,Option.map_eq_some_iff] at hc
   obtain⟨i,hi,ps,hp,rfl⟩:=hc
   exact zls hR ho hu hi hz hp hk
  ·cases hc
 case h_7 t n parts ho=>
  split at hc
  ·rename_i e hu
   simp only [Option.bind_eq_some_iff] at hc
   obtain⟨i,hi,zs,hz,ps,hp,hc⟩:=hc
   split at hc
   ·rename_i hcond
    cases hc
    exact znk hR ho hu hi hz hp hcond.1 hcond.2.1 (by unfold maxLen;omega) hk
   ·cases hc
  ·cases hc
 case h_8 t x ho=>
  simp only [Option.bind_eq_some_iff] at hc
  obtain⟨⟨ag,n⟩,hs,hc⟩:=hc
  simp only at hc
  split at hc
  ·simp only [Option.map_eq_some_iff] at hc
   obtain⟨x',hx,rfl⟩:=hc
   exact znt hR ho hs hx hk
  ·cases hc
 case h_9 t x y ho=>
  simp only [Option.bind_eq_some_iff,Option.map_eq_some_iff] at hc
  obtain⟨⟨ag,n⟩,hs,x',hx,y',hy,rfl⟩:=hc
  exact hk.elim
 case h_10 x ho=>simp only [Option.map_eq_some_iff] at hc;obtain⟨x',hx,rfl⟩:=hc;exact znx hR ho hx hk
 case h_11 op t x y t' ho=>
  simp only [Option.bind_eq_some_iff] at hc
  obtain⟨x',hx,y',hy,hc⟩:=hc
  have hop:∀ {b:Bool},((op == .eql || op == .neq) && b)=true->op=.eql\/op=.neq:=fun h=>by
   rw [Bool.and_eq_true] at h
   have:=h.1
   cases op<;>first | exact .inl rfl | exact .inr rfl | cases this
  split at hc
  ·rename_i hcond
   cases hc
   rw [Bool.and_assoc] at hcond
   have h1:=hop hcond
   simp only [Bool.and_eq_true] at hcond
   obtain⟨_,h2,h3⟩:=hcond
   unfold zc6 at h3
   split at h3
   ·rename_i ms hu
    have:y=.const .nilIface:=by
     unfold JL at h2
     split at h2
     ·rfl
     ·cases h2
    subst this
    exact zlB hR ho h1 hu hx hk
   ·cases h3
  ·split at hc
   ·rename_i hcond
    cases hc
    have h1:=hop hcond
    rw [Bool.and_eq_true] at hcond
    exact zlx hR ho h1 hcond.2 hx hy hk
   ·split at hc
    ·rename_i hcond
     cases hc
     have h1:=hop hcond
     rw [Bool.and_eq_true] at hcond
     have h2:=hcond.2
     unfold zh0 at h2
     split at h2
     ·rename_i hu;exact zlu hR ho h1 hu hx hy hk
     ·cases h2
    ·split at hc
     ·cases hc
      exact zlv hR ho hx hy hk
     ·split at hc
      ·rename_i hcond
       cases hc
       rw [Bool.and_eq_true] at hcond
       exact zpV hR ho hcond.1 hx hy hk
      ·cases hc
 case h_12 t x ho=>simp only [Option.map_eq_some_iff] at hc;obtain⟨x',hx,rfl⟩:=hc;exact zlC hR ho hx hk
 case h_13 t t' x ho=>
  split at hc
  ·rename_i k1 k2 h1 h2
   simp only [Option.map_eq_some_iff] at hc
   obtain⟨x',hx,rfl⟩:=hc
   exact znn hR ho h1 h2 hx hk
  ·cases hc
 case h_14 t x ho=>
  split at hc
  ·cases hc
  ·rename_i d hu hne
   simp only [Option.map_eq_some_iff] at hc
   obtain⟨x',hx,rfl⟩:=hc
   exact znw hR ho hne (fun ms e=>hu ms e) hx hk
  ·cases hc
 case h_15 f fs cs ho=>
  simp only [Option.bind_eq_some_iff,Option.map_eq_some_iff] at hc
  obtain⟨fs',h1,cs',h2,rfl⟩:=hc
  exact znv hR ho h1 h2 hk
 case h_16 t x lo hi ho=>
  split at hc
  ·rename_i e hu
   simp only [Option.bind_eq_some_iff,Option.map_eq_some_iff] at hc
   obtain⟨i,hi',x',hx,lo',hlo,hi2,hhi,rfl⟩:=hc
   exact znz hR ho hu hi' hx hlo hhi hk
  ·cases hc
 case h_17 t x f ho=>
  split at hc
  ·rename_i fs hu
   simp only [Option.bind_eq_some_iff] at hc
   obtain⟨fd,hf,i,hi,hc⟩:=hc
   split at hc
   ·cases hc
   ·rename_i hne
    simp only [Option.map_eq_some_iff] at hc
    obtain⟨x',hx,rfl⟩:=hc
    exact znp hR ho hu hf hi hne hx hk
  ·cases hc
 case h_18 t x f ho=>
  split at hc
  ·rename_i fs hu
   simp only [Option.bind_eq_some_iff] at hc
   obtain⟨fd,hf,⟨ag,n⟩,hs,hc⟩:=hc
   simp only at hc
   split at hc
   ·simp only [Option.map_eq_some_iff] at hc
    obtain⟨x',hx,rfl⟩:=hc
    exact znq hR ho hu hf hs hx hk
   ·cases hc
  ·cases hc
 case h_19 t x y ho=>
  split at hc
  ·rename_i e hu
   simp only [Option.bind_eq_some_iff,Option.map_eq_some_iff] at hc
   obtain⟨i,hi,x',hx,y',hy,rfl⟩:=hc
   exact znr hR ho hu hi hx hy hk
  ·rename_i n e hu
   simp only [Option.bind_eq_some_iff,Option.map_eq_some_iff] at hc
   obtain⟨i,hi,x',hx,y',hy,rfl⟩:=hc
   exact zni hR ho hu hi hx hy hk
  ·cases hc
 case h_20 t x y ho=>
  split at hc
  ·rename_i n e hu
   simp only [Option.bind_eq_some_iff] at hc
   obtain⟨⟨ag,m⟩,hs,hc⟩:=hc
   simp only at hc
   split at hc
   ·simp only [Option.bind_eq_some_iff,Option.map_eq_some_iff] at hc
    obtain⟨x',hx,y',hy,rfl⟩:=hc
    exact zns hR ho hu hs hx hy hk
   ·cases hc
  ·cases hc
 case h_21 x i ho=>simp only [Option.map_eq_some_iff] at hc;obtain⟨x',hx,rfl⟩:=hc;exact zno hR ho hx hk
 case h_22 c ho=>
  split at hc
  ·rename_i x t h1 h2 h3
   split at hc
   ·rename_i e hu
    simp only [Option.map_eq_some_iff] at hc
    obtain⟨x',hx,rfl⟩:=hc
    exact znu hR ho h1 (Array.toList_inj.1 h2) (Array.toList_inj.1 h3) hu hx hk
   ·cases hc
  ·rename_i x y t t' h1 h2 h3
   split at hc
   ·rename_i e hu
    simp only [Option.bind_eq_some_iff] at hc
    obtain⟨i,hi,hc⟩:=hc
    split at hc
    ·rename_i hcond
     simp only [Option.bind_eq_some_iff] at hc
     obtain⟨zs,hz,hc⟩:=hc
     split at hc
     ·rename_i hl
      simp only [Option.bind_eq_some_iff,Option.map_eq_some_iff] at hc
      obtain⟨x',hx,y',hy,rfl⟩:=hc
      obtain⟨z,hA⟩:=KA ho h1 h2 h3 hu hi hcond hz hl
      exact znj hR hA hx hy hk
     ·cases hc
    ·cases hc
   ·cases hc
  ·rename_i x y h1 h2
   simp only [Option.bind_eq_some_iff,Option.map_eq_some_iff] at hc
   obtain⟨x',hx,y',hy,rfl⟩:=hc
   exact zly (m:=true) hR ho h1 (Array.toList_inj.1 h2) hx hy hk
  ·rename_i x y h1 h2
   simp only [Option.bind_eq_some_iff,Option.map_eq_some_iff] at hc
   obtain⟨x',hx,y',hy,rfl⟩:=hc
   exact zly (m:=false) hR ho h1 (Array.toList_inj.1 h2) hx hy hk
  ·rename_i f h1
   simp only [Option.map_eq_some_iff] at hc
   obtain⟨xs,hx,rfl⟩:=hc
   exact znl hR ho h1 rfl hx hk
  ·rename_i t h1
   simp only [Option.map_eq_some_iff] at hc
   obtain⟨xs,hx,rfl⟩:=hc
   exact znm hR ho h1 rfl hx hk
  ·rename_i t m h1
   simp only [Option.map_eq_some_iff] at hc
   obtain⟨xs,hx,rfl⟩:=hc
   exact zpU hR ho h1 rfl hx hk
  ·cases hc
 case h_23 t x ho=>simp only [Option.map_eq_some_iff] at hc;obtain⟨x',hx,rfl⟩:=hc;exact zlA hR ho hx hk
 case h_24=>cases hc
def zmd (P:Program) (o:Oper):PK->Prop
 | .mv y=>∃ x,(o.op=.move x\/o.op=.assign x)/\po x=some y
 | .ld y ag n=>∃ t x,o.op=.load t x/\XH P t=some (ag,n)/\po x=some y
 | .al zs=>∃ e,o.op=.alloc e/\xg P e=some zs
 | .bs sz ps=>∃ t e n parts ie zs,o.op=.buildSlice t n parts/\P.underlying t=some (.slice e)/\P.info? e=some ie/\xg P e=some zs/\Qu (parts.toList.map (·.2))=some ps/\parts.toList.map (·.1)=List.range n/\n * ie.size<=16777216/\n<=16777216/\ie.size=sz
 | .bo y=>∃ e x,o.op=.box e x/\po x=some y
 | .st y z n=>∃ t x x2 ag,o.op=.store t x x2/\XH P t=some (ag,n)/\po x=some y/\po x2=some z
 | .ap y z sz by_=>∃ x x2 t e i z0,ApOp P o x x2 t e i z0/\po x=some y/\po x2=some z/\i.size=sz/\i.bytes=by_
 | .ca f xs=>∃ c,o.op=.call c/\c.callee=.value (.func f)/\Qu c.args.toList=some xs
 | _=>True
theorem comp_inv {k:PK} (hc:XR P o=some k):zmd P o k:=by
 unfold XR at hc
 split at hc
 case h_1 x ho=>simp only [Option.map_eq_some_iff] at hc;obtain⟨x',hx,rfl⟩:=hc;exact⟨x,.inl ho,hx⟩
 case h_2 x ho=>simp only [Option.map_eq_some_iff] at hc;obtain⟨x',hx,rfl⟩:=hc;exact⟨x,.inr ho,hx⟩
 case h_3 c x y ho=>
  simp only [Option.bind_eq_some_iff,Option.map_eq_some_iff] at hc
  obtain⟨c',h1,x',h2,y',h3,rfl⟩:=hc
  trivial
 case h_4 e ho=>simp only [Option.map_eq_some_iff] at hc;obtain⟨z,hz,rfl⟩:=hc;exact⟨e,ho,hz⟩
 case h_5 e x ho=>simp only [Option.map_eq_some_iff] at hc;obtain⟨z,hz,rfl⟩:=hc;exact⟨e,x,ho,hz⟩
 case h_6 t parts ho=>
  simp only [Option.bind_eq_some_iff] at hc
  obtain⟨zs,hz,hc⟩:=hc
  split at hc
  ·rename_i fs hu
   split at hc
   ·rename_i hall
    simp only [Option.map_eq_some_iff] at hc
    obtain⟨ps,hp,rfl⟩:=hc
    rw [List.all_eq_true] at hall
    trivial
   ·cases hc
  ·rename_i n e hu
   simp only [Option.bind_eq_some_iff,Option.map_eq_some_iff] at hc
   obtain⟨i,hi,ps,hp,rfl⟩:=hc
   trivial
  ·cases hc
 case h_7 t n parts ho=>
  split at hc
  ·rename_i e hu
   simp only [Option.bind_eq_some_iff] at hc
   obtain⟨i,hi,zs,hz,ps,hp,hc⟩:=hc
   split at hc
   ·rename_i hcond
    cases hc
    exact⟨t,e,n,parts,i,zs,ho,hu,hi,hz,hp,hcond.1,hcond.2.1,hcond.2.2,rfl⟩
   ·cases hc
  ·cases hc
 case h_8 t x ho=>
  simp only [Option.bind_eq_some_iff] at hc
  obtain⟨⟨ag,n⟩,hs,hc⟩:=hc
  simp only at hc
  split at hc
  ·simp only [Option.map_eq_some_iff] at hc
   obtain⟨x',hx,rfl⟩:=hc
   exact⟨t,x,ho,hs,hx⟩
  ·cases hc
 case h_9 t x y ho=>
  simp only [Option.bind_eq_some_iff,Option.map_eq_some_iff] at hc
  obtain⟨⟨ag,n⟩,hs,x',hx,y',hy,rfl⟩:=hc
  exact⟨t,x,y,ag,ho,hs,hx,hy⟩
 case h_10 x ho=>simp only [Option.map_eq_some_iff] at hc;obtain⟨x',hx,rfl⟩:=hc;trivial
 case h_11 op t x y t' ho=>
  simp only [Option.bind_eq_some_iff] at hc
  obtain⟨x',hx,y',hy,hc⟩:=hc
  have hop:∀ {b:Bool},((op == .eql || op == .neq) && b)=true->op=.eql\/op=.neq:=fun h=>by
   rw [Bool.and_eq_true] at h
   have:=h.1
   cases op<;>first | exact .inl rfl | exact .inr rfl | cases this
  split at hc
  ·rename_i hcond
   cases hc
   rw [Bool.and_assoc] at hcond
   have h1:=hop hcond
   simp only [Bool.and_eq_true] at hcond
   obtain⟨_,h2,h3⟩:=hcond
   unfold zc6 at h3
   split at h3
   ·rename_i ms hu
    have:y=.const .nilIface:=by
     unfold JL at h2
     split at h2
     ·rfl
     ·cases h2
    subst this
    trivial
   ·cases h3
  ·split at hc
   ·rename_i hcond
    cases hc
    have h1:=hop hcond
    rw [Bool.and_eq_true] at hcond
    trivial
   ·split at hc
    ·rename_i hcond
     cases hc
     have h1:=hop hcond
     rw [Bool.and_eq_true] at hcond
     have h2:=hcond.2
     unfold zh0 at h2
     split at h2
     ·rename_i hu;trivial
     ·cases h2
    ·split at hc
     ·cases hc
      trivial
     ·split at hc
      ·cases hc
       trivial
      ·cases hc
 case h_12 t x ho=>simp only [Option.map_eq_some_iff] at hc;obtain⟨x',hx,rfl⟩:=hc;trivial
 case h_13 t t' x ho=>
  split at hc
  ·rename_i k1 k2 h1 h2
   simp only [Option.map_eq_some_iff] at hc
   obtain⟨x',hx,rfl⟩:=hc
   trivial
  ·cases hc
 case h_14 t x ho=>
  split at hc
  ·cases hc
  ·rename_i d hu hne
   simp only [Option.map_eq_some_iff] at hc
   obtain⟨x',hx,rfl⟩:=hc
   trivial
  ·cases hc
 case h_15 f fs cs ho=>
  simp only [Option.bind_eq_some_iff,Option.map_eq_some_iff] at hc
  obtain⟨fs',h1,cs',h2,rfl⟩:=hc
  trivial
 case h_16 t x lo hi ho=>
  split at hc
  ·rename_i e hu
   simp only [Option.bind_eq_some_iff,Option.map_eq_some_iff] at hc
   obtain⟨i,hi',x',hx,lo',hlo,hi2,hhi,rfl⟩:=hc
   trivial
  ·cases hc
 case h_17 t x f ho=>
  split at hc
  ·rename_i fs hu
   simp only [Option.bind_eq_some_iff] at hc
   obtain⟨fd,hf,i,hi,hc⟩:=hc
   split at hc
   ·cases hc
   ·rename_i hne
    simp only [Option.map_eq_some_iff] at hc
    obtain⟨x',hx,rfl⟩:=hc
    trivial
  ·cases hc
 case h_18 t x f ho=>
  split at hc
  ·rename_i fs hu
   simp only [Option.bind_eq_some_iff] at hc
   obtain⟨fd,hf,⟨ag,n⟩,hs,hc⟩:=hc
   simp only at hc
   split at hc
   ·simp only [Option.map_eq_some_iff] at hc
    obtain⟨x',hx,rfl⟩:=hc
    trivial
   ·cases hc
  ·cases hc
 case h_19 t x y ho=>
  split at hc
  ·rename_i e hu
   simp only [Option.bind_eq_some_iff,Option.map_eq_some_iff] at hc
   obtain⟨i,hi,x',hx,y',hy,rfl⟩:=hc
   trivial
  ·rename_i n e hu
   simp only [Option.bind_eq_some_iff,Option.map_eq_some_iff] at hc
   obtain⟨i,hi,x',hx,y',hy,rfl⟩:=hc
   trivial
  ·cases hc
 case h_20 t x y ho=>
  split at hc
  ·rename_i n e hu
   simp only [Option.bind_eq_some_iff] at hc
   obtain⟨⟨ag,m⟩,hs,hc⟩:=hc
   simp only at hc
   split at hc
   ·simp only [Option.bind_eq_some_iff,Option.map_eq_some_iff] at hc
    obtain⟨x',hx,y',hy,rfl⟩:=hc
    trivial
   ·cases hc
  ·cases hc
 case h_21 x i ho=>simp only [Option.map_eq_some_iff] at hc;obtain⟨x',hx,rfl⟩:=hc;trivial
 case h_22 c ho=>
  split at hc
  ·rename_i x t h1 h2 h3
   split at hc
   ·rename_i e hu
    simp only [Option.map_eq_some_iff] at hc
    obtain⟨x',hx,rfl⟩:=hc
    trivial
   ·cases hc
  ·rename_i x y t t' h1 h2 h3
   split at hc
   ·rename_i e hu
    simp only [Option.bind_eq_some_iff] at hc
    obtain⟨i,hi,hc⟩:=hc
    split at hc
    ·rename_i hcond
     simp only [Option.bind_eq_some_iff] at hc
     obtain⟨zs,hz,hc⟩:=hc
     split at hc
     ·rename_i hl
      simp only [Option.bind_eq_some_iff,Option.map_eq_some_iff] at hc
      obtain⟨x',hx,y',hy,rfl⟩:=hc
      obtain⟨z,hA⟩:=KA ho h1 h2 h3 hu hi hcond hz hl
      exact⟨x,y,t,e,i,z,hA,hx,hy,rfl,rfl⟩
     ·cases hc
    ·cases hc
   ·cases hc
  ·rename_i x y h1 h2
   simp only [Option.bind_eq_some_iff,Option.map_eq_some_iff] at hc
   obtain⟨x',hx,y',hy,rfl⟩:=hc
   trivial
  ·rename_i x y h1 h2
   simp only [Option.bind_eq_some_iff,Option.map_eq_some_iff] at hc
   obtain⟨x',hx,y',hy,rfl⟩:=hc
   trivial
  ·rename_i f h1
   simp only [Option.map_eq_some_iff] at hc
   obtain⟨xs,hx,rfl⟩:=hc
   exact⟨c,ho,h1,hx⟩
  ·rename_i t h1
   simp only [Option.map_eq_some_iff] at hc
   obtain⟨xs,hx,rfl⟩:=hc
   trivial
  ·rename_i t m h1
   simp only [Option.map_eq_some_iff] at hc
   obtain⟨xs,hx,rfl⟩:=hc
   trivial
  ·cases hc
 case h_23 t x ho=>simp only [Option.map_eq_some_iff] at hc;obtain⟨x',hx,rfl⟩:=hc;trivial
 case h_24=>cases hc
variable {B:Bs} {g:Gh}
def Kz (P:Program) (o:Oper) (B:Bs) (a:Act) (w:World) (K:PS->Prop):Prop:=
 ∀(next:Act->World->Prop) (Q:Exit->Act->World->Prop),(∀ s' g' u w',K s'->R B g' s' (zB (a.put o.dst u)) w'->next (a.put o.dst u) w')->o.wp P a w next Q
theorem zN {d:Option Nat} {u:Value} (hd:∀ t,d=some t->t<a.tmps.size):zB (a.put d u)=QO (zB a) d u:=by
 funext t
 cases d with
 | none=>simp [zB,QO,Act.put]
 | some d=>
   have:=hd d rfl
   by_cases e:d=t
   ·subst e;simp [zB,QO,Act.put,this]
   ·simp [zB,QO,Act.put,e,Array.getElem?_setIfInBounds_ne e]
theorem R.rd (h:R B g s (zB a) w):Rd g.D g.ρ s (zB a) (zA o) w:=⟨fun t _=>h.slots t,fun i cs hi=>(h.boxes i cs hi).2,h.gl⟩
theorem Z0 {K:PS->Prop} (hd:∀ t,o.dst=some t->t<a.tmps.size) (h:R B g s (zB a) w) (hq:QS P o g.D g.ρ s a w fun p=>K (s.put o.dst p)):Kz P o B a w K:=by
 obtain⟨p,hk,ho,hq⟩:=hq
 intro next Q hn
 refine hq next Q fun u w' hb hr _=>?_
 have hr':=hr.restrict
 have h':=h.grow (w':=w') hb (fun b o=>(g.D b o\/w.heap.size<=b)/\b<w'.heap.size) (fun b o hD=>⟨.inl hD,Nat.lt_of_lt_of_le (h.dlt b o hD) hb.size⟩) (fun b o hD=>hD.1) (fun b o hD=>hD.2)
 have h2:=h'.put o.dst hr' (.none ho)
 rw [<-zN hd] at h2
 exact hn _ _ _ _ hk h2
theorem zmp {x:Operand} {i:Nat} {K:PS->Prop} (hd:∀ t,o.dst=some t->t<a.tmps.size) (h:R B g s (zB a) w) (ho:o.op=.move x\/o.op=.assign x) (hx:po x=some (.t i)) (hk:K (s.put o.dst (s.get i))):Kz P o B a w K:=by
 have hx':x=.tmp i:=by cases x<;>first | (cases hx;rfl) | cases hx
 subst hx'
 have hr:(execOp a.eval o).run P w=.ok (.value (zB a i)) w:=by rcases ho with ho | ho<;>simp [execOp,ho,zB,Act.eval]
 intro next Q hn
 show o.upon P a next Q ((execOp a.eval o).run P w)
 rw [hr]
 refine hn _ g _ w hk ?_
 rw [zN hd]
 exact h.put o.dst (h.slots i) (h.ownNew (h.slot i))
theorem zjQ {t:TypeId} {x:Operand} {x':PO} {i o':Nat} {cs:List PV} {p:PV} {K:PS->Prop} (hd:∀ t,o.dst=some t->t<a.tmps.size) (h:R B g s (zB a) w) (ho:o.op=.load t x) (hs:XH P t=some (false,1)) (hx:po x=some x') (hb:s.ev x'=.bx i o') (hcs:s.b[i]? = some cs) (hp:cs[o']? = some p) (hk:K (s.put o.dst p)):Kz P o B a w K:=by
 have hr:=h.rd (o:=o).op hx (by simp [ho,Op.operands])
 rw [hb] at hr
 obtain⟨hi,e1⟩:=hr.inv_bx
 obtain⟨hW,vs,e',hv,hz,hbx⟩:=h.boxes i cs hcs
 have hlt:o'<vs.size:=Y7 hz hp
 have hc:w.cell? ⟨g.ρ i,o',none⟩=some (vs.getD o' undef):=by
  simp only [World.cell?,hv];simp [hlt]
 have hrun:(execOp a.eval o).run P w=.ok (.value (vs.getD o' undef)) w:=by
  have:=Zs hs hc
  simp only [execOp,ho,e1,Instr.loadAt,Instr.sureAddr,Sem.run_bind,Sem.run_pure,Result.andThen_ok,this]
 intro next Q hn
 show o.upon P a next Q ((execOp a.eval o).run P w)
 rw [hrun]
 refine hn _ g _ w hk ?_
 rw [zN hd]
 exact h.put o.dst (hbx o' p hp).1 (h.ownNew (.inr ⟨i,o',cs,hcs,hp,hc⟩))
theorem Rel.sh {u:Value} {p:PV} (h:Rel D ρ nb w u p):Rel D ρ nb w u p.sh:=by
 rcases h with(h | ⟨i,o,rfl,hi,rfl⟩) | ⟨f,va,vb,fs,cs,rfl,h⟩
 ·exact .dat h.sh
 ·exact .inl (.inr ⟨i,o,rfl,hi,rfl⟩)
 ·exact .inr ⟨f,va,vb,fs,cs,rfl,h⟩
theorem zgO {e:TypeId} {u:Value} {cs:List PV} {K:PS->Prop} (hd:∀ t,o.dst=some t->t<a.tmps.size) (h:R B g s (zB a) w) (hu:CellsR g.D g.ρ s.b.length w u cs)
 (hrun:(execOp a.eval o).run P w=.ok (.value (.pointer (some ⟨w.heap.size,0,none⟩))) (w.alloc (.cells u.cells e))) (hk:K (PS.put ⟨s.t,s.b++[cs.map PV.sh]⟩ o.dst (.bx s.b.length 0))):Kz P o B a w K:=by
 intro next Q hn
 show o.upon P a next Q ((execOp a.eval o).run P w)
 rw [hrun]
 have:=h.box o.dst u.cells e (cs.map PV.sh) (by simpa using hu.1) (fun j p hp=>by
  simp only [List.getElem?_map,Option.map_eq_some_iff] at hp
  obtain⟨q,hq,rfl⟩:=hp
  exact⟨(hu.2 j q hq).1.sh,(hu.2 j q hq).2⟩) (fun p hp=>by obtain⟨q,_,rfl⟩:=List.mem_map.1 hp;exact q.sh_own)
 rw [<-zN hd] at this
 exact hn _ _ _ _ (by simpa using hk) this
theorem xH (g':Nat) (old cs:Array Value) (t:TypeId) (hg:w.heap[g']? = some (.cells old t (0,0))) {b k:Nat}:(w.setRow g' cs).cell? ⟨b,k,none⟩=if b=g' then cs[k]? else w.cell? ⟨b,k,none⟩:=by
 split
 ·rename_i e;subst e;exact cell_setRow_same w b k old cs t (0,0) hg
 ·rename_i e;exact cell_setRow_other w g' cs ⟨b,k,none⟩ e
theorem R.store {x:Nat->Value} (h:R B g s x w) {i o':Nat} {cs us:List PV} {vs:List Value} {old:Array Value} {t:TypeId} (hcs:s.b[i]? = some cs) (hold:w.heap[g.ρ i]? = some (.cells old t (0,0))) (hl:vs.length=us.length) (ho:o'+us.length<=cs.length)
 (hu:∀(j:Nat) p,us[j]? = some p->Rel g.D g.ρ s.b.length w (vs.getD j undef) p/\(vs.getD j undef).oneCell'=true/\(p.own=none\/zQ g s x w (vs.getD j undef) p)) (d:Option Nat) :
 R B g (PS.put ⟨s.t,s.b.set i (XI cs us o')⟩ d (.v undef)) (QO x d undef) (w.setRow (g.ρ i) (old.toList.take o'++vs++old.toList.drop (o'+vs.length)).toArray):=by
 have hi:i<s.b.length:=(List.getElem?_eq_some_iff.1 hcs).1
 obtain⟨hW,vs0,e0,hv0,hz0,hb0⟩:=h.boxes i cs hcs
 rw [hold] at hv0
 cases hv0
 obtain⟨new,hnew⟩:∃ new,(old.toList.take o'++vs++old.toList.drop (o'+vs.length)).toArray=new:=⟨_,rfl⟩
 rw [hnew]
 have hnsz:new.size=cs.length:=by rw [<-hnew];simp;omega
 have hget:∀ k,new[k]? = if o'<=k/\k<o'+us.length then vs[k - o']? else old[k]?:=fun k=>by
  rw [<-hnew]
  have ht:(old.toList.take o').length=o':=by simp;omega
  simp only [List.getElem?_toArray]
  by_cases h1:k<o'
  ·rw [if_neg (by omega),List.append_assoc,List.getElem?_append_left (by omega),List.getElem?_take,if_pos h1];simp
  ·by_cases h2:k<o'+us.length
   ·rw [if_pos (by omega),List.append_assoc,List.getElem?_append_right (by omega),List.getElem?_append_left (by omega),ht]
   ·rw [if_neg (by omega),List.getElem?_append_right (by simp;omega),List.getElem?_drop]
    simp only [List.length_append,ht,Array.getElem?_toList]
    congr 1;omega
 have hlen:(s.b.set i (XI cs us o')).length=s.b.length:=by simp
 have hsplen:(XI cs us o').length=cs.length:=QK _ _ _ ho
 have hD:∀ b o x,g.D b o->w.cell? ⟨b,o,none⟩=some x->(w.setRow (g.ρ i) new).cell? ⟨b,o,none⟩=some x:=fun b o y hb hx=>by
  rw [xH (g.ρ i) old new t hold,if_neg]
  ·exact hx
  ·intro e;subst e;exact h.dbox i hi o hb
 have mono:∀ {u p},Rel g.D g.ρ s.b.length w u p->Rel g.D g.ρ s.b.length (w.setRow (g.ρ i) new) u p:=fun hu=>hu.mono (fun _ _ h=>h) hD (Nat.le_refl _) fun _ _=>rfl
 have hs:∀ u q,zQ g ⟨s.t,s.b.set i (XI cs us o')⟩ x (w.setRow (g.ρ i) new) u q->q.own≠none->zQ g s x w u q:=by
  rintro u q (hx | ⟨i',j,cs',h4,h5,h6⟩) hq
  ·exact .inl hx
  ·have hi':i'<s.b.length:=by have:=(List.getElem?_eq_some_iff.1 h4).1;simpa using this
   by_cases e:i=i'
   ·subst e
    rw [List.getElem?_set_self hi] at h4
    cases h4
    rw [xH (g.ρ i) old new t hold,if_pos rfl,hget] at h6
    rw [Xy _ _ _ _ ho] at h5
    by_cases hc:o'<=j/\j<o'+us.length
    ·rw [if_pos hc] at h5 h6
     have:=(hu _ _ h5).2.2
     rw [List.getD_eq_getElem?_getD,h6] at this
     rcases this with h7 | h7
     ·exact absurd h7 hq
     ·exact h7
    ·rw [if_neg hc] at h5 h6
     refine .inr ⟨i,j,cs,hcs,h5,?_⟩
     simp only [World.cell?,hold]
     simpa using h6
   ·rw [List.getElem?_set_ne e] at h4
    refine .inr ⟨i',j,cs',h4,h5,?_⟩
    rw [xH (g.ρ i) old new t hold,if_neg (fun e'=>e (h.inj _ _ hi' hi e').symm)] at h6
    exact h6
 have r1:R B g ⟨s.t,s.b.set i (XI cs us o')⟩ x (w.setRow (g.ρ i) new):=by
  refine⟨fun t'=>by rw [hlen];exact mono (h.slots t'),?_,fun i' j'=>by rw [hlen];exact h.inj i' j',?_,?_,?_,fun b o hb=>by simpa using h.dlt b o hb,fun i'=>by rw [hlen];exact h.dbox i',?_⟩
  ·intro i' cs' h4
   rw [hlen]
   by_cases e:i=i'
   ·subst e
    rw [List.getElem?_set_self hi] at h4
    cases h4
    refine⟨hW,new,t,setRow_heap w _ old new t (0,0) hold,by rw [hnsz,hsplen],fun j p hp=>?_⟩
    rw [Xy _ _ _ _ ho] at hp
    rw [Array.getD_eq_getD_getElem?,hget]
    by_cases hc:o'<=j/\j<o'+us.length
    ·rw [if_pos hc] at hp ⊢
     rw [<-List.getD_eq_getElem?_getD]
     exact⟨mono (hu _ _ hp).1,(hu _ _ hp).2.1⟩
    ·rw [if_neg hc] at hp ⊢
     rw [<-Array.getD_eq_getD_getElem?]
     exact⟨mono (hb0 _ _ hp).1,(hb0 _ _ hp).2⟩
   ·rw [List.getElem?_set_ne e] at h4
    obtain⟨hW',vs',e',hv',hz',hb'⟩:=h.boxes i' cs' h4
    have hne:g.ρ i'≠g.ρ i:=fun e'=>e (h.inj _ _ (List.getElem?_eq_some_iff.1 h4).1 hi e').symm
    exact⟨hW',vs',e',(setRow_other w _ _ new hne).trans hv',hz',fun j p hp=>⟨mono (hb' j p hp).1,(hb' j p hp).2⟩⟩
  ·intro u q hq
   by_cases hqo:q.own=none
   ·exact zr hqo
   have hq':=hs u q hq hqo
   have:=h.owns u q hq'
   have hob:=h.ownbox u q
   cases q<;>try trivial
   rename_i es ow
   cases ow<;>try trivial
   rcases this with hn | ⟨gg,cap,cur,e,rfl,hW',hh,hc,he,hd'⟩
   ·exact .inl hn
   ·cases cap with
    | zero=>
      by_cases hes:es=[]
      ·subst hes;exact .inl ⟨_,rfl,rfl⟩
      ·obtain⟨hle,_⟩:=QH (h.slot_rel hq')
       exact absurd (List.eq_nil_of_length_eq_zero (Nat.le_zero.1 hle)) hes
    | succ cap=>
      exact .inr ⟨gg,_,cur,e,rfl,hW',(setRow_other w _ _ new (hob gg i hq' hqo rfl hi).symm).trans hh,hc,he,hd'⟩
  ·intro u q u' q' b k1 k2 o1 o2
   exact h.disj _ _ _ _ b (hs _ _ k1 o1) (hs _ _ k2 o2) o1 o2
  ·intro u q b i' k1 o1 b1 h1
   exact h.ownbox _ _ b i' (hs _ _ k1 o1) o1 b1 (by rw [hlen] at h1;exact h1)
  ·have f:=h.fr
   refine⟨f.os,f.tape,f.output,by simpa using f.size,fun k hk hn=>?_,f.d0,fun b o y hb hy=>hD _ _ _ (f.d0 b o hb) (f.cell b o y hb hy),f.new,f.d0lt⟩
   rw [setRow_other w _ _ new ?_]
   ·exact f.block k hk hn
   ·intro e
    subst e
    rcases hW with hW | hW
    ·omega
    ·exact hn hW
 exact r1.put d (.dat (.v _)) (.none rfl)
theorem zmq {t:TypeId} {ag:Bool} {n i o':Nat} {x y:Operand} {x' y':PO} {cs:List PV} {K:PS->Prop} (hd:∀ t,o.dst=some t->t<a.tmps.size) (h:R B g s (zB a) w) (ho:o.op=.store t x y) (hs:XH P t=some (ag,n)) (hx:po x=some x') (hy:po y=some y')
 (hb:s.ev x'=.bx i o') (hcs:s.b[i]? = some cs) (hk:qW (s.ev y') fun us=>us.length=n/\o'+n<=cs.length/\K (PS.put ⟨s.t,s.b.set i (XI cs (yC y' (s.ev y') us) o')⟩ o.dst (.v undef))):Kz P o B a w K:=by
 have hr:=h.rd (o:=o).op hx (by simp [ho,Op.operands])
 have hry:=h.rd (o:=o).op hy (by simp [ho,Op.operands])
 rw [hb] at hr
 obtain⟨hi,e1⟩:=hr.inv_bx
 obtain⟨us,⟨h1,h2,h3⟩,h4⟩:=xY hk hry
 obtain⟨hW,vs,e',hv,hz,hbx⟩:=h.boxes i cs hcs
 obtain⟨it,dt,k1,k2,k3,k4⟩:=vT hs
 have hul:(a.eval y).cells.toList.length=us.length:=by simpa using h4.1
 have hone:∀ v ∈ (a.eval y).cells.toList,v.oneCell'=true:=fun v hv=>by
  obtain⟨j,hj⟩:=List.getElem?_of_mem hv
  have hjl:j<us.length:=by rw [<-hul];exact(List.getElem?_eq_some_iff.1 hj).1
  have:=(h4.2 j _ (List.getElem?_eq_getElem hjl)).2
  rw [Array.getD_eq_getD_getElem?,<-Array.getElem?_toList,hj] at this
  exact this
 have hrun:(execOp a.eval o).run P w=.ok .skip (w.setRow (g.ρ i) (vs.toList.take o'++(a.eval y).cells.toList++vs.toList.drop (o'+(a.eval y).cells.toList.length)).toArray):=by
  have:=run_storeCells_at P (g.ρ i) o' e' (a.eval y).cells.toList 0 vs w hv (by rw [hul];omega) hone
  simp only [Nat.add_zero] at this
  have hsz:¬((a.eval y).cells.size≠it.size):=by rw [h4.1,k4];omega
  simp only [execOp,ho,e1,Instr.storeAt,Instr.sureAddr,Sem.run_bind,Sem.run_pure,Result.andThen_ok,storeVar,zE k1,if_neg hsz,this]
 have hkl:(yC y' (s.ev y') us).length=us.length:=by
  unfold yC
  split
  ·rename_i j es ow e
   rw [e] at hk
   simp only [qW] at hk
   rw [h1,<-hk.1]
  ·simp
 intro next Q hn
 show o.upon P a next Q ((execOp a.eval o).run P w)
 rw [hrun]
 have:=h.store (us:=yC y' (s.ev y') us) (o':=o') hcs hv (by rw [hkl];exact hul) (by rw [hkl];omega) (fun j p hp=>?_) o.dst
 ·rw [<-zN hd] at this
  exact hn _ _ _ _ h3 this
 ·have hget:∀ j,(a.eval y).cells.toList.getD j undef=(a.eval y).cells.getD j undef:=fun j=>by simp
  rw [hget]
  unfold yC at hp
  split at hp
  ·rename_i j0 es ow e
   have hj:j=0:=by have:=(List.getElem?_eq_some_iff.1 hp).1;simpa using this
   subst hj
   simp at hp
   subst hp
   obtain⟨ad,cap,sz,b,off,f,e3,_⟩:=(show Rel g.D g.ρ s.b.length w (a.eval y) (.sl es ow) from e ▸ hry).inv_sl
   have ec:(a.eval y).cells.getD 0 undef=a.eval y:=by rw [e3];rfl
   rw [ec]
   refine⟨e ▸ hry,by rw [e3];rfl,.inr ?_⟩
   have hy':y=.tmp j0:=by cases y<;>first | (cases hy;rfl) | cases hy
   subst hy'
   refine .inl ⟨j0,rfl,?_⟩
   exact e.symm
  ·simp only [List.getElem?_map,Option.map_eq_some_iff] at hp
   obtain⟨q,hq,rfl⟩:=hp
   have:=h4.2 j q hq
   exact⟨this.1.sh,this.2,.inl q.sh_own⟩
theorem R.fresh {x:Nat->Value} {w':World} (h:R B g s x w) (hb:Below w.heap.size w w') {g':Nat} {cap sz n0:Nat} {cs:Array Value} {e:TypeId} {vs:List Value} {es:List (List PV)} (hg:w.heap.size<=g') (hh:w'.heap[g']? = some (.cells cs e (0,0))) (hr:RowD g.D w sz vs es)
 (ht:∀ j,j<vs.length->cs[j]? = some (vs.getD j undef)) (h1:es.length<=cap) (h2:cap<=maxLen) (h3:cs.size=cap * sz) (hpos:es≠[]) (d:Option Nat) :
 ∃ g2,R B g2 (s.put d (.sl es (.r n0 sz))) (QO x d (.slice (some ⟨g',0,none⟩) es.length cap)) w':=by
 have hlt:g'<w'.heap.size:=(Array.getElem?_eq_some_iff.1 hh).1
 have h':=h.grow (w':=w') hb (fun b o=>g.D b o\/(b=g'/\o<vs.length)) (fun b o hD=>.inl hD) (fun b o hD=>by rcases hD with hD | ⟨rfl,_⟩;exact .inl hD;exact .inr hg) (fun b o hD=>by
  rcases hD with hD | ⟨rfl,_⟩
  ·exact Nat.lt_of_lt_of_le (h.dlt b o hD) hb.size
  ·exact hlt)
 have hr':RowD (fun b o=>g.D b o\/(b=g'/\o<vs.length)) w' sz vs es:=hr.mono (fun _ _ h=>.inl h) fun b o x _ hx=>qa hb (qF hx) hx
 refine⟨_,h'.put d (.dat (jr hr' hh ht h1 h2 (fun h=>by cases h) fun j hj=>.inr ⟨rfl,hj⟩)) fun _=>⟨.inr ⟨g',cap,cs,e,rfl,.inl (Nat.le_trans h.fr.size hg),hh,h3,fun e' he'=>?_,fun o ho hD=>?_⟩,fun v q b k1 k2 k3 k4=>?_,fun b i k1 k2=>?_⟩⟩
 ·obtain⟨j,hj⟩:=List.getElem?_of_mem he'
  exact hr.2.1 j e' hj
 ·rcases hD with hD | ⟨_,hD⟩
  ·have:=h.dlt _ _ hD;omega
  ·rw [hr.1] at hD;omega
 ·exfalso
  have hs:zQ g s x w v q:=by
   rcases k1 with k1 | ⟨i,j,cs',q1,q2,q3⟩
   ·exact .inl k1
   ·exact .inr ⟨i,j,cs',q1,q2,by rw [<-q3];exact(hb.cell (p:=⟨g.ρ i,j,none⟩) (h.ρlt (List.getElem?_eq_some_iff.1 q1).1)).symm⟩
  have:=(zX (h.owns v q hs) k2 k3).1
  cases cap with
  | zero=>exact hpos (List.eq_nil_of_length_eq_zero (Nat.le_zero.1 h1))
  | succ cap=>simp [zc] at k4;omega
 ·have:=h.ρlt k2
  cases cap with
  | zero=>cases k1
  | succ cap=>
    simp [zc] at k1
    show g.ρ i≠b
    omega
theorem qk (w:World) (o:Obj):Below w.heap.size w (w.drew.alloc o):=(show Below w.heap.size w w.drew from ⟨rfl,rfl,rfl,Nat.le_refl _,fun _ _=>rfl⟩).alloc (Nat.le_refl _) _
theorem zjP {x y:Operand} {x' y':PO} {t e:TypeId} {i:TypeInfo} {z:Value} {K:PS->Prop} {n0:Nat} {es es':List (List PV)} {k:Ow} (hd:∀ t,o.dst=some t->t<a.tmps.size) (h:R B g s (zB a) w) (hA:ApOp P o x y t e i z) (hx:po x=some x') (hy:po y=some y')
 (ex:s.ev x'=.sl es .z) (ey:s.ev y'=.sl es' k) (h1:∀ e ∈ es,e.length=i.size) (h2:∀ e ∈ es',e.length=i.size) (hby:(es.length+es'.length) * i.bytes<=140737488355328) (hne:es'=[]->es=[])
 (hk:K (s.put o.dst (.sl (es++es') (.r n0 i.size)))):Kz P o B a w K:=by
 obtain⟨c,ho,hc,hca,_⟩:=hA.ho
 have hrx:=h.rd (o:=o).op hx (by rw [ho];simp [Op.operands,Call.operands,hc,hca])
 have hry:=h.rd (o:=o).op hy (by rw [ho];simp [Op.operands,Call.operands,hc,hca])
 rw [ex] at hrx
 rw [ey] at hry
 intro next Q hn
 show o.upon P a next Q ((execOp a.eval o).run P w)
 rcases zjv hA hrx hry h1 h2 hby with⟨he,hr⟩ | ⟨cap',cs,vs,hr,k1,k2,k3,k4,k5⟩
 ·have hes:=hne he
  subst he
  subst hes
  rw [hr]
  obtain⟨ad,cap,sz,b,off,f,e3,c1,c2,c3,_⟩:=hrx.inv_sl
  have hcap:=c2 rfl
  have hz:a.eval x=.slice ad 0 0:=by rw [e3,hcap];rfl
  have:=h.put (u:=a.eval x) (p:=.sl ([]++[]) (.r n0 i.size)) o.dst (.dat ?_) fun _=>⟨.inl ⟨ad,hz,rfl⟩,fun v q b _ _ _ k4=>?_,fun b i k1 _=>?_⟩
  ·rw [<-zN hd] at this
   exact hn _ _ _ _ hk this
  ·rw [hz]
   exact .sl ad 0 1 [] _ 0 0 (fun _=>undef) (Nat.le_refl _) (fun h=>by cases h) (Nat.zero_le _) (fun h=>absurd rfl h) (fun i e h=>by simp at h) (fun j h=>absurd h (by simp)) (fun i e j p h=>by simp at h)
  ·rw [hz] at k4;cases ad<;>cases k4
  ·rw [hz] at k1;cases ad<;>cases k1
 ·rw [hr]
  have hpos:es++es'≠[]:=by
   intro e
   have:=List.append_eq_nil_iff.1 e
   obtain⟨rfl,rfl⟩:=this
   obtain⟨ad,cap,sz,b,off,f,e3,c1,c2,c3,_⟩:=hry.inv_sl
   obtain⟨ad',cap',sz',b',off',f',e3',c1',c2',c3',_⟩:=hrx.inv_sl
   have hc':=c2' rfl
   rw [hc'] at e3'
   have:=hA.run e3' e3 (vl (ty:=o.type) (w:=w) hA.ht hA.hi ad' ad 0 0 cap (Nat.le_refl _))
   have e0:=hr.symm.trans this
   injection e0 with e1 e2
   have:=congrArg (fun w:World=>w.heap.size) e2
   simp at this
  obtain⟨g2,hR2⟩:=h.fresh (n0:=n0) (qk w (.cells cs e)) (Nat.le_refl _) (World.alloc_heap_new w.drew (.cells cs e)) k4 k5 k1 k2 k3 hpos o.dst
  rw [<-zN hd,List.length_append] at hR2
  exact hn _ _ _ _ hk hR2
theorem vm {t ty e e':TypeId} {i:TypeInfo} (ht:P.underlying t=some (.slice e)) (hi:P.info? e=some i) {g' sLen sCap:Nat} {cur:Array Value} (hg:w.heap[g']? = some (.cells cur e' (0,0)))
 {b:Addr} {m c:Nat} {news:List Value} (hl:news.length=m * i.size) (hnews:∀ j u,news[j]? = some u->w.cell? (b.add j)=some u) (h1:∀ u ∈ news,u.oneCell'=true) (hroom:sLen+m<=sCap) (hfit:sLen * i.size+news.length<=cur.size) :
 (Builtin.append_ #[t,t] ty #[.slice (some ⟨g',0,none⟩) sLen sCap,.slice (some b) m c]).run P w =
   .ok (.slice (some ⟨g',0,none⟩) (sLen+m) sCap) (w.setRow g' (cur.toList.take (sLen * i.size)++news++cur.toList.drop (sLen * i.size+news.length)).toArray):=by
 have hf:=run_firstCells_some (P:=P) w i.size m b m c news hl hnews
 have hst:=run_storeCells_at P g' (sLen * i.size) e' news 0 cur w hg (by simpa using hfit) h1
 simp only [Nat.add_zero] at hst
 simp [Builtin.append_,run_underlying ht,zE hi,Builtin.lenOf,hroom,hf,zh,hst]
theorem zgN {x y:Operand} {j0:Nat} {y':PO} {t e:TypeId} {i:TypeInfo} {z:Value} {K:PS->Prop} {n0:Nat} {es es':List (List PV)} {k:Ow} (hd:∀ t,o.dst=some t->t<a.tmps.size) (h:R B g s (zB a) w) (hA:ApOp P o x y t e i z) (hx:po x=some (.t j0)) (hy:po y=some y')
 (ex:s.get j0=.sl es (.r n0 i.size)) (ey:s.ev y'=.sl es' k) (h2:∀ e ∈ es',e.length=i.size) (hby:(es.length+es'.length) * i.bytes<=140737488355328)
 (hk:K ((s.down n0).put o.dst (.sl (es++es') (.r n0 i.size)))):Kz P o B a w K:=by
 obtain⟨c,ho,hc,hca,_⟩:=hA.ho
 have hx':x=.tmp j0:=by cases x<;>first | (cases hx;rfl) | cases hx
 have hev:a.eval x=zB a j0:=by rw [hx'];rfl
 have hrx:=h.slots j0
 have hslot:=h.slot j0
 have hown:=h.owns _ _ hslot
 have hdj:=fun u q b hu ho hb hb2=>h.disj u q _ _ b hu hslot ho (by rw [ex];simp [PV.own]) hb hb2
 have hbx:=fun b i hb hi=>h.ownbox _ _ b i hslot (by rw [ex];simp [PV.own]) hb hi
 rw [ex] at hrx hown
 have hry:=h.rd (o:=o).op hy (by rw [ho];simp [Op.operands,Call.operands,hc,hca])
 rw [ey] at hry
 obtain⟨hdn,hds⟩:=h.down n0
 have hnb:(s.down n0).b.length=s.b.length:=by simp [PS.down]
 obtain⟨ad',cap',vs',e2,d1,d2,_,r2,g2⟩:=x5 hry h2
 -- another owner's slice lies elsewhere
 have other:∀ u q b,zQ g (s.down n0) (zB a) w u q->q.own≠none->zc u=some b->zc (zB a j0)=some b->False:=fun u q b hu hq hb hb2=>by
  obtain⟨q1,q2⟩:=hds u q hu hq
  have:=hdj u q b q1 hq hb hb2
  rw [ex] at this
  exact q2 this
 intro next Q hn
 show o.upon P a next Q ((execOp a.eval o).run P w)
 by_cases hes:es'=[]
 ·subst hes
  obtain⟨ad,cap,sz,b,off,f,e3,c1,_⟩:=hrx.inv_sl
  have hr:=hA.run (hev.trans e3) e2 (vl (ty:=o.type) (w:=w) hA.ht hA.hi ad ad' es.length cap cap' c1)
  rw [hr]
  have:=hdn.put (u:=zB a j0) (p:=.sl (es++[]) (.r n0 i.size)) o.dst (by rw [List.append_nil,hnb];exact hrx) fun _=>⟨by rw [List.append_nil];exact hown,fun v q b k1 k2 k3 k4=>(other v q b k1 k2 k3 k4).elim,fun b i k1 k2=>hbx b i k1 (by rw [hnb] at k2;exact k2)⟩
  rw [<-zN hd,e3] at this
  exact hn _ _ _ _ hk this
 ·obtain⟨b',off',rfl,g3⟩:=g2 hes
  have hpos:0<es'.length:=List.length_pos_iff.2 hes
  have hne:es++es'≠[]:=fun e=>hes (List.append_eq_nil_iff.1 e).2
  have hnew:∀ j v,vs'[j]? = some v->w.cell? ((⟨b',off',none⟩:Addr).add j)=some v:=fun j v hv=>by rw [zh];exact(g3 j v hv).2
  rcases hown with⟨ad,hz,rfl⟩ | ⟨g',cap,cur,e',hu,hW,hh,hcs,hel,hnD⟩
  ·obtain⟨cp,cs,hr,k1,k2,k3,k4⟩:=yJ (P:=P) (w:=w) (ty:=o.type) (ad:=ad) (cap:=0) (c:=cap') (n:=0) (olds:=[]) hA.ht hA.hi hA.hz hA.hzs hA.hb (by simp) r2.1 (fun hn=>absurd rfl hn) (fun _=>rfl) hnew (by omega) (by simpa using hby)
   rw [hA.run (hev.trans hz) e2 hr]
   obtain⟨g4,hR2⟩:=hdn.fresh (n0:=n0) (qk w (.cells cs e)) (Nat.le_refl _) (World.alloc_heap_new w.drew (.cells cs e)) (es:=[]++es') (by simpa using r2) (by simpa using k4) (by simpa using k1) k2 k3 hne o.dst
   rw [<-zN hd] at hR2
   refine hn _ _ _ _ hk (by simpa using hR2)
  ·have hrd:∀ {D' w'},(∀ b o,g.D b o->D' b o)->(∀ b o x,g.D b o->w.cell? ⟨b,o,none⟩=some x->w'.cell? ⟨b,o,none⟩=some x)->∃ vs,RowD D' w' i.size vs es/\∀ j v,vs[j]? = some v->cur[j]? = some v:=fun {D' w'} hD hw=>by
    obtain⟨ad2,cap2,vs,f1,_,_,_,f2,f3⟩:=x5 hrx hel
    refine⟨vs,f2.mono hD hw,fun j v hv=>?_⟩
    have hesne:es≠[]:=by
     intro e;subst e
     have:=f2.1
     have:=(List.getElem?_eq_some_iff.1 hv).1
     simp_all
    obtain⟨b2,off2,e4,f4⟩:=f3 hesne
    rw [hu] at f1
    injection f1 with f1
    rw [e4] at f1
    injection f1 with f1
    injection f1 with f5 f6
    subst f5
    subst f6
    have:=(f4 j v hv).2
    simp only [World.cell?,hh] at this
    simpa using this
   have hc1:es.length<=cap/\cap<=maxLen:=by
    have:=QH (show Rel g.D g.ρ s.b.length w (.slice (some ⟨g',0,none⟩) es.length cap) (.sl es (.r n0 i.size)) from hu ▸ hrx)
    exact⟨this.1,this.2.2⟩
   by_cases hroom:es.length+es'.length<=cap
   ·have hfit:es.length * i.size+vs'.length<=cur.size:=by rw [r2.1,hcs,<-Nat.add_mul];exact Nat.mul_le_mul_right _ hroom
    have hr:=vm (P:=P) (w:=w) (ty:=o.type) (c:=cap') hA.ht hA.hi hh r2.1 hnew (Xv r2) hroom hfit
    rw [hA.run (hev.trans hu) e2 hr]
    obtain⟨new,hnw⟩:∃ new,(cur.toList.take (es.length * i.size)++vs'++cur.toList.drop (es.length * i.size+vs'.length)).toArray=new:=⟨_,rfl⟩
    rw [hnw]
    have ht:(cur.toList.take (es.length * i.size)).length=es.length * i.size:=by simp;omega
    have hget:∀ k,k<es.length * i.size+vs'.length->new[k]? = if k<es.length * i.size then cur[k]? else vs'[k - es.length * i.size]?:=fun k hk=>by
     rw [<-hnw]
     simp only [List.getElem?_toArray]
     by_cases h1:k<es.length * i.size
     ·rw [if_pos h1,List.append_assoc,List.getElem?_append_left (by omega),List.getElem?_take,if_pos h1];simp
     ·rw [if_neg h1,List.append_assoc,List.getElem?_append_right (by omega),ht,List.getElem?_append_left (by omega)]
    have hblk:∀ b,cap≠0->(zc (zB a j0)=some b ↔ g'=b):=fun b hc0=>by
     rw [hu];cases cap with
     | zero=>exact absurd rfl hc0
     | succ cap=>simp [zc]
    have hcap0:cap≠0:=by omega
    have hlt:g'<w.heap.size:=(Array.getElem?_eq_some_iff.1 hh).1
    have hDc:∀ b o y,g.D b o->w.cell? ⟨b,o,none⟩=some y->(w.setRow g' new).cell? ⟨b,o,none⟩=some y:=fun b o y hD hy=>by
     rw [xH g' cur new e' hh]
     split
     ·rename_i e;subst e
      have ho:o<es.length * i.size:=by
       rcases Nat.lt_or_ge o (es.length * i.size) with h' | h'
       ·exact h'
       ·exact absurd hD (hnD o h')
      rw [hget o (by omega),if_pos ho]
      simp only [World.cell?,hh] at hy
      simpa using hy
     ·exact hy
    have hF:=hdn.frame (w':=w.setRow g' new) (fun b o=>g.D b o\/(b=g'/\o<(es.length+es'.length) * i.size)) hDc (fun k hk=>setRow_other w _ _ new (hbx g' k ((hblk _ hcap0).2 rfl) (by rw [hnb] at hk;exact hk))) (fun u p b k1 k2 k3=>setRow_other w _ _ new fun e=>other u p b k1 k2 k3 ((hblk b hcap0).2 e.symm))
     (fun b o hD=>.inl hD) (fun b o hD=>by
       rcases hD with hD | ⟨rfl,_⟩
       ·exact .inl hD
       ·exact .inr ⟨hW,fun k hk=>hbx b k ((hblk b hcap0).2 rfl) (by rw [hnb] at hk;exact hk),fun u p k1 k2 k3=>other u p b k1 k2 k3 ((hblk b hcap0).2 rfl)⟩) (fun b o hD=>by
       rcases hD with hD | ⟨rfl,_⟩
       ·simpa using h.dlt b o hD
       ·simpa using hlt) rfl rfl rfl (by simp) (fun k hk hn=>setRow_other w _ _ new fun e=>by
       subst e
       rcases hW with hW | hW
       ·omega
       ·exact hn hW)
    obtain⟨vs,f1,f2⟩:=hrd (D':=fun b o=>g.D b o\/(b=g'/\o<(es.length+es'.length) * i.size)) (w':=w.setRow g' new) (fun _ _ h=>.inl h) hDc
    have r3:=f1.append (r2.mono (D':=fun b o=>g.D b o\/(b=g'/\o<(es.length+es'.length) * i.size)) (w':=w.setRow g' new) (fun _ _ h=>.inl h) hDc)
    have hvl:vs.length=es.length * i.size:=f1.1
    have hdat:=jr (k:=.r n0 i.size) (cap:=cap) r3 (setRow_heap w g' cur new e' (0,0) hh) (fun j hj=>by
     rw [List.length_append] at hj
     rw [hget j (by omega),List.getD_eq_getElem?_getD]
     by_cases h1:j<es.length * i.size
     ·rw [if_pos h1,List.getElem?_append_left (by omega)]
      have hj2:j<vs.length:=by omega
      rw [f2 j _ (List.getElem?_eq_getElem hj2),List.getElem?_eq_getElem hj2]
      rfl
     ·rw [if_neg h1,List.getElem?_append_right (by omega),hvl]
      have hj2:j - es.length * i.size<vs'.length:=by omega
      rw [List.getElem?_eq_getElem hj2]
      rfl) (by simpa using hroom) hc1.2 (fun h=>by cases h) (fun j hj=>.inr ⟨rfl,by rw [List.length_append,hvl,r2.1,<-Nat.add_mul] at hj;exact hj⟩)
    rw [List.length_append] at hdat
    have:=hF.put o.dst (.dat hdat) fun _=>⟨.inr ⟨g',cap,new,e',by simp,hW,setRow_heap w g' cur new e' (0,0) hh,by rw [<-hcs,<-hnw];simp;omega,fun e he=>?_,fun o ho hD=>?_⟩,fun v q b k1 k2 k3 k4=>?_,fun b k k1 k2=>?_⟩
    ·rw [<-zN hd] at this
     exact hn _ _ _ _ hk this
    ·rcases List.mem_append.1 he with he | he
     ·exact hel e he
     ·exact h2 e he
    ·rw [List.length_append] at ho
     rcases hD with hD | ⟨_,hD⟩
     ·exact hnD o (Nat.le_trans (Nat.mul_le_mul_right _ (by omega)) ho) hD
     ·omega
    ·exfalso
     have k5:zQ g (s.down n0) (zB a) w v q:=by
      rcases k1 with k1 | ⟨i2,j,cs',q1,q2,q3⟩
      ·exact .inl k1
      ·refine .inr ⟨i2,j,cs',q1,q2,?_⟩
       rw [xH g' cur new e' hh,if_neg] at q3
       ·exact q3
       ·exact hbx g' i2 ((hblk _ hcap0).2 rfl) (by have:=(List.getElem?_eq_some_iff.1 q1).1;rw [hnb] at this;exact this)
     have:b=g':=by
      cases cap with
      | zero=>exact absurd rfl hcap0
      | succ cap=>simp [zc] at k4;exact k4.symm
     subst this
     exact other v q b k5 k2 k3 ((hblk b hcap0).2 rfl)
    ·have:b=g':=by
      cases cap with
      | zero=>exact absurd rfl hcap0
      | succ cap=>simp [zc] at k1;exact k1.symm
     subst this
     exact hbx b k ((hblk b hcap0).2 rfl) (by rw [hnb] at k2;exact k2)
   ·obtain⟨vs,f1,f2⟩:=hrd (D':=g.D) (w':=w) (fun _ _ h=>h) (fun _ _ _ _ h=>h)
    obtain⟨cp,cs,hr,k1,k2,k3,k4⟩:=yJ (P:=P) (w:=w) (ty:=o.type) (ad:=some ⟨g',0,none⟩) (cap:=cap) (c:=cap') (n:=es.length) (olds:=vs) hA.ht hA.hi hA.hz hA.hzs hA.hb f1.1 r2.1 (fun _=>⟨_,rfl,fun j v hv=>by
     rw [zh]
     simp only [World.cell?,hh,Nat.zero_add]
     simpa using f2 j v hv⟩) (fun h=>by cases h) hnew (by omega) hby
    rw [hA.run (hev.trans hu) e2 hr]
    obtain⟨g4,hR2⟩:=hdn.fresh (n0:=n0) (qk w (.cells cs e)) (Nat.le_refl _) (World.alloc_heap_new w.drew (.cells cs e)) (f1.append r2) k4 (by simpa using k1) k2 k3 hne o.dst
    rw [<-zN hd,List.length_append] at hR2
    exact hn _ _ _ _ hk hR2
theorem zmo {f:FuncId} {ps:List PO} {r:PV} {c:Call} {K:PS->Prop} (hd:∀ t,o.dst=some t->t<a.tmps.size) (h:R B g s (zB a) w) (ho:o.op=.call c) (hc:c.callee=.value (.func f)) (hp:Qu c.args.toList=some ps)
 (hC:Cn P f (ps.map fun x=>(s.ev x).sh) r) (hD:zY (ps.map fun x=>(s.ev x).sh)=true) (hk:K (s.put o.dst r)):Kz P o B a w K:=by
 obtain⟨h1,h2⟩:=kf (h.rd (o:=o)) hp (fun x hx=>by rw [ho];simp only [Op.operands,Call.operands,hc,Array.toList_append,List.mem_append];exact .inr hx) hD
 intro next Q hn
 refine KG (D:=g.D) h.gl hC (by simp [h1]) (fun i p hp=>?_) (Jk ho hc rfl hC.1) next Q fun u w' D' hb k1 k2 k3 k4 k5=>?_
 ·have:=h2 i p hp
  simpa using this
 ·have h':=h.grow hb D' (fun b o hD=>k1 b o ⟨hD,h.dlt b o hD⟩) (fun b o hD=>by rcases k2 b o hD with k | k;exact .inl k.1;exact .inr k) k3
  have:=h'.put (u:=u) (p:=r) o.dst (.dat k4) fun hr=>⟨?_,fun v q b q1 q2 q3 q4=>?_,fun b i q1 q2=>?_⟩
  ·rw [<-zN hd] at this
   exact hn _ _ _ _ hk this
  ·cases r<;>try trivial
   rename_i es ow
   cases ow<;>try trivial
   rcases k5 with hn | ⟨gg,cap,cur,e,rfl,hW,hh,hc,he,hd'⟩
   ·exact .inl hn
   ·exact .inr ⟨gg,cap,cur,e,rfl,.inl (Nat.le_trans h.fr.size hW),hh,hc,he,hd'⟩
  ·exfalso
   have hs:zQ g s (zB a) w v q:=by
    rcases q1 with k1 | ⟨i,j,cs',q1,q2,q3⟩
    ·exact .inl k1
    ·exact .inr ⟨i,j,cs',q1,q2,by rw [<-q3];exact(hb.cell (p:=⟨g.ρ i,j,none⟩) (h.ρlt (List.getElem?_eq_some_iff.1 q1).1)).symm⟩
   have e1:=(zX (h.owns v q hs) q2 q3).1
   have e2:=(zX k5 hr q4).2
   omega
  ·have e1:=h.ρlt q2
   have e2:=(zX k5 hr q1).2
   show g.ρ i≠b
   omega
theorem zjR {f:FuncId} {i:Nat} {xs:List PO} {es rs:List (List PV)} {n sz:Nat} {c:Call} {K:PS->Prop} (hd:∀ t,o.dst=some t->t<a.tmps.size) (h:R B g s (zB a) w) (ho:o.op=.call c) (hc:c.callee=.value (.func f)) (hp:Qu c.args.toList=some (.t i::xs)) (hi:s.get i=.sl es (.r n sz))
 (hC:OCn P f es sz (xs.map fun x=>(s.ev x).sh) rs) (hD:zY (xs.map fun x=>(s.ev x).sh)=true) (hk:K ((s.down n).put o.dst (.sl rs (.r n sz)))):Kz P o B a w K:=by
 cases hargs:c.args.toList with
 | nil=>rw [hargs] at hp;cases hp
 | cons x1 xl=>
   rw [hargs] at hp
   simp only [Qu,Option.bind_eq_some_iff,Option.map_eq_some_iff] at hp
   obtain⟨y1,hy1,yl,hyl,e⟩:=hp
   injection e with e1 e2
   subst e1
   subst e2
   have hx1:x1=.tmp i:=by cases x1<;>first | (cases hy1;rfl) | cases hy1
   have hev:a.eval x1=zB a i:=by rw [hx1];rfl
   obtain⟨h1,h2⟩:=kf (h.rd (o:=o)) hyl (fun x hx=>by rw [ho];simp only [Op.operands,Call.operands,hc,Array.toList_append,List.mem_append];exact .inr (by rw [hargs];simp [hx])) hD
   have hrx:=h.slots i
   have hslot:=h.slot i
   have hown:=h.owns _ _ hslot
   have hdj:=fun u q b hu ho hb hb2=>h.disj u q _ _ b hu hslot ho (by rw [hi];simp [PV.own]) hb hb2
   have hbx:=fun b j hb hj=>h.ownbox _ _ b j hslot (by rw [hi];simp [PV.own]) hb hj
   rw [hi] at hrx hown
   obtain⟨hdn,hds⟩:=h.down n
   have hnb:(s.down n).b.length=s.b.length:=by simp [PS.down]
   have other:∀ u q b,zQ g (s.down n) (zB a) w u q->q.own≠none->zc u=some b->zc (zB a i)=some b->False:=fun u q b hu hq hb hb2=>by
    obtain⟨q1,q2⟩:=hds u q hu hq
    have:=hdj u q b q1 hq hb hb2
    rw [hi] at this
    exact q2 this
   have hWb:∀ b,zc (zB a i)=some b->B.W b:=fun b hb=>(zX hown (by simp [PV.own]) hb).2
   have hdat:Dat g.D w (zB a i) (.sl es .sh):=by
    rcases hrx with(hr | ⟨_,_,hh,_⟩) | ⟨_,_,_,_,_,hh,_⟩
    ·exact hr.sh
    ·cases hh
    ·cases hh
   have hown':yW g.D (fun _=>True) w (zB a i) (.sl es (.r 0 sz)):=by
    rcases hown with hn | ⟨gg,cap,cur,e,q1,q2,q3⟩
    ·exact .inl hn
    ·exact .inr ⟨gg,cap,cur,e,q1,trivial,q3⟩
   intro next Q hn
   show o.upon P a next Q ((execOp a.eval o).run P w)
   rw [Jk ho hc hargs hC.1,Oper.upon_enter]
   have harr:((x1::xl).map a.eval).toArray=#[zB a i]++(xl.map a.eval).toArray:=by simp [hev]
   rw [harr]
   refine(hC.2 g.D w (zB a i) (xl.map a.eval).toArray h.gl h.dlt (by simp [h1]) (fun j p hp=>by have:=h2 j p hp;simpa using this) hdat hown').mono ?_
   rintro e w' ⟨u,D',rfl,⟨o1,o2,o3,o4⟩,k1,k2,k3,k4,k5,k6,k7⟩
   show next (a.put o.dst u) w'
   have hF:=hdn.frame (w':=w') D' k2 (fun j hj=>k1 _ (hdn.ρlt hj) fun e=>hbx _ j e (by rw [hnb] at hj;exact hj) rfl) (fun u p b q1 q2 q3=>k1 b (zX (hdn.owns u p q1) q2 q3).1 fun e=>other u p b q1 q2 q3 e) k3
    (fun b o hD=>by
      rcases k4 b o hD with q | q | q
      ·exact .inl q
      ·refine .inr ⟨.inl (Nat.le_trans h.fr.size q),fun j hj e=>?_,fun u p q1 q2 e=>?_⟩
       ·have:=hdn.ρlt hj;omega
       ·have:=(zX (hdn.owns u p q1) q2 e).1;omega
      ·exact .inr ⟨hWb b q,fun j hj=>hbx b j q (by rw [hnb] at hj;exact hj),fun u p q1 q2 e=>other u p b q1 q2 e q⟩) k5 o1 o2 o3 o4
    (fun k hk hn=>k1 k (Nat.lt_of_lt_of_le hk h.fr.size) fun e=>by
      rcases hWb k e with q | q
      ·omega
      ·exact hn q)
   have k6':Rel D' g.ρ (s.down n).b.length w' u (.sl rs (.r n sz)):=by
    exact .dat (k6.owned n sz)
   have:=hF.put (u:=u) (p:=.sl rs (.r n sz)) o.dst k6' fun _=>⟨?_,fun v q b q1 q2 q3 q4=>?_,fun b j q1 q2=>?_⟩
   ·rw [<-zN hd] at this
    exact hn _ _ _ _ hk this
   ·rcases k7 with hn | ⟨gg,cap,cur,e,q1,q2,q3⟩
    ·exact .inl hn
    ·refine .inr ⟨gg,cap,cur,e,q1,?_,q3⟩
     rcases q2 with q2 | q2
     ·exact .inl (Nat.le_trans h.fr.size q2)
     ·exact hWb _ q2
   ·exfalso
    have hs:zQ g (s.down n) (zB a) w v q:=by
     rcases q1 with k1' | ⟨i2,j,cs',r1,r2,r3⟩
     ·exact .inl k1'
     ·refine .inr ⟨i2,j,cs',r1,r2,?_⟩
      have hj:=(List.getElem?_eq_some_iff.1 r1).1
      rw [<-r3]
      exact(World.cell?_of_block (a:=⟨g.ρ i2,j,none⟩) (k1 _ (hdn.ρlt hj) fun e=>hbx _ i2 e (by rw [hnb] at hj;exact hj) rfl)).symm
    have e1:=(zX (hdn.owns v q hs) q2 q3).1
    have e2:=(zX k7 (by simp [PV.own]) q4).2
    rcases e2 with e2 | e2
    ·omega
    ·exact other v q b hs q2 q3 e2
   ·have e1:=hdn.ρlt q2
    have e2:=(zX k7 (by simp [PV.own]) q1).2
    rcases e2 with e2 | e2
    ·show g.ρ j≠b
     omega
    ·exact hbx b j e2 (by rw [hnb] at q2;exact q2)
theorem zmn {t e:TypeId} {n n0:Nat} {parts:Array (Nat × Operand)} {ie:TypeInfo} {zs:List PV} {ps:List PO} {K:PS->Prop} (hd:∀ t,o.dst=some t->t<a.tmps.size) (h:R B g s (zB a) w) (ho:o.op=.buildSlice t n parts) (h1:P.underlying t=some (.slice e)) (h3:P.info? e=some ie) (hz:xg P e=some zs)
 (hp:Qu (parts.toList.map (·.2))=some ps) (hi:parts.toList.map (·.1)=List.range n) (hn:n * ie.size<=16777216) (hmx:n<=maxLen) (hk:yP s ie.size ps fun es=>K (s.put o.dst (.sl es (.r n0 ie.size)))):Kz P o B a w K:=by
 obtain⟨es,cells',k1,hel,hr,k3,hget⟩:=KF (h.rd (o:=o)) ho h1 h3 hz hp hi hn hmx hk
 have hb:Below w.heap.size w (w.alloc (.cells cells' e)):=(Below.refl _ _).alloc (Nat.le_refl _) _
 intro next Q hq
 show o.upon P a next Q ((execOp a.eval o).run P w)
 rw [hr]
 by_cases hes:es=[]
 ·subst hes
  obtain rfl:0=n:=hel
  have h':=h.grow hb g.D (fun _ _ h=>h) (fun _ _ h=>.inl h) fun b o hD=>Nat.lt_of_lt_of_le (h.dlt b o hD) hb.size
  have:=h'.put (u:=.slice (some ⟨w.heap.size,0,none⟩) 0 0) (p:=.sl [] (.r n0 ie.size)) o.dst (.dat ?_) fun _=>⟨.inl ⟨_,rfl,rfl⟩,fun v q b _ _ _ k4=>(by cases k4),fun b i k1 _=>(by cases k1)⟩
  ·rw [<-zN hd] at this
   exact hq _ _ _ _ k1 this
  ·exact .sl _ 0 1 [] _ 0 0 (fun _=>undef) (Nat.le_refl _) (fun h=>by cases h) (Nat.zero_le _) (fun h=>absurd rfl h) (fun i e h=>by simp at h) (fun j h=>absurd h (by simp)) (fun i e j p h=>by simp at h)
 ·have hsz:cells'.size=n * ie.size:=by
   have:=k3.1
   rw [hel] at this
   simpa using this
  obtain⟨g2,hR2⟩:=h.fresh (n0:=n0) hb (Nat.le_refl _) (World.alloc_heap_new w (.cells cells' e)) k3 hget (by omega) hmx hsz hes o.dst
  rw [<-zN hd,hel] at hR2
  exact hq _ _ _ _ k1 hR2
theorem zcW {b:List (List PV)} {p:PV} (h:p.isB=false):p.fz1 b=p:=by cases p<;>first | rfl | cases h
theorem zcB {D:Nat->Nat->Prop} {w:World} {u:Value} {p:PV} (h:Dat D w u p):p.isB=false:=by cases h<;>rfl
theorem zhI {b:List (List PV)} {p:PV}:(p.fz b).own=p.own:=by cases p<;>rfl
theorem R.fz {x:Nat->Value} (h:R B g s x w) (hb:s.b.all zY=true):R B ⟨fun b o=>g.D b o\/∃(i:Nat) (cs:List PV),s.b[i]? = some cs/\g.ρ i=b/\o<cs.length,g.ρ⟩ s.fz x w:=by
 have box:∀(i:Nat) cs,s.b[i]? = some cs->∀ o,Dat (fun b o=>g.D b o\/∃(i:Nat) (cs:List PV),s.b[i]? = some cs/\g.ρ i=b/\o<cs.length) w (.pointer (some ⟨g.ρ i,o,none⟩)) (.cp (cs.map PV.sh) o):=by
  intro i cs hi o
  obtain⟨_,vs,e,hv,hz,hr⟩:=h.boxes i cs hi
  have:=Dat.cp (D:=fun b o=>g.D b o\/∃(i:Nat) (cs:List PV),s.b[i]? = some cs/\g.ρ i=b/\o<cs.length) (w:=w) (g.ρ i) 0 (cs.map PV.sh) o (fun j=>vs.getD j undef) (fun j hj=>by
   have hj':j<cs.length:=by simpa using hj
   refine⟨.inr ⟨i,cs,hi,rfl,by omega⟩,?_,(hr j _ (List.getElem?_eq_getElem hj')).2⟩
   have hjv:j<vs.size:=by omega
   simp [World.cell?,hv,hjv]) (fun j p hp=>by
   rw [List.getElem?_map] at hp
   obtain⟨q,hq,rfl⟩:=Option.map_eq_some_iff.1 hp
   have hd:q.isD=true:=by
    have h1:=List.all_eq_true.1 hb cs (List.mem_of_getElem? hi)
    exact List.all_eq_true.1 h1 q (List.mem_of_getElem? hq)
   exact(((hr j q hq).1.data hd).sh).mono (fun _ _ h=>.inl h) fun _ _ _ _ h=>h)
  simpa using this
 have rel1:∀ {v:Value} {p:PV},Rel1 g.D g.ρ s.b.length w v p->Dat (fun b o=>g.D b o\/∃(i:Nat) (cs:List PV),s.b[i]? = some cs/\g.ρ i=b/\o<cs.length) w v (p.fz1 s.b):=by
  rintro v p (h1 | ⟨i,o,rfl,hi,rfl⟩)
  ·rw [zcW (zcB h1)]
   exact h1.mono (fun _ _ h=>.inl h) fun _ _ _ _ h=>h
  ·show Dat _ w _ (.cp ((s.b[i]?.getD []).map PV.sh) o)
   rw [List.getElem?_eq_getElem hi]
   exact box i _ (List.getElem?_eq_getElem hi) o
 have relf:∀(f:Fn) (va vb:Array Value) (fs cs:List PV),va.size=fs.length->vb.size=cs.length->(∀(i:Nat) q,fs[i]? = some q->Rel1 g.D g.ρ s.b.length w (va.getD i undef) q)->(∀(i:Nat) q,cs[i]? = some q->Rel1 g.D g.ρ s.b.length w (vb.getD i undef) q) ->
  Dat (fun b o=>g.D b o\/∃(i:Nat) (cs:List PV),s.b[i]? = some cs/\g.ρ i=b/\o<cs.length) w (.func f va vb) (.fn f (fs.map (PV.fz1 s.b)) (cs.map (PV.fz1 s.b))):=by
  intro f va vb fs cs h1 h2 h3 h4
  refine .fn f va vb _ _ (by simpa using h1) (by simpa using h2) (fun i q hq=>?_) fun i q hq=>?_
  ·rw [List.getElem?_map] at hq
   obtain⟨q',hq',rfl⟩:=Option.map_eq_some_iff.1 hq
   exact rel1 (h3 i q' hq')
  ·rw [List.getElem?_map] at hq
   obtain⟨q',hq',rfl⟩:=Option.map_eq_some_iff.1 hq
   exact rel1 (h4 i q' hq')
 have rel:∀ {v:Value} {p:PV},Rel g.D g.ρ s.b.length w v p->Dat (fun b o=>g.D b o\/∃(i:Nat) (cs:List PV),s.b[i]? = some cs/\g.ρ i=b/\o<cs.length) w v (p.fz s.b):=by
  rintro v p (h1 | ⟨f,va,vb,fs,cs,rfl,rfl,h1,h2,h3,h4⟩)
  ·by_cases hf:∃ f fs cs,p=.fn f fs cs
   ·obtain⟨f,fs,cs,rfl⟩:=hf
    rcases h1 with h1 | ⟨i,o,h1,_⟩
    ·cases h1 with
     | fn f va vb fs cs h1 h2 h3 h4=>exact relf f va vb fs cs h1 h2 (fun i q hq=>.inl (h3 i q hq)) fun i q hq=>.inl (h4 i q hq)
    ·cases h1
   ·have e:p.fz s.b=p.fz1 s.b:=by cases p<;>first | rfl | exact absurd ⟨_,_,_,rfl⟩ hf
    rw [e];exact rel1 h1
  ·exact relf f va vb fs cs h1 h2 h3 h4
 have get:∀ t,s.fz.get t=(s.get t).fz s.b:=fun t=>by
  have key:∀ l:List (Nat × PV),yr (l.map fun y=>(y.1,y.2.fz s.b)) t=(yr l t).fz s.b:=fun l=>by
   induction l with
   | nil=>rfl
   | cons y l ih=>
     obtain⟨j,q⟩:=y
     simp only [List.map_cons,yr]
     split
     ·rfl
     ·exact ih
  exact key s.t
 have sl:∀ u q,zQ ⟨fun b o=>g.D b o\/∃(i:Nat) (cs:List PV),s.b[i]? = some cs/\g.ρ i=b/\o<cs.length,g.ρ⟩ s.fz x w u q->q.own≠none->∃ p,zQ g s x w u p/\q=p/\p.own≠none:=by
  rintro u q (⟨t,rfl,rfl⟩ | ⟨i,j,cs,h1,_⟩) ho
  ·rw [get] at ho ⊢
   rw [zhI] at ho
   refine⟨s.get t,h.slot t,?_,ho⟩
   cases e:s.get t<;>first | rfl | (rw [e] at ho;exact absurd rfl ho)
  ·simp [PS.fz] at h1
 refine⟨fun t=>?_,fun i cs hi=>by simp [PS.fz] at hi,fun i j hi=>by simp [PS.fz] at hi,fun u q hq=>?_,fun u q u' q' b h1 h2 o1 o2 b1 b2=>?_,fun u q b i h1 o1 b1 hi=>by simp [PS.fz] at hi,fun b o hD=>?_,fun i hi=>by simp [PS.fz] at hi,?_⟩
 ·rw [get];exact .dat (rel (h.slots t))
 ·by_cases ho:q.own=none
  ·exact zr ho
  ·obtain⟨p,hp,rfl,ho'⟩:=sl u q hq ho
   have hok:=h.owns u q hp
   cases q<;>try exact absurd rfl ho'
   rename_i es ow
   cases ow<;>try exact absurd rfl ho'
   rcases hok with hn | ⟨gg,cap,cur,e,rfl,k2,k3,k4,k5,k6⟩
   ·exact .inl hn
   ·refine .inr ⟨gg,cap,cur,e,rfl,k2,k3,k4,k5,fun o hle hD=>?_⟩
    rcases hD with hD | ⟨i,cs,hi,e1,_⟩
    ·exact k6 o hle hD
    ·have hil:=(List.getElem?_eq_some_iff.1 hi).1
     cases cap with
     | zero=>
       obtain⟨_,vs,e2,hv,hz,_⟩:=h.boxes i cs hi
       rw [e1,k3] at hv
       cases hv
       omega
     | succ cap=>exact h.ownbox _ _ gg i hp ho' rfl hil e1
 ·obtain⟨p,hp,rfl,ho⟩:=sl u q h1 o1
  obtain⟨p',hp',rfl,ho'⟩:=sl u' q' h2 o2
  exact h.disj _ _ _ _ b hp hp' ho ho' b1 b2
 ·rcases hD with hD | ⟨i,cs,hi,rfl,_⟩
  ·exact h.dlt b o hD
  ·exact h.ρlt (List.getElem?_eq_some_iff.1 hi).1
 ·refine⟨h.fr.os,h.fr.tape,h.fr.output,h.fr.size,h.fr.block,fun b o hD=>.inl (h.fr.d0 b o hD),h.fr.cell,fun b o hD=>?_,h.fr.d0lt⟩
  rcases hD with hD | ⟨i,cs,hi,rfl,_⟩
  ·exact h.fr.new b o hD
  ·exact .inr (h.boxes i cs hi).1
theorem ZO {k:PK} {K:PS->Prop} (hc:XR P o=some k) (hd:∀ t,o.dst=some t->t<a.tmps.size) (h:R B g s (zB a) w) (hk:k.e P o.dst s K):Kz P o B a w K:=by
 have hq:(k.q P s fun p=>K (s.put o.dst p))->Kz P o B a w K:=fun hk=>Z0 hd h (y9 hc h.rd hk)
 have hi:=comp_inv hc
 cases k with
 | mv x=>
   cases x with
   | t i=>obtain⟨x,ho,hx⟩:=hi;exact zmp hd h ho hx hk
   | c p=>exact hq hk
   | f p=>exact hq hk
 | ld x ag n=>
   cases ag with
   | true=>exact hq hk
   | false=>
     by_cases hn:n=1
     ·subst hn
      obtain⟨t,y,ho,hs,hx⟩:=hi
      simp only [PK.e] at hk
      split at hk
      ·rename_i i o' hb
       split at hk
       ·rename_i cs hcs
        split at hk
        ·rename_i p hp
         exact zjQ hd h ho hs hx hb hcs hp hk
        ·exact hk.elim
       ·exact hk.elim
      ·exact hq hk
     ·refine hq ?_
      unfold PK.e at hk
      split at hk<;>first | exact hk | simp_all
 | bs sz ps=>
   obtain⟨t,e,n,parts,ie,zs,ho,h1,h3,hz,hp,hi2,hn,hmx,rfl⟩:=hi
   simp only [PK.e] at hk
   split at hk
   ·rename_i d hdst
    rw [<-hdst] at hk
    exact zmn (n0:=d) hd h ho h1 h3 hz hp hi2 hn (by unfold maxLen;omega) hk
   ·exact hq hk
 | al zs=>
   obtain⟨e,ho,hz⟩:=hi
   obtain⟨i,z,g1,g2,rfl,g4⟩:=qJ hz
   have hrun:(execOp a.eval o).run P w=.ok (.value (.pointer (some ⟨w.heap.size,0,none⟩))) (w.alloc (.cells z.cells e)):=by
    have hzv:(zeroValue e).run P w=.ok z w:=by simp [zeroValue,typeInfo,g1,g2]
    simp [execOp,ho,Instr.alloc,hzv,newVar,newRow]
   have hcd:=yT (D:=g.D) (w:=w) g4
   have hsh:(z.cells.toList.map Q6).map PV.sh=z.cells.toList.map Q6:=by
    rw [List.map_map]
    apply List.map_congr_left
    intro v _
    show (Q6 v).sh=Q6 v
    unfold Q6;split<;>rfl
   exact zgO hd h (u:=z) (cs:=z.cells.toList.map Q6) ⟨hcd.1,fun i p hp=>⟨.dat (hcd.2 i p hp).1,(hcd.2 i p hp).2⟩⟩ hrun (by rw [hsh];exact hk)
 | bo x=>
   obtain⟨e,y,ho,hx⟩:=hi
   obtain⟨cs,h1,h2⟩:=xY hk (h.rd (o:=o).op hx (by simp [ho,Op.operands]))
   have hrun:(execOp a.eval o).run P w=.ok (.value (.pointer (some ⟨w.heap.size,0,none⟩))) (w.alloc (.cells (a.eval y).cells e)):=by
    simp [execOp,ho,Instr.box,newVar,newRow]
   exact zgO hd h h2 hrun h1
 | st x y n=>
   obtain⟨t,x1,x2,ag,ho,hs,hx,hy⟩:=hi
   simp only [PK.e] at hk
   split at hk
   ·rename_i i o' hb
    split at hk
    ·rename_i cs hcs
     exact zmq hd h ho hs hx hy hb hcs hk
    ·exact hk.elim
   ·exact hk.elim
 | ap x y sz by_=>
   obtain⟨x1,x2,t,e,i,z0,hA,hx,hy,rfl,rfl⟩:=hi
   simp only [PK.e] at hk
   split at hk
   ·rename_i es n sz' hb
    obtain⟨rfl,hT,hk⟩:=hk
    obtain⟨es',k,ey,h1,h2,h3⟩:=y8 hk
    cases x with
    | t j=>exact zgN hd h hA hx hy hb ey h1 h2 h3
    | c p=>cases hT
    | f p=>cases hT
   ·rename_i es hb
    have hq':(PK.q P s (.ap x y i.size i.bytes) fun p=>K (s.put o.dst p.strip))->Kz P o B a w K:=fun hk=>by
     obtain⟨p,h1,h2,h3⟩:=y9 hc (h.rd (o:=o)) hk
     refine Z0 hd h ⟨p.strip,h1,p.strip_own,fun next Q hn=>h3 next Q fun u w' hb hr _=>hn u w' hb hr.strip fun _ _ _=>xA p.strip_isN⟩
    split at hk
    ·rename_i d hdst
     obtain⟨es',k,ey,h0,h1,h2,h3⟩:=y8 hk
     rw [<-hdst] at h3
     by_cases hz:es'=[]/\es≠[]
     ·obtain⟨rfl,hz⟩:=hz
      refine hq' ?_
      simp only [PK.q,hb,ey,QA]
      refine⟨h0,h1,h2,?_⟩
      have:apO es [] d i.size=.sh:=by cases es<;>first | exact absurd rfl hz | rfl
      rw [this] at h3
      exact h3
     ·have hne:es'=[]->es=[]:=fun e=>Classical.byContradiction fun h=>hz ⟨e,h⟩
      have:apO es es' d i.size=.r d i.size:=by cases es<;>cases es'<;>first | rfl | (have:=hne rfl;cases this)
      rw [this] at h3
      exact zjP (n0:=d) hd h hA hx hy hb ey h0 h1 h2 hne h3
    ·rename_i hdst
     exact hq' hk
   ·exact hk.elim
 | ca f xs=>
   obtain⟨c,ho,h1,h2⟩:=hi
   have plain:(∃ r,Cn P f (xs.map fun x=>(s.ev x).sh) r/\zY (xs.map fun x=>(s.ev x).sh)=true/\K (s.put o.dst r))->Kz P o B a w K:=fun⟨r,hC,hD,hk⟩=>zmo hd h ho h1 h2 hC hD hk
   simp only [PK.e] at hk
   split at hk
   ·rename_i i xs'
    split at hk
    ·rename_i es n sz hx
     rcases hk with hk | ⟨rs,hC,hD,hk⟩
     ·exact plain hk
     ·exact zjR hd h ho h1 h2 hx hC hD hk
    ·exact plain hk
   ·exact plain hk
 | sc x lo hi' sz=>
   obtain⟨p,h1,h2,h3⟩:=y9 hc (h.rd (o:=o)) (show PK.q P s (.sc x lo hi' sz) fun p=>K (s.put o.dst p.strip) from hk)
   exact Z0 hd h ⟨p.strip,h1,p.strip_own,fun next Q hn=>h3 next Q fun u w' hb hr _=>hn u w' hb hr.strip fun _ _ _=>xA p.strip_isN⟩
 | mf f fs cs=>
   simp only [PK.e] at hk
   split at hk
   ·have h':=h.fz hk.1
    exact Z0 hd h' (y9 hc h'.rd hk.2)
   ·exact hq hk
 | _=>exact hq hk
end Go.Proofs.YtopfkkogooocgaaGreat
