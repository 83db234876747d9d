import Derived.Test.YtonhfknjcbakiaaGreatDoorB14
set_option linter.unusedVariables false
set_option linter.unusedSimpArgs false
namespace Go.Proofs.YtonhfknjcbakiaaGreatDoor
open Go.RowKit
theorem zii {P:Program} {nt:Nat} {ms:List Nat} {c:Code} {pc:PC} (hc:qx P nt ms c=some pc) {D0 D:Nat->Nat->Prop} {w0 w:World} (hgl:GL D0 w0) (a:Act) (hfr:Fr ⟨w0,D0,fun _=>False,hgl,a.defers⟩ D w) (hD:∀ b o,D b o->b<w.heap.size) {rb:Nat} (hrb:w0.heap.size<=rb) {x:Value} {p:PV} {e:TypeId} (hbx:w.heap[rb]? = some (.cells #[x] e (0,0))) (hx:Dat D w x p) (hx1:x.oneCell'=true) (hDb:∀ o,¬ D rb o)
 (hsz:a.tmps.size=nt) (ts:List (Nat × PV)) (hts:∀ t,(yr ts t=.bx 0 0/\zB a t=.pointer (some ⟨rb,0,none⟩))\/Dat D w (zB a t) (yr ts t)) (hown:∀ t,(yr ts t).own=none) (hp:p.own=none) {Q:PX->PS->Prop} (hvc:pW P nt True pc Q ⟨ts,[[p]]⟩) :
 c.wp P (QL ⟨w0,D0,fun _=>False,hgl,a.defers⟩ nt Q) a w:=by
 have hso:∀ u q,zQ ⟨D,fun _=>rb⟩ ⟨ts,[[p]]⟩ (zB a) w u q->q.own=none:=by
  rintro u q (⟨t,rfl,rfl⟩ | ⟨i,j,cs,h1,h2,_⟩)
  ·exact hown t
  ·match i,h1 with
   | 0,h1=>
     cases h1
     match j,h2 with
     | 0,h2=>cases h2;exact hp
     | j+1,h2=>simp at h2
   | i+1,h1=>simp at h1
 refine Ql (B:=⟨w0,D0,fun _=>False,hgl,a.defers⟩) (fun _ _ h=>h) c pc hc Q ⟨ts,[[p]]⟩ ⟨D,fun _=>rb⟩ a w hvc ⟨⟨fun t=>?_,fun i cs hi=>?_,fun i j hi hj _=>?_,fun u q h=>zr (hso u q h),fun u q u' q' b h _ ho=>absurd (hso u q h) ho,fun u q b i h ho=>absurd (hso u q h) ho,hD,fun i _ o=>hDb o,hfr⟩,rfl,hsz⟩
 ·show Rel D (fun _=>rb) 1 w (zB a t) (yr ts t)
  rcases hts t with⟨h1,h2⟩ | h
  ·rw [h1,h2];exact .inl (.inr ⟨0,0,rfl,by decide,rfl⟩)
  ·exact .dat h
 ·match i,hi with
  | 0,hi=>
    cases hi
    refine⟨.inl hrb,#[x],e,hbx,rfl,fun j q hq=>?_⟩
    match j,hq with
    | 0,hq=>cases hq;exact⟨.dat hx,hx1⟩
    | j+1,hq=>simp at hq
  | i+1,hi=>simp at hi
 ·simp at hi hj;omega
theorem zih {P:Program} {nt:Nat} {c:Code} (hok:(qx P nt [] c).isSome=true) {D0 D:Nat->Nat->Prop} {w0 w:World} (hgl:GL D0 w0) (a:Act) (hfr:Fr ⟨w0,D0,fun _=>False,hgl,a.defers⟩ D w) (hD:∀ b o,D b o->b<w.heap.size) {rb:Nat} (hrb:w0.heap.size<=rb) {x:Value} {p:PV} {e:TypeId} (hbx:w.heap[rb]? = some (.cells #[x] e (0,0))) (hx:Dat D w x p) (hx1:x.oneCell'=true) (hDb:∀ o,¬ D rb o)
 (hsz:a.tmps.size=nt) (ts:List (Nat × PV)) (hts:∀ t,(yr ts t=.bx 0 0/\zB a t=.pointer (some ⟨rb,0,none⟩))\/Dat D w (zB a t) (yr ts t)) (hown:∀ t,(yr ts t).own=none) (hp:p.own=none) {Q:PX->PS->Prop} (hvc:pW P nt True ((qx P nt [] c).getD .sk) Q ⟨ts,[[p]]⟩) :
 c.wp P (QL ⟨w0,D0,fun _=>False,hgl,a.defers⟩ nt Q) a w:=by
 obtain⟨pc,hpc⟩:=Option.isSome_iff_exists.1 hok
 rw [hpc] at hvc
 exact zii hpc hgl a hfr hD hrb hbx hx hx1 hDb hsz ts hts hown hp hvc
theorem zfM {P:Program} {fn:Func} {nt:Nat} {x y:RV} {B:Bs} (hr:yc P fn.results.toList=some [x,y]) {p q:PV} {e:Exit} {a:Act} {w:World} (h:QL B nt (jG [x,y] (.tup [p,q])) e a w) :
 (e=.normal\/e=.ret)/\a.defers=B.df/\∃(v:Value) (D':Nat->Nat->Prop),(results fn a.tmps).run P w=.ok v w/\Fr B D' w/\(∀ b o,D' b o->b<w.heap.size)/\Dat D' w v (.tup [p,q]):=by
 have key:∀ s g,RA B nt g s a w->jC [x,y] s (.tup [p,q])->a.defers=B.df/\∃(v:Value) (D':Nat->Nat->Prop),(results fn a.tmps).run P w=.ok v w/\Fr B D' w/\(∀ b o,D' b o->b<w.heap.size)/\Dat D' w v (.tup [p,q]):=by
  intro s g hRA hret
  obtain⟨hR,hdf,_⟩:=hRA
  have hret':(match YJ s [x,y] with | some ps=>ps.all PV.resD=true/\SubP 0 (.tup (ps.map PV.sh)) (.tup [p,q]) | none=>False):=by cases x<;>exact hret
  have hl2:∀ {rs ps'},YJ s rs=some ps'->ps'.length=rs.length:=by
   intro rs
   induction rs with
   | nil=>intro ps' h;cases h;rfl
   | cons x l ih=>
     intro ps' h
     simp only [YJ,Option.bind_eq_some_iff,Option.map_eq_some_iff] at h
     obtain⟨p,_,qs,hq,rfl⟩:=h
     simp [ih hq]
  cases hp:YJ s [x,y] with
  | none=>rw [hp] at hret';exact hret'.elim
  | some ps'=>
    rw [hp] at hret'
    obtain⟨h1,h2⟩:=hret'
    obtain⟨us,k1,k2,_,k3⟩:=Kj hR hr hp h1
    have hl:us.length=2:=by rw [k2,hl2 hp];rfl
    match us,hl with
    | [u1,u2],_=>
      refine⟨hdf,.tuple #[u1,u2],g.D,xZ fn _ k1,hR.fr,hR.dlt,ze2 (ρ:=g.ρ) (SubP.rel h2 (nb:=0) (.dat (.tup _ _ (by simp [<-k2]) fun i p hp=>?_)))⟩
      simp only [List.getElem?_map,Option.map_eq_some_iff] at hp
      obtain⟨q,hq,rfl⟩:=hp
      have:=k3 i q hq
      simpa [List.getD_eq_getElem?_getD] using this
 cases e with
 | normal=>obtain⟨s,g,h1,h2⟩:=h;exact⟨.inl rfl,key s g h1 h2⟩
 | ret=>obtain⟨s,g,h1,h2⟩:=h;exact⟨.inr rfl,key s g h1 h2⟩
 | exit id=>obtain⟨s,g,h1,h2⟩:=h;exact h2.elim
 | goto l=>exact h.elim
 | panic ch=>exact h.elim
 | outgrown=>exact h.elim
end Go.Proofs.YtonhfknjcbakiaaGreatDoor
