import Derived.Test.YtonhfknjcbakiaaGreatDoorB14
set_option linter.unusedVariables false
set_option linter.unusedSimpArgs false
namespace Go.Proofs.YtonhfknjcbakiaaGreatDoor
open Go.RowKit
theorem zii {P:Program} {I:Nat} {ms:List Nat} {c:Code} {U:PC} (Y:qx P I ms c=some U) {D0 D:Nat->Nat->Prop} {w0 w:World} (C:GL D0 w0) (a:Act) (L:Fr ⟨w0,D0,fun _=>False,C,a.defers⟩ D w) (X:∀ b o,D b o->b<w.heap.size) {rb:Nat} (M:w0.heap.size<=rb) {x:Value} {p:PV} {e:TypeId} (K:w.heap[rb]? = some (.cells #[x] e (0,0))) (hx:Dat D w x p) (T:x.oneCell'=true) (J:∀ o,¬ D rb o)
 (N:a.tmps.size=I) (F:List (Nat × PV)) (O:∀ t,(yr F t=.bx 0 0/\zB a t=.pointer (some ⟨rb,0,none⟩))\/Dat D w (zB a t) (yr F t)) (G:∀ t,(yr F t).own=none) (hp:p.own=none) {Q:PX->PS->Prop} (S:pW P I True U Q ⟨F,[[p]]⟩) :
 c.wp P (QL ⟨w0,D0,fun _=>False,C,a.defers⟩ I Q) a w:=by
 have E:∀ u q,zQ ⟨D,fun _=>rb⟩ ⟨F,[[p]]⟩ (zB a) w u q->q.own=none:=by
  rintro u q (⟨t,rfl,rfl⟩ | ⟨i,j,V,y,A,_⟩)
  ·exact G t
  ·match i,y with
   | 0,y=>
     cases y
     match j,A with
     | 0,A=>cases A;exact hp
     | j+1,A=>simp at A
   | i+1,y=>simp at y
 refine Ql (B:=⟨w0,D0,fun _=>False,C,a.defers⟩) (fun _ _ h=>h) c U Y Q ⟨F,[[p]]⟩ ⟨D,fun _=>rb⟩ a w S ⟨⟨fun t=>?_,fun i V hi=>?_,fun i j hi Z _=>?_,fun u q h=>zr (E u q h),fun u q u' q' b h _ ho=>absurd (E u q h) ho,fun u q b i h ho=>absurd (E u q h) ho,X,fun i _ o=>J o,L⟩,rfl,N⟩
 ·show Rel D (fun _=>rb) 1 w (zB a t) (yr F t)
  rcases O t with⟨y,A⟩ | h
  ·rw [y,A];exact .inl (.inr ⟨0,0,rfl,by decide,rfl⟩)
  ·exact .dat h
 ·match i,hi with
  | 0,hi=>
    cases hi
    refine⟨.inl M,#[x],e,K,rfl,fun j q H=>?_⟩
    match j,H with
    | 0,H=>cases H;exact⟨.dat hx,T⟩
    | j+1,H=>simp at H
  | i+1,hi=>simp at hi
 ·simp at hi Z;omega
theorem zih {P:Program} {nt:Nat} {c:Code} (G:(qx P nt [] c).isSome=true) {D0 D:Nat->Nat->Prop} {w0 w:World} (j:GL D0 w0) (a:Act) (F:Fr ⟨w0,D0,fun _=>False,j,a.defers⟩ D w) (L:∀ b o,D b o->b<w.heap.size) {rb:Nat} (H:w0.heap.size<=rb) {x:Value} {p:PV} {e:TypeId} (E:w.heap[rb]? = some (.cells #[x] e (0,0))) (N:Dat D w x p) (K:x.oneCell'=true) (C:∀ o,¬ D rb o)
 (I:a.tmps.size=nt) (B:List (Nat × PV)) (J:∀ t,(yr B t=.bx 0 0/\zB a t=.pointer (some ⟨rb,0,none⟩))\/Dat D w (zB a t) (yr B t)) (u:∀ t,(yr B t).own=none) (M:p.own=none) {Q:PX->PS->Prop} (A:pW P nt True ((qx P nt [] c).getD .sk) Q ⟨B,[[p]]⟩) :
 c.wp P (QL ⟨w0,D0,fun _=>False,j,a.defers⟩ nt Q) a w:=by
 obtain⟨O,y⟩:=Option.isSome_iff_exists.1 G
 rw [y] at A
 exact zii y j a F L H E N K C I B J u M A
theorem zfM {P:Program} {fn:Func} {Q:Nat} {x y:RV} {B:Bs} (T:yc P fn.results.toList=some [x,y]) {p q:PV} {e:Exit} {a:Act} {w:World} (h:QL B Q (jG [x,y] (.tup [p,q])) e a w) :
 (e=.normal\/e=.ret)/\a.defers=B.df/\∃(v:Value) (A:Nat->Nat->Prop),(results fn a.tmps).run P w=.ok v w/\Fr B A w/\(∀ b o,A b o->b<w.heap.size)/\Dat A w v (.tup [p,q]):=by
 have H:∀ s g,RA B Q g s a w->jC [x,y] s (.tup [p,q])->a.defers=B.df/\∃(v:Value) (A:Nat->Nat->Prop),(results fn a.tmps).run P w=.ok v w/\Fr B A w/\(∀ b o,A b o->b<w.heap.size)/\Dat A w v (.tup [p,q]):=by
  intro s g K G
  obtain⟨J,L,_⟩:=K
  have j:(match YJ s [x,y] with | some S=>S.all PV.resD=true/\SubP 0 (.tup (S.map PV.sh)) (.tup [p,q]) | none=>False):=by cases x<;>exact G
  have M:∀ {I u},YJ s I=some u->u.length=I.length:=by
   intro I
   induction I with
   | nil=>intro u h;cases h;rfl
   | cons x l ih=>
     intro u h
     simp only [YJ,Option.bind_eq_some_iff,Option.map_eq_some_iff] at h
     obtain⟨p,_,X,N,rfl⟩:=h
     simp [ih N]
  cases E:YJ s [x,y] with
  | none=>rw [E] at j;exact j.elim
  | some u=>
    rw [E] at j
    obtain⟨F,C⟩:=j
    obtain⟨us,U,O,_,V⟩:=Kj J T E F
    have hl:us.length=2:=by rw [O,M E];rfl
    match us,hl with
    | [u1,u2],_=>
      refine⟨L,.tuple #[u1,u2],g.D,xZ fn _ U,J.fr,J.dlt,ze2 (ρ:=g.ρ) (SubP.rel C (nb:=0) (.dat (.tup _ _ (by simp [<-O]) fun i p E=>?_)))⟩
      simp only [List.getElem?_map,Option.map_eq_some_iff] at E
      obtain⟨q,N,rfl⟩:=E
      have:=V i q N
      simpa [List.getD_eq_getElem?_getD] using this
 cases e with
 | normal=>obtain⟨s,g,F,C⟩:=h;exact⟨.inl rfl,H s g F C⟩
 | ret=>obtain⟨s,g,F,C⟩:=h;exact⟨.inr rfl,H s g F C⟩
 | exit id=>obtain⟨s,g,F,C⟩:=h;exact C.elim
 | goto l=>exact h.elim
 | panic ch=>exact h.elim
 | outgrown=>exact h.elim
end Go.Proofs.YtonhfknjcbakiaaGreatDoor
