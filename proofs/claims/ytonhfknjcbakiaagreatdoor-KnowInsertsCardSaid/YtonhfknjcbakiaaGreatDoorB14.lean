import Derived.Test.YtonhfknjcbakiaaGreatDoorB13
set_option linter.unusedVariables false
set_option linter.unusedSimpArgs false
namespace Go.Proofs.YtonhfknjcbakiaaGreatDoor
open Go.RowKit
variable {P:Program}
def qQ:Nat->List PV->List (Nat × PV)
 | _,[]=>[]
 | k,p::ps=>(k,p)::qQ (k+1) ps
theorem Qe:∀(a:List PV) (k i:Nat),yr (qQ k a) i=if k<=i then a.getD (i - k) .und else .und
 | [],k,i=>by simp [qQ,yr]
 | p::a,k,i=>by
   simp only [qQ,yr]
   by_cases h:k=i
   ·subst h;simp
   ·rw [if_neg h,Qe a (k+1) i]
    by_cases j:k+1<=i
    ·rw [if_pos j,if_pos (by omega)]
     obtain⟨d,u⟩:∃ d,i - k=d+1:=⟨i - k - 1,by omega⟩
     rw [u,show i - (k+1)=d from by omega]
     rfl
    ·rw [if_neg j,if_neg (by omega)]
def PV.resD:PV->Bool
 | .agg cs=>zY cs
 | p=>p.isD
def zgB:List Value->Value
 | [u]=>u
 | us=>.tuple us.toArray
inductive RV where
 | t (i:Nat)
 | c (i:Nat) (ag:Bool) (n:Nat)
def RV.get (s:PS):RV->Option PV
 | .t i=>some (s.get i)
 | .c i ag n=>match s.get i with
   | .bx j o=>match s.b[j]? with
     | some a=>match ag with
       | true=>if o+n<=a.length then some (.agg ((a.drop o).take n)) else none
       | false=>a[o]?
     | none=>none
   | _=>none
def YJ (s:PS):List RV->Option (List PV)
 | []=>some []
 | r::l=>(r.get s).bind fun p=>(YJ s l).map fun a=>p::a
def jC (a:List RV) (s:PS) (r:PV):Prop:=match a with
 | [.t t]=>SubP 0 (s.get t) r
 | [x]=>match x.get s with
   | some p=>p.resD=true/\SubP 0 p.sh r/\r.own=none
   | none=>False
 | a=>match YJ s a with
   | some j=>j.all PV.resD=true/\SubP 0 (.tup (j.map PV.sh)) r
   | none=>False
def jG (a:List RV) (r:PV):PX->PS->Prop
 | .x _,_=>False
 | _,s=>jC a s r
def XU (P:Program):ResultVar->Option RV
 | .tmp t=>some (.t t)
 | .cell a t=>(XH P t).bind fun(ag,n)=>if ag || n == 1 then some (.c a ag n) else none
def yc (P:Program):List ResultVar->Option (List RV)
 | []=>some []
 | r::l=>(XU P r).bind fun x=>(yc P l).map fun a=>x::a
section
variable {B:Bs} {nt:Nat} {g:Gh} {s:PS} {a:Act} {w:World}
def Xs (j:Array Value):ResultVar->Sem Value
 | .tmp t=>pure (j.getD t undef)
 | .cell a t=>do loadVar t (<-asAddr (j.getD a undef))
theorem ziS (h:R B g s (zB a) w) {J:ResultVar} {x:RV} {p:PV} (C:XU P J=some x) (A:x.get s=some p) (F:p.resD=true):∃ u,(Xs a.tmps J).run P w=.ok u w/\Dat g.D w u p.sh:=by
 cases J with
 | tmp t=>
   cases C
   simp only [RV.get,Option.some.injEq] at A
   subst A
   have O:(s.get t).isD=true:=by
    revert F
    cases s.get t<;>intro F<;>first | exact F | rfl
   exact⟨_,rfl,((h.slots t).data O).sh⟩
 | cell i t=>
   simp only [XU,Option.bind_eq_some_iff] at C
   obtain⟨⟨H,n⟩,hs,C⟩:=C
   simp only at C
   split at C
   ·rename_i hcond
    cases C
    simp only [RV.get] at A
    split at A
    ·rename_i j o e
     have M:=h.slots i
     rw [e] at M
     obtain⟨V,e1⟩:=M.inv_bx
     split at A
     ·rename_i cs hcs
      obtain⟨U,K,T,Q,hz,hb⟩:=h.boxes j cs hcs
      have E:∀ k,k<cs.length->w.cell? ⟨g.ρ j,0+k,none⟩=some (K.getD k undef)/\(K.getD k undef).oneCell'=true:=fun k hk=>by
       refine⟨?_,(hb k _ (List.getElem?_eq_getElem hk)).2⟩
       simp only [World.cell?,Q]
       simp [show k<K.size by omega]
      have I:VI cs o H n fun y=>y=p:=by
       unfold VI
       cases H with
       | true=>
         simp only at A ⊢
         split at A
         ·rename_i hle;cases A;exact⟨hle,rfl⟩
         ·cases A
       | false=>
         simp only at A ⊢
         rw [A]
      have G:H=true->zY ((cs.drop o).take n)=true:=fun e=>by
       subst e
       simp only at A
       split at A
       ·cases A;exact F
       ·cases A
      obtain⟨u,S,L,N,rfl⟩:=Qv (P:=P) (D:=g.D) (ρ:=g.ρ) (nb:=s.b.length) hs I E (fun k q I=>(hb k q I).1) G
      refine⟨u,?_,(N.data ?_).sh⟩
      ·rw [Nat.zero_add] at L
       have e2:a.tmps.getD i undef=.pointer (some ⟨g.ρ j,o,none⟩):=e1
       simp only [Xs,e2,asAddr,Sem.run_bind,Sem.run_pure,Result.andThen_ok,L]
      ·revert F
       cases S<;>intro F<;>first | exact F | rfl
     ·cases A
    ·cases A
   ·cases C
theorem Kj (h:R B g s (zB a) w):∀ {l:List ResultVar} {A:List RV} {y:List PV},yc P l=some A->YJ s A=some y->y.all PV.resD=true ->
 ∃ us:List Value,(l.mapM (Xs a.tmps)).run P w=.ok us w/\us.length=y.length/\l.length=A.length/\∀(i:Nat) p,y[i]? = some p->Dat g.D w (us.getD i undef) p.sh
 | [],A,y,hc,j,_=>by cases hc;cases j;exact⟨[],rfl,rfl,rfl,fun i p h=>by simp at h⟩
 | r::l,A,y,hc,j,hd=>by
   simp only [yc,Option.bind_eq_some_iff,Option.map_eq_some_iff] at hc
   obtain⟨x,L,N,C,rfl⟩:=hc
   simp only [YJ,Option.bind_eq_some_iff,Option.map_eq_some_iff] at j
   obtain⟨p,j,M,K,rfl⟩:=j
   simp only [List.all_cons,Bool.and_eq_true] at hd
   obtain⟨u,E,F⟩:=ziS h L j hd.1
   obtain⟨us,G,H,I,J⟩:=Kj h C K hd.2
   refine⟨u::us,by simp only [List.mapM_cons,Sem.run_bind,E,Result.andThen_ok,G,Sem.run_pure],by simp [H],by simp [I],fun i q hi=>?_⟩
   cases i with
   | zero=>simp at hi;subst hi;exact F
   | succ i=>simpa using J i q (by simpa using hi)
theorem xZ (fn:Func) (a:Array Value) {us:List Value} (h:(fn.results.toList.mapM (Xs a)).run P w=.ok us w):(results fn a).run P w=.ok (zgB us) w:=by
 unfold results
 rw [Array.mapM_eq_mapM_toList]
 simp only [Sem.run_bind,Sem.run_map]
 erw [h]
 simp only [Result.andThen_ok,Sem.run_pure]
 match us with
 | []=>rfl
 | [u]=>rfl
 | u::v::l=>simp [zgB]
end
theorem ze2 {D:Nat->Nat->Prop} {ρ:Nat->Nat} {w:World} {u:Value} {p:PV} (h:Rel D ρ 0 w u p):Dat D w u p:=by
 have a:∀ {u p},Rel1 D ρ 0 w u p->Dat D w u p:=fun h=>by
  rcases h with h | ⟨i,o,_,hi,_⟩
  ·exact h
  ·omega
 rcases h with h | ⟨f,G,H,A,y,rfl,rfl,B,C,E,F⟩
 ·exact a h
 ·exact .fn f G H A y B C (fun i p j=>a (E i p j)) (fun i p j=>a (F i p j))
theorem Ym {f:FuncId} {fn:Func} {c:Code} (u:P.funcs[f]? = some fn) (y:(fn.name == "runtime.NumGoroutine")=false) (hb:fn.body=some c):∀ a w,(callFunc f a).run P w=.ok (.enter f a) w:=by
 intro a w
 have j:¬ fn.name = "runtime.NumGoroutine" := by simpa using y
 simp [callFunc,u,j,hb]
theorem zjM {f:FuncId} {fn:Func} {c:Code} {pc:PC} (ms:List Nat) (hf:P.funcs[f]? = some fn) (hn:(fn.name == "runtime.NumGoroutine")=false) (hb:fn.body=some c) (M:List RV) (hr:yc P fn.results.toList=some M) (nt:Nat) (aj:fn.ntmps=nt) (hc:qx P nt ms c=some pc) {L:List PV} {r:PV}
 (ak:∀ p ∈ L,p.own=none) (hl:L.length<=nt) (an:pW P nt True pc (jG M r) ⟨qQ 0 L,[]⟩):Cn P f L r:=by
 refine⟨Ym hf hn hb,fun D w vs S hD am hd=>calls_of_wp hf hb ?_⟩
 subst aj
 obtain⟨a,ha⟩:∃ a:Act,({ tmps:=vs++Array.replicate (fn.ntmps - vs.size) undef,defers:=[] }:Act)=a:=⟨_,rfl⟩
 rw [ha]
 have E:RA ⟨w,D,fun _=>False,S,[]⟩ fn.ntmps ⟨D,fun _=>0⟩ ⟨qQ 0 L,[]⟩ a w:=by
  have N:∀ t,(⟨qQ 0 L,[]⟩:PS).get t=L.getD t .und:=fun t=>by
   show yr (qQ 0 L) t=_
   rw [Qe];simp
  have K:∀ u p,zQ ⟨D,fun _=>0⟩ ⟨qQ 0 L,[]⟩ (zB a) w u p->p.own=none:=by
   rintro u p (⟨t,rfl,rfl⟩ | ⟨i,j,cs,F,_⟩)
   ·rw [N,List.getD_eq_getElem?_getD]
    cases h:L[t]? with
    | none=>rfl
    | some p=>exact ak p (List.mem_of_getElem? h)
   ·simp at F
  refine⟨⟨fun t=>?_,fun i cs h=>by simp at h,fun i j h=>by simp at h,fun u p h=>zr (K u p h),fun u p u' p' b h _ ho=>absurd (K u p h) ho,fun u p b i h ho=>absurd (K u p h) ho,hD,fun i h=>by simp at h,⟨rfl,rfl,rfl,Nat.le_refl _,fun _ _ _=>rfl,fun _ _ h=>h,fun _ _ _ _ h=>h,fun _ _ h=>.inl h,hD⟩⟩,by rw [<-ha],by rw [<-ha];simp;omega⟩
  rw [N,List.getD_eq_getElem?_getD]
  cases h:L[t]? with
  | none=>exact .dat (.und _)
  | some p=>
    have:=hd t p h
    have ht:t<vs.size:=by rw [am];exact(List.getElem?_eq_some_iff.1 h).1
    have e:zB a t=vs.getD t undef:=by
     rw [<-ha]
     simp [zB,Array.getElem?_append_left ht]
    rw [e];exact .dat this
 refine wp_mono (Ql (B:=⟨w,D,fun _=>False,S,[]⟩) (fun _ _ h=>h) c pc hc _ _ _ a w an E) fun e a' H V=>?_
 have fin:∀ s g,RA ⟨w,D,fun _=>False,S,[]⟩ fn.ntmps g s a' H->jC M s r->bodyPost P fn (fun e H=>∃ v Z,e=.returned v/\Below w.heap.size w H/\(∀ b o,D b o->Z b o)/\(∀ b o,Z b o->D b o\/w.heap.size<=b)/\(∀ b o,Z b o->b<H.heap.size)/\Dat Z H v r/\yW Z (fun k=>w.heap.size<=k) H v r) .ret a' H:=by
  intro s g h A
  obtain⟨E,Q,_⟩:=h
  have I:Below w.heap.size w H:=⟨E.fr.os,E.fr.tape,E.fr.output,E.fr.size,fun k hk=>E.fr.block k hk fun h=>h⟩
  have J:∀ b o,g.D b o->D b o\/w.heap.size<=b:=fun b o h=>by
   rcases E.fr.new b o h with h' | h' | h'
   ·exact .inl h'
   ·exact .inr h'
   ·exact h'.elim
  have O:∀ C,YJ s M=some C->C.all PV.resD=true->∃ us:List Value,(results fn a'.tmps).run P H=.ok (zgB us) H/\us.length=C.length/\∀(i:Nat) p,C[i]? = some p->Dat g.D H (us.getD i undef) p.sh:=fun C F G=>by
   obtain⟨us,X,Y,_,k3⟩:=Kj E hr F G
   exact⟨us,xZ fn _ X,Y,k3⟩
  unfold jC at A
  split at A
  ·rename_i t
   have ac:fn.results.toList=[.tmp t]:=by
    revert hr
    cases fn.results.toList with
    | nil=>intro h;cases h
    | cons x l=>
      intro h
      simp only [yc,Option.bind_eq_some_iff,Option.map_eq_some_iff] at h
      obtain⟨y,U,ys,ae,e⟩:=h
      cases e
      cases l with
      | nil=>
        cases x with
        | tmp t=>cases U;rfl
        | cell a t=>
          simp only [XU,Option.bind_eq_some_iff] at U
          obtain⟨⟨ag,n⟩,_,U⟩:=U
          simp only at U
          split at U<;>cases U
      | cons z l=>
        simp only [yc,Option.bind_eq_some_iff,Option.map_eq_some_iff] at ae
        obtain⟨_,_,_,_,e⟩:=ae
        cases e
   have ad:=xZ (P:=P) (w:=H) fn a'.tmps (us:=[a'.tmps.getD t undef]) (by rw [ac];rfl)
   refine⟨Q,_,ad,_,g.D,rfl,I,E.fr.d0,J,E.dlt,ze2 (SubP.rel A (E.slots t)),?_⟩
   by_cases ho:r.own=none
   ·exact zr ho
   ·rcases SubP.own A (E.slots t) ho with rfl | ⟨_,hk⟩
    ·have:=E.owns _ _ (E.slot t)
     revert this ho
     cases s.get t<;>try (intros;trivial)
     rename_i es ow
     cases ow<;>try (intros;trivial)
     intro _ h
     rcases h with hn | ⟨gg,af,ah,e,F,hW,G⟩
     ·exact .inl hn
     ·exact .inr ⟨gg,af,ah,e,F,hW.resolve_right (fun h=>h),G⟩
    ·exact hk _ _ _
  ·rename_i x _
   split at A
   ·rename_i p T
    obtain⟨F,G,h3⟩:=A
    obtain⟨us,X,Y,k3⟩:=O [p] (by simp [YJ,T]) (by simpa using F)
    match us,Y with
    | [u],_=>
      refine⟨Q,_,X,_,g.D,rfl,I,E.fr.d0,J,E.dlt,?_,zr h3⟩
      exact ze2 (ρ:=g.ρ) (SubP.rel G (nb:=0) (.dat (k3 0 p rfl)))
   ·exact A.elim
  ·split at A
   ·rename_i hne1 hne2 _ C T
    obtain⟨F,G⟩:=A
    obtain⟨us,X,Y,k3⟩:=O C T F
    have ab:us.length≠1:=by
     intro e
     rw [Y] at e
     have ai:∀ {M C},YJ s M=some C->C.length=M.length:=by
      intro M
      induction M with
      | nil=>intro C h;cases h;rfl
      | cons x l ih=>
        intro C h
        simp only [YJ,Option.bind_eq_some_iff,Option.map_eq_some_iff] at h
        obtain⟨p,_,qs,hq,rfl⟩:=h
        simp [ih hq]
     rw [ai T] at e
     match M,e with
     | [x],_=>exact hne2 x rfl
    have ev:zgB us=.tuple us.toArray:=by
     revert ab
     match us with
     | []=>intro _;rfl
     | [u]=>intro h;exact absurd rfl h
     | u::v::l=>intro _;rfl
    rw [ev] at X
    have:r.own=none:=by cases G<;>rfl
    refine⟨Q,_,X,_,g.D,rfl,I,E.fr.d0,J,E.dlt,?_,zr this⟩
    refine ze2 (ρ:=g.ρ) (SubP.rel G (nb:=0) (.dat (.tup _ _ (by simp [Y]) fun i p T=>?_)))
    simp only [List.getElem?_map,Option.map_eq_some_iff] at T
    obtain⟨q,hq,rfl⟩:=T
    have:=k3 i q hq
    simpa [List.getD_eq_getElem?_getD] using this
   ·exact A.elim
 cases e with
 | normal=>obtain⟨s,g,F,G⟩:=V;exact fin s g F G
 | ret=>obtain⟨s,g,F,G⟩:=V;exact fin s g F G
 | exit id=>obtain⟨s,g,F,G⟩:=V;exact G.elim
 | goto l=>exact V.elim
 | panic ch=>exact V.elim
 | outgrown=>exact V.elim
def zao (t:Nat) (a:List (List PV)) (j:Nat):PX->PS->Prop
 | .x _,_=>False
 | _,s=>match s.get t with
   | .sl es (.r _ sz')=>es=a/\sz'=j
   | _=>False
theorem zio {f:FuncId} {fn:Func} {c:Code} {pc:PC} (ms:List Nat) (hf:P.funcs[f]? = some fn) (S:(fn.name == "runtime.NumGoroutine")=false) (hb:fn.body=some c) (t:Nat) (hr:yc P fn.results.toList=some [.t t]) (nt:Nat) (ai:fn.ntmps=nt) (hc:qx P nt ms c=some pc) {F rs:List (List PV)} {I:Nat} {J:List PV}
 (ak:∀ p ∈ J,p.own=none) (hl:J.length+1<=nt) (an:pW P nt False pc (zao t rs I) ⟨qQ 0 (.sl F (.r 0 I)::J),[]⟩):OCn P f F I J rs:=by
 refine⟨Ym hf S hb,fun D w v vs M T am hd hv ao=>calls_of_wp hf hb ?_⟩
 subst ai
 obtain⟨a,Y⟩:∃ a:Act,({ tmps:=(#[v]++vs)++Array.replicate (fn.ntmps - (#[v]++vs).size) undef,defers:=[] }:Act)=a:=⟨_,rfl⟩
 rw [Y]
 have O:∀ i,(⟨qQ 0 (.sl F (.r 0 I)::J),[]⟩:PS).get i=(PV.sl F (.r 0 I)::J).getD i .und:=fun i=>by
  show yr (qQ 0 _) i=_
  rw [Qe];simp
 have H:zB a 0=v:=by
  rw [<-Y]
  simp only [zB,Array.getD_eq_getD_getElem?]
  rw [Array.getElem?_append_left (by simp;omega),Array.getElem?_append_left (by simp)]
  rfl
 have hs:∀ u p,zQ ⟨D,fun _=>0⟩ ⟨qQ 0 (.sl F (.r 0 I)::J),[]⟩ (zB a) w u p->p.own≠none->u=v/\p=.sl F (.r 0 I):=by
  rintro u p (⟨i,rfl,rfl⟩ | ⟨i,j,cs,A,_⟩) ho
  ·rw [O] at ho ⊢
   cases i with
   | zero=>exact⟨H,rfl⟩
   | succ i=>
     exfalso
     simp only [List.getD_eq_getElem?_getD,List.getElem?_cons_succ] at ho
     cases h:J[i]? with
     | none=>rw [h] at ho;exact ho rfl
     | some p=>rw [h] at ho;exact ho (ak p (List.mem_of_getElem? h))
  ·simp at A
 have ad:yW D (Bs.W ⟨w,D,fun k=>zc v=some k,M,[]⟩) w v (.sl F (.r 0 I)):=by
  rcases ao with S | ⟨gg,K,Q,e,A,L,h3⟩
  ·exact .inl S
  ·cases K with
   | zero=>
     by_cases Z:F=[]
     ·subst Z;exact .inl ⟨_,by rw [A];rfl,rfl⟩
     ·have:=QH (ρ:=fun _=>0) (nb:=0) (.dat (A ▸ hv))
      exact absurd (List.eq_nil_of_length_eq_zero (Nat.le_zero.1 this.1)) Z
   | succ K=>exact .inr ⟨gg,_,Q,e,A,.inr (by rw [A];rfl),h3⟩
 have hR:RA ⟨w,D,fun k=>zc v=some k,M,[]⟩ fn.ntmps ⟨D,fun _=>0⟩ ⟨qQ 0 (.sl F (.r 0 I)::J),[]⟩ a w:=by
  refine⟨⟨fun i=>?_,fun i cs h=>by simp at h,fun i j h=>by simp at h,fun u p h=>?_,fun u p u' p' b h h' ho aj _ _=>by rw [(hs u p h ho).2,(hs u' p' h' aj).2],fun u p b i h ho _ hi=>by simp at hi,T,fun i h=>by simp at h,⟨rfl,rfl,rfl,Nat.le_refl _,fun _ _ _=>rfl,fun _ _ h=>h,fun _ _ _ _ h=>h,fun _ _ h=>.inl h,T⟩⟩,by rw [<-Y],by rw [<-Y];simp;omega⟩
  ·rw [O]
   cases i with
   | zero=>rw [H];exact .dat (hv.owned _ _)
   | succ i=>
     simp only [List.getD_eq_getElem?_getD,List.getElem?_cons_succ]
     cases h:J[i]? with
     | none=>exact .dat (.und _)
     | some p=>
       have:=hd i p h
       have ht:i<vs.size:=by rw [am];exact(List.getElem?_eq_some_iff.1 h).1
       have e:zB a (i+1)=vs.getD i undef:=by
        rw [<-Y]
        simp only [zB,Array.getD_eq_getD_getElem?]
        rw [Array.getElem?_append_left (by simp;omega),Array.getElem?_append_right (by simp)]
        simp
       rw [e];exact .dat this
  ·by_cases ho:p.own=none
   ·exact zr ho
   ·obtain⟨rfl,rfl⟩:=hs u p h ho
    exact ad
 refine wp_mono (Ql (B:=⟨w,D,fun k=>zc v=some k,M,[]⟩) (fun h=>h.elim) c pc hc _ _ _ a w an hR) fun e X C U=>?_
 have ab:fn.results.toList=[.tmp t]:=by
  revert hr
  cases fn.results.toList with
  | nil=>intro h;cases h
  | cons x l=>
    intro h
    simp only [yc,Option.bind_eq_some_iff,Option.map_eq_some_iff] at h
    obtain⟨y,N,ys,ae,e⟩:=h
    cases e
    cases l with
    | nil=>
      cases x with
      | tmp t=>cases N;rfl
      | cell a t=>
        simp only [XU,Option.bind_eq_some_iff] at N
        obtain⟨⟨ag,n⟩,_,N⟩:=N
        simp only at N
        split at N<;>cases N
    | cons z l=>
      simp only [yc,Option.bind_eq_some_iff,Option.map_eq_some_iff] at ae
      obtain⟨_,_,_,_,e⟩:=ae
      cases e
 have fin:∀ s g,RA ⟨w,D,fun k=>zc v=some k,M,[]⟩ fn.ntmps g s X C->(match s.get t with | .sl F (.r _ sz')=>F=rs/\sz'=I | _=>False)->bodyPost P fn (fun e C=>∃ u V,e=.returned u/\(C.os=w.os/\C.tape=w.tape/\C.output=w.output/\w.heap.size<=C.heap.size)/\(∀ k,k<w.heap.size->zc v≠some k->C.heap[k]? = w.heap[k]?) /\
  (∀ b o y,D b o->w.cell? ⟨b,o,none⟩=some y->C.cell? ⟨b,o,none⟩=some y)/\(∀ b o,D b o->V b o)/\(∀ b o,V b o->D b o\/w.heap.size<=b\/zc v=some b)/\(∀ b o,V b o->b<C.heap.size) /\
  Dat V C u (.sl rs .sh)/\yW V (fun k=>w.heap.size<=k\/zc v=some k) C u (.sl rs (.r 0 I))) .ret X C:=by
  intro s g h G
  obtain⟨E,ah,_⟩:=h
  split at G
  ·rename_i es' m sz' e
   obtain⟨rfl,rfl⟩:=G
   have ac:=xZ (P:=P) (w:=C) fn X.tmps (us:=[X.tmps.getD t undef]) (by rw [ab];rfl)
   have A:=E.slots t
   have L:=E.owns _ _ (E.slot t)
   rw [e] at A L
   have af:Dat g.D C (zB X t) (.sl es' .sh):=by
    rcases A with(hr | ⟨_,_,hh,_⟩) | ⟨_,_,_,_,_,hh,_⟩
    ·exact hr.sh
    ·cases hh
    ·cases hh
   refine⟨ah,_,ac,_,g.D,rfl,⟨E.fr.os,E.fr.tape,E.fr.output,E.fr.size⟩,fun k hk S=>E.fr.block k hk S,fun b o y T N=>E.fr.cell b o y T N,E.fr.d0,fun b o T=>E.fr.new b o T,E.dlt,af,?_⟩
   rcases L with S | ⟨gg,K,Q,e,q1,q2,q3⟩
   ·exact .inl S
   ·exact .inr ⟨gg,K,Q,e,q1,q2,q3⟩
  ·exact G.elim
 cases e with
 | normal=>obtain⟨s,g,A,L⟩:=U;exact fin s g A L
 | ret=>obtain⟨s,g,A,L⟩:=U;exact fin s g A L
 | exit id=>obtain⟨s,g,A,L⟩:=U;exact L.elim
 | goto l=>exact U.elim
 | panic ch=>exact U.elim
 | outgrown=>exact U.elim
def xN (fn:Func):Code:=match fn.body with
 | some c=>c
 | none=>.skip
def zbo (P:Program) (fn:Func) (a:List Nat) (n:Nat):Bool:=!(fn.name == "runtime.NumGoroutine") && fn.body.isSome && (yc P fn.results.toList).isSome && (qx P fn.ntmps a (xN fn)).isSome && decide (n<=fn.ntmps)
def zbt (P:Program) (fn:Func) (a:List Nat):PC:=(qx P fn.ntmps a (xN fn)).getD .sk
def zgk (P:Program) (fn:Func):List RV:=(yc P fn.results.toList).getD []
theorem zgM {f:FuncId} {fn:Func} (I:P.funcs[f]? = some fn) (B:List Nat) {y:List PV} {r:PV} (n:Nat) (a:zbo P fn B n=true) (hl:y.length=n) (A:∀ p ∈ y,p.own=none) (u:pW P fn.ntmps True (zbt P fn B) (jG (zgk P fn) r) ⟨qQ 0 y,[]⟩):Cn P f y r:=by
 unfold zbo at a
 simp only [Bool.and_eq_true,Bool.not_eq_true',decide_eq_true_eq] at a
 obtain⟨⟨⟨⟨E,F⟩,G⟩,H⟩,K⟩:=a
 obtain⟨c,C⟩:=Option.isSome_iff_exists.1 F
 obtain⟨J,w⟩:=Option.isSome_iff_exists.1 G
 obtain⟨L,j⟩:=Option.isSome_iff_exists.1 H
 unfold zbt zgk at u
 rw [j,w] at u
 have e:xN fn=c:=by unfold xN;rw [C]
 rw [e] at j
 exact zjM B I E C J w fn.ntmps rfl j A (by omega) u
theorem zin {f:FuncId} {fn:Func} (K:P.funcs[f]? = some fn) (B:List Nat) {E G:List (List PV)} {C:Nat} {w:List PV} (n t:Nat) (a:zbo P fn B n=true) (A:yc P fn.results.toList=some [.t t]) (hl:w.length+1=n) (y:∀ p ∈ w,p.own=none) (u:pW P fn.ntmps False (zbt P fn B) (zao t G C) ⟨qQ 0 (.sl E (.r 0 C)::w),[]⟩):OCn P f E C w G:=by
 unfold zbo at a
 simp only [Bool.and_eq_true,Bool.not_eq_true',decide_eq_true_eq] at a
 obtain⟨⟨⟨⟨H,I⟩,L⟩,J⟩,M⟩:=a
 obtain⟨c,F⟩:=Option.isSome_iff_exists.1 I
 obtain⟨N,j⟩:=Option.isSome_iff_exists.1 J
 unfold zbt at u
 rw [j] at u
 have e:xN fn=c:=by unfold xN;rw [F]
 rw [e] at j
 exact zio B K H F t A fn.ntmps rfl j y (by omega) u
end Go.Proofs.YtonhfknjcbakiaaGreatDoor
