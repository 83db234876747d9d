import Derived.Test.YtopfkkogooocgaaGreatB13
set_option linter.unusedVariables false
set_option linter.unusedSimpArgs false
namespace Go.Proofs.YtopfkkogooocgaaGreat
open Go.RowKit
variable {P:Program}
def qQ:Nat->List PV->List (Nat × PV)
 | _,[]=>[]
 | k,p::ps=>(k,p)::qQ (k+1) ps
theorem Qe:∀(ps:List PV) (k i:Nat),yr (qQ k ps) i=if k<=i then ps.getD (i - k) .und else .und
 | [],k,i=>by simp [qQ,yr]
 | p::ps,k,i=>by
   simp only [qQ,yr]
   by_cases h:k=i
   ·subst h;simp
   ·rw [if_neg h,Qe ps (k+1) i]
    by_cases h2:k+1<=i
    ·rw [if_pos h2,if_pos (by omega)]
     obtain⟨d,hd⟩:∃ d,i - k=d+1:=⟨i - k - 1,by omega⟩
     rw [hd,show i - (k+1)=d from by omega]
     rfl
    ·rw [if_neg h2,if_neg (by omega)]
def PV.resD:PV->Bool
 | .agg cs=>zY cs
 | p=>p.isD
def zgB:List Value->Value
 | [u]=>u
 | us=>.tuple us.toArray
inductive RV where
 | t (i:Nat)
 | c (i:Nat) (ag:Bool) (n:Nat)
def RV.get (s:PS):RV->Option PV
 | .t i=>some (s.get i)
 | .c i ag n=>match s.get i with
   | .bx j o=>match s.b[j]? with
     | some cs=>match ag with
       | true=>if o+n<=cs.length then some (.agg ((cs.drop o).take n)) else none
       | false=>cs[o]?
     | none=>none
   | _=>none
def YJ (s:PS):List RV->Option (List PV)
 | []=>some []
 | r::l=>(r.get s).bind fun p=>(YJ s l).map fun ps=>p::ps
def jC (rs:List RV) (s:PS) (r:PV):Prop:=match rs with
 | [.t t]=>SubP 0 (s.get t) r
 | [x]=>match x.get s with
   | some p=>p.resD=true/\SubP 0 p.sh r/\r.own=none
   | none=>False
 | rs=>match YJ s rs with
   | some ps=>ps.all PV.resD=true/\SubP 0 (.tup (ps.map PV.sh)) r
   | none=>False
def jG (rs:List RV) (r:PV):PX->PS->Prop
 | .x _,_=>False
 | _,s=>jC rs s r
def XU (P:Program):ResultVar->Option RV
 | .tmp t=>some (.t t)
 | .cell a t=>(XH P t).bind fun(ag,n)=>if ag || n == 1 then some (.c a ag n) else none
def yc (P:Program):List ResultVar->Option (List RV)
 | []=>some []
 | r::l=>(XU P r).bind fun x=>(yc P l).map fun xs=>x::xs
section
variable {B:Bs} {nt:Nat} {g:Gh} {s:PS} {a:Act} {w:World}
def Xs (tmps:Array Value):ResultVar->Sem Value
 | .tmp t=>pure (tmps.getD t undef)
 | .cell a t=>do loadVar t (<-asAddr (tmps.getD a undef))
theorem ziS (h:R B g s (zB a) w) {rv:ResultVar} {x:RV} {p:PV} (hc:XU P rv=some x) (hg:x.get s=some p) (hd:p.resD=true):∃ u,(Xs a.tmps rv).run P w=.ok u w/\Dat g.D w u p.sh:=by
 cases rv with
 | tmp t=>
   cases hc
   simp only [RV.get,Option.some.injEq] at hg
   subst hg
   have hD:(s.get t).isD=true:=by
    revert hd
    cases s.get t<;>intro hd<;>first | exact hd | rfl
   exact⟨_,rfl,((h.slots t).data hD).sh⟩
 | cell i t=>
   simp only [XU,Option.bind_eq_some_iff] at hc
   obtain⟨⟨ag,n⟩,hs,hc⟩:=hc
   simp only at hc
   split at hc
   ·rename_i hcond
    cases hc
    simp only [RV.get] at hg
    split at hg
    ·rename_i j o e
     have hr:=h.slots i
     rw [e] at hr
     obtain⟨hj,e1⟩:=hr.inv_bx
     split at hg
     ·rename_i cs hcs
      obtain⟨hW,vs,e',hv,hz,hb⟩:=h.boxes j cs hcs
      have hcell:∀ k,k<cs.length->w.cell? ⟨g.ρ j,0+k,none⟩=some (vs.getD k undef)/\(vs.getD k undef).oneCell'=true:=fun k hk=>by
       refine⟨?_,(hb k _ (List.getElem?_eq_getElem hk)).2⟩
       simp only [World.cell?,hv]
       simp [show k<vs.size by omega]
      have hq:VI cs o ag n fun y=>y=p:=by
       unfold VI
       cases ag with
       | true=>
         simp only at hg ⊢
         split at hg
         ·rename_i hle;cases hg;exact⟨hle,rfl⟩
         ·cases hg
       | false=>
         simp only at hg ⊢
         rw [hg]
      have hall:ag=true->zY ((cs.drop o).take n)=true:=fun e=>by
       subst e
       simp only at hg
       split at hg
       ·cases hg;exact hd
       ·cases hg
      obtain⟨u,p',g1,g2,rfl⟩:=Qv (P:=P) (D:=g.D) (ρ:=g.ρ) (nb:=s.b.length) hs hq hcell (fun k q hq=>(hb k q hq).1) hall
      refine⟨u,?_,(g2.data ?_).sh⟩
      ·rw [Nat.zero_add] at g1
       have e2:a.tmps.getD i undef=.pointer (some ⟨g.ρ j,o,none⟩):=e1
       simp only [Xs,e2,asAddr,Sem.run_bind,Sem.run_pure,Result.andThen_ok,g1]
      ·revert hd
       cases p'<;>intro hd<;>first | exact hd | rfl
     ·cases hg
    ·cases hg
   ·cases hc
theorem Kj (h:R B g s (zB a) w):∀ {l:List ResultVar} {rs:List RV} {ps:List PV},yc P l=some rs->YJ s rs=some ps->ps.all PV.resD=true ->
 ∃ us:List Value,(l.mapM (Xs a.tmps)).run P w=.ok us w/\us.length=ps.length/\l.length=rs.length/\∀(i:Nat) p,ps[i]? = some p->Dat g.D w (us.getD i undef) p.sh
 | [],rs,ps,hc,hp,_=>by cases hc;cases hp;exact⟨[],rfl,rfl,rfl,fun i p h=>by simp at h⟩
 | r::l,rs,ps,hc,hp,hd=>by
   simp only [yc,Option.bind_eq_some_iff,Option.map_eq_some_iff] at hc
   obtain⟨x,hx,xs,hxs,rfl⟩:=hc
   simp only [YJ,Option.bind_eq_some_iff,Option.map_eq_some_iff] at hp
   obtain⟨p,hp,qs,hq,rfl⟩:=hp
   simp only [List.all_cons,Bool.and_eq_true] at hd
   obtain⟨u,h1,h2⟩:=ziS h hx hp hd.1
   obtain⟨us,h3,h4,h5,h6⟩:=Kj h hxs hq hd.2
   refine⟨u::us,by simp only [List.mapM_cons,Sem.run_bind,h1,Result.andThen_ok,h3,Sem.run_pure],by simp [h4],by simp [h5],fun i q hi=>?_⟩
   cases i with
   | zero=>simp at hi;subst hi;exact h2
   | succ i=>simpa using h6 i q (by simpa using hi)
theorem xZ (fn:Func) (tmps:Array Value) {us:List Value} (h:(fn.results.toList.mapM (Xs tmps)).run P w=.ok us w):(results fn tmps).run P w=.ok (zgB us) w:=by
 unfold results
 rw [Array.mapM_eq_mapM_toList]
 simp only [Sem.run_bind,Sem.run_map]
 erw [h]
 simp only [Result.andThen_ok,Sem.run_pure]
 match us with
 | []=>rfl
 | [u]=>rfl
 | u::v::l=>simp [zgB]
end
theorem ze2 {D:Nat->Nat->Prop} {ρ:Nat->Nat} {w:World} {u:Value} {p:PV} (h:Rel D ρ 0 w u p):Dat D w u p:=by
 have h1:∀ {u p},Rel1 D ρ 0 w u p->Dat D w u p:=fun h=>by
  rcases h with h | ⟨i,o,_,hi,_⟩
  ·exact h
  ·omega
 rcases h with h | ⟨f,va,vb,fs,cs,rfl,rfl,h3,h4,h5,h6⟩
 ·exact h1 h
 ·exact .fn f va vb fs cs h3 h4 (fun i p hp=>h1 (h5 i p hp)) (fun i p hp=>h1 (h6 i p hp))
theorem Ym {f:FuncId} {fn:Func} {c:Code} (hf:P.funcs[f]? = some fn) (hn:(fn.name == "runtime.NumGoroutine")=false) (hb:fn.body=some c):∀ args w,(callFunc f args).run P w=.ok (.enter f args) w:=by
 intro args w
 have hn':¬ fn.name = "runtime.NumGoroutine" := by simpa using hn
 simp [callFunc,hf,hn',hb]
theorem zjM {f:FuncId} {fn:Func} {c:Code} {pc:PC} (ms:List Nat) (hf:P.funcs[f]? = some fn) (hn:(fn.name == "runtime.NumGoroutine")=false) (hb:fn.body=some c) (rs:List RV) (hr:yc P fn.results.toList=some rs) (nt:Nat) (hnt:fn.ntmps=nt) (hc:qx P nt ms c=some pc) {ps:List PV} {r:PV}
 (hps:∀ p ∈ ps,p.own=none) (hl:ps.length<=nt) (hvc:pW P nt True pc (jG rs r) ⟨qQ 0 ps,[]⟩):Cn P f ps r:=by
 refine⟨Ym hf hn hb,fun D w vs hgl hD hsz hd=>calls_of_wp hf hb ?_⟩
 subst hnt
 obtain⟨a,ha⟩:∃ a:Act,({ tmps:=vs++Array.replicate (fn.ntmps - vs.size) undef,defers:=[] }:Act)=a:=⟨_,rfl⟩
 rw [ha]
 have hR:RA ⟨w,D,fun _=>False,hgl,[]⟩ fn.ntmps ⟨D,fun _=>0⟩ ⟨qQ 0 ps,[]⟩ a w:=by
  have hget:∀ t,(⟨qQ 0 ps,[]⟩:PS).get t=ps.getD t .und:=fun t=>by
   show yr (qQ 0 ps) t=_
   rw [Qe];simp
  have hown:∀ u p,zQ ⟨D,fun _=>0⟩ ⟨qQ 0 ps,[]⟩ (zB a) w u p->p.own=none:=by
   rintro u p (⟨t,rfl,rfl⟩ | ⟨i,j,cs,h1,_⟩)
   ·rw [hget,List.getD_eq_getElem?_getD]
    cases h:ps[t]? with
    | none=>rfl
    | some p=>exact hps p (List.mem_of_getElem? h)
   ·simp at h1
  refine⟨⟨fun t=>?_,fun i cs h=>by simp at h,fun i j h=>by simp at h,fun u p h=>zr (hown u p h),fun u p u' p' b h _ ho=>absurd (hown u p h) ho,fun u p b i h ho=>absurd (hown u p h) ho,hD,fun i h=>by simp at h,⟨rfl,rfl,rfl,Nat.le_refl _,fun _ _ _=>rfl,fun _ _ h=>h,fun _ _ _ _ h=>h,fun _ _ h=>.inl h,hD⟩⟩,by rw [<-ha],by rw [<-ha];simp;omega⟩
  rw [hget,List.getD_eq_getElem?_getD]
  cases h:ps[t]? with
  | none=>exact .dat (.und _)
  | some p=>
    have:=hd t p h
    have ht:t<vs.size:=by rw [hsz];exact(List.getElem?_eq_some_iff.1 h).1
    have e:zB a t=vs.getD t undef:=by
     rw [<-ha]
     simp [zB,Array.getElem?_append_left ht]
    rw [e];exact .dat this
 refine wp_mono (Ql (B:=⟨w,D,fun _=>False,hgl,[]⟩) (fun _ _ h=>h) c pc hc _ _ _ a w hvc hR) fun e a' w' he=>?_
 have fin:∀ s g,RA ⟨w,D,fun _=>False,hgl,[]⟩ fn.ntmps g s a' w'->jC rs s r->bodyPost P fn (fun e w'=>∃ v D',e=.returned v/\Below w.heap.size w w'/\(∀ b o,D b o->D' b o)/\(∀ b o,D' b o->D b o\/w.heap.size<=b)/\(∀ b o,D' b o->b<w'.heap.size)/\Dat D' w' v r/\yW D' (fun k=>w.heap.size<=k) w' v r) .ret a' w':=by
  intro s g h hret
  obtain⟨hR,hdf,_⟩:=h
  have hbel:Below w.heap.size w w':=⟨hR.fr.os,hR.fr.tape,hR.fr.output,hR.fr.size,fun k hk=>hR.fr.block k hk fun h=>h⟩
  have hnew:∀ b o,g.D b o->D b o\/w.heap.size<=b:=fun b o h=>by
   rcases hR.fr.new b o h with h' | h' | h'
   ·exact .inl h'
   ·exact .inr h'
   ·exact h'.elim
  have many:∀ ps',YJ s rs=some ps'->ps'.all PV.resD=true->∃ us:List Value,(results fn a'.tmps).run P w'=.ok (zgB us) w'/\us.length=ps'.length/\∀(i:Nat) p,ps'[i]? = some p->Dat g.D w' (us.getD i undef) p.sh:=fun ps' h1 h2=>by
   obtain⟨us,k1,k2,_,k3⟩:=Kj hR hr h1 h2
   exact⟨us,xZ fn _ k1,k2,k3⟩
  unfold jC at hret
  split at hret
  ·rename_i t
   have hres:fn.results.toList=[.tmp t]:=by
    revert hr
    cases fn.results.toList with
    | nil=>intro h;cases h
    | cons x l=>
      intro h
      simp only [yc,Option.bind_eq_some_iff,Option.map_eq_some_iff] at h
      obtain⟨y,hy,ys,hys,e⟩:=h
      cases e
      cases l with
      | nil=>
        cases x with
        | tmp t=>cases hy;rfl
        | cell a t=>
          simp only [XU,Option.bind_eq_some_iff] at hy
          obtain⟨⟨ag,n⟩,_,hy⟩:=hy
          simp only at hy
          split at hy<;>cases hy
      | cons z l=>
        simp only [yc,Option.bind_eq_some_iff,Option.map_eq_some_iff] at hys
        obtain⟨_,_,_,_,e⟩:=hys
        cases e
   have hrun:=xZ (P:=P) (w:=w') fn a'.tmps (us:=[a'.tmps.getD t undef]) (by rw [hres];rfl)
   refine⟨hdf,_,hrun,_,g.D,rfl,hbel,hR.fr.d0,hnew,hR.dlt,ze2 (SubP.rel hret (hR.slots t)),?_⟩
   by_cases ho:r.own=none
   ·exact zr ho
   ·rcases SubP.own hret (hR.slots t) ho with rfl | ⟨_,hk⟩
    ·have:=hR.owns _ _ (hR.slot t)
     revert this ho
     cases s.get t<;>try (intros;trivial)
     rename_i es ow
     cases ow<;>try (intros;trivial)
     intro _ h
     rcases h with hn | ⟨gg,cap,cur,e,h1,hW,h2⟩
     ·exact .inl hn
     ·exact .inr ⟨gg,cap,cur,e,h1,hW.resolve_right (fun h=>h),h2⟩
    ·exact hk _ _ _
  ·rename_i x _
   split at hret
   ·rename_i p hp
    obtain⟨h1,h2,h3⟩:=hret
    obtain⟨us,k1,k2,k3⟩:=many [p] (by simp [YJ,hp]) (by simpa using h1)
    match us,k2 with
    | [u],_=>
      refine⟨hdf,_,k1,_,g.D,rfl,hbel,hR.fr.d0,hnew,hR.dlt,?_,zr h3⟩
      exact ze2 (ρ:=g.ρ) (SubP.rel h2 (nb:=0) (.dat (k3 0 p rfl)))
   ·exact hret.elim
  ·split at hret
   ·rename_i hne1 hne2 _ ps' hp
    obtain⟨h1,h2⟩:=hret
    obtain⟨us,k1,k2,k3⟩:=many ps' hp h1
    have hlen:us.length≠1:=by
     intro e
     rw [k2] at e
     have hl2:∀ {rs ps'},YJ s rs=some ps'->ps'.length=rs.length:=by
      intro rs
      induction rs with
      | nil=>intro ps' h;cases h;rfl
      | cons x l ih=>
        intro ps' h
        simp only [YJ,Option.bind_eq_some_iff,Option.map_eq_some_iff] at h
        obtain⟨p,_,qs,hq,rfl⟩:=h
        simp [ih hq]
     rw [hl2 hp] at e
     match rs,e with
     | [x],_=>exact hne2 x rfl
    have ev:zgB us=.tuple us.toArray:=by
     revert hlen
     match us with
     | []=>intro _;rfl
     | [u]=>intro h;exact absurd rfl h
     | u::v::l=>intro _;rfl
    rw [ev] at k1
    have:r.own=none:=by cases h2<;>rfl
    refine⟨hdf,_,k1,_,g.D,rfl,hbel,hR.fr.d0,hnew,hR.dlt,?_,zr this⟩
    refine ze2 (ρ:=g.ρ) (SubP.rel h2 (nb:=0) (.dat (.tup _ _ (by simp [k2]) fun i p hp=>?_)))
    simp only [List.getElem?_map,Option.map_eq_some_iff] at hp
    obtain⟨q,hq,rfl⟩:=hp
    have:=k3 i q hq
    simpa [List.getD_eq_getElem?_getD] using this
   ·exact hret.elim
 cases e with
 | normal=>obtain⟨s,g,h1,h2⟩:=he;exact fin s g h1 h2
 | ret=>obtain⟨s,g,h1,h2⟩:=he;exact fin s g h1 h2
 | exit id=>obtain⟨s,g,h1,h2⟩:=he;exact h2.elim
 | goto l=>exact he.elim
 | panic ch=>exact he.elim
 | outgrown=>exact he.elim
def zao (t:Nat) (rs:List (List PV)) (sz:Nat):PX->PS->Prop
 | .x _,_=>False
 | _,s=>match s.get t with
   | .sl es (.r _ sz')=>es=rs/\sz'=sz
   | _=>False
theorem zio {f:FuncId} {fn:Func} {c:Code} {pc:PC} (ms:List Nat) (hf:P.funcs[f]? = some fn) (hn:(fn.name == "runtime.NumGoroutine")=false) (hb:fn.body=some c) (t:Nat) (hr:yc P fn.results.toList=some [.t t]) (nt:Nat) (hnt:fn.ntmps=nt) (hc:qx P nt ms c=some pc) {es rs:List (List PV)} {sz:Nat} {ps:List PV}
 (hps:∀ p ∈ ps,p.own=none) (hl:ps.length+1<=nt) (hvc:pW P nt False pc (zao t rs sz) ⟨qQ 0 (.sl es (.r 0 sz)::ps),[]⟩):OCn P f es sz ps rs:=by
 refine⟨Ym hf hn hb,fun D w v vs hgl hD hsz hd hv hvo=>calls_of_wp hf hb ?_⟩
 subst hnt
 obtain⟨a,ha⟩:∃ a:Act,({ tmps:=(#[v]++vs)++Array.replicate (fn.ntmps - (#[v]++vs).size) undef,defers:=[] }:Act)=a:=⟨_,rfl⟩
 rw [ha]
 have hget:∀ i,(⟨qQ 0 (.sl es (.r 0 sz)::ps),[]⟩:PS).get i=(PV.sl es (.r 0 sz)::ps).getD i .und:=fun i=>by
  show yr (qQ 0 _) i=_
  rw [Qe];simp
 have hslt0:zB a 0=v:=by
  rw [<-ha]
  simp only [zB,Array.getD_eq_getD_getElem?]
  rw [Array.getElem?_append_left (by simp;omega),Array.getElem?_append_left (by simp)]
  rfl
 have hs:∀ u p,zQ ⟨D,fun _=>0⟩ ⟨qQ 0 (.sl es (.r 0 sz)::ps),[]⟩ (zB a) w u p->p.own≠none->u=v/\p=.sl es (.r 0 sz):=by
  rintro u p (⟨i,rfl,rfl⟩ | ⟨i,j,cs,h1,_⟩) ho
  ·rw [hget] at ho ⊢
   cases i with
   | zero=>exact⟨hslt0,rfl⟩
   | succ i=>
     exfalso
     simp only [List.getD_eq_getElem?_getD,List.getElem?_cons_succ] at ho
     cases h:ps[i]? with
     | none=>rw [h] at ho;exact ho rfl
     | some p=>rw [h] at ho;exact ho (hps p (List.mem_of_getElem? h))
  ·simp at h1
 have hvo':yW D (Bs.W ⟨w,D,fun k=>zc v=some k,hgl,[]⟩) w v (.sl es (.r 0 sz)):=by
  rcases hvo with hn | ⟨gg,cap,cur,e,h1,h2,h3⟩
  ·exact .inl hn
  ·cases cap with
   | zero=>
     by_cases hes:es=[]
     ·subst hes;exact .inl ⟨_,by rw [h1];rfl,rfl⟩
     ·have:=QH (ρ:=fun _=>0) (nb:=0) (.dat (h1 ▸ hv))
      exact absurd (List.eq_nil_of_length_eq_zero (Nat.le_zero.1 this.1)) hes
   | succ cap=>exact .inr ⟨gg,_,cur,e,h1,.inr (by rw [h1];rfl),h3⟩
 have hR:RA ⟨w,D,fun k=>zc v=some k,hgl,[]⟩ fn.ntmps ⟨D,fun _=>0⟩ ⟨qQ 0 (.sl es (.r 0 sz)::ps),[]⟩ a w:=by
  refine⟨⟨fun i=>?_,fun i cs h=>by simp at h,fun i j h=>by simp at h,fun u p h=>?_,fun u p u' p' b h h' ho ho' _ _=>by rw [(hs u p h ho).2,(hs u' p' h' ho').2],fun u p b i h ho _ hi=>by simp at hi,hD,fun i h=>by simp at h,⟨rfl,rfl,rfl,Nat.le_refl _,fun _ _ _=>rfl,fun _ _ h=>h,fun _ _ _ _ h=>h,fun _ _ h=>.inl h,hD⟩⟩,by rw [<-ha],by rw [<-ha];simp;omega⟩
  ·rw [hget]
   cases i with
   | zero=>rw [hslt0];exact .dat (hv.owned _ _)
   | succ i=>
     simp only [List.getD_eq_getElem?_getD,List.getElem?_cons_succ]
     cases h:ps[i]? with
     | none=>exact .dat (.und _)
     | some p=>
       have:=hd i p h
       have ht:i<vs.size:=by rw [hsz];exact(List.getElem?_eq_some_iff.1 h).1
       have e:zB a (i+1)=vs.getD i undef:=by
        rw [<-ha]
        simp only [zB,Array.getD_eq_getD_getElem?]
        rw [Array.getElem?_append_left (by simp;omega),Array.getElem?_append_right (by simp)]
        simp
       rw [e];exact .dat this
  ·by_cases ho:p.own=none
   ·exact zr ho
   ·obtain⟨rfl,rfl⟩:=hs u p h ho
    exact hvo'
 refine wp_mono (Ql (B:=⟨w,D,fun k=>zc v=some k,hgl,[]⟩) (fun h=>h.elim) c pc hc _ _ _ a w hvc hR) fun e a' w' he=>?_
 have hres:fn.results.toList=[.tmp t]:=by
  revert hr
  cases fn.results.toList with
  | nil=>intro h;cases h
  | cons x l=>
    intro h
    simp only [yc,Option.bind_eq_some_iff,Option.map_eq_some_iff] at h
    obtain⟨y,hy,ys,hys,e⟩:=h
    cases e
    cases l with
    | nil=>
      cases x with
      | tmp t=>cases hy;rfl
      | cell a t=>
        simp only [XU,Option.bind_eq_some_iff] at hy
        obtain⟨⟨ag,n⟩,_,hy⟩:=hy
        simp only at hy
        split at hy<;>cases hy
    | cons z l=>
      simp only [yc,Option.bind_eq_some_iff,Option.map_eq_some_iff] at hys
      obtain⟨_,_,_,_,e⟩:=hys
      cases e
 have fin:∀ s g,RA ⟨w,D,fun k=>zc v=some k,hgl,[]⟩ fn.ntmps g s a' w'->(match s.get t with | .sl es (.r _ sz')=>es=rs/\sz'=sz | _=>False)->bodyPost P fn (fun e w'=>∃ u D',e=.returned u/\(w'.os=w.os/\w'.tape=w.tape/\w'.output=w.output/\w.heap.size<=w'.heap.size)/\(∀ k,k<w.heap.size->zc v≠some k->w'.heap[k]? = w.heap[k]?) /\
  (∀ b o y,D b o->w.cell? ⟨b,o,none⟩=some y->w'.cell? ⟨b,o,none⟩=some y)/\(∀ b o,D b o->D' b o)/\(∀ b o,D' b o->D b o\/w.heap.size<=b\/zc v=some b)/\(∀ b o,D' b o->b<w'.heap.size) /\
  Dat D' w' u (.sl rs .sh)/\yW D' (fun k=>w.heap.size<=k\/zc v=some k) w' u (.sl rs (.r 0 sz))) .ret a' w':=by
  intro s g h hret
  obtain⟨hZ,hdf,_⟩:=h
  split at hret
  ·rename_i es' m sz' e
   obtain⟨rfl,rfl⟩:=hret
   have hrun:=xZ (P:=P) (w:=w') fn a'.tmps (us:=[a'.tmps.getD t undef]) (by rw [hres];rfl)
   have h1:=hZ.slots t
   have h2:=hZ.owns _ _ (hZ.slot t)
   rw [e] at h1 h2
   have hd1:Dat g.D w' (zB a' t) (.sl es' .sh):=by
    rcases h1 with(hr | ⟨_,_,hh,_⟩) | ⟨_,_,_,_,_,hh,_⟩
    ·exact hr.sh
    ·cases hh
    ·cases hh
   refine⟨hdf,_,hrun,_,g.D,rfl,⟨hZ.fr.os,hZ.fr.tape,hZ.fr.output,hZ.fr.size⟩,fun k hk hn=>hZ.fr.block k hk hn,fun b o y hD hy=>hZ.fr.cell b o y hD hy,hZ.fr.d0,fun b o hD=>hZ.fr.new b o hD,hZ.dlt,hd1,?_⟩
   rcases h2 with hn | ⟨gg,cap,cur,e,q1,q2,q3⟩
   ·exact .inl hn
   ·exact .inr ⟨gg,cap,cur,e,q1,q2,q3⟩
  ·exact hret.elim
 cases e with
 | normal=>obtain⟨s,g,h1,h2⟩:=he;exact fin s g h1 h2
 | ret=>obtain⟨s,g,h1,h2⟩:=he;exact fin s g h1 h2
 | exit id=>obtain⟨s,g,h1,h2⟩:=he;exact h2.elim
 | goto l=>exact he.elim
 | panic ch=>exact he.elim
 | outgrown=>exact he.elim
def xN (fn:Func):Code:=match fn.body with
 | some c=>c
 | none=>.skip
def zbo (P:Program) (fn:Func) (ms:List Nat) (n:Nat):Bool:=!(fn.name == "runtime.NumGoroutine") && fn.body.isSome && (yc P fn.results.toList).isSome && (qx P fn.ntmps ms (xN fn)).isSome && decide (n<=fn.ntmps)
def zbt (P:Program) (fn:Func) (ms:List Nat):PC:=(qx P fn.ntmps ms (xN fn)).getD .sk
def zgk (P:Program) (fn:Func):List RV:=(yc P fn.results.toList).getD []
theorem zgM {f:FuncId} {fn:Func} (hf:P.funcs[f]? = some fn) (ms:List Nat) {ps:List PV} {r:PV} (n:Nat) (hok:zbo P fn ms n=true) (hl:ps.length=n) (hps:∀ p ∈ ps,p.own=none) (hvc:pW P fn.ntmps True (zbt P fn ms) (jG (zgk P fn) r) ⟨qQ 0 ps,[]⟩):Cn P f ps r:=by
 unfold zbo at hok
 simp only [Bool.and_eq_true,Bool.not_eq_true',decide_eq_true_eq] at hok
 obtain⟨⟨⟨⟨h1,h2⟩,h3⟩,h4⟩,h5⟩:=hok
 obtain⟨c,hc⟩:=Option.isSome_iff_exists.1 h2
 obtain⟨rs,hrs⟩:=Option.isSome_iff_exists.1 h3
 obtain⟨pc,hpc⟩:=Option.isSome_iff_exists.1 h4
 unfold zbt zgk at hvc
 rw [hpc,hrs] at hvc
 have e:xN fn=c:=by unfold xN;rw [hc]
 rw [e] at hpc
 exact zjM ms hf h1 hc rs hrs fn.ntmps rfl hpc hps (by omega) hvc
theorem zin {f:FuncId} {fn:Func} (hf:P.funcs[f]? = some fn) (ms:List Nat) {es rs:List (List PV)} {sz:Nat} {ps:List PV} (n t:Nat) (hok:zbo P fn ms n=true) (hrs:yc P fn.results.toList=some [.t t]) (hl:ps.length+1=n) (hps:∀ p ∈ ps,p.own=none) (hvc:pW P fn.ntmps False (zbt P fn ms) (zao t rs sz) ⟨qQ 0 (.sl es (.r 0 sz)::ps),[]⟩):OCn P f es sz ps rs:=by
 unfold zbo at hok
 simp only [Bool.and_eq_true,Bool.not_eq_true',decide_eq_true_eq] at hok
 obtain⟨⟨⟨⟨h1,h2⟩,h3⟩,h4⟩,h5⟩:=hok
 obtain⟨c,hc⟩:=Option.isSome_iff_exists.1 h2
 obtain⟨pc,hpc⟩:=Option.isSome_iff_exists.1 h4
 unfold zbt at hvc
 rw [hpc] at hvc
 have e:xN fn=c:=by unfold xN;rw [hc]
 rw [e] at hpc
 exact zio ms hf h1 hc t hrs fn.ntmps rfl hpc hps (by omega) hvc
end Go.Proofs.YtopfkkogooocgaaGreat
