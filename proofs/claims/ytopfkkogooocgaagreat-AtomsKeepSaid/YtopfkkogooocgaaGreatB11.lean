import Derived.ChangeKeysEq
import Derived.Laws.Concat
import Derived.Test.YtopfkkogooocgaaGreatB4
import Derived.Test.YtopfkkogooocgaaGreatB9
set_option linter.unusedVariables false
set_option linter.unusedSimpArgs false
namespace Go.Proofs.YtopfkkogooocgaaGreat
open Go.RowKit
attribute [local go_sem] Oper.semAt_some
def zB (a:Act):Nat->Value:=fun t=>a.tmps.getD t undef
theorem zai (D:Nat->Nat->Prop) (w:World) (v:Value):Dat D w v (Q6 v):=by
 unfold Q6
 split
 ·exact .sl none 0 1 [] .sh 0 0 (fun _=>undef) (Nat.le_refl _) (fun h=>by cases h) (Nat.zero_le _) (fun h=>absurd rfl h) (fun i e h=>by simp at h) (fun j h=>absurd h (by simp)) (fun i e j p h=>by simp at h)
 ·exact .v _
theorem zfT (D:Nat->Nat->Prop) (w:World) (v:Value):Dat D w v (ofV v):=by
 unfold ofV
 split
 ·exact .sl none 0 1 [] .z 0 0 (fun _=>undef) (Nat.le_refl _) (fun _=>rfl) (Nat.zero_le _) (fun h=>absurd rfl h) (fun i e h=>by simp at h) (fun j h=>absurd h (by simp)) (fun i e j p h=>by simp at h)
 ·rename_i vs
  split
  ·rename_i hall
   refine .agg vs _ (by simp) (fun i hi=>?_) fun i p hp=>?_
   ·rw [List.all_eq_true] at hall
    have hi':i<vs.size:=by simpa using hi
    exact hall _ (by simp [hi'])
   ·simp only [List.getElem?_map,Option.map_eq_some_iff] at hp
    obtain⟨v,hv,rfl⟩:=hp
    have:vs.getD i undef=v:=by simp at hv;simp [hv]
    rw [this];exact zai D w v
  ·exact .v _
 ·exact .v _
structure Rd (D:Nat->Nat->Prop) (ρ:Nat->Nat) (s:PS) (x:Nat->Value) (ts:List Nat) (w:World):Prop where
 slots:∀ t ∈ ts,Rel D ρ s.b.length w (x t) (s.get t)
 boxes:∀(i:Nat) cs,s.b[i]? = some cs->zaA ⟨D,ρ⟩ s.b.length w i cs
 gl:GL D w
def zbZ (x0:Nat->Value) (n0:Nat) (s:PS) (x:Nat->Value) (ts:List Nat) (w:World):Prop:=
 n0<=w.heap.size/\∀ t ∈ ts,NewOk x0 n0 w (x t) (s.get t)/\((s.get t).own≠none->x0 t=x t)
def Qok (P:Program) (o:Oper) (s:PS) (ρ:Nat->Nat) (D:Nat->Nat->Prop) (a:Act) (w:World) (p:PV):Prop:=
 ∀(next:Act->World->Prop) (Q:Exit->Act->World->Prop),(∀ u w',Below w.heap.size w w'->Rel (fun b o=>D b o\/w.heap.size<=b) ρ s.b.length w' u p->(∀ x0 n0,zbZ x0 n0 s (zB a) (zA o) w->NewOk x0 n0 w' u p)->next (a.put o.dst u) w')->o.wp P a w next Q
variable {P:Program} {o:Oper} {D:Nat->Nat->Prop} {ρ:Nat->Nat} {nb:Nat} {s:PS} {a:Act} {w:World}
theorem zby {u:Value} {p:PV} (hr:(execOp a.eval o).run P w=.ok (.value u) w) (h:Rel D ρ s.b.length w u p) (hN:∀ x0 n0,zbZ x0 n0 s (zB a) (zA o) w->NewOk x0 n0 w u p):Qok P o s ρ D a w p:=by
 intro next Q hn
 show o.upon P a next Q ((execOp a.eval o).run P w)
 rw [hr]
 exact hn u w (Below.refl _ _) (h.mono (fun _ _ h=>.inl h) (fun _ _ _ _ h=>h) (Nat.le_refl _) fun _ _=>rfl) hN
theorem zlD {u:Value} {p:PV} {w':World} (hr:(execOp a.eval o).run P w=.ok (.value u) w') (hb:Below w.heap.size w w') (h:Rel (fun b o=>D b o\/w.heap.size<=b) ρ s.b.length w' u p) (hN:∀ x0 n0,zbZ x0 n0 s (zB a) (zA o) w->NewOk x0 n0 w' u p):Qok P o s ρ D a w p:=by
 intro next Q hn
 show o.upon P a next Q ((execOp a.eval o).run P w)
 rw [hr]
 exact hn u w' hb h hN
theorem Xk {y:Operand} {y':PO} (hy:po y=some y') (h:∀ t,y=.tmp t->Rel D ρ nb w (zB a t) (s.get t)):Rel D ρ nb w (a.eval y) (s.ev y'):=by
 cases y with
 | tmp t=>cases hy;exact h t rfl
 | const v=>cases hy;exact .dat (zfT D w v)
 | func f=>cases hy;exact .dat (.fn (.func f) #[] #[] [] [] rfl rfl (fun i p h=>by simp at h) (fun i p h=>by simp at h))
 | global g=>cases hy
theorem Rd.at {ts:List Nat} (h:Rd D ρ s (zB a) ts w) {y:Operand} {y':PO} (hy:po y=some y') (ht:∀ t,y=.tmp t->t ∈ ts):Rel D ρ s.b.length w (a.eval y) (s.ev y'):=
 Xk hy fun t e=>h.slots t (ht t e)
theorem Rel.inv_agg {u:Value} {cs:List PV} (h:Rel D ρ nb w u (.agg cs)):∃ vs:Array Value,u=.agg vs/\vs.size=cs.length/\(∀ i,i<cs.length->(vs.getD i undef).oneCell'=true)/\∀(i:Nat) p,cs[i]? = some p->Dat D w (vs.getD i undef) p:=by
 rcases h with(h | ⟨i,o,h,_⟩) | ⟨f,va,vb,fs,cs,h,_⟩
 ·cases h with | agg vs cs hs h1 h=>exact⟨vs,rfl,hs,h1,h⟩
 ·cases h
 ·cases h
theorem Rel.inv_tup {u:Value} {cs:List PV} (h:Rel D ρ nb w u (.tup cs)):∃ vs:Array Value,u=.tuple vs/\vs.size=cs.length/\∀(i:Nat) p,cs[i]? = some p->Dat D w (vs.getD i undef) p:=by
 rcases h with(h | ⟨i,o,h,_⟩) | ⟨f,va,vb,fs,cs,h,_⟩
 ·cases h with | tup vs cs hs h=>exact⟨vs,rfl,hs,h⟩
 ·cases h
 ·cases h
theorem Rel.inv_ifc {u:Value} {t:TypeId} {p:PV} (h:Rel D ρ nb w u (.ifc t p)):∃ x,u=.iface t x/\Dat D w x p:=by
 rcases h with(h | ⟨i,o,h,_⟩) | ⟨f,va,vb,fs,cs,h,_⟩
 ·cases h with | ifc t x p h=>exact⟨x,rfl,h⟩
 ·cases h
 ·cases h
theorem Rel.inv_bx {u:Value} {i o:Nat} (h:Rel D ρ nb w u (.bx i o)):i<nb/\u=.pointer (some ⟨ρ i,o,none⟩):=by
 rcases h with(h | ⟨i,o,h,hi,hu⟩) | ⟨f,va,vb,fs,cs,h,_⟩
 ·cases h
 ·cases h;exact⟨hi,hu⟩
 ·cases h
theorem Rel.inv_cp {u:Value} {cs:List PV} {k:Nat} (h:Rel D ρ nb w u (.cp cs k)):∃(b off:Nat) (f:Nat->Value),u=.pointer (some ⟨b,off+k,none⟩)/\(∀ j,j<cs.length->D b (off+j)/\w.cell? ⟨b,off+j,none⟩=some (f j)/\(f j).oneCell'=true)/\∀(j:Nat) p,cs[j]? = some p->Dat D w (f j) p:=by
 rcases h with(h | ⟨i,o,h,_⟩) | ⟨f,va,vb,fs,cs,h,_⟩
 ·cases h with | cp b off cs o u h1 h2=>exact⟨b,off,u,rfl,h1,h2⟩
 ·cases h
 ·cases h
theorem Rel.inv_sl {u:Value} {es:List (List PV)} {k:Ow} (h:Rel D ρ nb w u (.sl es k)):∃(ad:Option Addr) (cap sz b off:Nat) (f:Nat->Value),u=.slice ad es.length cap/\es.length<=cap/\(k=.z->cap=es.length)/\cap<=maxLen/\(es≠[]->ad=some ⟨b,off,none⟩) /\
 (∀(i:Nat) e,es[i]? = some e->e.length=sz)/\(∀ j,j<es.length * sz->D b (off+j)/\w.cell? ⟨b,off+j,none⟩=some (f j)/\(f j).oneCell'=true)/\∀(i:Nat) e (j:Nat) p,es[i]? = some e->e[j]? = some p->Dat D w (f (i * sz+j)) p:=by
 rcases h with(h | ⟨i,o,h,_⟩) | ⟨f,va,vb,fs,cs,h,_⟩
 ·cases h with | sl a cap sz es o b off u hc hz hm ha hsz hD h=>exact⟨a,cap,sz,b,off,u,rfl,hc,hz,hm,ha,hsz,hD,h⟩
 ·cases h
 ·cases h
theorem xE {p:PV} {K:Bool->Prop} {u:Value} (h:qV p K) (hr:Rel D ρ nb w u p):∃ b,u=.bool b/\p=.v (.bool b)/\K b:=by
 unfold qV at h
 split at h
 ·exact⟨_,hr.v_inv,rfl,h⟩
 ·exact h.elim
theorem yu {p:PV} {K:IntKind->Int->Prop} {u:Value} (h:vR p K) (hr:Rel D ρ nb w u p):∃ k n,u=.int k n/\p=.v (.int k n)/\K k n:=by
 unfold vR at h
 split at h
 ·exact⟨_,_,hr.v_inv,rfl,h⟩
 ·exact h.elim
theorem y8 {p:PV} {K:List (List PV)->Prop} (h:QA p K):∃ es k,p=.sl es k/\K es:=by
 unfold QA at h
 split at h
 ·exact⟨_,_,rfl,h⟩
 ·exact h.elim
theorem kC {k:IntKind} {n:Int} {K:PV->Prop} (h:qar k n K):K (.v (.int k (k.wrap n))):=by
 unfold qar at h
 split at h
 ·obtain⟨⟨h1,h2⟩,h3⟩:=h
  have:IntKind.i64.wrap n=n:=IntWalk.i64_in _ ⟨h1,by omega⟩
  rw [this];exact h3
 ·exact h
theorem zd0 {op:BinOp} {k:IntKind} {x y:Int} {K:PV->Prop} (t:TypeId) (h:Xo op k x y K):∃ u,(binOp op t (.int k x) (.int k y)).run P w=.ok u w/\K (.v u):=by
 unfold Xo at h
 split at h
 case h_1=>exact⟨_,by simp [binOp,Op.intArith],kC h⟩
 case h_2=>exact⟨_,by simp [binOp,Op.intArith],kC h⟩
 case h_3=>exact⟨_,by simp [binOp,Op.intArith],kC h⟩
 case h_4=>exact⟨_,by simp [binOp,Op.intDiv,h.1],kC h.2⟩
 case h_5=>exact⟨_,by simp [binOp,Op.intDiv,h.1],h.2⟩
 case h_6=>exact⟨.bool (decide (x=y)),by simp [binOp,Op.intCmp];rfl,h⟩
 case h_7=>exact⟨.bool (!decide (x=y)),by simp [binOp,Op.intCmp];rfl,h⟩
 case h_8=>exact⟨_,by simp [binOp,Op.intCmp],h⟩
 case h_9=>exact⟨_,by simp [binOp,Op.intCmp],h⟩
 case h_10=>exact⟨_,by simp [binOp,Op.intCmp],h⟩
 case h_11=>exact⟨_,by simp [binOp,Op.intCmp],h⟩
 case h_12=>exact⟨_,by simp [binOp,Op.shift,Int.not_lt.2 h.1];rfl,h.2⟩
 case h_13=>exact h.elim
theorem X0 (op:BinOp) (t:TypeId) (x y:Operand) (k k':IntKind) (m n:Int):(eqGuard op t x y (.int k m) (.int k' n)).run P w=.ok () w:=by
 unfold eqGuard;split<;>simp
theorem zdX {op:BinOp} {p q:PV} {K:PV->Prop} {u v:Value} (t:TypeId) (x y:Operand) (h:QB op p q K) (hu:Rel D ρ nb w u p) (hv:Rel D ρ nb w v q) :
 ∃ r,(do eqGuard op t x y u v;binOp op t u v:Sem Value).run P w=.ok r w/\K (.v r):=by
 unfold QB at h
 split at h
 ·obtain rfl:=hu.v_inv
  obtain rfl:=hv.v_inv
  obtain⟨rfl,h⟩:=h
  obtain⟨r,h1,h2⟩:=zd0 (P:=P) (w:=w) t h
  exact⟨r,by simp [X0,h1],h2⟩
 ·exact h.elim
theorem kh (op:BinOp) (t:TypeId) (x y:Operand) (m n:Bool):(eqGuard op t x y (.bool m) (.bool n)).run P w=.ok () w:=by
 unfold eqGuard;split<;>simp
theorem JD {t:TypeId} (ht:P.underlying t=some .bool) (m n:Bool):(Op.equal t (.bool m) (.bool n)).run P w=.ok (m == n) w:=by
 unfold Op.equal Op.maxDepth
 rw [show (10000:Nat)=9999+1 from rfl]
 unfold Op.equalIn
 simp [run_underlying ht]
theorem X1 (op:BinOp) (t:TypeId) (x:Operand):(eqGuard op t x (.const .nilIface) .nilIface .nilIface).run P w=.ok () w:=by
 unfold eqGuard;cases op<;>cases x<;>simp
theorem Y5 (op:BinOp) (t t':TypeId) (x y:Operand) (v:Value):(eqGuard op t x y (.iface t' v) .nilIface).run P w=.ok () w:=by
 unfold eqGuard;cases op<;>simp
theorem za3 {t:TypeId} {ms} (ht:P.underlying t=some (.interface ms)):(Op.equal t .nilIface .nilIface).run P w=.ok true w:=by
 unfold Op.equal Op.maxDepth
 rw [show (10000:Nat)=9999+1 from rfl]
 unfold Op.equalIn
 simp [run_underlying ht]
theorem JE {t:TypeId} {ms} (ht:P.underlying t=some (.interface ms)) (t':TypeId) (v:Value):(Op.equal t (.iface t' v) .nilIface).run P w=.ok false w:=by
 unfold Op.equal Op.maxDepth
 rw [show (10000:Nat)=9999+1 from rfl]
 unfold Op.equalIn
 simp [run_underlying ht]
theorem Y7 {l:List PV} {vs:Array Value} {i:Nat} {p:PV} (hs:vs.size=l.length) (hp:l[i]? = some p):i<vs.size:=by rw [hs];exact(List.getElem?_eq_some_iff.1 hp).1
def CellsR (D:Nat->Nat->Prop) (ρ:Nat->Nat) (nb:Nat) (w:World) (u:Value) (cs:List PV):Prop:=
 u.cells.size=cs.length/\∀(i:Nat) p,cs[i]? = some p->Rel D ρ nb w (u.cells.getD i undef) p/\(u.cells.getD i undef).oneCell'=true
theorem yG {u:Value} {p:PV} (h:Rel D ρ nb w u p) (hu:u.oneCell'=true):CellsR D ρ nb w u [p]:=by
 have e:u.cells=#[u]:=by cases u<;>first | rfl | cases hu
 refine⟨by rw [e];rfl,fun i q hq=>?_⟩
 have hi:i=0:=by have:=(List.getElem?_eq_some_iff.1 hq).1;simpa using this
 subst hi
 simp at hq
 subst hq
 rw [e]
 exact⟨h,hu⟩
theorem xY {p:PV} {K:List PV->Prop} {u:Value} (h:qW p K) (hr:Rel D ρ nb w u p):∃ cs,K cs/\CellsR D ρ nb w u cs:=by
 unfold qW at h
 split at h
 ·obtain⟨vs,rfl,hs,h1,h2⟩:=hr.inv_agg
  exact⟨_,h,hs,fun i p hp=>⟨.dat (h2 i p hp),h1 i (List.getElem?_eq_some_iff.1 hp).1⟩⟩
 ·obtain rfl:=hr.v_inv
  exact⟨_,h.2,yG hr h.1⟩
 ·obtain⟨_,_,_,_,_,_,rfl,_⟩:=hr.inv_sl
  exact⟨_,h,yG hr rfl⟩
 ·obtain⟨_,_,_,rfl,_⟩:=hr.inv_cp
  exact⟨_,h,yG hr rfl⟩
 ·obtain⟨_,rfl⟩:=hr.inv_bx
  exact⟨_,h,yG hr rfl⟩
 ·refine⟨_,h,yG hr ?_⟩
  rcases hr with(hr | ⟨i,o,hr,_⟩) | ⟨f,va,vb,fs,cs,_,rfl,_⟩
  ·cases hr;rfl
  ·cases hr
  ·rfl
 ·obtain⟨_,rfl,_⟩:=hr.inv_ifc
  exact⟨_,h,yG hr rfl⟩
 ·exact h.elim
theorem xy {t:TypeId} {d:TypeDesc} (h:P.underlying t=some d):(isAgg t).run P w=.ok (Qb d) w:=by
 unfold isAgg
 simp only [Sem.run_bind,run_underlying h,Result.andThen_ok]
 cases d<;>simp [Qb]
theorem zE {t:TypeId} {i:TypeInfo} (h:P.info? t=some i):(sizeOf t).run P w=.ok i.size w:=by simp [sizeOf,typeInfo,h]
theorem vT {t:TypeId} {ag:Bool} {n:Nat} (h:XH P t=some (ag,n)):∃ i d,P.info? t=some i/\P.underlying t=some d/\Qb d=ag/\i.size=n:=by
 unfold XH at h
 simp only [Option.bind_eq_some_iff,Option.map_eq_some_iff] at h
 obtain⟨i,hi,d,hd,e⟩:=h
 cases e
 exact⟨i,d,hi,hd,rfl,rfl⟩
theorem Zs {t:TypeId} {n:Nat} {ad:Addr} {v:Value} (h:XH P t=some (false,n)) (hc:w.cell? ad=some v):(loadVar t ad).run P w=.ok v w:=by
 obtain⟨i,d,h1,h2,h3,h4⟩:=vT h
 simp [loadVar,xy h2,h3,hc]
theorem Vo {t:TypeId} {n:Nat} {ad:Addr} {f:Nat->Value} (h:XH P t=some (true,n)) (hc:∀ j,j<n->w.cell? (ad.add j)=some (f j)):(loadVar t ad).run P w=.ok (.agg ((List.range n).map f).toArray) w:=by
 obtain⟨i,d,h1,h2,h3,h4⟩:=vT h
 subst h4
 simp [loadVar,xy h2,h3,zE h1,run_loadCells w ad i.size f hc]
theorem zh (b o j:Nat):(⟨b,o,none⟩:Addr).add j=⟨b,o+j,none⟩:=by unfold Addr.add;split<;>simp_all
theorem Qv {t:TypeId} {ag:Bool} {n b off o:Nat} {cs:List PV} {f:Nat->Value} {K:PV->Prop} (hs:XH P t=some (ag,n)) (hq:VI cs o ag n K)
 (hc:∀ j,j<cs.length->w.cell? ⟨b,off+j,none⟩=some (f j)/\(f j).oneCell'=true) (hr:∀(j:Nat) p,cs[j]? = some p->Rel D ρ nb w (f j) p) (hd:ag=true->zY ((cs.drop o).take n)=true) :
 ∃ u p,(loadVar t ⟨b,off+o,none⟩).run P w=.ok u w/\Rel D ρ nb w u p/\K p:=by
 unfold VI at hq
 cases ag with
 | true=>
   obtain⟨h1,h2⟩:=hq
   refine⟨_,_,Vo (f:=fun j=>f (o+j)) hs (fun j hj=>?_),?_,h2⟩
   ·rw [zh,Nat.add_assoc];exact(hc _ (by omega)).1
   ·refine .dat (.agg _ _ (by simp;omega) (fun i hi=>?_) fun i p hp=>?_)
    ·have hi':i<n:=by simp at hi;omega
     have:((List.range n).map fun j=>f (o+j)).toArray.getD i undef=f (o+i):=by simp [hi']
     rw [this];exact(hc _ (by omega)).2
    ·have hi:i<n:=by have:=(List.getElem?_eq_some_iff.1 hp).1;simp at this;omega
     have:((List.range n).map fun j=>f (o+j)).toArray.getD i undef=f (o+i):=by simp [hi]
     rw [this]
     have hD:=hd rfl
     unfold zY at hD
     rw [List.all_eq_true] at hD
     refine(hr _ _ ?_).data (hD p (List.mem_of_getElem? hp))
     rw [List.getElem?_take,if_pos hi,List.getElem?_drop] at hp
     exact hp
 | false=>
   simp only at hq
   split at hq
   ·rename_i p hp
    exact⟨_,p,Zs hs (hc o (List.getElem?_eq_some_iff.1 hp).1).1,hr _ _ hp,hq⟩
   ·exact hq.elim
theorem VJ {t:TypeId} {ag:Bool} {n o:Nat} {cs:List PV} {vs:Array Value} {K:PV->Prop} (hs:XH P t=some (ag,n)) (hq:VI cs o ag n K) (hz:vs.size=cs.length) (h1:∀ i,i<cs.length->(vs.getD i undef).oneCell'=true)
 (hr:∀(j:Nat) p,cs[j]? = some p->Dat D w (vs.getD j undef) p):∃ u p,(part t vs o).run P w=.ok u w/\Dat D w u p/\K p:=by
 obtain⟨i,d,e1,e2,e3,e4⟩:=vT hs
 unfold VI at hq
 subst e4
 cases ag with
 | true=>
   obtain⟨g1,g2⟩:=hq
   refine⟨.agg (vs.extract o (o+i.size)),_,by simp [part,xy e2,e3,zE e1],?_,g2⟩
   have key:∀ j,j<i.size->(vs.extract o (o+i.size)).getD j undef=vs.getD (o+j) undef:=fun j hj=>by
    have:o+j<vs.size:=by omega
    have h2:j<(vs.extract o (o+i.size)).size:=by simp;omega
    simp [Array.getD_eq_getD_getElem?,Array.getElem?_eq_getElem h2,Array.getElem?_eq_getElem this]
   refine .agg _ _ (by simp;omega) (fun j hj=>?_) fun j p hp=>?_
   ·have hj':j<i.size:=by simp at hj;omega
    rw [key j hj'];exact h1 _ (by omega)
   ·have hj:j<i.size:=by have:=(List.getElem?_eq_some_iff.1 hp).1;simp at this;omega
    rw [key j hj]
    rw [List.getElem?_take,if_pos hj,List.getElem?_drop] at hp
    exact hr _ _ hp
 | false=>
   simp only at hq
   split at hq
   ·rename_i p hp
    have ho:o<vs.size:=Y7 hz hp
    refine⟨vs.getD o undef,p,?_,hr _ _ hp,hq⟩
    simp [part,xy e2,e3,ho]
   ·exact hq.elim
end Go.Proofs.YtopfkkogooocgaaGreat
namespace Go.Proofs.YtopfkkogooocgaaGreat
open Go.RowKit
variable {P:Program} {o:Oper} {D:Nat->Nat->Prop} {ρ:Nat->Nat} {nb:Nat} {s:PS} {a:Act} {w:World}
theorem QC {o:Oper} {t:Tmp} (h:Operand.tmp t ∈ o.op.operands.toList):t ∈ zA o:=by
 unfold zA
 exact List.mem_filterMap.2 ⟨_,h,rfl⟩
theorem Rd.op (h:Rd D ρ s (zB a) (zA o) w) {y:Operand} {y':PO} (hy:po y=some y') (hm:y ∈ o.op.operands.toList):Rel D ρ s.b.length w (a.eval y) (s.ev y'):=
 h.at hy fun t e=>QC (by rw [<-e];exact hm)
theorem kz:∀ {l:List Operand} {ys:List PO},Qu l=some ys->ys.length=l.length/\∀(i:Nat) (y:Operand),l[i]? = some y->∃ y',ys[i]? = some y'/\po y=some y'
 | [],ys,h=>by cases h;exact⟨rfl,fun i y h=>by simp at h⟩
 | x::r,ys,h=>by
   simp only [Qu,Option.bind_eq_some_iff,Option.map_eq_some_iff] at h
   obtain⟨y,hy,l,hl,rfl⟩:=h
   obtain⟨h1,h2⟩:=kz hl
   refine⟨by simp [h1],fun i z hz=>?_⟩
   cases i with
   | zero=>simp at hz;subst hz;exact⟨y,rfl,hy⟩
   | succ i=>simpa using h2 i z (by simpa using hz)
def QS (P:Program) (o:Oper) (D:Nat->Nat->Prop) (ρ:Nat->Nat) (s:PS) (a:Act) (w:World) (K:PV->Prop):Prop:=∃ p,K p/\p.own=none/\Qok P o s ρ D a w p
theorem QS.det {K:PV->Prop} {u:Value} {p:PV} (hr:(execOp a.eval o).run P w=.ok (.value u) w) (h:Rel D ρ s.b.length w u p) (hk:K p) (ho:p.own=none) (hN:p.isN=false:=by rfl):QS P o D ρ s a w K:=⟨p,hk,ho,zby hr h fun _ _ _=>xA hN⟩
theorem QS.strip {K:PV->Prop} {u:Value} {p:PV} (hr:(execOp a.eval o).run P w=.ok (.value u) w) (h:Rel D ρ s.b.length w u p) (hk:K p.strip):QS P o D ρ s a w K:=⟨p.strip,hk,p.strip_own,zby hr h.strip fun _ _ _=>xA p.strip_isN⟩
section
variable {K:PV->Prop} (hR:Rd D ρ s (zB a) (zA o) w)
include hR
theorem zlz {x:Operand} {x':PO} (ho:o.op=.move x\/o.op=.assign x) (hx:po x=some x') (hk:PK.q P s (.mv x') K):QS P o D ρ s a w K:=by
 have hr:(execOp a.eval o).run P w=.ok (.value (a.eval x)) w:=by rcases ho with ho | ho<;>simp [execOp,ho]
 have hm:x ∈ o.op.operands.toList:=by rcases ho with ho | ho<;>simp [ho,Op.operands]
 have hrel:=hR.op hx hm
 cases x' with
 | t i=>
   have hxt:x=.tmp i:=by cases x<;>first | (cases hx;rfl) | cases hx
   subst hxt
   simp only [PK.q] at hk
   rcases PV.pre_or i (s.get i) with e | ⟨es,n,m,e1,e2⟩
   ·rw [e] at hk
    exact .strip hr hrel hk
   ·rw [e2] at hk
    have hrel2:Rel D ρ s.b.length w (zB a i) (.sl es (.r n m)):=e1 ▸ hrel
    obtain⟨ad,cap,sz,b,off,f,e3,c1,c2,c3,c4,c5,c6,c7⟩:=hrel2.inv_sl
    refine⟨_,hk,rfl,zby hr ?_ fun x0 n0 hN=>⟨ad,es.length,cap,?_,?_⟩⟩
    ·show Rel D ρ s.b.length w (zB a i) _
     rw [e3]
     exact .dat (.sl ad cap sz es _ b off f c1 (fun h=>by cases h) c3 c4 c5 c6 c7)
    ·have:=(hN.2 i (QC hm)).2 (by rw [e1];simp [PV.own])
     rw [this,e3]
    ·exact e3
 | c p=>exact .strip hr hrel hk
 | f p=>exact .strip hr hrel hk
theorem zny {c x y:Operand} {c' x' y':PO} (ho:o.op=.pick c x y) (hc:po c=some c') (hx:po x=some x') (hy:po y=some y')
 (hk:qV (s.ev c') fun b=>(b=true->K (s.ev x').strip)/\(b=false->K (s.ev y').strip)):QS P o D ρ s a w K:=by
 obtain⟨b,e1,_,h1,h2⟩:=xE hk (hR.op hc (by simp [ho,Op.operands]))
 cases b with
 | true=>exact .strip (by simp [execOp,ho,e1,asBool]) (hR.op hx (by simp [ho,Op.operands])) (h1 rfl)
 | false=>exact .strip (by simp [execOp,ho,e1,asBool]) (hR.op hy (by simp [ho,Op.operands])) (h2 rfl)
theorem zlv {op:BinOp} {t t':TypeId} {x y:Operand} {x' y':PO} (ho:o.op=.binOp op t x y t') (hx:po x=some x') (hy:po y=some y') (hk:QB op (s.ev x') (s.ev y') K):QS P o D ρ s a w K:=by
 obtain⟨r,h1,h2⟩:=zdX (P:=P) t x y hk (hR.op hx (by simp [ho,Op.operands])) (hR.op hy (by simp [ho,Op.operands]))
 refine .det (u:=r) ?_ (.dat (.v _)) h2 rfl
 simp only [execOp,ho,Sem.run_bind,h1,Result.andThen_ok,Sem.run_pure]
theorem zlu {op:BinOp} {t t':TypeId} {x y:Operand} {x' y':PO} (ho:o.op=.binOp op t x y t') (hop:op=.eql\/op=.neq) (ht:P.underlying t=some .bool) (hx:po x=some x') (hy:po y=some y')
 (hk:qV (s.ev x') fun a=>qV (s.ev y') fun b=>K (.v (.bool ((op == .neq) != (a == b))))):QS P o D ρ s a w K:=by
 obtain⟨m,e1,_,h1⟩:=xE hk (hR.op hx (by simp [ho,Op.operands]))
 obtain⟨n,e2,_,h2⟩:=xE h1 (hR.op hy (by simp [ho,Op.operands]))
 refine .det ?_ (.dat (.v _)) h2 rfl
 have hb:=JD (P:=P) (w:=w) ht m n
 rcases hop with rfl | rfl
 ·simp only [execOp,ho,Sem.run_bind,e1,e2,kh,Result.andThen_ok,Sem.run_pure,binOp,hb]
  cases m<;>cases n<;>rfl
 ·simp only [execOp,ho,Sem.run_bind,e1,e2,kh,Result.andThen_ok,Sem.run_pure,binOp,hb]
  cases m<;>cases n<;>rfl
theorem zpV {op:BinOp} {t t':TypeId} {x y:Operand} {x' y':PO} (ho:o.op=.binOp op t x y t') (hop:zoQ op=true) (hx:po x=some x') (hy:po y=some y') (hk:PK.q P s (.sb op x' y') K):QS P o D ρ s a w K:=by
 have hrx:=hR.op hx (by simp [ho,Op.operands])
 have hry:=hR.op hy (by simp [ho,Op.operands])
 simp only [PK.q] at hk
 unfold qsb at hk
 split at hk
 ·rename_i p q ex ey
  rw [ex] at hrx
  rw [ey] at hry
  have e1:=hrx.v_inv
  have e2:=hry.v_inv
  obtain⟨hs,hk⟩:=hk
  have hadd:=run_string_add_sum (P:=P) (w:=w) p q hs
  cases op<;>first
   | exact absurd hop (by decide)
   | (refine .det ?_ (.dat (.v _)) hk rfl;simp [execOp,ho,e1,e2,eqGuard,binOp,hadd];done)
   | (refine .det ?_ (.dat (.v _)) hk rfl;simp [execOp,ho,e1,e2,eqGuard,binOp,Op.stringOp])
 ·exact hk.elim
theorem zlB {op:BinOp} {t t':TypeId} {x:Operand} {x':PO} {ms} (ho:o.op=.binOp op t x (.const .nilIface) t') (hop:op=.eql\/op=.neq) (ht:P.underlying t=some (.interface ms)) (hx:po x=some x')
 (hk:PK.q P s (.nil (op == .neq) x') K):QS P o D ρ s a w K:=by
 have hr:=hR.op hx (by simp [ho,Op.operands])
 simp only [PK.q] at hk
 split at hk
 ·rename_i e
  rw [e] at hr
  have e1:=hr.v_inv
  refine .det ?_ (.dat (.v _)) hk rfl
  have hc:a.eval (.const .nilIface)=.nilIface:=rfl
  rcases hop with rfl | rfl<;>simp only [execOp,ho,Sem.run_bind,e1,hc,X1,Result.andThen_ok,Sem.run_pure,binOp,za3 ht]<;>rfl
 ·rename_i tt pp e
  rw [e] at hr
  obtain⟨v,e1,_⟩:=hr.inv_ifc
  refine .det ?_ (.dat (.v _)) hk rfl
  have hc:a.eval (.const .nilIface)=.nilIface:=rfl
  rcases hop with rfl | rfl<;>simp only [execOp,ho,Sem.run_bind,e1,hc,Y5,Result.andThen_ok,Sem.run_pure,binOp,JE ht]<;>rfl
 ·exact hk.elim
theorem zlC {t:TypeId} {x:Operand} {x':PO} (ho:o.op=.unOp .not t x) (hx:po x=some x') (hk:qV (s.ev x') fun b=>K (.v (.bool (!b)))):QS P o D ρ s a w K:=by
 obtain⟨b,e1,_,h1⟩:=xE hk (hR.op hx (by simp [ho,Op.operands]))
 exact .det (by simp [execOp,ho,e1,Op.unary]) (.dat (.v _)) h1 rfl
theorem zlA {t:TypeId} {x:Operand} {x':PO} (ho:o.op=.unOp .neg t x) (hx:po x=some x') (hk:QB .sub (.v (.int .i64 0)) (s.ev x') K):QS P o D ρ s a w K:=by
 have hr:=hR.op hx (by simp [ho,Op.operands])
 unfold QB at hk
 split at hk
 ·rename_i k1 n1 k2 n2 e1 e2
  cases e1
  rw [e2] at hr
  have e3:=hr.v_inv
  obtain⟨rfl,hk⟩:=hk
  have hk2:qar .i64 (0 - n2) K:=hk
  exact .det (u:=.int .i64 (IntKind.i64.wrap (0 - n2))) (by simp [execOp,ho,e3,Op.unary,Op.intArith]) (.dat (.v _)) (kC hk2) rfl
 ·exact hk.elim
theorem znn {t t':TypeId} {x:Operand} {x':PO} {k k':IntKind} (ho:o.op=.convert t t' x) (h1:P.underlying t=some (.int k')) (h2:P.underlying t'=some (.int k)) (hx:po x=some x') (hk:vR (s.ev x') fun _ n=>K (.v (.int k (k.wrap n)))):QS P o D ρ s a w K:=by
 obtain⟨j,n,e1,_,h3⟩:=yu hk (hR.op hx (by simp [ho,Op.operands]))
 exact .det (by simp [execOp,ho,e1,convert,run_underlying h1,run_underlying h2,Conv.intToInt]) (.dat (.v _)) h3 rfl
theorem znp {t:TypeId} {x:Operand} {x':PO} {f:Nat} {fs:Array Field} {fd:Field} {i:TypeInfo} (ho:o.op=.fieldAddr t x f) (h1:P.underlying t=some (.struct fs)) (h2:fs[f]? = some fd) (h3:P.info? fd.type=some i) (h4:i.size≠0)
 (hx:po x=some x') (hk:PK.q P s (.fa x' fd.offset) K):QS P o D ρ s a w K:=by
 have hr:=hR.op hx (by simp [ho,Op.operands])
 simp only [PK.q] at hk
 split at hk
 ·rename_i i' o' e
  rw [e] at hr
  obtain⟨hi,e1⟩:=hr.inv_bx
  refine .det (u:=.pointer (some ⟨ρ i',o'+fd.offset,none⟩)) ?_ (.inl (.inr ⟨_,_,rfl,hi,rfl⟩)) hk rfl
  simp [execOp,ho,e1,Instr.fieldAt,run_underlying h1,h2,Instr.sureAddr,fieldPlace,zE h3,h4,zh]
 ·rename_i cs o' e
  rw [e] at hr
  obtain⟨b,off,u,e1,hc,hd⟩:=hr.inv_cp
  refine .det (u:=.pointer (some ⟨b,off+(o'+fd.offset),none⟩)) ?_ (.dat (.cp b off cs _ u hc hd)) hk rfl
  simp [execOp,ho,e1,Instr.fieldAt,run_underlying h1,h2,Instr.sureAddr,fieldPlace,zE h3,h4,zh,Nat.add_assoc]
 ·exact hk.elim
theorem znr {t e:TypeId} {x y:Operand} {x' y':PO} {i:TypeInfo} (ho:o.op=.indexAddr t x y) (h1:P.underlying t=some (.slice e)) (h3:P.info? e=some i) (hx:po x=some x') (hy:po y=some y') (hk:PK.q P s (.ia x' y' i.size) K):QS P o D ρ s a w K:=by
 simp only [PK.q] at hk
 obtain⟨es,k,ex,h4⟩:=y8 hk
 obtain⟨j,n,e2,_,hn,h5⟩:=yu h4 (hR.op hy (by simp [ho,Op.operands]))
 have hr:=hR.op hx (by simp [ho,Op.operands])
 rw [ex] at hr
 obtain⟨ad,cap,sz,b,off,f,e1,hc,hz,hm,ha,hsz,hD,hd⟩:=hr.inv_sl
 split at h5
 ·rename_i el hel
  obtain⟨hl,h6⟩:=h5
  have hlt:n.toNat<es.length:=(List.getElem?_eq_some_iff.1 hel).1
  have hsz':sz=i.size:=(hsz _ _ hel).symm.trans hl
  have had:=ha (by intro e;subst e;simp at hlt)
  refine .det (u:=.pointer (some ⟨b,off+n.toNat * i.size,none⟩)) ?_ (.dat ?_) h6 rfl
  ·have hin:n<es.length:=by omega
   simp [execOp,ho,e1,e2,Instr.indexAt,asIntOf,run_underlying h1,had,hn,hin,zE h3,zh]
  ·have:=Dat.cp (D:=D) (w:=w) b (off+n.toNat * i.size) el 0 (fun j=>f (n.toNat * i.size+j)) (fun j hj=>?_) (fun j p hp=>?_)
   ·simpa using this
   ·rw [hl] at hj
    have hlt2:n.toNat * i.size+j<es.length * sz:=by
     rw [hsz']
     calc n.toNat * i.size+j<n.toNat * i.size+i.size:=by omega
      _=(n.toNat+1) * i.size:=by rw [Nat.add_mul];omega
      _<=es.length * i.size:=Nat.mul_le_mul_right _ hlt
    have:=hD _ hlt2
    rw [Nat.add_assoc];exact this
   ·have:=hd _ _ _ _ hel hp
    rw [hsz'] at this;exact this
 ·exact h5.elim
theorem zni {t e:TypeId} {x y:Operand} {x' y':PO} {i:TypeInfo} {m:Nat} (ho:o.op=.indexAddr t x y) (h1:P.underlying t=some (.array m e)) (h3:P.info? e=some i) (hx:po x=some x') (hy:po y=some y') (hk:PK.q P s (.aa x' y' m i.size) K):QS P o D ρ s a w K:=by
 simp only [PK.q] at hk
 obtain⟨j,n,e2,_,hn,h5⟩:=yu hk (hR.op hy (by simp [ho,Op.operands]))
 have hr:=hR.op hx (by simp [ho,Op.operands])
 split at h5
 ·rename_i i' o' e
  rw [e] at hr
  obtain⟨hi,e1⟩:=hr.inv_bx
  refine .det (u:=.pointer (some ⟨ρ i',o'+n.toNat * i.size,none⟩)) ?_ (.inl (.inr ⟨_,_,rfl,hi,rfl⟩)) h5 rfl
  simp [execOp,ho,e1,e2,Instr.indexAt,asIntOf,run_underlying h1,Instr.sureAddr,hn.1,hn.2,zE h3,zh]
 ·rename_i cs o' e
  rw [e] at hr
  obtain⟨b,off,u,e1,hc,hd⟩:=hr.inv_cp
  refine .det (u:=.pointer (some ⟨b,off+(o'+n.toNat * i.size),none⟩)) ?_ (.dat (.cp b off cs _ u hc hd)) h5 rfl
  simp [execOp,ho,e1,e2,Instr.indexAt,asIntOf,run_underlying h1,Instr.sureAddr,hn.1,hn.2,zE h3,zh,Nat.add_assoc]
 ·exact h5.elim
theorem zns {t e:TypeId} {x y:Operand} {x' y':PO} {ag:Bool} {m n':Nat} (ho:o.op=.index t x y) (h1:P.underlying t=some (.array m e)) (h3:XH P e=some (ag,n')) (hx:po x=some x') (hy:po y=some y') (hk:PK.q P s (.ix x' y' m ag n') K):QS P o D ρ s a w K:=by
 simp only [PK.q] at hk
 obtain⟨j,n,e2,_,hn,h5⟩:=yu hk (hR.op hy (by simp [ho,Op.operands]))
 have hr:=hR.op hx (by simp [ho,Op.operands])
 split at h5
 ·rename_i cs e
  rw [e] at hr
  obtain⟨vs,e1,hz,hc,hd⟩:=hr.inv_agg
  obtain⟨u,p,g1,g2,g3⟩:=VJ (P:=P) h3 h5 hz hc hd
  obtain⟨i,d,k1,k2,k3,k4⟩:=vT h3
  refine .strip (u:=u) (p:=p) ?_ (.dat g2) g3
  rw [<-k4] at g1
  simp [execOp,ho,e1,e2,Instr.index,asIntOf,run_underlying h1,hn.1,hn.2,zE k1,g1]
 ·exact h5.elim
theorem znq {t:TypeId} {x:Operand} {x':PO} {f:Nat} {fs:Array Field} {fd:Field} {ag:Bool} {n':Nat} (ho:o.op=.field t x f) (h1:P.underlying t=some (.struct fs)) (h2:fs[f]? = some fd) (h3:XH P fd.type=some (ag,n'))
 (hx:po x=some x') (hk:PK.q P s (.fl x' fd.offset ag n') K):QS P o D ρ s a w K:=by
 simp only [PK.q] at hk
 have hr:=hR.op hx (by simp [ho,Op.operands])
 split at hk
 ·rename_i cs e
  rw [e] at hr
  obtain⟨vs,e1,hz,hc,hd⟩:=hr.inv_agg
  obtain⟨u,p,g1,g2,g3⟩:=VJ (P:=P) h3 hk hz hc hd
  refine .strip (u:=u) (p:=p) ?_ (.dat g2) g3
  simp [execOp,ho,e1,Instr.field,run_underlying h1,h2,asAgg,g1]
 ·exact hk.elim
theorem znt {t:TypeId} {x:Operand} {x':PO} {ag:Bool} {n':Nat} (ho:o.op=.load t x) (h3:XH P t=some (ag,n')) (hx:po x=some x') (hk:PK.q P s (.ld x' ag n') K):QS P o D ρ s a w K:=by
 simp only [PK.q] at hk
 have hr:=hR.op hx (by simp [ho,Op.operands])
 split at hk
 ·rename_i cs o' e
  rw [e] at hr
  obtain⟨b,off,u,e1,hc,hd⟩:=hr.inv_cp
  have hall:ag=true->zY ((cs.drop o').take n')=true:=fun _=>by
   unfold zY
   rw [List.all_eq_true]
   intro p hp
   obtain⟨j,hj⟩:=List.getElem?_of_mem (List.mem_of_mem_drop (List.mem_of_mem_take hp))
   exact(hd j p hj).isD
  obtain⟨u',p,g1,g2,g3⟩:=Qv (P:=P) (ρ:=ρ) (nb:=s.b.length) h3 hk (fun j hj=>(hc j hj).2) (fun j p hp=>.dat (D:=D) (hd j p hp)) hall
  exact .strip (u:=u') (p:=p) (by simp [execOp,ho,e1,Instr.loadAt,Instr.sureAddr,g1]) g2 g3
 ·rename_i i' o' e
  rw [e] at hr
  obtain⟨hi,e1⟩:=hr.inv_bx
  split at hk
  ·rename_i cs hcs
   obtain⟨vs,e',hv,hz,hb⟩:=hR.boxes i' cs hcs
   have hcell:∀ j,j<cs.length->w.cell? ⟨ρ i',0+j,none⟩=some (vs.getD j undef)/\(vs.getD j undef).oneCell'=true:=fun j hj=>by
    refine⟨?_,(hb j _ (List.getElem?_eq_getElem hj)).2⟩
    simp only [World.cell?,hv]
    simp [show j<vs.size by omega]
   obtain⟨u',p,g1,g2,g3⟩:=Qv (P:=P) (D:=D) (ρ:=ρ) (nb:=s.b.length) h3 hk.2 hcell (fun j p hp=>(hb j p hp).1) (fun _=>hk.1)
   rw [Nat.zero_add] at g1
   exact .strip (u:=u') (p:=p) (by simp [execOp,ho,e1,Instr.loadAt,Instr.sureAddr,g1]) g2 g3
  ·exact hk.elim
 ·exact hk.elim
omit hR in
theorem K7 {t:TypeId} (h:jX P t=true):∃ k,P.underlying t=some (.int k):=by
 unfold jX at h
 split at h
 ·exact⟨_,by assumption⟩
 ·cases h
omit hR in
theorem ky {t:TypeId} (h:jX P t=true) {cs:Array Value} {o:Nat} {v:Value} (hv:cs[o]? = some v):(part t cs o).run P w=.ok v w:=by
 obtain⟨k,hu⟩:=K7 h
 simp [part,xy hu,Qb,hv]
omit hR in
theorem KT {t:TypeId} (h:jX P t=true) (d:Nat) (k:IntKind) (m n:Int):(Op.equalIn (d+1) t (.int k m) (.int k n)).run P w=.ok (decide (m=n)) w:=by
 obtain⟨kk,hu⟩:=K7 h
 rw [run_equalIn_int w d t k kk m n hu]
 congr 1
omit hR in
theorem KS (d:Nat) {vs us:Array Value}:∀(fs:List Field) (i:Nat) (xs ys:List PV),K8 P i fs=true->xs.length=fs.length->jy xs ys->(∀ j v,xs[j]? = some (.v v)->vs[i+j]? = some v)->(∀ j v,ys[j]? = some (.v v)->us[i+j]? = some v)->(Op.eqFields (d+1) vs us fs).run P w=.ok (xQ xs ys) w
 | [],i,xs,ys,_,hl,_,_,_=>by
   obtain rfl:xs=[]:=List.length_eq_zero_iff.1 hl
   simp [Op.eqFields,xQ]
 | f::fs,i,xs,ys,hi,hl,hc,hv,hu=>by
   unfold K8 at hi
   simp only [Bool.and_eq_true,bne_iff_ne,ne_eq,beq_iff_eq] at hi
   obtain⟨⟨⟨h1,h2⟩,h3⟩,h4⟩:=hi
   unfold jy at hc
   split at hc
   ·cases hl
   ·rename_i k a r k' b r'
    obtain⟨rfl,hc⟩:=hc
    have e1:=hv 0 _ rfl
    have e2:=hu 0 _ rfl
    rw [Nat.add_zero,<-h2] at e1 e2
    have ih:=KS d (vs:=vs) (us:=us) fs (i+1) r r' h4 (by simpa using hl) hc (fun j v h=>by have:=hv (j+1) v h;rwa [show i+(j+1)=i+1+j by omega] at this) (fun j v h=>by have:=hu (j+1) v h;rwa [show i+(j+1)=i+1+j by omega] at this)
    simp only [Op.eqFields,h1,ne_eq,not_false_eq_true,if_true,Sem.run_bind,ky (P:=P) (w:=w) h3 e1,ky (P:=P) (w:=w) h3 e2,Result.andThen_ok,KT (P:=P) (w:=w) h3 d k a b]
    by_cases hab:a=b
    ·simp [hab,ih,xQ]
    ·simp [hab,xQ]
   ·cases hc
omit hR in
theorem KR (d:Nat) {e:TypeId} (he:jX P e=true) {vs us:Array Value}:∀(xs ys:List PV) (i:Nat),jy xs ys->(∀ j v,xs[j]? = some (.v v)->vs[i+j]? = some v)->(∀ j v,ys[j]? = some (.v v)->us[i+j]? = some v)->(Op.eqItems (d+1) e 1 vs us (List.range' i xs.length)).run P w=.ok (xQ xs ys) w
 | [],ys,i,_,_,_=>by simp [Op.eqItems,xQ]
 | x::xs,ys,i,hc,hv,hu=>by
   unfold jy at hc
   split at hc
   ·rename_i h
    cases h
   ·rename_i k a r k' b r' h
    cases h
    obtain⟨rfl,hc⟩:=hc
    have e1:=hv 0 _ rfl
    have e2:=hu 0 _ rfl
    rw [Nat.add_zero] at e1 e2
    have ih:=KR d he (vs:=vs) (us:=us) xs r' (i+1) hc (fun j v h=>by have:=hv (j+1) v h;rwa [show i+(j+1)=i+1+j by omega] at this) (fun j v h=>by have:=hu (j+1) v h;rwa [show i+(j+1)=i+1+j by omega] at this)
    simp only [List.length_cons,List.range'_succ,Op.eqItems,Sem.run_bind,Nat.mul_one,ky (P:=P) (w:=w) he e1,ky (P:=P) (w:=w) he e2,Result.andThen_ok,KT (P:=P) (w:=w) he d k a b]
    by_cases hab:a=b
    ·simp [hab,ih,xQ]
    ·simp [hab,xQ]
   ·cases hc
omit hR in
theorem zfc {t:TypeId} {n:Nat} (ht:za9 P t=some n) {vs us:Array Value} {xs ys:List PV} (hl:xs.length=n) (hc:jy xs ys) (hv:∀ j v,xs[j]? = some (.v v)->vs[0+j]? = some v) (hu:∀ j v,ys[j]? = some (.v v)->us[0+j]? = some v):(Op.equal t (.agg vs) (.agg us)).run P w=.ok (xQ xs ys) w/\∀ op ox oy,(eqGuard op t ox oy (.agg vs) (.agg us)).run P w=.ok () w:=by
 unfold za9 at ht
 split at ht
 ·rename_i fs hf
  split at ht
  ·rename_i hcond
   simp only [Bool.and_eq_true,Bool.not_eq_true'] at hcond
   obtain⟨⟨h1,h2⟩,h3⟩:=hcond
   cases ht
   have hfo:P.fieldsOf t=fs:=by unfold Program.fieldsOf;rw [hf]
   refine⟨?_,fun op ox oy=>run_eqGuard_agg w op t ox oy vs us h3⟩
   show (Op.equalIn (9998+1+1) t _ _).run P w=_
   rw [run_equalIn_agg w _ t vs us (by rw [hfo];exact hf) h2,hfo]
   exact KS _ _ 0 xs ys h1 (by simpa using hl) hc hv hu
  ·cases ht
 ·rename_i m e hf
  split at ht
  ·rename_i hcond
   simp only [Bool.and_eq_true,Bool.not_eq_true',beq_iff_eq] at hcond
   obtain⟨⟨⟨h1,h2⟩,h3⟩,h4⟩:=hcond
   cases ht
   obtain⟨i,hi⟩:=Option.isSome_iff_exists.1 h2
   refine⟨?_,fun op ox oy=>run_eqGuard_agg w op t ox oy vs us h4⟩
   show (Op.equalIn (9998+1+1) t _ _).run P w=_
   rw [run_equalIn_array w _ vs us hf hi,h3,List.range_eq_range',<-hl]
   exact KR _ h1 xs ys 0 hc hv hu
  ·cases ht
 ·cases ht
omit hR in
theorem KU:∀ {xs ys:List PV},jy xs ys->(∀ p ∈ xs,∃ v,p=.v v)/\∀ p ∈ ys,∃ v,p=.v v
 | [],[],_=>⟨by simp,by simp⟩
 | [],_::_,h=>by simp [jy] at h
 | x::xs,ys,h=>by
   unfold jy at h
   split at h
   ·rename_i e
    cases e
   ·rename_i e
    cases e
    obtain⟨i1,i2⟩:=KU h.2
    exact⟨fun p hp=>(List.mem_cons.1 hp).elim (fun e=>⟨_,e⟩) (i1 p),fun p hp=>(List.mem_cons.1 hp).elim (fun e=>⟨_,e⟩) (i2 p)⟩
   ·cases h
theorem zlx {op:BinOp} {t t':TypeId} {x y:Operand} {x' y':PO} (ho:o.op=.binOp op t x y t') (hop:op=.eql\/op=.neq) (ht:(za9 P t).isSome=true) (hx:po x=some x') (hy:po y=some y') (hk:zbz (op == .neq) ((za9 P t).getD 0) (s.ev x') (s.ev y') K):QS P o D ρ s a w K:=by
 have hrx:=hR.op hx (by simp [ho,Op.operands])
 have hry:=hR.op hy (by simp [ho,Op.operands])
 obtain⟨n,hn⟩:=Option.isSome_iff_exists.1 ht
 rw [hn] at hk
 unfold zbz at hk
 split at hk
 ·rename_i xs ys ex ey
  obtain⟨⟨hl,hc⟩,hk⟩:=hk
  rw [ex] at hrx
  rw [ey] at hry
  have get:∀ {u:Value} {ps:List PV},(∀ p ∈ ps,∃ v,p=.v v)->Rel D ρ s.b.length w u (.agg ps)->∃ vs:Array Value,u=.agg vs/\∀ j v,ps[j]? = some (.v v)->vs[0+j]? = some v:=fun hall h=>by
   obtain⟨vs,rfl,hz,_,hd⟩:=h.inv_agg
   refine⟨vs,rfl,fun j v hj=>?_⟩
   have h0:=hd j _ hj
   have hj':j<vs.size:=by rw [hz];exact(List.getElem?_eq_some_iff.1 hj).1
   rw [Array.getD_eq_getD_getElem?,Array.getElem?_eq_getElem hj',Option.getD_some] at h0
   rw [Nat.zero_add,Array.getElem?_eq_getElem hj']
   generalize vs[j]=z at h0
   cases h0
   rfl
  obtain⟨a1,a2⟩:=KU hc
  obtain⟨vs,e1,hv⟩:=get a1 hrx
  obtain⟨us,e2,hu⟩:=get a2 hry
  obtain⟨r1,r2⟩:=zfc (P:=P) (w:=w) hn hl hc hv hu
  refine .det ?_ (.dat (.v _)) hk rfl
  rcases hop with rfl | rfl
  ·simp only [execOp,ho,Sem.run_bind,e1,e2,r2,Result.andThen_ok,Sem.run_pure,binOp,r1]
   cases xQ xs ys<;>rfl
  ·simp only [execOp,ho,Sem.run_bind,e1,e2,r2,Result.andThen_ok,Sem.run_pure,binOp,r1]
   cases xQ xs ys<;>rfl
 ·exact hk.elim
theorem znu {t:TypeId} {e:TypeId} {x:Operand} {x':PO} {c:Call} (ho:o.op=.call c) (hc:c.callee=.builtin .len) (ha:c.args=#[x]) (hat:c.argTypes=#[t]) (h1:P.underlying t=some (.slice e)) (hx:po x=some x')
 (hk:QA (s.ev x') fun es=>K (.v (.int .i64 es.length))):QS P o D ρ s a w K:=by
 obtain⟨es,k,ex,h4⟩:=y8 hk
 have hr:=hR.op hx (by simp [ho,Op.operands,Call.operands,hc,ha])
 rw [ex] at hr
 obtain⟨ad,cap,sz,b,off,f,e1,_⟩:=hr.inv_sl
 refine .det (u:=.int .i64 es.length) ?_ (.dat (.v _)) h4 rfl
 simp [execOp,ho,resolve,hc,ha,hat,invoke,builtin,Builtin.len_,run_underlying h1,e1,goInt]
theorem zno {x:Operand} {x':PO} {i:Nat} (ho:o.op=.extract x i) (hx:po x=some x') (hk:PK.q P s (.ex x' i) K):QS P o D ρ s a w K:=by
 simp only [PK.q] at hk
 have hr:=hR.op hx (by simp [ho,Op.operands])
 split at hk
 ·rename_i cs e
  rw [e] at hr
  obtain⟨vs,e1,hz,hd⟩:=hr.inv_tup
  split at hk
  ·rename_i p hp
   have hi:i<vs.size:=Y7 hz hp
   refine .strip (u:=vs.getD i undef) (p:=p) ?_ (.dat (hd i p hp)) hk
   simp [execOp,ho,e1,Instr.extract,hi]
  ·exact hk.elim
 ·exact hk.elim
theorem znx {x:Operand} {x':PO} (ho:o.op=.nilCheck x) (hx:po x=some x') (hk:PK.q P s (.nc x') K):QS P o D ρ s a w K:=by
 simp only [PK.q] at hk
 have hr:=hR.op hx (by simp [ho,Op.operands])
 split at hk
 ·rename_i i o' e
  rw [e] at hr
  obtain⟨hi,e1⟩:=hr.inv_bx
  exact .det (by simp [execOp,ho,e1]) hr hk rfl
 ·rename_i cs o' e
  rw [e] at hr
  obtain⟨b,off,u,e1,hc,hd⟩:=hr.inv_cp
  exact .det (by simp [execOp,ho,e1]) hr hk rfl
 ·exact hk.elim
theorem znw {t:TypeId} {d:TypeDesc} {x:Operand} {x':PO} (ho:o.op=.makeInterface t x) (h1:P.underlying t=some d) (h2:∀ ms,d≠.interface ms) (hx:po x=some x') (hk:PK.q P s (.mi t x') K):QS P o D ρ s a w K:=by
 simp only [PK.q] at hk
 have hr:=hR.op hx (by simp [ho,Op.operands])
 split at hk
 ·rename_i hd
  refine .det (u:=.iface t (a.eval x)) ?_ (.dat (.ifc _ _ _ (hr.data hd).sh)) hk rfl
  simp only [execOp,ho,Sem.run_bind,Instr.makeInterface,run_underlying h1,Result.andThen_ok]
  cases d<;>first | rfl | exact absurd rfl (h2 _)
 ·exact hk.elim
theorem znv {f:Fn} {fs cs:Array Operand} {fs' cs':List PO} (ho:o.op=.makeFunc f fs cs) (h1:Qu fs.toList=some fs') (h2:Qu cs.toList=some cs') (hk:PK.q P s (.mf f fs' cs') K):QS P o D ρ s a w K:=by
 simp only [PK.q,Bool.and_eq_true,List.all_eq_true,Bool.or_eq_true] at hk
 obtain⟨⟨hd,hd2⟩,hk⟩:=hk
 obtain⟨l1,p1⟩:=kz h1
 obtain⟨l2,p2⟩:=kz h2
 have key:∀ {ys:Array Operand} {ys':List PO},ys'.length=ys.toList.length->(∀(i:Nat) (y:Operand),ys.toList[i]? = some y->∃ y',ys'[i]? = some y'/\po y=some y')->(∀ x ∈ ys',(s.ev x).sh.isD=true\/(s.ev x).sh.isB=true)->(∀ y ∈ ys.toList,y ∈ o.op.operands.toList) ->
  ∀(i:Nat) q,(ys'.map fun x=>(s.ev x).sh)[i]? = some q->Rel1 D ρ s.b.length w ((ys.map a.eval).getD i undef) q:=by
  intro ys ys' hl hp hdd hop i q hq
  simp only [List.getElem?_map,Option.map_eq_some_iff] at hq
  obtain⟨x',hx',rfl⟩:=hq
  have hi:i<ys.toList.length:=by rw [<-hl];exact(List.getElem?_eq_some_iff.1 hx').1
  obtain⟨y',hy',hpo⟩:=hp i _ (List.getElem?_eq_getElem hi)
  rw [hx'] at hy'
  cases hy'
  have hr:Rel D ρ s.b.length w (a.eval ys.toList[i]) (s.ev x').sh:=by
   have:=hR.op hpo (hop _ (List.getElem_mem hi))
   rcases hdd x' (List.mem_of_getElem? hx') with h | h
   ·exact .dat ((this.data (by rwa [PV.sh_isD] at h)).sh)
   ·rcases this with(this | ⟨i,o,e,h1,h2⟩) | ⟨f,va,vb,fs,cs,e,_⟩
    ·exact .dat this.sh
    ·exact .inl (.inr ⟨i,o,by rw [e];rfl,h1,h2⟩)
    ·rw [e] at h;cases h
  have e:(ys.map a.eval).getD i undef=a.eval ys.toList[i]:=by
   have:i<ys.size:=by simpa using hi
   simp [this]
  rw [e]
  rcases hdd x' (List.mem_of_getElem? hx') with h | h
  ·exact .inl (hr.data h)
  ·rcases hr with hr | ⟨f,va,vb,fs,cs,e,_⟩
   ·exact hr
   ·rw [e] at h;cases h
 refine .det (u:=.func f (fs.map a.eval) (cs.map a.eval)) (by simp [execOp,ho,Instr.makeFunc]) (.inr ⟨f,_,_,_,_,rfl,rfl,by simpa using l1.symm,by simpa using l2.symm,?_,?_⟩) hk rfl
 ·exact key l1 p1 hd fun y hy=>by simp only [ho,Op.operands,Array.toList_append,List.mem_append];exact .inl hy
 ·exact key l2 p2 hd2 fun y hy=>by simp only [ho,Op.operands,Array.toList_append,List.mem_append];exact .inr hy
theorem zly {m:Bool} {x y:Operand} {x' y':PO} {c:Call} (ho:o.op=.call c) (hc:c.callee=.builtin (if m then .max else .min)) (ha:c.args=#[x,y]) (hx:po x=some x') (hy:po y=some y') (hk:PK.q P s (.mm m x' y') K):QS P o D ρ s a w K:=by
 simp only [PK.q] at hk
 obtain⟨k,m1,e1,_,h4⟩:=yu hk (hR.op hx (by simp [ho,Op.operands,Call.operands,hc,ha]))
 obtain⟨k',m2,e2,_,rfl,h5⟩:=yu h4 (hR.op hy (by simp [ho,Op.operands,Call.operands,hc,ha]))
 refine .det ?_ (.dat (.v _)) h5 rfl
 cases m
 ·simp [execOp,ho,resolve,hc,ha,invoke,builtin,Builtin.min_,e1,e2,Builtin.min2]
 ·simp [execOp,ho,resolve,hc,ha,invoke,builtin,Builtin.max_,e1,e2,Builtin.max2]
end
end Go.Proofs.YtopfkkogooocgaaGreat
namespace Go.Proofs.YtopfkkogooocgaaGreat
open Go.RowKit
variable {P:Program} {o:Oper} {D:Nat->Nat->Prop} {ρ:Nat->Nat} {nb:Nat} {s:PS} {a:Act} {w:World}
theorem zej {i n sz j:Nat} (h:i<n) (hj:j<sz):i * sz+j<n * sz:=by
 calc i * sz+j<i * sz+sz:=by omega
  _=(i+1) * sz:=by rw [Nat.add_mul];omega
  _<=n * sz:=Nat.mul_le_mul_right _ h
theorem zgu {k:Ow} (hkz:k≠.z) {ad:Option Addr} {b off sz l h cap:Nat} {es:List (List PV)} {f:Nat->Value} (hl:l<=h) (hh:h<=es.length) (hc:es.length<=cap) (hm:cap<=maxLen) (ha:es≠[]->ad=some ⟨b,off,none⟩) (hsz:∀(i:Nat) (e:List PV),es[i]? = some e->e.length=sz)
 (hD:∀ j,j<es.length * sz->D b (off+j)/\w.cell? ⟨b,off+j,none⟩=some (f j)/\(f j).oneCell'=true) (hd:∀(i:Nat) (e:List PV) (j:Nat) (p:PV),es[i]? = some e->e[j]? = some p->Dat D w (f (i * sz+j)) p) :
 Dat D w (.slice (if cap - 0=l then ad else ad.map (·.add (l * sz))) (h - l) (cap - l)) (.sl ((es.take h).drop l) k):=by
 have hlen:((es.take h).drop l).length=h - l:=by simp;omega
 have key:Dat D w (.slice (if cap - 0=l then ad else ad.map (·.add (l * sz))) ((es.take h).drop l).length (cap - l)) (.sl ((es.take h).drop l) k):=by
  have get:∀(i:Nat) e,((es.take h).drop l)[i]? = some e->es[l+i]? = some e/\i<h - l:=fun i e he=>by
   have hi:=(List.getElem?_eq_some_iff.1 he).1
   rw [hlen] at hi
   rw [List.getElem?_drop,List.getElem?_take,if_pos (by omega)] at he
   exact⟨he,hi⟩
  refine .sl _ _ sz _ _ b (off+l * sz) (fun j=>f (l * sz+j)) (by omega) (fun h=>absurd h hkz) (by omega) (fun hne=>?_) (fun i e he=>hsz _ e (get i e he).1) (fun j hj=>?_) (fun i e j p he hp=>?_)
  ·have hlt:l<h:=by
    rcases Nat.lt_or_ge l h with h' | h'
    ·exact h'
    ·exact absurd (List.eq_nil_of_length_eq_zero (by rw [hlen];omega)) hne
   rw [if_neg (by omega),ha (by intro e;subst e;simp at hh;omega)]
   simp [zh]
  ·rw [hlen] at hj
   have:l * sz+j<es.length * sz:=by
    have h1:(l+(h - l)) * sz<=es.length * sz:=Nat.mul_le_mul_right _ (by omega)
    rw [Nat.add_mul] at h1;omega
   rw [Nat.add_assoc];exact hD _ this
  ·have:=hd _ _ _ _ (get i e he).1 hp
   rw [Nat.add_mul,Nat.add_assoc] at this;exact this
 rw [hlen] at key;exact key
section
variable {K:PV->Prop} (hR:Rd D ρ s (zB a) (zA o) w)
include hR
theorem znz {t e:TypeId} {x:Operand} {x':PO} {lo hi:Option Operand} {lo' hi':Option PO} {i:TypeInfo} (ho:o.op=.slice t x lo hi none) (h1:P.underlying t=some (.slice e)) (h3:P.info? e=some i) (hx:po x=some x') (hlo:poo lo=some lo') (hhi:poo hi=some hi')
 (hk:PK.q P s (.sc x' lo' hi' i.size) K):QS P o D ρ s a w K:=by
 simp only [PK.q] at hk
 obtain⟨es,k,ex,h4⟩:=y8 hk
 have hr:=hR.op hx (by simp [ho,Op.operands])
 rw [ex] at hr
 obtain⟨ad,cap,sz,b,off,f,e1,hc,hz,hm,ha,hsz,hD,hd⟩:=hr.inv_sl
 have fin:∀ l h:Nat,(l<=h/\h<=es.length/\(∀ e ∈ es,e.length=i.size)/\K (.sl ((es.take h).drop l) (Xw lo' (s.ev x'))))->(lo'=none->l=0)->(execOp a.eval o).run P w=.ok (.value (.slice (if cap=l then ad else ad.map (·.add (l * i.size))) (h - l) (cap - l))) w->QS P o D ρ s a w K:=by
  rintro l h ⟨hl,hh,hse,hK⟩ hlo0 hrun
  have hkz:Xw lo' (s.ev x')≠.z:=by unfold Xw;split<;>simp
  have hko:(PV.sl ((es.take h).drop l) (Xw lo' (s.ev x'))).own=none:=by unfold Xw;split<;>rfl
  have hNew:∀ x0 n0,zbZ x0 n0 s (zB a) (zA o) w->NewOk x0 n0 w (.slice (if cap=l then ad else ad.map (·.add (l * i.size))) (h - l) (cap - l)) (.sl ((es.take h).drop l) (Xw lo' (s.ev x'))):=fun x0 n0 hN=>by
   have hsh:∀ u:Value,NewOk x0 n0 w u (.sl ((es.take h).drop l) .sh):=fun _=>trivial
   rw [ex]
   cases hlo2:lo' with
   | some y=>exact hsh _
   | none=>
     have h0:=hlo0 hlo2
     subst h0
     cases k with
     | p j=>
       have hxt:∃ t,x=.tmp t/\s.get t=.sl es (.p j):=by
        cases x with
        | tmp t=>cases hx;exact⟨t,rfl,ex⟩
        | const v=>
          cases hx
          have:(ofV v).isN=false:=by unfold ofV;split<;>(try split)<;>rfl
          rw [show ofV v=_ from ex] at this;cases this
        | func f=>cases hx;cases ex
        | global g=>cases hx
       obtain⟨t,rfl,ht⟩:=hxt
       have hN2:=(hN.2 t (QC (by simp [ho,Op.operands]))).1
       rw [ht] at hN2
       obtain⟨ad2,len2,cap2,q1,q2⟩:=hN2
       have q3:zB a t=.slice ad es.length cap:=e1
       rw [q3] at q2
       injection q2 with r1 r2 r3
       subst r1
       subst r3
       refine⟨ad,len2,cap,q1,?_⟩
       have hlen:((es.take h).drop 0).length=h:=by simp;omega
       rw [hlen]
       have e4:(if cap=0 then ad else ad.map (·.add (0 * i.size)))=ad:=by
        split
        ·rfl
        ·cases ad with
         | none=>rfl
         | some ad=>simp [Addr.add]
       rw [e4];rfl
     | _=>exact hsh _
  by_cases hes:es=[]
  ·subst hes
   have h0:h=0:=by simpa using hh
   subst h0
   have l0:l=0:=by omega
   subst l0
   refine⟨_,hK,hko,zby hrun (.dat ?_) hNew⟩
   exact .sl _ _ 1 [] _ 0 0 (fun _=>undef) (Nat.zero_le _) (fun h=>absurd h hkz) (by omega) (fun h=>absurd rfl h) (fun i e h=>by simp at h) (fun j h=>absurd h (by simp)) (fun i e j p h=>by simp at h)
  ·have hsz':sz=i.size:=by
    cases es with
    | nil=>exact absurd rfl hes
    | cons e es=>exact(hsz 0 e rfl).symm.trans (hse e (by simp))
   subst hsz'
   refine⟨_,hK,hko,zby hrun (.dat ?_) hNew⟩
   simpa using zgu hkz hl hh hc hm ha hsz hD hd
 have lows:∀ h:Nat,h<=cap->qBd s lo' 0 (fun l=>l<=h/\h<=es.length/\(∀ e ∈ es,e.length=i.size)/\K (.sl ((es.take h).drop l) (Xw lo' (s.ev x')))) ->
  (∀ l:Nat,l<=h->(match lo.map a.eval with | some v=>Instr.sliceBound v h .sliceB | none=>pure 0:Sem Nat).run P w=.ok l w->(execOp a.eval o).run P w=.ok (.value (.slice (if cap=l then ad else ad.map (·.add (l * i.size))) (h - l) (cap - l))) w)->QS P o D ρ s a w K:=by
  intro h hhc hq hrun
  cases lo with
  | none=>
    cases hlo
    exact fin 0 h hq (fun _=>rfl) (hrun 0 (Nat.zero_le _) (by simp))
  | some y=>
    simp only [poo,Option.map_eq_some_iff] at hlo
    obtain⟨y',hy,rfl⟩:=hlo
    obtain⟨j,n,e2,_,hn,hf⟩:=yu hq (hR.op hy (by simp [ho,Op.operands]))
    have hle:n<=h:=by have:=hf.1;omega
    exact fin n.toNat h hf (fun e=>by cases e) (hrun n.toNat hf.1 (by simp [e2,Instr.sliceBound,asIntOf,hn,hle]))
 have hnot:(match P.underlying t with | some (.array _ _)=>true | _=>false)=false:=by rw [h1]
 cases hi with
 | none=>
   cases hhi
   refine lows es.length hc h4 fun l hl hs=>?_
   simp only [Option.map] at hs
   cases lo with
   | none=>
     have l0:l=0:=by simpa using hs.symm
     subst l0
     simp [execOp,ho,e1,Instr.sliceAt,Instr.slice,run_underlying h1,Instr.sliceBounds,zE h3]
   | some y=>
     simp only at hs
     simp [execOp,ho,e1,Instr.sliceAt,Instr.slice,run_underlying h1,Instr.sliceBounds,zE h3,hs]
 | some z=>
   simp only [poo,Option.map_eq_some_iff] at hhi
   obtain⟨z',hz',rfl⟩:=hhi
   obtain⟨j,n,e2,_,hn,h5⟩:=yu h4 (hR.op hz' (by simp [ho,Op.operands]))
   have hnc:n<=cap:=by
    have:n.toNat<=es.length:=by
     cases lo' with
     | none=>exact h5.2.1
     | some y=>
       simp only [qBd,vR] at h5
       split at h5
       ·exact h5.2.2.1
       ·exact h5.elim
    omega
   refine lows n.toNat (by omega) h5 fun l hl hs=>?_
   simp only [Option.map] at hs
   cases lo with
   | none=>
     have l0:l=0:=by simpa using hs.symm
     subst l0
     simp [execOp,ho,e1,e2,Instr.sliceAt,Instr.slice,run_underlying h1,Instr.sliceBounds,Instr.sliceBound,asIntOf,hn,hnc,zE h3]
   | some y=>
     simp only at hs
     have hh:(Instr.sliceBound (.int j n) cap .sliceAcap).run P w=.ok n.toNat w:=by simp [Instr.sliceBound,asIntOf,hn,hnc]
     simp [execOp,ho,e1,e2,Instr.sliceAt,Instr.slice,run_underlying h1,Instr.sliceBounds,hh,zE h3,hs]
end
def CellsD (D:Nat->Nat->Prop) (w:World) (vs:Array Value) (cs:List PV):Prop:=
 vs.size=cs.length/\∀(i:Nat) p,cs[i]? = some p->Dat D w (vs.getD i undef) p/\(vs.getD i undef).oneCell'=true
theorem CellsR.data {u:Value} {cs:List PV} (h:CellsR D ρ nb w u cs) (hd:zY cs=true):CellsD D w u.cells (cs.map PV.sh):=by
 refine⟨by simpa using h.1,fun i p hp=>?_⟩
 simp only [List.getElem?_map,Option.map_eq_some_iff] at hp
 obtain⟨q,hq,rfl⟩:=hp
 unfold zY at hd
 rw [List.all_eq_true] at hd
 exact⟨((h.2 i q hq).1.data (hd q (List.mem_of_getElem? hq))).sh,(h.2 i q hq).2⟩
theorem x6 (off:Nat):∀(l:List Value) (k:Nat) (cells:Array Value),off+k+l.length<=cells.size ->
 ((l.zipIdx k).foldl (fun(cs:Array Value) (c,j)=>cs.setIfInBounds (off+j) c) cells).size=cells.size /\
 ∀ i,((l.zipIdx k).foldl (fun(cs:Array Value) (c,j)=>cs.setIfInBounds (off+j) c) cells).getD i undef=if off+k<=i/\i<off+k+l.length then l.getD (i - (off+k)) undef else cells.getD i undef
 | [],k,cells,_=>⟨rfl,fun i=>by simp;intro h1 h2;omega⟩
 | v::l,k,cells,h=>by
   simp only [List.zipIdx_cons,List.foldl_cons]
   simp only [List.length_cons] at h
   obtain⟨h1,h2⟩:=x6 off l (k+1) (cells.setIfInBounds (off+k) v) (by simp;omega)
   refine⟨by rw [h1];simp,fun i=>?_⟩
   rw [h2 i]
   by_cases e:i=off+k
   ·subst e
    rw [if_neg (by omega),if_pos (by simp)]
    have:off+k<cells.size:=by omega
    simp [this]
   ·by_cases e2:off+(k+1)<=i/\i<off+(k+1)+l.length
    ·rw [if_pos e2,if_pos (by simp;omega)]
     obtain⟨d,hd⟩:∃ d,i - (off+k)=d+1:=⟨i - (off+k) - 1,by omega⟩
     rw [hd,show i - (off+(k+1))=d from by omega]
     simp
    ·rw [if_neg e2,if_neg (by simp;omega)]
     simp [Array.getElem?_setIfInBounds_ne (Ne.symm e)]
theorem Xy (zs cs:List PV) (off i:Nat) (h:off+cs.length<=zs.length):(XI zs cs off)[i]? = if off<=i/\i<off+cs.length then cs[i - off]? else zs[i]?:=by
 unfold XI
 have ht:(zs.take off).length=off:=by simp;omega
 by_cases h1:i<off
 ·rw [if_neg (by omega),List.append_assoc,List.getElem?_append_left (by omega),List.getElem?_take,if_pos h1]
 ·by_cases h2:i<off+cs.length
  ·rw [if_pos (by omega),List.append_assoc,List.getElem?_append_right (by omega),List.getElem?_append_left (by omega),ht]
  ·rw [if_neg (by omega),List.getElem?_append_right (by simp;omega),List.getElem?_drop]
   congr 1
   simp;omega
theorem QK (zs cs:List PV) (off:Nat) (h:off+cs.length<=zs.length):(XI zs cs off).length=zs.length:=by
 unfold XI;simp;omega
theorem Xz {vs us:Array Value} {zs cs:List PV} {off:Nat} (hz:CellsD D w vs zs) (hu:CellsD D w us cs) (h:off+cs.length<=zs.length) :
 CellsD D w (us.zipIdx.foldl (fun(cs:Array Value) (c,j)=>cs.setIfInBounds (off+j) c) vs) (XI zs cs off):=by
 obtain⟨h1,h2⟩:=x6 off us.toList 0 vs (by simp [hz.1,hu.1];omega)
 have e:us.zipIdx.foldl (fun(cs:Array Value) (c,j)=>cs.setIfInBounds (off+j) c) vs=(us.toList.zipIdx 0).foldl (fun(cs:Array Value) (c,j)=>cs.setIfInBounds (off+j) c) vs:=by
  rw [<-Array.foldl_toList,Array.toList_zipIdx]
 rw [e]
 refine⟨by rw [h1,QK _ _ _ h];exact hz.1,fun i p hp=>?_⟩
 rw [Xy _ _ _ _ h] at hp
 rw [h2 i]
 have hl:us.toList.length=cs.length:=by simpa using hu.1
 simp only [Nat.add_zero]
 by_cases hi:off<=i/\i<off+cs.length
 ·rw [if_pos hi] at hp
  rw [if_pos (by omega)]
  have:=hu.2 _ _ hp
  have e2:us.toList.getD (i - off) undef=us.getD (i - off) undef:=by simp
  rw [e2];exact this
 ·rw [if_neg hi] at hp
  rw [if_neg (by omega)]
  exact hz.2 _ _ hp
theorem Z4 (place:Nat->Option (Nat × Nat)) {K:List PV->Prop}:∀(parts:List (Nat × Operand)) (ps:List (Nat × Nat × PO)) (vs:Array Value) (zs:List PV),ps.length=parts.length ->
 (∀(k:Nat) i x,parts[k]? = some (i,x)->∃ off n x',ps[k]? = some (off,n,x')/\place i=some (off,n)/\Rel D ρ nb w (a.eval x) (s.ev x')) ->
 CellsD D w vs zs->vS s ps zs K->∃ vs' cs,Instr.fill place vs (parts.map fun(i,x)=>(i,a.eval x))=some vs'/\CellsD D w vs' cs/\K cs
 | [],[],vs,zs,_,_,hz,hq=>⟨vs,zs,rfl,hz,hq⟩
 | [],_::_,_,_,h,_,_,_=>by cases h
 | _::_,[],_,_,h,_,_,_=>by cases h
 | (i,x)::parts,(off,n,x')::ps,vs,zs,hl,hp,hz,hq=>by
   obtain⟨off',n',x'',e1,e2,e3⟩:=hp 0 i x rfl
   simp at e1
   obtain⟨rfl,rfl,rfl⟩:=e1
   simp only [vS] at hq
   obtain⟨cs,⟨h1,h2,h3,h4⟩,h5⟩:=xY hq e3
   have h6:=h5.data h3
   obtain⟨vs',cs',g1,g2,g3⟩:=Z4 place parts ps _ _ (by simpa using hl) (fun k i x hk=>by simpa using hp (k+1) i x (by simpa using hk)) (Xz (off:=off) hz h6 (by simp;omega)) h4
   refine⟨vs',cs',?_,g2,g3⟩
   simp only [List.map_cons,Instr.fill,e2]
   rw [if_neg]
   ·exact g1
   ·have:=h5.1
    have:=hz.1
    simp;omega
theorem qJ {t:TypeId} {zs:List PV} (h:xg P t=some zs):∃ i z,P.info? t=some i/\i.zero=some z/\zs=z.cells.toList.map Q6/\(∀ v ∈ z.cells.toList,v.oneCell'=true):=by
 unfold xg at h
 simp only [Option.bind_eq_some_iff] at h
 obtain⟨i,hi,z,hz,h⟩:=h
 split at h
 ·rename_i hall
  cases h
  rw [List.all_eq_true] at hall
  exact⟨i,z,hi,hz,rfl,hall⟩
 ·cases h
theorem yT {z:Value} (h:∀ v ∈ z.cells.toList,v.oneCell'=true):CellsD D w z.cells (z.cells.toList.map Q6):=by
 refine⟨by simp,fun i p hp=>?_⟩
 simp only [List.getElem?_map,Option.map_eq_some_iff] at hp
 obtain⟨v,hv,rfl⟩:=hp
 have hm:v ∈ z.cells.toList:=List.mem_of_getElem? hv
 have e:z.cells.getD i undef=v:=by simp at hv;simp [hv]
 rw [e]
 exact⟨zai D w v,h v hm⟩
theorem CellsD.agg {vs:Array Value} {cs:List PV} (h:CellsD D w vs cs):Dat D w (.agg vs) (.agg cs):=
 .agg _ _ h.1 (fun i hi=>(h.2 i _ (List.getElem?_eq_getElem hi)).2) fun i p hp=>(h.2 i p hp).1
theorem Zz {fs:Array Field}:∀ {l:List (Nat × Operand)} {ps:List (Nat × Nat × PO)},Qq P fs l=some ps->ps.length=l.length/\∀(k:Nat) i x,l[k]? = some (i,x)->∃ f n x',fs[i]? = some f/\P.info? f.type=some n/\ps[k]? = some (f.offset,n.size,x')/\po x=some x'
 | [],ps,h=>by cases h;exact⟨rfl,fun k i x h=>by simp at h⟩
 | (i,x)::r,ps,h=>by
   simp only [Qq,Option.bind_eq_some_iff,Option.map_eq_some_iff] at h
   obtain⟨f,hf,n,hn,y,hy,l,hl,rfl⟩:=h
   obtain⟨h1,h2⟩:=Zz hl
   refine⟨by simp [h1],fun k j z hz=>?_⟩
   cases k with
   | zero=>simp at hz;obtain⟨rfl,rfl⟩:=hz;exact⟨f,n,y,hf,hn,rfl,hy⟩
   | succ k=>simpa using h2 k j z (by simpa using hz)
theorem Zy {sz:Nat}:∀ {l:List (Nat × Operand)} {ps:List (Nat × Nat × PO)},Qp sz l=some ps->ps.length=l.length/\∀(k:Nat) i x,l[k]? = some (i,x)->∃ x',ps[k]? = some (i * sz,sz,x')/\po x=some x'
 | [],ps,h=>by cases h;exact⟨rfl,fun k i x h=>by simp at h⟩
 | (i,x)::r,ps,h=>by
   simp only [Qp,Option.bind_eq_some_iff,Option.map_eq_some_iff] at h
   obtain⟨y,hy,l,hl,rfl⟩:=h
   obtain⟨h1,h2⟩:=Zy hl
   refine⟨by simp [h1],fun k j z hz=>?_⟩
   cases k with
   | zero=>simp at hz;obtain⟨rfl,rfl⟩:=hz;exact⟨y,rfl,hy⟩
   | succ k=>simpa using h2 k j z (by simpa using hz)
section
variable {K:PV->Prop} (hR:Rd D ρ s (zB a) (zA o) w)
include hR
theorem zlt {t:TypeId} {parts:Array (Nat × Operand)} {fs:Array Field} {zs:List PV} {ps:List (Nat × Nat × PO)} (ho:o.op=.build t parts) (h1:P.underlying t=some (.struct fs)) (hz:xg P t=some zs) (hall:∀ f ∈ fs.toList,(P.info? f.type).isSome=true)
 (hp:Qq P fs parts.toList=some ps) (hk:PK.q P s (.bd zs ps) K):QS P o D ρ s a w K:=by
 simp only [PK.q] at hk
 obtain⟨i,z,g1,g2,rfl,g4⟩:=qJ hz
 obtain⟨l1,l2⟩:=Zz hp
 obtain⟨places,hpl,hget⟩:∃ places,fs.toList.mapM (fun f=>(P.info? f.type).map fun i=>(f.offset,i.size))=some places/\∀(i:Nat) f n,fs.toList[i]? = some f->P.info? f.type=some n->places[i]? = some (f.offset,n.size):=by
  revert hall
  induction fs.toList with
  | nil=>intro _;exact⟨[],rfl,fun i f n h=>by simp at h⟩
  | cons f l ih=>
    intro hall
    obtain⟨pl,e1,e2⟩:=ih fun f hf=>hall f (by simp [hf])
    have:=hall f (by simp)
    obtain⟨n,hn⟩:=Option.isSome_iff_exists.1 this
    refine⟨(f.offset,n.size)::pl,by simp [List.mapM_cons,hn,e1],fun i f' n' hf hn'=>?_⟩
    cases i with
    | zero=>simp at hf;subst hf;rw [hn] at hn';cases hn';rfl
    | succ i=>simpa using e2 i f' n' (by simpa using hf) hn'
 obtain⟨vs',cs,f1,f2,f3⟩:=Z4 (D:=D) (ρ:=ρ) (nb:=s.b.length) (w:=w) (a:=a) (s:=s) (places.toArray[·]?) parts.toList ps z.cells _ l1 (fun k i x hkk=>by
  obtain⟨f,n,x',e1,e2,e3,e4⟩:=l2 k i x hkk
  refine⟨f.offset,n.size,x',e3,by simpa using hget i f n (by simpa using e1) e2,hR.op e4 ?_⟩
  simp only [ho,Op.operands,List.mem_map]
  exact⟨(i,x),List.mem_of_getElem? hkk,rfl⟩) (yT g4) hk
 refine .det (u:=.agg vs') ?_ (.dat f2.agg) f3 rfl
 have hb:P.built t (parts.map fun(i,x)=>(i,a.eval x)).toList=some vs':=by
  unfold Program.built
  simp only [g1,h1,g2,hpl]
  rw [Array.toList_map]
  exact f1
 simp only [execOp,ho,Sem.run_bind,run_build w t _ vs' hb,Result.andThen_ok]
 rfl
theorem zls {t e:TypeId} {n:Nat} {parts:Array (Nat × Operand)} {ie:TypeInfo} {zs:List PV} {ps:List (Nat × Nat × PO)} (ho:o.op=.build t parts) (h1:P.underlying t=some (.array n e)) (h3:P.info? e=some ie) (hz:xg P t=some zs)
 (hp:Qp ie.size parts.toList=some ps) (hk:PK.q P s (.bd zs ps) K):QS P o D ρ s a w K:=by
 simp only [PK.q] at hk
 obtain⟨i,z,g1,g2,rfl,g4⟩:=qJ hz
 obtain⟨l1,l2⟩:=Zy hp
 obtain⟨vs',cs,f1,f2,f3⟩:=Z4 (D:=D) (ρ:=ρ) (nb:=s.b.length) (w:=w) (a:=a) (s:=s) (fun i=>some (i * ie.size,ie.size)) parts.toList ps z.cells _ l1 (fun k i x hkk=>by
  obtain⟨x',e3,e4⟩:=l2 k i x hkk
  refine⟨_,_,x',e3,rfl,hR.op e4 ?_⟩
  simp only [ho,Op.operands,List.mem_map]
  exact⟨(i,x),List.mem_of_getElem? hkk,rfl⟩) (yT g4) hk
 refine .det (u:=.agg vs') ?_ (.dat f2.agg) f3 rfl
 have hb:P.built t (parts.map fun(i,x)=>(i,a.eval x)).toList=some vs':=by
  unfold Program.built
  simp only [g1,h1,g2,h3]
  rw [Array.toList_map]
  exact f1
 simp only [execOp,ho,Sem.run_bind,run_build w t _ vs' hb,Result.andThen_ok]
 rfl
end
def RowD (D:Nat->Nat->Prop) (w:World) (sz:Nat) (vs:List Value) (es:List (List PV)):Prop:=
 vs.length=es.length * sz/\(∀(i:Nat) (e:List PV),es[i]? = some e->e.length=sz)/\(∀ j,j<vs.length->(vs.getD j undef).oneCell'=true)/\∀(i:Nat) (e:List PV) (j:Nat) (p:PV),es[i]? = some e->e[j]? = some p->Dat D w (vs.getD (i * sz+j) undef) p
theorem RowD.mono {D':Nat->Nat->Prop} {w':World} {sz:Nat} {vs:List Value} {es:List (List PV)} (h:RowD D w sz vs es) (hD:∀ b o,D b o->D' b o) (hw:∀ b o x,D b o->w.cell? ⟨b,o,none⟩=some x->w'.cell? ⟨b,o,none⟩=some x):RowD D' w' sz vs es:=
 ⟨h.1,h.2.1,h.2.2.1,fun i e j p h1 h2=>(h.2.2.2 i e j p h1 h2).mono hD hw⟩
theorem RowD.append {sz:Nat} {vs us:List Value} {es fs:List (List PV)} (h:RowD D w sz vs es) (k:RowD D w sz us fs):RowD D w sz (vs++us) (es++fs):=by
 have hl:es.length * sz=vs.length:=h.1.symm
 refine⟨by simp [h.1,k.1,Nat.add_mul],fun i e he=>?_,fun j hj=>?_,fun i e j p he hp=>?_⟩
 ·rcases Nat.lt_or_ge i es.length with hi | hi
  ·rw [List.getElem?_append_left hi] at he;exact h.2.1 i e he
  ·rw [List.getElem?_append_right hi] at he;exact k.2.1 _ e he
 ·rw [List.getD_eq_getElem?_getD]
  rcases Nat.lt_or_ge j vs.length with hi | hi
  ·rw [List.getElem?_append_left hi,<-List.getD_eq_getElem?_getD];exact h.2.2.1 j hi
  ·rw [List.getElem?_append_right hi,<-List.getD_eq_getElem?_getD];exact k.2.2.1 _ (by simp at hj;omega)
 ·rw [List.getD_eq_getElem?_getD]
  rcases Nat.lt_or_ge i es.length with hi | hi
  ·rw [List.getElem?_append_left hi] at he
   have hlen:=h.2.1 i e he
   have hj:j<sz:=by rw [<-hlen];exact(List.getElem?_eq_some_iff.1 hp).1
   rw [List.getElem?_append_left (by rw [<-hl];exact zej hi hj),<-List.getD_eq_getElem?_getD]
   exact h.2.2.2 i e j p he hp
  ·rw [List.getElem?_append_right hi] at he
   have h2:vs.length<=i * sz+j:=by rw [<-hl];exact Nat.le_trans (Nat.mul_le_mul_right _ hi) (by omega)
   rw [List.getElem?_append_right h2,<-List.getD_eq_getElem?_getD]
   have:=k.2.2.2 _ e j p he hp
   rw [Nat.sub_mul] at this
   rw [show i * sz+j - vs.length=i * sz - es.length * sz+j from by rw [hl];have:=Nat.mul_le_mul_right sz hi;omega]
   exact this
theorem jr {sz b cap:Nat} {vs:List Value} {es:List (List PV)} {cs:Array Value} {e:TypeId} {fr:Nat × Nat} {k:Ow} (h:RowD D w sz vs es) (hh:w.heap[b]? = some (.cells cs e fr)) (ht:∀ j,j<vs.length->cs[j]? = some (vs.getD j undef))
 (hc:es.length<=cap) (hm:cap<=maxLen) (hk:k=.z->cap=es.length) (hD:∀ j,j<vs.length->D b j):Dat D w (.slice (some ⟨b,0,none⟩) es.length cap) (.sl es k):=
 .sl _ _ sz _ _ b 0 (fun j=>vs.getD j undef) hc hk hm (fun _=>rfl) h.2.1 (fun j hj=>by
  rw [<-h.1] at hj
  refine⟨by simpa using hD j hj,?_,h.2.2.1 j hj⟩
  simp only [World.cell?,hh,Nat.zero_add]
  simpa using ht j hj) h.2.2.2
theorem Yl {sz:Nat} {K:List (List PV)->Prop}:∀(l:List Operand) (ps:List PO),Qu l=some ps->(∀ x ∈ l,∀ x',po x=some x'->Rel D ρ nb w (a.eval x) (s.ev x'))->yP s sz ps K ->
 ∃ es,K es/\es.length=l.length/\RowD D w sz (l.flatMap fun x=>(a.eval x).cells.toList) es/\∀ x ∈ l,(a.eval x).cells.size=sz
 | [],ps,h,_,hq=>by cases h;exact⟨[],hq,rfl,⟨by simp,fun i e h=>by simp at h,fun j h=>by simp at h,fun i e j p h=>by simp at h⟩,by simp⟩
 | x::l,ps,h,hr,hq=>by
   simp only [Qu,Option.bind_eq_some_iff,Option.map_eq_some_iff] at h
   obtain⟨x',hx,ps',hps,rfl⟩:=h
   simp only [yP] at hq
   obtain⟨cs,⟨h1,h2,h3⟩,h4⟩:=xY hq (hr x (by simp) x' hx)
   obtain⟨es,g1,g2,g3,g4⟩:=Yl l ps' hps (fun y hy=>hr y (by simp [hy])) h3
   have h5:=h4.data h2
   have hsz:(a.eval x).cells.size=sz:=by rw [h4.1];exact h1
   refine⟨_,g1,by simp [g2],?_,fun y hy=>?_⟩
   ·have one:RowD D w sz (a.eval x).cells.toList [cs.map PV.sh]:=by
     refine⟨by simpa using hsz,fun i e he=>?_,fun j hj=>?_,fun i e j p he hp=>?_⟩
     ·have:i=0:=by have:=(List.getElem?_eq_some_iff.1 he).1;simpa using this
      subst this;simp at he;subst he;simpa using h1
     ·have hj':j<cs.length:=by rw [h1,<-hsz];simpa using hj
      have:=(h4.2 j _ (List.getElem?_eq_getElem hj')).2
      simpa using this
     ·have:i=0:=by have:=(List.getElem?_eq_some_iff.1 he).1;simpa using this
      subst this;simp at he;subst he
      have:=(h5.2 j p hp).1
      simpa using this
    have:=one.append g3
    simpa using this
   ·rcases List.mem_cons.1 hy with rfl | hy
    ·exact hsz
    ·exact g4 y hy
theorem X5 {sz:Nat}:∀(l:List Value) (k:Nat) (done:List Value) (cells:Array Value),(∀ v ∈ l,v.cells.size=sz)->done.length=k * sz->cells.size=(k+l.length) * sz->(∀ j,j<done.length->cells[j]? = some (done.getD j undef)) ->
 ∃ cells',Instr.fill (fun i=>some (i * sz,sz)) cells (l.zipIdx k |>.map fun(v,i)=>(i,v))=some cells'/\cells'.toList=done++l.flatMap fun v=>v.cells.toList
 | [],k,done,cells,_,h2,h3,h4=>by
   refine⟨cells,rfl,?_⟩
   simp only [List.flatMap_nil,List.append_nil]
   apply List.ext_getElem?
   intro j
   rcases Nat.lt_or_ge j done.length with hj | hj
   ·have:=h4 j hj
    rw [List.getElem?_eq_getElem hj]
    simpa [List.getD_eq_getElem?_getD,List.getElem?_eq_getElem hj] using this
   ·rw [List.getElem?_eq_none hj,List.getElem?_eq_none (by simp [h3];simp at h3;omega)]
 | v::l,k,done,cells,h1,h2,h3,h4=>by
   have hv:=h1 v (by simp)
   simp only [List.length_cons] at h3
   have hle:k * sz+sz<=cells.size:=by
    rw [h3,<-Nat.succ_mul];exact Nat.mul_le_mul_right _ (by omega)
   obtain⟨f1,f2⟩:=x6 (k * sz) v.cells.toList 0 cells (by simp [hv];omega)
   have e:v.cells.zipIdx.foldl (fun(cs:Array Value) (c,j)=>cs.setIfInBounds (k * sz+j) c) cells=(v.cells.toList.zipIdx 0).foldl (fun(cs:Array Value) (c,j)=>cs.setIfInBounds (k * sz+j) c) cells:=by
    rw [<-Array.foldl_toList,Array.toList_zipIdx]
   rw [<-e] at f1 f2
   obtain⟨cells2,hc2⟩:∃ c,v.cells.zipIdx.foldl (fun(cs:Array Value) (c,j)=>cs.setIfInBounds (k * sz+j) c) cells=c:=⟨_,rfl⟩
   rw [hc2] at f1 f2
   obtain⟨cells',g1,g2⟩:=X5 l (k+1) (done++v.cells.toList) cells2 (fun u hu=>h1 u (by simp [hu])) (by simp [h2,hv,Nat.add_mul]) (by rw [f1,h3];congr 1;omega) (fun j hj=>by
    have hj2:j<cells2.size:=by rw [f1];simp [h2,hv] at hj;omega
    have hg:=f2 j
    rw [Array.getD_eq_getD_getElem?,Array.getElem?_eq_getElem hj2,Option.getD_some] at hg
    rw [Array.getElem?_eq_getElem hj2,hg]
    congr 1
    simp only [Nat.add_zero]
    rw [List.getD_eq_getElem?_getD (l:=done++_)]
    rcases Nat.lt_or_ge j done.length with hd | hd
    ·rw [if_neg (by omega),List.getElem?_append_left hd,<-List.getD_eq_getElem?_getD,Array.getD_eq_getD_getElem?,h4 j hd];rfl
    ·rw [if_pos (by simp [hv];simp [hv] at hj;omega),List.getElem?_append_right hd,List.getD_eq_getElem?_getD,h2])
   refine⟨cells',?_,by rw [g2];simp⟩
   simp only [List.zipIdx_cons,List.map_cons,Instr.fill]
   rw [if_neg (by simp [hv];omega),hc2]
   exact g1
section
variable {K:PV->Prop} (hR:Rd D ρ s (zB a) (zA o) w)
include hR
theorem KF {t e:TypeId} {n:Nat} {parts:Array (Nat × Operand)} {ie:TypeInfo} {zs:List PV} {ps:List PO} (ho:o.op=.buildSlice t n parts) (h1:P.underlying t=some (.slice e)) (h3:P.info? e=some ie) (hz:xg P e=some zs)
 (hp:Qu (parts.toList.map (·.2))=some ps) (hi:parts.toList.map (·.1)=List.range n) (hn:n * ie.size<=16777216) (hmx:n<=maxLen) {K':List (List PV)->Prop} (hk:yP s ie.size ps K') :
 ∃(es:List (List PV)) (cells':Array Value),K' es/\es.length=n/\(execOp a.eval o).run P w=.ok (.value (.slice (some ⟨w.heap.size,0,none⟩) n n)) (w.alloc (.cells cells' e))/\RowD D w ie.size cells'.toList es/\∀ j,j<cells'.toList.length->cells'[j]? = some (cells'.toList.getD j undef):=by
 obtain⟨i,z,g1,g2,rfl,g4⟩:=qJ hz
 rw [h3] at g1;cases g1
 have hlen:parts.toList.length=n:=by have:=congrArg List.length hi;simpa using this
 obtain⟨es,k1,k2,k3,k4⟩:=Yl (D:=D) (ρ:=ρ) (nb:=s.b.length) (w:=w) (a:=a) (s:=s) _ _ hp (fun x hx x' hx'=>hR.op hx' (by simpa [ho,Op.operands] using hx)) hk
 have hpl:parts.toList.map (fun(i,x)=>(i,a.eval x))=((parts.toList.map fun y=>a.eval y.2).zipIdx 0).map fun(v,i)=>(i,v):=by
  apply List.ext_getElem?
  intro j
  rcases Nat.lt_or_ge j parts.toList.length with hj | hj
  ·have h5:(parts.toList.map (·.1))[j]? = (List.range n)[j]?:=by rw [hi]
   rw [List.getElem?_map,List.getElem?_eq_getElem hj,List.getElem?_range (by omega)] at h5
   simp at h5
   simp [List.getElem?_eq_getElem hj,List.getElem?_zipIdx]
   have hj':j<parts.size:=by simpa using hj
   simp [hj',h5]
  ·rw [List.getElem?_eq_none (by simpa using hj),List.getElem?_eq_none (by simpa using hj)]
 have hel:es.length=n:=by rw [k2];simpa using hlen
 have hfill:∀ c0:Array Value,c0.size=n * ie.size->∃ cells',Instr.fill (fun i=>some (i * ie.size,ie.size)) c0 (parts.toList.map fun(i,x)=>(i,a.eval x))=some cells'/\cells'.toList=(parts.toList.map fun y=>a.eval y.2).flatMap fun v=>v.cells.toList:=fun c0 hc0=>by
  obtain⟨c',e1,e2⟩:=X5 (sz:=ie.size) (parts.toList.map fun y=>a.eval y.2) 0 [] c0 (fun v hv=>by
   simp only [List.mem_map] at hv
   obtain⟨y,hy,rfl⟩:=hv
   exact k4 _ (List.mem_map.2 ⟨y,hy,rfl⟩)) (by simp) (by rw [hc0];simp only [List.length_map,hlen,Nat.zero_add]) (fun j hj=>by simp at hj)
  rw [<-hpl] at e1
  exact⟨c',e1,by simpa using e2⟩
 have fin:∀ cells':Array Value,cells'.toList=((parts.toList.map fun y=>a.eval y.2).flatMap fun v=>v.cells.toList)->(execOp a.eval o).run P w=.ok (.value (.slice (some ⟨w.heap.size,0,none⟩) n n)) (w.alloc (.cells cells' e)) ->
  ∃(es:List (List PV)) (cells':Array Value),K' es/\es.length=n/\(execOp a.eval o).run P w=.ok (.value (.slice (some ⟨w.heap.size,0,none⟩) n n)) (w.alloc (.cells cells' e))/\RowD D w ie.size cells'.toList es/\∀ j,j<cells'.toList.length->cells'[j]? = some (cells'.toList.getD j undef):=by
  intro cells' f2 hr
  have hfl:(List.map (fun x=>x.snd) parts.toList).flatMap (fun x=>(a.eval x).cells.toList)=cells'.toList:=by rw [f2];simp [List.flatMap_map]
  rw [hfl] at k3
  have hget:∀ j,j<cells'.toList.length->cells'[j]? = some (cells'.toList.getD j undef):=fun j hj=>by
   have hj':j<cells'.size:=by simpa using hj
   simp [hj']
  exact⟨es,cells',k1,hel,hr,k3,hget⟩
 by_cases h0:n * ie.size=0
 ·obtain⟨cells',f1,f2⟩:=hfill ((Array.range (n * ie.size)).map fun x=>(#[]:Array Value)[x % (#[]:Array Value).size]!) (by simp)
  refine fin cells' f2 ?_
  have hn':¬(16777216<n * ie.size):=by omega
  rw [<-Array.toList_map] at f1
  simp [execOp,ho,Instr.buildSlice,run_underlying h1,zE h3,hn',h0,newRow] at f1 ⊢
  simp [f1]
 ·obtain⟨cells',f1,f2⟩:=hfill ((Array.range (n * ie.size)).map fun x=>z.cells[x % z.cells.size]!) (by simp)
  refine fin cells' f2 ?_
  have hn':¬(16777216<n * ie.size):=by omega
  rw [<-Array.toList_map] at f1
  have hzv:(zeroValue e).run P w=.ok z w:=by simp [zeroValue,typeInfo,h3,g2]
  have h0':¬(n=0\/ie.size=0):=by rw [<-Nat.mul_eq_zero];exact h0
  simp [execOp,ho,Instr.buildSlice,run_underlying h1,zE h3,hn',h0',hzv,newRow] at f1 ⊢
  simp [f1]
  exact fun h=>absurd h h0
theorem znk {t e:TypeId} {n:Nat} {parts:Array (Nat × Operand)} {ie:TypeInfo} {zs:List PV} {ps:List PO} (ho:o.op=.buildSlice t n parts) (h1:P.underlying t=some (.slice e)) (h3:P.info? e=some ie) (hz:xg P e=some zs)
 (hp:Qu (parts.toList.map (·.2))=some ps) (hi:parts.toList.map (·.1)=List.range n) (hn:n * ie.size<=16777216) (hmx:n<=maxLen) (hk:PK.q P s (.bs ie.size ps) K):QS P o D ρ s a w K:=by
 simp only [PK.q] at hk
 obtain⟨es,cells',k1,hel,hr,k3,hget⟩:=KF hR ho h1 h3 hz hp hi hn hmx hk
 have hb:Below w.heap.size w (w.alloc (.cells cells' e)):=(Below.refl _ _).alloc (Nat.le_refl _) _
 have k5:=k3.mono (D':=fun b o=>D b o\/w.heap.size<=b) (w':=w.alloc (.cells cells' e)) (fun _ _ h=>.inl h) fun b o x _ hx=>qa hb (qF hx) hx
 refine⟨_,k1,rfl,zlD hr hb (.dat ?_) fun _ _ _=>trivial⟩
 have:=jr (cap:=n) (k:=.z) (e:=e) (fr:=(0,0)) k5 (World.alloc_heap_new w (.cells cells' e)) hget (by omega) hmx (fun _=>by omega) (fun j _=>.inr (Nat.le_refl _))
 rw [hel] at this;exact this
end
section
variable {K:PV->Prop} (hR:Rd D ρ s (zB a) (zA o) w)
include hR
theorem kf {xs:List Operand} {ps:List PO} (hp:Qu xs=some ps) (hm:∀ x ∈ xs,x ∈ o.op.operands.toList) (hd:zY (ps.map fun x=>(s.ev x).sh)=true) :
 ps.length=xs.length/\∀(i:Nat) p,(ps.map fun x=>(s.ev x).sh)[i]? = some p->Dat D w ((xs.map a.eval).getD i undef) p:=by
 obtain⟨h1,h2⟩:=kz hp
 refine⟨h1,fun i p hp=>?_⟩
 have hp0:=hp
 simp only [List.getElem?_map,Option.map_eq_some_iff] at hp
 obtain⟨x',hx',rfl⟩:=hp
 have hi:i<xs.length:=by rw [<-h1];exact(List.getElem?_eq_some_iff.1 hx').1
 obtain⟨y',hy',hpo⟩:=h2 i _ (List.getElem?_eq_getElem hi)
 rw [hx'] at hy'
 cases hy'
 have e:(xs.map a.eval).getD i undef=a.eval xs[i]:=by simp [hi]
 rw [e]
 unfold zY at hd
 rw [List.all_eq_true] at hd
 exact((hR.op hpo (hm _ (List.getElem_mem hi))).data (by have:=hd _ (List.mem_of_getElem? hp0);rwa [PV.sh_isD] at this)).sh
omit hR in
theorem KG {f:FuncId} {ps:List PV} {r:PV} {vs:Array Value} (hgl:GL D w) (hC:Cn P f ps r) (hsz:vs.size=ps.length) (hd:∀(i:Nat) p,ps[i]? = some p->Dat D w (vs.getD i undef) p) (hr:(execOp a.eval o).run P w=.ok (.enter f vs) w) :
 ∀(next:Act->World->Prop) (Q:Exit->Act->World->Prop),(∀ u w' D',Below w.heap.size w w'->(∀ b o,D b o/\b<w.heap.size->D' b o)->(∀ b o,D' b o->(D b o/\b<w.heap.size)\/w.heap.size<=b)->(∀ b o,D' b o->b<w'.heap.size)->Dat D' w' u r->yW D' (fun k=>w.heap.size<=k) w' u r->next (a.put o.dst u) w')->o.wp P a w next Q:=by
 intro next Q hn
 show o.upon P a next Q ((execOp a.eval o).run P w)
 rw [hr,Oper.upon_enter]
 have hd':∀(i:Nat) p,ps[i]? = some p->Dat (fun b o=>D b o/\b<w.heap.size) w (vs.getD i undef) p:=fun i p hp=>(hd i p hp).restrict
 refine(hC.2 _ w vs (fun x hx=>⟨⟨(hgl x hx).1,World.block_lt_of_cell? w ⟨0,0,_⟩ (hgl x hx).2⟩,(hgl x hx).2⟩) (fun b o h=>h.2) hsz hd').mono ?_
 rintro e w' ⟨v,D',rfl,hb,h1,h2,h3,h4,h5⟩
 exact hn v w' D' hb h1 h2 h3 h4 h5
omit hR in
theorem zcb {f:FuncId} {ps:List PV} {r:PV} {vs:Array Value} (hgl:GL D w) (hC:Cn P f ps r) (hsz:vs.size=ps.length) (hd:∀(i:Nat) p,ps[i]? = some p->Dat D w (vs.getD i undef) p) (hr:(execOp a.eval o).run P w=.ok (.enter f vs) w) (hk:K r.strip):QS P o D ρ s a w K:=by
 refine⟨r.strip,hk,r.strip_own,fun next Q hn=>KG hgl hC hsz hd hr next Q fun u w' D' hb h1 h2 h3 h4 h5=>hn u w' hb ?_ fun _ _ _=>xA r.strip_isN⟩
 refine(Rel.dat h4.strip).mono (fun b o h=>?_) (fun _ _ _ _ h=>h) (Nat.le_refl _) fun _ _=>rfl
 rcases h2 b o h with h' | h'
 ·exact .inl h'.1
 ·exact .inr h'
omit hR in
theorem Jk {f:FuncId} {xs:List Operand} {c:Call} (ho:o.op=.call c) (hc:c.callee=.value (.func f)) (ha:c.args.toList=xs) (he:∀ args w,(callFunc f args).run P w=.ok (.enter f args) w) :
 (execOp a.eval o).run P w=.ok (.enter f (xs.map a.eval).toArray) w:=by
 have e:c.args.map a.eval=(xs.map a.eval).toArray:=Array.toList_inj.1 (by rw [Array.toList_map,ha])
 have e2:a.eval (.func f)=.func (.func f) #[] #[]:=rfl
 simp only [execOp,ho,resolve,hc,e,e2,Deferred.ofValue,Sem.run_bind,Sem.run_pure,Result.andThen_ok,invoke]
 rw [show (#[]++(xs.map a.eval).toArray++#[]:Array Value)=(xs.map a.eval).toArray from by simp]
 exact he _ _
theorem znl {f:FuncId} {xs:List Operand} {ps:List PO} {c:Call} (ho:o.op=.call c) (hc:c.callee=.value (.func f)) (ha:c.args.toList=xs) (hp:Qu xs=some ps) (hk:PK.q P s (.ca f ps) K):QS P o D ρ s a w K:=by
 simp only [PK.q] at hk
 obtain⟨r,hC,hd,hk⟩:=hk
 obtain⟨h1,h2⟩:=kf hR hp (fun x hx=>by rw [ho];simp only [Op.operands,Call.operands,hc,Array.toList_append,List.mem_append,ha];exact .inr hx) hd
 refine zcb hR.gl hC (by simp [h1]) (fun i p hp=>?_) (Jk ho hc ha hC.1) hk
 have:=h2 i p hp
 simpa using this
theorem znm {t:Tmp} {xs:List Operand} {ps:List PO} {c:Call} (ho:o.op=.call c) (hc:c.callee=.value (.tmp t)) (ha:c.args.toList=xs) (hp:Qu xs=some ps) (hk:PK.q P s (.cl (.t t) ps) K):QS P o D ρ s a w K:=by
 simp only [PK.q] at hk
 have hf:=hR.op (y:=.tmp t) (y':=.t t) rfl (by rw [ho];simp [Op.operands,Call.operands,hc])
 split at hk
 ·rename_i f fs cs e
  rw [e] at hf
  obtain⟨r,hC,hd,hk⟩:=hk
  have hdl:fs.all PV.isD=true/\zY (ps.map fun x=>(s.ev x).sh)=true/\cs.all PV.isD=true:=by
   unfold zY at hd ⊢
   simp only [List.all_append,Bool.and_eq_true] at hd
   exact⟨hd.1.1,hd.1.2,hd.2⟩
  obtain⟨h1,h2⟩:=kf hR hp (fun x hx=>by rw [ho];simp only [Op.operands,Call.operands,hc,Array.toList_append,List.mem_append,ha];exact .inr hx) hdl.2.1
  have hfd:∃ va vb,a.eval (.tmp t)=.func (.func f) va vb/\va.size=fs.length/\vb.size=cs.length/\(∀(i:Nat) p,fs[i]? = some p->Dat D w (va.getD i undef) p)/\(∀(i:Nat) p,cs[i]? = some p->Dat D w (vb.getD i undef) p):=by
   have hisD:(PV.fn (.func f) fs cs).isD=true:=by
    have key:∀ l:List PV,l.all PV.isD=true->l.all (fun p=>!p.isB)=true:=fun l h=>by
     rw [List.all_eq_true] at h ⊢
     intro p hp
     have:=h p hp
     cases p<;>first | rfl | cases this
    simp only [PV.isD,key _ hdl.1,key _ hdl.2.2,Bool.and_self]
   have:=hf.data hisD
   generalize a.eval (.tmp t)=z at this ⊢
   cases this with
   | fn f va vb fs cs h1 h2 h3 h4=>exact⟨va,vb,rfl,h1,h2,h3,h4⟩
  obtain⟨va,vb,ef,s1,s2,d1,d2⟩:=hfd
  have er:(execOp a.eval o).run P w=.ok (.enter f (va++(xs.map a.eval).toArray++vb)) w:=by
   have e:c.args.map a.eval=(xs.map a.eval).toArray:=Array.toList_inj.1 (by rw [Array.toList_map,ha])
   simp only [execOp,ho,resolve,hc,e,ef,Deferred.ofValue,Sem.run_bind,Sem.run_pure,Result.andThen_ok,invoke]
   exact hC.1 _ _
  refine zcb hR.gl hC (by simp [h1,s1,s2]) (fun i p hp=>?_) er hk
  rw [Array.getD_eq_getD_getElem?]
  rcases Nat.lt_or_ge i (fs.length+ps.length) with hi | hi
  ·rw [List.getElem?_append_left (by simp;omega)] at hp
   rw [Array.getElem?_append_left (by simp;omega)]
   rcases Nat.lt_or_ge i fs.length with hi2 | hi2
   ·rw [List.getElem?_append_left hi2] at hp
    rw [Array.getElem?_append_left (by omega)]
    have:=d1 i p hp
    rwa [Array.getD_eq_getD_getElem?] at this
   ·rw [List.getElem?_append_right hi2] at hp
    rw [Array.getElem?_append_right (by omega),s1]
    have:=h2 _ p hp
    simpa [List.getD_eq_getElem?_getD] using this
  ·rw [List.getElem?_append_right (by simp;omega)] at hp
   rw [Array.getElem?_append_right (by simp;omega)]
   have:=d2 _ p hp
   rw [Array.getD_eq_getD_getElem?] at this
   simpa [s1,h1] using this
 ·exact hk.elim
theorem zpU {t:Tmp} {m:String} {xs:List Operand} {ps:List PO} {c:Call} (ho:o.op=.call c) (hc:c.callee=.invoke (.tmp t) m) (ha:c.args.toList=xs) (hp:Qu xs=some ps) (hk:PK.q P s (.iv (.t t) m ps) K):QS P o D ρ s a w K:=by
 simp only [PK.q] at hk
 have hf:=hR.op (y:=.tmp t) (y':=.t t) rfl (by rw [ho];simp [Op.operands,Call.operands,hc])
 split at hk
 ·rename_i T p e
  rw [e] at hf
  obtain⟨f,hm,r,hC,hd,hk⟩:=hk
  have hdl:p.isD=true/\zY (ps.map fun x=>(s.ev x).sh)=true:=by
   unfold zY at hd ⊢
   simp only [List.all_cons,Bool.and_eq_true,PV.sh_isD] at hd
   exact hd
  obtain⟨h1,h2⟩:=kf hR hp (fun x hx=>by rw [ho];simp only [Op.operands,Call.operands,hc,Array.toList_append,List.mem_append,ha];exact .inr hx) hdl.2
  have hfd:∃ v,a.eval (.tmp t)=.iface T v/\Dat D w v p:=by
   have:=hf.data (by simp [PV.isD])
   generalize a.eval (.tmp t)=z at this ⊢
   cases this with
   | ifc t x p h=>exact⟨x,rfl,h⟩
  obtain⟨v,ef,dv⟩:=hfd
  have er:(execOp a.eval o).run P w=.ok (.enter f (#[v]++(xs.map a.eval).toArray)) w:=by
   have e:c.args.map a.eval=(xs.map a.eval).toArray:=Array.toList_inj.1 (by rw [Array.toList_map,ha])
   have e3:(#[Value.iface T v]++(xs.map a.eval).toArray).extract 1 (#[Value.iface T v]++(xs.map a.eval).toArray).size=(xs.map a.eval).toArray:=by
    apply Array.ext
    ·simp
    ·intro i hi1 hi2;simp
   have e4:(#[Value.iface T v]++(xs.map a.eval).toArray)[0]? = some (.iface T v):=by simp
   simp only [execOp,ho,resolve,hc,e,ef,Sem.run_bind,Sem.run_pure,Result.andThen_ok,invoke,e4,e3,hm v,hC.1]
  refine zcb hR.gl hC (by simp [h1]) (fun i q hq=>?_) er hk
  rw [Array.getD_eq_getD_getElem?]
  cases i with
  | zero=>
    simp only [List.getElem?_cons_zero,Option.some.injEq] at hq
    subst hq
    simpa using dv.sh
  | succ i=>
    have:=h2 i q (by simpa using hq)
    simpa [List.getD_eq_getElem?_getD] using this
 ·exact hk.elim
end
end Go.Proofs.YtopfkkogooocgaaGreat
namespace Go.Proofs.YtopfkkogooocgaaGreat
open Go.RowKit
variable {P:Program} {o:Oper} {D:Nat->Nat->Prop} {ρ:Nat->Nat} {nb:Nat} {s:PS} {a:Act} {w:World}
theorem x5 {u:Value} {es:List (List PV)} {k:Ow} {sz:Nat} (h:Rel D ρ nb w u (.sl es k)) (hs:∀ e ∈ es,e.length=sz):∃(ad:Option Addr) (cap:Nat) (vs:List Value),u=.slice ad es.length cap/\es.length<=cap/\cap<=maxLen/\(k=.z->cap=es.length) /\
 RowD D w sz vs es/\(es≠[]->∃ b off,ad=some ⟨b,off,none⟩/\∀ j v,vs[j]? = some v->D b (off+j)/\w.cell? ⟨b,off+j,none⟩=some v):=by
 obtain⟨ad,cap,sz',b,off,f,e1,hc,hz,hm,ha,hsz,hD,hd⟩:=h.inv_sl
 cases es with
 | nil=>exact⟨ad,cap,[],e1,hc,hm,hz,⟨by simp,fun i e h=>by simp at h,fun j h=>by simp at h,fun i e j p h=>by simp at h⟩,fun h=>absurd rfl h⟩
 | cons e es=>
   have hss:sz'=sz:=(hsz 0 e rfl).symm.trans (hs e (by simp))
   subst hss
   refine⟨ad,cap,(List.range ((e::es).length * sz')).map f,e1,hc,hm,hz,⟨by simp,hsz,fun j hj=>?_,fun i e' j p he hp=>?_⟩,fun hne=>⟨b,off,ha hne,fun j v hv=>?_⟩⟩
   ·have hj':j<(e::es).length * sz':=by simpa using hj
    rw [List.getD_eq_getElem?_getD,List.getElem?_map,List.getElem?_range hj']
    exact(hD j hj').2.2
   ·have hlt:=zej (List.getElem?_eq_some_iff.1 he).1 (show j<sz' by rw [<-hsz _ _ he];exact(List.getElem?_eq_some_iff.1 hp).1)
    rw [List.getD_eq_getElem?_getD,List.getElem?_map,List.getElem?_range hlt]
    exact hd i e' j p he hp
   ·have hj':j<(e::es).length * sz':=by have:=(List.getElem?_eq_some_iff.1 hv).1;simpa using this
    rw [List.getElem?_map,List.getElem?_range hj'] at hv
    simp at hv
    subst hv
    exact⟨(hD j hj').1,(hD j hj').2.1⟩
theorem Xv {sz:Nat} {vs:List Value} {es:List (List PV)} (h:RowD D w sz vs es):∀ u ∈ vs,u.oneCell'=true:=fun u hu=>by
 obtain⟨j,hj⟩:=List.getElem?_of_mem hu
 have:=h.2.2.1 j (List.getElem?_eq_some_iff.1 hj).1
 rwa [List.getD_eq_getElem?_getD,hj] at this
structure ApOp (P:Program) (o:Oper) (x y:Operand) (t e:TypeId) (i:TypeInfo) (z:Value):Prop where
 ho:∃ c,o.op=.call c/\c.callee=.builtin .append/\c.args=#[x,y]/\c.argTypes=#[t,t]
 ht:P.underlying t=some (.slice e)
 hi:P.info? e=some i
 hz:i.zero=some z
 hzs:z.cells.size=i.size
 hs:0<i.size
 hb:0<i.bytes
theorem ApOp.run {x y:Operand} {t e:TypeId} {i:TypeInfo} {z:Value} (h:ApOp P o x y t e i z) {u v r:Value} {w':World} (hx:a.eval x=u) (hy:a.eval y=v) (hr:(Builtin.append_ #[t,t] o.type #[u,v]).run P w=.ok r w') :
 (execOp a.eval o).run P w=.ok (.value r) w':=by
 obtain⟨c,ho,hc,ha,hat⟩:=h.ho
 simp only [execOp,ho,resolve,hc,ha,hat,List.map_toArray,List.map_cons,List.map_nil,hx,hy,invoke,builtin,Sem.run_bind,Sem.run_pure,Result.andThen_ok,hr]
theorem vl {t ty e:TypeId} {i:TypeInfo} (ht:P.underlying t=some (.slice e)) (hi:P.info? e=some i) (ad ad':Option Addr) (n cap c:Nat) (hc:n<=cap) :
 (Builtin.append_ #[t,t] ty #[.slice ad n cap,.slice ad' 0 c]).run P w=.ok (.slice ad n cap) w:=by
 cases ad<;>cases ad'<;>simp [Builtin.append_,run_underlying ht,zE hi,Builtin.lenOf,hc,Builtin.firstCells,loadCells,loadCellsFrom,storeCells]
theorem yJ {t ty e:TypeId} {i:TypeInfo} {z:Value} (ht:P.underlying t=some (.slice e)) (hi:P.info? e=some i) (hz:i.zero=some z) (hzs:z.cells.size=i.size) (hb:0<i.bytes) {ad:Option Addr} {b':Addr} {n m cap c:Nat} {olds news:List Value} (hlo:olds.length=n * i.size) (hl:news.length=m * i.size)
 (hold:n≠0->∃ b,ad=some b/\∀ j v,olds[j]? = some v->w.cell? (b.add j)=some v) (hnil:ad=none->cap=0) (hnew:∀ j v,news[j]? = some v->w.cell? (b'.add j)=some v) (hcap:cap<n+m) (hby:(n+m) * i.bytes<=140737488355328) :
 ∃ cap' cs,(Builtin.append_ #[t,t] ty #[.slice ad n cap,.slice (some b') m c]).run P w=.ok (.slice (some ⟨w.heap.size,0,none⟩) (n+m) cap') (w.drew.alloc (.cells cs e))/\n+m<=cap'/\cap'<=maxLen/\cs.size=cap' * i.size/\∀ j,j<(olds++news).length->cs[j]? = some ((olds++news).getD j undef):=by
 have h63:n+m<=9223372036854775807:=by
  have:=Nat.le_mul_of_pos_right (n+m) hb;omega
 have hfit:=growslice_fits (old:=cap) (need:=n+m) (by omega) hby
 have get:∀(cap':Nat) (l:List Value),(∀ j,j<l.length->(l.toArray++Builtin.zeroCells z.cells cap')[j]? = some (l.getD j undef)):=fun cap' l j hj=>by
  rw [Array.getElem?_append_left (by simpa using hj)]
  simp [hj]
 have hml:n+m<=maxLen:=by unfold maxLen;omega
 cases ad with
 | none=>
   have hc0:=hnil rfl
   subst hc0
   have hn0:n=0:=by
    rcases Nat.eq_zero_or_pos n with h | h
    ·exact h
    ·obtain⟨b,e,_⟩:=hold (by omega);cases e
   subst hn0
   have ho:olds=[]:=List.eq_nil_of_length_eq_zero (by simpa using hlo)
   subst ho
   have hr:=run_append_nil (P:=P) w t ty e i z ht hi hz b' m c news hl hnew (by omega) (by omega) (by simp only [Nat.zero_add] at hby;omega)
   refine⟨_,_,by simpa using hr,by simpa using grownCap_ge w m 0 e,grownCap_le_maxLen w m 0 e (by omega),?_,fun j hj=>by simpa using get _ news j (by simpa using hj)⟩
   have:=grownCap_ge w m 0 e
   simp only [Array.size_append,List.size_toArray,size_zeroCells,hzs,hl,<-Nat.add_mul]
   congr 1;omega
 | some b=>
   have hold':∀ j v,olds[j]? = some v->w.cell? (b.add j)=some v:=by
    rcases Nat.eq_zero_or_pos n with h | h
    ·subst h
     have ho:olds=[]:=List.eq_nil_of_length_eq_zero (by simpa using hlo)
     subst ho
     intro j v hv;simp at hv
    ·obtain⟨b2,e,h2⟩:=hold (by omega);cases e;exact h2
   have hr:=run_append_grow (P:=P) w t ty e i z ht hi hz b n cap olds hlo hold' b' m c news hl hnew hcap (by omega) hfit
   refine⟨_,_,hr,grownCap_ge w (n+m) cap e,grownCap_le_maxLen w (n+m) cap e hml,?_,fun j hj=>?_⟩
   ·have:=grownCap_ge w (n+m) cap e
    simp only [Array.size_append,List.size_toArray,size_zeroCells,hzs,hl,hlo,<-Nat.add_mul]
    congr 1;omega
   ·have:=get (grownCap w (n+m) cap e - (n+m)) (olds++news) j hj
    rw [<-this]
    simp
theorem zjv {x y:Operand} {t e:TypeId} {i:TypeInfo} {z:Value} (h:ApOp P o x y t e i z) {es es':List (List PV)} {k:Ow} (hx:Rel D ρ nb w (a.eval x) (.sl es .z)) (hy:Rel D ρ nb w (a.eval y) (.sl es' k))
 (h1:∀ e ∈ es,e.length=i.size) (h2:∀ e ∈ es',e.length=i.size) (hby:(es.length+es'.length) * i.bytes<=140737488355328) :
 (es'=[]/\(execOp a.eval o).run P w=.ok (.value (a.eval x)) w)\/∃ cap' cs vs,(execOp a.eval o).run P w=.ok (.value (.slice (some ⟨w.heap.size,0,none⟩) (es.length+es'.length) cap')) (w.drew.alloc (.cells cs e))/\(es++es').length<=cap'/\cap'<=maxLen/\cs.size=cap' * i.size /\
   RowD D w i.size vs (es++es')/\∀ j,j<vs.length->cs[j]? = some (vs.getD j undef):=by
 obtain⟨ad,cap,vs,e1,c1,c2,c3,r1,g1⟩:=x5 hx h1
 obtain⟨ad',cap',vs',e2,d1,d2,_,r2,g2⟩:=x5 hy h2
 have hcap:=c3 rfl
 by_cases hes:es'=[]
 ·subst hes
  left
  refine⟨rfl,?_⟩
  rw [e1]
  exact h.run e1 e2 (vl h.ht h.hi _ _ _ _ _ (by omega))
 ·right
  obtain⟨b',off',rfl,g3⟩:=g2 hes
  have hpos:0<es'.length:=List.length_pos_iff.2 hes
  obtain⟨cp,cs,hr,k1,k2,k3,k4⟩:=yJ (P:=P) (w:=w) (ty:=o.type) (c:=cap') (ad:=ad) (cap:=cap) h.ht h.hi h.hz h.hzs h.hb r1.1 r2.1 (fun hn=>by
   obtain⟨b,off,rfl,g4⟩:=g1 (by intro e;subst e;simp at hn)
   exact⟨_,rfl,fun j v hv=>by rw [zh];exact(g4 j v hv).2⟩) (fun hn=>by
   by_cases he:es=[]
   ·subst he;simpa using hcap
   ·obtain⟨b,off,e,_⟩:=g1 he;rw [hn] at e;cases e) (fun j v hv=>by rw [zh];exact(g3 j v hv).2) (by omega) hby
  exact⟨cp,cs,vs++vs',h.run e1 e2 hr,by simpa using k1,k2,k3,r1.append r2,k4⟩
section
variable {K:PV->Prop} (hR:Rd D ρ s (zB a) (zA o) w)
include hR
theorem znj {x y:Operand} {x' y':PO} {t e:TypeId} {i:TypeInfo} {z:Value} (h:ApOp P o x y t e i z) (hx:po x=some x') (hy:po y=some y') (hk:PK.q P s (.ap x' y' i.size i.bytes) K):QS P o D ρ s a w K:=by
 simp only [PK.q] at hk
 obtain⟨c,ho,hc,hca,_⟩:=h.ho
 have hrx:=hR.op hx (by rw [ho];simp [Op.operands,Call.operands,hc,hca])
 have hry:=hR.op hy (by rw [ho];simp [Op.operands,Call.operands,hc,hca])
 split at hk
 ·rename_i es ex
  obtain⟨es',k,ey,h1,h2,h3,h4⟩:=y8 hk
  rw [ex] at hrx
  rw [ey] at hry
  rcases zjv h hrx hry h1 h2 h3 with⟨rfl,hr⟩ | ⟨cap',cs,vs,hr,k1,k2,k3,k4,k5⟩
  ·obtain⟨ad,cap,sz,b,off,f,e3,c1,c2,c3,c4,c5,c6,c7⟩:=hrx.inv_sl
   refine⟨_,h4,rfl,zby hr ?_ fun _ _ _=>.inl ⟨ad,by rw [e3,c2 rfl];simp⟩⟩
   rw [List.append_nil,e3]
   exact .dat (.sl ad cap sz es _ b off f c1 (fun h=>by cases h) c3 c4 c5 c6 c7)
  ·have hb:Below w.heap.size w (w.drew.alloc (.cells cs e)):=(show Below w.heap.size w w.drew from ⟨rfl,rfl,rfl,Nat.le_refl _,fun _ _=>rfl⟩).alloc (Nat.le_refl _) _
   refine⟨_,h4,rfl,zlD hr hb (.dat ?_) fun _ _ hN=>.inr ⟨w.heap.size,cap',cs,e,hN.1,by simp,World.alloc_heap_new w.drew (.cells cs e),k3⟩⟩
   have k6:=k4.mono (D':=fun b o=>D b o\/w.heap.size<=b) (w':=w.drew.alloc (.cells cs e)) (fun _ _ h=>.inl h) fun b o x _ hx=>qa hb (qF hx) hx
   have:=jr (k:=.n i.size) (e:=e) (fr:=(0,0)) k6 (World.alloc_heap_new w.drew (.cells cs e)) k5 k1 k2 (fun h=>by cases h) (fun j _=>.inr (Nat.le_refl _))
   simpa using this
 ·exact hk.elim
end
end Go.Proofs.YtopfkkogooocgaaGreat
