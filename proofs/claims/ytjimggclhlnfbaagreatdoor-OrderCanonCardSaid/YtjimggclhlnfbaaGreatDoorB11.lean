import Derived.Sort.WalkB3
import Derived.Sort.Walk11
import Derived.Deep.LoopGhost
import Derived.Deep.DeepCutAuto
import Derived.Deep.CutBlock
import Derived.ChangeKeysEq
import Derived.Test.YtjimggclhlnfbaaGreatDoorB10
set_option maxHeartbeats 16000000
set_option linter.unusedVariables false
set_option linter.unusedSimpArgs false
set_option maxRecDepth 100000
namespace Go.Proofs.YtjimggclhlnfbaaGreatDoor
open Go.RowKit
attribute [local go_sem] Oper.semAt_some
def zB (a:Act):Nat->Value:=fun t=>a.tmps.getD t undef
theorem zai (D:Nat->Nat->Prop) (w:World) (v:Value):Dat D w v (Q6 v):=by
 unfold Q6
 split
 ·exact .sl none 0 1 [] .sh 0 0 (fun _=>undef) (Nat.le_refl _) (fun h=>by cases h) (Nat.zero_le _) (fun h=>absurd rfl h) (fun i e h=>by simp at h) (fun j h=>absurd h (by simp)) (fun i e j p h=>by simp at h)
 ·exact .v _
theorem zfT (D:Nat->Nat->Prop) (w:World) (v:Value):Dat D w v (ofV v):=by
 unfold ofV
 split
 ·exact .sl none 0 1 [] .z 0 0 (fun _=>undef) (Nat.le_refl _) (fun _=>rfl) (Nat.zero_le _) (fun h=>absurd rfl h) (fun i e h=>by simp at h) (fun j h=>absurd h (by simp)) (fun i e j p h=>by simp at h)
 ·rename_i vs
  split
  ·rename_i hall
   refine .agg vs _ (by simp) (fun i hi=>?_) fun i p hp=>?_
   ·rw [List.all_eq_true] at hall
    have hi':i<vs.size:=by simpa using hi
    exact hall _ (by simp [hi'])
   ·simp only [List.getElem?_map,Option.map_eq_some_iff] at hp
    obtain⟨v,hv,rfl⟩:=hp
    have:vs.getD i undef=v:=by simp at hv;simp [hv]
    rw [this];exact zai D w v
  ·exact .v _
 ·exact .v _
structure Rd (D:Nat->Nat->Prop) (ρ:Nat->Nat) (s:PS) (x:Nat->Value) (ts:List Nat) (w:World):Prop where
 slots:∀ t ∈ ts,Rel D ρ s.b.length w (x t) (s.get t)
 boxes:∀(i:Nat) cs,s.b[i]? = some cs->zaA ⟨D,ρ⟩ s.b.length w i cs
 gl:GL D w
def zbZ (x0:Nat->Value) (n0:Nat) (s:PS) (x:Nat->Value) (ts:List Nat) (w:World):Prop:=
 n0<=w.heap.size/\∀ t ∈ ts,NewOk x0 n0 w (x t) (s.get t)/\((s.get t).own≠none->x0 t=x t)
def Qok (P:Program) (o:Oper) (s:PS) (ρ:Nat->Nat) (D:Nat->Nat->Prop) (a:Act) (w:World) (p:PV):Prop:=
 ∀(next:Act->World->Prop) (Q:Exit->Act->World->Prop),(∀ u w',Below w.heap.size w w'->Rel (fun b o=>D b o\/w.heap.size<=b) ρ s.b.length w' u p->(∀ x0 n0,zbZ x0 n0 s (zB a) (zA o) w->NewOk x0 n0 w' u p)->next (a.put o.dst u) w')->o.wp P a w next Q
variable {P:Program} {o:Oper} {D:Nat->Nat->Prop} {ρ:Nat->Nat} {nb:Nat} {s:PS} {a:Act} {w:World}
theorem zby {u:Value} {p:PV} (hr:(execOp a.eval o).run P w=.ok (.value u) w) (h:Rel D ρ s.b.length w u p) (hN:∀ x0 n0,zbZ x0 n0 s (zB a) (zA o) w->NewOk x0 n0 w u p):Qok P o s ρ D a w p:=by
 intro next Q hn
 show o.upon P a next Q ((execOp a.eval o).run P w)
 rw [hr]
 exact hn u w (Below.refl _ _) (h.mono (fun _ _ h=>.inl h) (fun _ _ _ _ h=>h) (Nat.le_refl _) fun _ _=>rfl) hN
theorem zlD {u:Value} {p:PV} {w':World} (hr:(execOp a.eval o).run P w=.ok (.value u) w') (hb:Below w.heap.size w w') (h:Rel (fun b o=>D b o\/w.heap.size<=b) ρ s.b.length w' u p) (hN:∀ x0 n0,zbZ x0 n0 s (zB a) (zA o) w->NewOk x0 n0 w' u p):Qok P o s ρ D a w p:=by
 intro next Q hn
 show o.upon P a next Q ((execOp a.eval o).run P w)
 rw [hr]
 exact hn u w' hb h hN
theorem Xk {y:Operand} {y':PO} (hy:po y=some y') (h:∀ t,y=.tmp t->Rel D ρ nb w (zB a t) (s.get t)):Rel D ρ nb w (a.eval y) (s.ev y'):=by
 cases y with
 | tmp t=>cases hy;exact h t rfl
 | const v=>cases hy;exact .dat (zfT D w v)
 | func f=>cases hy;exact .dat (.fn (.func f) #[] #[] [] [] rfl rfl (fun i p h=>by simp at h) (fun i p h=>by simp at h))
 | global g=>cases hy
theorem Rd.at {ts:List Nat} (h:Rd D ρ s (zB a) ts w) {y:Operand} {y':PO} (hy:po y=some y') (ht:∀ t,y=.tmp t->t ∈ ts):Rel D ρ s.b.length w (a.eval y) (s.ev y'):=
 Xk hy fun t e=>h.slots t (ht t e)
theorem Rel.inv_agg {u:Value} {cs:List PV} (h:Rel D ρ nb w u (.agg cs)):∃ vs:Array Value,u=.agg vs/\vs.size=cs.length/\(∀ i,i<cs.length->(vs.getD i undef).oneCell'=true)/\∀(i:Nat) p,cs[i]? = some p->Dat D w (vs.getD i undef) p:=by
 rcases h with(h | ⟨i,o,h,_⟩) | ⟨f,va,vb,fs,cs,h,_⟩
 ·cases h with | agg vs cs hs h1 h=>exact⟨vs,rfl,hs,h1,h⟩
 ·cases h
 ·cases h
theorem Rel.inv_tup {u:Value} {cs:List PV} (h:Rel D ρ nb w u (.tup cs)):∃ vs:Array Value,u=.tuple vs/\vs.size=cs.length/\∀(i:Nat) p,cs[i]? = some p->Dat D w (vs.getD i undef) p:=by
 rcases h with(h | ⟨i,o,h,_⟩) | ⟨f,va,vb,fs,cs,h,_⟩
 ·cases h with | tup vs cs hs h=>exact⟨vs,rfl,hs,h⟩
 ·cases h
 ·cases h
theorem Rel.inv_ifc {u:Value} {t:TypeId} {p:PV} (h:Rel D ρ nb w u (.ifc t p)):∃ x,u=.iface t x/\Dat D w x p:=by
 rcases h with(h | ⟨i,o,h,_⟩) | ⟨f,va,vb,fs,cs,h,_⟩
 ·cases h with | ifc t x p h=>exact⟨x,rfl,h⟩
 ·cases h
 ·cases h
theorem Rel.inv_bx {u:Value} {i o:Nat} (h:Rel D ρ nb w u (.bx i o)):i<nb/\u=.pointer (some ⟨ρ i,o,none⟩):=by
 rcases h with(h | ⟨i,o,h,hi,hu⟩) | ⟨f,va,vb,fs,cs,h,_⟩
 ·cases h
 ·cases h;exact⟨hi,hu⟩
 ·cases h
theorem Rel.inv_cp {u:Value} {cs:List PV} {k:Nat} (h:Rel D ρ nb w u (.cp cs k)):∃(b off:Nat) (f:Nat->Value),u=.pointer (some ⟨b,off+k,none⟩)/\(∀ j,j<cs.length->D b (off+j)/\w.cell? ⟨b,off+j,none⟩=some (f j)/\(f j).oneCell'=true)/\∀(j:Nat) p,cs[j]? = some p->Dat D w (f j) p:=by
 rcases h with(h | ⟨i,o,h,_⟩) | ⟨f,va,vb,fs,cs,h,_⟩
 ·cases h with | cp b off cs o u h1 h2=>exact⟨b,off,u,rfl,h1,h2⟩
 ·cases h
 ·cases h
theorem Rel.inv_sl {u:Value} {es:List (List PV)} {k:Ow} (h:Rel D ρ nb w u (.sl es k)):∃(ad:Option Addr) (cap sz b off:Nat) (f:Nat->Value),u=.slice ad es.length cap/\es.length<=cap/\(k=.z->cap=es.length)/\cap<=maxLen/\(es≠[]->ad=some ⟨b,off,none⟩) /\
 (∀(i:Nat) e,es[i]? = some e->e.length=sz)/\(∀ j,j<es.length * sz->D b (off+j)/\w.cell? ⟨b,off+j,none⟩=some (f j)/\(f j).oneCell'=true)/\∀(i:Nat) e (j:Nat) p,es[i]? = some e->e[j]? = some p->Dat D w (f (i * sz+j)) p:=by
 rcases h with(h | ⟨i,o,h,_⟩) | ⟨f,va,vb,fs,cs,h,_⟩
 ·cases h with | sl a cap sz es o b off u hc hz hm ha hsz hD h=>exact⟨a,cap,sz,b,off,u,rfl,hc,hz,hm,ha,hsz,hD,h⟩
 ·cases h
 ·cases h
theorem xE {p:PV} {K:Bool->Prop} {u:Value} (h:qV p K) (hr:Rel D ρ nb w u p):∃ b,u=.bool b/\p=.v (.bool b)/\K b:=by
 unfold qV at h
 split at h
 ·exact⟨_,hr.v_inv,rfl,h⟩
 ·exact h.elim
theorem yu {p:PV} {K:IntKind->Int->Prop} {u:Value} (h:vR p K) (hr:Rel D ρ nb w u p):∃ k n,u=.int k n/\p=.v (.int k n)/\K k n:=by
 unfold vR at h
 split at h
 ·exact⟨_,_,hr.v_inv,rfl,h⟩
 ·exact h.elim
theorem y8 {p:PV} {K:List (List PV)->Prop} (h:QA p K):∃ es k,p=.sl es k/\K es:=by
 unfold QA at h
 split at h
 ·exact⟨_,_,rfl,h⟩
 ·exact h.elim
theorem kC {k:IntKind} {n:Int} {K:PV->Prop} (h:qar k n K):K (.v (.int k (k.wrap n))):=by
 unfold qar at h
 split at h
 ·obtain⟨⟨h1,h2⟩,h3⟩:=h
  have:IntKind.i64.wrap n=n:=IntWalk.i64_in _ ⟨h1,by omega⟩
  rw [this];exact h3
 ·exact h
theorem zd0 {op:BinOp} {k:IntKind} {x y:Int} {K:PV->Prop} (t:TypeId) (h:Xo op k x y K):∃ u,(binOp op t (.int k x) (.int k y)).run P w=.ok u w/\K (.v u):=by
 unfold Xo at h
 split at h
 case h_1=>exact⟨_,by simp [binOp,Op.intArith],kC h⟩
 case h_2=>exact⟨_,by simp [binOp,Op.intArith],kC h⟩
 case h_3=>exact⟨_,by simp [binOp,Op.intArith],kC h⟩
 case h_4=>exact⟨_,by simp [binOp,Op.intDiv,h.1],kC h.2⟩
 case h_5=>exact⟨_,by simp [binOp,Op.intDiv,h.1],h.2⟩
 case h_6=>exact⟨.bool (decide (x=y)),by simp [binOp,Op.intCmp];rfl,h⟩
 case h_7=>exact⟨.bool (!decide (x=y)),by simp [binOp,Op.intCmp];rfl,h⟩
 case h_8=>exact⟨_,by simp [binOp,Op.intCmp],h⟩
 case h_9=>exact⟨_,by simp [binOp,Op.intCmp],h⟩
 case h_10=>exact⟨_,by simp [binOp,Op.intCmp],h⟩
 case h_11=>exact⟨_,by simp [binOp,Op.intCmp],h⟩
 case h_12=>exact⟨_,by simp [binOp,Op.shift,Int.not_lt.2 h.1];rfl,h.2⟩
 case h_13=>exact h.elim
theorem X0 (op:BinOp) (t:TypeId) (x y:Operand) (k k':IntKind) (m n:Int):(eqGuard op t x y (.int k m) (.int k' n)).run P w=.ok () w:=by
 unfold eqGuard;split<;>simp
theorem zdX {op:BinOp} {p q:PV} {K:PV->Prop} {u v:Value} (t:TypeId) (x y:Operand) (h:QB op p q K) (hu:Rel D ρ nb w u p) (hv:Rel D ρ nb w v q) :
 ∃ r,(do eqGuard op t x y u v;binOp op t u v:Sem Value).run P w=.ok r w/\K (.v r):=by
 unfold QB at h
 split at h
 ·obtain rfl:=hu.v_inv
  obtain rfl:=hv.v_inv
  obtain⟨rfl,h⟩:=h
  obtain⟨r,h1,h2⟩:=zd0 (P:=P) (w:=w) t h
  exact⟨r,by simp [X0,h1],h2⟩
 ·exact h.elim
theorem kh (op:BinOp) (t:TypeId) (x y:Operand) (m n:Bool):(eqGuard op t x y (.bool m) (.bool n)).run P w=.ok () w:=by
 unfold eqGuard;split<;>simp
theorem JD {t:TypeId} (ht:P.underlying t=some .bool) (m n:Bool):(Op.equal t (.bool m) (.bool n)).run P w=.ok (m == n) w:=by
 unfold Op.equal Op.maxDepth
 rw [show (10000:Nat)=9999+1 from rfl]
 unfold Op.equalIn
 simp [run_underlying ht]
theorem X1 (op:BinOp) (t:TypeId) (x:Operand):(eqGuard op t x (.const .nilIface) .nilIface .nilIface).run P w=.ok () w:=by
 unfold eqGuard;cases op<;>cases x<;>simp
theorem Y5 (op:BinOp) (t t':TypeId) (x y:Operand) (v:Value):(eqGuard op t x y (.iface t' v) .nilIface).run P w=.ok () w:=by
 unfold eqGuard;cases op<;>simp
theorem za3 {t:TypeId} {ms} (ht:P.underlying t=some (.interface ms)):(Op.equal t .nilIface .nilIface).run P w=.ok true w:=by
 unfold Op.equal Op.maxDepth
 rw [show (10000:Nat)=9999+1 from rfl]
 unfold Op.equalIn
 simp [run_underlying ht]
theorem JE {t:TypeId} {ms} (ht:P.underlying t=some (.interface ms)) (t':TypeId) (v:Value):(Op.equal t (.iface t' v) .nilIface).run P w=.ok false w:=by
 unfold Op.equal Op.maxDepth
 rw [show (10000:Nat)=9999+1 from rfl]
 unfold Op.equalIn
 simp [run_underlying ht]
theorem Y7 {l:List PV} {vs:Array Value} {i:Nat} {p:PV} (hs:vs.size=l.length) (hp:l[i]? = some p):i<vs.size:=by rw [hs];exact(List.getElem?_eq_some_iff.1 hp).1
def CellsR (D:Nat->Nat->Prop) (ρ:Nat->Nat) (nb:Nat) (w:World) (u:Value) (cs:List PV):Prop:=
 u.cells.size=cs.length/\∀(i:Nat) p,cs[i]? = some p->Rel D ρ nb w (u.cells.getD i undef) p/\(u.cells.getD i undef).oneCell'=true
theorem yG {u:Value} {p:PV} (h:Rel D ρ nb w u p) (hu:u.oneCell'=true):CellsR D ρ nb w u [p]:=by
 have e:u.cells=#[u]:=by cases u<;>first | rfl | cases hu
 refine⟨by rw [e];rfl,fun i q hq=>?_⟩
 have hi:i=0:=by have:=(List.getElem?_eq_some_iff.1 hq).1;simpa using this
 subst hi
 simp at hq
 subst hq
 rw [e]
 exact⟨h,hu⟩
theorem xY {p:PV} {K:List PV->Prop} {u:Value} (h:qW p K) (hr:Rel D ρ nb w u p):∃ cs,K cs/\CellsR D ρ nb w u cs:=by
 unfold qW at h
 split at h
 ·obtain⟨vs,rfl,hs,h1,h2⟩:=hr.inv_agg
  exact⟨_,h,hs,fun i p hp=>⟨.dat (h2 i p hp),h1 i (List.getElem?_eq_some_iff.1 hp).1⟩⟩
 ·obtain rfl:=hr.v_inv
  exact⟨_,h.2,yG hr h.1⟩
 ·obtain⟨_,_,_,_,_,_,rfl,_⟩:=hr.inv_sl
  exact⟨_,h,yG hr rfl⟩
 ·obtain⟨_,_,_,rfl,_⟩:=hr.inv_cp
  exact⟨_,h,yG hr rfl⟩
 ·obtain⟨_,rfl⟩:=hr.inv_bx
  exact⟨_,h,yG hr rfl⟩
 ·refine⟨_,h,yG hr ?_⟩
  rcases hr with(hr | ⟨i,o,hr,_⟩) | ⟨f,va,vb,fs,cs,_,rfl,_⟩
  ·cases hr;rfl
  ·cases hr
  ·rfl
 ·obtain⟨_,rfl,_⟩:=hr.inv_ifc
  exact⟨_,h,yG hr rfl⟩
 ·exact h.elim
theorem xy {t:TypeId} {d:TypeDesc} (h:P.underlying t=some d):(isAgg t).run P w=.ok (Qb d) w:=by
 unfold isAgg
 simp only [Sem.run_bind,run_underlying h,Result.andThen_ok]
 cases d<;>simp [Qb]
theorem zE {t:TypeId} {i:TypeInfo} (h:P.info? t=some i):(sizeOf t).run P w=.ok i.size w:=by simp [sizeOf,typeInfo,h]
theorem vT {t:TypeId} {ag:Bool} {n:Nat} (h:XH P t=some (ag,n)):∃ i d,P.info? t=some i/\P.underlying t=some d/\Qb d=ag/\i.size=n:=by
 unfold XH at h
 simp only [Option.bind_eq_some_iff,Option.map_eq_some_iff] at h
 obtain⟨i,hi,d,hd,e⟩:=h
 cases e
 exact⟨i,d,hi,hd,rfl,rfl⟩
theorem Zs {t:TypeId} {n:Nat} {ad:Addr} {v:Value} (h:XH P t=some (false,n)) (hc:w.cell? ad=some v):(loadVar t ad).run P w=.ok v w:=by
 obtain⟨i,d,h1,h2,h3,h4⟩:=vT h
 simp [loadVar,xy h2,h3,hc]
theorem Vo {t:TypeId} {n:Nat} {ad:Addr} {f:Nat->Value} (h:XH P t=some (true,n)) (hc:∀ j,j<n->w.cell? (ad.add j)=some (f j)):(loadVar t ad).run P w=.ok (.agg ((List.range n).map f).toArray) w:=by
 obtain⟨i,d,h1,h2,h3,h4⟩:=vT h
 subst h4
 simp [loadVar,xy h2,h3,zE h1,run_loadCells w ad i.size f hc]
theorem zh (b o j:Nat):(⟨b,o,none⟩:Addr).add j=⟨b,o+j,none⟩:=by unfold Addr.add;split<;>simp_all
theorem Qv {t:TypeId} {ag:Bool} {n b off o:Nat} {cs:List PV} {f:Nat->Value} {K:PV->Prop} (hs:XH P t=some (ag,n)) (hq:VI cs o ag n K)
 (hc:∀ j,j<cs.length->w.cell? ⟨b,off+j,none⟩=some (f j)/\(f j).oneCell'=true) (hr:∀(j:Nat) p,cs[j]? = some p->Rel D ρ nb w (f j) p) (hd:ag=true->zY ((cs.drop o).take n)=true) :
 ∃ u p,(loadVar t ⟨b,off+o,none⟩).run P w=.ok u w/\Rel D ρ nb w u p/\K p:=by
 unfold VI at hq
 cases ag with
 | true=>
   obtain⟨h1,h2⟩:=hq
   refine⟨_,_,Vo (f:=fun j=>f (o+j)) hs (fun j hj=>?_),?_,h2⟩
   ·rw [zh,Nat.add_assoc];exact(hc _ (by omega)).1
   ·refine .dat (.agg _ _ (by simp;omega) (fun i hi=>?_) fun i p hp=>?_)
    ·have hi':i<n:=by simp at hi;omega
     have:((List.range n).map fun j=>f (o+j)).toArray.getD i undef=f (o+i):=by simp [hi']
     rw [this];exact(hc _ (by omega)).2
    ·have hi:i<n:=by have:=(List.getElem?_eq_some_iff.1 hp).1;simp at this;omega
     have:((List.range n).map fun j=>f (o+j)).toArray.getD i undef=f (o+i):=by simp [hi]
     rw [this]
     have hD:=hd rfl
     unfold zY at hD
     rw [List.all_eq_true] at hD
     refine(hr _ _ ?_).data (hD p (List.mem_of_getElem? hp))
     rw [List.getElem?_take,if_pos hi,List.getElem?_drop] at hp
     exact hp
 | false=>
   simp only at hq
   split at hq
   ·rename_i p hp
    exact⟨_,p,Zs hs (hc o (List.getElem?_eq_some_iff.1 hp).1).1,hr _ _ hp,hq⟩
   ·exact hq.elim
theorem VJ {t:TypeId} {ag:Bool} {n o:Nat} {cs:List PV} {vs:Array Value} {K:PV->Prop} (hs:XH P t=some (ag,n)) (hq:VI cs o ag n K) (hz:vs.size=cs.length) (h1:∀ i,i<cs.length->(vs.getD i undef).oneCell'=true)
 (hr:∀(j:Nat) p,cs[j]? = some p->Dat D w (vs.getD j undef) p):∃ u p,(part t vs o).run P w=.ok u w/\Dat D w u p/\K p:=by
 obtain⟨i,d,e1,e2,e3,e4⟩:=vT hs
 unfold VI at hq
 subst e4
 cases ag with
 | true=>
   obtain⟨g1,g2⟩:=hq
   refine⟨.agg (vs.extract o (o+i.size)),_,by simp [part,xy e2,e3,zE e1],?_,g2⟩
   have key:∀ j,j<i.size->(vs.extract o (o+i.size)).getD j undef=vs.getD (o+j) undef:=fun j hj=>by
    have:o+j<vs.size:=by omega
    have h2:j<(vs.extract o (o+i.size)).size:=by simp;omega
    simp [Array.getD_eq_getD_getElem?,Array.getElem?_eq_getElem h2,Array.getElem?_eq_getElem this]
   refine .agg _ _ (by simp;omega) (fun j hj=>?_) fun j p hp=>?_
   ·have hj':j<i.size:=by simp at hj;omega
    rw [key j hj'];exact h1 _ (by omega)
   ·have hj:j<i.size:=by have:=(List.getElem?_eq_some_iff.1 hp).1;simp at this;omega
    rw [key j hj]
    rw [List.getElem?_take,if_pos hj,List.getElem?_drop] at hp
    exact hr _ _ hp
 | false=>
   simp only at hq
   split at hq
   ·rename_i p hp
    have ho:o<vs.size:=Y7 hz hp
    refine⟨vs.getD o undef,p,?_,hr _ _ hp,hq⟩
    simp [part,xy e2,e3,ho]
   ·exact hq.elim
end Go.Proofs.YtjimggclhlnfbaaGreatDoor
namespace Go.Proofs.YtjimggclhlnfbaaGreatDoor
open Go.RowKit
attribute [local go_sem] Oper.semAt_some
def zk0:Option Nat->Value
 | some y=>.tuple #[.int .u64 (y:Int),.bool true]
 | none=>.tuple #[.int .u64 0,.bool false]
theorem zdu {l:List Iv} {k x:Nat} (h:k<l.length):ye (l.drop k) x=if x<l[k].lo then some l[k].lo else if l[k].hi+1<zk/\x<l[k].hi+1 then some (l[k].hi+1) else ye (l.drop (k+1)) x:=by
 rw [List.drop_eq_getElem_cons h];rfl
theorem zdq (l:List Iv) (v:Value) (x:Nat) (w:World) (hl:RdR 0 w.heap.size w v l) :
 Calls Tryz.prog 200 #[v,.int .u64 x] w fun e w'=>e=.returned (zk0 (ye l x))/\Below w.heap.size w w':=by
 obtain⟨a,cap,rfl,hlc,hcm,hc⟩:=hl
 unfold maxLen at hcm
 go_enter Tryz.func200,Tryz.ntmps200
 go_wp2_with fail
 go_loopw [12] (fun i wr=>∃ k:Nat,k<=l.length/\i=.int .i64 k/\Hid (ye l x=ye (l.drop k) x)/\Below w.heap.size w wr) (fun i _=>l.length - (intOf i).toNat)
 case atStart=>exact⟨0,Nat.zero_le _,rfl,rfl,Below.refl _ _⟩
 case round=>
  obtain⟨k,hk,rfl,hn,hB⟩:=hrel
  by_cases hlt:k<l.length
  ·obtain⟨b,off,rfl,_,hb,hcell⟩:=hc (by intro e;subst e;simp at hlt)
   obtain⟨g1,g2,g3,g4⟩:=hcell k hlt
   have hs:=zdu (x:=x) hlt
   obtain⟨lo,hlo⟩:∃ lo,lo=l[k].lo:=⟨_,rfl⟩
   obtain⟨hi,hhi⟩:∃ hi,hi=l[k].hi:=⟨_,rfl⟩
   rw [<-hlo] at g1 g3 hs
   rw [<-hhi] at g2 g4 hs
   clear hlo hhi hcell hc
   have c1:wr.cell? ⟨b,off+k * 2,none⟩=some (.int .u64 lo):=(hB.cell (p:=⟨b,_,none⟩) hb).trans g1
   have c2:wr.cell? ⟨b,off+k * 2+1,none⟩=some (.int .u64 hi):=(hB.cell (p:=⟨b,_,none⟩) hb).trans g2
   clear g1 g2
   have hsz:=hB.size
   by_cases t1:x<lo
   ·have HV:Hid (ye l x=some lo):=by rw [hn.out,hs,if_pos t1];rfl
    clear hs hn
    go_wp2
    go_ret2
    rw [HV.out]
    exact⟨rfl,hB.alloc hsz _⟩
   ·by_cases t2:hi+1<zk
    ·by_cases t3:x<hi+1
     ·have HV:Hid (ye l x=some (hi+1)):=by rw [hn.out,hs,if_neg t1,if_pos ⟨t2,t3⟩];rfl
      clear hs hn
      go_wp2_with (go_at_call 201;with_reducible refine(kO _ _ t2).mono ?_;rintro e w' ⟨rfl,rfl⟩)
      go_ret2
      rw [HV.out]
      exact⟨by simp [zk0],hB.alloc hsz _⟩
     ·have HV:Hid (ye l x=ye (l.drop (k+1)) x):=by rw [hn.out,hs,if_neg t1,if_neg (by omega)];rfl
      clear hs hn
      go_wp2_with (go_at_call 201;with_reducible refine(kO _ _ t2).mono ?_;rintro e w' ⟨rfl,rfl⟩)
      go_roundw
      case rel=>exact⟨k+1,by omega,by go_num,HV,hB.alloc hsz _⟩
      case measure=>simp [intOf];omega
    ·have HV:Hid (ye l x=ye (l.drop (k+1)) x):=by rw [hn.out,hs,if_neg t1,if_neg (by omega)];rfl
     clear hs hn
     obtain rfl:hi=zk - 1:=by omega
     go_wp2_with (go_at_call 201;with_reducible refine(V9 _).mono ?_;rintro e w' ⟨rfl,rfl⟩)
     go_roundw
     case rel=>exact⟨k+1,by omega,by go_num,HV,hB.alloc hsz _⟩
     case measure=>simp [intOf];omega
  ·have hkl:k=l.length:=by omega
   have HV:Hid (ye l x=none):=by rw [hn.out,hkl,List.drop_length];rfl
   clear hn
   go_wp2
   go_ret2
   rw [HV.out]
   exact⟨rfl,hB⟩
theorem Vs (l:List Iv) (v:Value) (x:Nat) (w:World) (hl:RdR 0 w.heap.size w v l) :
 Calls Tryz.prog 200 #[v,.int .u64 x] w fun e w'=>∃(n:Nat) (m:Bool),e=.returned (.tuple #[.int .u64 n,.bool m])/\Hid (ye l x=if m=true then some n else none)/\Below w.heap.size w w':=
 (zdq l v x w hl).mono fun e w' ⟨he,hb⟩=>by
   cases h:ye l x with
   | none=>exact⟨0,false,by rw [he,h];rfl,rfl,hb⟩
   | some y=>exact⟨y,true,by rw [he,h];rfl,rfl,hb⟩
theorem Kq (p q:Bool) (w:World):Calls Tryz.prog 120 #[.agg #[.bool p,.bool q]] w fun e w'=>e=.returned (.bool (p || q))/\Below w.heap.size w w':=by
 cases p<;>cases q <;>
  (go_enter Tryz.func120,Tryz.ntmps120
   go_wp2
   go_ret
   exact⟨rfl,(Below.refl _ _).alloc (Nat.le_refl _) _⟩)
theorem zbP (p q:Bool) (w:World):Calls Tryz.prog 128 #[.agg #[.bool p,.bool q]] w fun e w'=>e=.returned (.bool (p && q))/\Below w.heap.size w w':=by
 cases p<;>cases q <;>
  (go_enter Tryz.func128,Tryz.ntmps128
   go_wp2
   go_ret
   exact⟨rfl,(Below.refl _ _).alloc (Nat.le_refl _) _⟩)
theorem Kp (p q:Bool) (w:World):Calls Tryz.prog 174 #[.agg #[.bool p,.bool q]] w fun e w'=>e=.returned (.bool (p && !q))/\Below w.heap.size w w':=by
 cases p<;>cases q <;>
  (go_enter Tryz.func174,Tryz.ntmps174
   go_wp2
   go_ret
   exact⟨rfl,(Below.refl _ _).alloc (Nat.le_refl _) _⟩)
theorem Xi (a1 a2:Option Addr) (n1 n2 c1 c2:Nat) (w:World):Calls Tryz.prog 166 #[.slice a1 n1 c1,.slice a2 n2 c2] w fun e w'=>
 e=.returned (.func (.func 199) #[] #[.pointer (some ⟨w.heap.size,0,none⟩),.pointer (some ⟨w.heap.size+1,0,none⟩)]) /\
  w'=(w.alloc (.cells #[.slice a1 n1 c1] 30)).alloc (.cells #[.slice a2 n2 c2] 30):=by
 go_enter Tryz.func166,Tryz.ntmps166
 go_wp2
 go_ret
 exact⟨rfl,rfl⟩
end Go.Proofs.YtjimggclhlnfbaaGreatDoor
namespace Go.Proofs.YtjimggclhlnfbaaGreatDoor
open Go.RowKit Go.Sort
set_option maxRecDepth 1000000 in
theorem ZK (zc off len cap:Nat) (d:Array Int) (hlen:d.size=len) (a b:Nat) (w:World) (hH:Holds zg w zc off d) (hab:a<=b) (hb:b<=d.size) (hsz:d.size<4611686018427387904) :
 Calls Tryz.prog 224 #[.slice (some ⟨zc,off,none⟩) len cap,.int .i64 a,.int .i64 b] w fun e w'=>e=.returned (.tuple #[])/\∃ n,w'=putRow zg (Sort.ahead w n) zc off (heapSort ltInt d a b):=by
 subst hlen
 have ecast:((b - a:Nat):Int)=(b:Int) - (a:Int):=by omega
 go_enter Tryz.func224,Tryz.ntmps224
 go_wp2
 go_loopg [9] ((b - a - 1) / 2+1) (fun k s9 wr=>s9=.int .i64 ((k:Int) - 1)/\k<=(b - a - 1) / 2+1/\∃(dk:Array Int) (n:Nat),dk.size=d.size/\wr=putRow zg (Sort.ahead w n) zc off dk /\
  heapBuild ltInt (b - a) a k dk=heapBuild ltInt (b - a) a ((b - a - 1) / 2+1) d)
 case atStart=>exact⟨by rw [half_start hab],Nat.le_refl _,d,0,rfl,(putRow_self zg w zc off d hH).symm,rfl⟩
 case round=>
  obtain⟨rfl,hkk,dk,n,hds,hwr,heq⟩:=hrel
  have hHk:Holds zg wr zc off dk:=by rw [hwr];exact holds_putRow zg _ zc off d dk (holds_ahead zg w n zc off d hH) hds
  have A:Aside (wr=putRow zg (Sort.ahead w n) zc off dk):=hwr
  clear hwr
  cases gk with
  | zero=>
    have hB:dk=heapBuild ltInt (b - a) a ((b - a - 1) / 2+1) d:=heq
    clear heq hHk hkk
    go_wp2
    go_loopg [10] (b - a) (fun k s10 wr2=>s10=.int .i64 ((k:Int) - 1)/\k<=b - a/\∃(dj:Array Int) (n2:Nat),dj.size=d.size/\wr2=putRow zg (Sort.ahead w n2) zc off dj/\heapPop ltInt a k dj=heapPop ltInt a (b - a) dk)
    case atStart=>exact⟨by rw [ecast],Nat.le_refl _,dk,n,hds,A.out,rfl⟩
    case round=>
     obtain⟨rfl,hkk,dj,n2,hdj,hwr2,heq2⟩:=hrel
     cases gk with
     | zero=>
       go_wp2
       go_end0
       refine⟨rfl,n2,?_⟩
       have e:dj=heapSort ltInt d a b:=by rw [heapSort,<-hB,<-heq2];rfl
       rw [<-e]
     | succ k=>
       have hHj:Holds zg wr zc off dj:=by rw [hwr2];exact holds_putRow zg _ zc off d dj (holds_ahead zg w n2 zc off d hH) hdj
       have hcw:∀ t,t<d.size->wr.cell? ⟨zc,off+t,none⟩=some (.int .u64 dj[t]!):=fun t ht=>(hHj t (by omega)).1
       have hfw:∀ t,t<d.size->wr.frozen? ⟨zc,off+t,none⟩=false:=fun t ht=>(hHj t (by omega)).2
       have A2:Aside (wr=putRow zg (Sort.ahead w n2) zc off dj):=hwr2
       clear hwr2 hHj
       rcases Nat.eq_zero_or_pos k with hk0 | hkp
       ·subst hk0
        go_wp2_with fail
        go_region
        go_wp2_with fail
        rw [swap_world zg (i:=a) (j:=a) (by omega) (by omega) A2.out rfl rfl]
        refine(yA zc off d.size cap (swp dj a (a)) (by rw [size_swp];exact hdj) 0 0 a _ (holds_putRow zg _ zc off d _ (holds_ahead zg w (n2+1) zc off d hH) (by rw [size_swp];exact hdj)) (Nat.zero_le _) (by rw [size_swp];omega) (by rw [size_swp];omega)).mono ?_
        rintro e w1 ⟨rfl,m,hw1⟩
        go_wp2
        go_roundg 0
        case measure=>omega
        case rel=>
         refine⟨by simp,by omega,siftDown ltInt 0 a 0 (swp dj a (a)),n2+1+m,by rw [size_siftDown ltInt _ _ _ _ _ (Nat.le_refl _),size_swp];exact hdj,?_,heq2⟩
         first
          | rw [hw1,putRow_ahead_putRow zg w (n2+1) m zc off _ _ (size_siftDown ltInt _ _ _ _ _ (Nat.le_refl _))]
          | rw [putRow_ahead_putRow zg w (n2+1) m zc off _ _ (size_siftDown ltInt _ _ _ _ _ (Nat.le_refl _))]
       ·skip
        go_wp2_with fail
        go_region
        go_wp2_with fail
        rw [swap_world zg (i:=a) (j:=a+k) (by omega) (by omega) A2.out rfl rfl]
        refine(yA zc off d.size cap (swp dj a (a+k)) (by rw [size_swp];exact hdj) 0 k a _ (holds_putRow zg _ zc off d _ (holds_ahead zg w (n2+1) zc off d hH) (by rw [size_swp];exact hdj)) (Nat.zero_le _) (by rw [size_swp];omega) (by rw [size_swp];omega)).mono ?_
        rintro e w1 ⟨rfl,m,hw1⟩
        go_wp2
        go_roundg k
        case measure=>omega
        case rel=>
         refine⟨by simp,by omega,siftDown ltInt k a 0 (swp dj a (a+k)),n2+1+m,by rw [size_siftDown ltInt _ _ _ _ _ (Nat.le_refl _),size_swp];exact hdj,?_,heq2⟩
         first
          | rw [hw1,putRow_ahead_putRow zg w (n2+1) m zc off _ _ (size_siftDown ltInt _ _ _ _ _ (Nat.le_refl _))]
          | rw [putRow_ahead_putRow zg w (n2+1) m zc off _ _ (size_siftDown ltInt _ _ _ _ _ (Nat.le_refl _))]
  | succ k=>
    have hcall:=yA zc off d.size cap dk hds k (b - a) a wr hHk (by omega) (by omega) (by omega)
    rw [ecast] at hcall
    go_wp2_with (go_at_call 237;refine hcall.mono ?_;rintro e w1 ⟨rfl,m,hw1⟩)
    go_roundg k
    case measure=>omega
    case rel=>
     refine⟨by simp,by omega,siftDown ltInt (b - a) a k dk,n+m,by rw [size_siftDown ltInt _ _ _ _ _ (Nat.le_refl _)];exact hds,?_,heq⟩
     rw [A.out,putRow_ahead_putRow zg w n m zc off dk _ (size_siftDown ltInt _ _ _ _ _ (Nat.le_refl _))]
theorem Y2 (w:World) (N S:Nat):∃ os,putRow (Value.int .i64) (Sort.ahead (w.alloc (.cells #[.int .i64 0] 3)) N) w.heap.size 0 (one S)=grow (Sort.ahead w N) os:=by
 rw [alloc_eq_grow,ahead_grow]
 obtain⟨os,_,h⟩:=putRow_grow_new (Value.int .i64) (Sort.ahead w N) #[.cells #[.int .i64 0] 3] w.heap.size 0 (one S) (Nat.le_refl _)
 exact⟨os,h⟩
theorem ZI (zc off cap:Nat) (d:Array Int) (w:World) (hH:Holds zg w zc off d) (hblk:zc<w.heap.size) (hsz:d.size<4611686018427387904) :
 ∃ Wc:Nat->Nat->World,
  w.alloc (.cells #[.int .i64 0] 3)=Wc 0 0 /\
  (∀ N S:Nat,(Wc N S).cell? ⟨w.heap.size,0,none⟩=some (.int .i64 (S:Int))) /\
  (∀ N S:Nat,∃ os,Wc N S=grow (Sort.ahead w N) os) /\
  (∀ x s N:Nat,1<=x->x+1<d.size->s+3<4611686018427387904->Calls Tryz.prog 240 #[.slice (some ⟨zc,off,none⟩) d.size cap,.int .i64 (x:Int),.pointer (some ⟨w.heap.size,0,none⟩)] (Wc N s) fun e w'=>
    e=.returned (.int .i64 ((medianAdjacent ltInt d x s).1:Int))/\∃ N',w'=Wc N' (medianAdjacent ltInt d x s).2) /\
  (∀ x y z s N:Nat,x<d.size->y<d.size->z<d.size->s+3<4611686018427387904->Calls Tryz.prog 241 #[.slice (some ⟨zc,off,none⟩) d.size cap,.int .i64 (x:Int),.int .i64 (y:Int),.int .i64 (z:Int),.pointer (some ⟨w.heap.size,0,none⟩)] (Wc N s) fun e w'=>
    e=.returned (.int .i64 ((median ltInt d x y z s).1:Int))/\∃ N',w'=Wc N' (median ltInt d x y z s).2):=by
 have hne:w.heap.size≠zc:=by omega
 have hH0:Holds zg (w.alloc (.cells #[.int .i64 0] 3)) zc off d:=by rw [alloc_eq_grow];exact holds_grow _ _ _ _ _ _ hblk hH
 have hS0:Holds (Value.int .i64) (w.alloc (.cells #[.int .i64 0] 3)) w.heap.size 0 (one 0):=fun j hj=>by
  obtain rfl:j=0:=by simpa using hj
  simp
 refine⟨fun N S=>putRow (Value.int .i64) (Sort.ahead (w.alloc (.cells #[.int .i64 0] 3)) N) w.heap.size 0 (one S),(putRow_self _ _ _ _ _ hS0).symm,fun N S=>(one_cell (holds_one (n:=N) (t:=S) hS0)).1,fun N S=>Y2 w N S,?_,?_⟩
 ·intro x s N h1 h2 hs
  refine(vf d _ rfl zc off cap x w.heap.size 0 s _ (qR hH0 hne) h1 h2 (by omega) hne (holds_one hS0) (by omega)).mono ?_
  rintro e w' ⟨he,n,hw⟩
  exact⟨he,N+n,by rw [hw,one_one]⟩
 ·intro x y z s N h1 h2 h3 hs
  refine(jH d _ rfl zc off cap x y z w.heap.size 0 s _ (qR hH0 hne) h1 h2 h3 hne (holds_one hS0) (by omega)).mono ?_
  rintro e w' ⟨he,n,hw⟩
  exact⟨he,N+n,by rw [hw,one_one]⟩
theorem j6 (zc off cap a b:Nat) (d:Array Int) (w:World) (hH:Holds zg w zc off d) (hblk:zc<w.heap.size) (hab:a<b) (hb:b<=d.size) (hsz:d.size<4611686018427387904) :
 Calls Tryz.prog 226 #[.slice (some ⟨zc,off,none⟩) d.size cap,.int .i64 a,.int .i64 b] w fun e w'=>
  e=.returned (.tuple #[.int .i64 (choosePivot ltInt d a b).1,.int .i64 (hintCode (choosePivot ltInt d a b).2)])/\∃ n os,w'=grow (Sort.ahead w n) os:=by
 obtain⟨Wc,hW0,cS,hG,MA,MD⟩:=ZI zc off cap d w hH hblk hsz
 clear hH
 rw [choosePivot_eq]
 obtain⟨I,hI⟩:∃ I:Nat,I=a+(b - a) / 4 * 1:=⟨_,rfl⟩
 obtain⟨J,hJ⟩:∃ J:Nat,J=a+(b - a) / 4 * 2:=⟨_,rfl⟩
 obtain⟨K,hK⟩:∃ K:Nat,K=a+(b - a) / 4 * 3:=⟨_,rfl⟩
 have eI:((a:Int)+((b:Int) - (a:Int)) / 4)=(I:Int):=by omega
 have eJ:((a:Int)+((b:Int) - (a:Int)) / 4 * 2)=(J:Int):=by omega
 have eK:((a:Int)+((b:Int) - (a:Int)) / 4 * 3)=(K:Int):=by omega
 by_cases h8:b - a ≥ 8
 ·by_cases h50:b - a ≥ 50
  ·
   obtain⟨i1,s1,h1⟩:∃ i1 s1,medianAdjacent ltInt d I 0=(i1,s1):=⟨_,_,rfl⟩
   obtain⟨j1,s2,h2⟩:∃ j1 s2,medianAdjacent ltInt d J s1=(j1,s2):=⟨_,_,rfl⟩
   obtain⟨k1,s3,h3⟩:∃ k1 s3,medianAdjacent ltInt d K s2=(k1,s3):=⟨_,_,rfl⟩
   obtain⟨p,s,h4⟩:∃ p s,median ltInt d i1 j1 k1 s3=(p,s):=⟨_,_,rfl⟩
   have hraw:rawPivot ltInt d a b=(p,s):=by simp only [rawPivot,if_pos h8,if_pos h50,<-hI,<-hJ,<-hK,h1,h2,h3,h4]
   have m1:=medianAdjacent_mem ltInt d I 0;rw [h1] at m1
   have m2:=medianAdjacent_mem ltInt d J s1;rw [h2] at m2
   have m3:=medianAdjacent_mem ltInt d K s2;rw [h3] at m3
   have n1:=medianAdjacent_count ltInt d I 0;rw [h1] at n1
   have n2:=medianAdjacent_count ltInt d J s1;rw [h2] at n2
   have n3:=medianAdjacent_count ltInt d K s2;rw [h3] at n3
   simp only [] at m1 m2 m3 n1 n2 n3
   have c1:Calls Tryz.prog 240 #[.slice (some ⟨zc,off,none⟩) d.size cap,.int .i64 (I:Int),.pointer (some ⟨w.heap.size,0,none⟩)] (Wc 0 0) fun e w'=>e=.returned (.int .i64 (i1:Int))/\∃ N',w'=Wc N' s1:=by
    have h:=MA I 0 0 (by omega) (by omega) (by omega);rw [h1] at h;exact h
   have c2:∀ N,Calls Tryz.prog 240 #[.slice (some ⟨zc,off,none⟩) d.size cap,.int .i64 (J:Int),.pointer (some ⟨w.heap.size,0,none⟩)] (Wc N s1) fun e w'=>e=.returned (.int .i64 (j1:Int))/\∃ N',w'=Wc N' s2:=fun N=>by
    have h:=MA J s1 N (by omega) (by omega) (by omega);rw [h2] at h;exact h
   have c3:∀ N,Calls Tryz.prog 240 #[.slice (some ⟨zc,off,none⟩) d.size cap,.int .i64 (K:Int),.pointer (some ⟨w.heap.size,0,none⟩)] (Wc N s2) fun e w'=>e=.returned (.int .i64 (k1:Int))/\∃ N',w'=Wc N' s3:=fun N=>by
    have h:=MA K s2 N (by omega) (by omega) (by omega);rw [h3] at h;exact h
   have c4:∀ N,Calls Tryz.prog 241 #[.slice (some ⟨zc,off,none⟩) d.size cap,.int .i64 (i1:Int),.int .i64 (j1:Int),.int .i64 (k1:Int),.pointer (some ⟨w.heap.size,0,none⟩)] (Wc N s3) fun e w'=>e=.returned (.int .i64 (p:Int))/\∃ N',w'=Wc N' s:=fun N=>by
    have h:=MD i1 j1 k1 s3 N (by omega) (by omega) (by omega) (by omega);rw [h4] at h;exact h
   rw [hraw]
   obtain⟨Hc,hHc⟩:∃ Hc:Int,Hc=hintCode (hintOf s):=⟨_,rfl⟩
   have hh0:s=0->Hc=1:=fun h=>by rw [hHc,h];rfl
   have hh12:s=12->Hc=2:=fun h=>by rw [hHc,h];rfl
   have hhx:s≠0->s≠12->Hc=0:=fun h1 h2=>by rw [hHc];unfold hintOf;rw [if_neg h1,if_neg h2];rfl
   show Calls Tryz.prog 226 _ w fun e w'=>e=.returned (.tuple #[.int .i64 (p:Int),.int .i64 (hintCode (hintOf s))])/\∃ n os,w'=grow (Sort.ahead w n) os
   rw [<-hHc]
   clear hHc hraw
   clear h1 h2 h3 h4 MA MD hI hJ hK m1 m2 m3
   go_enter Tryz.func226,Tryz.ntmps226
   go_wp2_with (first
    | (go_at_call_has 240 (Value.int .i64 (I:Int));refine c1.mono ?_;rintro e w' ⟨rfl,N1,rfl⟩)
    | (go_at_call_has 240 (Value.int .i64 (J:Int));refine(c2 _).mono ?_;rintro e w' ⟨rfl,N2,rfl⟩)
    | (go_at_call_has 240 (Value.int .i64 (K:Int));refine(c3 _).mono ?_;rintro e w' ⟨rfl,N3,rfl⟩)
    | (go_at_call 241;refine(c4 _).mono ?_;rintro e w' ⟨rfl,N4,rfl⟩))
   all_goals
    go_ret2
    refine⟨?_,_,hG _ _⟩
    first
     | (have e0:(s:Int)=0:=of_beq_int (by assumption)
        rw [hh0 (by omega)];rfl)
     | (have e1:(s:Int)=12:=of_beq_int (by assumption)
        rw [hh12 (by omega)];rfl)
     | (have e0:(s:Int)≠0:=of_bne_int (by assumption)
        have e1:(s:Int)≠12:=of_bne_int (by assumption)
        rw [hhx (by omega) (by omega)];rfl)
     | (rw [hh0 (by omega)];rfl)
  ·
   obtain⟨p,s,h4⟩:∃ p s,median ltInt d I J K 0=(p,s):=⟨_,_,rfl⟩
   have hraw:rawPivot ltInt d a b=(p,s):=by simp only [rawPivot,if_pos h8,if_neg h50,<-hI,<-hJ,<-hK,h4]
   have c4:Calls Tryz.prog 241 #[.slice (some ⟨zc,off,none⟩) d.size cap,.int .i64 (I:Int),.int .i64 (J:Int),.int .i64 (K:Int),.pointer (some ⟨w.heap.size,0,none⟩)] (Wc 0 0) fun e w'=>e=.returned (.int .i64 (p:Int))/\∃ N',w'=Wc N' s:=by
    have h:=MD I J K 0 0 (by omega) (by omega) (by omega) (by omega);rw [h4] at h;exact h
   rw [hraw]
   obtain⟨Hc,hHc⟩:∃ Hc:Int,Hc=hintCode (hintOf s):=⟨_,rfl⟩
   have hh0:s=0->Hc=1:=fun h=>by rw [hHc,h];rfl
   have hh12:s=12->Hc=2:=fun h=>by rw [hHc,h];rfl
   have hhx:s≠0->s≠12->Hc=0:=fun h1 h2=>by rw [hHc];unfold hintOf;rw [if_neg h1,if_neg h2];rfl
   show Calls Tryz.prog 226 _ w fun e w'=>e=.returned (.tuple #[.int .i64 (p:Int),.int .i64 (hintCode (hintOf s))])/\∃ n os,w'=grow (Sort.ahead w n) os
   rw [<-hHc]
   clear hHc hraw
   clear h4 MA MD hI hJ hK
   go_enter Tryz.func226,Tryz.ntmps226
   go_wp2_with (first | (go_at_call 241;refine c4.mono ?_;rintro e w' ⟨rfl,N4,rfl⟩))
   all_goals
    go_ret2
    refine⟨?_,_,hG _ _⟩
    first
     | (have e0:(s:Int)=0:=of_beq_int (by assumption)
        rw [hh0 (by omega)];rfl)
     | (have e1:(s:Int)=12:=of_beq_int (by assumption)
        rw [hh12 (by omega)];rfl)
     | (have e0:(s:Int)≠0:=of_bne_int (by assumption)
        have e1:(s:Int)≠12:=of_bne_int (by assumption)
        rw [hhx (by omega) (by omega)];rfl)
     | (rw [hh0 (by omega)];rfl)
 ·
  obtain⟨p,hp⟩:∃ p:Nat,p=J:=⟨_,rfl⟩
  obtain⟨s,hs⟩:∃ s:Nat,s=0:=⟨_,rfl⟩
  have hraw:rawPivot ltInt d a b=(p,s):=by simp only [rawPivot,if_neg h8,<-hJ,hp,hs]
  rw [hraw]
  obtain⟨Hc,hHc⟩:∃ Hc:Int,Hc=hintCode (hintOf s):=⟨_,rfl⟩
  have hh0:s=0->Hc=1:=fun h=>by rw [hHc,h];rfl
  have hh12:s=12->Hc=2:=fun h=>by rw [hHc,h];rfl
  have hhx:s≠0->s≠12->Hc=0:=fun h1 h2=>by rw [hHc];unfold hintOf;rw [if_neg h1,if_neg h2];rfl
  show Calls Tryz.prog 226 _ w fun e w'=>e=.returned (.tuple #[.int .i64 (p:Int),.int .i64 (hintCode (hintOf s))])/\∃ n os,w'=grow (Sort.ahead w n) os
  rw [<-hHc]
  clear hHc hraw
  subst hp
  clear MA MD hI hJ hK
  have hW0':w.alloc (.cells #[.int .i64 0] 3)=Wc 0 s:=by rw [hs];exact hW0
  clear hW0
  go_enter Tryz.func226,Tryz.ntmps226
  go_wp2
  all_goals
   go_ret2
   refine⟨?_,_,hG _ _⟩
   first
    | (have e0:(s:Int)=0:=of_beq_int (by assumption)
       rw [hh0 (by omega)];rfl)
    | (have e1:(s:Int)=12:=of_beq_int (by assumption)
       rw [hh12 (by omega)];rfl)
    | (have e0:(s:Int)≠0:=of_bne_int (by assumption)
       have e1:(s:Int)≠12:=of_bne_int (by assumption)
       rw [hhx (by omega) (by omega)];rfl)
    | (rw [hh0 (by omega)];rfl)
end Go.Proofs.YtjimggclhlnfbaaGreatDoor
namespace Go.Proofs.YtjimggclhlnfbaaGreatDoor
open Go.RowKit
attribute [local go_sem] Oper.semAt_some
abbrev Sv:=Option Addr × Nat × Nat
abbrev Fv:=Sv × Sv
def sv (x:Sv):Value:=.slice x.1 x.2.1 x.2.2
def Y4 (p:Nat × Fv):Array Value:=#[.int .i64 (p.1:Nat),.agg #[sv p.2.1,sv p.2.2]]
def wl (hit:Nat->Bool):Nat->List Fv->List (Nat × Fv)
 | _,[]=>[]
 | n,f::r=>if hit n=true then (n,f)::wl hit (n+1) r else wl hit (n+1) r
theorem Kw (hit:Nat->Bool):∀(l r:List Fv) (n:Nat),wl hit n (l++r)=wl hit n l++wl hit (n+l.length) r
 | [],r,n=>by simp [wl]
 | f::l,r,n=>by
   have:=Kw hit l r (n+1)
   rw [List.cons_append,wl,wl,this,List.length_cons,show n+1+l.length=n+(l.length+1) by omega]
   split<;>simp
theorem XF {hit:Nat->Bool} {l:List Fv} {k:Nat} (h:k<l.length):wl hit 0 (l.take (k+1))=wl hit 0 (l.take k)++(if hit k=true then [(k,l[k])] else []):=by
 rw [List.take_succ_eq_append_getElem h,Kw,List.length_take,Nat.min_eq_left (by omega),Nat.zero_add]
 simp [wl]
theorem zi8 {hit:Nat->Bool} {l:List Fv} {k:Nat} (h:k<l.length) (hh:hit k=true):wl hit 0 (l.take k)++[(k,l[k])] <+: wl hit 0 l:=by
 have h1:=XF (hit:=hit) h
 rw [if_pos hh] at h1
 rw [<-h1]
 conv=>rhs;rw [<-List.take_append_drop (k+1) l,Kw]
 exact List.prefix_append _ _
def PtF (n0 Bk Bi:Nat) (A B:World):Prop:=A.heap.size<=B.heap.size/\∀ k,k<A.heap.size->(k<n0\/k=Bk\/k=Bi\/∃ cs f,A.heap[k]? = some (.cells cs 34 f))->B.heap[k]? = A.heap[k]?
def zeF (n0:Nat) (w:World) (av:Option Addr) (cap:Nat) (fs:List Fv):Prop:=fs.length<=cap/\cap<=maxLen/\(fs≠[]->∃ b off,av=some ⟨b,off,none⟩/\b<n0/\∀ i (h:i<fs.length),w.cell? ⟨b,off+i * 2,none⟩=some (sv fs[i].1)/\w.cell? ⟨b,off+i * 2+1,none⟩=some (sv fs[i].2))
theorem zew (fs:List Fv) (hit:Nat->Bool) (av:Option Addr) (cap Bk ok Bi oi n0 item:Nat) (W0:World) (hrow:zeF n0 W0 av cap fs)
 (hbk:W0.cell? ⟨Bk,ok,none⟩=some (.slice av fs.length cap)) (hbi:W0.cell? ⟨Bi,oi,none⟩=some (.int .u64 (item:Nat))) (hn0:n0<=W0.heap.size)
 (hhas:∀(w:World) (i:Nat) (h:i<fs.length),(∀ k,k<n0->w.heap[k]? = W0.heap[k]?)->n0<=w.heap.size->Calls Tryz.prog 116 #[sv fs[i].1,.int .u64 (item:Nat)] w fun e w'=>e=.returned (.bool (hit i))/\Below w.heap.size w w') :
 v7 Tryz.prog 115 #[.pointer (some ⟨Bk,ok,none⟩),.pointer (some ⟨Bi,oi,none⟩)] Y4 (fun _=>False) (PtF n0 Bk Bi) (wl hit 0 fs) W0:=by
 intro l J Jx hJ hJx hY h0
 refine callsIn_wide.2 ?_
 show Calls Tryz.prog 115 #[.func (.yield l) #[] #[],.pointer (some ⟨Bk,ok,none⟩),.pointer (some ⟨Bi,oi,none⟩)] W0 _
 have HJ:=Lib.hid hJ
 have HJx:=Lib.hid hJx
 have HY:=Lib.hid hY
 have HH:=Lib.hid hhas
 obtain⟨hlc,hcm,hcell⟩:=hrow
 have HCell:=Lib.hid hcell
 unfold maxLen at hcm
 have hc0:=hbk
 clear hJ hJx hY hhas hcell
 go_enter Tryz.func115,Tryz.ntmps115
 go_wp2_with fail
 go_loopg [8] fs.length (fun g x wr=>∃ k:Nat,k<=fs.length/\g=fs.length - k/\x=.int .i64 k/\J (wl hit 0 (fs.take k)) wr/\(∀ j,j<n0->wr.heap[j]? = W0.heap[j]?)/\wr.cell? ⟨Bi,oi,none⟩=some (.int .u64 (item:Nat))/\n0<=wr.heap.size)
 case atStart=>exact⟨0,Nat.zero_le _,rfl,rfl,by simpa [wl] using h0,fun _ _=>rfl,hbi,hn0⟩
 case round=>
  obtain⟨k,hk,rfl,rfl,hJk,hlow,hbw,hns⟩:=hrel
  clear h0 hc0 hbk hbi hn0
  by_cases hlt:k<fs.length
  ·obtain⟨b,off,hab,hbn,hcel⟩:=HCell.out (fun e=>by rw [e] at hlt;simp at hlt)
   subst hab
   obtain⟨c0,c1⟩:=hcel k hlt
   have htk:=XF (hit:=hit) hlt
   have hpre:hit k=true->_:=zi8 hlt
   have hH:=fun w=>HH.out w k hlt
   obtain⟨⟨⟨a0,m0,q0⟩,⟨a1,m1,q1⟩⟩,hf⟩:∃ f,f=fs[k]:=⟨_,rfl⟩
   rw [<-hf] at c0 c1 htk hpre
   simp only [<-hf] at hH
   simp only [sv] at c0 c1 hH
   have d0:wr.cell? ⟨b,off+k * 2,none⟩=some (.slice a0 m0 q0):=(World.cell?_of_block (a:=⟨b,off+k * 2,none⟩) (hlow b hbn)).trans c0
   have d1:wr.cell? ⟨b,off+k * 2+1,none⟩=some (.slice a1 m1 q1):=(World.cell?_of_block (a:=⟨b,off+k * 2+1,none⟩) (hlow b hbn)).trans c1
   have e0:(wr.alloc (.cells #[.slice a0 m0 q0,.slice a1 m1 q1] 34 (0,0))).cell? ⟨Bi,oi,none⟩=some (.int .u64 (item:Nat)):=(World.cell?_of_block (a:=⟨Bi,oi,none⟩) (Below.heap_alloc _ _ _ (World.block_lt_of_cell? _ _ hbw))).trans hbw
   have HTK:=Lib.hid htk
   have HP:=Lib.hid hpre
   have HLow:=Lib.hid hlow
   have HBW:=Lib.hid hbw
   have HH2:=Lib.hid hH
   have HJk:=Lib.hid hJk
   clear hcel htk hpre hlow hbw hH c0 c1 hf hJk
   have HL1:Hid (∀ j,j<n0->(wr.alloc (.cells #[.slice a0 m0 q0,.slice a1 m1 q1] 34 (0,0))).heap[j]? = W0.heap[j]?):=Lib.hid fun j hj=>(Below.heap_alloc _ _ _ (by omega)).trans (HLow.out j hj)
   go_upto_region 3 with fail
   refine(wpIn_wide (n:=8)).1 ?_
   cases hh:hit k with
   | false=>
     gi_wp2_with (refine⟨trivial,?_⟩;gi_at_call 116;refine(callsIn_wide.2 (HH2.out _ HL1.out (by simp;omega))).mono ?_;rw [hh];rintro e w1 ⟨rfl,hb1⟩)
     refine⟨fun _ h=>(by cases h),?_⟩
     gi_wp2
     go_wp2
     go_roundg (fs.length - (k+1))
     case measure=>omega
     case rel=>
      have hkw:Keep (fun _=>False) wr w1:=((Keep.refl _ _).alloc _).trans (Keep.of_below' hb1 (Nat.le_refl _))
      refine⟨k+1,hlt,rfl,by simp,?_,fun j hj=>(hkw.block j (by omega) id).trans (HLow.out j hj),hkw.cell_some HBW.out id,Nat.le_trans hns hkw.size⟩
      rw [HTK.out,hh]
      simp only [Bool.false_eq_true,if_false,List.append_nil]
      exact HJ.out _ _ _ HJk.out hkw
   | true=>
     gi_wp2_with (refine⟨trivial,?_⟩;gi_at_call 116;refine(callsIn_wide.2 (HH2.out _ HL1.out (by simp;omega))).mono ?_;rw [hh];rintro e w1 ⟨rfl,hb1⟩
                  have hkw:Keep (fun _=>False) wr w1:=((Keep.refl _ _).alloc _).trans (Keep.of_below' hb1 (Nat.le_refl _))
                  have hbx:w1.heap[wr.heap.size]? = some (.cells #[.slice a0 m0 q0,.slice a1 m1 q1] 34 (0,0)):=(hb1.block _ (by simp)).trans (World.alloc_heap_new _ _)
                  have x0:w1.cell? ⟨wr.heap.size,0,none⟩=some (.slice a0 m0 q0):=by simp [World.cell?,hbx]
                  have x1:w1.cell? ⟨wr.heap.size,1,none⟩=some (.slice a1 m1 q1):=by simp [World.cell?,hbx]
                  obtain⟨fn,tmps,assign,body,hy,hR⟩:=HY.out _ (k,((a0,m0,q0),(a1,m1,q1))) w1 (HJ.out _ _ _ HJk.out hkw) (HP.out hh)
                  simp only [Y4,sv] at hy)
     refine hR.mono ?_
     rintro e w3 (⟨rfl,hJ3,hk3⟩ | ⟨rfl,hJx3⟩)
     ·gi_wp2
      go_wp2
      go_roundg (fs.length - (k+1))
      case measure=>omega
      case rel=>
       refine⟨k+1,hlt,rfl,by simp,?_,fun j hj=>(hk3.2 j (by have:=hkw.size;omega) (.inl hj)).trans ((hkw.block j (by omega) id).trans (HLow.out j hj)),(World.cell?_of_block (a:=⟨Bi,oi,none⟩) (hk3.2 Bi (Nat.lt_of_lt_of_le (World.block_lt_of_cell? _ _ HBW.out) hkw.size) (.inr (.inr (.inl rfl))))).trans (hkw.cell_some HBW.out id),by have:=hkw.size;have:=hk3.1;omega⟩
       rw [HTK.out,hh]
       simpa using hJ3
     ·gi_wp2
      go_wp2
      refine bodyPost_ret (results_none rfl _ _ _) rfl ?_
      exact⟨⟨_,rfl⟩,.inr ⟨_,HP.out hh,hJx3⟩⟩
  ·obtain rfl:k=fs.length:=by omega
   go_wp2_with fail
   go_end0
   rw [List.take_length] at hJk
   exact⟨⟨_,rfl⟩,.inl hJk⟩
end Go.Proofs.YtjimggclhlnfbaaGreatDoor
namespace Go.Proofs.YtjimggclhlnfbaaGreatDoor
open Go.RowKit
variable {P:Program} {o:Oper} {D:Nat->Nat->Prop} {ρ:Nat->Nat} {nb:Nat} {s:PS} {a:Act} {w:World}
theorem QC {o:Oper} {t:Tmp} (h:Operand.tmp t ∈ o.op.operands.toList):t ∈ zA o:=by
 unfold zA
 exact List.mem_filterMap.2 ⟨_,h,rfl⟩
theorem Rd.op (h:Rd D ρ s (zB a) (zA o) w) {y:Operand} {y':PO} (hy:po y=some y') (hm:y ∈ o.op.operands.toList):Rel D ρ s.b.length w (a.eval y) (s.ev y'):=
 h.at hy fun t e=>QC (by rw [<-e];exact hm)
theorem kz:∀ {l:List Operand} {ys:List PO},Qu l=some ys->ys.length=l.length/\∀(i:Nat) (y:Operand),l[i]? = some y->∃ y',ys[i]? = some y'/\po y=some y'
 | [],ys,h=>by cases h;exact⟨rfl,fun i y h=>by simp at h⟩
 | x::r,ys,h=>by
   simp only [Qu,Option.bind_eq_some_iff,Option.map_eq_some_iff] at h
   obtain⟨y,hy,l,hl,rfl⟩:=h
   obtain⟨h1,h2⟩:=kz hl
   refine⟨by simp [h1],fun i z hz=>?_⟩
   cases i with
   | zero=>simp at hz;subst hz;exact⟨y,rfl,hy⟩
   | succ i=>simpa using h2 i z (by simpa using hz)
def QS (P:Program) (o:Oper) (D:Nat->Nat->Prop) (ρ:Nat->Nat) (s:PS) (a:Act) (w:World) (K:PV->Prop):Prop:=∃ p,K p/\p.own=none/\Qok P o s ρ D a w p
theorem QS.det {K:PV->Prop} {u:Value} {p:PV} (hr:(execOp a.eval o).run P w=.ok (.value u) w) (h:Rel D ρ s.b.length w u p) (hk:K p) (ho:p.own=none) (hN:p.isN=false:=by rfl):QS P o D ρ s a w K:=⟨p,hk,ho,zby hr h fun _ _ _=>xA hN⟩
theorem QS.strip {K:PV->Prop} {u:Value} {p:PV} (hr:(execOp a.eval o).run P w=.ok (.value u) w) (h:Rel D ρ s.b.length w u p) (hk:K p.strip):QS P o D ρ s a w K:=⟨p.strip,hk,p.strip_own,zby hr h.strip fun _ _ _=>xA p.strip_isN⟩
section
variable {K:PV->Prop} (hR:Rd D ρ s (zB a) (zA o) w)
include hR
theorem zlz {x:Operand} {x':PO} (ho:o.op=.move x\/o.op=.assign x) (hx:po x=some x') (hk:PK.q P s (.mv x') K):QS P o D ρ s a w K:=by
 have hr:(execOp a.eval o).run P w=.ok (.value (a.eval x)) w:=by rcases ho with ho | ho<;>simp [execOp,ho]
 have hm:x ∈ o.op.operands.toList:=by rcases ho with ho | ho<;>simp [ho,Op.operands]
 have hrel:=hR.op hx hm
 cases x' with
 | t i=>
   have hxt:x=.tmp i:=by cases x<;>first | (cases hx;rfl) | cases hx
   subst hxt
   simp only [PK.q] at hk
   rcases PV.pre_or i (s.get i) with e | ⟨es,n,m,e1,e2⟩
   ·rw [e] at hk
    exact .strip hr hrel hk
   ·rw [e2] at hk
    have hrel2:Rel D ρ s.b.length w (zB a i) (.sl es (.r n m)):=e1 ▸ hrel
    obtain⟨ad,cap,sz,b,off,f,e3,c1,c2,c3,c4,c5,c6,c7⟩:=hrel2.inv_sl
    refine⟨_,hk,rfl,zby hr ?_ fun x0 n0 hN=>⟨ad,es.length,cap,?_,?_⟩⟩
    ·show Rel D ρ s.b.length w (zB a i) _
     rw [e3]
     exact .dat (.sl ad cap sz es _ b off f c1 (fun h=>by cases h) c3 c4 c5 c6 c7)
    ·have:=(hN.2 i (QC hm)).2 (by rw [e1];simp [PV.own])
     rw [this,e3]
    ·exact e3
 | c p=>exact .strip hr hrel hk
 | f p=>exact .strip hr hrel hk
theorem zny {c x y:Operand} {c' x' y':PO} (ho:o.op=.pick c x y) (hc:po c=some c') (hx:po x=some x') (hy:po y=some y')
 (hk:qV (s.ev c') fun b=>(b=true->K (s.ev x').strip)/\(b=false->K (s.ev y').strip)):QS P o D ρ s a w K:=by
 obtain⟨b,e1,_,h1,h2⟩:=xE hk (hR.op hc (by simp [ho,Op.operands]))
 cases b with
 | true=>exact .strip (by simp [execOp,ho,e1,asBool]) (hR.op hx (by simp [ho,Op.operands])) (h1 rfl)
 | false=>exact .strip (by simp [execOp,ho,e1,asBool]) (hR.op hy (by simp [ho,Op.operands])) (h2 rfl)
theorem zlv {op:BinOp} {t t':TypeId} {x y:Operand} {x' y':PO} (ho:o.op=.binOp op t x y t') (hx:po x=some x') (hy:po y=some y') (hk:QB op (s.ev x') (s.ev y') K):QS P o D ρ s a w K:=by
 obtain⟨r,h1,h2⟩:=zdX (P:=P) t x y hk (hR.op hx (by simp [ho,Op.operands])) (hR.op hy (by simp [ho,Op.operands]))
 refine .det (u:=r) ?_ (.dat (.v _)) h2 rfl
 simp only [execOp,ho,Sem.run_bind,h1,Result.andThen_ok,Sem.run_pure]
theorem zlu {op:BinOp} {t t':TypeId} {x y:Operand} {x' y':PO} (ho:o.op=.binOp op t x y t') (hop:op=.eql\/op=.neq) (ht:P.underlying t=some .bool) (hx:po x=some x') (hy:po y=some y')
 (hk:qV (s.ev x') fun a=>qV (s.ev y') fun b=>K (.v (.bool ((op == .neq) != (a == b))))):QS P o D ρ s a w K:=by
 obtain⟨m,e1,_,h1⟩:=xE hk (hR.op hx (by simp [ho,Op.operands]))
 obtain⟨n,e2,_,h2⟩:=xE h1 (hR.op hy (by simp [ho,Op.operands]))
 refine .det ?_ (.dat (.v _)) h2 rfl
 have hb:=JD (P:=P) (w:=w) ht m n
 rcases hop with rfl | rfl
 ·simp only [execOp,ho,Sem.run_bind,e1,e2,kh,Result.andThen_ok,Sem.run_pure,binOp,hb]
  cases m<;>cases n<;>rfl
 ·simp only [execOp,ho,Sem.run_bind,e1,e2,kh,Result.andThen_ok,Sem.run_pure,binOp,hb]
  cases m<;>cases n<;>rfl
theorem zlB {op:BinOp} {t t':TypeId} {x:Operand} {x':PO} {ms} (ho:o.op=.binOp op t x (.const .nilIface) t') (hop:op=.eql\/op=.neq) (ht:P.underlying t=some (.interface ms)) (hx:po x=some x')
 (hk:PK.q P s (.nil (op == .neq) x') K):QS P o D ρ s a w K:=by
 have hr:=hR.op hx (by simp [ho,Op.operands])
 simp only [PK.q] at hk
 split at hk
 ·rename_i e
  rw [e] at hr
  have e1:=hr.v_inv
  refine .det ?_ (.dat (.v _)) hk rfl
  have hc:a.eval (.const .nilIface)=.nilIface:=rfl
  rcases hop with rfl | rfl<;>simp only [execOp,ho,Sem.run_bind,e1,hc,X1,Result.andThen_ok,Sem.run_pure,binOp,za3 ht]<;>rfl
 ·rename_i tt pp e
  rw [e] at hr
  obtain⟨v,e1,_⟩:=hr.inv_ifc
  refine .det ?_ (.dat (.v _)) hk rfl
  have hc:a.eval (.const .nilIface)=.nilIface:=rfl
  rcases hop with rfl | rfl<;>simp only [execOp,ho,Sem.run_bind,e1,hc,Y5,Result.andThen_ok,Sem.run_pure,binOp,JE ht]<;>rfl
 ·exact hk.elim
theorem zlC {t:TypeId} {x:Operand} {x':PO} (ho:o.op=.unOp .not t x) (hx:po x=some x') (hk:qV (s.ev x') fun b=>K (.v (.bool (!b)))):QS P o D ρ s a w K:=by
 obtain⟨b,e1,_,h1⟩:=xE hk (hR.op hx (by simp [ho,Op.operands]))
 exact .det (by simp [execOp,ho,e1,Op.unary]) (.dat (.v _)) h1 rfl
theorem zlA {t:TypeId} {x:Operand} {x':PO} (ho:o.op=.unOp .neg t x) (hx:po x=some x') (hk:QB .sub (.v (.int .i64 0)) (s.ev x') K):QS P o D ρ s a w K:=by
 have hr:=hR.op hx (by simp [ho,Op.operands])
 unfold QB at hk
 split at hk
 ·rename_i k1 n1 k2 n2 e1 e2
  cases e1
  rw [e2] at hr
  have e3:=hr.v_inv
  obtain⟨rfl,hk⟩:=hk
  have hk2:qar .i64 (0 - n2) K:=hk
  exact .det (u:=.int .i64 (IntKind.i64.wrap (0 - n2))) (by simp [execOp,ho,e3,Op.unary,Op.intArith]) (.dat (.v _)) (kC hk2) rfl
 ·exact hk.elim
theorem znn {t t':TypeId} {x:Operand} {x':PO} {k k':IntKind} (ho:o.op=.convert t t' x) (h1:P.underlying t=some (.int k')) (h2:P.underlying t'=some (.int k)) (hx:po x=some x') (hk:vR (s.ev x') fun _ n=>K (.v (.int k (k.wrap n)))):QS P o D ρ s a w K:=by
 obtain⟨j,n,e1,_,h3⟩:=yu hk (hR.op hx (by simp [ho,Op.operands]))
 exact .det (by simp [execOp,ho,e1,convert,run_underlying h1,run_underlying h2,Conv.intToInt]) (.dat (.v _)) h3 rfl
theorem znp {t:TypeId} {x:Operand} {x':PO} {f:Nat} {fs:Array Field} {fd:Field} {i:TypeInfo} (ho:o.op=.fieldAddr t x f) (h1:P.underlying t=some (.struct fs)) (h2:fs[f]? = some fd) (h3:P.info? fd.type=some i) (h4:i.size≠0)
 (hx:po x=some x') (hk:PK.q P s (.fa x' fd.offset) K):QS P o D ρ s a w K:=by
 have hr:=hR.op hx (by simp [ho,Op.operands])
 simp only [PK.q] at hk
 split at hk
 ·rename_i i' o' e
  rw [e] at hr
  obtain⟨hi,e1⟩:=hr.inv_bx
  refine .det (u:=.pointer (some ⟨ρ i',o'+fd.offset,none⟩)) ?_ (.inl (.inr ⟨_,_,rfl,hi,rfl⟩)) hk rfl
  simp [execOp,ho,e1,Instr.fieldAt,run_underlying h1,h2,Instr.sureAddr,fieldPlace,zE h3,h4,zh]
 ·rename_i cs o' e
  rw [e] at hr
  obtain⟨b,off,u,e1,hc,hd⟩:=hr.inv_cp
  refine .det (u:=.pointer (some ⟨b,off+(o'+fd.offset),none⟩)) ?_ (.dat (.cp b off cs _ u hc hd)) hk rfl
  simp [execOp,ho,e1,Instr.fieldAt,run_underlying h1,h2,Instr.sureAddr,fieldPlace,zE h3,h4,zh,Nat.add_assoc]
 ·exact hk.elim
theorem znr {t e:TypeId} {x y:Operand} {x' y':PO} {i:TypeInfo} (ho:o.op=.indexAddr t x y) (h1:P.underlying t=some (.slice e)) (h3:P.info? e=some i) (hx:po x=some x') (hy:po y=some y') (hk:PK.q P s (.ia x' y' i.size) K):QS P o D ρ s a w K:=by
 simp only [PK.q] at hk
 obtain⟨es,k,ex,h4⟩:=y8 hk
 obtain⟨j,n,e2,_,hn,h5⟩:=yu h4 (hR.op hy (by simp [ho,Op.operands]))
 have hr:=hR.op hx (by simp [ho,Op.operands])
 rw [ex] at hr
 obtain⟨ad,cap,sz,b,off,f,e1,hc,hz,hm,ha,hsz,hD,hd⟩:=hr.inv_sl
 split at h5
 ·rename_i el hel
  obtain⟨hl,h6⟩:=h5
  have hlt:n.toNat<es.length:=(List.getElem?_eq_some_iff.1 hel).1
  have hsz':sz=i.size:=(hsz _ _ hel).symm.trans hl
  have had:=ha (by intro e;subst e;simp at hlt)
  refine .det (u:=.pointer (some ⟨b,off+n.toNat * i.size,none⟩)) ?_ (.dat ?_) h6 rfl
  ·have hin:n<es.length:=by omega
   simp [execOp,ho,e1,e2,Instr.indexAt,asIntOf,run_underlying h1,had,hn,hin,zE h3,zh]
  ·have:=Dat.cp (D:=D) (w:=w) b (off+n.toNat * i.size) el 0 (fun j=>f (n.toNat * i.size+j)) (fun j hj=>?_) (fun j p hp=>?_)
   ·simpa using this
   ·rw [hl] at hj
    have hlt2:n.toNat * i.size+j<es.length * sz:=by
     rw [hsz']
     calc n.toNat * i.size+j<n.toNat * i.size+i.size:=by omega
      _=(n.toNat+1) * i.size:=by rw [Nat.add_mul];omega
      _<=es.length * i.size:=Nat.mul_le_mul_right _ hlt
    have:=hD _ hlt2
    rw [Nat.add_assoc];exact this
   ·have:=hd _ _ _ _ hel hp
    rw [hsz'] at this;exact this
 ·exact h5.elim
theorem zni {t e:TypeId} {x y:Operand} {x' y':PO} {i:TypeInfo} {m:Nat} (ho:o.op=.indexAddr t x y) (h1:P.underlying t=some (.array m e)) (h3:P.info? e=some i) (hx:po x=some x') (hy:po y=some y') (hk:PK.q P s (.aa x' y' m i.size) K):QS P o D ρ s a w K:=by
 simp only [PK.q] at hk
 obtain⟨j,n,e2,_,hn,h5⟩:=yu hk (hR.op hy (by simp [ho,Op.operands]))
 have hr:=hR.op hx (by simp [ho,Op.operands])
 split at h5
 ·rename_i i' o' e
  rw [e] at hr
  obtain⟨hi,e1⟩:=hr.inv_bx
  refine .det (u:=.pointer (some ⟨ρ i',o'+n.toNat * i.size,none⟩)) ?_ (.inl (.inr ⟨_,_,rfl,hi,rfl⟩)) h5 rfl
  simp [execOp,ho,e1,e2,Instr.indexAt,asIntOf,run_underlying h1,Instr.sureAddr,hn.1,hn.2,zE h3,zh]
 ·rename_i cs o' e
  rw [e] at hr
  obtain⟨b,off,u,e1,hc,hd⟩:=hr.inv_cp
  refine .det (u:=.pointer (some ⟨b,off+(o'+n.toNat * i.size),none⟩)) ?_ (.dat (.cp b off cs _ u hc hd)) h5 rfl
  simp [execOp,ho,e1,e2,Instr.indexAt,asIntOf,run_underlying h1,Instr.sureAddr,hn.1,hn.2,zE h3,zh,Nat.add_assoc]
 ·exact h5.elim
theorem zns {t e:TypeId} {x y:Operand} {x' y':PO} {ag:Bool} {m n':Nat} (ho:o.op=.index t x y) (h1:P.underlying t=some (.array m e)) (h3:XH P e=some (ag,n')) (hx:po x=some x') (hy:po y=some y') (hk:PK.q P s (.ix x' y' m ag n') K):QS P o D ρ s a w K:=by
 simp only [PK.q] at hk
 obtain⟨j,n,e2,_,hn,h5⟩:=yu hk (hR.op hy (by simp [ho,Op.operands]))
 have hr:=hR.op hx (by simp [ho,Op.operands])
 split at h5
 ·rename_i cs e
  rw [e] at hr
  obtain⟨vs,e1,hz,hc,hd⟩:=hr.inv_agg
  obtain⟨u,p,g1,g2,g3⟩:=VJ (P:=P) h3 h5 hz hc hd
  obtain⟨i,d,k1,k2,k3,k4⟩:=vT h3
  refine .strip (u:=u) (p:=p) ?_ (.dat g2) g3
  rw [<-k4] at g1
  simp [execOp,ho,e1,e2,Instr.index,asIntOf,run_underlying h1,hn.1,hn.2,zE k1,g1]
 ·exact h5.elim
theorem znq {t:TypeId} {x:Operand} {x':PO} {f:Nat} {fs:Array Field} {fd:Field} {ag:Bool} {n':Nat} (ho:o.op=.field t x f) (h1:P.underlying t=some (.struct fs)) (h2:fs[f]? = some fd) (h3:XH P fd.type=some (ag,n'))
 (hx:po x=some x') (hk:PK.q P s (.fl x' fd.offset ag n') K):QS P o D ρ s a w K:=by
 simp only [PK.q] at hk
 have hr:=hR.op hx (by simp [ho,Op.operands])
 split at hk
 ·rename_i cs e
  rw [e] at hr
  obtain⟨vs,e1,hz,hc,hd⟩:=hr.inv_agg
  obtain⟨u,p,g1,g2,g3⟩:=VJ (P:=P) h3 hk hz hc hd
  refine .strip (u:=u) (p:=p) ?_ (.dat g2) g3
  simp [execOp,ho,e1,Instr.field,run_underlying h1,h2,asAgg,g1]
 ·exact hk.elim
theorem znt {t:TypeId} {x:Operand} {x':PO} {ag:Bool} {n':Nat} (ho:o.op=.load t x) (h3:XH P t=some (ag,n')) (hx:po x=some x') (hk:PK.q P s (.ld x' ag n') K):QS P o D ρ s a w K:=by
 simp only [PK.q] at hk
 have hr:=hR.op hx (by simp [ho,Op.operands])
 split at hk
 ·rename_i cs o' e
  rw [e] at hr
  obtain⟨b,off,u,e1,hc,hd⟩:=hr.inv_cp
  have hall:ag=true->zY ((cs.drop o').take n')=true:=fun _=>by
   unfold zY
   rw [List.all_eq_true]
   intro p hp
   obtain⟨j,hj⟩:=List.getElem?_of_mem (List.mem_of_mem_drop (List.mem_of_mem_take hp))
   exact(hd j p hj).isD
  obtain⟨u',p,g1,g2,g3⟩:=Qv (P:=P) (ρ:=ρ) (nb:=s.b.length) h3 hk (fun j hj=>(hc j hj).2) (fun j p hp=>.dat (D:=D) (hd j p hp)) hall
  exact .strip (u:=u') (p:=p) (by simp [execOp,ho,e1,Instr.loadAt,Instr.sureAddr,g1]) g2 g3
 ·rename_i i' o' e
  rw [e] at hr
  obtain⟨hi,e1⟩:=hr.inv_bx
  split at hk
  ·rename_i cs hcs
   obtain⟨vs,e',hv,hz,hb⟩:=hR.boxes i' cs hcs
   have hcell:∀ j,j<cs.length->w.cell? ⟨ρ i',0+j,none⟩=some (vs.getD j undef)/\(vs.getD j undef).oneCell'=true:=fun j hj=>by
    refine⟨?_,(hb j _ (List.getElem?_eq_getElem hj)).2⟩
    simp only [World.cell?,hv]
    simp [show j<vs.size by omega]
   obtain⟨u',p,g1,g2,g3⟩:=Qv (P:=P) (D:=D) (ρ:=ρ) (nb:=s.b.length) h3 hk.2 hcell (fun j p hp=>(hb j p hp).1) (fun _=>hk.1)
   rw [Nat.zero_add] at g1
   exact .strip (u:=u') (p:=p) (by simp [execOp,ho,e1,Instr.loadAt,Instr.sureAddr,g1]) g2 g3
  ·exact hk.elim
 ·exact hk.elim
omit hR in
theorem K7 {t:TypeId} (h:jX P t=true):∃ k,P.underlying t=some (.int k):=by
 unfold jX at h
 split at h
 ·exact⟨_,by assumption⟩
 ·cases h
omit hR in
theorem ky {t:TypeId} (h:jX P t=true) {cs:Array Value} {o:Nat} {v:Value} (hv:cs[o]? = some v):(part t cs o).run P w=.ok v w:=by
 obtain⟨k,hu⟩:=K7 h
 simp [part,xy hu,Qb,hv]
omit hR in
theorem KT {t:TypeId} (h:jX P t=true) (d:Nat) (k:IntKind) (m n:Int):(Op.equalIn (d+1) t (.int k m) (.int k n)).run P w=.ok (decide (m=n)) w:=by
 obtain⟨kk,hu⟩:=K7 h
 rw [run_equalIn_int w d t k kk m n hu]
 congr 1
omit hR in
theorem KS (d:Nat) {vs us:Array Value}:∀(fs:List Field) (i:Nat) (xs ys:List PV),K8 P i fs=true->xs.length=fs.length->jy xs ys->(∀ j v,xs[j]? = some (.v v)->vs[i+j]? = some v)->(∀ j v,ys[j]? = some (.v v)->us[i+j]? = some v)->(Op.eqFields (d+1) vs us fs).run P w=.ok (xQ xs ys) w
 | [],i,xs,ys,_,hl,_,_,_=>by
   obtain rfl:xs=[]:=List.length_eq_zero_iff.1 hl
   simp [Op.eqFields,xQ]
 | f::fs,i,xs,ys,hi,hl,hc,hv,hu=>by
   unfold K8 at hi
   simp only [Bool.and_eq_true,bne_iff_ne,ne_eq,beq_iff_eq] at hi
   obtain⟨⟨⟨h1,h2⟩,h3⟩,h4⟩:=hi
   unfold jy at hc
   split at hc
   ·cases hl
   ·rename_i k a r k' b r'
    obtain⟨rfl,hc⟩:=hc
    have e1:=hv 0 _ rfl
    have e2:=hu 0 _ rfl
    rw [Nat.add_zero,<-h2] at e1 e2
    have ih:=KS d (vs:=vs) (us:=us) fs (i+1) r r' h4 (by simpa using hl) hc (fun j v h=>by have:=hv (j+1) v h;rwa [show i+(j+1)=i+1+j by omega] at this) (fun j v h=>by have:=hu (j+1) v h;rwa [show i+(j+1)=i+1+j by omega] at this)
    simp only [Op.eqFields,h1,ne_eq,not_false_eq_true,if_true,Sem.run_bind,ky (P:=P) (w:=w) h3 e1,ky (P:=P) (w:=w) h3 e2,Result.andThen_ok,KT (P:=P) (w:=w) h3 d k a b]
    by_cases hab:a=b
    ·simp [hab,ih,xQ]
    ·simp [hab,xQ]
   ·cases hc
omit hR in
theorem KR (d:Nat) {e:TypeId} (he:jX P e=true) {vs us:Array Value}:∀(xs ys:List PV) (i:Nat),jy xs ys->(∀ j v,xs[j]? = some (.v v)->vs[i+j]? = some v)->(∀ j v,ys[j]? = some (.v v)->us[i+j]? = some v)->(Op.eqItems (d+1) e 1 vs us (List.range' i xs.length)).run P w=.ok (xQ xs ys) w
 | [],ys,i,_,_,_=>by simp [Op.eqItems,xQ]
 | x::xs,ys,i,hc,hv,hu=>by
   unfold jy at hc
   split at hc
   ·rename_i h
    cases h
   ·rename_i k a r k' b r' h
    cases h
    obtain⟨rfl,hc⟩:=hc
    have e1:=hv 0 _ rfl
    have e2:=hu 0 _ rfl
    rw [Nat.add_zero] at e1 e2
    have ih:=KR d he (vs:=vs) (us:=us) xs r' (i+1) hc (fun j v h=>by have:=hv (j+1) v h;rwa [show i+(j+1)=i+1+j by omega] at this) (fun j v h=>by have:=hu (j+1) v h;rwa [show i+(j+1)=i+1+j by omega] at this)
    simp only [List.length_cons,List.range'_succ,Op.eqItems,Sem.run_bind,Nat.mul_one,ky (P:=P) (w:=w) he e1,ky (P:=P) (w:=w) he e2,Result.andThen_ok,KT (P:=P) (w:=w) he d k a b]
    by_cases hab:a=b
    ·simp [hab,ih,xQ]
    ·simp [hab,xQ]
   ·cases hc
omit hR in
theorem zfc {t:TypeId} {n:Nat} (ht:za9 P t=some n) {vs us:Array Value} {xs ys:List PV} (hl:xs.length=n) (hc:jy xs ys) (hv:∀ j v,xs[j]? = some (.v v)->vs[0+j]? = some v) (hu:∀ j v,ys[j]? = some (.v v)->us[0+j]? = some v):(Op.equal t (.agg vs) (.agg us)).run P w=.ok (xQ xs ys) w/\∀ op ox oy,(eqGuard op t ox oy (.agg vs) (.agg us)).run P w=.ok () w:=by
 unfold za9 at ht
 split at ht
 ·rename_i fs hf
  split at ht
  ·rename_i hcond
   simp only [Bool.and_eq_true,Bool.not_eq_true'] at hcond
   obtain⟨⟨h1,h2⟩,h3⟩:=hcond
   cases ht
   have hfo:P.fieldsOf t=fs:=by unfold Program.fieldsOf;rw [hf]
   refine⟨?_,fun op ox oy=>run_eqGuard_agg w op t ox oy vs us h3⟩
   show (Op.equalIn (9998+1+1) t _ _).run P w=_
   rw [run_equalIn_agg w _ t vs us (by rw [hfo];exact hf) h2,hfo]
   exact KS _ _ 0 xs ys h1 (by simpa using hl) hc hv hu
  ·cases ht
 ·rename_i m e hf
  split at ht
  ·rename_i hcond
   simp only [Bool.and_eq_true,Bool.not_eq_true',beq_iff_eq] at hcond
   obtain⟨⟨⟨h1,h2⟩,h3⟩,h4⟩:=hcond
   cases ht
   obtain⟨i,hi⟩:=Option.isSome_iff_exists.1 h2
   refine⟨?_,fun op ox oy=>run_eqGuard_agg w op t ox oy vs us h4⟩
   show (Op.equalIn (9998+1+1) t _ _).run P w=_
   rw [run_equalIn_array w _ vs us hf hi,h3,List.range_eq_range',<-hl]
   exact KR _ h1 xs ys 0 hc hv hu
  ·cases ht
 ·cases ht
omit hR in
theorem KU:∀ {xs ys:List PV},jy xs ys->(∀ p ∈ xs,∃ v,p=.v v)/\∀ p ∈ ys,∃ v,p=.v v
 | [],[],_=>⟨by simp,by simp⟩
 | [],_::_,h=>by simp [jy] at h
 | x::xs,ys,h=>by
   unfold jy at h
   split at h
   ·rename_i e
    cases e
   ·rename_i e
    cases e
    obtain⟨i1,i2⟩:=KU h.2
    exact⟨fun p hp=>(List.mem_cons.1 hp).elim (fun e=>⟨_,e⟩) (i1 p),fun p hp=>(List.mem_cons.1 hp).elim (fun e=>⟨_,e⟩) (i2 p)⟩
   ·cases h
theorem zlx {op:BinOp} {t t':TypeId} {x y:Operand} {x' y':PO} (ho:o.op=.binOp op t x y t') (hop:op=.eql\/op=.neq) (ht:(za9 P t).isSome=true) (hx:po x=some x') (hy:po y=some y') (hk:zbz (op == .neq) ((za9 P t).getD 0) (s.ev x') (s.ev y') K):QS P o D ρ s a w K:=by
 have hrx:=hR.op hx (by simp [ho,Op.operands])
 have hry:=hR.op hy (by simp [ho,Op.operands])
 obtain⟨n,hn⟩:=Option.isSome_iff_exists.1 ht
 rw [hn] at hk
 unfold zbz at hk
 split at hk
 ·rename_i xs ys ex ey
  obtain⟨⟨hl,hc⟩,hk⟩:=hk
  rw [ex] at hrx
  rw [ey] at hry
  have get:∀ {u:Value} {ps:List PV},(∀ p ∈ ps,∃ v,p=.v v)->Rel D ρ s.b.length w u (.agg ps)->∃ vs:Array Value,u=.agg vs/\∀ j v,ps[j]? = some (.v v)->vs[0+j]? = some v:=fun hall h=>by
   obtain⟨vs,rfl,hz,_,hd⟩:=h.inv_agg
   refine⟨vs,rfl,fun j v hj=>?_⟩
   have h0:=hd j _ hj
   have hj':j<vs.size:=by rw [hz];exact(List.getElem?_eq_some_iff.1 hj).1
   rw [Array.getD_eq_getD_getElem?,Array.getElem?_eq_getElem hj',Option.getD_some] at h0
   rw [Nat.zero_add,Array.getElem?_eq_getElem hj']
   generalize vs[j]=z at h0
   cases h0
   rfl
  obtain⟨a1,a2⟩:=KU hc
  obtain⟨vs,e1,hv⟩:=get a1 hrx
  obtain⟨us,e2,hu⟩:=get a2 hry
  obtain⟨r1,r2⟩:=zfc (P:=P) (w:=w) hn hl hc hv hu
  refine .det ?_ (.dat (.v _)) hk rfl
  rcases hop with rfl | rfl
  ·simp only [execOp,ho,Sem.run_bind,e1,e2,r2,Result.andThen_ok,Sem.run_pure,binOp,r1]
   cases xQ xs ys<;>rfl
  ·simp only [execOp,ho,Sem.run_bind,e1,e2,r2,Result.andThen_ok,Sem.run_pure,binOp,r1]
   cases xQ xs ys<;>rfl
 ·exact hk.elim
theorem znu {t:TypeId} {e:TypeId} {x:Operand} {x':PO} {c:Call} (ho:o.op=.call c) (hc:c.callee=.builtin .len) (ha:c.args=#[x]) (hat:c.argTypes=#[t]) (h1:P.underlying t=some (.slice e)) (hx:po x=some x')
 (hk:QA (s.ev x') fun es=>K (.v (.int .i64 es.length))):QS P o D ρ s a w K:=by
 obtain⟨es,k,ex,h4⟩:=y8 hk
 have hr:=hR.op hx (by simp [ho,Op.operands,Call.operands,hc,ha])
 rw [ex] at hr
 obtain⟨ad,cap,sz,b,off,f,e1,_⟩:=hr.inv_sl
 refine .det (u:=.int .i64 es.length) ?_ (.dat (.v _)) h4 rfl
 simp [execOp,ho,resolve,hc,ha,hat,invoke,builtin,Builtin.len_,run_underlying h1,e1,goInt]
theorem zno {x:Operand} {x':PO} {i:Nat} (ho:o.op=.extract x i) (hx:po x=some x') (hk:PK.q P s (.ex x' i) K):QS P o D ρ s a w K:=by
 simp only [PK.q] at hk
 have hr:=hR.op hx (by simp [ho,Op.operands])
 split at hk
 ·rename_i cs e
  rw [e] at hr
  obtain⟨vs,e1,hz,hd⟩:=hr.inv_tup
  split at hk
  ·rename_i p hp
   have hi:i<vs.size:=Y7 hz hp
   refine .strip (u:=vs.getD i undef) (p:=p) ?_ (.dat (hd i p hp)) hk
   simp [execOp,ho,e1,Instr.extract,hi]
  ·exact hk.elim
 ·exact hk.elim
theorem znx {x:Operand} {x':PO} (ho:o.op=.nilCheck x) (hx:po x=some x') (hk:PK.q P s (.nc x') K):QS P o D ρ s a w K:=by
 simp only [PK.q] at hk
 have hr:=hR.op hx (by simp [ho,Op.operands])
 split at hk
 ·rename_i i o' e
  rw [e] at hr
  obtain⟨hi,e1⟩:=hr.inv_bx
  exact .det (by simp [execOp,ho,e1]) hr hk rfl
 ·rename_i cs o' e
  rw [e] at hr
  obtain⟨b,off,u,e1,hc,hd⟩:=hr.inv_cp
  exact .det (by simp [execOp,ho,e1]) hr hk rfl
 ·exact hk.elim
theorem znw {t:TypeId} {d:TypeDesc} {x:Operand} {x':PO} (ho:o.op=.makeInterface t x) (h1:P.underlying t=some d) (h2:∀ ms,d≠.interface ms) (hx:po x=some x') (hk:PK.q P s (.mi t x') K):QS P o D ρ s a w K:=by
 simp only [PK.q] at hk
 have hr:=hR.op hx (by simp [ho,Op.operands])
 split at hk
 ·rename_i hd
  refine .det (u:=.iface t (a.eval x)) ?_ (.dat (.ifc _ _ _ (hr.data hd).sh)) hk rfl
  simp only [execOp,ho,Sem.run_bind,Instr.makeInterface,run_underlying h1,Result.andThen_ok]
  cases d<;>first | rfl | exact absurd rfl (h2 _)
 ·exact hk.elim
theorem znv {f:Fn} {fs cs:Array Operand} {fs' cs':List PO} (ho:o.op=.makeFunc f fs cs) (h1:Qu fs.toList=some fs') (h2:Qu cs.toList=some cs') (hk:PK.q P s (.mf f fs' cs') K):QS P o D ρ s a w K:=by
 simp only [PK.q,Bool.and_eq_true,List.all_eq_true,Bool.or_eq_true] at hk
 obtain⟨⟨hd,hd2⟩,hk⟩:=hk
 obtain⟨l1,p1⟩:=kz h1
 obtain⟨l2,p2⟩:=kz h2
 have key:∀ {ys:Array Operand} {ys':List PO},ys'.length=ys.toList.length->(∀(i:Nat) (y:Operand),ys.toList[i]? = some y->∃ y',ys'[i]? = some y'/\po y=some y')->(∀ x ∈ ys',(s.ev x).sh.isD=true\/(s.ev x).sh.isB=true)->(∀ y ∈ ys.toList,y ∈ o.op.operands.toList) ->
  ∀(i:Nat) q,(ys'.map fun x=>(s.ev x).sh)[i]? = some q->Rel1 D ρ s.b.length w ((ys.map a.eval).getD i undef) q:=by
  intro ys ys' hl hp hdd hop i q hq
  simp only [List.getElem?_map,Option.map_eq_some_iff] at hq
  obtain⟨x',hx',rfl⟩:=hq
  have hi:i<ys.toList.length:=by rw [<-hl];exact(List.getElem?_eq_some_iff.1 hx').1
  obtain⟨y',hy',hpo⟩:=hp i _ (List.getElem?_eq_getElem hi)
  rw [hx'] at hy'
  cases hy'
  have hr:Rel D ρ s.b.length w (a.eval ys.toList[i]) (s.ev x').sh:=by
   have:=hR.op hpo (hop _ (List.getElem_mem hi))
   rcases hdd x' (List.mem_of_getElem? hx') with h | h
   ·exact .dat ((this.data (by rwa [PV.sh_isD] at h)).sh)
   ·rcases this with(this | ⟨i,o,e,h1,h2⟩) | ⟨f,va,vb,fs,cs,e,_⟩
    ·exact .dat this.sh
    ·exact .inl (.inr ⟨i,o,by rw [e];rfl,h1,h2⟩)
    ·rw [e] at h;cases h
  have e:(ys.map a.eval).getD i undef=a.eval ys.toList[i]:=by
   have:i<ys.size:=by simpa using hi
   simp [this]
  rw [e]
  rcases hdd x' (List.mem_of_getElem? hx') with h | h
  ·exact .inl (hr.data h)
  ·rcases hr with hr | ⟨f,va,vb,fs,cs,e,_⟩
   ·exact hr
   ·rw [e] at h;cases h
 refine .det (u:=.func f (fs.map a.eval) (cs.map a.eval)) (by simp [execOp,ho,Instr.makeFunc]) (.inr ⟨f,_,_,_,_,rfl,rfl,by simpa using l1.symm,by simpa using l2.symm,?_,?_⟩) hk rfl
 ·exact key l1 p1 hd fun y hy=>by simp only [ho,Op.operands,Array.toList_append,List.mem_append];exact .inl hy
 ·exact key l2 p2 hd2 fun y hy=>by simp only [ho,Op.operands,Array.toList_append,List.mem_append];exact .inr hy
theorem zly {m:Bool} {x y:Operand} {x' y':PO} {c:Call} (ho:o.op=.call c) (hc:c.callee=.builtin (if m then .max else .min)) (ha:c.args=#[x,y]) (hx:po x=some x') (hy:po y=some y') (hk:PK.q P s (.mm m x' y') K):QS P o D ρ s a w K:=by
 simp only [PK.q] at hk
 obtain⟨k,m1,e1,_,h4⟩:=yu hk (hR.op hx (by simp [ho,Op.operands,Call.operands,hc,ha]))
 obtain⟨k',m2,e2,_,rfl,h5⟩:=yu h4 (hR.op hy (by simp [ho,Op.operands,Call.operands,hc,ha]))
 refine .det ?_ (.dat (.v _)) h5 rfl
 cases m
 ·simp [execOp,ho,resolve,hc,ha,invoke,builtin,Builtin.min_,e1,e2,Builtin.min2]
 ·simp [execOp,ho,resolve,hc,ha,invoke,builtin,Builtin.max_,e1,e2,Builtin.max2]
end
end Go.Proofs.YtjimggclhlnfbaaGreatDoor
