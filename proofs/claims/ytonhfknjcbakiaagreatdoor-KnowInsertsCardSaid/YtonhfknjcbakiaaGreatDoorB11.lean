import Derived.ChangeKeysEq
import Derived.Laws.Concat
import Derived.Test.YtonhfknjcbakiaaGreatDoorB4
import Derived.Test.YtonhfknjcbakiaaGreatDoorB9
set_option linter.unusedVariables false
set_option linter.unusedSimpArgs false
namespace Go.Proofs.YtonhfknjcbakiaaGreatDoor
open Go.RowKit
attribute [local go_sem] Oper.semAt_some
def zB (a:Act):Nat->Value:=fun t=>a.tmps.getD t undef
theorem zai (D:Nat->Nat->Prop) (w:World) (v:Value):Dat D w v (Q6 v):=by
 unfold Q6
 split
 ·exact .sl none 0 1 [] .sh 0 0 (fun _=>undef) (Nat.le_refl _) (fun h=>by cases h) (Nat.zero_le _) (fun h=>absurd rfl h) (fun i e h=>by simp at h) (fun j h=>absurd h (by simp)) (fun i e j p h=>by simp at h)
 ·exact .v _
theorem zfT (D:Nat->Nat->Prop) (w:World) (v:Value):Dat D w v (ofV v):=by
 unfold ofV
 split
 ·exact .sl none 0 1 [] .z 0 0 (fun _=>undef) (Nat.le_refl _) (fun _=>rfl) (Nat.zero_le _) (fun h=>absurd rfl h) (fun i e h=>by simp at h) (fun j h=>absurd h (by simp)) (fun i e j p h=>by simp at h)
 ·rename_i vs
  split
  ·rename_i hall
   refine .agg vs _ (by simp) (fun i hi=>?_) fun i p u=>?_
   ·rw [List.all_eq_true] at hall
    have a:i<vs.size:=by simpa using hi
    exact hall _ (by simp [a])
   ·simp only [List.getElem?_map,Option.map_eq_some_iff] at u
    obtain⟨v,y,rfl⟩:=u
    have:vs.getD i undef=v:=by simp at y;simp [y]
    rw [this];exact zai D w v
  ·exact .v _
 ·exact .v _
structure Rd (D:Nat->Nat->Prop) (ρ:Nat->Nat) (s:PS) (x:Nat->Value) (ts:List Nat) (w:World):Prop where
 slots:∀ t ∈ ts,Rel D ρ s.b.length w (x t) (s.get t)
 boxes:∀(i:Nat) cs,s.b[i]? = some cs->zaA ⟨D,ρ⟩ s.b.length w i cs
 gl:GL D w
def zbZ (j:Nat->Value) (a:Nat) (s:PS) (x:Nat->Value) (u:List Nat) (w:World):Prop:=
 a<=w.heap.size/\∀ t ∈ u,NewOk j a w (x t) (s.get t)/\((s.get t).own≠none->j t=x t)
def Qok (P:Program) (o:Oper) (s:PS) (ρ:Nat->Nat) (D:Nat->Nat->Prop) (a:Act) (w:World) (p:PV):Prop:=
 ∀(next:Act->World->Prop) (Q:Exit->Act->World->Prop),(∀ u j,Below w.heap.size w j->Rel (fun b o=>D b o\/w.heap.size<=b) ρ s.b.length j u p->(∀ A y,zbZ A y s (zB a) (zA o) w->NewOk A y j u p)->next (a.put o.dst u) j)->o.wp P a w next Q
variable {P:Program} {o:Oper} {D:Nat->Nat->Prop} {ρ:Nat->Nat} {nb:Nat} {s:PS} {a:Act} {w:World}
theorem zby {u:Value} {p:PV} (C:(execOp a.eval o).run P w=.ok (.value u) w) (h:Rel D ρ s.b.length w u p) (A:∀ y j,zbZ y j s (zB a) (zA o) w->NewOk y j w u p):Qok P o s ρ D a w p:=by
 intro next Q B
 show o.upon P a next Q ((execOp a.eval o).run P w)
 rw [C]
 exact B u w (Below.refl _ _) (h.mono (fun _ _ h=>.inl h) (fun _ _ _ _ h=>h) (Nat.le_refl _) fun _ _=>rfl) A
theorem zlD {u:Value} {p:PV} {j:World} (E:(execOp a.eval o).run P w=.ok (.value u) j) (hb:Below w.heap.size w j) (h:Rel (fun b o=>D b o\/w.heap.size<=b) ρ s.b.length j u p) (B:∀ A y,zbZ A y s (zB a) (zA o) w->NewOk A y j u p):Qok P o s ρ D a w p:=by
 intro next Q C
 show o.upon P a next Q ((execOp a.eval o).run P w)
 rw [E]
 exact C u j hb h B
theorem Xk {y:Operand} {u:PO} (j:po y=some u) (h:∀ t,y=.tmp t->Rel D ρ nb w (zB a t) (s.get t)):Rel D ρ nb w (a.eval y) (s.ev u):=by
 cases y with
 | tmp t=>cases j;exact h t rfl
 | const v=>cases j;exact .dat (zfT D w v)
 | func f=>cases j;exact .dat (.fn (.func f) #[] #[] [] [] rfl rfl (fun i p h=>by simp at h) (fun i p h=>by simp at h))
 | global g=>cases j
theorem Rd.at {j:List Nat} (h:Rd D ρ s (zB a) j w) {y:Operand} {u:PO} (A:po y=some u) (ht:∀ t,y=.tmp t->t ∈ j):Rel D ρ s.b.length w (a.eval y) (s.ev u):=
 Xk A fun t e=>h.slots t (ht t e)
theorem Rel.inv_agg {u:Value} {a:List PV} (h:Rel D ρ nb w u (.agg a)):∃ j:Array Value,u=.agg j/\j.size=a.length/\(∀ i,i<a.length->(j.getD i undef).oneCell'=true)/\∀(i:Nat) p,a[i]? = some p->Dat D w (j.getD i undef) p:=by
 rcases h with(h | ⟨i,o,h,_⟩) | ⟨f,va,vb,fs,a,h,_⟩
 ·cases h with | agg j a hs h1 h=>exact⟨j,rfl,hs,h1,h⟩
 ·cases h
 ·cases h
theorem Rel.inv_tup {u:Value} {a:List PV} (h:Rel D ρ nb w u (.tup a)):∃ j:Array Value,u=.tuple j/\j.size=a.length/\∀(i:Nat) p,a[i]? = some p->Dat D w (j.getD i undef) p:=by
 rcases h with(h | ⟨i,o,h,_⟩) | ⟨f,va,vb,fs,a,h,_⟩
 ·cases h with | tup j a hs h=>exact⟨j,rfl,hs,h⟩
 ·cases h
 ·cases h
theorem Rel.inv_ifc {u:Value} {t:TypeId} {p:PV} (h:Rel D ρ nb w u (.ifc t p)):∃ x,u=.iface t x/\Dat D w x p:=by
 rcases h with(h | ⟨i,o,h,_⟩) | ⟨f,va,vb,fs,cs,h,_⟩
 ·cases h with | ifc t x p h=>exact⟨x,rfl,h⟩
 ·cases h
 ·cases h
theorem Rel.inv_bx {u:Value} {i o:Nat} (h:Rel D ρ nb w u (.bx i o)):i<nb/\u=.pointer (some ⟨ρ i,o,none⟩):=by
 rcases h with(h | ⟨i,o,h,hi,hu⟩) | ⟨f,va,vb,fs,cs,h,_⟩
 ·cases h
 ·cases h;exact⟨hi,hu⟩
 ·cases h
theorem Rel.inv_cp {u:Value} {y:List PV} {k:Nat} (h:Rel D ρ nb w u (.cp y k)):∃(b a:Nat) (f:Nat->Value),u=.pointer (some ⟨b,a+k,none⟩)/\(∀ j,j<y.length->D b (a+j)/\w.cell? ⟨b,a+j,none⟩=some (f j)/\(f j).oneCell'=true)/\∀(j:Nat) p,y[j]? = some p->Dat D w (f j) p:=by
 rcases h with(h | ⟨i,o,h,_⟩) | ⟨f,va,vb,fs,y,h,_⟩
 ·cases h with | cp b a y o u h1 h2=>exact⟨b,a,u,rfl,h1,h2⟩
 ·cases h
 ·cases h
theorem Rel.inv_sl {u:Value} {B:List (List PV)} {k:Ow} (h:Rel D ρ nb w u (.sl B k)):∃(E:Option Addr) (y C b A:Nat) (f:Nat->Value),u=.slice E B.length y/\B.length<=y/\(k=.z->y=B.length)/\y<=maxLen/\(B≠[]->E=some ⟨b,A,none⟩) /\
 (∀(i:Nat) e,B[i]? = some e->e.length=C)/\(∀ j,j<B.length * C->D b (A+j)/\w.cell? ⟨b,A+j,none⟩=some (f j)/\(f j).oneCell'=true)/\∀(i:Nat) e (j:Nat) p,B[i]? = some e->e[j]? = some p->Dat D w (f (i * C+j)) p:=by
 rcases h with(h | ⟨i,o,h,_⟩) | ⟨f,va,vb,fs,cs,h,_⟩
 ·cases h with | sl a y C B o b A u hc hz hm ha hsz hD h=>exact⟨a,y,C,b,A,u,rfl,hc,hz,hm,ha,hsz,hD,h⟩
 ·cases h
 ·cases h
theorem xE {p:PV} {K:Bool->Prop} {u:Value} (h:qV p K) (a:Rel D ρ nb w u p):∃ b,u=.bool b/\p=.v (.bool b)/\K b:=by
 unfold qV at h
 split at h
 ·exact⟨_,a.v_inv,rfl,h⟩
 ·exact h.elim
theorem yu {p:PV} {K:IntKind->Int->Prop} {u:Value} (h:vR p K) (a:Rel D ρ nb w u p):∃ k n,u=.int k n/\p=.v (.int k n)/\K k n:=by
 unfold vR at h
 split at h
 ·exact⟨_,_,a.v_inv,rfl,h⟩
 ·exact h.elim
theorem y8 {p:PV} {K:List (List PV)->Prop} (h:QA p K):∃ a k,p=.sl a k/\K a:=by
 unfold QA at h
 split at h
 ·exact⟨_,_,rfl,h⟩
 ·exact h.elim
theorem kC {k:IntKind} {n:Int} {K:PV->Prop} (h:qar k n K):K (.v (.int k (k.wrap n))):=by
 unfold qar at h
 split at h
 ·obtain⟨⟨a,u⟩,j⟩:=h
  have:IntKind.i64.wrap n=n:=IntWalk.i64_in _ ⟨a,by omega⟩
  rw [this];exact j
 ·exact h
theorem zd0 {op:BinOp} {k:IntKind} {x y:Int} {K:PV->Prop} (t:TypeId) (h:Xo op k x y K):∃ u,(binOp op t (.int k x) (.int k y)).run P w=.ok u w/\K (.v u):=by
 unfold Xo at h
 split at h
 case h_1=>exact⟨_,by simp [binOp,Op.intArith],kC h⟩
 case h_2=>exact⟨_,by simp [binOp,Op.intArith],kC h⟩
 case h_3=>exact⟨_,by simp [binOp,Op.intArith],kC h⟩
 case h_4=>exact⟨_,by simp [binOp,Op.intDiv,h.1],kC h.2⟩
 case h_5=>exact⟨_,by simp [binOp,Op.intDiv,h.1],h.2⟩
 case h_6=>exact⟨.bool (decide (x=y)),by simp [binOp,Op.intCmp];rfl,h⟩
 case h_7=>exact⟨.bool (!decide (x=y)),by simp [binOp,Op.intCmp];rfl,h⟩
 case h_8=>exact⟨_,by simp [binOp,Op.intCmp],h⟩
 case h_9=>exact⟨_,by simp [binOp,Op.intCmp],h⟩
 case h_10=>exact⟨_,by simp [binOp,Op.intCmp],h⟩
 case h_11=>exact⟨_,by simp [binOp,Op.intCmp],h⟩
 case h_12=>exact⟨_,by simp [binOp,Op.shift,Int.not_lt.2 h.1];rfl,h.2⟩
 case h_13=>exact h.elim
theorem X0 (op:BinOp) (t:TypeId) (x y:Operand) (k a:IntKind) (m n:Int):(eqGuard op t x y (.int k m) (.int a n)).run P w=.ok () w:=by
 unfold eqGuard;split<;>simp
theorem zdX {op:BinOp} {p q:PV} {K:PV->Prop} {u v:Value} (t:TypeId) (x y:Operand) (h:QB op p q K) (A:Rel D ρ nb w u p) (B:Rel D ρ nb w v q) :
 ∃ r,(do eqGuard op t x y u v;binOp op t u v:Sem Value).run P w=.ok r w/\K (.v r):=by
 unfold QB at h
 split at h
 ·obtain rfl:=A.v_inv
  obtain rfl:=B.v_inv
  obtain⟨rfl,h⟩:=h
  obtain⟨r,a,j⟩:=zd0 (P:=P) (w:=w) t h
  exact⟨r,by simp [X0,a],j⟩
 ·exact h.elim
theorem kh (op:BinOp) (t:TypeId) (x y:Operand) (m n:Bool):(eqGuard op t x y (.bool m) (.bool n)).run P w=.ok () w:=by
 unfold eqGuard;split<;>simp
theorem JD {t:TypeId} (ht:P.underlying t=some .bool) (m n:Bool):(Op.equal t (.bool m) (.bool n)).run P w=.ok (m == n) w:=by
 unfold Op.equal Op.maxDepth
 rw [show (10000:Nat)=9999+1 from rfl]
 unfold Op.equalIn
 simp [run_underlying ht]
theorem X1 (op:BinOp) (t:TypeId) (x:Operand):(eqGuard op t x (.const .nilIface) .nilIface .nilIface).run P w=.ok () w:=by
 unfold eqGuard;cases op<;>cases x<;>simp
theorem Y5 (op:BinOp) (t a:TypeId) (x y:Operand) (v:Value):(eqGuard op t x y (.iface a v) .nilIface).run P w=.ok () w:=by
 unfold eqGuard;cases op<;>simp
theorem za3 {t:TypeId} {ms} (ht:P.underlying t=some (.interface ms)):(Op.equal t .nilIface .nilIface).run P w=.ok true w:=by
 unfold Op.equal Op.maxDepth
 rw [show (10000:Nat)=9999+1 from rfl]
 unfold Op.equalIn
 simp [run_underlying ht]
theorem JE {t:TypeId} {ms} (ht:P.underlying t=some (.interface ms)) (a:TypeId) (v:Value):(Op.equal t (.iface a v) .nilIface).run P w=.ok false w:=by
 unfold Op.equal Op.maxDepth
 rw [show (10000:Nat)=9999+1 from rfl]
 unfold Op.equalIn
 simp [run_underlying ht]
theorem Y7 {l:List PV} {a:Array Value} {i:Nat} {p:PV} (hs:a.size=l.length) (j:l[i]? = some p):i<a.size:=by rw [hs];exact(List.getElem?_eq_some_iff.1 j).1
def CellsR (D:Nat->Nat->Prop) (ρ:Nat->Nat) (nb:Nat) (w:World) (u:Value) (a:List PV):Prop:=
 u.cells.size=a.length/\∀(i:Nat) p,a[i]? = some p->Rel D ρ nb w (u.cells.getD i undef) p/\(u.cells.getD i undef).oneCell'=true
theorem yG {u:Value} {p:PV} (h:Rel D ρ nb w u p) (j:u.oneCell'=true):CellsR D ρ nb w u [p]:=by
 have e:u.cells=#[u]:=by cases u<;>first | rfl | cases j
 refine⟨by rw [e];rfl,fun i q a=>?_⟩
 have hi:i=0:=by have:=(List.getElem?_eq_some_iff.1 a).1;simpa using this
 subst hi
 simp at a
 subst a
 rw [e]
 exact⟨h,j⟩
theorem xY {p:PV} {K:List PV->Prop} {u:Value} (h:qW p K) (a:Rel D ρ nb w u p):∃ j,K j/\CellsR D ρ nb w u j:=by
 unfold qW at h
 split at h
 ·obtain⟨C,rfl,hs,A,B⟩:=a.inv_agg
  exact⟨_,h,hs,fun i p y=>⟨.dat (B i p y),A i (List.getElem?_eq_some_iff.1 y).1⟩⟩
 ·obtain rfl:=a.v_inv
  exact⟨_,h.2,yG a h.1⟩
 ·obtain⟨_,_,_,_,_,_,rfl,_⟩:=a.inv_sl
  exact⟨_,h,yG a rfl⟩
 ·obtain⟨_,_,_,rfl,_⟩:=a.inv_cp
  exact⟨_,h,yG a rfl⟩
 ·obtain⟨_,rfl⟩:=a.inv_bx
  exact⟨_,h,yG a rfl⟩
 ·refine⟨_,h,yG a ?_⟩
  rcases a with(a | ⟨i,o,a,_⟩) | ⟨f,va,vb,fs,j,_,rfl,_⟩
  ·cases a;rfl
  ·cases a
  ·rfl
 ·obtain⟨_,rfl,_⟩:=a.inv_ifc
  exact⟨_,h,yG a rfl⟩
 ·exact h.elim
theorem xy {t:TypeId} {d:TypeDesc} (h:P.underlying t=some d):(isAgg t).run P w=.ok (Qb d) w:=by
 unfold isAgg
 simp only [Sem.run_bind,run_underlying h,Result.andThen_ok]
 cases d<;>simp [Qb]
theorem zE {t:TypeId} {i:TypeInfo} (h:P.info? t=some i):(sizeOf t).run P w=.ok i.size w:=by simp [sizeOf,typeInfo,h]
theorem vT {t:TypeId} {a:Bool} {n:Nat} (h:XH P t=some (a,n)):∃ i d,P.info? t=some i/\P.underlying t=some d/\Qb d=a/\i.size=n:=by
 unfold XH at h
 simp only [Option.bind_eq_some_iff,Option.map_eq_some_iff] at h
 obtain⟨i,hi,d,j,e⟩:=h
 cases e
 exact⟨i,d,hi,j,rfl,rfl⟩
theorem Zs {t:TypeId} {n:Nat} {a:Addr} {v:Value} (h:XH P t=some (false,n)) (y:w.cell? a=some v):(loadVar t a).run P w=.ok v w:=by
 obtain⟨i,d,A,j,u,B⟩:=vT h
 simp [loadVar,xy j,u,y]
theorem Vo {t:TypeId} {n:Nat} {a:Addr} {f:Nat->Value} (h:XH P t=some (true,n)) (C:∀ j,j<n->w.cell? (a.add j)=some (f j)):(loadVar t a).run P w=.ok (.agg ((List.range n).map f).toArray) w:=by
 obtain⟨i,d,u,y,A,B⟩:=vT h
 subst B
 simp [loadVar,xy y,A,zE u,run_loadCells w a i.size f C]
theorem zh (b o j:Nat):(⟨b,o,none⟩:Addr).add j=⟨b,o+j,none⟩:=by unfold Addr.add;split<;>simp_all
theorem Qv {t:TypeId} {B:Bool} {n b A o:Nat} {C:List PV} {f:Nat->Value} {K:PV->Prop} (hs:XH P t=some (B,n)) (y:VI C o B n K)
 (F:∀ j,j<C.length->w.cell? ⟨b,A+j,none⟩=some (f j)/\(f j).oneCell'=true) (H:∀(j:Nat) p,C[j]? = some p->Rel D ρ nb w (f j) p) (J:B=true->zY ((C.drop o).take n)=true) :
 ∃ u p,(loadVar t ⟨b,A+o,none⟩).run P w=.ok u w/\Rel D ρ nb w u p/\K p:=by
 unfold VI at y
 cases B with
 | true=>
   obtain⟨L,I⟩:=y
   refine⟨_,_,Vo (f:=fun j=>f (o+j)) hs (fun j M=>?_),?_,I⟩
   ·rw [zh,Nat.add_assoc];exact(F _ (by omega)).1
   ·refine .dat (.agg _ _ (by simp;omega) (fun i hi=>?_) fun i p a=>?_)
    ·have G:i<n:=by simp at hi;omega
     have:((List.range n).map fun j=>f (o+j)).toArray.getD i undef=f (o+i):=by simp [G]
     rw [this];exact(F _ (by omega)).2
    ·have hi:i<n:=by have:=(List.getElem?_eq_some_iff.1 a).1;simp at this;omega
     have:((List.range n).map fun j=>f (o+j)).toArray.getD i undef=f (o+i):=by simp [hi]
     rw [this]
     have E:=J rfl
     unfold zY at E
     rw [List.all_eq_true] at E
     refine(H _ _ ?_).data (E p (List.mem_of_getElem? a))
     rw [List.getElem?_take,if_pos hi,List.getElem?_drop] at a
     exact a
 | false=>
   simp only at y
   split at y
   ·rename_i p a
    exact⟨_,p,Zs hs (F o (List.getElem?_eq_some_iff.1 a).1).1,H _ _ a,y⟩
   ·exact y.elim
theorem VJ {t:TypeId} {F:Bool} {n o:Nat} {E:List PV} {a:Array Value} {K:PV->Prop} (hs:XH P t=some (F,n)) (A:VI E o F n K) (hz:a.size=E.length) (L:∀ i,i<E.length->(a.getD i undef).oneCell'=true)
 (I:∀(j:Nat) p,E[j]? = some p->Dat D w (a.getD j undef) p):∃ u p,(part t a o).run P w=.ok u w/\Dat D w u p/\K p:=by
 obtain⟨i,d,e1,e2,H,e4⟩:=vT hs
 unfold VI at A
 subst e4
 cases F with
 | true=>
   obtain⟨N,J⟩:=A
   refine⟨.agg (a.extract o (o+i.size)),_,by simp [part,xy e2,H,zE e1],?_,J⟩
   have C:∀ j,j<i.size->(a.extract o (o+i.size)).getD j undef=a.getD (o+j) undef:=fun j B=>by
    have:o+j<a.size:=by omega
    have M:j<(a.extract o (o+i.size)).size:=by simp;omega
    simp [Array.getD_eq_getD_getElem?,Array.getElem?_eq_getElem M,Array.getElem?_eq_getElem this]
   refine .agg _ _ (by simp;omega) (fun j B=>?_) fun j p y=>?_
   ·have G:j<i.size:=by simp at B;omega
    rw [C j G];exact L _ (by omega)
   ·have B:j<i.size:=by have:=(List.getElem?_eq_some_iff.1 y).1;simp at this;omega
    rw [C j B]
    rw [List.getElem?_take,if_pos B,List.getElem?_drop] at y
    exact I _ _ y
 | false=>
   simp only at A
   split at A
   ·rename_i p y
    have ho:o<a.size:=Y7 hz y
    refine⟨a.getD o undef,p,?_,I _ _ y,A⟩
    simp [part,xy e2,H,ho]
   ·exact A.elim
end Go.Proofs.YtonhfknjcbakiaaGreatDoor
namespace Go.Proofs.YtonhfknjcbakiaaGreatDoor
open Go.RowKit
variable {P:Program} {o:Oper} {D:Nat->Nat->Prop} {ρ:Nat->Nat} {nb:Nat} {s:PS} {a:Act} {w:World}
theorem QC {o:Oper} {t:Tmp} (h:Operand.tmp t ∈ o.op.operands.toList):t ∈ zA o:=by
 unfold zA
 exact List.mem_filterMap.2 ⟨_,h,rfl⟩
theorem Rd.op (h:Rd D ρ s (zB a) (zA o) w) {y:Operand} {y':PO} (u:po y=some y') (j:y ∈ o.op.operands.toList):Rel D ρ s.b.length w (a.eval y) (s.ev y'):=
 h.at u fun t e=>QC (by rw [<-e];exact j)
theorem kz:∀ {l:List Operand} {a:List PO},Qu l=some a->a.length=l.length/\∀(i:Nat) (y:Operand),l[i]? = some y->∃ j,a[i]? = some j/\po y=some j
 | [],a,h=>by cases h;exact⟨rfl,fun i y h=>by simp at h⟩
 | x::r,a,h=>by
   simp only [Qu,Option.bind_eq_some_iff,Option.map_eq_some_iff] at h
   obtain⟨y,A,l,hl,rfl⟩:=h
   obtain⟨u,w⟩:=kz hl
   refine⟨by simp [u],fun i z hz=>?_⟩
   cases i with
   | zero=>simp at hz;subst hz;exact⟨y,rfl,A⟩
   | succ i=>simpa using w i z (by simpa using hz)
def QS (P:Program) (o:Oper) (D:Nat->Nat->Prop) (ρ:Nat->Nat) (s:PS) (a:Act) (w:World) (K:PV->Prop):Prop:=∃ p,K p/\p.own=none/\Qok P o s ρ D a w p
theorem QS.det {K:PV->Prop} {u:Value} {p:PV} (y:(execOp a.eval o).run P w=.ok (.value u) w) (h:Rel D ρ s.b.length w u p) (hk:K p) (ho:p.own=none) (j:p.isN=false:=by rfl):QS P o D ρ s a w K:=⟨p,hk,ho,zby y h fun _ _ _=>xA j⟩
theorem QS.strip {K:PV->Prop} {u:Value} {p:PV} (j:(execOp a.eval o).run P w=.ok (.value u) w) (h:Rel D ρ s.b.length w u p) (hk:K p.strip):QS P o D ρ s a w K:=⟨p.strip,hk,p.strip_own,zby j h.strip fun _ _ _=>xA p.strip_isN⟩
section
variable {K:PV->Prop} (hR:Rd D ρ s (zB a) (zA o) w)
include hR
theorem zlz {x:Operand} {G:PO} (ho:o.op=.move x\/o.op=.assign x) (C:po x=some G) (hk:PK.q P s (.mv G) K):QS P o D ρ s a w K:=by
 have y:(execOp a.eval o).run P w=.ok (.value (a.eval x)) w:=by rcases ho with ho | ho<;>simp [execOp,ho]
 have I:x ∈ o.op.operands.toList:=by rcases ho with ho | ho<;>simp [ho,Op.operands]
 have hrel:=hR.op C I
 cases G with
 | t i=>
   have E:x=.tmp i:=by cases x<;>first | (cases C;rfl) | cases C
   subst E
   simp only [PK.q] at hk
   rcases PV.pre_or i (s.get i) with e | ⟨B,n,m,e1,e2⟩
   ·rw [e] at hk
    exact .strip y hrel hk
   ·rw [e2] at hk
    have j:Rel D ρ s.b.length w (zB a i) (.sl B (.r n m)):=e1 ▸ hrel
    obtain⟨H,u,T,b,F,f,A,J,U,L,M,N,O,Q⟩:=j.inv_sl
    refine⟨_,hk,rfl,zby y ?_ fun X V S=>⟨H,B.length,u,?_,?_⟩⟩
    ·show Rel D ρ s.b.length w (zB a i) _
     rw [A]
     exact .dat (.sl H u T B _ b F f J (fun h=>by cases h) L M N O Q)
    ·have:=(S.2 i (QC I)).2 (by rw [e1];simp [PV.own])
     rw [this,A]
    ·exact A
 | c p=>exact .strip y hrel hk
 | f p=>exact .strip y hrel hk
theorem zny {c x y:Operand} {j u A:PO} (ho:o.op=.pick c x y) (E:po c=some j) (F:po x=some u) (G:po y=some A)
 (hk:qV (s.ev j) fun b=>(b=true->K (s.ev u).strip)/\(b=false->K (s.ev A).strip)):QS P o D ρ s a w K:=by
 obtain⟨b,e1,_,B,C⟩:=xE hk (hR.op E (by simp [ho,Op.operands]))
 cases b with
 | true=>exact .strip (by simp [execOp,ho,e1,asBool]) (hR.op F (by simp [ho,Op.operands])) (B rfl)
 | false=>exact .strip (by simp [execOp,ho,e1,asBool]) (hR.op G (by simp [ho,Op.operands])) (C rfl)
theorem zlv {op:BinOp} {t G:TypeId} {x y:Operand} {j A:PO} (ho:o.op=.binOp op t x y G) (E:po x=some j) (F:po y=some A) (hk:QB op (s.ev j) (s.ev A) K):QS P o D ρ s a w K:=by
 obtain⟨r,B,C⟩:=zdX (P:=P) t x y hk (hR.op E (by simp [ho,Op.operands])) (hR.op F (by simp [ho,Op.operands]))
 refine .det (u:=r) ?_ (.dat (.v _)) C rfl
 simp only [execOp,ho,Sem.run_bind,B,Result.andThen_ok,Sem.run_pure]
theorem zlu {op:BinOp} {t G:TypeId} {x y:Operand} {u A:PO} (ho:o.op=.binOp op t x y G) (j:op=.eql\/op=.neq) (ht:P.underlying t=some .bool) (E:po x=some u) (F:po y=some A)
 (hk:qV (s.ev u) fun a=>qV (s.ev A) fun b=>K (.v (.bool ((op == .neq) != (a == b))))):QS P o D ρ s a w K:=by
 obtain⟨m,e1,_,B⟩:=xE hk (hR.op E (by simp [ho,Op.operands]))
 obtain⟨n,e2,_,C⟩:=xE B (hR.op F (by simp [ho,Op.operands]))
 refine .det ?_ (.dat (.v _)) C rfl
 have hb:=JD (P:=P) (w:=w) ht m n
 rcases j with rfl | rfl
 ·simp only [execOp,ho,Sem.run_bind,e1,e2,kh,Result.andThen_ok,Sem.run_pure,binOp,hb]
  cases m<;>cases n<;>rfl
 ·simp only [execOp,ho,Sem.run_bind,e1,e2,kh,Result.andThen_ok,Sem.run_pure,binOp,hb]
  cases m<;>cases n<;>rfl
theorem zpV {op:BinOp} {t H:TypeId} {x y:Operand} {C E:PO} (ho:o.op=.binOp op t x y H) (B:zoQ op=true) (F:po x=some C) (G:po y=some E) (hk:PK.q P s (.sb op C E) K):QS P o D ρ s a w K:=by
 have u:=hR.op F (by simp [ho,Op.operands])
 have A:=hR.op G (by simp [ho,Op.operands])
 simp only [PK.q] at hk
 unfold qsb at hk
 split at hk
 ·rename_i p q ex ey
  rw [ex] at u
  rw [ey] at A
  have e1:=u.v_inv
  have e2:=A.v_inv
  obtain⟨hs,hk⟩:=hk
  have j:=run_string_add_sum (P:=P) (w:=w) p q hs
  cases op<;>first
   | exact absurd B (by decide)
   | (refine .det ?_ (.dat (.v _)) hk rfl;simp [execOp,ho,e1,e2,eqGuard,binOp,j];done)
   | (refine .det ?_ (.dat (.v _)) hk rfl;simp [execOp,ho,e1,e2,eqGuard,binOp,Op.stringOp])
 ·exact hk.elim
theorem zlB {op:BinOp} {t C:TypeId} {x:Operand} {A:PO} {ms} (ho:o.op=.binOp op t x (.const .nilIface) C) (j:op=.eql\/op=.neq) (ht:P.underlying t=some (.interface ms)) (B:po x=some A)
 (hk:PK.q P s (.nil (op == .neq) A) K):QS P o D ρ s a w K:=by
 have u:=hR.op B (by simp [ho,Op.operands])
 simp only [PK.q] at hk
 split at hk
 ·rename_i e
  rw [e] at u
  have e1:=u.v_inv
  refine .det ?_ (.dat (.v _)) hk rfl
  have y:a.eval (.const .nilIface)=.nilIface:=rfl
  rcases j with rfl | rfl<;>simp only [execOp,ho,Sem.run_bind,e1,y,X1,Result.andThen_ok,Sem.run_pure,binOp,za3 ht]<;>rfl
 ·rename_i tt pp e
  rw [e] at u
  obtain⟨v,e1,_⟩:=u.inv_ifc
  refine .det ?_ (.dat (.v _)) hk rfl
  have y:a.eval (.const .nilIface)=.nilIface:=rfl
  rcases j with rfl | rfl<;>simp only [execOp,ho,Sem.run_bind,e1,y,Y5,Result.andThen_ok,Sem.run_pure,binOp,JE ht]<;>rfl
 ·exact hk.elim
theorem zlC {t:TypeId} {x:Operand} {j:PO} (ho:o.op=.unOp .not t x) (y:po x=some j) (hk:qV (s.ev j) fun b=>K (.v (.bool (!b)))):QS P o D ρ s a w K:=by
 obtain⟨b,e1,_,u⟩:=xE hk (hR.op y (by simp [ho,Op.operands]))
 exact .det (by simp [execOp,ho,e1,Op.unary]) (.dat (.v _)) u rfl
theorem zlA {t:TypeId} {x:Operand} {A:PO} (ho:o.op=.unOp .neg t x) (C:po x=some A) (hk:QB .sub (.v (.int .i64 0)) (s.ev A) K):QS P o D ρ s a w K:=by
 have y:=hR.op C (by simp [ho,Op.operands])
 unfold QB at hk
 split at hk
 ·rename_i k1 n1 k2 n2 e1 e2
  cases e1
  rw [e2] at y
  have B:=y.v_inv
  obtain⟨rfl,hk⟩:=hk
  have j:qar .i64 (0 - n2) K:=hk
  exact .det (u:=.int .i64 (IntKind.i64.wrap (0 - n2))) (by simp [execOp,ho,B,Op.unary,Op.intArith]) (.dat (.v _)) (kC j) rfl
 ·exact hk.elim
theorem znn {t u:TypeId} {x:Operand} {y:PO} {k F:IntKind} (ho:o.op=.convert t u x) (A:P.underlying t=some (.int F)) (B:P.underlying u=some (.int k)) (E:po x=some y) (hk:vR (s.ev y) fun _ n=>K (.v (.int k (k.wrap n)))):QS P o D ρ s a w K:=by
 obtain⟨j,n,e1,_,C⟩:=yu hk (hR.op E (by simp [ho,Op.operands]))
 exact .det (by simp [execOp,ho,e1,convert,run_underlying A,run_underlying B,Conv.intToInt]) (.dat (.v _)) C rfl
theorem znp {t:TypeId} {x:Operand} {H:PO} {f:Nat} {B:Array Field} {j:Field} {i:TypeInfo} (ho:o.op=.fieldAddr t x f) (C:P.underlying t=some (.struct B)) (E:B[f]? = some j) (F:P.info? j.type=some i) (G:i.size≠0)
 (L:po x=some H) (hk:PK.q P s (.fa H j.offset) K):QS P o D ρ s a w K:=by
 have A:=hR.op L (by simp [ho,Op.operands])
 simp only [PK.q] at hk
 split at hk
 ·rename_i i' o' e
  rw [e] at A
  obtain⟨hi,e1⟩:=A.inv_bx
  refine .det (u:=.pointer (some ⟨ρ i',o'+j.offset,none⟩)) ?_ (.inl (.inr ⟨_,_,rfl,hi,rfl⟩)) hk rfl
  simp [execOp,ho,e1,Instr.fieldAt,run_underlying C,E,Instr.sureAddr,fieldPlace,zE F,G,zh]
 ·rename_i cs o' e
  rw [e] at A
  obtain⟨b,y,u,e1,I,J⟩:=A.inv_cp
  refine .det (u:=.pointer (some ⟨b,y+(o'+j.offset),none⟩)) ?_ (.dat (.cp b y cs _ u I J)) hk rfl
  simp [execOp,ho,e1,Instr.fieldAt,run_underlying C,E,Instr.sureAddr,fieldPlace,zE F,G,zh,Nat.add_assoc]
 ·exact hk.elim
theorem znr {t e:TypeId} {x y:Operand} {N O:PO} {i:TypeInfo} (ho:o.op=.indexAddr t x y) (S:P.underlying t=some (.slice e)) (T:P.info? e=some i) (hx:po x=some N) (hy:po y=some O) (hk:PK.q P s (.ia N O i.size) K):QS P o D ρ s a w K:=by
 simp only [PK.q] at hk
 obtain⟨F,k,ex,U⟩:=y8 hk
 obtain⟨j,n,e2,_,hn,G⟩:=yu U (hR.op hy (by simp [ho,Op.operands]))
 have L:=hR.op hx (by simp [ho,Op.operands])
 rw [ex] at L
 obtain⟨ad,Q,M,b,E,f,e1,hc,hz,hm,Y,J,X,Z⟩:=L.inv_sl
 split at G
 ·rename_i el hel
  obtain⟨hl,V⟩:=G
  have B:n.toNat<F.length:=(List.getElem?_eq_some_iff.1 hel).1
  have A:M=i.size:=(J _ _ hel).symm.trans hl
  have H:=Y (by intro e;subst e;simp at B)
  refine .det (u:=.pointer (some ⟨b,E+n.toNat * i.size,none⟩)) ?_ (.dat ?_) V rfl
  ·have I:n<F.length:=by omega
   simp [execOp,ho,e1,e2,Instr.indexAt,asIntOf,run_underlying S,H,hn,I,zE T,zh]
  ·have:=Dat.cp (D:=D) (w:=w) b (E+n.toNat * i.size) el 0 (fun j=>f (n.toNat * i.size+j)) (fun j hj=>?_) (fun j p hp=>?_)
   ·simpa using this
   ·rw [hl] at hj
    have C:n.toNat * i.size+j<F.length * M:=by
     rw [A]
     calc n.toNat * i.size+j<n.toNat * i.size+i.size:=by omega
      _=(n.toNat+1) * i.size:=by rw [Nat.add_mul];omega
      _<=F.length * i.size:=Nat.mul_le_mul_right _ B
    have:=X _ C
    rw [Nat.add_assoc];exact this
   ·have:=Z _ _ _ _ hel hp
    rw [A] at this;exact this
 ·exact G.elim
theorem zni {t e:TypeId} {x y:Operand} {H I:PO} {i:TypeInfo} {m:Nat} (ho:o.op=.indexAddr t x y) (F:P.underlying t=some (.array m e)) (G:P.info? e=some i) (M:po x=some H) (N:po y=some I) (hk:PK.q P s (.aa H I m i.size) K):QS P o D ρ s a w K:=by
 simp only [PK.q] at hk
 obtain⟨j,n,e2,_,C,B⟩:=yu hk (hR.op N (by simp [ho,Op.operands]))
 have E:=hR.op M (by simp [ho,Op.operands])
 split at B
 ·rename_i i' o' e
  rw [e] at E
  obtain⟨hi,e1⟩:=E.inv_bx
  refine .det (u:=.pointer (some ⟨ρ i',o'+n.toNat * i.size,none⟩)) ?_ (.inl (.inr ⟨_,_,rfl,hi,rfl⟩)) B rfl
  simp [execOp,ho,e1,e2,Instr.indexAt,asIntOf,run_underlying F,Instr.sureAddr,C.1,C.2,zE G,zh]
 ·rename_i cs o' e
  rw [e] at E
  obtain⟨b,A,u,e1,J,L⟩:=E.inv_cp
  refine .det (u:=.pointer (some ⟨b,A+(o'+n.toNat * i.size),none⟩)) ?_ (.dat (.cp b A cs _ u J L)) B rfl
  simp [execOp,ho,e1,e2,Instr.indexAt,asIntOf,run_underlying F,Instr.sureAddr,C.1,C.2,zE G,zh,Nat.add_assoc]
 ·exact B.elim
theorem zns {t e:TypeId} {x y:Operand} {I J:PO} {B:Bool} {m H:Nat} (ho:o.op=.index t x y) (N:P.underlying t=some (.array m e)) (E:XH P e=some (B,H)) (S:po x=some I) (T:po y=some J) (hk:PK.q P s (.ix I J m B H) K):QS P o D ρ s a w K:=by
 simp only [PK.q] at hk
 obtain⟨j,n,e2,_,F,A⟩:=yu hk (hR.op T (by simp [ho,Op.operands]))
 have G:=hR.op S (by simp [ho,Op.operands])
 split at A
 ·rename_i cs e
  rw [e] at G
  obtain⟨Z,e1,hz,O,Q⟩:=G.inv_agg
  obtain⟨u,p,C,L,M⟩:=VJ (P:=P) E A hz O Q
  obtain⟨i,d,U,X,Y,V⟩:=vT E
  refine .strip (u:=u) (p:=p) ?_ (.dat L) M
  rw [<-V] at C
  simp [execOp,ho,e1,e2,Instr.index,asIntOf,run_underlying N,F.1,F.2,zE U,C]
 ·exact A.elim
theorem znq {t:TypeId} {x:Operand} {E:PO} {f:Nat} {A:Array Field} {j:Field} {y:Bool} {C:Nat} (ho:o.op=.field t x f) (I:P.underlying t=some (.struct A)) (J:A[f]? = some j) (L:XH P j.type=some (y,C))
 (O:po x=some E) (hk:PK.q P s (.fl E j.offset y C) K):QS P o D ρ s a w K:=by
 simp only [PK.q] at hk
 have B:=hR.op O (by simp [ho,Op.operands])
 split at hk
 ·rename_i cs e
  rw [e] at B
  obtain⟨Q,e1,hz,M,N⟩:=B.inv_agg
  obtain⟨u,p,F,G,H⟩:=VJ (P:=P) L hk hz M N
  refine .strip (u:=u) (p:=p) ?_ (.dat G) H
  simp [execOp,ho,e1,Instr.field,run_underlying I,J,asAgg,F]
 ·exact hk.elim
theorem znt {t:TypeId} {x:Operand} {Q:PO} {G:Bool} {J:Nat} (ho:o.op=.load t x) (N:XH P t=some (G,J)) (U:po x=some Q) (hk:PK.q P s (.ld Q G J) K):QS P o D ρ s a w K:=by
 simp only [PK.q] at hk
 have F:=hR.op U (by simp [ho,Op.operands])
 split at hk
 ·rename_i cs o' e
  rw [e] at F
  obtain⟨b,V,u,e1,S,O⟩:=F.inv_cp
  have A:G=true->zY ((cs.drop o').take J)=true:=fun _=>by
   unfold zY
   rw [List.all_eq_true]
   intro p C
   obtain⟨j,B⟩:=List.getElem?_of_mem (List.mem_of_mem_drop (List.mem_of_mem_take C))
   exact(O j p B).isD
  obtain⟨L,p,E,H,I⟩:=Qv (P:=P) (ρ:=ρ) (nb:=s.b.length) N hk (fun j B=>(S j B).2) (fun j p C=>.dat (D:=D) (O j p C)) A
  exact .strip (u:=L) (p:=p) (by simp [execOp,ho,e1,Instr.loadAt,Instr.sureAddr,E]) H I
 ·rename_i i' o' e
  rw [e] at F
  obtain⟨hi,e1⟩:=F.inv_bx
  split at hk
  ·rename_i cs hcs
   obtain⟨M,X,T,hz,hb⟩:=hR.boxes i' cs hcs
   have y:∀ j,j<cs.length->w.cell? ⟨ρ i',0+j,none⟩=some (M.getD j undef)/\(M.getD j undef).oneCell'=true:=fun j B=>by
    refine⟨?_,(hb j _ (List.getElem?_eq_getElem B)).2⟩
    simp only [World.cell?,T]
    simp [show j<M.size by omega]
   obtain⟨L,p,E,H,I⟩:=Qv (P:=P) (D:=D) (ρ:=ρ) (nb:=s.b.length) N hk.2 y (fun j p C=>(hb j p C).1) (fun _=>hk.1)
   rw [Nat.zero_add] at E
   exact .strip (u:=L) (p:=p) (by simp [execOp,ho,e1,Instr.loadAt,Instr.sureAddr,E]) H I
  ·exact hk.elim
 ·exact hk.elim
omit hR in
theorem K7 {t:TypeId} (h:jX P t=true):∃ k,P.underlying t=some (.int k):=by
 unfold jX at h
 split at h
 ·exact⟨_,by assumption⟩
 ·cases h
omit hR in
theorem ky {t:TypeId} (h:jX P t=true) {a:Array Value} {o:Nat} {v:Value} (u:a[o]? = some v):(part t a o).run P w=.ok v w:=by
 obtain⟨k,j⟩:=K7 h
 simp [part,xy j,Qb,u]
omit hR in
theorem KT {t:TypeId} (h:jX P t=true) (d:Nat) (k:IntKind) (m n:Int):(Op.equalIn (d+1) t (.int k m) (.int k n)).run P w=.ok (decide (m=n)) w:=by
 obtain⟨j,a⟩:=K7 h
 rw [run_equalIn_int w d t k j m n a]
 congr 1
omit hR in
theorem KS (d:Nat) {vs us:Array Value}:∀(A:List Field) (i:Nat) (u C:List PV),K8 P i A=true->u.length=A.length->jy u C->(∀ j v,u[j]? = some (.v v)->vs[i+j]? = some v)->(∀ j v,C[j]? = some (.v v)->us[i+j]? = some v)->(Op.eqFields (d+1) vs us A).run P w=.ok (xQ u C) w
 | [],i,u,C,_,hl,_,_,_=>by
   obtain rfl:u=[]:=List.length_eq_zero_iff.1 hl
   simp [Op.eqFields,xQ]
 | f::A,i,u,C,hi,hl,y,hv,hu=>by
   unfold K8 at hi
   simp only [Bool.and_eq_true,bne_iff_ne,ne_eq,beq_iff_eq] at hi
   obtain⟨⟨⟨F,G⟩,E⟩,H⟩:=hi
   unfold jy at y
   split at y
   ·cases hl
   ·rename_i k a r k' b r'
    obtain⟨rfl,y⟩:=y
    have e1:=hv 0 _ rfl
    have e2:=hu 0 _ rfl
    rw [Nat.add_zero,<-G] at e1 e2
    have ih:=KS d (vs:=vs) (us:=us) A (i+1) r r' H (by simpa using hl) y (fun j v h=>by have:=hv (j+1) v h;rwa [show i+(j+1)=i+1+j by omega] at this) (fun j v h=>by have:=hu (j+1) v h;rwa [show i+(j+1)=i+1+j by omega] at this)
    simp only [Op.eqFields,F,ne_eq,not_false_eq_true,if_true,Sem.run_bind,ky (P:=P) (w:=w) E e1,ky (P:=P) (w:=w) E e2,Result.andThen_ok,KT (P:=P) (w:=w) E d k a b]
    by_cases B:a=b
    ·simp [B,ih,xQ]
    ·simp [B,xQ]
   ·cases y
omit hR in
theorem KR (d:Nat) {e:TypeId} (C:jX P e=true) {vs us:Array Value}:∀(y B:List PV) (i:Nat),jy y B->(∀ j v,y[j]? = some (.v v)->vs[i+j]? = some v)->(∀ j v,B[j]? = some (.v v)->us[i+j]? = some v)->(Op.eqItems (d+1) e 1 vs us (List.range' i y.length)).run P w=.ok (xQ y B) w
 | [],B,i,_,_,_=>by simp [Op.eqItems,xQ]
 | x::y,B,i,u,hv,hu=>by
   unfold jy at u
   split at u
   ·rename_i h
    cases h
   ·rename_i k a r k' b r' h
    cases h
    obtain⟨rfl,u⟩:=u
    have e1:=hv 0 _ rfl
    have e2:=hu 0 _ rfl
    rw [Nat.add_zero] at e1 e2
    have ih:=KR d C (vs:=vs) (us:=us) y r' (i+1) u (fun j v h=>by have:=hv (j+1) v h;rwa [show i+(j+1)=i+1+j by omega] at this) (fun j v h=>by have:=hu (j+1) v h;rwa [show i+(j+1)=i+1+j by omega] at this)
    simp only [List.length_cons,List.range'_succ,Op.eqItems,Sem.run_bind,Nat.mul_one,ky (P:=P) (w:=w) C e1,ky (P:=P) (w:=w) C e2,Result.andThen_ok,KT (P:=P) (w:=w) C d k a b]
    by_cases A:a=b
    ·simp [A,ih,xQ]
    ·simp [A,xQ]
   ·cases u
omit hR in
theorem zfc {t:TypeId} {n:Nat} (ht:za9 P t=some n) {a us:Array Value} {u C:List PV} (hl:u.length=n) (H:jy u C) (J:∀ j v,u[j]? = some (.v v)->a[0+j]? = some v) (I:∀ j v,C[j]? = some (.v v)->us[0+j]? = some v):(Op.equal t (.agg a) (.agg us)).run P w=.ok (xQ u C) w/\∀ op A B,(eqGuard op t A B (.agg a) (.agg us)).run P w=.ok () w:=by
 unfold za9 at ht
 split at ht
 ·rename_i fs hf
  split at ht
  ·rename_i hcond
   simp only [Bool.and_eq_true,Bool.not_eq_true'] at hcond
   obtain⟨⟨E,F⟩,G⟩:=hcond
   cases ht
   have y:P.fieldsOf t=fs:=by unfold Program.fieldsOf;rw [hf]
   refine⟨?_,fun op A B=>run_eqGuard_agg w op t A B a us G⟩
   show (Op.equalIn (9998+1+1) t _ _).run P w=_
   rw [run_equalIn_agg w _ t a us (by rw [y];exact hf) F,y]
   exact KS _ _ 0 u C E (by simpa using hl) H J I
  ·cases ht
 ·rename_i m e hf
  split at ht
  ·rename_i hcond
   simp only [Bool.and_eq_true,Bool.not_eq_true',beq_iff_eq] at hcond
   obtain⟨⟨⟨E,F⟩,G⟩,K⟩:=hcond
   cases ht
   obtain⟨i,hi⟩:=Option.isSome_iff_exists.1 F
   refine⟨?_,fun op A B=>run_eqGuard_agg w op t A B a us K⟩
   show (Op.equalIn (9998+1+1) t _ _).run P w=_
   rw [run_equalIn_array w _ a us hf hi,G,List.range_eq_range',<-hl]
   exact KR _ E u C 0 H J I
  ·cases ht
 ·cases ht
omit hR in
theorem KU:∀ {j u:List PV},jy j u->(∀ p ∈ j,∃ v,p=.v v)/\∀ p ∈ u,∃ v,p=.v v
 | [],[],_=>⟨by simp,by simp⟩
 | [],_::_,h=>by simp [jy] at h
 | x::j,u,h=>by
   unfold jy at h
   split at h
   ·rename_i e
    cases e
   ·rename_i e
    cases e
    obtain⟨w,y⟩:=KU h.2
    exact⟨fun p a=>(List.mem_cons.1 a).elim (fun e=>⟨_,e⟩) (w p),fun p a=>(List.mem_cons.1 a).elim (fun e=>⟨_,e⟩) (y p)⟩
   ·cases h
theorem zlx {op:BinOp} {t t':TypeId} {x y:Operand} {Q S:PO} (ho:o.op=.binOp op t x y t') (G:op=.eql\/op=.neq) (ht:(za9 P t).isSome=true) (Z:po x=some Q) (hy:po y=some S) (hk:zbz (op == .neq) ((za9 P t).getD 0) (s.ev Q) (s.ev S) K):QS P o D ρ s a w K:=by
 have C:=hR.op Z (by simp [ho,Op.operands])
 have E:=hR.op hy (by simp [ho,Op.operands])
 obtain⟨n,M⟩:=Option.isSome_iff_exists.1 ht
 rw [M] at hk
 unfold zbz at hk
 split at hk
 ·rename_i xs ys ex ey
  obtain⟨⟨hl,J⟩,hk⟩:=hk
  rw [ex] at C
  rw [ey] at E
  have get:∀ {u:Value} {H:List PV},(∀ p ∈ H,∃ v,p=.v v)->Rel D ρ s.b.length w u (.agg H)->∃ A:Array Value,u=.agg A/\∀ j v,H[j]? = some (.v v)->A[0+j]? = some v:=fun I h=>by
   obtain⟨A,rfl,hz,_,V⟩:=h.inv_agg
   refine⟨A,rfl,fun j v L=>?_⟩
   have F:=V j _ L
   have B:j<A.size:=by rw [hz];exact(List.getElem?_eq_some_iff.1 L).1
   rw [Array.getD_eq_getD_getElem?,Array.getElem?_eq_getElem B,Option.getD_some] at F
   rw [Nat.zero_add,Array.getElem?_eq_getElem B]
   generalize A[j]=z at F
   cases F
   rfl
  obtain⟨T,U⟩:=KU J
  obtain⟨A,e1,Y⟩:=get T C
  obtain⟨us,e2,X⟩:=get U E
  obtain⟨N,O⟩:=zfc (P:=P) (w:=w) M hl J Y X
  refine .det ?_ (.dat (.v _)) hk rfl
  rcases G with rfl | rfl
  ·simp only [execOp,ho,Sem.run_bind,e1,e2,O,Result.andThen_ok,Sem.run_pure,binOp,N]
   cases xQ xs ys<;>rfl
  ·simp only [execOp,ho,Sem.run_bind,e1,e2,O,Result.andThen_ok,Sem.run_pure,binOp,N]
   cases xQ xs ys<;>rfl
 ·exact hk.elim
theorem znu {t:TypeId} {e:TypeId} {x:Operand} {E:PO} {c:Call} (ho:o.op=.call c) (B:c.callee=.builtin .len) (A:c.args=#[x]) (y:c.argTypes=#[t]) (G:P.underlying t=some (.slice e)) (I:po x=some E)
 (hk:QA (s.ev E) fun j=>K (.v (.int .i64 j.length))):QS P o D ρ s a w K:=by
 obtain⟨j,k,ex,H⟩:=y8 hk
 have C:=hR.op I (by simp [ho,Op.operands,Call.operands,B,A])
 rw [ex] at C
 obtain⟨L,F,M,b,J,f,e1,_⟩:=C.inv_sl
 refine .det (u:=.int .i64 j.length) ?_ (.dat (.v _)) H rfl
 simp [execOp,ho,resolve,B,A,y,invoke,builtin,Builtin.len_,run_underlying G,e1,goInt]
theorem zno {x:Operand} {A:PO} {i:Nat} (ho:o.op=.extract x i) (C:po x=some A) (hk:PK.q P s (.ex A i) K):QS P o D ρ s a w K:=by
 simp only [PK.q] at hk
 have j:=hR.op C (by simp [ho,Op.operands])
 split at hk
 ·rename_i cs e
  rw [e] at j
  obtain⟨y,e1,hz,B⟩:=j.inv_tup
  split at hk
  ·rename_i p hp
   have hi:i<y.size:=Y7 hz hp
   refine .strip (u:=y.getD i undef) (p:=p) ?_ (.dat (B i p hp)) hk
   simp [execOp,ho,e1,Instr.extract,hi]
  ·exact hk.elim
 ·exact hk.elim
theorem znx {x:Operand} {y:PO} (ho:o.op=.nilCheck x) (A:po x=some y) (hk:PK.q P s (.nc y) K):QS P o D ρ s a w K:=by
 simp only [PK.q] at hk
 have j:=hR.op A (by simp [ho,Op.operands])
 split at hk
 ·rename_i i o' e
  rw [e] at j
  obtain⟨hi,e1⟩:=j.inv_bx
  exact .det (by simp [execOp,ho,e1]) j hk rfl
 ·rename_i cs o' e
  rw [e] at j
  obtain⟨b,B,u,e1,C,E⟩:=j.inv_cp
  exact .det (by simp [execOp,ho,e1]) j hk rfl
 ·exact hk.elim
theorem znw {t:TypeId} {d:TypeDesc} {x:Operand} {j:PO} (ho:o.op=.makeInterface t x) (y:P.underlying t=some d) (A:∀ E,d≠.interface E) (C:po x=some j) (hk:PK.q P s (.mi t j) K):QS P o D ρ s a w K:=by
 simp only [PK.q] at hk
 have B:=hR.op C (by simp [ho,Op.operands])
 split at hk
 ·rename_i hd
  refine .det (u:=.iface t (a.eval x)) ?_ (.dat (.ifc _ _ _ (B.data hd).sh)) hk rfl
  simp only [execOp,ho,Sem.run_bind,Instr.makeInterface,run_underlying y,Result.andThen_ok]
  cases d<;>first | rfl | exact absurd rfl (A _)
 ·exact hk.elim
theorem znv {f:Fn} {F C:Array Operand} {G E:List PO} (ho:o.op=.makeFunc f F C) (M:Qu F.toList=some G) (N:Qu C.toList=some E) (hk:PK.q P s (.mf f G E) K):QS P o D ρ s a w K:=by
 simp only [PK.q,Bool.and_eq_true,List.all_eq_true,Bool.or_eq_true] at hk
 obtain⟨⟨hd,O⟩,hk⟩:=hk
 obtain⟨Y,p1⟩:=kz M
 obtain⟨Z,p2⟩:=kz N
 have J:∀ {A:Array Operand} {j:List PO},j.length=A.toList.length->(∀(i:Nat) (y:Operand),A.toList[i]? = some y->∃ V,j[i]? = some V/\po y=some V)->(∀ x ∈ j,(s.ev x).sh.isD=true\/(s.ev x).sh.isB=true)->(∀ y ∈ A.toList,y ∈ o.op.operands.toList) ->
  ∀(i:Nat) q,(j.map fun x=>(s.ev x).sh)[i]? = some q->Rel1 D ρ s.b.length w ((A.map a.eval).getD i undef) q:=by
  intro A j hl hp H Q i q X
  simp only [List.getElem?_map,Option.map_eq_some_iff] at X
  obtain⟨U,B,rfl⟩:=X
  have hi:i<A.toList.length:=by rw [<-hl];exact(List.getElem?_eq_some_iff.1 B).1
  obtain⟨V,I,S⟩:=hp i _ (List.getElem?_eq_getElem hi)
  rw [B] at I
  cases I
  have L:Rel D ρ s.b.length w (a.eval A.toList[i]) (s.ev U).sh:=by
   have:=hR.op S (Q _ (List.getElem_mem hi))
   rcases H U (List.mem_of_getElem? B) with h | h
   ·exact .dat ((this.data (by rwa [PV.sh_isD] at h)).sh)
   ·rcases this with(this | ⟨i,o,e,M,N⟩) | ⟨f,va,vb,F,C,e,_⟩
    ·exact .dat this.sh
    ·exact .inl (.inr ⟨i,o,by rw [e];rfl,M,N⟩)
    ·rw [e] at h;cases h
  have e:(A.map a.eval).getD i undef=a.eval A.toList[i]:=by
   have:i<A.size:=by simpa using hi
   simp [this]
  rw [e]
  rcases H U (List.mem_of_getElem? B) with h | h
  ·exact .inl (L.data h)
  ·rcases L with L | ⟨f,va,vb,F,C,e,_⟩
   ·exact L
   ·rw [e] at h;cases h
 refine .det (u:=.func f (F.map a.eval) (C.map a.eval)) (by simp [execOp,ho,Instr.makeFunc]) (.inr ⟨f,_,_,_,_,rfl,rfl,by simpa using Y.symm,by simpa using Z.symm,?_,?_⟩) hk rfl
 ·exact J Y p1 hd fun y T=>by simp only [ho,Op.operands,Array.toList_append,List.mem_append];exact .inl T
 ·exact J Z p2 O fun y T=>by simp only [ho,Op.operands,Array.toList_append,List.mem_append];exact .inr T
theorem zly {m:Bool} {x y:Operand} {A B:PO} {c:Call} (ho:o.op=.call c) (u:c.callee=.builtin (if m then .max else .min)) (j:c.args=#[x,y]) (F:po x=some A) (G:po y=some B) (hk:PK.q P s (.mm m A B) K):QS P o D ρ s a w K:=by
 simp only [PK.q] at hk
 obtain⟨k,I,e1,_,C⟩:=yu hk (hR.op F (by simp [ho,Op.operands,Call.operands,u,j]))
 obtain⟨H,J,e2,_,rfl,E⟩:=yu C (hR.op G (by simp [ho,Op.operands,Call.operands,u,j]))
 refine .det ?_ (.dat (.v _)) E rfl
 cases m
 ·simp [execOp,ho,resolve,u,j,invoke,builtin,Builtin.min_,e1,e2,Builtin.min2]
 ·simp [execOp,ho,resolve,u,j,invoke,builtin,Builtin.max_,e1,e2,Builtin.max2]
end
end Go.Proofs.YtonhfknjcbakiaaGreatDoor
namespace Go.Proofs.YtonhfknjcbakiaaGreatDoor
open Go.RowKit
variable {P:Program} {o:Oper} {D:Nat->Nat->Prop} {ρ:Nat->Nat} {nb:Nat} {s:PS} {a:Act} {w:World}
theorem zej {i n a j:Nat} (h:i<n) (u:j<a):i * a+j<n * a:=by
 calc i * a+j<i * a+a:=by omega
  _=(i+1) * a:=by rw [Nat.add_mul];omega
  _<=n * a:=Nat.mul_le_mul_right _ h
theorem zgu {k:Ow} (G:k≠.z) {E:Option Addr} {b B A l h y:Nat} {a:List (List PV)} {f:Nat->Value} (hl:l<=h) (O:h<=a.length) (T:a.length<=y) (U:y<=maxLen) (M:a≠[]->E=some ⟨b,B,none⟩) (I:∀(i:Nat) (e:List PV),a[i]? = some e->e.length=A)
 (L:∀ j,j<a.length * A->D b (B+j)/\w.cell? ⟨b,B+j,none⟩=some (f j)/\(f j).oneCell'=true) (N:∀(i:Nat) (e:List PV) (j:Nat) (p:PV),a[i]? = some e->e[j]? = some p->Dat D w (f (i * A+j)) p) :
 Dat D w (.slice (if y - 0=l then E else E.map (·.add (l * A))) (h - l) (y - l)) (.sl ((a.take h).drop l) k):=by
 have u:((a.take h).drop l).length=h - l:=by simp;omega
 have F:Dat D w (.slice (if y - 0=l then E else E.map (·.add (l * A))) ((a.take h).drop l).length (y - l)) (.sl ((a.take h).drop l) k):=by
  have get:∀(i:Nat) e,((a.take h).drop l)[i]? = some e->a[l+i]? = some e/\i<h - l:=fun i e C=>by
   have hi:=(List.getElem?_eq_some_iff.1 C).1
   rw [u] at hi
   rw [List.getElem?_drop,List.getElem?_take,if_pos (by omega)] at C
   exact⟨C,hi⟩
  refine .sl _ _ A _ _ b (B+l * A) (fun j=>f (l * A+j)) (by omega) (fun h=>absurd h G) (by omega) (fun H=>?_) (fun i e C=>I _ e (get i e C).1) (fun j P=>?_) (fun i e j p C S=>?_)
  ·have Q:l<h:=by
    rcases Nat.lt_or_ge l h with J | J
    ·exact J
    ·exact absurd (List.eq_nil_of_length_eq_zero (by rw [u];omega)) H
   rw [if_neg (by omega),M (by intro e;subst e;simp at O;omega)]
   simp [zh]
  ·rw [u] at P
   have:l * A+j<a.length * A:=by
    have K:(l+(h - l)) * A<=a.length * A:=Nat.mul_le_mul_right _ (by omega)
    rw [Nat.add_mul] at K;omega
   rw [Nat.add_assoc];exact L _ this
  ·have:=N _ _ _ _ (get i e C).1 S
   rw [Nat.add_mul,Nat.add_assoc] at this;exact this
 rw [u] at F;exact F
section
variable {K:PV->Prop} (hR:Rd D ρ s (zB a) (zA o) w)
include hR
theorem znz {t e:TypeId} {x:Operand} {L:PO} {lo hi:Option Operand} {B S:Option PO} {i:TypeInfo} (ho:o.op=.slice t x lo hi none) (N:P.underlying t=some (.slice e)) (h3:P.info? e=some i) (hx:po x=some L) (J:poo lo=some B) (I:poo hi=some S)
 (hk:PK.q P s (.sc L B S i.size) K):QS P o D ρ s a w K:=by
 simp only [PK.q] at hk
 obtain⟨C,k,ex,h4⟩:=y8 hk
 have hr:=hR.op hx (by simp [ho,Op.operands])
 rw [ex] at hr
 obtain⟨F,A,sz,b,ao,f,e1,hc,hz,hm,ha,ab,hD,hd⟩:=hr.inv_sl
 have fin:∀ l h:Nat,(l<=h/\h<=C.length/\(∀ e ∈ C,e.length=i.size)/\K (.sl ((C.take h).drop l) (Xw B (s.ev L))))->(B=none->l=0)->(execOp a.eval o).run P w=.ok (.value (.slice (if A=l then F else F.map (·.add (l * i.size))) (h - l) (A - l))) w->QS P o D ρ s a w K:=by
  rintro l h ⟨hl,hh,ag,hK⟩ X E
  have U:Xw B (s.ev L)≠.z:=by unfold Xw;split<;>simp
  have T:(PV.sl ((C.take h).drop l) (Xw B (s.ev L))).own=none:=by unfold Xw;split<;>rfl
  have G:∀ x0 n0,zbZ x0 n0 s (zB a) (zA o) w->NewOk x0 n0 w (.slice (if A=l then F else F.map (·.add (l * i.size))) (h - l) (A - l)) (.sl ((C.take h).drop l) (Xw B (s.ev L))):=fun x0 n0 hN=>by
   have Z:∀ u:Value,NewOk x0 n0 w u (.sl ((C.take h).drop l) .sh):=fun _=>trivial
   rw [ex]
   cases hlo2:B with
   | some y=>exact Z _
   | none=>
     have h0:=X hlo2
     subst h0
     cases k with
     | p j=>
       have ah:∃ t,x=.tmp t/\s.get t=.sl C (.p j):=by
        cases x with
        | tmp t=>cases hx;exact⟨t,rfl,ex⟩
        | const v=>
          cases hx
          have:(ofV v).isN=false:=by unfold ofV;split<;>(try split)<;>rfl
          rw [show ofV v=_ from ex] at this;cases this
        | func f=>cases hx;cases ex
        | global g=>cases hx
       obtain⟨t,rfl,ht⟩:=ah
       have O:=(hN.2 t (QC (by simp [ho,Op.operands]))).1
       rw [ht] at O
       obtain⟨am,ae,aj,q1,q2⟩:=O
       have q3:zB a t=.slice F C.length A:=e1
       rw [q3] at q2
       injection q2 with r1 r2 r3
       subst r1
       subst r3
       refine⟨F,ae,A,q1,?_⟩
       have V:((C.take h).drop 0).length=h:=by simp;omega
       rw [V]
       have e4:(if A=0 then F else F.map (·.add (0 * i.size)))=F:=by
        split
        ·rfl
        ·cases F with
         | none=>rfl
         | some F=>simp [Addr.add]
       rw [e4];rfl
     | _=>exact Z _
  by_cases Q:C=[]
  ·subst Q
   have h0:h=0:=by simpa using hh
   subst h0
   have l0:l=0:=by omega
   subst l0
   refine⟨_,hK,T,zby E (.dat ?_) G⟩
   exact .sl _ _ 1 [] _ 0 0 (fun _=>undef) (Nat.zero_le _) (fun h=>absurd h U) (by omega) (fun h=>absurd rfl h) (fun i e h=>by simp at h) (fun j h=>absurd h (by simp)) (fun i e j p h=>by simp at h)
  ·have ac:sz=i.size:=by
    cases C with
    | nil=>exact absurd rfl Q
    | cons e C=>exact(ab 0 e rfl).symm.trans (ag e (by simp))
   subst ac
   refine⟨_,hK,T,zby E (.dat ?_) G⟩
   simpa using zgu U hl hh hc hm ha ab hD hd
 have H:∀ h:Nat,h<=A->qBd s B 0 (fun l=>l<=h/\h<=C.length/\(∀ e ∈ C,e.length=i.size)/\K (.sl ((C.take h).drop l) (Xw B (s.ev L)))) ->
  (∀ l:Nat,l<=h->(match lo.map a.eval with | some v=>Instr.sliceBound v h .sliceB | none=>pure 0:Sem Nat).run P w=.ok l w->(execOp a.eval o).run P w=.ok (.value (.slice (if A=l then F else F.map (·.add (l * i.size))) (h - l) (A - l))) w)->QS P o D ρ s a w K:=by
  intro h an hq E
  cases lo with
  | none=>
    cases J
    exact fin 0 h hq (fun _=>rfl) (E 0 (Nat.zero_le _) (by simp))
  | some y=>
    simp only [poo,Option.map_eq_some_iff] at J
    obtain⟨y',hy,rfl⟩:=J
    obtain⟨j,n,e2,_,hn,hf⟩:=yu hq (hR.op hy (by simp [ho,Op.operands]))
    have af:n<=h:=by have:=hf.1;omega
    exact fin n.toNat h hf (fun e=>by cases e) (E n.toNat hf.1 (by simp [e2,Instr.sliceBound,asIntOf,hn,af]))
 have ak:(match P.underlying t with | some (.array _ _)=>true | _=>false)=false:=by rw [N]
 cases hi with
 | none=>
   cases I
   refine H C.length hc h4 fun l hl hs=>?_
   simp only [Option.map] at hs
   cases lo with
   | none=>
     have l0:l=0:=by simpa using hs.symm
     subst l0
     simp [execOp,ho,e1,Instr.sliceAt,Instr.slice,run_underlying N,Instr.sliceBounds,zE h3]
   | some y=>
     simp only at hs
     simp [execOp,ho,e1,Instr.sliceAt,Instr.slice,run_underlying N,Instr.sliceBounds,zE h3,hs]
 | some z=>
   simp only [poo,Option.map_eq_some_iff] at I
   obtain⟨z',ai,rfl⟩:=I
   obtain⟨j,n,e2,_,hn,M⟩:=yu h4 (hR.op ai (by simp [ho,Op.operands]))
   have Y:n<=A:=by
    have:n.toNat<=C.length:=by
     cases B with
     | none=>exact M.2.1
     | some y=>
       simp only [qBd,vR] at M
       split at M
       ·exact M.2.2.1
       ·exact M.elim
    omega
   refine H n.toNat (by omega) M fun l hl hs=>?_
   simp only [Option.map] at hs
   cases lo with
   | none=>
     have l0:l=0:=by simpa using hs.symm
     subst l0
     simp [execOp,ho,e1,e2,Instr.sliceAt,Instr.slice,run_underlying N,Instr.sliceBounds,Instr.sliceBound,asIntOf,hn,Y,zE h3]
   | some y=>
     simp only at hs
     have hh:(Instr.sliceBound (.int j n) A .sliceAcap).run P w=.ok n.toNat w:=by simp [Instr.sliceBound,asIntOf,hn,Y]
     simp [execOp,ho,e1,e2,Instr.sliceAt,Instr.slice,run_underlying N,Instr.sliceBounds,hh,zE h3,hs]
end
def CellsD (D:Nat->Nat->Prop) (w:World) (a:Array Value) (j:List PV):Prop:=
 a.size=j.length/\∀(i:Nat) p,j[i]? = some p->Dat D w (a.getD i undef) p/\(a.getD i undef).oneCell'=true
theorem CellsR.data {u:Value} {a:List PV} (h:CellsR D ρ nb w u a) (j:zY a=true):CellsD D w u.cells (a.map PV.sh):=by
 refine⟨by simpa using h.1,fun i p A=>?_⟩
 simp only [List.getElem?_map,Option.map_eq_some_iff] at A
 obtain⟨q,y,rfl⟩:=A
 unfold zY at j
 rw [List.all_eq_true] at j
 exact⟨((h.2 i q y).1.data (j q (List.mem_of_getElem? y))).sh,(h.2 i q y).2⟩
theorem x6 (u:Nat):∀(l:List Value) (k:Nat) (a:Array Value),u+k+l.length<=a.size ->
 ((l.zipIdx k).foldl (fun(w:Array Value) (c,j)=>w.setIfInBounds (u+j) c) a).size=a.size /\
 ∀ i,((l.zipIdx k).foldl (fun(w:Array Value) (c,j)=>w.setIfInBounds (u+j) c) a).getD i undef=if u+k<=i/\i<u+k+l.length then l.getD (i - (u+k)) undef else a.getD i undef
 | [],k,a,_=>⟨rfl,fun i=>by simp;intro y A;omega⟩
 | v::l,k,a,h=>by
   simp only [List.zipIdx_cons,List.foldl_cons]
   simp only [List.length_cons] at h
   obtain⟨y,A⟩:=x6 u l (k+1) (a.setIfInBounds (u+k) v) (by simp;omega)
   refine⟨by rw [y];simp,fun i=>?_⟩
   rw [A i]
   by_cases e:i=u+k
   ·subst e
    rw [if_neg (by omega),if_pos (by simp)]
    have:u+k<a.size:=by omega
    simp [this]
   ·by_cases e2:u+(k+1)<=i/\i<u+(k+1)+l.length
    ·rw [if_pos e2,if_pos (by simp;omega)]
     obtain⟨d,B⟩:∃ d,i - (u+k)=d+1:=⟨i - (u+k) - 1,by omega⟩
     rw [B,show i - (u+(k+1))=d from by omega]
     simp
    ·rw [if_neg e2,if_neg (by simp;omega)]
     simp [Array.getElem?_setIfInBounds_ne (Ne.symm e)]
theorem Xy (u j:List PV) (a i:Nat) (h:a+j.length<=u.length):(XI u j a)[i]? = if a<=i/\i<a+j.length then j[i - a]? else u[i]?:=by
 unfold XI
 have ht:(u.take a).length=a:=by simp;omega
 by_cases w:i<a
 ·rw [if_neg (by omega),List.append_assoc,List.getElem?_append_left (by omega),List.getElem?_take,if_pos w]
 ·by_cases y:i<a+j.length
  ·rw [if_pos (by omega),List.append_assoc,List.getElem?_append_right (by omega),List.getElem?_append_left (by omega),ht]
  ·rw [if_neg (by omega),List.getElem?_append_right (by simp;omega),List.getElem?_drop]
   congr 1
   simp;omega
theorem QK (j u:List PV) (a:Nat) (h:a+u.length<=j.length):(XI j u a).length=j.length:=by
 unfold XI;simp;omega
theorem Xz {y us:Array Value} {B a:List PV} {off:Nat} (hz:CellsD D w y B) (A:CellsD D w us a) (h:off+a.length<=B.length) :
 CellsD D w (us.zipIdx.foldl (fun(a:Array Value) (c,j)=>a.setIfInBounds (off+j) c) y) (XI B a off):=by
 obtain⟨C,E⟩:=x6 off us.toList 0 y (by simp [hz.1,A.1];omega)
 have e:us.zipIdx.foldl (fun(a:Array Value) (c,j)=>a.setIfInBounds (off+j) c) y=(us.toList.zipIdx 0).foldl (fun(a:Array Value) (c,j)=>a.setIfInBounds (off+j) c) y:=by
  rw [<-Array.foldl_toList,Array.toList_zipIdx]
 rw [e]
 refine⟨by rw [C,QK _ _ _ h];exact hz.1,fun i p u=>?_⟩
 rw [Xy _ _ _ _ h] at u
 rw [E i]
 have hl:us.toList.length=a.length:=by simpa using A.1
 simp only [Nat.add_zero]
 by_cases hi:off<=i/\i<off+a.length
 ·rw [if_pos hi] at u
  rw [if_pos (by omega)]
  have:=A.2 _ _ u
  have e2:us.toList.getD (i - off) undef=us.getD (i - off) undef:=by simp
  rw [e2];exact this
 ·rw [if_neg hi] at u
  rw [if_neg (by omega)]
  exact hz.2 _ _ u
theorem Z4 (j:Nat->Option (Nat × Nat)) {K:List PV->Prop}:∀(parts:List (Nat × Operand)) (A:List (Nat × Nat × PO)) (B:Array Value) (C:List PV),A.length=parts.length ->
 (∀(k:Nat) i x,parts[k]? = some (i,x)->∃ u n G,A[k]? = some (u,n,G)/\j i=some (u,n)/\Rel D ρ nb w (a.eval x) (s.ev G)) ->
 CellsD D w B C->vS s A C K->∃ y E,Instr.fill j B (parts.map fun(i,x)=>(i,a.eval x))=some y/\CellsD D w y E/\K E
 | [],[],B,C,_,_,hz,hq=>⟨B,C,rfl,hz,hq⟩
 | [],_::_,_,_,h,_,_,_=>by cases h
 | _::_,[],_,_,h,_,_,_=>by cases h
 | (i,x)::parts,(u,n,G)::A,B,C,hl,hp,hz,hq=>by
   obtain⟨I,V,S,e1,e2,J⟩:=hp 0 i x rfl
   simp at e1
   obtain⟨rfl,rfl,rfl⟩:=e1
   simp only [vS] at hq
   obtain⟨E,⟨T,U,O,P⟩,H⟩:=xY hq J
   have Q:=H.data O
   obtain⟨y,F,L,M,N⟩:=Z4 j parts A _ _ (by simpa using hl) (fun k i x hk=>by simpa using hp (k+1) i x (by simpa using hk)) (Xz (off:=u) hz Q (by simp;omega)) P
   refine⟨y,F,?_,M,N⟩
   simp only [List.map_cons,Instr.fill,e2]
   rw [if_neg]
   ·exact L
   ·have:=H.1
    have:=hz.1
    simp;omega
theorem qJ {t:TypeId} {a:List PV} (h:xg P t=some a):∃ i z,P.info? t=some i/\i.zero=some z/\a=z.cells.toList.map Q6/\(∀ v ∈ z.cells.toList,v.oneCell'=true):=by
 unfold xg at h
 simp only [Option.bind_eq_some_iff] at h
 obtain⟨i,hi,z,hz,h⟩:=h
 split at h
 ·rename_i hall
  cases h
  rw [List.all_eq_true] at hall
  exact⟨i,z,hi,hz,rfl,hall⟩
 ·cases h
theorem yT {z:Value} (h:∀ v ∈ z.cells.toList,v.oneCell'=true):CellsD D w z.cells (z.cells.toList.map Q6):=by
 refine⟨by simp,fun i p j=>?_⟩
 simp only [List.getElem?_map,Option.map_eq_some_iff] at j
 obtain⟨v,a,rfl⟩:=j
 have u:v ∈ z.cells.toList:=List.mem_of_getElem? a
 have e:z.cells.getD i undef=v:=by simp at a;simp [a]
 rw [e]
 exact⟨zai D w v,h v u⟩
theorem CellsD.agg {j:Array Value} {a:List PV} (h:CellsD D w j a):Dat D w (.agg j) (.agg a):=
 .agg _ _ h.1 (fun i hi=>(h.2 i _ (List.getElem?_eq_getElem hi)).2) fun i p u=>(h.2 i p u).1
theorem Zz {u:Array Field}:∀ {l:List (Nat × Operand)} {a:List (Nat × Nat × PO)},Qq P u l=some a->a.length=l.length/\∀(k:Nat) i x,l[k]? = some (i,x)->∃ f n w,u[i]? = some f/\P.info? f.type=some n/\a[k]? = some (f.offset,n.size,w)/\po x=some w
 | [],a,h=>by cases h;exact⟨rfl,fun k i x h=>by simp at h⟩
 | (i,x)::r,a,h=>by
   simp only [Qq,Option.bind_eq_some_iff,Option.map_eq_some_iff] at h
   obtain⟨f,C,n,E,y,F,l,hl,rfl⟩:=h
   obtain⟨A,B⟩:=Zz hl
   refine⟨by simp [A],fun k j z hz=>?_⟩
   cases k with
   | zero=>simp at hz;obtain⟨rfl,rfl⟩:=hz;exact⟨f,n,y,C,E,rfl,F⟩
   | succ k=>simpa using B k j z (by simpa using hz)
theorem Zy {u:Nat}:∀ {l:List (Nat × Operand)} {a:List (Nat × Nat × PO)},Qp u l=some a->a.length=l.length/\∀(k:Nat) i x,l[k]? = some (i,x)->∃ w,a[k]? = some (i * u,u,w)/\po x=some w
 | [],a,h=>by cases h;exact⟨rfl,fun k i x h=>by simp at h⟩
 | (i,x)::r,a,h=>by
   simp only [Qp,Option.bind_eq_some_iff,Option.map_eq_some_iff] at h
   obtain⟨y,C,l,hl,rfl⟩:=h
   obtain⟨A,B⟩:=Zy hl
   refine⟨by simp [A],fun k j z hz=>?_⟩
   cases k with
   | zero=>simp at hz;obtain⟨rfl,rfl⟩:=hz;exact⟨y,rfl,C⟩
   | succ k=>simpa using B k j z (by simpa using hz)
section
variable {K:PV->Prop} (hR:Rd D ρ s (zB a) (zA o) w)
include hR
theorem zlt {t:TypeId} {parts:Array (Nat × Operand)} {C:Array Field} {L:List PV} {I:List (Nat × Nat × PO)} (ho:o.op=.build t parts) (X:P.underlying t=some (.struct C)) (hz:xg P t=some L) (y:∀ f ∈ C.toList,(P.info? f.type).isSome=true)
 (Y:Qq P C parts.toList=some I) (hk:PK.q P s (.bd L I) K):QS P o D ρ s a w K:=by
 simp only [PK.q] at hk
 obtain⟨i,z,T,U,rfl,V⟩:=qJ hz
 obtain⟨Z,l2⟩:=Zz Y
 obtain⟨j,H,F⟩:∃ j,C.toList.mapM (fun f=>(P.info? f.type).map fun i=>(f.offset,i.size))=some j/\∀(i:Nat) f n,C.toList[i]? = some f->P.info? f.type=some n->j[i]? = some (f.offset,n.size):=by
  revert y
  induction C.toList with
  | nil=>intro _;exact⟨[],rfl,fun i f n h=>by simp at h⟩
  | cons f l ih=>
    intro y
    obtain⟨pl,e1,e2⟩:=ih fun f E=>y f (by simp [E])
    have:=y f (by simp)
    obtain⟨n,J⟩:=Option.isSome_iff_exists.1 this
    refine⟨(f.offset,n.size)::pl,by simp [List.mapM_cons,J,e1],fun i N n' E A=>?_⟩
    cases i with
    | zero=>simp at E;subst E;rw [J] at A;cases A;rfl
    | succ i=>simpa using e2 i N n' (by simpa using E) A
 obtain⟨B,cs,O,Q,S⟩:=Z4 (D:=D) (ρ:=ρ) (nb:=s.b.length) (w:=w) (a:=a) (s:=s) (j.toArray[·]?) parts.toList I z.cells _ Z (fun k i x G=>by
  obtain⟨f,n,x',e1,e2,M,e4⟩:=l2 k i x G
  refine⟨f.offset,n.size,x',M,by simpa using F i f n (by simpa using e1) e2,hR.op e4 ?_⟩
  simp only [ho,Op.operands,List.mem_map]
  exact⟨(i,x),List.mem_of_getElem? G,rfl⟩) (yT V) hk
 refine .det (u:=.agg B) ?_ (.dat Q.agg) S rfl
 have hb:P.built t (parts.map fun(i,x)=>(i,a.eval x)).toList=some B:=by
  unfold Program.built
  simp only [T,X,U,H]
  rw [Array.toList_map]
  exact O
 simp only [execOp,ho,Sem.run_bind,run_build w t _ B hb,Result.andThen_ok]
 rfl
theorem zls {t e:TypeId} {n:Nat} {parts:Array (Nat × Operand)} {A:TypeInfo} {C:List PV} {B:List (Nat × Nat × PO)} (ho:o.op=.build t parts) (M:P.underlying t=some (.array n e)) (N:P.info? e=some A) (hz:xg P t=some C)
 (O:Qp A.size parts.toList=some B) (hk:PK.q P s (.bd C B) K):QS P o D ρ s a w K:=by
 simp only [PK.q] at hk
 obtain⟨i,z,I,J,rfl,L⟩:=qJ hz
 obtain⟨Q,S⟩:=Zy O
 obtain⟨j,U,F,G,H⟩:=Z4 (D:=D) (ρ:=ρ) (nb:=s.b.length) (w:=w) (a:=a) (s:=s) (fun i=>some (i * A.size,A.size)) parts.toList B z.cells _ Q (fun k i x y=>by
  obtain⟨T,E,e4⟩:=S k i x y
  refine⟨_,_,T,E,rfl,hR.op e4 ?_⟩
  simp only [ho,Op.operands,List.mem_map]
  exact⟨(i,x),List.mem_of_getElem? y,rfl⟩) (yT L) hk
 refine .det (u:=.agg j) ?_ (.dat G.agg) H rfl
 have hb:P.built t (parts.map fun(i,x)=>(i,a.eval x)).toList=some j:=by
  unfold Program.built
  simp only [I,M,J,N]
  rw [Array.toList_map]
  exact F
 simp only [execOp,ho,Sem.run_bind,run_build w t _ j hb,Result.andThen_ok]
 rfl
end
def RowD (D:Nat->Nat->Prop) (w:World) (y:Nat) (a:List Value) (u:List (List PV)):Prop:=
 a.length=u.length * y/\(∀(i:Nat) (e:List PV),u[i]? = some e->e.length=y)/\(∀ j,j<a.length->(a.getD j undef).oneCell'=true)/\∀(i:Nat) (e:List PV) (j:Nat) (p:PV),u[i]? = some e->e[j]? = some p->Dat D w (a.getD (i * y+j) undef) p
theorem RowD.mono {D':Nat->Nat->Prop} {w':World} {u:Nat} {y:List Value} {a:List (List PV)} (h:RowD D w u y a) (C:∀ b o,D b o->D' b o) (E:∀ b o x,D b o->w.cell? ⟨b,o,none⟩=some x->w'.cell? ⟨b,o,none⟩=some x):RowD D' w' u y a:=
 ⟨h.1,h.2.1,h.2.2.1,fun i e j p A B=>(h.2.2.2 i e j p A B).mono C E⟩
theorem RowD.append {u:Nat} {A us:List Value} {y F:List (List PV)} (h:RowD D w u A y) (k:RowD D w u us F):RowD D w u (A++us) (y++F):=by
 have hl:y.length * u=A.length:=h.1.symm
 refine⟨by simp [h.1,k.1,Nat.add_mul],fun i e a=>?_,fun j C=>?_,fun i e j p a E=>?_⟩
 ·rcases Nat.lt_or_ge i y.length with hi | hi
  ·rw [List.getElem?_append_left hi] at a;exact h.2.1 i e a
  ·rw [List.getElem?_append_right hi] at a;exact k.2.1 _ e a
 ·rw [List.getD_eq_getElem?_getD]
  rcases Nat.lt_or_ge j A.length with hi | hi
  ·rw [List.getElem?_append_left hi,<-List.getD_eq_getElem?_getD];exact h.2.2.1 j hi
  ·rw [List.getElem?_append_right hi,<-List.getD_eq_getElem?_getD];exact k.2.2.1 _ (by simp at C;omega)
 ·rw [List.getD_eq_getElem?_getD]
  rcases Nat.lt_or_ge i y.length with hi | hi
  ·rw [List.getElem?_append_left hi] at a
   have B:=h.2.1 i e a
   have C:j<u:=by rw [<-B];exact(List.getElem?_eq_some_iff.1 E).1
   rw [List.getElem?_append_left (by rw [<-hl];exact zej hi C),<-List.getD_eq_getElem?_getD]
   exact h.2.2.2 i e j p a E
  ·rw [List.getElem?_append_right hi] at a
   have G:A.length<=i * u+j:=by rw [<-hl];exact Nat.le_trans (Nat.mul_le_mul_right _ hi) (by omega)
   rw [List.getElem?_append_right G,<-List.getD_eq_getElem?_getD]
   have:=k.2.2.2 _ e j p a E
   rw [Nat.sub_mul] at this
   rw [show i * u+j - A.length=i * u - y.length * u+j from by rw [hl];have:=Nat.mul_le_mul_right u hi;omega]
   exact this
theorem jr {B b cap:Nat} {u:List Value} {a:List (List PV)} {A:Array Value} {e:TypeId} {fr:Nat × Nat} {k:Ow} (h:RowD D w B u a) (F:w.heap[b]? = some (.cells A e fr)) (ht:∀ j,j<u.length->A[j]? = some (u.getD j undef))
 (E:a.length<=cap) (G:cap<=maxLen) (hk:k=.z->cap=a.length) (C:∀ j,j<u.length->D b j):Dat D w (.slice (some ⟨b,0,none⟩) a.length cap) (.sl a k):=
 .sl _ _ B _ _ b 0 (fun j=>u.getD j undef) E hk G (fun _=>rfl) h.2.1 (fun j y=>by
  rw [<-h.1] at y
  refine⟨by simpa using C j y,?_,h.2.2.1 j y⟩
  simp only [World.cell?,F,Nat.zero_add]
  simpa using ht j y) h.2.2.2
theorem Yl {C:Nat} {K:List (List PV)->Prop}:∀(l:List Operand) (F:List PO),Qu l=some F->(∀ x ∈ l,∀ G,po x=some G->Rel D ρ nb w (a.eval x) (s.ev G))->yP s C F K ->
 ∃ E,K E/\E.length=l.length/\RowD D w C (l.flatMap fun x=>(a.eval x).cells.toList) E/\∀ x ∈ l,(a.eval x).cells.size=C
 | [],F,h,_,hq=>by cases h;exact⟨[],hq,rfl,⟨by simp,fun i e h=>by simp at h,fun j h=>by simp at h,fun i e j p h=>by simp at h⟩,by simp⟩
 | x::l,F,h,hr,hq=>by
   simp only [Qu,Option.bind_eq_some_iff,Option.map_eq_some_iff] at h
   obtain⟨G,Z,M,L,rfl⟩:=h
   simp only [yP] at hq
   obtain⟨N,⟨H,T,U⟩,I⟩:=xY hq (hr x (by simp) G Z)
   obtain⟨E,O,P,Q,S⟩:=Yl l M L (fun y B=>hr y (by simp [B])) U
   have V:=I.data T
   have A:(a.eval x).cells.size=C:=by rw [I.1];exact H
   refine⟨_,O,by simp [P],?_,fun y B=>?_⟩
   ·have one:RowD D w C (a.eval x).cells.toList [N.map PV.sh]:=by
     refine⟨by simpa using A,fun i e u=>?_,fun j X=>?_,fun i e j p u Y=>?_⟩
     ·have:i=0:=by have:=(List.getElem?_eq_some_iff.1 u).1;simpa using this
      subst this;simp at u;subst u;simpa using H
     ·have J:j<N.length:=by rw [H,<-A];simpa using X
      have:=(I.2 j _ (List.getElem?_eq_getElem J)).2
      simpa using this
     ·have:i=0:=by have:=(List.getElem?_eq_some_iff.1 u).1;simpa using this
      subst this;simp at u;subst u
      have:=(V.2 j p Y).1
      simpa using this
    have:=one.append Q
    simpa using this
   ·rcases List.mem_cons.1 B with rfl | B
    ·exact A
    ·exact S y B
theorem X5 {sz:Nat}:∀(l:List Value) (k:Nat) (done:List Value) (a:Array Value),(∀ v ∈ l,v.cells.size=sz)->done.length=k * sz->a.size=(k+l.length) * sz->(∀ j,j<done.length->a[j]? = some (done.getD j undef)) ->
 ∃ w,Instr.fill (fun i=>some (i * sz,sz)) a (l.zipIdx k |>.map fun(v,i)=>(i,v))=some w/\w.toList=done++l.flatMap fun v=>v.cells.toList
 | [],k,done,a,_,h2,h3,h4=>by
   refine⟨a,rfl,?_⟩
   simp only [List.flatMap_nil,List.append_nil]
   apply List.ext_getElem?
   intro j
   rcases Nat.lt_or_ge j done.length with A | A
   ·have:=h4 j A
    rw [List.getElem?_eq_getElem A]
    simpa [List.getD_eq_getElem?_getD,List.getElem?_eq_getElem A] using this
   ·rw [List.getElem?_eq_none A,List.getElem?_eq_none (by simp [h3];simp at h3;omega)]
 | v::l,k,done,a,h1,h2,h3,h4=>by
   have B:=h1 v (by simp)
   simp only [List.length_cons] at h3
   have M:k * sz+sz<=a.size:=by
    rw [h3,<-Nat.succ_mul];exact Nat.mul_le_mul_right _ (by omega)
   obtain⟨G,I⟩:=x6 (k * sz) v.cells.toList 0 a (by simp [B];omega)
   have e:v.cells.zipIdx.foldl (fun(C:Array Value) (c,j)=>C.setIfInBounds (k * sz+j) c) a=(v.cells.toList.zipIdx 0).foldl (fun(C:Array Value) (c,j)=>C.setIfInBounds (k * sz+j) c) a:=by
    rw [<-Array.foldl_toList,Array.toList_zipIdx]
   rw [<-e] at G I
   obtain⟨y,E⟩:∃ c,v.cells.zipIdx.foldl (fun(C:Array Value) (c,j)=>C.setIfInBounds (k * sz+j) c) a=c:=⟨_,rfl⟩
   rw [E] at G I
   obtain⟨w,K,L⟩:=X5 l (k+1) (done++v.cells.toList) y (fun u N=>h1 u (by simp [N])) (by simp [h2,B,Nat.add_mul]) (by rw [G,h3];congr 1;omega) (fun j A=>by
    have F:j<y.size:=by rw [G];simp [h2,B] at A;omega
    have J:=I j
    rw [Array.getD_eq_getD_getElem?,Array.getElem?_eq_getElem F,Option.getD_some] at J
    rw [Array.getElem?_eq_getElem F,J]
    congr 1
    simp only [Nat.add_zero]
    rw [List.getD_eq_getElem?_getD (l:=done++_)]
    rcases Nat.lt_or_ge j done.length with H | H
    ·rw [if_neg (by omega),List.getElem?_append_left H,<-List.getD_eq_getElem?_getD,Array.getD_eq_getD_getElem?,h4 j H];rfl
    ·rw [if_pos (by simp [B];simp [B] at A;omega),List.getElem?_append_right H,List.getD_eq_getElem?_getD,h2])
   refine⟨w,?_,by rw [L];simp⟩
   simp only [List.zipIdx_cons,List.map_cons,Instr.fill]
   rw [if_neg (by simp [B];omega),E]
   exact K
section
variable {K:PV->Prop} (hR:Rd D ρ s (zB a) (zA o) w)
include hR
theorem KF {t e:TypeId} {n:Nat} {parts:Array (Nat × Operand)} {A:TypeInfo} {zs:List PV} {ps:List PO} (ho:o.op=.buildSlice t n parts) (h1:P.underlying t=some (.slice e)) (M:P.info? e=some A) (hz:xg P e=some zs)
 (hp:Qu (parts.toList.map (·.2))=some ps) (hi:parts.toList.map (·.1)=List.range n) (hn:n * A.size<=16777216) (ab:n<=maxLen) {N:List (List PV)->Prop} (hk:yP s A.size ps N) :
 ∃(C:List (List PV)) (u:Array Value),N C/\C.length=n/\(execOp a.eval o).run P w=.ok (.value (.slice (some ⟨w.heap.size,0,none⟩) n n)) (w.alloc (.cells u e))/\RowD D w A.size u.toList C/\∀ j,j<u.toList.length->u[j]? = some (u.toList.getD j undef):=by
 obtain⟨i,z,g1,g2,rfl,g4⟩:=qJ hz
 rw [M] at g1;cases g1
 have F:parts.toList.length=n:=by have:=congrArg List.length hi;simpa using this
 obtain⟨C,k1,k2,k3,k4⟩:=Yl (D:=D) (ρ:=ρ) (nb:=s.b.length) (w:=w) (a:=a) (s:=s) _ _ hp (fun x hx x' Y=>hR.op Y (by simpa [ho,Op.operands] using hx)) hk
 have X:parts.toList.map (fun(i,x)=>(i,a.eval x))=((parts.toList.map fun y=>a.eval y.2).zipIdx 0).map fun(v,i)=>(i,v):=by
  apply List.ext_getElem?
  intro j
  rcases Nat.lt_or_ge j parts.toList.length with E | E
  ·have S:(parts.toList.map (·.1))[j]? = (List.range n)[j]?:=by rw [hi]
   rw [List.getElem?_map,List.getElem?_eq_getElem E,List.getElem?_range (by omega)] at S
   simp at S
   simp [List.getElem?_eq_getElem E,List.getElem?_zipIdx]
   have H:j<parts.size:=by simpa using E
   simp [H,S]
  ·rw [List.getElem?_eq_none (by simpa using E),List.getElem?_eq_none (by simpa using E)]
 have U:C.length=n:=by rw [k2];simpa using F
 have B:∀ L:Array Value,L.size=n * A.size->∃ u,Instr.fill (fun i=>some (i * A.size,A.size)) L (parts.toList.map fun(i,x)=>(i,a.eval x))=some u/\u.toList=(parts.toList.map fun y=>a.eval y.2).flatMap fun v=>v.cells.toList:=fun L T=>by
  obtain⟨c',e1,e2⟩:=X5 (sz:=A.size) (parts.toList.map fun y=>a.eval y.2) 0 [] L (fun v hv=>by
   simp only [List.mem_map] at hv
   obtain⟨y,hy,rfl⟩:=hv
   exact k4 _ (List.mem_map.2 ⟨y,hy,rfl⟩)) (by simp) (by rw [T];simp only [List.length_map,F,Nat.zero_add]) (fun j E=>by simp at E)
  rw [<-X] at e1
  exact⟨c',e1,by simpa using e2⟩
 have fin:∀ u:Array Value,u.toList=((parts.toList.map fun y=>a.eval y.2).flatMap fun v=>v.cells.toList)->(execOp a.eval o).run P w=.ok (.value (.slice (some ⟨w.heap.size,0,none⟩) n n)) (w.alloc (.cells u e)) ->
  ∃(C:List (List PV)) (u:Array Value),N C/\C.length=n/\(execOp a.eval o).run P w=.ok (.value (.slice (some ⟨w.heap.size,0,none⟩) n n)) (w.alloc (.cells u e))/\RowD D w A.size u.toList C/\∀ j,j<u.toList.length->u[j]? = some (u.toList.getD j undef):=by
  intro u J hr
  have V:(List.map (fun x=>x.snd) parts.toList).flatMap (fun x=>(a.eval x).cells.toList)=u.toList:=by rw [J];simp [List.flatMap_map]
  rw [V] at k3
  have K:∀ j,j<u.toList.length->u[j]? = some (u.toList.getD j undef):=fun j E=>by
   have H:j<u.size:=by simpa using E
   simp [H]
  exact⟨C,u,k1,U,hr,k3,K⟩
 by_cases O:n * A.size=0
 ·obtain⟨u,G,J⟩:=B ((Array.range (n * A.size)).map fun x=>(#[]:Array Value)[x % (#[]:Array Value).size]!) (by simp)
  refine fin u J ?_
  have I:¬(16777216<n * A.size):=by omega
  rw [<-Array.toList_map] at G
  simp [execOp,ho,Instr.buildSlice,run_underlying h1,zE M,I,O,newRow] at G ⊢
  simp [G]
 ·obtain⟨u,G,J⟩:=B ((Array.range (n * A.size)).map fun x=>z.cells[x % z.cells.size]!) (by simp)
  refine fin u J ?_
  have I:¬(16777216<n * A.size):=by omega
  rw [<-Array.toList_map] at G
  have Z:(zeroValue e).run P w=.ok z w:=by simp [zeroValue,typeInfo,M,g2]
  have Q:¬(n=0\/A.size=0):=by rw [<-Nat.mul_eq_zero];exact O
  simp [execOp,ho,Instr.buildSlice,run_underlying h1,zE M,I,Q,Z,newRow] at G ⊢
  simp [G]
  exact fun h=>absurd h O
theorem znk {t e:TypeId} {n:Nat} {parts:Array (Nat × Operand)} {C:TypeInfo} {Q:List PV} {F:List PO} (ho:o.op=.buildSlice t n parts) (G:P.underlying t=some (.slice e)) (H:P.info? e=some C) (hz:xg P e=some Q)
 (J:Qu (parts.toList.map (·.2))=some F) (hi:parts.toList.map (·.1)=List.range n) (I:n * C.size<=16777216) (A:n<=maxLen) (hk:PK.q P s (.bs C.size F) K):QS P o D ρ s a w K:=by
 simp only [PK.q] at hk
 obtain⟨S,u,M,B,L,N,y⟩:=KF hR ho G H hz J hi I A hk
 have hb:Below w.heap.size w (w.alloc (.cells u e)):=(Below.refl _ _).alloc (Nat.le_refl _) _
 have O:=N.mono (D':=fun b o=>D b o\/w.heap.size<=b) (w':=w.alloc (.cells u e)) (fun _ _ h=>.inl h) fun b o x _ E=>qa hb (qF E) E
 refine⟨_,M,rfl,zlD L hb (.dat ?_) fun _ _ _=>trivial⟩
 have:=jr (cap:=n) (k:=.z) (e:=e) (fr:=(0,0)) O (World.alloc_heap_new w (.cells u e)) y (by omega) A (fun _=>by omega) (fun j _=>.inr (Nat.le_refl _))
 rw [B] at this;exact this
end
section
variable {K:PV->Prop} (hR:Rd D ρ s (zB a) (zA o) w)
include hR
theorem kf {j:List Operand} {B:List PO} (u:Qu j=some B) (I:∀ x ∈ j,x ∈ o.op.operands.toList) (C:zY (B.map fun x=>(s.ev x).sh)=true) :
 B.length=j.length/\∀(i:Nat) p,(B.map fun x=>(s.ev x).sh)[i]? = some p->Dat D w ((j.map a.eval).getD i undef) p:=by
 obtain⟨G,H⟩:=kz u
 refine⟨G,fun i p u=>?_⟩
 have E:=u
 simp only [List.getElem?_map,Option.map_eq_some_iff] at u
 obtain⟨J,y,rfl⟩:=u
 have hi:i<j.length:=by rw [<-G];exact(List.getElem?_eq_some_iff.1 y).1
 obtain⟨K,A,F⟩:=H i _ (List.getElem?_eq_getElem hi)
 rw [y] at A
 cases A
 have e:(j.map a.eval).getD i undef=a.eval j[i]:=by simp [hi]
 rw [e]
 unfold zY at C
 rw [List.all_eq_true] at C
 exact((hR.op F (I _ (List.getElem_mem hi))).data (by have:=C _ (List.mem_of_getElem? E);rwa [PV.sh_isD] at this)).sh
omit hR in
theorem KG {f:FuncId} {C:List PV} {r:PV} {B:Array Value} (y:GL D w) (M:Cn P f C r) (F:B.size=C.length) (N:∀(i:Nat) p,C[i]? = some p->Dat D w (B.getD i undef) p) (T:(execOp a.eval o).run P w=.ok (.enter f B) w) :
 ∀(next:Act->World->Prop) (Q:Exit->Act->World->Prop),(∀ u A j,Below w.heap.size w A->(∀ b o,D b o/\b<w.heap.size->j b o)->(∀ b o,j b o->(D b o/\b<w.heap.size)\/w.heap.size<=b)->(∀ b o,j b o->b<A.heap.size)->Dat j A u r->yW j (fun k=>w.heap.size<=k) A u r->next (a.put o.dst u) A)->o.wp P a w next Q:=by
 intro next Q O
 show o.upon P a next Q ((execOp a.eval o).run P w)
 rw [T,Oper.upon_enter]
 have E:∀(i:Nat) p,C[i]? = some p->Dat (fun b o=>D b o/\b<w.heap.size) w (B.getD i undef) p:=fun i p S=>(N i p S).restrict
 refine(M.2 _ w B (fun x G=>⟨⟨(y x G).1,World.block_lt_of_cell? w ⟨0,0,_⟩ (y x G).2⟩,(y x G).2⟩) (fun b o h=>h.2) F E).mono ?_
 rintro e A ⟨v,j,rfl,hb,H,I,J,K,L⟩
 exact O v A j hb H I J K L
omit hR in
theorem zcb {f:FuncId} {B:List PV} {r:PV} {C:Array Value} (y:GL D w) (G:Cn P f B r) (A:C.size=B.length) (H:∀(i:Nat) p,B[i]? = some p->Dat D w (C.getD i undef) p) (J:(execOp a.eval o).run P w=.ok (.enter f C) w) (hk:K r.strip):QS P o D ρ s a w K:=by
 refine⟨r.strip,hk,r.strip_own,fun next Q I=>KG y G A H J next Q fun u L M hb N E O F S=>I u L hb ?_ fun _ _ _=>xA r.strip_isN⟩
 refine(Rel.dat F.strip).mono (fun b o h=>?_) (fun _ _ _ _ h=>h) (Nat.le_refl _) fun _ _=>rfl
 rcases E b o h with j | j
 ·exact .inl j.1
 ·exact .inr j
omit hR in
theorem Jk {f:FuncId} {u:List Operand} {c:Call} (ho:o.op=.call c) (A:c.callee=.value (.func f)) (y:c.args.toList=u) (B:∀ j w,(callFunc f j).run P w=.ok (.enter f j) w) :
 (execOp a.eval o).run P w=.ok (.enter f (u.map a.eval).toArray) w:=by
 have e:c.args.map a.eval=(u.map a.eval).toArray:=Array.toList_inj.1 (by rw [Array.toList_map,y])
 have e2:a.eval (.func f)=.func (.func f) #[] #[]:=rfl
 simp only [execOp,ho,resolve,A,e,e2,Deferred.ofValue,Sem.run_bind,Sem.run_pure,Result.andThen_ok,invoke]
 rw [show (#[]++(u.map a.eval).toArray++#[]:Array Value)=(u.map a.eval).toArray from by simp]
 exact B _ _
theorem znl {f:FuncId} {C:List Operand} {B:List PO} {c:Call} (ho:o.op=.call c) (A:c.callee=.value (.func f)) (y:c.args.toList=C) (j:Qu C=some B) (hk:PK.q P s (.ca f B) K):QS P o D ρ s a w K:=by
 simp only [PK.q] at hk
 obtain⟨r,u,G,hk⟩:=hk
 obtain⟨E,F⟩:=kf hR j (fun x H=>by rw [ho];simp only [Op.operands,Call.operands,A,Array.toList_append,List.mem_append,y];exact .inr H) G
 refine zcb hR.gl u (by simp [E]) (fun i p j=>?_) (Jk ho A y u.1) hk
 have:=F i p j
 simpa using this
theorem znm {t:Tmp} {J:List Operand} {I:List PO} {c:Call} (ho:o.op=.call c) (M:c.callee=.value (.tmp t)) (S:c.args.toList=J) (j:Qu J=some I) (hk:PK.q P s (.cl (.t t) I) K):QS P o D ρ s a w K:=by
 simp only [PK.q] at hk
 have T:=hR.op (y:=.tmp t) (y':=.t t) rfl (by rw [ho];simp [Op.operands,Call.operands,M])
 split at hk
 ·rename_i f fs cs e
  rw [e] at T
  obtain⟨r,Q,E,hk⟩:=hk
  have u:fs.all PV.isD=true/\zY (I.map fun x=>(s.ev x).sh)=true/\cs.all PV.isD=true:=by
   unfold zY at E ⊢
   simp only [List.all_append,Bool.and_eq_true] at E
   exact⟨E.1.1,E.1.2,E.2⟩
  obtain⟨H,L⟩:=kf hR j (fun x Z=>by rw [ho];simp only [Op.operands,Call.operands,M,Array.toList_append,List.mem_append,S];exact .inr Z) u.2.1
  have N:∃ B C,a.eval (.tmp t)=.func (.func f) B C/\B.size=fs.length/\C.size=cs.length/\(∀(i:Nat) p,fs[i]? = some p->Dat D w (B.getD i undef) p)/\(∀(i:Nat) p,cs[i]? = some p->Dat D w (C.getD i undef) p):=by
   have F:(PV.fn (.func f) fs cs).isD=true:=by
    have G:∀ l:List PV,l.all PV.isD=true->l.all (fun p=>!p.isB)=true:=fun l h=>by
     rw [List.all_eq_true] at h ⊢
     intro p j
     have:=h p j
     cases p<;>first | rfl | cases this
    simp only [PV.isD,G _ u.1,G _ u.2.2,Bool.and_self]
   have:=T.data F
   generalize a.eval (.tmp t)=z at this ⊢
   cases this with
   | fn f B C fs cs H L h3 h4=>exact⟨B,C,rfl,H,L,h3,h4⟩
  obtain⟨B,C,X,O,s2,U,V⟩:=N
  have Y:(execOp a.eval o).run P w=.ok (.enter f (B++(J.map a.eval).toArray++C)) w:=by
   have e:c.args.map a.eval=(J.map a.eval).toArray:=Array.toList_inj.1 (by rw [Array.toList_map,S])
   simp only [execOp,ho,resolve,M,e,X,Deferred.ofValue,Sem.run_bind,Sem.run_pure,Result.andThen_ok,invoke]
   exact Q.1 _ _
  refine zcb hR.gl Q (by simp [H,O,s2]) (fun i p j=>?_) Y hk
  rw [Array.getD_eq_getD_getElem?]
  rcases Nat.lt_or_ge i (fs.length+I.length) with hi | hi
  ·rw [List.getElem?_append_left (by simp;omega)] at j
   rw [Array.getElem?_append_left (by simp;omega)]
   rcases Nat.lt_or_ge i fs.length with A | A
   ·rw [List.getElem?_append_left A] at j
    rw [Array.getElem?_append_left (by omega)]
    have:=U i p j
    rwa [Array.getD_eq_getD_getElem?] at this
   ·rw [List.getElem?_append_right A] at j
    rw [Array.getElem?_append_right (by omega),O]
    have:=L _ p j
    simpa [List.getD_eq_getElem?_getD] using this
  ·rw [List.getElem?_append_right (by simp;omega)] at j
   rw [Array.getElem?_append_right (by simp;omega)]
   have:=V _ p j
   rw [Array.getD_eq_getD_getElem?] at this
   simpa [O,H] using this
 ·exact hk.elim
theorem zpU {t:Tmp} {m:String} {j:List Operand} {F:List PO} {c:Call} (ho:o.op=.call c) (u:c.callee=.invoke (.tmp t) m) (H:c.args.toList=j) (X:Qu j=some F) (hk:PK.q P s (.iv (.t t) m F) K):QS P o D ρ s a w K:=by
 simp only [PK.q] at hk
 have I:=hR.op (y:=.tmp t) (y':=.t t) rfl (by rw [ho];simp [Op.operands,Call.operands,u])
 split at hk
 ·rename_i T p e
  rw [e] at I
  obtain⟨f,V,r,G,A,hk⟩:=hk
  have B:p.isD=true/\zY (F.map fun x=>(s.ev x).sh)=true:=by
   unfold zY at A ⊢
   simp only [List.all_cons,Bool.and_eq_true,PV.sh_isD] at A
   exact A
  obtain⟨O,Q⟩:=kf hR X (fun x Y=>by rw [ho];simp only [Op.operands,Call.operands,u,Array.toList_append,List.mem_append,H];exact .inr Y) B.2
  have C:∃ v,a.eval (.tmp t)=.iface T v/\Dat D w v p:=by
   have:=I.data (by simp [PV.isD])
   generalize a.eval (.tmp t)=z at this ⊢
   cases this with
   | ifc t x p h=>exact⟨x,rfl,h⟩
  obtain⟨v,M,J⟩:=C
  have N:(execOp a.eval o).run P w=.ok (.enter f (#[v]++(j.map a.eval).toArray)) w:=by
   have e:c.args.map a.eval=(j.map a.eval).toArray:=Array.toList_inj.1 (by rw [Array.toList_map,H])
   have L:(#[Value.iface T v]++(j.map a.eval).toArray).extract 1 (#[Value.iface T v]++(j.map a.eval).toArray).size=(j.map a.eval).toArray:=by
    apply Array.ext
    ·simp
    ·intro i S U;simp
   have e4:(#[Value.iface T v]++(j.map a.eval).toArray)[0]? = some (.iface T v):=by simp
   simp only [execOp,ho,resolve,u,e,M,Sem.run_bind,Sem.run_pure,Result.andThen_ok,invoke,e4,L,V v,G.1]
  refine zcb hR.gl G (by simp [O]) (fun i q E=>?_) N hk
  rw [Array.getD_eq_getD_getElem?]
  cases i with
  | zero=>
    simp only [List.getElem?_cons_zero,Option.some.injEq] at E
    subst E
    simpa using J.sh
  | succ i=>
    have:=Q i q (by simpa using E)
    simpa [List.getD_eq_getElem?_getD] using this
 ·exact hk.elim
end
end Go.Proofs.YtonhfknjcbakiaaGreatDoor
namespace Go.Proofs.YtonhfknjcbakiaaGreatDoor
open Go.RowKit
variable {P:Program} {o:Oper} {D:Nat->Nat->Prop} {ρ:Nat->Nat} {nb:Nat} {s:PS} {a:Act} {w:World}
theorem x5 {u:Value} {A:List (List PV)} {k:Ow} {sz:Nat} (h:Rel D ρ nb w u (.sl A k)) (hs:∀ e ∈ A,e.length=sz):∃(F:Option Addr) (a:Nat) (P:List Value),u=.slice F A.length a/\A.length<=a/\a<=maxLen/\(k=.z->a=A.length) /\
 RowD D w sz P A/\(A≠[]->∃ b B,F=some ⟨b,B,none⟩/\∀ j v,P[j]? = some v->D b (B+j)/\w.cell? ⟨b,B+j,none⟩=some v):=by
 obtain⟨F,a,C,b,B,f,e1,M,hz,N,S,E,H,T⟩:=h.inv_sl
 cases A with
 | nil=>exact⟨F,a,[],e1,M,N,hz,⟨by simp,fun i e h=>by simp at h,fun j h=>by simp at h,fun i e j p h=>by simp at h⟩,fun h=>absurd rfl h⟩
 | cons e A=>
   have L:C=sz:=(E 0 e rfl).symm.trans (hs e (by simp))
   subst L
   refine⟨F,a,(List.range ((e::A).length * C)).map f,e1,M,N,hz,⟨by simp,E,fun j U=>?_,fun i Q j p I O=>?_⟩,fun K=>⟨b,B,S K,fun j v G=>?_⟩⟩
   ·have y:j<(e::A).length * C:=by simpa using U
    rw [List.getD_eq_getElem?_getD,List.getElem?_map,List.getElem?_range y]
    exact(H j y).2.2
   ·have J:=zej (List.getElem?_eq_some_iff.1 I).1 (show j<C by rw [<-E _ _ I];exact(List.getElem?_eq_some_iff.1 O).1)
    rw [List.getD_eq_getElem?_getD,List.getElem?_map,List.getElem?_range J]
    exact T i Q j p I O
   ·have y:j<(e::A).length * C:=by have:=(List.getElem?_eq_some_iff.1 G).1;simpa using this
    rw [List.getElem?_map,List.getElem?_range y] at G
    simp at G
    subst G
    exact⟨(H j y).1,(H j y).2.1⟩
theorem Xv {C:Nat} {y:List Value} {A:List (List PV)} (h:RowD D w C y A):∀ u ∈ y,u.oneCell'=true:=fun u B=>by
 obtain⟨j,a⟩:=List.getElem?_of_mem B
 have:=h.2.2.1 j (List.getElem?_eq_some_iff.1 a).1
 rwa [List.getD_eq_getElem?_getD,a] at this
structure ApOp (P:Program) (o:Oper) (x y:Operand) (t e:TypeId) (i:TypeInfo) (z:Value):Prop where
 ho:∃ c,o.op=.call c/\c.callee=.builtin .append/\c.args=#[x,y]/\c.argTypes=#[t,t]
 ht:P.underlying t=some (.slice e)
 hi:P.info? e=some i
 hz:i.zero=some z
 hzs:z.cells.size=i.size
 hs:0<i.size
 hb:0<i.bytes
theorem ApOp.run {x y:Operand} {t e:TypeId} {i:TypeInfo} {z:Value} (h:ApOp P o x y t e i z) {u v r:Value} {A:World} (F:a.eval x=u) (G:a.eval y=v) (E:(Builtin.append_ #[t,t] o.type #[u,v]).run P w=.ok r A) :
 (execOp a.eval o).run P w=.ok (.value r) A:=by
 obtain⟨c,ho,C,B,j⟩:=h.ho
 simp only [execOp,ho,resolve,C,B,j,List.map_toArray,List.map_cons,List.map_nil,F,G,invoke,builtin,Sem.run_bind,Sem.run_pure,Result.andThen_ok,E]
theorem vl {t ty e:TypeId} {i:TypeInfo} (ht:P.underlying t=some (.slice e)) (hi:P.info? e=some i) (u j:Option Addr) (n a c:Nat) (y:n<=a) :
 (Builtin.append_ #[t,t] ty #[.slice u n a,.slice j 0 c]).run P w=.ok (.slice u n a) w:=by
 cases u<;>cases j<;>simp [Builtin.append_,run_underlying ht,zE hi,Builtin.lenOf,y,Builtin.firstCells,loadCells,loadCellsFrom,storeCells]
theorem yJ {t ty e:TypeId} {i:TypeInfo} {z:Value} (ht:P.underlying t=some (.slice e)) (hi:P.info? e=some i) (hz:i.zero=some z) (hzs:z.cells.size=i.size) (hb:0<i.bytes) {ad:Option Addr} {J:Addr} {n m cap c:Nat} {olds a:List Value} (y:olds.length=n * i.size) (hl:a.length=m * i.size)
 (B:n≠0->∃ b,ad=some b/\∀ j v,olds[j]? = some v->w.cell? (b.add j)=some v) (I:ad=none->cap=0) (A:∀ j v,a[j]? = some v->w.cell? (J.add j)=some v) (G:cap<n+m) (F:(n+m) * i.bytes<=140737488355328) :
 ∃ u K,(Builtin.append_ #[t,t] ty #[.slice ad n cap,.slice (some J) m c]).run P w=.ok (.slice (some ⟨w.heap.size,0,none⟩) (n+m) u) (w.drew.alloc (.cells K e))/\n+m<=u/\u<=maxLen/\K.size=u * i.size/\∀ j,j<(olds++a).length->K[j]? = some ((olds++a).getD j undef):=by
 have S:n+m<=9223372036854775807:=by
  have:=Nat.le_mul_of_pos_right (n+m) hb;omega
 have H:=growslice_fits (old:=cap) (need:=n+m) (by omega) F
 have get:∀(u:Nat) (l:List Value),(∀ j,j<l.length->(l.toArray++Builtin.zeroCells z.cells u)[j]? = some (l.getD j undef)):=fun u l j E=>by
  rw [Array.getElem?_append_left (by simpa using E)]
  simp [E]
 have M:n+m<=maxLen:=by unfold maxLen;omega
 cases ad with
 | none=>
   have L:=I rfl
   subst L
   have N:n=0:=by
    rcases Nat.eq_zero_or_pos n with h | h
    ·exact h
    ·obtain⟨b,e,_⟩:=B (by omega);cases e
   subst N
   have ho:olds=[]:=List.eq_nil_of_length_eq_zero (by simpa using y)
   subst ho
   have O:=run_append_nil (P:=P) w t ty e i z ht hi hz J m c a hl A (by omega) (by omega) (by simp only [Nat.zero_add] at F;omega)
   refine⟨_,_,by simpa using O,by simpa using grownCap_ge w m 0 e,grownCap_le_maxLen w m 0 e (by omega),?_,fun j E=>by simpa using get _ a j (by simpa using E)⟩
   have:=grownCap_ge w m 0 e
   simp only [Array.size_append,List.size_toArray,size_zeroCells,hzs,hl,<-Nat.add_mul]
   congr 1;omega
 | some b=>
   have C:∀ j v,olds[j]? = some v->w.cell? (b.add j)=some v:=by
    rcases Nat.eq_zero_or_pos n with h | h
    ·subst h
     have ho:olds=[]:=List.eq_nil_of_length_eq_zero (by simpa using y)
     subst ho
     intro j v T;simp at T
    ·obtain⟨b2,e,Q⟩:=B (by omega);cases e;exact Q
   have O:=run_append_grow (P:=P) w t ty e i z ht hi hz b n cap olds y C J m c a hl A G (by omega) H
   refine⟨_,_,O,grownCap_ge w (n+m) cap e,grownCap_le_maxLen w (n+m) cap e M,?_,fun j E=>?_⟩
   ·have:=grownCap_ge w (n+m) cap e
    simp only [Array.size_append,List.size_toArray,size_zeroCells,hzs,hl,y,<-Nat.add_mul]
    congr 1;omega
   ·have:=get (grownCap w (n+m) cap e - (n+m)) (olds++a) j E
    rw [<-this]
    simp
theorem zjv {x y:Operand} {t e:TypeId} {i:TypeInfo} {z:Value} (h:ApOp P o x y t e i z) {B A:List (List PV)} {k:Ow} (hx:Rel D ρ nb w (a.eval x) (.sl B .z)) (hy:Rel D ρ nb w (a.eval y) (.sl A k))
 (h1:∀ e ∈ B,e.length=i.size) (h2:∀ e ∈ A,e.length=i.size) (I:(B.length+A.length) * i.bytes<=140737488355328) :
 (A=[]/\(execOp a.eval o).run P w=.ok (.value (a.eval x)) w)\/∃ u E G,(execOp a.eval o).run P w=.ok (.value (.slice (some ⟨w.heap.size,0,none⟩) (B.length+A.length) u)) (w.drew.alloc (.cells E e))/\(B++A).length<=u/\u<=maxLen/\E.size=u * i.size /\
   RowD D w i.size G (B++A)/\∀ j,j<G.length->E[j]? = some (G.getD j undef):=by
 obtain⟨V,H,G,e1,c1,c2,Y,T,N⟩:=x5 hx h1
 obtain⟨X,u,M,e2,d1,d2,_,U,Z⟩:=x5 hy h2
 have F:=Y rfl
 by_cases C:A=[]
 ·subst C
  left
  refine⟨rfl,?_⟩
  rw [e1]
  exact h.run e1 e2 (vl h.ht h.hi _ _ _ _ _ (by omega))
 ·right
  obtain⟨b',S,rfl,g3⟩:=Z C
  have Q:0<A.length:=List.length_pos_iff.2 C
  obtain⟨cp,E,hr,k1,k2,k3,k4⟩:=yJ (P:=P) (w:=w) (ty:=o.type) (c:=u) (ad:=V) (cap:=H) h.ht h.hi h.hz h.hzs h.hb T.1 U.1 (fun J=>by
   obtain⟨b,L,rfl,g4⟩:=N (by intro e;subst e;simp at J)
   exact⟨_,rfl,fun j v K=>by rw [zh];exact(g4 j v K).2⟩) (fun J=>by
   by_cases O:B=[]
   ·subst O;simpa using F
   ·obtain⟨b,L,e,_⟩:=N O;rw [J] at e;cases e) (fun j v K=>by rw [zh];exact(g3 j v K).2) (by omega) I
  exact⟨cp,E,G++M,h.run e1 e2 hr,by simpa using k1,k2,k3,T.append U,k4⟩
section
variable {K:PV->Prop} (hR:Rd D ρ s (zB a) (zA o) w)
include hR
theorem znj {x y:Operand} {O Q:PO} {t e:TypeId} {i:TypeInfo} {z:Value} (h:ApOp P o x y t e i z) (F:po x=some O) (hy:po y=some Q) (hk:PK.q P s (.ap O Q i.size i.bytes) K):QS P o D ρ s a w K:=by
 simp only [PK.q] at hk
 obtain⟨c,ho,N,C,_⟩:=h.ho
 have u:=hR.op F (by rw [ho];simp [Op.operands,Call.operands,N,C])
 have E:=hR.op hy (by rw [ho];simp [Op.operands,Call.operands,N,C])
 split at hk
 ·rename_i es ex
  obtain⟨ab,k,ey,h1,h2,h3,M⟩:=y8 hk
  rw [ex] at u
  rw [ey] at E
  rcases zjv h u E h1 h2 h3 with⟨rfl,H⟩ | ⟨A,B,vs,H,k1,k2,k3,k4,k5⟩
  ·obtain⟨J,G,sz,b,I,f,L,S,T,U,V,X,Y,Z⟩:=u.inv_sl
   refine⟨_,M,rfl,zby H ?_ fun _ _ _=>.inl ⟨J,by rw [L,T rfl];simp⟩⟩
   rw [List.append_nil,L]
   exact .dat (.sl J G sz es _ b I f S (fun h=>by cases h) U V X Y Z)
  ·have hb:Below w.heap.size w (w.drew.alloc (.cells B e)):=(show Below w.heap.size w w.drew from ⟨rfl,rfl,rfl,Nat.le_refl _,fun _ _=>rfl⟩).alloc (Nat.le_refl _) _
   refine⟨_,M,rfl,zlD H hb (.dat ?_) fun _ _ hN=>.inr ⟨w.heap.size,A,B,e,hN.1,by simp,World.alloc_heap_new w.drew (.cells B e),k3⟩⟩
   have k6:=k4.mono (D':=fun b o=>D b o\/w.heap.size<=b) (w':=w.drew.alloc (.cells B e)) (fun _ _ h=>.inl h) fun b o x _ F=>qa hb (qF F) F
   have:=jr (k:=.n i.size) (e:=e) (fr:=(0,0)) k6 (World.alloc_heap_new w.drew (.cells B e)) k5 k1 k2 (fun h=>by cases h) (fun j _=>.inr (Nat.le_refl _))
   simpa using this
 ·exact hk.elim
end
end Go.Proofs.YtonhfknjcbakiaaGreatDoor
