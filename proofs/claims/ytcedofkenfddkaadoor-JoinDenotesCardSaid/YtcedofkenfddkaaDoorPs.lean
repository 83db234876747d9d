/- Each instruction that only reads does what it says: its value, out of the values of its operands. No condition. -/
import Derived.Test.YtcedofkenfddkaaDoorPk
import Derived.Test.YtcedofkenfddkaaDoorRegion
namespace Go.Proofs.YtcedofkenfddkaaDoor
set_option linter.unusedVariables false
set_option linter.unusedSimpArgs false
open Go.RowKit
attribute [local go_sem] Oper.semAt_some

def slt (a : Act) : Nat → Value := fun t => a.tmps.getD t undef
theorem ofC_dat (D : Nat → Nat → Prop) (w : World) (v : Value) : Dat D w v (ofC v) := by
  unfold ofC
  split
  · exact .sl none 0 1 [] .sh 0 0 (fun _ => undef) (Nat.le_refl _) (fun h => by cases h) (Nat.zero_le _) (fun h => absurd rfl h) (fun i e h => by simp at h) (fun j h => absurd h (by simp)) (fun i e j p h => by simp at h)
  · exact .v _
theorem ofV_dat (D : Nat → Nat → Prop) (w : World) (v : Value) : Dat D w v (ofV v) := by
  unfold ofV
  split
  · exact .sl none 0 1 [] .z 0 0 (fun _ => undef) (Nat.le_refl _) (fun _ => rfl) (Nat.zero_le _) (fun h => absurd rfl h) (fun i e h => by simp at h) (fun j h => absurd h (by simp)) (fun i e j p h => by simp at h)
  · rename_i vs
    split
    · rename_i hall
      refine .agg vs _ (by simp) (fun i hi => ?_) fun i p hp => ?_
      · rw [List.all_eq_true] at hall
        have hi' : i < vs.size := by simpa using hi
        exact hall _ (by simp [hi'])
      · simp only [List.getElem?_map, Option.map_eq_some_iff] at hp
        obtain ⟨v, hv, rfl⟩ := hp
        have : vs.getD i undef = v := by simp at hv; simp [hv]
        rw [this]; exact ofC_dat D w v
    · exact .v _
  · exact .v _
/-- What an operation may read. -/
structure Rd (D : Nat → Nat → Prop) (ρ : Nat → Nat) (s : PS) (x : Nat → Value) (ts : List Nat) (w : World) : Prop where
  slots : ∀ t ∈ ts, Rel D ρ s.b.length w (x t) (s.get t)
  boxes : ∀ (i : Nat) cs, s.b[i]? = some cs → BoxR ⟨D, ρ⟩ s.b.length w i cs
  gl : GL D w
/-- What the marks of the slots that are read say, against the slots at the statement's start. -/
def News (x0 : Nat → Value) (n0 : Nat) (s : PS) (x : Nat → Value) (ts : List Nat) (w : World) : Prop :=
  n0 ≤ w.heap.size ∧ ∀ t ∈ ts, NewOk x0 n0 w (x t) (s.get t) ∧ ((s.get t).own ≠ none → x0 t = x t)
/-- A value for an operation: whatever comes behind it goes on with it. -/
def Qok (P : Program) (o : Oper) (s : PS) (ρ : Nat → Nat) (D : Nat → Nat → Prop) (a : Act) (w : World) (p : PV) : Prop :=
  ∀ (next : Act → World → Prop) (Q : Exit → Act → World → Prop), (∀ u w', Below w.heap.size w w' → Rel (fun b o => D b o ∨ w.heap.size ≤ b) ρ s.b.length w' u p → (∀ x0 n0, News x0 n0 s (slt a) (rdsO o) w → NewOk x0 n0 w' u p) → next (a.put o.dst u) w') → o.wp P a w next Q
variable {P : Program} {o : Oper} {D : Nat → Nat → Prop} {ρ : Nat → Nat} {nb : Nat} {s : PS} {a : Act} {w : World}
theorem qdet {u : Value} {p : PV} (hr : (execOp a.eval o).run P w = .ok (.value u) w) (h : Rel D ρ s.b.length w u p) (hN : ∀ x0 n0, News x0 n0 s (slt a) (rdsO o) w → NewOk x0 n0 w u p) : Qok P o s ρ D a w p := by
  intro next Q hn
  show o.upon P a next Q ((execOp a.eval o).run P w)
  rw [hr]
  exact hn u w (Below.refl _ _) (h.mono (fun _ _ h => .inl h) (fun _ _ _ _ h => h) (Nat.le_refl _) fun _ _ => rfl) hN
theorem qnew {u : Value} {p : PV} {w' : World} (hr : (execOp a.eval o).run P w = .ok (.value u) w') (hb : Below w.heap.size w w') (h : Rel (fun b o => D b o ∨ w.heap.size ≤ b) ρ s.b.length w' u p) (hN : ∀ x0 n0, News x0 n0 s (slt a) (rdsO o) w → NewOk x0 n0 w' u p) : Qok P o s ρ D a w p := by
  intro next Q hn
  show o.upon P a next Q ((execOp a.eval o).run P w)
  rw [hr]
  exact hn u w' hb h hN
theorem po_rel {y : Operand} {y' : PO} (hy : po y = some y') (h : ∀ t, y = .tmp t → Rel D ρ nb w (slt a t) (s.get t)) : Rel D ρ nb w (a.eval y) (s.ev y') := by
  cases y with
  | tmp t => cases hy; exact h t rfl
  | const v => cases hy; exact .dat (ofV_dat D w v)
  | func f => cases hy; exact .dat (.fn (.func f) #[] #[] [] [] rfl rfl (fun i p h => by simp at h) (fun i p h => by simp at h))
  | global g => cases hy
theorem Rd.at {ts : List Nat} (h : Rd D ρ s (slt a) ts w) {y : Operand} {y' : PO} (hy : po y = some y') (ht : ∀ t, y = .tmp t → t ∈ ts) : Rel D ρ s.b.length w (a.eval y) (s.ev y') :=
  po_rel hy fun t e => h.slots t (ht t e)
/-! ### Of a reading of a known form -/
theorem Rel.inv_v {u : Value} {y : Value} (h : Rel D ρ nb w u (.v y)) : u = y := h.v_inv
theorem Rel.inv_agg {u : Value} {cs : List PV} (h : Rel D ρ nb w u (.agg cs)) : ∃ vs : Array Value, u = .agg vs ∧ vs.size = cs.length ∧ (∀ i, i < cs.length → (vs.getD i undef).oneCell' = true) ∧ ∀ (i : Nat) p, cs[i]? = some p → Dat D w (vs.getD i undef) p := by
  rcases h with (h | ⟨i, o, h, _⟩) | ⟨f, va, vb, fs, cs, h, _⟩
  · cases h with | agg vs cs hs h1 h => exact ⟨vs, rfl, hs, h1, h⟩
  · cases h
  · cases h
theorem Rel.inv_tup {u : Value} {cs : List PV} (h : Rel D ρ nb w u (.tup cs)) : ∃ vs : Array Value, u = .tuple vs ∧ vs.size = cs.length ∧ ∀ (i : Nat) p, cs[i]? = some p → Dat D w (vs.getD i undef) p := by
  rcases h with (h | ⟨i, o, h, _⟩) | ⟨f, va, vb, fs, cs, h, _⟩
  · cases h with | tup vs cs hs h => exact ⟨vs, rfl, hs, h⟩
  · cases h
  · cases h
theorem Rel.inv_ifc {u : Value} {t : TypeId} {p : PV} (h : Rel D ρ nb w u (.ifc t p)) : ∃ x, u = .iface t x ∧ Dat D w x p := by
  rcases h with (h | ⟨i, o, h, _⟩) | ⟨f, va, vb, fs, cs, h, _⟩
  · cases h with | ifc t x p h => exact ⟨x, rfl, h⟩
  · cases h
  · cases h
theorem Rel.inv_bx {u : Value} {i o : Nat} (h : Rel D ρ nb w u (.bx i o)) : i < nb ∧ u = .pointer (some ⟨ρ i, o, none⟩) := by
  rcases h with (h | ⟨i, o, h, hi, hu⟩) | ⟨f, va, vb, fs, cs, h, _⟩
  · cases h
  · cases h; exact ⟨hi, hu⟩
  · cases h
theorem Rel.inv_cp {u : Value} {cs : List PV} {k : Nat} (h : Rel D ρ nb w u (.cp cs k)) : ∃ (b off : Nat) (f : Nat → Value), u = .pointer (some ⟨b, off + k, none⟩) ∧ (∀ j, j < cs.length → D b (off + j) ∧ w.cell? ⟨b, off + j, none⟩ = some (f j) ∧ (f j).oneCell' = true) ∧ ∀ (j : Nat) p, cs[j]? = some p → Dat D w (f j) p := by
  rcases h with (h | ⟨i, o, h, _⟩) | ⟨f, va, vb, fs, cs, h, _⟩
  · cases h with | cp b off cs o u h1 h2 => exact ⟨b, off, u, rfl, h1, h2⟩
  · cases h
  · cases h
theorem Rel.inv_sl {u : Value} {es : List (List PV)} {k : Ow} (h : Rel D ρ nb w u (.sl es k)) : ∃ (ad : Option Addr) (cap sz b off : Nat) (f : Nat → Value), u = .slice ad es.length cap ∧ es.length ≤ cap ∧ (k = .z → cap = es.length) ∧ cap ≤ maxLen ∧ (es ≠ [] → ad = some ⟨b, off, none⟩) ∧
    (∀ (i : Nat) e, es[i]? = some e → e.length = sz) ∧ (∀ j, j < es.length * sz → D b (off + j) ∧ w.cell? ⟨b, off + j, none⟩ = some (f j) ∧ (f j).oneCell' = true) ∧ ∀ (i : Nat) e (j : Nat) p, es[i]? = some e → e[j]? = some p → Dat D w (f (i * sz + j)) p := by
  rcases h with (h | ⟨i, o, h, _⟩) | ⟨f, va, vb, fs, cs, h, _⟩
  · cases h with | sl a cap sz es o b off u hc hz hm ha hsz hD h => exact ⟨a, cap, sz, b, off, u, rfl, hc, hz, hm, ha, hsz, hD, h⟩
  · cases h
  · cases h
theorem qBool_inv {p : PV} {K : Bool → Prop} {u : Value} (h : qBool p K) (hr : Rel D ρ nb w u p) : ∃ b, u = .bool b ∧ p = .v (.bool b) ∧ K b := by
  unfold qBool at h
  split at h
  · exact ⟨_, hr.v_inv, rfl, h⟩
  · exact h.elim
theorem qInt_inv {p : PV} {K : IntKind → Int → Prop} {u : Value} (h : qInt p K) (hr : Rel D ρ nb w u p) : ∃ k n, u = .int k n ∧ p = .v (.int k n) ∧ K k n := by
  unfold qInt at h
  split at h
  · exact ⟨_, _, hr.v_inv, rfl, h⟩
  · exact h.elim
theorem qSl_inv {p : PV} {K : List (List PV) → Prop} (h : qSl p K) : ∃ es k, p = .sl es k ∧ K es := by
  unfold qSl at h
  split at h
  · exact ⟨_, _, rfl, h⟩
  · exact h.elim
/-- The integers' and truths' operators. -/
theorem qar_run {k : IntKind} {n : Int} {K : PV → Prop} (h : qar k n K) : K (.v (.int k (k.wrap n))) := by
  unfold qar at h
  split at h
  · obtain ⟨⟨h1, h2⟩, h3⟩ := h
    have : IntKind.i64.wrap n = n := IntWalk.i64_in _ ⟨h1, by omega⟩
    rw [this]; exact h3
  · exact h
theorem qint_run {op : BinOp} {k : IntKind} {x y : Int} {K : PV → Prop} (t : TypeId) (h : qint op k x y K) : ∃ u, (binOp op t (.int k x) (.int k y)).run P w = .ok u w ∧ K (.v u) := by
  unfold qint at h
  split at h
  case h_1 => exact ⟨_, by simp [binOp, Op.intArith], qar_run h⟩
  case h_2 => exact ⟨_, by simp [binOp, Op.intArith], qar_run h⟩
  case h_3 => exact ⟨_, by simp [binOp, Op.intArith], qar_run h⟩
  case h_4 => exact ⟨_, by simp [binOp, Op.intDiv, h.1], qar_run h.2⟩
  case h_5 => exact ⟨_, by simp [binOp, Op.intDiv, h.1], h.2⟩
  case h_6 => exact ⟨.bool (decide (x = y)), by simp [binOp, Op.intCmp]; rfl, h⟩
  case h_7 => exact ⟨.bool (!decide (x = y)), by simp [binOp, Op.intCmp]; rfl, h⟩
  case h_8 => exact ⟨_, by simp [binOp, Op.intCmp], h⟩
  case h_9 => exact ⟨_, by simp [binOp, Op.intCmp], h⟩
  case h_10 => exact ⟨_, by simp [binOp, Op.intCmp], h⟩
  case h_11 => exact ⟨_, by simp [binOp, Op.intCmp], h⟩
  case h_12 => exact ⟨_, by simp [binOp, Op.shift, Int.not_lt.2 h.1]; rfl, h.2⟩
  case h_13 => exact h.elim

theorem eqGuard_int (op : BinOp) (t : TypeId) (x y : Operand) (k k' : IntKind) (m n : Int) : (eqGuard op t x y (.int k m) (.int k' n)).run P w = .ok () w := by
  unfold eqGuard; split <;> simp
theorem qbin_run {op : BinOp} {p q : PV} {K : PV → Prop} {u v : Value} (t : TypeId) (x y : Operand) (h : qbin op p q K) (hu : Rel D ρ nb w u p) (hv : Rel D ρ nb w v q) :
    ∃ r, (do eqGuard op t x y u v; binOp op t u v : Sem Value).run P w = .ok r w ∧ K (.v r) := by
  unfold qbin at h
  split at h
  · obtain rfl := hu.v_inv
    obtain rfl := hv.v_inv
    obtain ⟨rfl, h⟩ := h
    obtain ⟨r, h1, h2⟩ := qint_run (P := P) (w := w) t h
    exact ⟨r, by simp [eqGuard_int, h1], h2⟩
  · exact h.elim
theorem eqGuard_bool (op : BinOp) (t : TypeId) (x y : Operand) (m n : Bool) : (eqGuard op t x y (.bool m) (.bool n)).run P w = .ok () w := by
  unfold eqGuard; split <;> simp
theorem equal_bool {t : TypeId} (ht : P.underlying t = some .bool) (m n : Bool) : (Op.equal t (.bool m) (.bool n)).run P w = .ok (m == n) w := by
  unfold Op.equal Op.maxDepth
  rw [show (10000 : Nat) = 9999 + 1 from rfl]
  unfold Op.equalIn
  simp [run_underlying ht]
theorem eqGuard_nil (op : BinOp) (t : TypeId) (x : Operand) : (eqGuard op t x (.const .nilIface) .nilIface .nilIface).run P w = .ok () w := by
  unfold eqGuard; cases op <;> cases x <;> simp
theorem eqGuard_nil' (op : BinOp) (t t' : TypeId) (x y : Operand) (v : Value) : (eqGuard op t x y (.iface t' v) .nilIface).run P w = .ok () w := by
  unfold eqGuard; cases op <;> simp
theorem equal_nil {t : TypeId} {ms} (ht : P.underlying t = some (.interface ms)) : (Op.equal t .nilIface .nilIface).run P w = .ok true w := by
  unfold Op.equal Op.maxDepth
  rw [show (10000 : Nat) = 9999 + 1 from rfl]
  unfold Op.equalIn
  simp [run_underlying ht]
theorem equal_nil' {t : TypeId} {ms} (ht : P.underlying t = some (.interface ms)) (t' : TypeId) (v : Value) : (Op.equal t (.iface t' v) .nilIface).run P w = .ok false w := by
  unfold Op.equal Op.maxDepth
  rw [show (10000 : Nat) = 9999 + 1 from rfl]
  unfold Op.equalIn
  simp [run_underlying ht]

/-! ### Cells -/
theorem getD_lt {l : List PV} {vs : Array Value} {i : Nat} {p : PV} (hs : vs.size = l.length) (hp : l[i]? = some p) : i < vs.size := by rw [hs]; exact (List.getElem?_eq_some_iff.1 hp).1
/-- The cells of a value that is no tuple. -/
def CellsR (D : Nat → Nat → Prop) (ρ : Nat → Nat) (nb : Nat) (w : World) (u : Value) (cs : List PV) : Prop :=
  u.cells.size = cs.length ∧ ∀ (i : Nat) p, cs[i]? = some p → Rel D ρ nb w (u.cells.getD i undef) p ∧ (u.cells.getD i undef).oneCell' = true
theorem cells_one {u : Value} {p : PV} (h : Rel D ρ nb w u p) (hu : u.oneCell' = true) : CellsR D ρ nb w u [p] := by
  have e : u.cells = #[u] := by cases u <;> first | rfl | cases hu
  refine ⟨by rw [e]; rfl, fun i q hq => ?_⟩
  have hi : i = 0 := by have := (List.getElem?_eq_some_iff.1 hq).1; simpa using this
  subst hi
  simp at hq
  subst hq
  rw [e]
  exact ⟨h, hu⟩
theorem qCells_inv {p : PV} {K : List PV → Prop} {u : Value} (h : qCells p K) (hr : Rel D ρ nb w u p) : ∃ cs, K cs ∧ CellsR D ρ nb w u cs := by
  unfold qCells at h
  split at h
  · obtain ⟨vs, rfl, hs, h1, h2⟩ := hr.inv_agg
    exact ⟨_, h, hs, fun i p hp => ⟨.dat (h2 i p hp), h1 i (List.getElem?_eq_some_iff.1 hp).1⟩⟩
  · obtain rfl := hr.v_inv
    exact ⟨_, h.2, cells_one hr h.1⟩
  · obtain ⟨_, _, _, _, _, _, rfl, _⟩ := hr.inv_sl
    exact ⟨_, h, cells_one hr rfl⟩
  · obtain ⟨_, _, _, rfl, _⟩ := hr.inv_cp
    exact ⟨_, h, cells_one hr rfl⟩
  · obtain ⟨_, rfl⟩ := hr.inv_bx
    exact ⟨_, h, cells_one hr rfl⟩
  · refine ⟨_, h, cells_one hr ?_⟩
    rcases hr with (hr | ⟨i, o, hr, _⟩) | ⟨f, va, vb, fs, cs, _, rfl, _⟩
    · cases hr; rfl
    · cases hr
    · rfl
  · obtain ⟨_, rfl, _⟩ := hr.inv_ifc
    exact ⟨_, h, cells_one hr rfl⟩
  · exact h.elim
/-! ### Loads -/
theorem run_load_cell {ad : Addr} {v : Value} (h : w.cell? ad = some v) : (load ad).run P w = .ok v w := by simp [load, Sem.run, h]
theorem isAgg_run {t : TypeId} {d : TypeDesc} (h : P.underlying t = some d) : (isAgg t).run P w = .ok (isAggD d) w := by
  unfold isAgg
  simp only [Sem.run_bind, run_underlying h, Result.andThen_ok]
  cases d <;> simp [isAggD]
theorem sizeOf_run {t : TypeId} {i : TypeInfo} (h : P.info? t = some i) : (sizeOf t).run P w = .ok i.size w := by simp [sizeOf, typeInfo, h]
theorem shp_some {t : TypeId} {ag : Bool} {n : Nat} (h : shp P t = some (ag, n)) : ∃ i d, P.info? t = some i ∧ P.underlying t = some d ∧ isAggD d = ag ∧ i.size = n := by
  unfold shp at h
  simp only [Option.bind_eq_some_iff, Option.map_eq_some_iff] at h
  obtain ⟨i, hi, d, hd, e⟩ := h
  cases e
  exact ⟨i, d, hi, hd, rfl, rfl⟩
theorem loadVar_one {t : TypeId} {n : Nat} {ad : Addr} {v : Value} (h : shp P t = some (false, n)) (hc : w.cell? ad = some v) : (loadVar t ad).run P w = .ok v w := by
  obtain ⟨i, d, h1, h2, h3, h4⟩ := shp_some h
  simp [loadVar, isAgg_run h2, h3, hc]
theorem loadVar_agg {t : TypeId} {n : Nat} {ad : Addr} {f : Nat → Value} (h : shp P t = some (true, n)) (hc : ∀ j, j < n → w.cell? (ad.add j) = some (f j)) : (loadVar t ad).run P w = .ok (.agg ((List.range n).map f).toArray) w := by
  obtain ⟨i, d, h1, h2, h3, h4⟩ := shp_some h
  subst h4
  simp [loadVar, isAgg_run h2, h3, sizeOf_run h1, run_loadCells w ad i.size f hc]
theorem add_none (b o j : Nat) : (⟨b, o, none⟩ : Addr).add j = ⟨b, o + j, none⟩ := by unfold Addr.add; split <;> simp_all
/-- A load out of cells that are known. -/
theorem qAt_load {t : TypeId} {ag : Bool} {n b off o : Nat} {cs : List PV} {f : Nat → Value} {K : PV → Prop} (hs : shp P t = some (ag, n)) (hq : qAt cs o ag n K)
    (hc : ∀ j, j < cs.length → w.cell? ⟨b, off + j, none⟩ = some (f j) ∧ (f j).oneCell' = true) (hr : ∀ (j : Nat) p, cs[j]? = some p → Rel D ρ nb w (f j) p) (hd : ag = true → allD ((cs.drop o).take n) = true) :
    ∃ u p, (loadVar t ⟨b, off + o, none⟩).run P w = .ok u w ∧ Rel D ρ nb w u p ∧ K p := by
  unfold qAt at hq
  cases ag with
  | true =>
    obtain ⟨h1, h2⟩ := hq
    refine ⟨_, _, loadVar_agg (f := fun j => f (o + j)) hs (fun j hj => ?_), ?_, h2⟩
    · rw [add_none, Nat.add_assoc]; exact (hc _ (by omega)).1
    · refine .dat (.agg _ _ (by simp; omega) (fun i hi => ?_) fun i p hp => ?_)
      · have hi' : i < n := by simp at hi; omega
        have : ((List.range n).map fun j => f (o + j)).toArray.getD i undef = f (o + i) := by simp [hi']
        rw [this]; exact (hc _ (by omega)).2
      · have hi : i < n := by have := (List.getElem?_eq_some_iff.1 hp).1; simp at this; omega
        have : ((List.range n).map fun j => f (o + j)).toArray.getD i undef = f (o + i) := by simp [hi]
        rw [this]
        have hD := hd rfl
        unfold allD at hD
        rw [List.all_eq_true] at hD
        refine (hr _ _ ?_).data (hD p (List.mem_of_getElem? hp))
        rw [List.getElem?_take, if_pos hi, List.getElem?_drop] at hp
        exact hp
  | false =>
    simp only at hq
    split at hq
    · rename_i p hp
      exact ⟨_, p, loadVar_one hs (hc o (List.getElem?_eq_some_iff.1 hp).1).1, hr _ _ hp, hq⟩
    · exact hq.elim
/-- A part of a struct or an array. -/
theorem qAt_part {t : TypeId} {ag : Bool} {n o : Nat} {cs : List PV} {vs : Array Value} {K : PV → Prop} (hs : shp P t = some (ag, n)) (hq : qAt cs o ag n K) (hz : vs.size = cs.length) (h1 : ∀ i, i < cs.length → (vs.getD i undef).oneCell' = true)
    (hr : ∀ (j : Nat) p, cs[j]? = some p → Dat D w (vs.getD j undef) p) : ∃ u p, (part t vs o).run P w = .ok u w ∧ Dat D w u p ∧ K p := by
  obtain ⟨i, d, e1, e2, e3, e4⟩ := shp_some hs
  unfold qAt at hq
  subst e4
  cases ag with
  | true =>
    obtain ⟨g1, g2⟩ := hq
    refine ⟨.agg (vs.extract o (o + i.size)), _, by simp [part, isAgg_run e2, e3, sizeOf_run e1], ?_, g2⟩
    have key : ∀ j, j < i.size → (vs.extract o (o + i.size)).getD j undef = vs.getD (o + j) undef := fun j hj => by
      have : o + j < vs.size := by omega
      have h2 : j < (vs.extract o (o + i.size)).size := by simp; omega
      simp [Array.getD_eq_getD_getElem?, Array.getElem?_eq_getElem h2, Array.getElem?_eq_getElem this]
    refine .agg _ _ (by simp; omega) (fun j hj => ?_) fun j p hp => ?_
    · have hj' : j < i.size := by simp at hj; omega
      rw [key j hj']; exact h1 _ (by omega)
    · have hj : j < i.size := by have := (List.getElem?_eq_some_iff.1 hp).1; simp at this; omega
      rw [key j hj]
      rw [List.getElem?_take, if_pos hj, List.getElem?_drop] at hp
      exact hr _ _ hp
  | false =>
    simp only at hq
    split at hq
    · rename_i p hp
      have ho : o < vs.size := getD_lt hz hp
      refine ⟨vs.getD o undef, p, ?_, hr _ _ hp, hq⟩
      simp [part, isAgg_run e2, e3, ho]
    · exact hq.elim
end Go.Proofs.YtcedofkenfddkaaDoor
