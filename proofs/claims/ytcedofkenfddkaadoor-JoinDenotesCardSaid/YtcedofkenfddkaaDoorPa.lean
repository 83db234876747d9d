/- Appends: what they leave, of a slice that has no room and of a slice that its owner holds. No condition. -/
import Derived.Test.YtcedofkenfddkaaDoorPr
namespace Go.Proofs.YtcedofkenfddkaaDoor
set_option linter.unusedVariables false
set_option linter.unusedSimpArgs false
open Go.RowKit
variable {P : Program} {o : Oper} {D : Nat → Nat → Prop} {ρ : Nat → Nat} {nb : Nat} {s : PS} {a : Act} {w : World}

/-- The row of a slice, cell by cell. -/
theorem sl_row {u : Value} {es : List (List PV)} {k : Ow} {sz : Nat} (h : Rel D ρ nb w u (.sl es k)) (hs : ∀ e ∈ es, e.length = sz) : ∃ (ad : Option Addr) (cap : Nat) (vs : List Value), u = .slice ad es.length cap ∧ es.length ≤ cap ∧ cap ≤ maxLen ∧ (k = .z → cap = es.length) ∧
    RowD D w sz vs es ∧ (es ≠ [] → ∃ b off, ad = some ⟨b, off, none⟩ ∧ ∀ j v, vs[j]? = some v → D b (off + j) ∧ w.cell? ⟨b, off + j, none⟩ = some v) := by
  obtain ⟨ad, cap, sz', b, off, f, e1, hc, hz, hm, ha, hsz, hD, hd⟩ := h.inv_sl
  cases es with
  | nil => exact ⟨ad, cap, [], e1, hc, hm, hz, ⟨by simp, fun i e h => by simp at h, fun j h => by simp at h, fun i e j p h => by simp at h⟩, fun h => absurd rfl h⟩
  | cons e es =>
    have hss : sz' = sz := (hsz 0 e rfl).symm.trans (hs e (by simp))
    subst hss
    refine ⟨ad, cap, (List.range ((e :: es).length * sz')).map f, e1, hc, hm, hz, ⟨by simp, hsz, fun j hj => ?_, fun i e' j p he hp => ?_⟩, fun hne => ⟨b, off, ha hne, fun j v hv => ?_⟩⟩
    · have hj' : j < (e :: es).length * sz' := by simpa using hj
      rw [List.getD_eq_getElem?_getD, List.getElem?_map, List.getElem?_range hj']
      exact (hD j hj').2.2
    · have hlt := sub_lt (List.getElem?_eq_some_iff.1 he).1 (show j < sz' by rw [← hsz _ _ he]; exact (List.getElem?_eq_some_iff.1 hp).1)
      rw [List.getD_eq_getElem?_getD, List.getElem?_map, List.getElem?_range hlt]
      exact hd i e' j p he hp
    · have hj' : j < (e :: es).length * sz' := by have := (List.getElem?_eq_some_iff.1 hv).1; simpa using this
      rw [List.getElem?_map, List.getElem?_range hj'] at hv
      simp at hv
      subst hv
      exact ⟨(hD j hj').1, (hD j hj').2.1⟩
theorem row_one {sz : Nat} {vs : List Value} {es : List (List PV)} (h : RowD D w sz vs es) : ∀ u ∈ vs, u.oneCell' = true := fun u hu => by
  obtain ⟨j, hj⟩ := List.getElem?_of_mem hu
  have := h.2.2.1 j (List.getElem?_eq_some_iff.1 hj).1
  rwa [List.getD_eq_getElem?_getD, hj] at this

/-- The operands of an append. -/
structure ApOp (P : Program) (o : Oper) (x y : Operand) (t e : TypeId) (i : TypeInfo) (z : Value) : Prop where
  ho : ∃ c, o.op = .call c ∧ c.callee = .builtin .append ∧ c.args = #[x, y] ∧ c.argTypes = #[t, t]
  ht : P.underlying t = some (.slice e)
  hi : P.info? e = some i
  hz : i.zero = some z
  hzs : z.cells.size = i.size
  hs : 0 < i.size
  hb : 0 < i.bytes
theorem ApOp.run {x y : Operand} {t e : TypeId} {i : TypeInfo} {z : Value} (h : ApOp P o x y t e i z) {u v r : Value} {w' : World} (hx : a.eval x = u) (hy : a.eval y = v) (hr : (Builtin.append_ #[t, t] o.type #[u, v]).run P w = .ok r w') :
    (execOp a.eval o).run P w = .ok (.value r) w' := by
  obtain ⟨c, ho, hc, ha, hat⟩ := h.ho
  simp only [execOp, ho, resolve, hc, ha, hat, List.map_toArray, List.map_cons, List.map_nil, hx, hy, invoke, builtin, Sem.run_bind, Sem.run_pure, Result.andThen_ok, hr]
/-- Appending nothing. -/
theorem append_none {t ty e : TypeId} {i : TypeInfo} (ht : P.underlying t = some (.slice e)) (hi : P.info? e = some i) (ad ad' : Option Addr) (n cap c : Nat) (hc : n ≤ cap) :
    (Builtin.append_ #[t, t] ty #[.slice ad n cap, .slice ad' 0 c]).run P w = .ok (.slice ad n cap) w := by
  cases ad <;> cases ad' <;> simp [Builtin.append_, run_underlying ht, sizeOf_run hi, Builtin.lenOf, hc, Builtin.firstCells, loadCells, loadCellsFrom, storeCells]
/-- An append that makes a new row. -/
theorem append_new {t ty e : TypeId} {i : TypeInfo} {z : Value} (ht : P.underlying t = some (.slice e)) (hi : P.info? e = some i) (hz : i.zero = some z) (hzs : z.cells.size = i.size) (hb : 0 < i.bytes) {ad : Option Addr} {b' : Addr} {n m cap c : Nat} {olds news : List Value} (hlo : olds.length = n * i.size) (hl : news.length = m * i.size)
    (hold : n ≠ 0 → ∃ b, ad = some b ∧ ∀ j v, olds[j]? = some v → w.cell? (b.add j) = some v) (hnil : ad = none → cap = 0) (hnew : ∀ j v, news[j]? = some v → w.cell? (b'.add j) = some v) (hcap : cap < n + m) (hby : (n + m) * i.bytes ≤ 140737488355328) :
    ∃ cap' cs, (Builtin.append_ #[t, t] ty #[.slice ad n cap, .slice (some b') m c]).run P w = .ok (.slice (some ⟨w.heap.size, 0, none⟩) (n + m) cap') (w.drew.alloc (.cells cs e)) ∧ n + m ≤ cap' ∧ cap' ≤ maxLen ∧ cs.size = cap' * i.size ∧ ∀ j, j < (olds ++ news).length → cs[j]? = some ((olds ++ news).getD j undef) := by
  have h63 : n + m ≤ 9223372036854775807 := by
    have := Nat.le_mul_of_pos_right (n + m) hb; omega
  have hfit := growslice_fits (old := cap) (need := n + m) (by omega) hby
  have get : ∀ (cap' : Nat) (l : List Value), (∀ j, j < l.length → (l.toArray ++ Builtin.zeroCells z.cells cap')[j]? = some (l.getD j undef)) := fun cap' l j hj => by
    rw [Array.getElem?_append_left (by simpa using hj)]
    simp [hj]
  have hml : n + m ≤ maxLen := by unfold maxLen; omega
  cases ad with
  | none =>
    have hc0 := hnil rfl
    subst hc0
    have hn0 : n = 0 := by
      rcases Nat.eq_zero_or_pos n with h | h
      · exact h
      · obtain ⟨b, e, _⟩ := hold (by omega); cases e
    subst hn0
    have ho : olds = [] := List.eq_nil_of_length_eq_zero (by simpa using hlo)
    subst ho
    have hr := run_append_nil (P := P) w t ty e i z ht hi hz b' m c news hl hnew (by omega) (by omega) (by simp only [Nat.zero_add] at hby; omega)
    refine ⟨_, _, by simpa using hr, by simpa using grownCap_ge w m 0 e, grownCap_le_maxLen w m 0 e (by omega), ?_, fun j hj => by simpa using get _ news j (by simpa using hj)⟩
    have := grownCap_ge w m 0 e
    simp only [Array.size_append, List.size_toArray, size_zeroCells, hzs, hl, ← Nat.add_mul]
    congr 1; omega
  | some b =>
    have hold' : ∀ j v, olds[j]? = some v → w.cell? (b.add j) = some v := by
      rcases Nat.eq_zero_or_pos n with h | h
      · subst h
        have ho : olds = [] := List.eq_nil_of_length_eq_zero (by simpa using hlo)
        subst ho
        intro j v hv; simp at hv
      · obtain ⟨b2, e, h2⟩ := hold (by omega); cases e; exact h2
    have hr := run_append_grow (P := P) w t ty e i z ht hi hz b n cap olds hlo hold' b' m c news hl hnew hcap (by omega) hfit
    refine ⟨_, _, hr, grownCap_ge w (n + m) cap e, grownCap_le_maxLen w (n + m) cap e hml, ?_, fun j hj => ?_⟩
    · have := grownCap_ge w (n + m) cap e
      simp only [Array.size_append, List.size_toArray, size_zeroCells, hzs, hl, hlo, ← Nat.add_mul]
      congr 1; omega
    · have := get (grownCap w (n + m) cap e - (n + m)) (olds ++ news) j hj
      rw [← this]
      simp
/-- An append to a slice without room: what its value reads as. -/
theorem ap_z {x y : Operand} {t e : TypeId} {i : TypeInfo} {z : Value} (h : ApOp P o x y t e i z) {es es' : List (List PV)} {k : Ow} (hx : Rel D ρ nb w (a.eval x) (.sl es .z)) (hy : Rel D ρ nb w (a.eval y) (.sl es' k))
    (h1 : ∀ e ∈ es, e.length = i.size) (h2 : ∀ e ∈ es', e.length = i.size) (hby : (es.length + es'.length) * i.bytes ≤ 140737488355328) :
    (es' = [] ∧ (execOp a.eval o).run P w = .ok (.value (a.eval x)) w) ∨ ∃ cap' cs vs, (execOp a.eval o).run P w = .ok (.value (.slice (some ⟨w.heap.size, 0, none⟩) (es.length + es'.length) cap')) (w.drew.alloc (.cells cs e)) ∧ (es ++ es').length ≤ cap' ∧ cap' ≤ maxLen ∧ cs.size = cap' * i.size ∧
      RowD D w i.size vs (es ++ es') ∧ ∀ j, j < vs.length → cs[j]? = some (vs.getD j undef) := by
  obtain ⟨ad, cap, vs, e1, c1, c2, c3, r1, g1⟩ := sl_row hx h1
  obtain ⟨ad', cap', vs', e2, d1, d2, _, r2, g2⟩ := sl_row hy h2
  have hcap := c3 rfl
  by_cases hes : es' = []
  · subst hes
    left
    refine ⟨rfl, ?_⟩
    rw [e1]
    exact h.run e1 e2 (append_none h.ht h.hi _ _ _ _ _ (by omega))
  · right
    obtain ⟨b', off', rfl, g3⟩ := g2 hes
    have hpos : 0 < es'.length := List.length_pos_iff.2 hes
    obtain ⟨cp, cs, hr, k1, k2, k3, k4⟩ := append_new (P := P) (w := w) (ty := o.type) (c := cap') (ad := ad) (cap := cap) h.ht h.hi h.hz h.hzs h.hb r1.1 r2.1 (fun hn => by
      obtain ⟨b, off, rfl, g4⟩ := g1 (by intro e; subst e; simp at hn)
      exact ⟨_, rfl, fun j v hv => by rw [add_none]; exact (g4 j v hv).2⟩) (fun hn => by
      by_cases he : es = []
      · subst he; simpa using hcap
      · obtain ⟨b, off, e, _⟩ := g1 he; rw [hn] at e; cases e) (fun j v hv => by rw [add_none]; exact (g3 j v hv).2) (by omega) hby
    exact ⟨cp, cs, vs ++ vs', h.run e1 e2 hr, by simpa using k1, k2, k3, r1.append r2, k4⟩
section
variable {K : PV → Prop} (hR : Rd D ρ s (slt a) (rdsO o) w)
include hR
theorem q_ap {x y : Operand} {x' y' : PO} {t e : TypeId} {i : TypeInfo} {z : Value} (h : ApOp P o x y t e i z) (hx : po x = some x') (hy : po y = some y') (hk : PK.q P s (.ap x' y' i.size i.bytes) K) : QS P o D ρ s a w K := by
  simp only [PK.q] at hk
  obtain ⟨c, ho, hc, hca, _⟩ := h.ho
  have hrx := hR.op hx (by rw [ho]; simp [Op.operands, Call.operands, hc, hca])
  have hry := hR.op hy (by rw [ho]; simp [Op.operands, Call.operands, hc, hca])
  split at hk
  · rename_i es ex
    obtain ⟨es', k, ey, h1, h2, h3, h4⟩ := qSl_inv hk
    rw [ex] at hrx
    rw [ey] at hry
    rcases ap_z h hrx hry h1 h2 h3 with ⟨rfl, hr⟩ | ⟨cap', cs, vs, hr, k1, k2, k3, k4, k5⟩
    · obtain ⟨ad, cap, sz, b, off, f, e3, c1, c2, c3, c4, c5, c6, c7⟩ := hrx.inv_sl
      refine ⟨_, h4, rfl, qdet hr ?_ fun _ _ _ => .inl ⟨ad, by rw [e3, c2 rfl]; simp⟩⟩
      rw [List.append_nil, e3]
      exact .dat (.sl ad cap sz es _ b off f c1 (fun h => by cases h) c3 c4 c5 c6 c7)
    · have hb : Below w.heap.size w (w.drew.alloc (.cells cs e)) := (show Below w.heap.size w w.drew from ⟨rfl, rfl, rfl, Nat.le_refl _, fun _ _ => rfl⟩).alloc (Nat.le_refl _) _
      refine ⟨_, h4, rfl, qnew hr hb (.dat ?_) fun _ _ hN => .inr ⟨w.heap.size, cap', cs, e, hN.1, by simp, World.alloc_heap_new w.drew (.cells cs e), k3⟩⟩
      have k6 := k4.mono (D' := fun b o => D b o ∨ w.heap.size ≤ b) (w' := w.drew.alloc (.cells cs e)) (fun _ _ h => .inl h) fun b o x _ hx => below_cell hb (cell_lt hx) hx
      have := row_dat (k := .n i.size) (e := e) (fr := (0, 0)) k6 (World.alloc_heap_new w.drew (.cells cs e)) k5 k1 k2 (fun h => by cases h) (fun j _ => .inr (Nat.le_refl _))
      simpa using this
  · exact hk.elim
end
end Go.Proofs.YtcedofkenfddkaaDoor
