/- The soundness of the instructions that only read or make memory: all of them. No condition. -/
import Derived.Test.YtcedofkenfddkaaDoorPs
namespace Go.Proofs.YtcedofkenfddkaaDoor
set_option linter.unusedVariables false
set_option linter.unusedSimpArgs false
open Go.RowKit
variable {P : Program} {o : Oper} {D : Nat → Nat → Prop} {ρ : Nat → Nat} {nb : Nat} {s : PS} {a : Act} {w : World}

theorem rdsO_mem {o : Oper} {t : Tmp} (h : Operand.tmp t ∈ o.op.operands.toList) : t ∈ rdsO o := by
  unfold rdsO
  exact List.mem_filterMap.2 ⟨_, h, rfl⟩
/-- What is read of the operands of an operation. -/
theorem Rd.op (h : Rd D ρ s (slt a) (rdsO o) w) {y : Operand} {y' : PO} (hy : po y = some y') (hm : y ∈ o.op.operands.toList) : Rel D ρ s.b.length w (a.eval y) (s.ev y') :=
  h.at hy fun t e => rdsO_mem (by rw [← e]; exact hm)
theorem pos_some : ∀ {l : List Operand} {ys : List PO}, pos l = some ys → ys.length = l.length ∧ ∀ (i : Nat) (y : Operand), l[i]? = some y → ∃ y', ys[i]? = some y' ∧ po y = some y'
  | [], ys, h => by cases h; exact ⟨rfl, fun i y h => by simp at h⟩
  | x :: r, ys, h => by
    simp only [pos, Option.bind_eq_some_iff, Option.map_eq_some_iff] at h
    obtain ⟨y, hy, l, hl, rfl⟩ := h
    obtain ⟨h1, h2⟩ := pos_some hl
    refine ⟨by simp [h1], fun i z hz => ?_⟩
    cases i with
    | zero => simp at hz; subst hz; exact ⟨y, rfl, hy⟩
    | succ i => simpa using h2 i z (by simpa using hz)
/-- The result that is asked of each. -/
def QS (P : Program) (o : Oper) (D : Nat → Nat → Prop) (ρ : Nat → Nat) (s : PS) (a : Act) (w : World) (K : PV → Prop) : Prop := ∃ p, K p ∧ p.own = none ∧ Qok P o s ρ D a w p
theorem QS.det {K : PV → Prop} {u : Value} {p : PV} (hr : (execOp a.eval o).run P w = .ok (.value u) w) (h : Rel D ρ s.b.length w u p) (hk : K p) (ho : p.own = none) (hN : p.isN = false := by rfl) : QS P o D ρ s a w K := ⟨p, hk, ho, qdet hr h fun _ _ _ => newOk_of hN⟩
theorem QS.strip {K : PV → Prop} {u : Value} {p : PV} (hr : (execOp a.eval o).run P w = .ok (.value u) w) (h : Rel D ρ s.b.length w u p) (hk : K p.strip) : QS P o D ρ s a w K := ⟨p.strip, hk, p.strip_own, qdet hr h.strip fun _ _ _ => newOk_of p.strip_isN⟩

section
variable {K : PV → Prop} (hR : Rd D ρ s (slt a) (rdsO o) w)
include hR
theorem q_mv {x : Operand} {x' : PO} (ho : o.op = .move x ∨ o.op = .assign x) (hx : po x = some x') (hk : PK.q P s (.mv x') K) : QS P o D ρ s a w K := by
  have hr : (execOp a.eval o).run P w = .ok (.value (a.eval x)) w := by rcases ho with ho | ho <;> simp [execOp, ho]
  have hm : x ∈ o.op.operands.toList := by rcases ho with ho | ho <;> simp [ho, Op.operands]
  have hrel := hR.op hx hm
  cases x' with
  | t i =>
    have hxt : x = .tmp i := by cases x <;> first | (cases hx; rfl) | cases hx
    subst hxt
    simp only [PK.q] at hk
    rcases PV.pre_or i (s.get i) with e | ⟨es, n, m, e1, e2⟩
    · rw [e] at hk
      exact .strip hr hrel hk
    · rw [e2] at hk
      have hrel2 : Rel D ρ s.b.length w (slt a i) (.sl es (.r n m)) := e1 ▸ hrel
      obtain ⟨ad, cap, sz, b, off, f, e3, c1, c2, c3, c4, c5, c6, c7⟩ := hrel2.inv_sl
      refine ⟨_, hk, rfl, qdet hr ?_ fun x0 n0 hN => ⟨ad, es.length, cap, ?_, ?_⟩⟩
      · show Rel D ρ s.b.length w (slt a i) _
        rw [e3]
        exact .dat (.sl ad cap sz es _ b off f c1 (fun h => by cases h) c3 c4 c5 c6 c7)
      · have := (hN.2 i (rdsO_mem hm)).2 (by rw [e1]; simp [PV.own])
        rw [this, e3]
      · exact e3
  | c p => exact .strip hr hrel hk
  | f p => exact .strip hr hrel hk
theorem q_pk {c x y : Operand} {c' x' y' : PO} (ho : o.op = .pick c x y) (hc : po c = some c') (hx : po x = some x') (hy : po y = some y')
    (hk : qBool (s.ev c') fun b => (b = true → K (s.ev x').strip) ∧ (b = false → K (s.ev y').strip)) : QS P o D ρ s a w K := by
  obtain ⟨b, e1, _, h1, h2⟩ := qBool_inv hk (hR.op hc (by simp [ho, Op.operands]))
  cases b with
  | true => exact .strip (by simp [execOp, ho, e1, asBool]) (hR.op hx (by simp [ho, Op.operands])) (h1 rfl)
  | false => exact .strip (by simp [execOp, ho, e1, asBool]) (hR.op hy (by simp [ho, Op.operands])) (h2 rfl)
theorem q_bin {op : BinOp} {t t' : TypeId} {x y : Operand} {x' y' : PO} (ho : o.op = .binOp op t x y t') (hx : po x = some x') (hy : po y = some y') (hk : qbin op (s.ev x') (s.ev y') K) : QS P o D ρ s a w K := by
  obtain ⟨r, h1, h2⟩ := qbin_run (P := P) t x y hk (hR.op hx (by simp [ho, Op.operands])) (hR.op hy (by simp [ho, Op.operands]))
  refine .det (u := r) ?_ (.dat (.v _)) h2 rfl
  simp only [execOp, ho, Sem.run_bind, h1, Result.andThen_ok, Sem.run_pure]
theorem q_beq {op : BinOp} {t t' : TypeId} {x y : Operand} {x' y' : PO} (ho : o.op = .binOp op t x y t') (hop : op = .eql ∨ op = .neq) (ht : P.underlying t = some .bool) (hx : po x = some x') (hy : po y = some y')
    (hk : qBool (s.ev x') fun a => qBool (s.ev y') fun b => K (.v (.bool ((op == .neq) != (a == b))))) : QS P o D ρ s a w K := by
  obtain ⟨m, e1, _, h1⟩ := qBool_inv hk (hR.op hx (by simp [ho, Op.operands]))
  obtain ⟨n, e2, _, h2⟩ := qBool_inv h1 (hR.op hy (by simp [ho, Op.operands]))
  refine .det ?_ (.dat (.v _)) h2 rfl
  have hb := equal_bool (P := P) (w := w) ht m n
  rcases hop with rfl | rfl
  · simp only [execOp, ho, Sem.run_bind, e1, e2, eqGuard_bool, Result.andThen_ok, Sem.run_pure, binOp, hb]
    cases m <;> cases n <;> rfl
  · simp only [execOp, ho, Sem.run_bind, e1, e2, eqGuard_bool, Result.andThen_ok, Sem.run_pure, binOp, hb]
    cases m <;> cases n <;> rfl
theorem q_nil {op : BinOp} {t t' : TypeId} {x : Operand} {x' : PO} {ms} (ho : o.op = .binOp op t x (.const .nilIface) t') (hop : op = .eql ∨ op = .neq) (ht : P.underlying t = some (.interface ms)) (hx : po x = some x')
    (hk : PK.q P s (.nil (op == .neq) x') K) : QS P o D ρ s a w K := by
  have hr := hR.op hx (by simp [ho, Op.operands])
  simp only [PK.q] at hk
  split at hk
  · rename_i e
    rw [e] at hr
    have e1 := hr.v_inv
    refine .det ?_ (.dat (.v _)) hk rfl
    have hc : a.eval (.const .nilIface) = .nilIface := rfl
    rcases hop with rfl | rfl <;> simp only [execOp, ho, Sem.run_bind, e1, hc, eqGuard_nil, Result.andThen_ok, Sem.run_pure, binOp, equal_nil ht] <;> rfl
  · rename_i tt pp e
    rw [e] at hr
    obtain ⟨v, e1, _⟩ := hr.inv_ifc
    refine .det ?_ (.dat (.v _)) hk rfl
    have hc : a.eval (.const .nilIface) = .nilIface := rfl
    rcases hop with rfl | rfl <;> simp only [execOp, ho, Sem.run_bind, e1, hc, eqGuard_nil', Result.andThen_ok, Sem.run_pure, binOp, equal_nil' ht] <;> rfl
  · exact hk.elim
theorem q_not {t : TypeId} {x : Operand} {x' : PO} (ho : o.op = .unOp .not t x) (hx : po x = some x') (hk : qBool (s.ev x') fun b => K (.v (.bool (!b)))) : QS P o D ρ s a w K := by
  obtain ⟨b, e1, _, h1⟩ := qBool_inv hk (hR.op hx (by simp [ho, Op.operands]))
  exact .det (by simp [execOp, ho, e1, Op.unary]) (.dat (.v _)) h1 rfl
theorem q_cv {t t' : TypeId} {x : Operand} {x' : PO} {k k' : IntKind} (ho : o.op = .convert t t' x) (h1 : P.underlying t = some (.int k')) (h2 : P.underlying t' = some (.int k)) (hx : po x = some x') (hk : qInt (s.ev x') fun _ n => K (.v (.int k (k.wrap n)))) : QS P o D ρ s a w K := by
  obtain ⟨j, n, e1, _, h3⟩ := qInt_inv hk (hR.op hx (by simp [ho, Op.operands]))
  exact .det (by simp [execOp, ho, e1, convert, run_underlying h1, run_underlying h2, Conv.intToInt]) (.dat (.v _)) h3 rfl
theorem q_fa {t : TypeId} {x : Operand} {x' : PO} {f : Nat} {fs : Array Field} {fd : Field} {i : TypeInfo} (ho : o.op = .fieldAddr t x f) (h1 : P.underlying t = some (.struct fs)) (h2 : fs[f]? = some fd) (h3 : P.info? fd.type = some i) (h4 : i.size ≠ 0)
    (hx : po x = some x') (hk : PK.q P s (.fa x' fd.offset) K) : QS P o D ρ s a w K := by
  have hr := hR.op hx (by simp [ho, Op.operands])
  simp only [PK.q] at hk
  split at hk
  · rename_i i' o' e
    rw [e] at hr
    obtain ⟨hi, e1⟩ := hr.inv_bx
    refine .det (u := .pointer (some ⟨ρ i', o' + fd.offset, none⟩)) ?_ (.inl (.inr ⟨_, _, rfl, hi, rfl⟩)) hk rfl
    simp [execOp, ho, e1, Instr.fieldAt, run_underlying h1, h2, Instr.sureAddr, fieldPlace, sizeOf_run h3, h4, add_none]
  · rename_i cs o' e
    rw [e] at hr
    obtain ⟨b, off, u, e1, hc, hd⟩ := hr.inv_cp
    refine .det (u := .pointer (some ⟨b, off + (o' + fd.offset), none⟩)) ?_ (.dat (.cp b off cs _ u hc hd)) hk rfl
    simp [execOp, ho, e1, Instr.fieldAt, run_underlying h1, h2, Instr.sureAddr, fieldPlace, sizeOf_run h3, h4, add_none, Nat.add_assoc]
  · exact hk.elim
theorem q_ia {t e : TypeId} {x y : Operand} {x' y' : PO} {i : TypeInfo} (ho : o.op = .indexAddr t x y) (h1 : P.underlying t = some (.slice e)) (h3 : P.info? e = some i) (hx : po x = some x') (hy : po y = some y') (hk : PK.q P s (.ia x' y' i.size) K) : QS P o D ρ s a w K := by
  simp only [PK.q] at hk
  obtain ⟨es, k, ex, h4⟩ := qSl_inv hk
  obtain ⟨j, n, e2, _, hn, h5⟩ := qInt_inv h4 (hR.op hy (by simp [ho, Op.operands]))
  have hr := hR.op hx (by simp [ho, Op.operands])
  rw [ex] at hr
  obtain ⟨ad, cap, sz, b, off, f, e1, hc, hz, hm, ha, hsz, hD, hd⟩ := hr.inv_sl
  split at h5
  · rename_i el hel
    obtain ⟨hl, h6⟩ := h5
    have hlt : n.toNat < es.length := (List.getElem?_eq_some_iff.1 hel).1
    have hsz' : sz = i.size := (hsz _ _ hel).symm.trans hl
    have had := ha (by intro e; subst e; simp at hlt)
    refine .det (u := .pointer (some ⟨b, off + n.toNat * i.size, none⟩)) ?_ (.dat ?_) h6 rfl
    · have hin : n < es.length := by omega
      simp [execOp, ho, e1, e2, Instr.indexAt, asIntOf, run_underlying h1, had, hn, hin, sizeOf_run h3, add_none]
    · have := Dat.cp (D := D) (w := w) b (off + n.toNat * i.size) el 0 (fun j => f (n.toNat * i.size + j)) (fun j hj => ?_) (fun j p hp => ?_)
      · simpa using this
      · rw [hl] at hj
        have hlt2 : n.toNat * i.size + j < es.length * sz := by
          rw [hsz']
          calc n.toNat * i.size + j < n.toNat * i.size + i.size := by omega
            _ = (n.toNat + 1) * i.size := by rw [Nat.add_mul]; omega
            _ ≤ es.length * i.size := Nat.mul_le_mul_right _ hlt
        have := hD _ hlt2
        rw [Nat.add_assoc]; exact this
      · have := hd _ _ _ _ hel hp
        rw [hsz'] at this; exact this
  · exact h5.elim
theorem q_aa {t e : TypeId} {x y : Operand} {x' y' : PO} {i : TypeInfo} {m : Nat} (ho : o.op = .indexAddr t x y) (h1 : P.underlying t = some (.array m e)) (h3 : P.info? e = some i) (hx : po x = some x') (hy : po y = some y') (hk : PK.q P s (.aa x' y' m i.size) K) : QS P o D ρ s a w K := by
  simp only [PK.q] at hk
  obtain ⟨j, n, e2, _, hn, h5⟩ := qInt_inv hk (hR.op hy (by simp [ho, Op.operands]))
  have hr := hR.op hx (by simp [ho, Op.operands])
  split at h5
  · rename_i i' o' e
    rw [e] at hr
    obtain ⟨hi, e1⟩ := hr.inv_bx
    refine .det (u := .pointer (some ⟨ρ i', o' + n.toNat * i.size, none⟩)) ?_ (.inl (.inr ⟨_, _, rfl, hi, rfl⟩)) h5 rfl
    simp [execOp, ho, e1, e2, Instr.indexAt, asIntOf, run_underlying h1, Instr.sureAddr, hn.1, hn.2, sizeOf_run h3, add_none]
  · rename_i cs o' e
    rw [e] at hr
    obtain ⟨b, off, u, e1, hc, hd⟩ := hr.inv_cp
    refine .det (u := .pointer (some ⟨b, off + (o' + n.toNat * i.size), none⟩)) ?_ (.dat (.cp b off cs _ u hc hd)) h5 rfl
    simp [execOp, ho, e1, e2, Instr.indexAt, asIntOf, run_underlying h1, Instr.sureAddr, hn.1, hn.2, sizeOf_run h3, add_none, Nat.add_assoc]
  · exact h5.elim
theorem q_ix {t e : TypeId} {x y : Operand} {x' y' : PO} {ag : Bool} {m n' : Nat} (ho : o.op = .index t x y) (h1 : P.underlying t = some (.array m e)) (h3 : shp P e = some (ag, n')) (hx : po x = some x') (hy : po y = some y') (hk : PK.q P s (.ix x' y' m ag n') K) : QS P o D ρ s a w K := by
  simp only [PK.q] at hk
  obtain ⟨j, n, e2, _, hn, h5⟩ := qInt_inv hk (hR.op hy (by simp [ho, Op.operands]))
  have hr := hR.op hx (by simp [ho, Op.operands])
  split at h5
  · rename_i cs e
    rw [e] at hr
    obtain ⟨vs, e1, hz, hc, hd⟩ := hr.inv_agg
    obtain ⟨u, p, g1, g2, g3⟩ := qAt_part (P := P) h3 h5 hz hc hd
    obtain ⟨i, d, k1, k2, k3, k4⟩ := shp_some h3
    refine .strip (u := u) (p := p) ?_ (.dat g2) g3
    rw [← k4] at g1
    simp [execOp, ho, e1, e2, Instr.index, asIntOf, run_underlying h1, hn.1, hn.2, sizeOf_run k1, g1]
  · exact h5.elim
theorem q_fl {t : TypeId} {x : Operand} {x' : PO} {f : Nat} {fs : Array Field} {fd : Field} {ag : Bool} {n' : Nat} (ho : o.op = .field t x f) (h1 : P.underlying t = some (.struct fs)) (h2 : fs[f]? = some fd) (h3 : shp P fd.type = some (ag, n'))
    (hx : po x = some x') (hk : PK.q P s (.fl x' fd.offset ag n') K) : QS P o D ρ s a w K := by
  simp only [PK.q] at hk
  have hr := hR.op hx (by simp [ho, Op.operands])
  split at hk
  · rename_i cs e
    rw [e] at hr
    obtain ⟨vs, e1, hz, hc, hd⟩ := hr.inv_agg
    obtain ⟨u, p, g1, g2, g3⟩ := qAt_part (P := P) h3 hk hz hc hd
    refine .strip (u := u) (p := p) ?_ (.dat g2) g3
    simp [execOp, ho, e1, Instr.field, run_underlying h1, h2, asAgg, g1]
  · exact hk.elim
theorem q_ld {t : TypeId} {x : Operand} {x' : PO} {ag : Bool} {n' : Nat} (ho : o.op = .load t x) (h3 : shp P t = some (ag, n')) (hx : po x = some x') (hk : PK.q P s (.ld x' ag n') K) : QS P o D ρ s a w K := by
  simp only [PK.q] at hk
  have hr := hR.op hx (by simp [ho, Op.operands])
  split at hk
  · rename_i cs o' e
    rw [e] at hr
    obtain ⟨b, off, u, e1, hc, hd⟩ := hr.inv_cp
    have hall : ag = true → allD ((cs.drop o').take n') = true := fun _ => by
      unfold allD
      rw [List.all_eq_true]
      intro p hp
      obtain ⟨j, hj⟩ := List.getElem?_of_mem (List.mem_of_mem_drop (List.mem_of_mem_take hp))
      exact (hd j p hj).isD
    obtain ⟨u', p, g1, g2, g3⟩ := qAt_load (P := P) (ρ := ρ) (nb := s.b.length) h3 hk (fun j hj => (hc j hj).2) (fun j p hp => .dat (D := D) (hd j p hp)) hall
    exact .strip (u := u') (p := p) (by simp [execOp, ho, e1, Instr.loadAt, Instr.sureAddr, g1]) g2 g3
  · rename_i i' o' e
    rw [e] at hr
    obtain ⟨hi, e1⟩ := hr.inv_bx
    split at hk
    · rename_i cs hcs
      obtain ⟨vs, e', hv, hz, hb⟩ := hR.boxes i' cs hcs
      have hcell : ∀ j, j < cs.length → w.cell? ⟨ρ i', 0 + j, none⟩ = some (vs.getD j undef) ∧ (vs.getD j undef).oneCell' = true := fun j hj => by
        refine ⟨?_, (hb j _ (List.getElem?_eq_getElem hj)).2⟩
        simp only [World.cell?, hv]
        simp [show j < vs.size by omega]
      obtain ⟨u', p, g1, g2, g3⟩ := qAt_load (P := P) (D := D) (ρ := ρ) (nb := s.b.length) h3 hk.2 hcell (fun j p hp => (hb j p hp).1) (fun _ => hk.1)
      rw [Nat.zero_add] at g1
      exact .strip (u := u') (p := p) (by simp [execOp, ho, e1, Instr.loadAt, Instr.sureAddr, g1]) g2 g3
    · exact hk.elim
  · exact hk.elim
omit hR in
theorem eq2_run {t : TypeId} (ht : int2 P t = true) (k l : IntKind) (x y x' y' : Int) : (Op.equal t (.agg #[.int k x, .int l y]) (.agg #[.int k x', .int l y'])).run P w = .ok (decide (x = x') && decide (y = y')) w ∧ ∀ op ox oy, (eqGuard op t ox oy (.agg #[.int k x, .int l y]) (.agg #[.int k x', .int l y'])).run P w = .ok () w := by
  unfold int2 at ht
  split at ht
  · rename_i fs hu
    split at ht
    · rename_i f f' hfs
      simp only [Bool.and_eq_true, bne_iff_ne, ne_eq, beq_iff_eq, Bool.not_eq_true'] at ht
      obtain ⟨⟨⟨⟨⟨⟨h1, h2⟩, h3⟩, h4⟩, h5⟩, h6⟩, h7⟩ := ht
      have hfa : fs = #[f, f'] := Array.toList_inj.1 hfs
      subst hfa
      have hint : ∃ k1 k2, P.underlying f.type = some (.int k1) ∧ P.underlying f'.type = some (.int k2) := by
        split at h5
        · rename_i k1 k2 e1 e2; exact ⟨k1, k2, e1, e2⟩
        · cases h5
      obtain ⟨k1, k2, e1, e2⟩ := hint
      have one : ∀ (t : TypeId) (kk : IntKind) (cs : Array Value) (o : Nat) (v : Value), P.underlying t = some (.int kk) → cs[o]? = some v → (part t cs o).run P w = .ok v w := fun t kk cs o v hu hv => by
        simp [part, isAgg_run hu, isAggD, hv]
      have eqi : ∀ (d : Nat) (t : TypeId) (kk k3 : IntKind) (m n : Int), P.underlying t = some (.int kk) → (Op.equalIn (d + 1) t (.int k3 m) (.int k3 n)).run P w = .ok (m == n) w := fun d t kk k3 m n hu => by
        unfold Op.equalIn
        simp [run_underlying hu]
      refine ⟨?_, fun op ox oy => ?_⟩
      · unfold Op.equal Op.maxDepth
        rw [show (10000 : Nat) = 9998 + 1 + 1 from rfl]
        unfold Op.equalIn
        simp [run_underlying hu, h6, h1, h2, h3, h4]
        simp [one f.type k1 _ 0 _ e1, one f'.type k2 _ 1 _ e2, eqi 9998 f.type k1, eqi 9998 f'.type k2, e1, e2]
        by_cases hx : x = x' <;> by_cases hy : y = y' <;> simp [hx, hy]
      · unfold eqGuard
        cases op <;> simp [h7]
    · cases ht
  · cases ht
theorem q_eq2 {op : BinOp} {t t' : TypeId} {x y : Operand} {x' y' : PO} (ho : o.op = .binOp op t x y t') (hop : op = .eql ∨ op = .neq) (ht : int2 P t = true) (hx : po x = some x') (hy : po y = some y') (hk : qeq2 (op == .neq) (s.ev x') (s.ev y') K) : QS P o D ρ s a w K := by
  have hrx := hR.op hx (by simp [ho, Op.operands])
  have hry := hR.op hy (by simp [ho, Op.operands])
  unfold qeq2 at hk
  split at hk
  · rename_i k m l n k' m' l' n' ex ey
    obtain ⟨rfl, rfl, hk⟩ := hk
    have two : ∀ {u : Value} {k l : IntKind} {m n : Int}, Rel D ρ s.b.length w u (.agg [.v (.int k m), .v (.int l n)]) → u = .agg #[.int k m, .int l n] := fun h => by
      obtain ⟨vs, rfl, hz, _, hd⟩ := h.inv_agg
      have h0 := hd 0 _ rfl
      have h1 := hd 1 _ rfl
      generalize e0 : vs.getD 0 undef = v0 at h0
      generalize e1 : vs.getD 1 undef = v1 at h1
      cases h0
      cases h1
      congr 1
      apply Array.ext
      · simpa using hz
      · intro i hi _
        have hi2 : i < 2 := by simpa [hz] using hi
        rw [Array.getD_eq_getD_getElem?] at e0 e1
        rcases i with _ | _ | i
        · simpa [hi] using e0
        · simpa [hi] using e1
        · omega
    rw [ex] at hrx
    rw [ey] at hry
    have e1 := two hrx
    have e2 := two hry
    obtain ⟨r1, r2⟩ := eq2_run (P := P) (w := w) ht k l m n m' n'
    refine .det ?_ (.dat (.v _)) hk rfl
    rcases hop with rfl | rfl
    · simp only [execOp, ho, Sem.run_bind, e1, e2, r2, Result.andThen_ok, Sem.run_pure, binOp, r1]
      cases (decide (m = m') && decide (n = n')) <;> rfl
    · simp only [execOp, ho, Sem.run_bind, e1, e2, r2, Result.andThen_ok, Sem.run_pure, binOp, r1]
      cases (decide (m = m') && decide (n = n')) <;> rfl
  · exact hk.elim
theorem q_ln {t : TypeId} {e : TypeId} {x : Operand} {x' : PO} {c : Call} (ho : o.op = .call c) (hc : c.callee = .builtin .len) (ha : c.args = #[x]) (hat : c.argTypes = #[t]) (h1 : P.underlying t = some (.slice e)) (hx : po x = some x')
    (hk : qSl (s.ev x') fun es => K (.v (.int .i64 es.length))) : QS P o D ρ s a w K := by
  obtain ⟨es, k, ex, h4⟩ := qSl_inv hk
  have hr := hR.op hx (by simp [ho, Op.operands, Call.operands, hc, ha])
  rw [ex] at hr
  obtain ⟨ad, cap, sz, b, off, f, e1, _⟩ := hr.inv_sl
  refine .det (u := .int .i64 es.length) ?_ (.dat (.v _)) h4 rfl
  simp [execOp, ho, resolve, hc, ha, hat, invoke, builtin, Builtin.len_, run_underlying h1, e1, goInt]
theorem q_ex {x : Operand} {x' : PO} {i : Nat} (ho : o.op = .extract x i) (hx : po x = some x') (hk : PK.q P s (.ex x' i) K) : QS P o D ρ s a w K := by
  simp only [PK.q] at hk
  have hr := hR.op hx (by simp [ho, Op.operands])
  split at hk
  · rename_i cs e
    rw [e] at hr
    obtain ⟨vs, e1, hz, hd⟩ := hr.inv_tup
    split at hk
    · rename_i p hp
      have hi : i < vs.size := getD_lt hz hp
      refine .strip (u := vs.getD i undef) (p := p) ?_ (.dat (hd i p hp)) hk
      simp [execOp, ho, e1, Instr.extract, hi]
    · exact hk.elim
  · exact hk.elim
theorem q_nc {x : Operand} {x' : PO} (ho : o.op = .nilCheck x) (hx : po x = some x') (hk : PK.q P s (.nc x') K) : QS P o D ρ s a w K := by
  simp only [PK.q] at hk
  have hr := hR.op hx (by simp [ho, Op.operands])
  split at hk
  · rename_i i o' e
    rw [e] at hr
    obtain ⟨hi, e1⟩ := hr.inv_bx
    exact .det (by simp [execOp, ho, e1]) hr hk rfl
  · rename_i cs o' e
    rw [e] at hr
    obtain ⟨b, off, u, e1, hc, hd⟩ := hr.inv_cp
    exact .det (by simp [execOp, ho, e1]) hr hk rfl
  · exact hk.elim
theorem q_mi {t : TypeId} {d : TypeDesc} {x : Operand} {x' : PO} (ho : o.op = .makeInterface t x) (h1 : P.underlying t = some d) (h2 : ∀ ms, d ≠ .interface ms) (hx : po x = some x') (hk : PK.q P s (.mi t x') K) : QS P o D ρ s a w K := by
  simp only [PK.q] at hk
  have hr := hR.op hx (by simp [ho, Op.operands])
  split at hk
  · rename_i hd
    refine .det (u := .iface t (a.eval x)) ?_ (.dat (.ifc _ _ _ (hr.data hd).sh)) hk rfl
    simp only [execOp, ho, Sem.run_bind, Instr.makeInterface, run_underlying h1, Result.andThen_ok]
    cases d <;> first | rfl | exact absurd rfl (h2 _)
  · exact hk.elim
theorem q_mf {f : Fn} {fs cs : Array Operand} {fs' cs' : List PO} (ho : o.op = .makeFunc f fs cs) (h1 : pos fs.toList = some fs') (h2 : pos cs.toList = some cs') (hk : PK.q P s (.mf f fs' cs') K) : QS P o D ρ s a w K := by
  simp only [PK.q, Bool.and_eq_true, List.all_eq_true, Bool.or_eq_true] at hk
  obtain ⟨⟨hd, hd2⟩, hk⟩ := hk
  obtain ⟨l1, p1⟩ := pos_some h1
  obtain ⟨l2, p2⟩ := pos_some h2
  have key : ∀ {ys : Array Operand} {ys' : List PO}, ys'.length = ys.toList.length → (∀ (i : Nat) (y : Operand), ys.toList[i]? = some y → ∃ y', ys'[i]? = some y' ∧ po y = some y') → (∀ x ∈ ys', (s.ev x).sh.isD = true ∨ (s.ev x).sh.isB = true) → (∀ y ∈ ys.toList, y ∈ o.op.operands.toList) →
      ∀ (i : Nat) q, (ys'.map fun x => (s.ev x).sh)[i]? = some q → Rel1 D ρ s.b.length w ((ys.map a.eval).getD i undef) q := by
    intro ys ys' hl hp hdd hop i q hq
    simp only [List.getElem?_map, Option.map_eq_some_iff] at hq
    obtain ⟨x', hx', rfl⟩ := hq
    have hi : i < ys.toList.length := by rw [← hl]; exact (List.getElem?_eq_some_iff.1 hx').1
    obtain ⟨y', hy', hpo⟩ := hp i _ (List.getElem?_eq_getElem hi)
    rw [hx'] at hy'
    cases hy'
    have hr : Rel D ρ s.b.length w (a.eval ys.toList[i]) (s.ev x').sh := by
      have := hR.op hpo (hop _ (List.getElem_mem hi))
      rcases hdd x' (List.mem_of_getElem? hx') with h | h
      · exact .dat ((this.data (by rwa [PV.sh_isD] at h)).sh)
      · rcases this with (this | ⟨i, o, e, h1, h2⟩) | ⟨f, va, vb, fs, cs, e, _⟩
        · exact .dat this.sh
        · exact .inl (.inr ⟨i, o, by rw [e]; rfl, h1, h2⟩)
        · rw [e] at h; cases h
    have e : (ys.map a.eval).getD i undef = a.eval ys.toList[i] := by
      have : i < ys.size := by simpa using hi
      simp [this]
    rw [e]
    rcases hdd x' (List.mem_of_getElem? hx') with h | h
    · exact .inl (hr.data h)
    · rcases hr with hr | ⟨f, va, vb, fs, cs, e, _⟩
      · exact hr
      · rw [e] at h; cases h
  refine .det (u := .func f (fs.map a.eval) (cs.map a.eval)) (by simp [execOp, ho, Instr.makeFunc]) (.inr ⟨f, _, _, _, _, rfl, rfl, by simpa using l1.symm, by simpa using l2.symm, ?_, ?_⟩) hk rfl
  · exact key l1 p1 hd fun y hy => by simp only [ho, Op.operands, Array.toList_append, List.mem_append]; exact .inl hy
  · exact key l2 p2 hd2 fun y hy => by simp only [ho, Op.operands, Array.toList_append, List.mem_append]; exact .inr hy
theorem q_mm {m : Bool} {x y : Operand} {x' y' : PO} {c : Call} (ho : o.op = .call c) (hc : c.callee = .builtin (if m then .max else .min)) (ha : c.args = #[x, y]) (hx : po x = some x') (hy : po y = some y') (hk : PK.q P s (.mm m x' y') K) : QS P o D ρ s a w K := by
  simp only [PK.q] at hk
  obtain ⟨k, m1, e1, _, h4⟩ := qInt_inv hk (hR.op hx (by simp [ho, Op.operands, Call.operands, hc, ha]))
  obtain ⟨k', m2, e2, _, rfl, h5⟩ := qInt_inv h4 (hR.op hy (by simp [ho, Op.operands, Call.operands, hc, ha]))
  refine .det ?_ (.dat (.v _)) h5 rfl
  cases m
  · simp [execOp, ho, resolve, hc, ha, invoke, builtin, Builtin.min_, e1, e2, Builtin.min2]
  · simp [execOp, ho, resolve, hc, ha, invoke, builtin, Builtin.max_, e1, e2, Builtin.max2]
end
end Go.Proofs.YtcedofkenfddkaaDoor
