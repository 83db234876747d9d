/- Texts of this claim, bound together: Pq SetB Pr. -/
import Derived.Deep.LoopGhost
import Derived.Deep.DeepCutAuto
import Derived.Deep.CutBlock
import Derived.Test.YtcedofkenfddkaaDoorB3
/- The soundness of the instructions that only read or make memory: all of them. No condition. -/
namespace Go.Proofs.YtcedofkenfddkaaDoor
set_option linter.unusedVariables false
set_option linter.unusedSimpArgs false
open Go.RowKit
variable {P : Program} {o : Oper} {D : Nat → Nat → Prop} {ρ : Nat → Nat} {nb : Nat} {s : PS} {a : Act} {w : World}

theorem rdsO_mem {o : Oper} {t : Tmp} (h : Operand.tmp t ∈ o.op.operands.toList) : t ∈ rdsO o := by
  unfold rdsO
  exact List.mem_filterMap.2 ⟨_, h, rfl⟩
/-- What is read of the operands of an operation. -/
theorem Rd.op (h : Rd D ρ s (slt a) (rdsO o) w) {y : Operand} {y' : PO} (hy : po y = some y') (hm : y ∈ o.op.operands.toList) : Rel D ρ s.b.length w (a.eval y) (s.ev y') :=
  h.at hy fun t e => rdsO_mem (by rw [← e]; exact hm)
theorem pos_some : ∀ {l : List Operand} {ys : List PO}, pos l = some ys → ys.length = l.length ∧ ∀ (i : Nat) (y : Operand), l[i]? = some y → ∃ y', ys[i]? = some y' ∧ po y = some y'
  | [], ys, h => by cases h; exact ⟨rfl, fun i y h => by simp at h⟩
  | x :: r, ys, h => by
    simp only [pos, Option.bind_eq_some_iff, Option.map_eq_some_iff] at h
    obtain ⟨y, hy, l, hl, rfl⟩ := h
    obtain ⟨h1, h2⟩ := pos_some hl
    refine ⟨by simp [h1], fun i z hz => ?_⟩
    cases i with
    | zero => simp at hz; subst hz; exact ⟨y, rfl, hy⟩
    | succ i => simpa using h2 i z (by simpa using hz)
/-- The result that is asked of each. -/
def QS (P : Program) (o : Oper) (D : Nat → Nat → Prop) (ρ : Nat → Nat) (s : PS) (a : Act) (w : World) (K : PV → Prop) : Prop := ∃ p, K p ∧ p.own = none ∧ Qok P o s ρ D a w p
theorem QS.det {K : PV → Prop} {u : Value} {p : PV} (hr : (execOp a.eval o).run P w = .ok (.value u) w) (h : Rel D ρ s.b.length w u p) (hk : K p) (ho : p.own = none) (hN : p.isN = false := by rfl) : QS P o D ρ s a w K := ⟨p, hk, ho, qdet hr h fun _ _ _ => newOk_of hN⟩
theorem QS.strip {K : PV → Prop} {u : Value} {p : PV} (hr : (execOp a.eval o).run P w = .ok (.value u) w) (h : Rel D ρ s.b.length w u p) (hk : K p.strip) : QS P o D ρ s a w K := ⟨p.strip, hk, p.strip_own, qdet hr h.strip fun _ _ _ => newOk_of p.strip_isN⟩

section
variable {K : PV → Prop} (hR : Rd D ρ s (slt a) (rdsO o) w)
include hR
theorem q_mv {x : Operand} {x' : PO} (ho : o.op = .move x ∨ o.op = .assign x) (hx : po x = some x') (hk : PK.q P s (.mv x') K) : QS P o D ρ s a w K := by
  have hr : (execOp a.eval o).run P w = .ok (.value (a.eval x)) w := by rcases ho with ho | ho <;> simp [execOp, ho]
  have hm : x ∈ o.op.operands.toList := by rcases ho with ho | ho <;> simp [ho, Op.operands]
  have hrel := hR.op hx hm
  cases x' with
  | t i =>
    have hxt : x = .tmp i := by cases x <;> first | (cases hx; rfl) | cases hx
    subst hxt
    simp only [PK.q] at hk
    rcases PV.pre_or i (s.get i) with e | ⟨es, n, m, e1, e2⟩
    · rw [e] at hk
      exact .strip hr hrel hk
    · rw [e2] at hk
      have hrel2 : Rel D ρ s.b.length w (slt a i) (.sl es (.r n m)) := e1 ▸ hrel
      obtain ⟨ad, cap, sz, b, off, f, e3, c1, c2, c3, c4, c5, c6, c7⟩ := hrel2.inv_sl
      refine ⟨_, hk, rfl, qdet hr ?_ fun x0 n0 hN => ⟨ad, es.length, cap, ?_, ?_⟩⟩
      · show Rel D ρ s.b.length w (slt a i) _
        rw [e3]
        exact .dat (.sl ad cap sz es _ b off f c1 (fun h => by cases h) c3 c4 c5 c6 c7)
      · have := (hN.2 i (rdsO_mem hm)).2 (by rw [e1]; simp [PV.own])
        rw [this, e3]
      · exact e3
  | c p => exact .strip hr hrel hk
  | f p => exact .strip hr hrel hk
theorem q_pk {c x y : Operand} {c' x' y' : PO} (ho : o.op = .pick c x y) (hc : po c = some c') (hx : po x = some x') (hy : po y = some y')
    (hk : qBool (s.ev c') fun b => (b = true → K (s.ev x').strip) ∧ (b = false → K (s.ev y').strip)) : QS P o D ρ s a w K := by
  obtain ⟨b, e1, _, h1, h2⟩ := qBool_inv hk (hR.op hc (by simp [ho, Op.operands]))
  cases b with
  | true => exact .strip (by simp [execOp, ho, e1, asBool]) (hR.op hx (by simp [ho, Op.operands])) (h1 rfl)
  | false => exact .strip (by simp [execOp, ho, e1, asBool]) (hR.op hy (by simp [ho, Op.operands])) (h2 rfl)
theorem q_bin {op : BinOp} {t t' : TypeId} {x y : Operand} {x' y' : PO} (ho : o.op = .binOp op t x y t') (hx : po x = some x') (hy : po y = some y') (hk : qbin op (s.ev x') (s.ev y') K) : QS P o D ρ s a w K := by
  obtain ⟨r, h1, h2⟩ := qbin_run (P := P) t x y hk (hR.op hx (by simp [ho, Op.operands])) (hR.op hy (by simp [ho, Op.operands]))
  refine .det (u := r) ?_ (.dat (.v _)) h2 rfl
  simp only [execOp, ho, Sem.run_bind, h1, Result.andThen_ok, Sem.run_pure]
theorem q_beq {op : BinOp} {t t' : TypeId} {x y : Operand} {x' y' : PO} (ho : o.op = .binOp op t x y t') (hop : op = .eql ∨ op = .neq) (ht : P.underlying t = some .bool) (hx : po x = some x') (hy : po y = some y')
    (hk : qBool (s.ev x') fun a => qBool (s.ev y') fun b => K (.v (.bool ((op == .neq) != (a == b))))) : QS P o D ρ s a w K := by
  obtain ⟨m, e1, _, h1⟩ := qBool_inv hk (hR.op hx (by simp [ho, Op.operands]))
  obtain ⟨n, e2, _, h2⟩ := qBool_inv h1 (hR.op hy (by simp [ho, Op.operands]))
  refine .det ?_ (.dat (.v _)) h2 rfl
  have hb := equal_bool (P := P) (w := w) ht m n
  rcases hop with rfl | rfl
  · simp only [execOp, ho, Sem.run_bind, e1, e2, eqGuard_bool, Result.andThen_ok, Sem.run_pure, binOp, hb]
    cases m <;> cases n <;> rfl
  · simp only [execOp, ho, Sem.run_bind, e1, e2, eqGuard_bool, Result.andThen_ok, Sem.run_pure, binOp, hb]
    cases m <;> cases n <;> rfl
theorem q_nil {op : BinOp} {t t' : TypeId} {x : Operand} {x' : PO} {ms} (ho : o.op = .binOp op t x (.const .nilIface) t') (hop : op = .eql ∨ op = .neq) (ht : P.underlying t = some (.interface ms)) (hx : po x = some x')
    (hk : PK.q P s (.nil (op == .neq) x') K) : QS P o D ρ s a w K := by
  have hr := hR.op hx (by simp [ho, Op.operands])
  simp only [PK.q] at hk
  split at hk
  · rename_i e
    rw [e] at hr
    have e1 := hr.v_inv
    refine .det ?_ (.dat (.v _)) hk rfl
    have hc : a.eval (.const .nilIface) = .nilIface := rfl
    rcases hop with rfl | rfl <;> simp only [execOp, ho, Sem.run_bind, e1, hc, eqGuard_nil, Result.andThen_ok, Sem.run_pure, binOp, equal_nil ht] <;> rfl
  · rename_i tt pp e
    rw [e] at hr
    obtain ⟨v, e1, _⟩ := hr.inv_ifc
    refine .det ?_ (.dat (.v _)) hk rfl
    have hc : a.eval (.const .nilIface) = .nilIface := rfl
    rcases hop with rfl | rfl <;> simp only [execOp, ho, Sem.run_bind, e1, hc, eqGuard_nil', Result.andThen_ok, Sem.run_pure, binOp, equal_nil' ht] <;> rfl
  · exact hk.elim
theorem q_not {t : TypeId} {x : Operand} {x' : PO} (ho : o.op = .unOp .not t x) (hx : po x = some x') (hk : qBool (s.ev x') fun b => K (.v (.bool (!b)))) : QS P o D ρ s a w K := by
  obtain ⟨b, e1, _, h1⟩ := qBool_inv hk (hR.op hx (by simp [ho, Op.operands]))
  exact .det (by simp [execOp, ho, e1, Op.unary]) (.dat (.v _)) h1 rfl
theorem q_neg {t : TypeId} {x : Operand} {x' : PO} (ho : o.op = .unOp .neg t x) (hx : po x = some x') (hk : qbin .sub (.v (.int .i64 0)) (s.ev x') K) : QS P o D ρ s a w K := by
  have hr := hR.op hx (by simp [ho, Op.operands])
  unfold qbin at hk
  split at hk
  · rename_i k1 n1 k2 n2 e1 e2
    cases e1
    rw [e2] at hr
    have e3 := hr.v_inv
    obtain ⟨rfl, hk⟩ := hk
    have hk2 : qar .i64 (0 - n2) K := hk
    exact .det (u := .int .i64 (IntKind.i64.wrap (0 - n2))) (by simp [execOp, ho, e3, Op.unary, Op.intArith]) (.dat (.v _)) (qar_run hk2) rfl
  · exact hk.elim
theorem q_cv {t t' : TypeId} {x : Operand} {x' : PO} {k k' : IntKind} (ho : o.op = .convert t t' x) (h1 : P.underlying t = some (.int k')) (h2 : P.underlying t' = some (.int k)) (hx : po x = some x') (hk : qInt (s.ev x') fun _ n => K (.v (.int k (k.wrap n)))) : QS P o D ρ s a w K := by
  obtain ⟨j, n, e1, _, h3⟩ := qInt_inv hk (hR.op hx (by simp [ho, Op.operands]))
  exact .det (by simp [execOp, ho, e1, convert, run_underlying h1, run_underlying h2, Conv.intToInt]) (.dat (.v _)) h3 rfl
theorem q_fa {t : TypeId} {x : Operand} {x' : PO} {f : Nat} {fs : Array Field} {fd : Field} {i : TypeInfo} (ho : o.op = .fieldAddr t x f) (h1 : P.underlying t = some (.struct fs)) (h2 : fs[f]? = some fd) (h3 : P.info? fd.type = some i) (h4 : i.size ≠ 0)
    (hx : po x = some x') (hk : PK.q P s (.fa x' fd.offset) K) : QS P o D ρ s a w K := by
  have hr := hR.op hx (by simp [ho, Op.operands])
  simp only [PK.q] at hk
  split at hk
  · rename_i i' o' e
    rw [e] at hr
    obtain ⟨hi, e1⟩ := hr.inv_bx
    refine .det (u := .pointer (some ⟨ρ i', o' + fd.offset, none⟩)) ?_ (.inl (.inr ⟨_, _, rfl, hi, rfl⟩)) hk rfl
    simp [execOp, ho, e1, Instr.fieldAt, run_underlying h1, h2, Instr.sureAddr, fieldPlace, sizeOf_run h3, h4, add_none]
  · rename_i cs o' e
    rw [e] at hr
    obtain ⟨b, off, u, e1, hc, hd⟩ := hr.inv_cp
    refine .det (u := .pointer (some ⟨b, off + (o' + fd.offset), none⟩)) ?_ (.dat (.cp b off cs _ u hc hd)) hk rfl
    simp [execOp, ho, e1, Instr.fieldAt, run_underlying h1, h2, Instr.sureAddr, fieldPlace, sizeOf_run h3, h4, add_none, Nat.add_assoc]
  · exact hk.elim
theorem q_ia {t e : TypeId} {x y : Operand} {x' y' : PO} {i : TypeInfo} (ho : o.op = .indexAddr t x y) (h1 : P.underlying t = some (.slice e)) (h3 : P.info? e = some i) (hx : po x = some x') (hy : po y = some y') (hk : PK.q P s (.ia x' y' i.size) K) : QS P o D ρ s a w K := by
  simp only [PK.q] at hk
  obtain ⟨es, k, ex, h4⟩ := qSl_inv hk
  obtain ⟨j, n, e2, _, hn, h5⟩ := qInt_inv h4 (hR.op hy (by simp [ho, Op.operands]))
  have hr := hR.op hx (by simp [ho, Op.operands])
  rw [ex] at hr
  obtain ⟨ad, cap, sz, b, off, f, e1, hc, hz, hm, ha, hsz, hD, hd⟩ := hr.inv_sl
  split at h5
  · rename_i el hel
    obtain ⟨hl, h6⟩ := h5
    have hlt : n.toNat < es.length := (List.getElem?_eq_some_iff.1 hel).1
    have hsz' : sz = i.size := (hsz _ _ hel).symm.trans hl
    have had := ha (by intro e; subst e; simp at hlt)
    refine .det (u := .pointer (some ⟨b, off + n.toNat * i.size, none⟩)) ?_ (.dat ?_) h6 rfl
    · have hin : n < es.length := by omega
      simp [execOp, ho, e1, e2, Instr.indexAt, asIntOf, run_underlying h1, had, hn, hin, sizeOf_run h3, add_none]
    · have := Dat.cp (D := D) (w := w) b (off + n.toNat * i.size) el 0 (fun j => f (n.toNat * i.size + j)) (fun j hj => ?_) (fun j p hp => ?_)
      · simpa using this
      · rw [hl] at hj
        have hlt2 : n.toNat * i.size + j < es.length * sz := by
          rw [hsz']
          calc n.toNat * i.size + j < n.toNat * i.size + i.size := by omega
            _ = (n.toNat + 1) * i.size := by rw [Nat.add_mul]; omega
            _ ≤ es.length * i.size := Nat.mul_le_mul_right _ hlt
        have := hD _ hlt2
        rw [Nat.add_assoc]; exact this
      · have := hd _ _ _ _ hel hp
        rw [hsz'] at this; exact this
  · exact h5.elim
theorem q_aa {t e : TypeId} {x y : Operand} {x' y' : PO} {i : TypeInfo} {m : Nat} (ho : o.op = .indexAddr t x y) (h1 : P.underlying t = some (.array m e)) (h3 : P.info? e = some i) (hx : po x = some x') (hy : po y = some y') (hk : PK.q P s (.aa x' y' m i.size) K) : QS P o D ρ s a w K := by
  simp only [PK.q] at hk
  obtain ⟨j, n, e2, _, hn, h5⟩ := qInt_inv hk (hR.op hy (by simp [ho, Op.operands]))
  have hr := hR.op hx (by simp [ho, Op.operands])
  split at h5
  · rename_i i' o' e
    rw [e] at hr
    obtain ⟨hi, e1⟩ := hr.inv_bx
    refine .det (u := .pointer (some ⟨ρ i', o' + n.toNat * i.size, none⟩)) ?_ (.inl (.inr ⟨_, _, rfl, hi, rfl⟩)) h5 rfl
    simp [execOp, ho, e1, e2, Instr.indexAt, asIntOf, run_underlying h1, Instr.sureAddr, hn.1, hn.2, sizeOf_run h3, add_none]
  · rename_i cs o' e
    rw [e] at hr
    obtain ⟨b, off, u, e1, hc, hd⟩ := hr.inv_cp
    refine .det (u := .pointer (some ⟨b, off + (o' + n.toNat * i.size), none⟩)) ?_ (.dat (.cp b off cs _ u hc hd)) h5 rfl
    simp [execOp, ho, e1, e2, Instr.indexAt, asIntOf, run_underlying h1, Instr.sureAddr, hn.1, hn.2, sizeOf_run h3, add_none, Nat.add_assoc]
  · exact h5.elim
theorem q_ix {t e : TypeId} {x y : Operand} {x' y' : PO} {ag : Bool} {m n' : Nat} (ho : o.op = .index t x y) (h1 : P.underlying t = some (.array m e)) (h3 : shp P e = some (ag, n')) (hx : po x = some x') (hy : po y = some y') (hk : PK.q P s (.ix x' y' m ag n') K) : QS P o D ρ s a w K := by
  simp only [PK.q] at hk
  obtain ⟨j, n, e2, _, hn, h5⟩ := qInt_inv hk (hR.op hy (by simp [ho, Op.operands]))
  have hr := hR.op hx (by simp [ho, Op.operands])
  split at h5
  · rename_i cs e
    rw [e] at hr
    obtain ⟨vs, e1, hz, hc, hd⟩ := hr.inv_agg
    obtain ⟨u, p, g1, g2, g3⟩ := qAt_part (P := P) h3 h5 hz hc hd
    obtain ⟨i, d, k1, k2, k3, k4⟩ := shp_some h3
    refine .strip (u := u) (p := p) ?_ (.dat g2) g3
    rw [← k4] at g1
    simp [execOp, ho, e1, e2, Instr.index, asIntOf, run_underlying h1, hn.1, hn.2, sizeOf_run k1, g1]
  · exact h5.elim
theorem q_fl {t : TypeId} {x : Operand} {x' : PO} {f : Nat} {fs : Array Field} {fd : Field} {ag : Bool} {n' : Nat} (ho : o.op = .field t x f) (h1 : P.underlying t = some (.struct fs)) (h2 : fs[f]? = some fd) (h3 : shp P fd.type = some (ag, n'))
    (hx : po x = some x') (hk : PK.q P s (.fl x' fd.offset ag n') K) : QS P o D ρ s a w K := by
  simp only [PK.q] at hk
  have hr := hR.op hx (by simp [ho, Op.operands])
  split at hk
  · rename_i cs e
    rw [e] at hr
    obtain ⟨vs, e1, hz, hc, hd⟩ := hr.inv_agg
    obtain ⟨u, p, g1, g2, g3⟩ := qAt_part (P := P) h3 hk hz hc hd
    refine .strip (u := u) (p := p) ?_ (.dat g2) g3
    simp [execOp, ho, e1, Instr.field, run_underlying h1, h2, asAgg, g1]
  · exact hk.elim
theorem q_ld {t : TypeId} {x : Operand} {x' : PO} {ag : Bool} {n' : Nat} (ho : o.op = .load t x) (h3 : shp P t = some (ag, n')) (hx : po x = some x') (hk : PK.q P s (.ld x' ag n') K) : QS P o D ρ s a w K := by
  simp only [PK.q] at hk
  have hr := hR.op hx (by simp [ho, Op.operands])
  split at hk
  · rename_i cs o' e
    rw [e] at hr
    obtain ⟨b, off, u, e1, hc, hd⟩ := hr.inv_cp
    have hall : ag = true → allD ((cs.drop o').take n') = true := fun _ => by
      unfold allD
      rw [List.all_eq_true]
      intro p hp
      obtain ⟨j, hj⟩ := List.getElem?_of_mem (List.mem_of_mem_drop (List.mem_of_mem_take hp))
      exact (hd j p hj).isD
    obtain ⟨u', p, g1, g2, g3⟩ := qAt_load (P := P) (ρ := ρ) (nb := s.b.length) h3 hk (fun j hj => (hc j hj).2) (fun j p hp => .dat (D := D) (hd j p hp)) hall
    exact .strip (u := u') (p := p) (by simp [execOp, ho, e1, Instr.loadAt, Instr.sureAddr, g1]) g2 g3
  · rename_i i' o' e
    rw [e] at hr
    obtain ⟨hi, e1⟩ := hr.inv_bx
    split at hk
    · rename_i cs hcs
      obtain ⟨vs, e', hv, hz, hb⟩ := hR.boxes i' cs hcs
      have hcell : ∀ j, j < cs.length → w.cell? ⟨ρ i', 0 + j, none⟩ = some (vs.getD j undef) ∧ (vs.getD j undef).oneCell' = true := fun j hj => by
        refine ⟨?_, (hb j _ (List.getElem?_eq_getElem hj)).2⟩
        simp only [World.cell?, hv]
        simp [show j < vs.size by omega]
      obtain ⟨u', p, g1, g2, g3⟩ := qAt_load (P := P) (D := D) (ρ := ρ) (nb := s.b.length) h3 hk.2 hcell (fun j p hp => (hb j p hp).1) (fun _ => hk.1)
      rw [Nat.zero_add] at g1
      exact .strip (u := u') (p := p) (by simp [execOp, ho, e1, Instr.loadAt, Instr.sureAddr, g1]) g2 g3
    · exact hk.elim
  · exact hk.elim
omit hR in
theorem eq2_run {t : TypeId} (ht : int2 P t = true) (k l : IntKind) (x y x' y' : Int) : (Op.equal t (.agg #[.int k x, .int l y]) (.agg #[.int k x', .int l y'])).run P w = .ok (decide (x = x') && decide (y = y')) w ∧ ∀ op ox oy, (eqGuard op t ox oy (.agg #[.int k x, .int l y]) (.agg #[.int k x', .int l y'])).run P w = .ok () w := by
  unfold int2 at ht
  split at ht
  · rename_i fs hu
    split at ht
    · rename_i f f' hfs
      simp only [Bool.and_eq_true, bne_iff_ne, ne_eq, beq_iff_eq, Bool.not_eq_true'] at ht
      obtain ⟨⟨⟨⟨⟨⟨h1, h2⟩, h3⟩, h4⟩, h5⟩, h6⟩, h7⟩ := ht
      have hfa : fs = #[f, f'] := Array.toList_inj.1 hfs
      subst hfa
      have hint : ∃ k1 k2, P.underlying f.type = some (.int k1) ∧ P.underlying f'.type = some (.int k2) := by
        split at h5
        · rename_i k1 k2 e1 e2; exact ⟨k1, k2, e1, e2⟩
        · cases h5
      obtain ⟨k1, k2, e1, e2⟩ := hint
      have one : ∀ (t : TypeId) (kk : IntKind) (cs : Array Value) (o : Nat) (v : Value), P.underlying t = some (.int kk) → cs[o]? = some v → (part t cs o).run P w = .ok v w := fun t kk cs o v hu hv => by
        simp [part, isAgg_run hu, isAggD, hv]
      have eqi : ∀ (d : Nat) (t : TypeId) (kk k3 : IntKind) (m n : Int), P.underlying t = some (.int kk) → (Op.equalIn (d + 1) t (.int k3 m) (.int k3 n)).run P w = .ok (m == n) w := fun d t kk k3 m n hu => by
        unfold Op.equalIn
        simp [run_underlying hu]
      refine ⟨?_, fun op ox oy => ?_⟩
      · unfold Op.equal Op.maxDepth
        rw [show (10000 : Nat) = 9998 + 1 + 1 from rfl]
        unfold Op.equalIn
        simp [run_underlying hu, h6, h1, h2, h3, h4]
        simp [one f.type k1 _ 0 _ e1, one f'.type k2 _ 1 _ e2, eqi 9998 f.type k1, eqi 9998 f'.type k2, e1, e2]
        by_cases hx : x = x' <;> by_cases hy : y = y' <;> simp [hx, hy]
      · unfold eqGuard
        cases op <;> simp [h7]
    · cases ht
  · cases ht
theorem q_eq2 {op : BinOp} {t t' : TypeId} {x y : Operand} {x' y' : PO} (ho : o.op = .binOp op t x y t') (hop : op = .eql ∨ op = .neq) (ht : int2 P t = true) (hx : po x = some x') (hy : po y = some y') (hk : qeq2 (op == .neq) (s.ev x') (s.ev y') K) : QS P o D ρ s a w K := by
  have hrx := hR.op hx (by simp [ho, Op.operands])
  have hry := hR.op hy (by simp [ho, Op.operands])
  unfold qeq2 at hk
  split at hk
  · rename_i k m l n k' m' l' n' ex ey
    obtain ⟨rfl, rfl, hk⟩ := hk
    have two : ∀ {u : Value} {k l : IntKind} {m n : Int}, Rel D ρ s.b.length w u (.agg [.v (.int k m), .v (.int l n)]) → u = .agg #[.int k m, .int l n] := fun h => by
      obtain ⟨vs, rfl, hz, _, hd⟩ := h.inv_agg
      have h0 := hd 0 _ rfl
      have h1 := hd 1 _ rfl
      generalize e0 : vs.getD 0 undef = v0 at h0
      generalize e1 : vs.getD 1 undef = v1 at h1
      cases h0
      cases h1
      congr 1
      apply Array.ext
      · simpa using hz
      · intro i hi _
        have hi2 : i < 2 := by simpa [hz] using hi
        rw [Array.getD_eq_getD_getElem?] at e0 e1
        rcases i with _ | _ | i
        · simpa [hi] using e0
        · simpa [hi] using e1
        · omega
    rw [ex] at hrx
    rw [ey] at hry
    have e1 := two hrx
    have e2 := two hry
    obtain ⟨r1, r2⟩ := eq2_run (P := P) (w := w) ht k l m n m' n'
    refine .det ?_ (.dat (.v _)) hk rfl
    rcases hop with rfl | rfl
    · simp only [execOp, ho, Sem.run_bind, e1, e2, r2, Result.andThen_ok, Sem.run_pure, binOp, r1]
      cases (decide (m = m') && decide (n = n')) <;> rfl
    · simp only [execOp, ho, Sem.run_bind, e1, e2, r2, Result.andThen_ok, Sem.run_pure, binOp, r1]
      cases (decide (m = m') && decide (n = n')) <;> rfl
  · exact hk.elim
theorem q_ln {t : TypeId} {e : TypeId} {x : Operand} {x' : PO} {c : Call} (ho : o.op = .call c) (hc : c.callee = .builtin .len) (ha : c.args = #[x]) (hat : c.argTypes = #[t]) (h1 : P.underlying t = some (.slice e)) (hx : po x = some x')
    (hk : qSl (s.ev x') fun es => K (.v (.int .i64 es.length))) : QS P o D ρ s a w K := by
  obtain ⟨es, k, ex, h4⟩ := qSl_inv hk
  have hr := hR.op hx (by simp [ho, Op.operands, Call.operands, hc, ha])
  rw [ex] at hr
  obtain ⟨ad, cap, sz, b, off, f, e1, _⟩ := hr.inv_sl
  refine .det (u := .int .i64 es.length) ?_ (.dat (.v _)) h4 rfl
  simp [execOp, ho, resolve, hc, ha, hat, invoke, builtin, Builtin.len_, run_underlying h1, e1, goInt]
theorem q_ex {x : Operand} {x' : PO} {i : Nat} (ho : o.op = .extract x i) (hx : po x = some x') (hk : PK.q P s (.ex x' i) K) : QS P o D ρ s a w K := by
  simp only [PK.q] at hk
  have hr := hR.op hx (by simp [ho, Op.operands])
  split at hk
  · rename_i cs e
    rw [e] at hr
    obtain ⟨vs, e1, hz, hd⟩ := hr.inv_tup
    split at hk
    · rename_i p hp
      have hi : i < vs.size := getD_lt hz hp
      refine .strip (u := vs.getD i undef) (p := p) ?_ (.dat (hd i p hp)) hk
      simp [execOp, ho, e1, Instr.extract, hi]
    · exact hk.elim
  · exact hk.elim
theorem q_nc {x : Operand} {x' : PO} (ho : o.op = .nilCheck x) (hx : po x = some x') (hk : PK.q P s (.nc x') K) : QS P o D ρ s a w K := by
  simp only [PK.q] at hk
  have hr := hR.op hx (by simp [ho, Op.operands])
  split at hk
  · rename_i i o' e
    rw [e] at hr
    obtain ⟨hi, e1⟩ := hr.inv_bx
    exact .det (by simp [execOp, ho, e1]) hr hk rfl
  · rename_i cs o' e
    rw [e] at hr
    obtain ⟨b, off, u, e1, hc, hd⟩ := hr.inv_cp
    exact .det (by simp [execOp, ho, e1]) hr hk rfl
  · exact hk.elim
theorem q_mi {t : TypeId} {d : TypeDesc} {x : Operand} {x' : PO} (ho : o.op = .makeInterface t x) (h1 : P.underlying t = some d) (h2 : ∀ ms, d ≠ .interface ms) (hx : po x = some x') (hk : PK.q P s (.mi t x') K) : QS P o D ρ s a w K := by
  simp only [PK.q] at hk
  have hr := hR.op hx (by simp [ho, Op.operands])
  split at hk
  · rename_i hd
    refine .det (u := .iface t (a.eval x)) ?_ (.dat (.ifc _ _ _ (hr.data hd).sh)) hk rfl
    simp only [execOp, ho, Sem.run_bind, Instr.makeInterface, run_underlying h1, Result.andThen_ok]
    cases d <;> first | rfl | exact absurd rfl (h2 _)
  · exact hk.elim
theorem q_mf {f : Fn} {fs cs : Array Operand} {fs' cs' : List PO} (ho : o.op = .makeFunc f fs cs) (h1 : pos fs.toList = some fs') (h2 : pos cs.toList = some cs') (hk : PK.q P s (.mf f fs' cs') K) : QS P o D ρ s a w K := by
  simp only [PK.q, Bool.and_eq_true, List.all_eq_true, Bool.or_eq_true] at hk
  obtain ⟨⟨hd, hd2⟩, hk⟩ := hk
  obtain ⟨l1, p1⟩ := pos_some h1
  obtain ⟨l2, p2⟩ := pos_some h2
  have key : ∀ {ys : Array Operand} {ys' : List PO}, ys'.length = ys.toList.length → (∀ (i : Nat) (y : Operand), ys.toList[i]? = some y → ∃ y', ys'[i]? = some y' ∧ po y = some y') → (∀ x ∈ ys', (s.ev x).sh.isD = true ∨ (s.ev x).sh.isB = true) → (∀ y ∈ ys.toList, y ∈ o.op.operands.toList) →
      ∀ (i : Nat) q, (ys'.map fun x => (s.ev x).sh)[i]? = some q → Rel1 D ρ s.b.length w ((ys.map a.eval).getD i undef) q := by
    intro ys ys' hl hp hdd hop i q hq
    simp only [List.getElem?_map, Option.map_eq_some_iff] at hq
    obtain ⟨x', hx', rfl⟩ := hq
    have hi : i < ys.toList.length := by rw [← hl]; exact (List.getElem?_eq_some_iff.1 hx').1
    obtain ⟨y', hy', hpo⟩ := hp i _ (List.getElem?_eq_getElem hi)
    rw [hx'] at hy'
    cases hy'
    have hr : Rel D ρ s.b.length w (a.eval ys.toList[i]) (s.ev x').sh := by
      have := hR.op hpo (hop _ (List.getElem_mem hi))
      rcases hdd x' (List.mem_of_getElem? hx') with h | h
      · exact .dat ((this.data (by rwa [PV.sh_isD] at h)).sh)
      · rcases this with (this | ⟨i, o, e, h1, h2⟩) | ⟨f, va, vb, fs, cs, e, _⟩
        · exact .dat this.sh
        · exact .inl (.inr ⟨i, o, by rw [e]; rfl, h1, h2⟩)
        · rw [e] at h; cases h
    have e : (ys.map a.eval).getD i undef = a.eval ys.toList[i] := by
      have : i < ys.size := by simpa using hi
      simp [this]
    rw [e]
    rcases hdd x' (List.mem_of_getElem? hx') with h | h
    · exact .inl (hr.data h)
    · rcases hr with hr | ⟨f, va, vb, fs, cs, e, _⟩
      · exact hr
      · rw [e] at h; cases h
  refine .det (u := .func f (fs.map a.eval) (cs.map a.eval)) (by simp [execOp, ho, Instr.makeFunc]) (.inr ⟨f, _, _, _, _, rfl, rfl, by simpa using l1.symm, by simpa using l2.symm, ?_, ?_⟩) hk rfl
  · exact key l1 p1 hd fun y hy => by simp only [ho, Op.operands, Array.toList_append, List.mem_append]; exact .inl hy
  · exact key l2 p2 hd2 fun y hy => by simp only [ho, Op.operands, Array.toList_append, List.mem_append]; exact .inr hy
theorem q_mm {m : Bool} {x y : Operand} {x' y' : PO} {c : Call} (ho : o.op = .call c) (hc : c.callee = .builtin (if m then .max else .min)) (ha : c.args = #[x, y]) (hx : po x = some x') (hy : po y = some y') (hk : PK.q P s (.mm m x' y') K) : QS P o D ρ s a w K := by
  simp only [PK.q] at hk
  obtain ⟨k, m1, e1, _, h4⟩ := qInt_inv hk (hR.op hx (by simp [ho, Op.operands, Call.operands, hc, ha]))
  obtain ⟨k', m2, e2, _, rfl, h5⟩ := qInt_inv h4 (hR.op hy (by simp [ho, Op.operands, Call.operands, hc, ha]))
  refine .det ?_ (.dat (.v _)) h5 rfl
  cases m
  · simp [execOp, ho, resolve, hc, ha, invoke, builtin, Builtin.min_, e1, e2, Builtin.min2]
  · simp [execOp, ho, resolve, hc, ha, invoke, builtin, Builtin.max_, e1, e2, Builtin.max2]
end
end Go.Proofs.YtcedofkenfddkaaDoor
/- The contract of the closure that setops.pieces returns: it hands over the pieces of two correct lists, in order. -/
namespace Go.Proofs.YtcedofkenfddkaaDoor
set_option linter.unusedVariables false
set_option linter.unusedSimpArgs false
open Go.RowKit

/-- a' is what is left of a behind intervals that end before x. -/
def Suf (a a' : List Iv) (x : Nat) : Prop := ∃ d, a = d ++ a' ∧ ∀ s ∈ d, s.hi < x
theorem Suf.refl (a : List Iv) (x : Nat) : Suf a a x := ⟨[], rfl, fun _ h => by cases h⟩
theorem Suf.mono {a a' : List Iv} {x y : Nat} (h : Suf a a' x) (hy : x ≤ y) : Suf a a' y := by
  obtain ⟨d, h1, h2⟩ := h; exact ⟨d, h1, fun s hs => by have := h2 s hs; omega⟩
theorem Suf.drop {a a' : List Iv} {s : Iv} {x : Nat} (h : Suf a (s :: a') x) (hs : s.hi < x) : Suf a a' x := by
  obtain ⟨d, h1, h2⟩ := h
  exact ⟨d ++ [s], by simp [h1], fun t ht => by simp at ht; rcases ht with ht | rfl; exact h2 t ht; exact hs⟩
theorem Suf.mem_eq {a a' : List Iv} {x z : Nat} (h : Suf a a' x) (hz : x ≤ z) : mem a z = mem a' z := by
  obtain ⟨d, rfl, h2⟩ := h
  rw [mem_append]
  have : mem d z = false := by
    cases e : mem d z with
    | false => rfl
    | true => obtain ⟨s, hs, _, h3⟩ := mem_iff.1 e; have := h2 s hs; omega
  rw [this, Bool.false_or]
theorem Suf.nrm {a a' : List Iv} {x n : Nat} (ha : NF n a) (h : Suf a a' x) : NF n a' := by
  obtain ⟨d, rfl, h2⟩ := h
  clear h2
  induction d generalizing n with
  | nil => exact ha
  | cons s d ih => exact ih ha.tail
theorem Suf.nxt_eq {a a' : List Iv} {x z n : Nat} (ha : NF n a) (h : Suf a a' x) (hz : x ≤ z) : nxt a z = nxt a' z := by
  obtain ⟨d, rfl, h2⟩ := h
  induction d generalizing n with
  | nil => rfl
  | cons s d ih =>
    rw [List.cons_append, nxt_drop (by have := h2 s (by simp); omega) ha.2.1]
    exact ih (fun t ht => h2 t (by simp [ht])) ha.2.2.2
theorem mem_head {a' : List Iv} {s : Iv} {x n : Nat} (ha : NF n (s :: a')) (h : x ≤ s.hi) : mem (s :: a') x = decide (s.lo ≤ x) := by
  rw [mem_cons, ha.2.2.2.mem_lt (by omega)]
  simp [h]

/-- The values that yield is handed. -/
def encP (x : Iv × Bool × Bool) : Array Value := #[.agg #[.int .u64 x.1.lo, .int .u64 x.1.hi], .agg #[.bool x.2.1, .bool x.2.2]]

/-- What holds of the closure's two boxes while it is at the number x. -/
structure PInv (a b : List Iv) (Ba Bb n0 : Nat) (w : World) (x : Nat) (a' b' : List Iv) (va vb : Value) : Prop where
  bxa : Boxed w Ba 23 va
  bxb : Boxed w Bb 23 vb
  ra : RdR 0 n0 w va a'
  rb : RdR 0 n0 w vb b'
  sa : Suf a a' x
  sb : Suf b b' x
theorem PInv.at {a b : List Iv} {Ba Bb n0 : Nat} {S : Nat → Prop} {w w' : World} {x y : Nat} {a' b' : List Iv} {va vb : Value} (h : PInv a b Ba Bb n0 w x a' b' va vb) (hk : Keep S w w') (hn : n0 ≤ w.heap.size) (hs : ∀ k, k < n0 ∨ k = Ba ∨ k = Bb → ¬ S k) (hy : x ≤ y) :
    PInv a b Ba Bb n0 w' y a' b' va vb :=
  ⟨hk.boxed h.bxa (hs _ (.inr (.inl rfl))), hk.boxed h.bxb (hs _ (.inr (.inr rfl))), h.ra.keep (Nat.le_refl _) (Nat.le_refl _) fun b _ h2 => hk.block b (by omega) (hs b (.inl h2)),
    h.rb.keep (Nat.le_refl _) (Nat.le_refl _) fun b _ h2 => hk.block b (by omega) (hs b (.inl h2)), h.sa.mono hy, h.sb.mono hy⟩
theorem PInv.setA {a b : List Iv} {Ba Bb n0 : Nat} {w : World} {x : Nat} {s : Iv} {a' b' : List Iv} {va va' vb : Value} (h : PInv a b Ba Bb n0 w x (s :: a') b' va vb) (hB : n0 ≤ Ba) (hne : Ba ≠ Bb) (hs : s.hi < x) (hr : RdR 0 n0 w va' a') :
    PInv a b Ba Bb n0 (w.setCell ⟨Ba, 0, none⟩ va') x a' b' va' vb :=
  ⟨h.bxa.set va', h.bxb.other hne.symm va', hr.keep (Nat.le_refl _) (Nat.le_refl _) fun b _ h2 => Below.heap_setCell _ _ _ _ (by show b ≠ Ba; omega),
    h.rb.keep (Nat.le_refl _) (Nat.le_refl _) fun b _ h2 => Below.heap_setCell _ _ _ _ (by show b ≠ Ba; omega), h.sa.drop hs, h.sb⟩
theorem PInv.setB {a b : List Iv} {Ba Bb n0 : Nat} {w : World} {x : Nat} {s : Iv} {a' b' : List Iv} {va vb vb' : Value} (h : PInv a b Ba Bb n0 w x a' (s :: b') va vb) (hB : n0 ≤ Bb) (hne : Ba ≠ Bb) (hs : s.hi < x) (hr : RdR 0 n0 w vb' b') :
    PInv a b Ba Bb n0 (w.setCell ⟨Bb, 0, none⟩ vb') x a' b' va vb' :=
  ⟨h.bxa.other hne vb', h.bxb.set vb', h.ra.keep (Nat.le_refl _) (Nat.le_refl _) fun b _ h2 => Below.heap_setCell _ _ _ _ (by show b ≠ Bb; omega),
    hr.keep (Nat.le_refl _) (Nat.le_refl _) fun b _ h2 => Below.heap_setCell _ _ _ _ (by show b ≠ Bb; omega), h.sa, h.sb.drop hs⟩
/-- A list has none left that ends before x. -/
def Fit (a' : List Iv) (x : Nat) : Prop := ∀ s r, a' = s :: r → x ≤ s.hi

theorem RdR.tail {hi : Nat} {w : World} {ad : Option Addr} {n cap : Nat} {s : Iv} {l : List Iv} (h : RdR 0 hi w (.slice ad n cap) (s :: l)) :
    ∃ b off, ad = some ⟨b, off, none⟩ ∧ n = l.length + 1 ∧ b < hi ∧ rdIv w b off s ∧ l.length + 1 ≤ cap ∧ cap ≤ maxLen ∧ RdR 0 hi w (.slice (if cap = 1 then some ⟨b, off, none⟩ else some ⟨b, off + 2, none⟩) l.length (cap - 1)) l := by
  obtain ⟨a, c, hv, h1, h2, h3⟩ := h
  obtain ⟨rfl, rfl, rfl⟩ : ad = a ∧ n = (s :: l).length ∧ cap = c := by simpa using hv
  obtain ⟨b, off, rfl, _, hb, hc⟩ := h3 (by simp)
  refine ⟨b, off, rfl, rfl, hb, (by have := hc 0 (by simp); rwa [Nat.zero_mul, Nat.add_zero] at this), by simpa using h1, h2, ?_⟩
  refine ⟨_, _, rfl, by simp at h1; omega, by omega, fun hne => ?_⟩
  have hl : 0 < l.length := List.length_pos_iff.2 hne
  refine ⟨b, off + 2, by rw [if_neg (by simp at h1; omega)], Nat.zero_le _, hb, fun i hi => ?_⟩
  have := hc (i + 1) (by simp; omega)
  rw [show off + (i + 1) * 2 = off + 2 + i * 2 from by omega] at this
  simpa using this

set_option maxHeartbeats 8000000 in
set_option maxRecDepth 100000 in
theorem pieces1_at (a b : List Iv) (va0 vb0 : Value) (Ba Bb n0 : Nat) (W0 : World) (ha : Nrm a) (hb : Nrm b) (hne : Ba ≠ Bb) (hBa : n0 ≤ Ba) (hBb : n0 ≤ Bb)
    (h00 : PInv a b Ba Bb n0 W0 0 a b va0 vb0) :
    IterAt Tryd.prog 121 #[.pointer (some ⟨Ba, 0, none⟩), .pointer (some ⟨Bb, 0, none⟩)] encP (fun k => k = Ba ∨ k = Bb) (fun k => k < n0 ∨ k = Ba ∨ k = Bb) (pieces a b) W0 := by
  intro l J Jx hJ hJx hY h0
  refine callsIn_wide.2 ?_
  show Calls Tryd.prog 121 #[.func (.yield l) #[] #[], .pointer (some ⟨Ba, 0, none⟩), .pointer (some ⟨Bb, 0, none⟩)] W0 _
  have HJ := Lib.hid hJ
  have HJx := Lib.hid hJx
  have HY := Lib.hid hY
  clear hJ hJx hY
  go_enter Tryd.func121, Tryd.ntmps121
  go_wp2_with fail
  go_loopg [4] M64 (fun g x wr => ∃ (xn f : Nat) (a' b' : List Iv) (va vb : Value) (pre : List (Iv × Bool × Bool)), x = .int .u64 xn ∧ xn < M64 ∧ g = M64 - xn ∧ PInv a b Ba Bb n0 wr xn a' b' va vb ∧ Hid (pieces a b = pre ++ pcs a b f xn) ∧ M64 ≤ f + xn ∧ J pre wr)
  case atStart => exact ⟨0, M64, a, b, va0, vb0, [], rfl, M64_pos, rfl, h00, rfl, by omega, h0⟩
  case round =>
    obtain ⟨xn, f, a', b', va, vb, pre, rfl, hx, rfl, hP, hpc, hf, hJp⟩ := hrel
    clear h0 h00
    go_upto_block 2 with fail
    go_cut [] (fun wc => ∃ a2 va2, PInv a b Ba Bb n0 wc xn a2 b' va2 vb ∧ Fit a2 xn ∧ J pre wc)
    case first =>
      go_wp2_with fail
      go_loopg [] a'.length (fun g wl => ∃ (a2 : List Iv) (va2 : Value), g = a2.length ∧ PInv a b Ba Bb n0 wl xn a2 b' va2 vb ∧ J pre wl)
      case atStart => exact ⟨a', va, rfl, hP, hJp⟩
      case round =>
        clear hP hJp
        obtain ⟨a2, va2, rfl, hP, hJp⟩ := hrel
        have hca := hP.bxa.cell
        have hfa := hP.bxa.frozen
        have hra := hP.ra
        cases a2 with
        | nil =>
          obtain ⟨ad, cap, rfl, _⟩ := hra
          go_wp2
          go_meet
          exact ⟨[], _, hP, (fun _ _ e => by cases e), hJp⟩
        | cons s r =>
          have hva := hra
          obtain ⟨ad, cap, rfl, _⟩ := hva
          obtain ⟨bb, off, rfl, _, hbb, hs, hcap, hcm, htl⟩ := hra.tail
          obtain ⟨c1, c2, s1, s2⟩ := hs
          have HT := Lib.hid htl
          clear hra htl
          unfold maxLen at hcm
          by_cases hlt : s.hi < xn
          · by_cases h1 : cap = 1
            · subst h1
              obtain rfl : r = [] := List.eq_nil_of_length_eq_zero (by omega)
              go_wp2
              go_roundg 0
              case measure => simp
              case rel => exact ⟨[], _, rfl, hP.setA hBa hne hlt (by have := HT.out; simpa using this), HJ.out _ _ _ hJp ((Keep.refl _ _).setCell (p := ⟨Ba, 0, none⟩) (fun _ => .inl rfl) _)⟩
            · go_wp2
              go_roundg r.length
              case measure => simp
              case rel => exact ⟨r, _, rfl, hP.setA hBa hne hlt (by have := HT.out; rw [if_neg h1] at this; simpa using this), HJ.out _ _ _ hJp ((Keep.refl _ _).setCell (p := ⟨Ba, 0, none⟩) (fun _ => .inl rfl) _)⟩
          · go_wp2
            go_meet
            exact ⟨s :: r, _, hP, (fun _ _ e => by cases e; omega), hJp⟩
    case rest =>
      clear hP hJp
      obtain ⟨a2, va2, hP, hFa, hJp⟩ := hcut
      go_upto_block 4 with fail
      go_cut [] (fun wc => ∃ b2 vb2, PInv a b Ba Bb n0 wc xn a2 b2 va2 vb2 ∧ Fit b2 xn ∧ J pre wc)
      case first =>
        go_wp2_with fail
        go_loopg [] b'.length (fun g wl => ∃ (b2 : List Iv) (vb2 : Value), g = b2.length ∧ PInv a b Ba Bb n0 wl xn a2 b2 va2 vb2 ∧ J pre wl)
        case atStart => exact ⟨b', vb, rfl, hP, hJp⟩
        case round =>
          clear hP hJp
          obtain ⟨b2, vb2, rfl, hP, hJp⟩ := hrel
          have hca := hP.bxb.cell
          have hfa := hP.bxb.frozen
          have hra := hP.rb
          cases b2 with
          | nil =>
            obtain ⟨ad, cap, rfl, _⟩ := hra
            go_wp2
            go_meet
            exact ⟨[], _, hP, (fun _ _ e => by cases e), hJp⟩
          | cons s r =>
            have hva := hra
            obtain ⟨ad, cap, rfl, _⟩ := hva
            obtain ⟨bb, off, rfl, _, hbb, hs, hcap, hcm, htl⟩ := hra.tail
            obtain ⟨c1, c2, s1, s2⟩ := hs
            have HT := Lib.hid htl
            clear hra htl
            unfold maxLen at hcm
            by_cases hlt : s.hi < xn
            · by_cases h1 : cap = 1
              · subst h1
                obtain rfl : r = [] := List.eq_nil_of_length_eq_zero (by omega)
                go_wp2
                go_roundg 0
                case measure => simp
                case rel => exact ⟨[], _, rfl, hP.setB hBb hne hlt (by have := HT.out; simpa using this), HJ.out _ _ _ hJp ((Keep.refl _ _).setCell (p := ⟨Bb, 0, none⟩) (fun _ => .inr rfl) _)⟩
              · go_wp2
                go_roundg r.length
                case measure => simp
                case rel => exact ⟨r, _, rfl, hP.setB hBb hne hlt (by have := HT.out; rw [if_neg h1] at this; simpa using this), HJ.out _ _ _ hJp ((Keep.refl _ _).setCell (p := ⟨Bb, 0, none⟩) (fun _ => .inr rfl) _)⟩
            · go_wp2
              go_meet
              exact ⟨s :: r, _, hP, (fun _ _ e => by cases e; omega), hJp⟩
      case rest =>
        clear hP hJp
        obtain ⟨b2, vb2, hP, hFb, hJp⟩ := hcut
        go_upto_region 5 with fail
        go_cut [5] (fun s5 wd => ∃ Bs, s5 = .pointer (some ⟨Bs, 0, none⟩) ∧ PInv a b Ba Bb n0 wd xn a2 b2 va2 vb2 ∧ J pre wd ∧ wd.cell? ⟨Bs, 0, none⟩ = some (.bool (mem a xn)) ∧ wd.cell? ⟨Bs, 1, none⟩ = some (.bool (mem b xn)) ∧ n0 ≤ wd.heap.size)
        case first =>
          have hma := hP.sa.mem_eq (Nat.le_refl _)
          have hmb := hP.sb.mem_eq (Nat.le_refl _)
          have hna := hP.sa.nrm ha
          have hnb := hP.sb.nrm hb
          have ca := hP.bxa.cell
          have cb := hP.bxb.cell
          have hlt1 := hP.bxa.lt
          have hlt2 := hP.bxb.lt
          have hra := hP.ra
          have hrb := hP.rb
          cases a2 with
          | nil =>
            obtain ⟨ad, capa, rfl, _⟩ := hra
            have HMA := Lib.hid hma
            clear hma hna
            cases b2 with
            | nil =>
              obtain ⟨bd, capb, rfl, _⟩ := hrb
              have HMB := Lib.hid hmb
              clear hmb hnb
              have hwn : n0 ≤ wc.heap.size := by omega
              have HP := Lib.hid (And.intro hP (And.intro hJp (And.intro hFa hFb)))
              clear hP hFa hFb hlt1 hlt2 hf
              refine regG 24 99 (fun w' => w'.cell? ⟨Ba, 0, none⟩ = some (.slice ad 0 capa) ∧ w'.cell? ⟨Bb, 0, none⟩ = some (.slice bd 0 capb)) (by kernel_rfl) (by kernel_rfl) rfl ⟨ca, cb⟩ ?_
              simp only [List.take_succ_cons, List.take_zero]
              repeat (first
                | (refine wdet ?_ rfl (fun a w hc _ hr => ?_) ?_; rotate_left; (simp [Rds, rdsO, lk, Op.operands, Call.operands, RdEq] at hr; go_simp; with_reducible rfl); dsimp only [List.nil_append, List.cons_append])
                | (refine wskip rfl ?_ ?_; (first | exact .inl (isV_eq rfl rfl) | exact .inr (isV_eq rfl rfl)); dsimp only [List.nil_append, List.cons_append])
                | (refine wdetg rfl ?_ ?_ (fun a w hc _ hr => ?_) ?_; exact (isV_eq rfl rfl); rotate_left; (simp [Rds, rdsO, lk, Op.operands, Call.operands, RdEq] at hr; go_simp; with_reducible rfl); dsimp only [List.nil_append, List.cons_append]))
              refine wgen (fun u w => ∃ B, u = .pointer (some ⟨B, 0, none⟩) ∧ w.heap[B]? = some (.cells #[.bool false, .bool false] 74 (0, 0)) ∧ wc.heap.size ≤ B) (fun u w w' ⟨B, h1, h2, h3⟩ hk => ⟨B, h1, hk.obj h2 id, h3⟩) rfl ?_ ?_
              · intro a w hc hk hr K hK
                have HK := Lib.hid hK
                clear hK
                go_simp
                exact HK.out _ _ ((Keep.refl _ _).alloc _) ⟨((Keep.refl NoB w).alloc _).cell_some hc.1 id, ((Keep.refl NoB w).alloc _).cell_some hc.2 id⟩ ⟨w.heap.size, rfl, World.alloc_heap_new w _, hk.size⟩
              dsimp only [List.nil_append, List.cons_append]
              intro w hc hk
              simp only [finG, forall_eq]
              rintro u ⟨B, rfl, hB, hBn⟩
              simp only [List.drop_succ_cons, List.drop_zero]
              have c0 : w.cell? ⟨B, 0, none⟩ = some (.bool false) := by simp [World.cell?, hB]
              have c1 : w.cell? ⟨B, 1, none⟩ = some (.bool false) := by simp [World.cell?, hB]
              have f0 : w.frozen? ⟨B, 0, none⟩ = false := by simp [World.frozen?, hB]
              have f1 : w.frozen? ⟨B, 1, none⟩ = false := by simp [World.frozen?, hB]
              clear hB hc
              simp only [Act.put, List.setIfInBounds_toArray, List.set_cons_succ, List.set_cons_zero]
              go_wp2
              go_meet
              have hkk : ∀ u v, Keep NoB wc ((w.setCell ⟨B, 0, none⟩ u).setCell ⟨B, 1, none⟩ v) := fun u v => ((((Keep.refl NoB wc).drew).trans hk).setCell (p := ⟨B, 0, none⟩) (fun h => by exact absurd h (by simpa using hBn)) _).setCell (p := ⟨B, 1, none⟩) (fun h => by exact absurd h (by simpa using hBn)) _
              exact ⟨B, rfl, HP.out.1.at (hkk _ _) hwn (fun _ _ => id) (Nat.le_refl _), HJ.out _ _ _ HP.out.2.1 ((hkk _ _).mono fun _ _ h => h.elim), by rw [HMA.out]; go_simp, by rw [HMB.out]; go_simp, Nat.le_trans hwn (hkk _ _).size⟩
            | cons t r2 =>
              have hvb := hrb
              obtain ⟨bd, capb, rfl, _⟩ := hvb
              obtain ⟨bb, ob, rfl, _, _, hsb, hcapb, hcmb, _⟩ := hrb.tail
              have HMB := Lib.hid (hmb.trans (mem_head hnb (hFb _ _ rfl)))
              have ct := hsb.1
              unfold maxLen at hcmb
              clear hmb hnb hrb hsb
              have hwn : n0 ≤ wc.heap.size := by omega
              have HP := Lib.hid (And.intro hP (And.intro hJp (And.intro hFa hFb)))
              clear hP hFa hFb hlt1 hlt2 hf
              refine regG 24 99 (fun w' => w'.cell? ⟨Ba, 0, none⟩ = some (.slice ad 0 capa) ∧ w'.cell? ⟨Bb, 0, none⟩ = some (.slice (some ⟨bb, ob, none⟩) (r2.length + 1) capb) ∧ w'.cell? ⟨bb, ob, none⟩ = some (.int .u64 t.lo)) (by kernel_rfl) (by kernel_rfl) rfl ⟨ca, cb, ct⟩ ?_
              simp only [List.take_succ_cons, List.take_zero]
              repeat (first
                | (refine wdet ?_ rfl (fun a w hc _ hr => ?_) ?_; rotate_left; (simp [Rds, rdsO, lk, Op.operands, Call.operands, RdEq] at hr; go_simp; with_reducible rfl); dsimp only [List.nil_append, List.cons_append])
                | (refine wskip rfl ?_ ?_; (first | exact .inl (isV_eq rfl rfl) | exact .inr (isV_eq rfl rfl)); dsimp only [List.nil_append, List.cons_append])
                | (refine wdetg rfl ?_ ?_ (fun a w hc _ hr => ?_) ?_; exact (isV_eq rfl rfl); rotate_left; (simp [Rds, rdsO, lk, Op.operands, Call.operands, RdEq] at hr; go_simp; with_reducible rfl); dsimp only [List.nil_append, List.cons_append]))
              refine wgen (fun u w => ∃ B, u = .pointer (some ⟨B, 0, none⟩) ∧ w.heap[B]? = some (.cells #[.bool false, .bool false] 74 (0, 0)) ∧ wc.heap.size ≤ B) (fun u w w' ⟨B, h1, h2, h3⟩ hk => ⟨B, h1, hk.obj h2 id, h3⟩) rfl ?_ ?_
              · intro a w hc hk hr K hK
                have HK := Lib.hid hK
                clear hK
                go_simp
                exact HK.out _ _ ((Keep.refl _ _).alloc _) ⟨((Keep.refl NoB w).alloc _).cell_some hc.1 id, ((Keep.refl NoB w).alloc _).cell_some hc.2.1 id, ((Keep.refl NoB w).alloc _).cell_some hc.2.2 id⟩ ⟨w.heap.size, rfl, World.alloc_heap_new w _, hk.size⟩
              dsimp only [List.nil_append, List.cons_append]
              intro w hc hk
              simp only [finG, forall_eq]
              rintro u ⟨B, rfl, hB, hBn⟩
              simp only [List.drop_succ_cons, List.drop_zero]
              have c0 : w.cell? ⟨B, 0, none⟩ = some (.bool false) := by simp [World.cell?, hB]
              have c1 : w.cell? ⟨B, 1, none⟩ = some (.bool false) := by simp [World.cell?, hB]
              have f0 : w.frozen? ⟨B, 0, none⟩ = false := by simp [World.frozen?, hB]
              have f1 : w.frozen? ⟨B, 1, none⟩ = false := by simp [World.frozen?, hB]
              clear hB hc
              simp only [Act.put, List.setIfInBounds_toArray, List.set_cons_succ, List.set_cons_zero]
              go_wp2
              go_meet
              have hkk : ∀ u v, Keep NoB wc ((w.setCell ⟨B, 0, none⟩ u).setCell ⟨B, 1, none⟩ v) := fun u v => ((((Keep.refl NoB wc).drew).trans hk).setCell (p := ⟨B, 0, none⟩) (fun h => by exact absurd h (by simpa using hBn)) _).setCell (p := ⟨B, 1, none⟩) (fun h => by exact absurd h (by simpa using hBn)) _
              exact ⟨B, rfl, HP.out.1.at (hkk _ _) hwn (fun _ _ => id) (Nat.le_refl _), HJ.out _ _ _ HP.out.2.1 ((hkk _ _).mono fun _ _ h => h.elim), by rw [HMA.out]; go_simp, by rw [HMB.out]; go_simp, Nat.le_trans hwn (hkk _ _).size⟩
          | cons s r1 =>
            have hva := hra
            obtain ⟨ad, capa, rfl, _⟩ := hva
            obtain ⟨ba, oa, rfl, _, _, hsa, hcapa, hcma, _⟩ := hra.tail
            have HMA := Lib.hid (hma.trans (mem_head hna (hFa _ _ rfl)))
            have cs := hsa.1
            unfold maxLen at hcma
            clear hma hna hra hsa
            cases b2 with
            | nil =>
              obtain ⟨bd, capb, rfl, _⟩ := hrb
              have HMB := Lib.hid hmb
              clear hmb hnb
              have hwn : n0 ≤ wc.heap.size := by omega
              have HP := Lib.hid (And.intro hP (And.intro hJp (And.intro hFa hFb)))
              clear hP hFa hFb hlt1 hlt2 hf
              refine regG 24 99 (fun w' => w'.cell? ⟨Ba, 0, none⟩ = some (.slice (some ⟨ba, oa, none⟩) (r1.length + 1) capa) ∧ w'.cell? ⟨Bb, 0, none⟩ = some (.slice bd 0 capb) ∧ w'.cell? ⟨ba, oa, none⟩ = some (.int .u64 s.lo)) (by kernel_rfl) (by kernel_rfl) rfl ⟨ca, cb, cs⟩ ?_
              simp only [List.take_succ_cons, List.take_zero]
              repeat (first
                | (refine wdet ?_ rfl (fun a w hc _ hr => ?_) ?_; rotate_left; (simp [Rds, rdsO, lk, Op.operands, Call.operands, RdEq] at hr; go_simp; with_reducible rfl); dsimp only [List.nil_append, List.cons_append])
                | (refine wskip rfl ?_ ?_; (first | exact .inl (isV_eq rfl rfl) | exact .inr (isV_eq rfl rfl)); dsimp only [List.nil_append, List.cons_append])
                | (refine wdetg rfl ?_ ?_ (fun a w hc _ hr => ?_) ?_; exact (isV_eq rfl rfl); rotate_left; (simp [Rds, rdsO, lk, Op.operands, Call.operands, RdEq] at hr; go_simp; with_reducible rfl); dsimp only [List.nil_append, List.cons_append]))
              refine wgen (fun u w => ∃ B, u = .pointer (some ⟨B, 0, none⟩) ∧ w.heap[B]? = some (.cells #[.bool false, .bool false] 74 (0, 0)) ∧ wc.heap.size ≤ B) (fun u w w' ⟨B, h1, h2, h3⟩ hk => ⟨B, h1, hk.obj h2 id, h3⟩) rfl ?_ ?_
              · intro a w hc hk hr K hK
                have HK := Lib.hid hK
                clear hK
                go_simp
                exact HK.out _ _ ((Keep.refl _ _).alloc _) ⟨((Keep.refl NoB w).alloc _).cell_some hc.1 id, ((Keep.refl NoB w).alloc _).cell_some hc.2.1 id, ((Keep.refl NoB w).alloc _).cell_some hc.2.2 id⟩ ⟨w.heap.size, rfl, World.alloc_heap_new w _, hk.size⟩
              dsimp only [List.nil_append, List.cons_append]
              intro w hc hk
              simp only [finG, forall_eq]
              rintro u ⟨B, rfl, hB, hBn⟩
              simp only [List.drop_succ_cons, List.drop_zero]
              have c0 : w.cell? ⟨B, 0, none⟩ = some (.bool false) := by simp [World.cell?, hB]
              have c1 : w.cell? ⟨B, 1, none⟩ = some (.bool false) := by simp [World.cell?, hB]
              have f0 : w.frozen? ⟨B, 0, none⟩ = false := by simp [World.frozen?, hB]
              have f1 : w.frozen? ⟨B, 1, none⟩ = false := by simp [World.frozen?, hB]
              clear hB hc
              simp only [Act.put, List.setIfInBounds_toArray, List.set_cons_succ, List.set_cons_zero]
              go_wp2
              go_meet
              have hkk : ∀ u v, Keep NoB wc ((w.setCell ⟨B, 0, none⟩ u).setCell ⟨B, 1, none⟩ v) := fun u v => ((((Keep.refl NoB wc).drew).trans hk).setCell (p := ⟨B, 0, none⟩) (fun h => by exact absurd h (by simpa using hBn)) _).setCell (p := ⟨B, 1, none⟩) (fun h => by exact absurd h (by simpa using hBn)) _
              exact ⟨B, rfl, HP.out.1.at (hkk _ _) hwn (fun _ _ => id) (Nat.le_refl _), HJ.out _ _ _ HP.out.2.1 ((hkk _ _).mono fun _ _ h => h.elim), by rw [HMA.out]; go_simp, by rw [HMB.out]; go_simp, Nat.le_trans hwn (hkk _ _).size⟩
            | cons t r2 =>
              have hvb := hrb
              obtain ⟨bd, capb, rfl, _⟩ := hvb
              obtain ⟨bb, ob, rfl, _, _, hsb, hcapb, hcmb, _⟩ := hrb.tail
              have HMB := Lib.hid (hmb.trans (mem_head hnb (hFb _ _ rfl)))
              have ct := hsb.1
              unfold maxLen at hcmb
              clear hmb hnb hrb hsb
              have hwn : n0 ≤ wc.heap.size := by omega
              have HP := Lib.hid (And.intro hP (And.intro hJp (And.intro hFa hFb)))
              clear hP hFa hFb hlt1 hlt2 hf
              refine regG 24 99 (fun w' => w'.cell? ⟨Ba, 0, none⟩ = some (.slice (some ⟨ba, oa, none⟩) (r1.length + 1) capa) ∧ w'.cell? ⟨Bb, 0, none⟩ = some (.slice (some ⟨bb, ob, none⟩) (r2.length + 1) capb) ∧ w'.cell? ⟨ba, oa, none⟩ = some (.int .u64 s.lo) ∧ w'.cell? ⟨bb, ob, none⟩ = some (.int .u64 t.lo)) (by kernel_rfl) (by kernel_rfl) rfl ⟨ca, cb, cs, ct⟩ ?_
              simp only [List.take_succ_cons, List.take_zero]
              repeat (first
                | (refine wdet ?_ rfl (fun a w hc _ hr => ?_) ?_; rotate_left; (simp [Rds, rdsO, lk, Op.operands, Call.operands, RdEq] at hr; go_simp; with_reducible rfl); dsimp only [List.nil_append, List.cons_append])
                | (refine wskip rfl ?_ ?_; (first | exact .inl (isV_eq rfl rfl) | exact .inr (isV_eq rfl rfl)); dsimp only [List.nil_append, List.cons_append])
                | (refine wdetg rfl ?_ ?_ (fun a w hc _ hr => ?_) ?_; exact (isV_eq rfl rfl); rotate_left; (simp [Rds, rdsO, lk, Op.operands, Call.operands, RdEq] at hr; go_simp; with_reducible rfl); dsimp only [List.nil_append, List.cons_append]))
              refine wgen (fun u w => ∃ B, u = .pointer (some ⟨B, 0, none⟩) ∧ w.heap[B]? = some (.cells #[.bool false, .bool false] 74 (0, 0)) ∧ wc.heap.size ≤ B) (fun u w w' ⟨B, h1, h2, h3⟩ hk => ⟨B, h1, hk.obj h2 id, h3⟩) rfl ?_ ?_
              · intro a w hc hk hr K hK
                have HK := Lib.hid hK
                clear hK
                go_simp
                exact HK.out _ _ ((Keep.refl _ _).alloc _) ⟨((Keep.refl NoB w).alloc _).cell_some hc.1 id, ((Keep.refl NoB w).alloc _).cell_some hc.2.1 id, ((Keep.refl NoB w).alloc _).cell_some hc.2.2.1 id, ((Keep.refl NoB w).alloc _).cell_some hc.2.2.2 id⟩ ⟨w.heap.size, rfl, World.alloc_heap_new w _, hk.size⟩
              dsimp only [List.nil_append, List.cons_append]
              intro w hc hk
              simp only [finG, forall_eq]
              rintro u ⟨B, rfl, hB, hBn⟩
              simp only [List.drop_succ_cons, List.drop_zero]
              have c0 : w.cell? ⟨B, 0, none⟩ = some (.bool false) := by simp [World.cell?, hB]
              have c1 : w.cell? ⟨B, 1, none⟩ = some (.bool false) := by simp [World.cell?, hB]
              have f0 : w.frozen? ⟨B, 0, none⟩ = false := by simp [World.frozen?, hB]
              have f1 : w.frozen? ⟨B, 1, none⟩ = false := by simp [World.frozen?, hB]
              clear hB hc
              simp only [Act.put, List.setIfInBounds_toArray, List.set_cons_succ, List.set_cons_zero]
              go_wp2
              go_meet
              have hkk : ∀ u v, Keep NoB wc ((w.setCell ⟨B, 0, none⟩ u).setCell ⟨B, 1, none⟩ v) := fun u v => ((((Keep.refl NoB wc).drew).trans hk).setCell (p := ⟨B, 0, none⟩) (fun h => by exact absurd h (by simpa using hBn)) _).setCell (p := ⟨B, 1, none⟩) (fun h => by exact absurd h (by simpa using hBn)) _
              exact ⟨B, rfl, HP.out.1.at (hkk _ _) hwn (fun _ _ => id) (Nat.le_refl _), HJ.out _ _ _ HP.out.2.1 ((hkk _ _).mono fun _ _ h => h.elim), by rw [HMA.out]; go_simp, by rw [HMB.out]; go_simp, Nat.le_trans hwn (hkk _ _).size⟩
        case rest =>
          clear hP hJp
          obtain ⟨Bs, rfl, hP, hJp, hs0, hs1, hn0⟩ := hcut
          have hnA : nxt a xn = nxt a2 xn := hP.sa.nxt_eq ha (Nat.le_refl _)
          have hnB : nxt b xn = nxt b2 xn := hP.sb.nxt_eq hb (Nat.le_refl _)
          have HNA := Lib.hid hnA
          have HNB := Lib.hid hnB
          clear hnA hnB hFa hFb
          obtain ⟨pa, hpa⟩ : ∃ p, mem a xn = p := ⟨_, rfl⟩
          obtain ⟨pb, hpb⟩ : ∃ p, mem b xn = p := ⟨_, rfl⟩
          rw [hpa] at hs0
          rw [hpb] at hs1
          have HPA := Lib.hid hpa
          have HPB := Lib.hid hpb
          clear hpa hpb
          have ca := hP.bxa.cell
          have hlb := hP.bxb.lt
          have hls : Bs < wc.heap.size := World.block_lt_of_cell? wc _ hs0
          go_wp2_with fail
          refine (next_two a2 va2 xn _ (hP.ra.keep (Nat.le_refl _) hn0 fun _ _ _ => rfl)).mono ?_
          rintro e w1 ⟨n1, m1, rfl, hm1, hb1⟩
          clear ca
          have hP1 := hP.at (S := NoB) (Keep.of_below' hb1 (Nat.le_refl _)) hn0 (fun _ _ => id) (Nat.le_refl _)
          have hJ1 := HJ.out _ _ _ hJp (Keep.of_below' hb1 (Nat.le_refl _))
          have hs0 := (hb1.cell (p := ⟨Bs, 0, none⟩) hls).trans hs0
          have hs1 := (hb1.cell (p := ⟨Bs, 1, none⟩) hls).trans hs1
          have hn1 : n0 ≤ w1.heap.size := Nat.le_trans hn0 hb1.size
          have hls := World.block_lt_of_cell? w1 _ hs0
          clear hP hJp hb1 hn0
          have cb := hP1.bxb.cell
          go_wp2_with fail
          refine (next_two b2 vb2 xn _ (hP1.rb.keep (Nat.le_refl _) hn1 fun _ _ _ => rfl)).mono ?_
          rintro e w2 ⟨n2, m2, rfl, hm2, hb2⟩
          clear cb
          have hP2 := hP1.at (S := NoB) (Keep.of_below' hb2 (Nat.le_refl _)) hn1 (fun _ _ => id) (Nat.le_refl _)
          have hJ2 := HJ.out _ _ _ hJ1 (Keep.of_below' hb2 (Nat.le_refl _))
          have hs0 := (hb2.cell (p := ⟨Bs, 0, none⟩) hls).trans hs0
          have hs1 := (hb2.cell (p := ⟨Bs, 1, none⟩) hls).trans hs1
          have hn2 : n0 ≤ w2.heap.size := Nat.le_trans hn1 hb2.size
          clear hP1 hJ1 hb2 hn1
          go_upto_region 8 with fail
          go_cut [81] (fun s81 wx => ∃ c : Bool, s81 = .bool c ∧ wx = w2 ∧ Hid (c = (m2 && (!m1 || decide (n2 < n1)))))
          case first =>
            cases m2
            · go_wp2_with fail
              go_meet
              exact ⟨false, rfl, rfl, rfl⟩
            · cases m1
              · go_wp2_with fail
                go_meet
                exact ⟨true, rfl, rfl, rfl⟩
              · go_wp2_with fail
                go_meet
                exact ⟨_, rfl, rfl, by simp [Hid]⟩
          case rest =>
            obtain ⟨c, rfl, rfl, hc⟩ := hcut
            cases c with
            | true =>
              have hm : m2 = true ∧ minO (nxt a xn) (nxt b xn) = some n2 := by
                have := hc.out
                rw [HNA.out, HNB.out, hm1.out, hm2.out]
                cases m2 <;> cases m1 <;> simp [minO] at this ⊢
                omega
              obtain ⟨rfl, hmin⟩ := hm
              have hmin := Lib.hid hmin
              have hnx : Hid (nxt b xn = some n2) := by show _ = _; rw [HNB.out, hm2.out]; rfl
              clear hc hm1 hm2 HNA HNB
              have hy0 : xn < n2 ∧ n2 < M64 := by
                have h := hnx.out
                exact ⟨nxt_gt h, nxt_lt hb h⟩
              obtain ⟨f', rfl⟩ : ∃ f', f = f' + 1 := ⟨f - 1, by omega⟩
              have hpcs : Hid (pcs a b (f' + 1) xn = (⟨xn, n2 - 1⟩, pa, pb) :: pcs a b f' n2) := by
                show pcs a b (f' + 1) xn = _
                conv => lhs; unfold pcs
                rw [hmin.out, HPA.out, HPB.out]
              obtain ⟨fn, tmps, assign, body, hy, hR⟩ := HY.out pre (⟨xn, n2 - 1⟩, pa, pb) wc hJ2 ⟨pcs a b f' n2, by rw [hpc.out, hpcs.out]; simp⟩
              dsimp only [encP] at hy
              have hw1 : IntKind.u64.wrap ((n2 : Int) - 1) = ((n2 - 1 : Nat) : Int) := wrap_sub1 (by omega) hy0.2
              obtain ⟨y1, hy1⟩ : ∃ y1, y1 = n2 - 1 := ⟨_, rfl⟩
              rw [← hy1] at hy hw1 hR
              have HY1 := Lib.hid hy1
              clear hy1
              go_upto_region 13 with fail
              refine (wpIn_wide (n := 8)).1 ?_
              gi_wp2
              refine hR.mono ?_
              rintro e w3 (⟨rfl, hJ3, hk3⟩ | ⟨rfl, hJx3⟩)
              · gi_wp2
                go_wp2
                go_roundg (M64 - n2)
                case measure => omega
                case rel => exact ⟨n2, f', a2, b2, va2, vb2, pre ++ [(⟨xn, y1⟩, pa, pb)], rfl, hy0.2, rfl, hP2.at hk3 hn2 (fun k hk h => h hk) (by omega), by show pieces a b = _; rw [hpc.out, hpcs.out, HY1.out]; simp, by omega, hJ3⟩
              · gi_wp2
                go_wp2
                refine bodyPost_ret (results_none rfl _ _ _) rfl ?_
                exact ⟨⟨_, rfl⟩, .inr ⟨pre ++ [(⟨xn, y1⟩, pa, pb)], ⟨pcs a b f' n2, by rw [hpc.out, hpcs.out, HY1.out]; simp⟩, hJx3⟩⟩
            | false =>
              cases m1 with
              | true =>
                have hmin : Hid (minO (nxt a xn) (nxt b xn) = some n1) := by
                  have := hc.out
                  show _ = _
                  rw [HNA.out, HNB.out, hm1.out, hm2.out]
                  cases m2 <;> simp [minO] at this ⊢
                  omega
                have hnx : Hid (nxt a xn = some n1) := by show _ = _; rw [HNA.out, hm1.out]; rfl
                clear hc hm1 hm2 HNA HNB
                have hy0 : xn < n1 ∧ n1 < M64 := by
                  have h := hnx.out
                  exact ⟨nxt_gt h, nxt_lt ha h⟩
                obtain ⟨f', rfl⟩ : ∃ f', f = f' + 1 := ⟨f - 1, by omega⟩
                have hpcs : Hid (pcs a b (f' + 1) xn = (⟨xn, n1 - 1⟩, pa, pb) :: pcs a b f' n1) := by
                  show pcs a b (f' + 1) xn = _
                  conv => lhs; unfold pcs
                  rw [hmin.out, HPA.out, HPB.out]
                obtain ⟨fn, tmps, assign, body, hy, hR⟩ := HY.out pre (⟨xn, n1 - 1⟩, pa, pb) wc hJ2 ⟨pcs a b f' n1, by rw [hpc.out, hpcs.out]; simp⟩
                dsimp only [encP] at hy
                have hw1 : IntKind.u64.wrap ((n1 : Int) - 1) = ((n1 - 1 : Nat) : Int) := wrap_sub1 (by omega) hy0.2
                obtain ⟨y1, hy1⟩ : ∃ y1, y1 = n1 - 1 := ⟨_, rfl⟩
                rw [← hy1] at hy hw1 hR
                have HY1 := Lib.hid hy1
                clear hy1
                go_upto_region 13 with fail
                refine (wpIn_wide (n := 8)).1 ?_
                gi_wp2
                refine hR.mono ?_
                rintro e w3 (⟨rfl, hJ3, hk3⟩ | ⟨rfl, hJx3⟩)
                · gi_wp2
                  go_wp2
                  go_roundg (M64 - n1)
                  case measure => omega
                  case rel => exact ⟨n1, f', a2, b2, va2, vb2, pre ++ [(⟨xn, y1⟩, pa, pb)], rfl, hy0.2, rfl, hP2.at hk3 hn2 (fun k hk h => h hk) (by omega), by show pieces a b = _; rw [hpc.out, hpcs.out, HY1.out]; simp, by omega, hJ3⟩
                · gi_wp2
                  go_wp2
                  refine bodyPost_ret (results_none rfl _ _ _) rfl ?_
                  exact ⟨⟨_, rfl⟩, .inr ⟨pre ++ [(⟨xn, y1⟩, pa, pb)], ⟨pcs a b f' n1, by rw [hpc.out, hpcs.out, HY1.out]; simp⟩, hJx3⟩⟩
              | false =>
                have hmin : Hid (minO (nxt a xn) (nxt b xn) = none) := by
                  have := hc.out
                  show _ = _
                  rw [HNA.out, HNB.out, hm1.out, hm2.out]
                  cases m2 <;> simp [minO] at this ⊢
                clear hc hm1 hm2 HNA HNB
                obtain ⟨f', rfl⟩ : ∃ f', f = f' + 1 := ⟨f - 1, by omega⟩
                have hpcs : Hid (pcs a b (f' + 1) xn = [(⟨xn, M64 - 1⟩, pa, pb)]) := by
                  show pcs a b (f' + 1) xn = _
                  conv => lhs; unfold pcs
                  rw [hmin.out, HPA.out, HPB.out]
                obtain ⟨fn, tmps, assign, body, hy, hR⟩ := HY.out pre (⟨xn, M64 - 1⟩, pa, pb) wc hJ2 ⟨[], by rw [hpc.out, hpcs.out]; simp⟩
                dsimp only [encP] at hy
                rw [show ((M64 - 1 : Nat) : Int) = 18446744073709551615 from rfl] at hy
                go_upto_region 13 with fail
                refine (wpIn_wide (n := 8)).1 ?_
                gi_wp2
                refine hR.mono ?_
                rintro e w3 (⟨rfl, hJ3, hk3⟩ | ⟨rfl, hJx3⟩)
                · gi_wp2
                  go_wp2
                  refine bodyPost_ret (results_none rfl _ _ _) rfl ?_
                  exact ⟨⟨_, rfl⟩, .inl (by rw [hpc.out, hpcs.out]; exact hJ3)⟩
                · gi_wp2
                  go_wp2
                  refine bodyPost_ret (results_none rfl _ _ _) rfl ?_
                  exact ⟨⟨_, rfl⟩, .inr ⟨pre ++ [(⟨xn, M64 - 1⟩, pa, pb)], ⟨[], by rw [hpc.out, hpcs.out]; simp⟩, hJx3⟩⟩
end Go.Proofs.YtcedofkenfddkaaDoor
/- The soundness of the instructions, continued: parts of slices, structs and slices that are built, calls, appends; and all of them together. No condition. -/
namespace Go.Proofs.YtcedofkenfddkaaDoor
set_option linter.unusedVariables false
set_option linter.unusedSimpArgs false
open Go.RowKit
variable {P : Program} {o : Oper} {D : Nat → Nat → Prop} {ρ : Nat → Nat} {nb : Nat} {s : PS} {a : Act} {w : World}

theorem sub_lt {i n sz j : Nat} (h : i < n) (hj : j < sz) : i * sz + j < n * sz := by
  calc i * sz + j < i * sz + sz := by omega
    _ = (i + 1) * sz := by rw [Nat.add_mul]; omega
    _ ≤ n * sz := Nat.mul_le_mul_right _ h
/-- A part of a slice that lies in memory. -/
theorem sub_dat {k : Ow} (hkz : k ≠ .z) {ad : Option Addr} {b off sz l h cap : Nat} {es : List (List PV)} {f : Nat → Value} (hl : l ≤ h) (hh : h ≤ es.length) (hc : es.length ≤ cap) (hm : cap ≤ maxLen) (ha : es ≠ [] → ad = some ⟨b, off, none⟩) (hsz : ∀ (i : Nat) (e : List PV), es[i]? = some e → e.length = sz)
    (hD : ∀ j, j < es.length * sz → D b (off + j) ∧ w.cell? ⟨b, off + j, none⟩ = some (f j) ∧ (f j).oneCell' = true) (hd : ∀ (i : Nat) (e : List PV) (j : Nat) (p : PV), es[i]? = some e → e[j]? = some p → Dat D w (f (i * sz + j)) p) :
    Dat D w (.slice (if cap - 0 = l then ad else ad.map (·.add (l * sz))) (h - l) (cap - l)) (.sl ((es.take h).drop l) k) := by
  have hlen : ((es.take h).drop l).length = h - l := by simp; omega
  have key : Dat D w (.slice (if cap - 0 = l then ad else ad.map (·.add (l * sz))) ((es.take h).drop l).length (cap - l)) (.sl ((es.take h).drop l) k) := by
    have get : ∀ (i : Nat) e, ((es.take h).drop l)[i]? = some e → es[l + i]? = some e ∧ i < h - l := fun i e he => by
      have hi := (List.getElem?_eq_some_iff.1 he).1
      rw [hlen] at hi
      rw [List.getElem?_drop, List.getElem?_take, if_pos (by omega)] at he
      exact ⟨he, hi⟩
    refine .sl _ _ sz _ _ b (off + l * sz) (fun j => f (l * sz + j)) (by omega) (fun h => absurd h hkz) (by omega) (fun hne => ?_) (fun i e he => hsz _ e (get i e he).1) (fun j hj => ?_) (fun i e j p he hp => ?_)
    · have hlt : l < h := by
        rcases Nat.lt_or_ge l h with h' | h'
        · exact h'
        · exact absurd (List.eq_nil_of_length_eq_zero (by rw [hlen]; omega)) hne
      rw [if_neg (by omega), ha (by intro e; subst e; simp at hh; omega)]
      simp [add_none]
    · rw [hlen] at hj
      have : l * sz + j < es.length * sz := by
        have h1 : (l + (h - l)) * sz ≤ es.length * sz := Nat.mul_le_mul_right _ (by omega)
        rw [Nat.add_mul] at h1; omega
      rw [Nat.add_assoc]; exact hD _ this
    · have := hd _ _ _ _ (get i e he).1 hp
      rw [Nat.add_mul, Nat.add_assoc] at this; exact this
  rw [hlen] at key; exact key

section
variable {K : PV → Prop} (hR : Rd D ρ s (slt a) (rdsO o) w)
include hR
theorem q_sc {t e : TypeId} {x : Operand} {x' : PO} {lo hi : Option Operand} {lo' hi' : Option PO} {i : TypeInfo} (ho : o.op = .slice t x lo hi none) (h1 : P.underlying t = some (.slice e)) (h3 : P.info? e = some i) (hx : po x = some x') (hlo : poo lo = some lo') (hhi : poo hi = some hi')
    (hk : PK.q P s (.sc x' lo' hi' i.size) K) : QS P o D ρ s a w K := by
  simp only [PK.q] at hk
  obtain ⟨es, k, ex, h4⟩ := qSl_inv hk
  have hr := hR.op hx (by simp [ho, Op.operands])
  rw [ex] at hr
  obtain ⟨ad, cap, sz, b, off, f, e1, hc, hz, hm, ha, hsz, hD, hd⟩ := hr.inv_sl
  have fin : ∀ l h : Nat, (l ≤ h ∧ h ≤ es.length ∧ (∀ e ∈ es, e.length = i.size) ∧ K (.sl ((es.take h).drop l) (scO lo' (s.ev x')))) → (lo' = none → l = 0) → (execOp a.eval o).run P w = .ok (.value (.slice (if cap = l then ad else ad.map (·.add (l * i.size))) (h - l) (cap - l))) w → QS P o D ρ s a w K := by
    rintro l h ⟨hl, hh, hse, hK⟩ hlo0 hrun
    have hkz : scO lo' (s.ev x') ≠ .z := by unfold scO; split <;> simp
    have hko : (PV.sl ((es.take h).drop l) (scO lo' (s.ev x'))).own = none := by unfold scO; split <;> rfl
    have hNew : ∀ x0 n0, News x0 n0 s (slt a) (rdsO o) w → NewOk x0 n0 w (.slice (if cap = l then ad else ad.map (·.add (l * i.size))) (h - l) (cap - l)) (.sl ((es.take h).drop l) (scO lo' (s.ev x'))) := fun x0 n0 hN => by
      have hsh : ∀ u : Value, NewOk x0 n0 w u (.sl ((es.take h).drop l) .sh) := fun _ => trivial
      rw [ex]
      cases hlo2 : lo' with
      | some y => exact hsh _
      | none =>
        have h0 := hlo0 hlo2
        subst h0
        cases k with
        | p j =>
          have hxt : ∃ t, x = .tmp t ∧ s.get t = .sl es (.p j) := by
            cases x with
            | tmp t => cases hx; exact ⟨t, rfl, ex⟩
            | const v =>
              cases hx
              have : (ofV v).isN = false := by unfold ofV; split <;> (try split) <;> rfl
              rw [show ofV v = _ from ex] at this; cases this
            | func f => cases hx; cases ex
            | global g => cases hx
          obtain ⟨t, rfl, ht⟩ := hxt
          have hN2 := (hN.2 t (rdsO_mem (by simp [ho, Op.operands]))).1
          rw [ht] at hN2
          obtain ⟨ad2, len2, cap2, q1, q2⟩ := hN2
          have q3 : slt a t = .slice ad es.length cap := e1
          rw [q3] at q2
          injection q2 with r1 r2 r3
          subst r1
          subst r3
          refine ⟨ad, len2, cap, q1, ?_⟩
          have hlen : ((es.take h).drop 0).length = h := by simp; omega
          rw [hlen]
          have e4 : (if cap = 0 then ad else ad.map (·.add (0 * i.size))) = ad := by
            split
            · rfl
            · cases ad with
              | none => rfl
              | some ad => simp [Addr.add]
          rw [e4]; rfl
        | _ => exact hsh _
    by_cases hes : es = []
    · subst hes
      have h0 : h = 0 := by simpa using hh
      subst h0
      have l0 : l = 0 := by omega
      subst l0
      refine ⟨_, hK, hko, qdet hrun (.dat ?_) hNew⟩
      exact .sl _ _ 1 [] _ 0 0 (fun _ => undef) (Nat.zero_le _) (fun h => absurd h hkz) (by omega) (fun h => absurd rfl h) (fun i e h => by simp at h) (fun j h => absurd h (by simp)) (fun i e j p h => by simp at h)
    · have hsz' : sz = i.size := by
        cases es with
        | nil => exact absurd rfl hes
        | cons e es => exact (hsz 0 e rfl).symm.trans (hse e (by simp))
      subst hsz'
      refine ⟨_, hK, hko, qdet hrun (.dat ?_) hNew⟩
      simpa using sub_dat hkz hl hh hc hm ha hsz hD hd
  have lows : ∀ h : Nat, h ≤ cap → qBd s lo' 0 (fun l => l ≤ h ∧ h ≤ es.length ∧ (∀ e ∈ es, e.length = i.size) ∧ K (.sl ((es.take h).drop l) (scO lo' (s.ev x')))) →
      (∀ l : Nat, l ≤ h → (match lo.map a.eval with | some v => Instr.sliceBound v h .sliceB | none => pure 0 : Sem Nat).run P w = .ok l w → (execOp a.eval o).run P w = .ok (.value (.slice (if cap = l then ad else ad.map (·.add (l * i.size))) (h - l) (cap - l))) w) → QS P o D ρ s a w K := by
    intro h hhc hq hrun
    cases lo with
    | none =>
      cases hlo
      exact fin 0 h hq (fun _ => rfl) (hrun 0 (Nat.zero_le _) (by simp))
    | some y =>
      simp only [poo, Option.map_eq_some_iff] at hlo
      obtain ⟨y', hy, rfl⟩ := hlo
      obtain ⟨j, n, e2, _, hn, hf⟩ := qInt_inv hq (hR.op hy (by simp [ho, Op.operands]))
      have hle : n ≤ h := by have := hf.1; omega
      exact fin n.toNat h hf (fun e => by cases e) (hrun n.toNat hf.1 (by simp [e2, Instr.sliceBound, asIntOf, hn, hle]))
  have hnot : (match P.underlying t with | some (.array _ _) => true | _ => false) = false := by rw [h1]
  cases hi with
  | none =>
    cases hhi
    refine lows es.length hc h4 fun l hl hs => ?_
    simp only [Option.map] at hs
    cases lo with
    | none =>
      have l0 : l = 0 := by simpa using hs.symm
      subst l0
      simp [execOp, ho, e1, Instr.sliceAt, Instr.slice, run_underlying h1, Instr.sliceBounds, sizeOf_run h3]
    | some y =>
      simp only at hs
      simp [execOp, ho, e1, Instr.sliceAt, Instr.slice, run_underlying h1, Instr.sliceBounds, sizeOf_run h3, hs]
  | some z =>
    simp only [poo, Option.map_eq_some_iff] at hhi
    obtain ⟨z', hz', rfl⟩ := hhi
    obtain ⟨j, n, e2, _, hn, h5⟩ := qInt_inv h4 (hR.op hz' (by simp [ho, Op.operands]))
    have hnc : n ≤ cap := by
      have : n.toNat ≤ es.length := by
        cases lo' with
        | none => exact h5.2.1
        | some y =>
          simp only [qBd, qInt] at h5
          split at h5
          · exact h5.2.2.1
          · exact h5.elim
      omega
    refine lows n.toNat (by omega) h5 fun l hl hs => ?_
    simp only [Option.map] at hs
    cases lo with
    | none =>
      have l0 : l = 0 := by simpa using hs.symm
      subst l0
      simp [execOp, ho, e1, e2, Instr.sliceAt, Instr.slice, run_underlying h1, Instr.sliceBounds, Instr.sliceBound, asIntOf, hn, hnc, sizeOf_run h3]
    | some y =>
      simp only at hs
      have hh : (Instr.sliceBound (.int j n) cap .sliceAcap).run P w = .ok n.toNat w := by simp [Instr.sliceBound, asIntOf, hn, hnc]
      simp [execOp, ho, e1, e2, Instr.sliceAt, Instr.slice, run_underlying h1, Instr.sliceBounds, hh, sizeOf_run h3, hs]
end

/-! ### Structs and slices that are built -/
/-- Cells of data. -/
def CellsD (D : Nat → Nat → Prop) (w : World) (vs : Array Value) (cs : List PV) : Prop :=
  vs.size = cs.length ∧ ∀ (i : Nat) p, cs[i]? = some p → Dat D w (vs.getD i undef) p ∧ (vs.getD i undef).oneCell' = true
theorem CellsR.data {u : Value} {cs : List PV} (h : CellsR D ρ nb w u cs) (hd : allD cs = true) : CellsD D w u.cells (cs.map PV.sh) := by
  refine ⟨by simpa using h.1, fun i p hp => ?_⟩
  simp only [List.getElem?_map, Option.map_eq_some_iff] at hp
  obtain ⟨q, hq, rfl⟩ := hp
  unfold allD at hd
  rw [List.all_eq_true] at hd
  exact ⟨((h.2 i q hq).1.data (hd q (List.mem_of_getElem? hq))).sh, (h.2 i q hq).2⟩
theorem splice_foldl (off : Nat) : ∀ (l : List Value) (k : Nat) (cells : Array Value), off + k + l.length ≤ cells.size →
    ((l.zipIdx k).foldl (fun (cs : Array Value) (c, j) => cs.setIfInBounds (off + j) c) cells).size = cells.size ∧
    ∀ i, ((l.zipIdx k).foldl (fun (cs : Array Value) (c, j) => cs.setIfInBounds (off + j) c) cells).getD i undef = if off + k ≤ i ∧ i < off + k + l.length then l.getD (i - (off + k)) undef else cells.getD i undef
  | [], k, cells, _ => ⟨rfl, fun i => by simp; intro h1 h2; omega⟩
  | v :: l, k, cells, h => by
    simp only [List.zipIdx_cons, List.foldl_cons]
    simp only [List.length_cons] at h
    obtain ⟨h1, h2⟩ := splice_foldl off l (k + 1) (cells.setIfInBounds (off + k) v) (by simp; omega)
    refine ⟨by rw [h1]; simp, fun i => ?_⟩
    rw [h2 i]
    by_cases e : i = off + k
    · subst e
      rw [if_neg (by omega), if_pos (by simp)]
      have : off + k < cells.size := by omega
      simp [this]
    · by_cases e2 : off + (k + 1) ≤ i ∧ i < off + (k + 1) + l.length
      · rw [if_pos e2, if_pos (by simp; omega)]
        obtain ⟨d, hd⟩ : ∃ d, i - (off + k) = d + 1 := ⟨i - (off + k) - 1, by omega⟩
        rw [hd, show i - (off + (k + 1)) = d from by omega]
        simp
      · rw [if_neg e2, if_neg (by simp; omega)]
        simp [Array.getElem?_setIfInBounds_ne (Ne.symm e)]
theorem spl_get (zs cs : List PV) (off i : Nat) (h : off + cs.length ≤ zs.length) : (spl zs cs off)[i]? = if off ≤ i ∧ i < off + cs.length then cs[i - off]? else zs[i]? := by
  unfold spl
  have ht : (zs.take off).length = off := by simp; omega
  by_cases h1 : i < off
  · rw [if_neg (by omega), List.append_assoc, List.getElem?_append_left (by omega), List.getElem?_take, if_pos h1]
  · by_cases h2 : i < off + cs.length
    · rw [if_pos (by omega), List.append_assoc, List.getElem?_append_right (by omega), List.getElem?_append_left (by omega), ht]
    · rw [if_neg (by omega), List.getElem?_append_right (by simp; omega), List.getElem?_drop]
      congr 1
      simp; omega
theorem spl_length (zs cs : List PV) (off : Nat) (h : off + cs.length ≤ zs.length) : (spl zs cs off).length = zs.length := by
  unfold spl; simp; omega
theorem splice_cells {vs us : Array Value} {zs cs : List PV} {off : Nat} (hz : CellsD D w vs zs) (hu : CellsD D w us cs) (h : off + cs.length ≤ zs.length) :
    CellsD D w (us.zipIdx.foldl (fun (cs : Array Value) (c, j) => cs.setIfInBounds (off + j) c) vs) (spl zs cs off) := by
  obtain ⟨h1, h2⟩ := splice_foldl off us.toList 0 vs (by simp [hz.1, hu.1]; omega)
  have e : us.zipIdx.foldl (fun (cs : Array Value) (c, j) => cs.setIfInBounds (off + j) c) vs = (us.toList.zipIdx 0).foldl (fun (cs : Array Value) (c, j) => cs.setIfInBounds (off + j) c) vs := by
    rw [← Array.foldl_toList, Array.toList_zipIdx]
  rw [e]
  refine ⟨by rw [h1, spl_length _ _ _ h]; exact hz.1, fun i p hp => ?_⟩
  rw [spl_get _ _ _ _ h] at hp
  rw [h2 i]
  have hl : us.toList.length = cs.length := by simpa using hu.1
  simp only [Nat.add_zero]
  by_cases hi : off ≤ i ∧ i < off + cs.length
  · rw [if_pos hi] at hp
    rw [if_pos (by omega)]
    have := hu.2 _ _ hp
    have e2 : us.toList.getD (i - off) undef = us.getD (i - off) undef := by simp
    rw [e2]; exact this
  · rw [if_neg hi] at hp
    rw [if_neg (by omega)]
    exact hz.2 _ _ hp
/-- The parts of a struct or an array, one after the other. -/
theorem fill_rel (place : Nat → Option (Nat × Nat)) {K : List PV → Prop} : ∀ (parts : List (Nat × Operand)) (ps : List (Nat × Nat × PO)) (vs : Array Value) (zs : List PV), ps.length = parts.length →
    (∀ (k : Nat) i x, parts[k]? = some (i, x) → ∃ off n x', ps[k]? = some (off, n, x') ∧ place i = some (off, n) ∧ Rel D ρ nb w (a.eval x) (s.ev x')) →
    CellsD D w vs zs → qParts s ps zs K → ∃ vs' cs, Instr.fill place vs (parts.map fun (i, x) => (i, a.eval x)) = some vs' ∧ CellsD D w vs' cs ∧ K cs
  | [], [], vs, zs, _, _, hz, hq => ⟨vs, zs, rfl, hz, hq⟩
  | [], _ :: _, _, _, h, _, _, _ => by cases h
  | _ :: _, [], _, _, h, _, _, _ => by cases h
  | (i, x) :: parts, (off, n, x') :: ps, vs, zs, hl, hp, hz, hq => by
    obtain ⟨off', n', x'', e1, e2, e3⟩ := hp 0 i x rfl
    simp at e1
    obtain ⟨rfl, rfl, rfl⟩ := e1
    simp only [qParts] at hq
    obtain ⟨cs, ⟨h1, h2, h3, h4⟩, h5⟩ := qCells_inv hq e3
    have h6 := h5.data h3
    obtain ⟨vs', cs', g1, g2, g3⟩ := fill_rel place parts ps _ _ (by simpa using hl) (fun k i x hk => by simpa using hp (k + 1) i x (by simpa using hk)) (splice_cells (off := off) hz h6 (by simp; omega)) h4
    refine ⟨vs', cs', ?_, g2, g3⟩
    simp only [List.map_cons, Instr.fill, e2]
    rw [if_neg]
    · exact g1
    · have := h5.1
      have := hz.1
      simp; omega
theorem zeroP_some {t : TypeId} {zs : List PV} (h : zeroP P t = some zs) : ∃ i z, P.info? t = some i ∧ i.zero = some z ∧ zs = z.cells.toList.map ofC ∧ (∀ v ∈ z.cells.toList, v.oneCell' = true) := by
  unfold zeroP at h
  simp only [Option.bind_eq_some_iff] at h
  obtain ⟨i, hi, z, hz, h⟩ := h
  split at h
  · rename_i hall
    cases h
    rw [List.all_eq_true] at hall
    exact ⟨i, z, hi, hz, rfl, hall⟩
  · cases h
theorem zero_cells {z : Value} (h : ∀ v ∈ z.cells.toList, v.oneCell' = true) : CellsD D w z.cells (z.cells.toList.map ofC) := by
  refine ⟨by simp, fun i p hp => ?_⟩
  simp only [List.getElem?_map, Option.map_eq_some_iff] at hp
  obtain ⟨v, hv, rfl⟩ := hp
  have hm : v ∈ z.cells.toList := List.mem_of_getElem? hv
  have e : z.cells.getD i undef = v := by simp at hv; simp [hv]
  rw [e]
  exact ⟨ofC_dat D w v, h v hm⟩
theorem CellsD.agg {vs : Array Value} {cs : List PV} (h : CellsD D w vs cs) : Dat D w (.agg vs) (.agg cs) :=
  .agg _ _ h.1 (fun i hi => (h.2 i _ (List.getElem?_eq_getElem hi)).2) fun i p hp => (h.2 i p hp).1
theorem partsS_some {fs : Array Field} : ∀ {l : List (Nat × Operand)} {ps : List (Nat × Nat × PO)}, partsS P fs l = some ps → ps.length = l.length ∧ ∀ (k : Nat) i x, l[k]? = some (i, x) → ∃ f n x', fs[i]? = some f ∧ P.info? f.type = some n ∧ ps[k]? = some (f.offset, n.size, x') ∧ po x = some x'
  | [], ps, h => by cases h; exact ⟨rfl, fun k i x h => by simp at h⟩
  | (i, x) :: r, ps, h => by
    simp only [partsS, Option.bind_eq_some_iff, Option.map_eq_some_iff] at h
    obtain ⟨f, hf, n, hn, y, hy, l, hl, rfl⟩ := h
    obtain ⟨h1, h2⟩ := partsS_some hl
    refine ⟨by simp [h1], fun k j z hz => ?_⟩
    cases k with
    | zero => simp at hz; obtain ⟨rfl, rfl⟩ := hz; exact ⟨f, n, y, hf, hn, rfl, hy⟩
    | succ k => simpa using h2 k j z (by simpa using hz)
theorem partsA_some {sz : Nat} : ∀ {l : List (Nat × Operand)} {ps : List (Nat × Nat × PO)}, partsA sz l = some ps → ps.length = l.length ∧ ∀ (k : Nat) i x, l[k]? = some (i, x) → ∃ x', ps[k]? = some (i * sz, sz, x') ∧ po x = some x'
  | [], ps, h => by cases h; exact ⟨rfl, fun k i x h => by simp at h⟩
  | (i, x) :: r, ps, h => by
    simp only [partsA, Option.bind_eq_some_iff, Option.map_eq_some_iff] at h
    obtain ⟨y, hy, l, hl, rfl⟩ := h
    obtain ⟨h1, h2⟩ := partsA_some hl
    refine ⟨by simp [h1], fun k j z hz => ?_⟩
    cases k with
    | zero => simp at hz; obtain ⟨rfl, rfl⟩ := hz; exact ⟨y, rfl, hy⟩
    | succ k => simpa using h2 k j z (by simpa using hz)
section
variable {K : PV → Prop} (hR : Rd D ρ s (slt a) (rdsO o) w)
include hR
theorem q_bdS {t : TypeId} {parts : Array (Nat × Operand)} {fs : Array Field} {zs : List PV} {ps : List (Nat × Nat × PO)} (ho : o.op = .build t parts) (h1 : P.underlying t = some (.struct fs)) (hz : zeroP P t = some zs) (hall : ∀ f ∈ fs.toList, (P.info? f.type).isSome = true)
    (hp : partsS P fs parts.toList = some ps) (hk : PK.q P s (.bd zs ps) K) : QS P o D ρ s a w K := by
  simp only [PK.q] at hk
  obtain ⟨i, z, g1, g2, rfl, g4⟩ := zeroP_some hz
  obtain ⟨l1, l2⟩ := partsS_some hp
  obtain ⟨places, hpl, hget⟩ : ∃ places, fs.toList.mapM (fun f => (P.info? f.type).map fun i => (f.offset, i.size)) = some places ∧ ∀ (i : Nat) f n, fs.toList[i]? = some f → P.info? f.type = some n → places[i]? = some (f.offset, n.size) := by
    revert hall
    induction fs.toList with
    | nil => intro _; exact ⟨[], rfl, fun i f n h => by simp at h⟩
    | cons f l ih =>
      intro hall
      obtain ⟨pl, e1, e2⟩ := ih fun f hf => hall f (by simp [hf])
      have := hall f (by simp)
      obtain ⟨n, hn⟩ := Option.isSome_iff_exists.1 this
      refine ⟨(f.offset, n.size) :: pl, by simp [List.mapM_cons, hn, e1], fun i f' n' hf hn' => ?_⟩
      cases i with
      | zero => simp at hf; subst hf; rw [hn] at hn'; cases hn'; rfl
      | succ i => simpa using e2 i f' n' (by simpa using hf) hn'
  obtain ⟨vs', cs, f1, f2, f3⟩ := fill_rel (D := D) (ρ := ρ) (nb := s.b.length) (w := w) (a := a) (s := s) (places.toArray[·]?) parts.toList ps z.cells _ l1 (fun k i x hkk => by
    obtain ⟨f, n, x', e1, e2, e3, e4⟩ := l2 k i x hkk
    refine ⟨f.offset, n.size, x', e3, by simpa using hget i f n (by simpa using e1) e2, hR.op e4 ?_⟩
    simp only [ho, Op.operands, List.mem_map]
    exact ⟨(i, x), List.mem_of_getElem? hkk, rfl⟩) (zero_cells g4) hk
  refine .det (u := .agg vs') ?_ (.dat f2.agg) f3 rfl
  have hb : P.built t (parts.map fun (i, x) => (i, a.eval x)).toList = some vs' := by
    unfold Program.built
    simp only [g1, h1, g2, hpl]
    rw [Array.toList_map]
    exact f1
  simp only [execOp, ho, Sem.run_bind, run_build w t _ vs' hb, Result.andThen_ok]
  rfl
theorem q_bdA {t e : TypeId} {n : Nat} {parts : Array (Nat × Operand)} {ie : TypeInfo} {zs : List PV} {ps : List (Nat × Nat × PO)} (ho : o.op = .build t parts) (h1 : P.underlying t = some (.array n e)) (h3 : P.info? e = some ie) (hz : zeroP P t = some zs)
    (hp : partsA ie.size parts.toList = some ps) (hk : PK.q P s (.bd zs ps) K) : QS P o D ρ s a w K := by
  simp only [PK.q] at hk
  obtain ⟨i, z, g1, g2, rfl, g4⟩ := zeroP_some hz
  obtain ⟨l1, l2⟩ := partsA_some hp
  obtain ⟨vs', cs, f1, f2, f3⟩ := fill_rel (D := D) (ρ := ρ) (nb := s.b.length) (w := w) (a := a) (s := s) (fun i => some (i * ie.size, ie.size)) parts.toList ps z.cells _ l1 (fun k i x hkk => by
    obtain ⟨x', e3, e4⟩ := l2 k i x hkk
    refine ⟨_, _, x', e3, rfl, hR.op e4 ?_⟩
    simp only [ho, Op.operands, List.mem_map]
    exact ⟨(i, x), List.mem_of_getElem? hkk, rfl⟩) (zero_cells g4) hk
  refine .det (u := .agg vs') ?_ (.dat f2.agg) f3 rfl
  have hb : P.built t (parts.map fun (i, x) => (i, a.eval x)).toList = some vs' := by
    unfold Program.built
    simp only [g1, h1, g2, h3]
    rw [Array.toList_map]
    exact f1
  simp only [execOp, ho, Sem.run_bind, run_build w t _ vs' hb, Result.andThen_ok]
  rfl
end

/-! ### A slice that is built -/
/-- The cells of elements, one behind the other. -/
def RowD (D : Nat → Nat → Prop) (w : World) (sz : Nat) (vs : List Value) (es : List (List PV)) : Prop :=
  vs.length = es.length * sz ∧ (∀ (i : Nat) (e : List PV), es[i]? = some e → e.length = sz) ∧ (∀ j, j < vs.length → (vs.getD j undef).oneCell' = true) ∧ ∀ (i : Nat) (e : List PV) (j : Nat) (p : PV), es[i]? = some e → e[j]? = some p → Dat D w (vs.getD (i * sz + j) undef) p
theorem RowD.mono {D' : Nat → Nat → Prop} {w' : World} {sz : Nat} {vs : List Value} {es : List (List PV)} (h : RowD D w sz vs es) (hD : ∀ b o, D b o → D' b o) (hw : ∀ b o x, D b o → w.cell? ⟨b, o, none⟩ = some x → w'.cell? ⟨b, o, none⟩ = some x) : RowD D' w' sz vs es :=
  ⟨h.1, h.2.1, h.2.2.1, fun i e j p h1 h2 => (h.2.2.2 i e j p h1 h2).mono hD hw⟩
theorem RowD.append {sz : Nat} {vs us : List Value} {es fs : List (List PV)} (h : RowD D w sz vs es) (k : RowD D w sz us fs) : RowD D w sz (vs ++ us) (es ++ fs) := by
  have hl : es.length * sz = vs.length := h.1.symm
  refine ⟨by simp [h.1, k.1, Nat.add_mul], fun i e he => ?_, fun j hj => ?_, fun i e j p he hp => ?_⟩
  · rcases Nat.lt_or_ge i es.length with hi | hi
    · rw [List.getElem?_append_left hi] at he; exact h.2.1 i e he
    · rw [List.getElem?_append_right hi] at he; exact k.2.1 _ e he
  · rw [List.getD_eq_getElem?_getD]
    rcases Nat.lt_or_ge j vs.length with hi | hi
    · rw [List.getElem?_append_left hi, ← List.getD_eq_getElem?_getD]; exact h.2.2.1 j hi
    · rw [List.getElem?_append_right hi, ← List.getD_eq_getElem?_getD]; exact k.2.2.1 _ (by simp at hj; omega)
  · rw [List.getD_eq_getElem?_getD]
    rcases Nat.lt_or_ge i es.length with hi | hi
    · rw [List.getElem?_append_left hi] at he
      have hlen := h.2.1 i e he
      have hj : j < sz := by rw [← hlen]; exact (List.getElem?_eq_some_iff.1 hp).1
      rw [List.getElem?_append_left (by rw [← hl]; exact sub_lt hi hj), ← List.getD_eq_getElem?_getD]
      exact h.2.2.2 i e j p he hp
    · rw [List.getElem?_append_right hi] at he
      have h2 : vs.length ≤ i * sz + j := by rw [← hl]; exact Nat.le_trans (Nat.mul_le_mul_right _ hi) (by omega)
      rw [List.getElem?_append_right h2, ← List.getD_eq_getElem?_getD]
      have := k.2.2.2 _ e j p he hp
      rw [Nat.sub_mul] at this
      rw [show i * sz + j - vs.length = i * sz - es.length * sz + j from by rw [hl]; have := Nat.mul_le_mul_right sz hi; omega]
      exact this
/-- A slice whose row starts at its head. -/
theorem row_dat {sz b cap : Nat} {vs : List Value} {es : List (List PV)} {cs : Array Value} {e : TypeId} {fr : Nat × Nat} {k : Ow} (h : RowD D w sz vs es) (hh : w.heap[b]? = some (.cells cs e fr)) (ht : ∀ j, j < vs.length → cs[j]? = some (vs.getD j undef))
    (hc : es.length ≤ cap) (hm : cap ≤ maxLen) (hk : k = .z → cap = es.length) (hD : ∀ j, j < vs.length → D b j) : Dat D w (.slice (some ⟨b, 0, none⟩) es.length cap) (.sl es k) :=
  .sl _ _ sz _ _ b 0 (fun j => vs.getD j undef) hc hk hm (fun _ => rfl) h.2.1 (fun j hj => by
    rw [← h.1] at hj
    refine ⟨by simpa using hD j hj, ?_, h.2.2.1 j hj⟩
    simp only [World.cell?, hh, Nat.zero_add]
    simpa using ht j hj) h.2.2.2
theorem elems_rel {sz : Nat} {K : List (List PV) → Prop} : ∀ (l : List Operand) (ps : List PO), pos l = some ps → (∀ x ∈ l, ∀ x', po x = some x' → Rel D ρ nb w (a.eval x) (s.ev x')) → qElems s sz ps K →
    ∃ es, K es ∧ es.length = l.length ∧ RowD D w sz (l.flatMap fun x => (a.eval x).cells.toList) es ∧ ∀ x ∈ l, (a.eval x).cells.size = sz
  | [], ps, h, _, hq => by cases h; exact ⟨[], hq, rfl, ⟨by simp, fun i e h => by simp at h, fun j h => by simp at h, fun i e j p h => by simp at h⟩, by simp⟩
  | x :: l, ps, h, hr, hq => by
    simp only [pos, Option.bind_eq_some_iff, Option.map_eq_some_iff] at h
    obtain ⟨x', hx, ps', hps, rfl⟩ := h
    simp only [qElems] at hq
    obtain ⟨cs, ⟨h1, h2, h3⟩, h4⟩ := qCells_inv hq (hr x (by simp) x' hx)
    obtain ⟨es, g1, g2, g3, g4⟩ := elems_rel l ps' hps (fun y hy => hr y (by simp [hy])) h3
    have h5 := h4.data h2
    have hsz : (a.eval x).cells.size = sz := by rw [h4.1]; exact h1
    refine ⟨_, g1, by simp [g2], ?_, fun y hy => ?_⟩
    · have one : RowD D w sz (a.eval x).cells.toList [cs.map PV.sh] := by
        refine ⟨by simpa using hsz, fun i e he => ?_, fun j hj => ?_, fun i e j p he hp => ?_⟩
        · have : i = 0 := by have := (List.getElem?_eq_some_iff.1 he).1; simpa using this
          subst this; simp at he; subst he; simpa using h1
        · have hj' : j < cs.length := by rw [h1, ← hsz]; simpa using hj
          have := (h4.2 j _ (List.getElem?_eq_getElem hj')).2
          simpa using this
        · have : i = 0 := by have := (List.getElem?_eq_some_iff.1 he).1; simpa using this
          subst this; simp at he; subst he
          have := (h5.2 j p hp).1
          simpa using this
      have := one.append g3
      simpa using this
    · rcases List.mem_cons.1 hy with rfl | hy
      · exact hsz
      · exact g4 y hy
/-- Cells laid one behind the other over a row. -/
theorem fill_row {sz : Nat} : ∀ (l : List Value) (k : Nat) (done : List Value) (cells : Array Value), (∀ v ∈ l, v.cells.size = sz) → done.length = k * sz → cells.size = (k + l.length) * sz → (∀ j, j < done.length → cells[j]? = some (done.getD j undef)) →
    ∃ cells', Instr.fill (fun i => some (i * sz, sz)) cells (l.zipIdx k |>.map fun (v, i) => (i, v)) = some cells' ∧ cells'.toList = done ++ l.flatMap fun v => v.cells.toList
  | [], k, done, cells, _, h2, h3, h4 => by
    refine ⟨cells, rfl, ?_⟩
    simp only [List.flatMap_nil, List.append_nil]
    apply List.ext_getElem?
    intro j
    rcases Nat.lt_or_ge j done.length with hj | hj
    · have := h4 j hj
      rw [List.getElem?_eq_getElem hj]
      simpa [List.getD_eq_getElem?_getD, List.getElem?_eq_getElem hj] using this
    · rw [List.getElem?_eq_none hj, List.getElem?_eq_none (by simp [h3]; simp at h3; omega)]
  | v :: l, k, done, cells, h1, h2, h3, h4 => by
    have hv := h1 v (by simp)
    simp only [List.length_cons] at h3
    have hle : k * sz + sz ≤ cells.size := by
      rw [h3, ← Nat.succ_mul]; exact Nat.mul_le_mul_right _ (by omega)
    obtain ⟨f1, f2⟩ := splice_foldl (k * sz) v.cells.toList 0 cells (by simp [hv]; omega)
    have e : v.cells.zipIdx.foldl (fun (cs : Array Value) (c, j) => cs.setIfInBounds (k * sz + j) c) cells = (v.cells.toList.zipIdx 0).foldl (fun (cs : Array Value) (c, j) => cs.setIfInBounds (k * sz + j) c) cells := by
      rw [← Array.foldl_toList, Array.toList_zipIdx]
    rw [← e] at f1 f2
    obtain ⟨cells2, hc2⟩ : ∃ c, v.cells.zipIdx.foldl (fun (cs : Array Value) (c, j) => cs.setIfInBounds (k * sz + j) c) cells = c := ⟨_, rfl⟩
    rw [hc2] at f1 f2
    obtain ⟨cells', g1, g2⟩ := fill_row l (k + 1) (done ++ v.cells.toList) cells2 (fun u hu => h1 u (by simp [hu])) (by simp [h2, hv, Nat.add_mul]) (by rw [f1, h3]; congr 1; omega) (fun j hj => by
      have hj2 : j < cells2.size := by rw [f1]; simp [h2, hv] at hj; omega
      have hg := f2 j
      rw [Array.getD_eq_getD_getElem?, Array.getElem?_eq_getElem hj2, Option.getD_some] at hg
      rw [Array.getElem?_eq_getElem hj2, hg]
      congr 1
      simp only [Nat.add_zero]
      rw [List.getD_eq_getElem?_getD (l := done ++ _)]
      rcases Nat.lt_or_ge j done.length with hd | hd
      · rw [if_neg (by omega), List.getElem?_append_left hd, ← List.getD_eq_getElem?_getD, Array.getD_eq_getD_getElem?, h4 j hd]; rfl
      · rw [if_pos (by simp [hv]; simp [hv] at hj; omega), List.getElem?_append_right hd, List.getD_eq_getElem?_getD, h2])
    refine ⟨cells', ?_, by rw [g2]; simp⟩
    simp only [List.zipIdx_cons, List.map_cons, Instr.fill]
    rw [if_neg (by simp [hv]; omega), hc2]
    exact g1
section
variable {K : PV → Prop} (hR : Rd D ρ s (slt a) (rdsO o) w)
include hR
theorem bs_core {t e : TypeId} {n : Nat} {parts : Array (Nat × Operand)} {ie : TypeInfo} {zs : List PV} {ps : List PO} (ho : o.op = .buildSlice t n parts) (h1 : P.underlying t = some (.slice e)) (h3 : P.info? e = some ie) (hz : zeroP P e = some zs)
    (hp : pos (parts.toList.map (·.2)) = some ps) (hi : parts.toList.map (·.1) = List.range n) (hn : n * ie.size ≤ 16777216) (hmx : n ≤ maxLen) {K' : List (List PV) → Prop} (hk : qElems s ie.size ps K') :
    ∃ (es : List (List PV)) (cells' : Array Value), K' es ∧ es.length = n ∧ (execOp a.eval o).run P w = .ok (.value (.slice (some ⟨w.heap.size, 0, none⟩) n n)) (w.alloc (.cells cells' e)) ∧ RowD D w ie.size cells'.toList es ∧ ∀ j, j < cells'.toList.length → cells'[j]? = some (cells'.toList.getD j undef) := by
  obtain ⟨i, z, g1, g2, rfl, g4⟩ := zeroP_some hz
  rw [h3] at g1; cases g1
  have hlen : parts.toList.length = n := by have := congrArg List.length hi; simpa using this
  obtain ⟨es, k1, k2, k3, k4⟩ := elems_rel (D := D) (ρ := ρ) (nb := s.b.length) (w := w) (a := a) (s := s) _ _ hp (fun x hx x' hx' => hR.op hx' (by simpa [ho, Op.operands] using hx)) hk
  have hpl : parts.toList.map (fun (i, x) => (i, a.eval x)) = ((parts.toList.map fun y => a.eval y.2).zipIdx 0).map fun (v, i) => (i, v) := by
    apply List.ext_getElem?
    intro j
    rcases Nat.lt_or_ge j parts.toList.length with hj | hj
    · have h5 : (parts.toList.map (·.1))[j]? = (List.range n)[j]? := by rw [hi]
      rw [List.getElem?_map, List.getElem?_eq_getElem hj, List.getElem?_range (by omega)] at h5
      simp at h5
      simp [List.getElem?_eq_getElem hj, List.getElem?_zipIdx]
      have hj' : j < parts.size := by simpa using hj
      simp [hj', h5]
    · rw [List.getElem?_eq_none (by simpa using hj), List.getElem?_eq_none (by simpa using hj)]
  have hel : es.length = n := by rw [k2]; simpa using hlen
  have hfill : ∀ c0 : Array Value, c0.size = n * ie.size → ∃ cells', Instr.fill (fun i => some (i * ie.size, ie.size)) c0 (parts.toList.map fun (i, x) => (i, a.eval x)) = some cells' ∧ cells'.toList = (parts.toList.map fun y => a.eval y.2).flatMap fun v => v.cells.toList := fun c0 hc0 => by
    obtain ⟨c', e1, e2⟩ := fill_row (sz := ie.size) (parts.toList.map fun y => a.eval y.2) 0 [] c0 (fun v hv => by
      simp only [List.mem_map] at hv
      obtain ⟨y, hy, rfl⟩ := hv
      exact k4 _ (List.mem_map.2 ⟨y, hy, rfl⟩)) (by simp) (by rw [hc0]; simp only [List.length_map, hlen, Nat.zero_add]) (fun j hj => by simp at hj)
    rw [← hpl] at e1
    exact ⟨c', e1, by simpa using e2⟩
  have fin : ∀ cells' : Array Value, cells'.toList = ((parts.toList.map fun y => a.eval y.2).flatMap fun v => v.cells.toList) → (execOp a.eval o).run P w = .ok (.value (.slice (some ⟨w.heap.size, 0, none⟩) n n)) (w.alloc (.cells cells' e)) →
      ∃ (es : List (List PV)) (cells' : Array Value), K' es ∧ es.length = n ∧ (execOp a.eval o).run P w = .ok (.value (.slice (some ⟨w.heap.size, 0, none⟩) n n)) (w.alloc (.cells cells' e)) ∧ RowD D w ie.size cells'.toList es ∧ ∀ j, j < cells'.toList.length → cells'[j]? = some (cells'.toList.getD j undef) := by
    intro cells' f2 hr
    have hfl : (List.map (fun x => x.snd) parts.toList).flatMap (fun x => (a.eval x).cells.toList) = cells'.toList := by rw [f2]; simp [List.flatMap_map]
    rw [hfl] at k3
    have hget : ∀ j, j < cells'.toList.length → cells'[j]? = some (cells'.toList.getD j undef) := fun j hj => by
      have hj' : j < cells'.size := by simpa using hj
      simp [hj']
    exact ⟨es, cells', k1, hel, hr, k3, hget⟩
  by_cases h0 : n * ie.size = 0
  · obtain ⟨cells', f1, f2⟩ := hfill ((Array.range (n * ie.size)).map fun x => (#[] : Array Value)[x % (#[] : Array Value).size]!) (by simp)
    refine fin cells' f2 ?_
    have hn' : ¬ (16777216 < n * ie.size) := by omega
    rw [← Array.toList_map] at f1
    simp [execOp, ho, Instr.buildSlice, run_underlying h1, sizeOf_run h3, hn', h0, newRow] at f1 ⊢
    simp [f1]
  · obtain ⟨cells', f1, f2⟩ := hfill ((Array.range (n * ie.size)).map fun x => z.cells[x % z.cells.size]!) (by simp)
    refine fin cells' f2 ?_
    have hn' : ¬ (16777216 < n * ie.size) := by omega
    rw [← Array.toList_map] at f1
    have hzv : (zeroValue e).run P w = .ok z w := by simp [zeroValue, typeInfo, h3, g2]
    have h0' : ¬ (n = 0 ∨ ie.size = 0) := by rw [← Nat.mul_eq_zero]; exact h0
    simp [execOp, ho, Instr.buildSlice, run_underlying h1, sizeOf_run h3, hn', h0', hzv, newRow] at f1 ⊢
    simp [f1]
    exact fun h => absurd h h0
theorem q_bs {t e : TypeId} {n : Nat} {parts : Array (Nat × Operand)} {ie : TypeInfo} {zs : List PV} {ps : List PO} (ho : o.op = .buildSlice t n parts) (h1 : P.underlying t = some (.slice e)) (h3 : P.info? e = some ie) (hz : zeroP P e = some zs)
    (hp : pos (parts.toList.map (·.2)) = some ps) (hi : parts.toList.map (·.1) = List.range n) (hn : n * ie.size ≤ 16777216) (hmx : n ≤ maxLen) (hk : PK.q P s (.bs ie.size ps) K) : QS P o D ρ s a w K := by
  simp only [PK.q] at hk
  obtain ⟨es, cells', k1, hel, hr, k3, hget⟩ := bs_core hR ho h1 h3 hz hp hi hn hmx hk
  have hb : Below w.heap.size w (w.alloc (.cells cells' e)) := (Below.refl _ _).alloc (Nat.le_refl _) _
  have k5 := k3.mono (D' := fun b o => D b o ∨ w.heap.size ≤ b) (w' := w.alloc (.cells cells' e)) (fun _ _ h => .inl h) fun b o x _ hx => below_cell hb (cell_lt hx) hx
  refine ⟨_, k1, rfl, qnew hr hb (.dat ?_) fun _ _ _ => trivial⟩
  have := row_dat (cap := n) (k := .z) (e := e) (fr := (0, 0)) k5 (World.alloc_heap_new w (.cells cells' e)) hget (by omega) hmx (fun _ => by omega) (fun j _ => .inr (Nat.le_refl _))
  rw [hel] at this; exact this
end

/-! ### Calls and appends -/
section
variable {K : PV → Prop} (hR : Rd D ρ s (slt a) (rdsO o) w)
include hR
/-- The values of operands that are data. -/
theorem args_dat {xs : List Operand} {ps : List PO} (hp : pos xs = some ps) (hm : ∀ x ∈ xs, x ∈ o.op.operands.toList) (hd : allD (ps.map fun x => (s.ev x).sh) = true) :
    ps.length = xs.length ∧ ∀ (i : Nat) p, (ps.map fun x => (s.ev x).sh)[i]? = some p → Dat D w ((xs.map a.eval).getD i undef) p := by
  obtain ⟨h1, h2⟩ := pos_some hp
  refine ⟨h1, fun i p hp => ?_⟩
  have hp0 := hp
  simp only [List.getElem?_map, Option.map_eq_some_iff] at hp
  obtain ⟨x', hx', rfl⟩ := hp
  have hi : i < xs.length := by rw [← h1]; exact (List.getElem?_eq_some_iff.1 hx').1
  obtain ⟨y', hy', hpo⟩ := h2 i _ (List.getElem?_eq_getElem hi)
  rw [hx'] at hy'
  cases hy'
  have e : (xs.map a.eval).getD i undef = a.eval xs[i] := by simp [hi]
  rw [e]
  unfold allD at hd
  rw [List.all_eq_true] at hd
  exact ((hR.op hpo (hm _ (List.getElem_mem hi))).data (by have := hd _ (List.mem_of_getElem? hp0); rwa [PV.sh_isD] at this)).sh
omit hR in
/-- A call whose contract is known. -/
theorem call_ok {f : FuncId} {ps : List PV} {r : PV} {vs : Array Value} (hgl : GL D w) (hC : Cn P f ps r) (hsz : vs.size = ps.length) (hd : ∀ (i : Nat) p, ps[i]? = some p → Dat D w (vs.getD i undef) p) (hr : (execOp a.eval o).run P w = .ok (.enter f vs) w) :
    ∀ (next : Act → World → Prop) (Q : Exit → Act → World → Prop), (∀ u w' D', Below w.heap.size w w' → (∀ b o, D b o ∧ b < w.heap.size → D' b o) → (∀ b o, D' b o → (D b o ∧ b < w.heap.size) ∨ w.heap.size ≤ b) → (∀ b o, D' b o → b < w'.heap.size) → Dat D' w' u r → OwnOk D' (fun k => w.heap.size ≤ k) w' u r → next (a.put o.dst u) w') → o.wp P a w next Q := by
  intro next Q hn
  show o.upon P a next Q ((execOp a.eval o).run P w)
  rw [hr, Oper.upon_enter]
  have hd' : ∀ (i : Nat) p, ps[i]? = some p → Dat (fun b o => D b o ∧ b < w.heap.size) w (vs.getD i undef) p := fun i p hp => (hd i p hp).restrict
  refine (hC.2 _ w vs (fun x hx => ⟨⟨(hgl x hx).1, World.block_lt_of_cell? w ⟨0, 0, _⟩ (hgl x hx).2⟩, (hgl x hx).2⟩) (fun b o h => h.2) hsz hd').mono ?_
  rintro e w' ⟨v, D', rfl, hb, h1, h2, h3, h4, h5⟩
  exact hn v w' D' hb h1 h2 h3 h4 h5
omit hR in
theorem call_q {f : FuncId} {ps : List PV} {r : PV} {vs : Array Value} (hgl : GL D w) (hC : Cn P f ps r) (hsz : vs.size = ps.length) (hd : ∀ (i : Nat) p, ps[i]? = some p → Dat D w (vs.getD i undef) p) (hr : (execOp a.eval o).run P w = .ok (.enter f vs) w) (hk : K r.strip) : QS P o D ρ s a w K := by
  refine ⟨r.strip, hk, r.strip_own, fun next Q hn => call_ok hgl hC hsz hd hr next Q fun u w' D' hb h1 h2 h3 h4 h5 => hn u w' hb ?_ fun _ _ _ => newOk_of r.strip_isN⟩
  refine (Rel.dat h4.strip).mono (fun b o h => ?_) (fun _ _ _ _ h => h) (Nat.le_refl _) fun _ _ => rfl
  rcases h2 b o h with h' | h'
  · exact .inl h'.1
  · exact .inr h'
omit hR in
theorem ca_run {f : FuncId} {xs : List Operand} {c : Call} (ho : o.op = .call c) (hc : c.callee = .value (.func f)) (ha : c.args.toList = xs) (he : ∀ args w, (callFunc f args).run P w = .ok (.enter f args) w) :
    (execOp a.eval o).run P w = .ok (.enter f (xs.map a.eval).toArray) w := by
  have e : c.args.map a.eval = (xs.map a.eval).toArray := Array.toList_inj.1 (by rw [Array.toList_map, ha])
  have e2 : a.eval (.func f) = .func (.func f) #[] #[] := rfl
  simp only [execOp, ho, resolve, hc, e, e2, Deferred.ofValue, Sem.run_bind, Sem.run_pure, Result.andThen_ok, invoke]
  rw [show (#[] ++ (xs.map a.eval).toArray ++ #[] : Array Value) = (xs.map a.eval).toArray from by simp]
  exact he _ _
theorem q_ca {f : FuncId} {xs : List Operand} {ps : List PO} {c : Call} (ho : o.op = .call c) (hc : c.callee = .value (.func f)) (ha : c.args.toList = xs) (hp : pos xs = some ps) (hk : PK.q P s (.ca f ps) K) : QS P o D ρ s a w K := by
  simp only [PK.q] at hk
  obtain ⟨r, hC, hd, hk⟩ := hk
  obtain ⟨h1, h2⟩ := args_dat hR hp (fun x hx => by rw [ho]; simp only [Op.operands, Call.operands, hc, Array.toList_append, List.mem_append, ha]; exact .inr hx) hd
  refine call_q hR.gl hC (by simp [h1]) (fun i p hp => ?_) (ca_run ho hc ha hC.1) hk
  have := h2 i p hp
  simpa using this
theorem q_cl {t : Tmp} {xs : List Operand} {ps : List PO} {c : Call} (ho : o.op = .call c) (hc : c.callee = .value (.tmp t)) (ha : c.args.toList = xs) (hp : pos xs = some ps) (hk : PK.q P s (.cl (.t t) ps) K) : QS P o D ρ s a w K := by
  simp only [PK.q] at hk
  have hf := hR.op (y := .tmp t) (y' := .t t) rfl (by rw [ho]; simp [Op.operands, Call.operands, hc])
  split at hk
  · rename_i f fs cs e
    rw [e] at hf
    obtain ⟨r, hC, hd, hk⟩ := hk
    have hdl : fs.all PV.isD = true ∧ allD (ps.map fun x => (s.ev x).sh) = true ∧ cs.all PV.isD = true := by
      unfold allD at hd ⊢
      simp only [List.all_append, Bool.and_eq_true] at hd
      exact ⟨hd.1.1, hd.1.2, hd.2⟩
    obtain ⟨h1, h2⟩ := args_dat hR hp (fun x hx => by rw [ho]; simp only [Op.operands, Call.operands, hc, Array.toList_append, List.mem_append, ha]; exact .inr hx) hdl.2.1
    have hfd : ∃ va vb, a.eval (.tmp t) = .func (.func f) va vb ∧ va.size = fs.length ∧ vb.size = cs.length ∧ (∀ (i : Nat) p, fs[i]? = some p → Dat D w (va.getD i undef) p) ∧ (∀ (i : Nat) p, cs[i]? = some p → Dat D w (vb.getD i undef) p) := by
      have hisD : (PV.fn (.func f) fs cs).isD = true := by
        have key : ∀ l : List PV, l.all PV.isD = true → l.all (fun p => !p.isB) = true := fun l h => by
          rw [List.all_eq_true] at h ⊢
          intro p hp
          have := h p hp
          cases p <;> first | rfl | cases this
        simp only [PV.isD, key _ hdl.1, key _ hdl.2.2, Bool.and_self]
      have := hf.data hisD
      generalize a.eval (.tmp t) = z at this ⊢
      cases this with
      | fn f va vb fs cs h1 h2 h3 h4 => exact ⟨va, vb, rfl, h1, h2, h3, h4⟩
    obtain ⟨va, vb, ef, s1, s2, d1, d2⟩ := hfd
    have er : (execOp a.eval o).run P w = .ok (.enter f (va ++ (xs.map a.eval).toArray ++ vb)) w := by
      have e : c.args.map a.eval = (xs.map a.eval).toArray := Array.toList_inj.1 (by rw [Array.toList_map, ha])
      simp only [execOp, ho, resolve, hc, e, ef, Deferred.ofValue, Sem.run_bind, Sem.run_pure, Result.andThen_ok, invoke]
      exact hC.1 _ _
    refine call_q hR.gl hC (by simp [h1, s1, s2]) (fun i p hp => ?_) er hk
    rw [Array.getD_eq_getD_getElem?]
    rcases Nat.lt_or_ge i (fs.length + ps.length) with hi | hi
    · rw [List.getElem?_append_left (by simp; omega)] at hp
      rw [Array.getElem?_append_left (by simp; omega)]
      rcases Nat.lt_or_ge i fs.length with hi2 | hi2
      · rw [List.getElem?_append_left hi2] at hp
        rw [Array.getElem?_append_left (by omega)]
        have := d1 i p hp
        rwa [Array.getD_eq_getD_getElem?] at this
      · rw [List.getElem?_append_right hi2] at hp
        rw [Array.getElem?_append_right (by omega), s1]
        have := h2 _ p hp
        simpa [List.getD_eq_getElem?_getD] using this
    · rw [List.getElem?_append_right (by simp; omega)] at hp
      rw [Array.getElem?_append_right (by simp; omega)]
      have := d2 _ p hp
      rw [Array.getD_eq_getD_getElem?] at this
      simpa [s1, h1] using this
  · exact hk.elim
end
end Go.Proofs.YtcedofkenfddkaaDoor
