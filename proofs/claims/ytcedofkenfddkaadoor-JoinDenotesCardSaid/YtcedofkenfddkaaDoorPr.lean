/- The soundness of the instructions, continued: parts of slices, structs and slices that are built, calls, appends; and all of them together. No condition. -/
import Derived.Test.YtcedofkenfddkaaDoorPq
namespace Go.Proofs.YtcedofkenfddkaaDoor
set_option linter.unusedVariables false
set_option linter.unusedSimpArgs false
open Go.RowKit
variable {P : Program} {o : Oper} {D : Nat → Nat → Prop} {ρ : Nat → Nat} {nb : Nat} {s : PS} {a : Act} {w : World}

theorem sub_lt {i n sz j : Nat} (h : i < n) (hj : j < sz) : i * sz + j < n * sz := by
  calc i * sz + j < i * sz + sz := by omega
    _ = (i + 1) * sz := by rw [Nat.add_mul]; omega
    _ ≤ n * sz := Nat.mul_le_mul_right _ h
/-- A part of a slice that lies in memory. -/
theorem sub_dat {k : Ow} (hkz : k ≠ .z) {ad : Option Addr} {b off sz l h cap : Nat} {es : List (List PV)} {f : Nat → Value} (hl : l ≤ h) (hh : h ≤ es.length) (hc : es.length ≤ cap) (hm : cap ≤ maxLen) (ha : es ≠ [] → ad = some ⟨b, off, none⟩) (hsz : ∀ (i : Nat) (e : List PV), es[i]? = some e → e.length = sz)
    (hD : ∀ j, j < es.length * sz → D b (off + j) ∧ w.cell? ⟨b, off + j, none⟩ = some (f j) ∧ (f j).oneCell' = true) (hd : ∀ (i : Nat) (e : List PV) (j : Nat) (p : PV), es[i]? = some e → e[j]? = some p → Dat D w (f (i * sz + j)) p) :
    Dat D w (.slice (if cap - 0 = l then ad else ad.map (·.add (l * sz))) (h - l) (cap - l)) (.sl ((es.take h).drop l) k) := by
  have hlen : ((es.take h).drop l).length = h - l := by simp; omega
  have key : Dat D w (.slice (if cap - 0 = l then ad else ad.map (·.add (l * sz))) ((es.take h).drop l).length (cap - l)) (.sl ((es.take h).drop l) k) := by
    have get : ∀ (i : Nat) e, ((es.take h).drop l)[i]? = some e → es[l + i]? = some e ∧ i < h - l := fun i e he => by
      have hi := (List.getElem?_eq_some_iff.1 he).1
      rw [hlen] at hi
      rw [List.getElem?_drop, List.getElem?_take, if_pos (by omega)] at he
      exact ⟨he, hi⟩
    refine .sl _ _ sz _ _ b (off + l * sz) (fun j => f (l * sz + j)) (by omega) (fun h => absurd h hkz) (by omega) (fun hne => ?_) (fun i e he => hsz _ e (get i e he).1) (fun j hj => ?_) (fun i e j p he hp => ?_)
    · have hlt : l < h := by
        rcases Nat.lt_or_ge l h with h' | h'
        · exact h'
        · exact absurd (List.eq_nil_of_length_eq_zero (by rw [hlen]; omega)) hne
      rw [if_neg (by omega), ha (by intro e; subst e; simp at hh; omega)]
      simp [add_none]
    · rw [hlen] at hj
      have : l * sz + j < es.length * sz := by
        have h1 : (l + (h - l)) * sz ≤ es.length * sz := Nat.mul_le_mul_right _ (by omega)
        rw [Nat.add_mul] at h1; omega
      rw [Nat.add_assoc]; exact hD _ this
    · have := hd _ _ _ _ (get i e he).1 hp
      rw [Nat.add_mul, Nat.add_assoc] at this; exact this
  rw [hlen] at key; exact key

section
variable {K : PV → Prop} (hR : Rd D ρ s (slt a) (rdsO o) w)
include hR
theorem q_sc {t e : TypeId} {x : Operand} {x' : PO} {lo hi : Option Operand} {lo' hi' : Option PO} {i : TypeInfo} (ho : o.op = .slice t x lo hi none) (h1 : P.underlying t = some (.slice e)) (h3 : P.info? e = some i) (hx : po x = some x') (hlo : poo lo = some lo') (hhi : poo hi = some hi')
    (hk : PK.q P s (.sc x' lo' hi' i.size) K) : QS P o D ρ s a w K := by
  simp only [PK.q] at hk
  obtain ⟨es, k, ex, h4⟩ := qSl_inv hk
  have hr := hR.op hx (by simp [ho, Op.operands])
  rw [ex] at hr
  obtain ⟨ad, cap, sz, b, off, f, e1, hc, hz, hm, ha, hsz, hD, hd⟩ := hr.inv_sl
  have fin : ∀ l h : Nat, (l ≤ h ∧ h ≤ es.length ∧ (∀ e ∈ es, e.length = i.size) ∧ K (.sl ((es.take h).drop l) (scO lo' (s.ev x')))) → (lo' = none → l = 0) → (execOp a.eval o).run P w = .ok (.value (.slice (if cap = l then ad else ad.map (·.add (l * i.size))) (h - l) (cap - l))) w → QS P o D ρ s a w K := by
    rintro l h ⟨hl, hh, hse, hK⟩ hlo0 hrun
    have hkz : scO lo' (s.ev x') ≠ .z := by unfold scO; split <;> simp
    have hko : (PV.sl ((es.take h).drop l) (scO lo' (s.ev x'))).own = none := by unfold scO; split <;> rfl
    have hNew : ∀ x0 n0, News x0 n0 s (slt a) (rdsO o) w → NewOk x0 n0 w (.slice (if cap = l then ad else ad.map (·.add (l * i.size))) (h - l) (cap - l)) (.sl ((es.take h).drop l) (scO lo' (s.ev x'))) := fun x0 n0 hN => by
      have hsh : ∀ u : Value, NewOk x0 n0 w u (.sl ((es.take h).drop l) .sh) := fun _ => trivial
      rw [ex]
      cases hlo2 : lo' with
      | some y => exact hsh _
      | none =>
        have h0 := hlo0 hlo2
        subst h0
        cases k with
        | p j =>
          have hxt : ∃ t, x = .tmp t ∧ s.get t = .sl es (.p j) := by
            cases x with
            | tmp t => cases hx; exact ⟨t, rfl, ex⟩
            | const v =>
              cases hx
              have : (ofV v).isN = false := by unfold ofV; split <;> (try split) <;> rfl
              rw [show ofV v = _ from ex] at this; cases this
            | func f => cases hx; cases ex
            | global g => cases hx
          obtain ⟨t, rfl, ht⟩ := hxt
          have hN2 := (hN.2 t (rdsO_mem (by simp [ho, Op.operands]))).1
          rw [ht] at hN2
          obtain ⟨ad2, len2, cap2, q1, q2⟩ := hN2
          have q3 : slt a t = .slice ad es.length cap := e1
          rw [q3] at q2
          injection q2 with r1 r2 r3
          subst r1
          subst r3
          refine ⟨ad, len2, cap, q1, ?_⟩
          have hlen : ((es.take h).drop 0).length = h := by simp; omega
          rw [hlen]
          have e4 : (if cap = 0 then ad else ad.map (·.add (0 * i.size))) = ad := by
            split
            · rfl
            · cases ad with
              | none => rfl
              | some ad => simp [Addr.add]
          rw [e4]; rfl
        | _ => exact hsh _
    by_cases hes : es = []
    · subst hes
      have h0 : h = 0 := by simpa using hh
      subst h0
      have l0 : l = 0 := by omega
      subst l0
      refine ⟨_, hK, hko, qdet hrun (.dat ?_) hNew⟩
      exact .sl _ _ 1 [] _ 0 0 (fun _ => undef) (Nat.zero_le _) (fun h => absurd h hkz) (by omega) (fun h => absurd rfl h) (fun i e h => by simp at h) (fun j h => absurd h (by simp)) (fun i e j p h => by simp at h)
    · have hsz' : sz = i.size := by
        cases es with
        | nil => exact absurd rfl hes
        | cons e es => exact (hsz 0 e rfl).symm.trans (hse e (by simp))
      subst hsz'
      refine ⟨_, hK, hko, qdet hrun (.dat ?_) hNew⟩
      simpa using sub_dat hkz hl hh hc hm ha hsz hD hd
  have lows : ∀ h : Nat, h ≤ cap → qBd s lo' 0 (fun l => l ≤ h ∧ h ≤ es.length ∧ (∀ e ∈ es, e.length = i.size) ∧ K (.sl ((es.take h).drop l) (scO lo' (s.ev x')))) →
      (∀ l : Nat, l ≤ h → (match lo.map a.eval with | some v => Instr.sliceBound v h .sliceB | none => pure 0 : Sem Nat).run P w = .ok l w → (execOp a.eval o).run P w = .ok (.value (.slice (if cap = l then ad else ad.map (·.add (l * i.size))) (h - l) (cap - l))) w) → QS P o D ρ s a w K := by
    intro h hhc hq hrun
    cases lo with
    | none =>
      cases hlo
      exact fin 0 h hq (fun _ => rfl) (hrun 0 (Nat.zero_le _) (by simp))
    | some y =>
      simp only [poo, Option.map_eq_some_iff] at hlo
      obtain ⟨y', hy, rfl⟩ := hlo
      obtain ⟨j, n, e2, _, hn, hf⟩ := qInt_inv hq (hR.op hy (by simp [ho, Op.operands]))
      have hle : n ≤ h := by have := hf.1; omega
      exact fin n.toNat h hf (fun e => by cases e) (hrun n.toNat hf.1 (by simp [e2, Instr.sliceBound, asIntOf, hn, hle]))
  have hnot : (match P.underlying t with | some (.array _ _) => true | _ => false) = false := by rw [h1]
  cases hi with
  | none =>
    cases hhi
    refine lows es.length hc h4 fun l hl hs => ?_
    simp only [Option.map] at hs
    cases lo with
    | none =>
      have l0 : l = 0 := by simpa using hs.symm
      subst l0
      simp [execOp, ho, e1, Instr.sliceAt, Instr.slice, run_underlying h1, Instr.sliceBounds, sizeOf_run h3]
    | some y =>
      simp only at hs
      simp [execOp, ho, e1, Instr.sliceAt, Instr.slice, run_underlying h1, Instr.sliceBounds, sizeOf_run h3, hs]
  | some z =>
    simp only [poo, Option.map_eq_some_iff] at hhi
    obtain ⟨z', hz', rfl⟩ := hhi
    obtain ⟨j, n, e2, _, hn, h5⟩ := qInt_inv h4 (hR.op hz' (by simp [ho, Op.operands]))
    have hnc : n ≤ cap := by
      have : n.toNat ≤ es.length := by
        cases lo' with
        | none => exact h5.2.1
        | some y =>
          simp only [qBd, qInt] at h5
          split at h5
          · exact h5.2.2.1
          · exact h5.elim
      omega
    refine lows n.toNat (by omega) h5 fun l hl hs => ?_
    simp only [Option.map] at hs
    cases lo with
    | none =>
      have l0 : l = 0 := by simpa using hs.symm
      subst l0
      simp [execOp, ho, e1, e2, Instr.sliceAt, Instr.slice, run_underlying h1, Instr.sliceBounds, Instr.sliceBound, asIntOf, hn, hnc, sizeOf_run h3]
    | some y =>
      simp only at hs
      have hh : (Instr.sliceBound (.int j n) cap .sliceAcap).run P w = .ok n.toNat w := by simp [Instr.sliceBound, asIntOf, hn, hnc]
      simp [execOp, ho, e1, e2, Instr.sliceAt, Instr.slice, run_underlying h1, Instr.sliceBounds, hh, sizeOf_run h3, hs]
end

/-! ### Structs and slices that are built -/
/-- Cells of data. -/
def CellsD (D : Nat → Nat → Prop) (w : World) (vs : Array Value) (cs : List PV) : Prop :=
  vs.size = cs.length ∧ ∀ (i : Nat) p, cs[i]? = some p → Dat D w (vs.getD i undef) p ∧ (vs.getD i undef).oneCell' = true
theorem CellsR.data {u : Value} {cs : List PV} (h : CellsR D ρ nb w u cs) (hd : allD cs = true) : CellsD D w u.cells (cs.map PV.sh) := by
  refine ⟨by simpa using h.1, fun i p hp => ?_⟩
  simp only [List.getElem?_map, Option.map_eq_some_iff] at hp
  obtain ⟨q, hq, rfl⟩ := hp
  unfold allD at hd
  rw [List.all_eq_true] at hd
  exact ⟨((h.2 i q hq).1.data (hd q (List.mem_of_getElem? hq))).sh, (h.2 i q hq).2⟩
theorem splice_foldl (off : Nat) : ∀ (l : List Value) (k : Nat) (cells : Array Value), off + k + l.length ≤ cells.size →
    ((l.zipIdx k).foldl (fun (cs : Array Value) (c, j) => cs.setIfInBounds (off + j) c) cells).size = cells.size ∧
    ∀ i, ((l.zipIdx k).foldl (fun (cs : Array Value) (c, j) => cs.setIfInBounds (off + j) c) cells).getD i undef = if off + k ≤ i ∧ i < off + k + l.length then l.getD (i - (off + k)) undef else cells.getD i undef
  | [], k, cells, _ => ⟨rfl, fun i => by simp; intro h1 h2; omega⟩
  | v :: l, k, cells, h => by
    simp only [List.zipIdx_cons, List.foldl_cons]
    simp only [List.length_cons] at h
    obtain ⟨h1, h2⟩ := splice_foldl off l (k + 1) (cells.setIfInBounds (off + k) v) (by simp; omega)
    refine ⟨by rw [h1]; simp, fun i => ?_⟩
    rw [h2 i]
    by_cases e : i = off + k
    · subst e
      rw [if_neg (by omega), if_pos (by simp)]
      have : off + k < cells.size := by omega
      simp [this]
    · by_cases e2 : off + (k + 1) ≤ i ∧ i < off + (k + 1) + l.length
      · rw [if_pos e2, if_pos (by simp; omega)]
        obtain ⟨d, hd⟩ : ∃ d, i - (off + k) = d + 1 := ⟨i - (off + k) - 1, by omega⟩
        rw [hd, show i - (off + (k + 1)) = d from by omega]
        simp
      · rw [if_neg e2, if_neg (by simp; omega)]
        simp [Array.getElem?_setIfInBounds_ne (Ne.symm e)]
theorem spl_get (zs cs : List PV) (off i : Nat) (h : off + cs.length ≤ zs.length) : (spl zs cs off)[i]? = if off ≤ i ∧ i < off + cs.length then cs[i - off]? else zs[i]? := by
  unfold spl
  have ht : (zs.take off).length = off := by simp; omega
  by_cases h1 : i < off
  · rw [if_neg (by omega), List.append_assoc, List.getElem?_append_left (by omega), List.getElem?_take, if_pos h1]
  · by_cases h2 : i < off + cs.length
    · rw [if_pos (by omega), List.append_assoc, List.getElem?_append_right (by omega), List.getElem?_append_left (by omega), ht]
    · rw [if_neg (by omega), List.getElem?_append_right (by simp; omega), List.getElem?_drop]
      congr 1
      simp; omega
theorem spl_length (zs cs : List PV) (off : Nat) (h : off + cs.length ≤ zs.length) : (spl zs cs off).length = zs.length := by
  unfold spl; simp; omega
theorem splice_cells {vs us : Array Value} {zs cs : List PV} {off : Nat} (hz : CellsD D w vs zs) (hu : CellsD D w us cs) (h : off + cs.length ≤ zs.length) :
    CellsD D w (us.zipIdx.foldl (fun (cs : Array Value) (c, j) => cs.setIfInBounds (off + j) c) vs) (spl zs cs off) := by
  obtain ⟨h1, h2⟩ := splice_foldl off us.toList 0 vs (by simp [hz.1, hu.1]; omega)
  have e : us.zipIdx.foldl (fun (cs : Array Value) (c, j) => cs.setIfInBounds (off + j) c) vs = (us.toList.zipIdx 0).foldl (fun (cs : Array Value) (c, j) => cs.setIfInBounds (off + j) c) vs := by
    rw [← Array.foldl_toList, Array.toList_zipIdx]
  rw [e]
  refine ⟨by rw [h1, spl_length _ _ _ h]; exact hz.1, fun i p hp => ?_⟩
  rw [spl_get _ _ _ _ h] at hp
  rw [h2 i]
  have hl : us.toList.length = cs.length := by simpa using hu.1
  simp only [Nat.add_zero]
  by_cases hi : off ≤ i ∧ i < off + cs.length
  · rw [if_pos hi] at hp
    rw [if_pos (by omega)]
    have := hu.2 _ _ hp
    have e2 : us.toList.getD (i - off) undef = us.getD (i - off) undef := by simp
    rw [e2]; exact this
  · rw [if_neg hi] at hp
    rw [if_neg (by omega)]
    exact hz.2 _ _ hp
/-- The parts of a struct or an array, one after the other. -/
theorem fill_rel (place : Nat → Option (Nat × Nat)) {K : List PV → Prop} : ∀ (parts : List (Nat × Operand)) (ps : List (Nat × Nat × PO)) (vs : Array Value) (zs : List PV), ps.length = parts.length →
    (∀ (k : Nat) i x, parts[k]? = some (i, x) → ∃ off n x', ps[k]? = some (off, n, x') ∧ place i = some (off, n) ∧ Rel D ρ nb w (a.eval x) (s.ev x')) →
    CellsD D w vs zs → qParts s ps zs K → ∃ vs' cs, Instr.fill place vs (parts.map fun (i, x) => (i, a.eval x)) = some vs' ∧ CellsD D w vs' cs ∧ K cs
  | [], [], vs, zs, _, _, hz, hq => ⟨vs, zs, rfl, hz, hq⟩
  | [], _ :: _, _, _, h, _, _, _ => by cases h
  | _ :: _, [], _, _, h, _, _, _ => by cases h
  | (i, x) :: parts, (off, n, x') :: ps, vs, zs, hl, hp, hz, hq => by
    obtain ⟨off', n', x'', e1, e2, e3⟩ := hp 0 i x rfl
    simp at e1
    obtain ⟨rfl, rfl, rfl⟩ := e1
    simp only [qParts] at hq
    obtain ⟨cs, ⟨h1, h2, h3, h4⟩, h5⟩ := qCells_inv hq e3
    have h6 := h5.data h3
    obtain ⟨vs', cs', g1, g2, g3⟩ := fill_rel place parts ps _ _ (by simpa using hl) (fun k i x hk => by simpa using hp (k + 1) i x (by simpa using hk)) (splice_cells (off := off) hz h6 (by simp; omega)) h4
    refine ⟨vs', cs', ?_, g2, g3⟩
    simp only [List.map_cons, Instr.fill, e2]
    rw [if_neg]
    · exact g1
    · have := h5.1
      have := hz.1
      simp; omega
theorem zeroP_some {t : TypeId} {zs : List PV} (h : zeroP P t = some zs) : ∃ i z, P.info? t = some i ∧ i.zero = some z ∧ zs = z.cells.toList.map ofC ∧ (∀ v ∈ z.cells.toList, v.oneCell' = true) := by
  unfold zeroP at h
  simp only [Option.bind_eq_some_iff] at h
  obtain ⟨i, hi, z, hz, h⟩ := h
  split at h
  · rename_i hall
    cases h
    rw [List.all_eq_true] at hall
    exact ⟨i, z, hi, hz, rfl, hall⟩
  · cases h
theorem zero_cells {z : Value} (h : ∀ v ∈ z.cells.toList, v.oneCell' = true) : CellsD D w z.cells (z.cells.toList.map ofC) := by
  refine ⟨by simp, fun i p hp => ?_⟩
  simp only [List.getElem?_map, Option.map_eq_some_iff] at hp
  obtain ⟨v, hv, rfl⟩ := hp
  have hm : v ∈ z.cells.toList := List.mem_of_getElem? hv
  have e : z.cells.getD i undef = v := by simp at hv; simp [hv]
  rw [e]
  exact ⟨ofC_dat D w v, h v hm⟩
theorem CellsD.agg {vs : Array Value} {cs : List PV} (h : CellsD D w vs cs) : Dat D w (.agg vs) (.agg cs) :=
  .agg _ _ h.1 (fun i hi => (h.2 i _ (List.getElem?_eq_getElem hi)).2) fun i p hp => (h.2 i p hp).1
theorem partsS_some {fs : Array Field} : ∀ {l : List (Nat × Operand)} {ps : List (Nat × Nat × PO)}, partsS P fs l = some ps → ps.length = l.length ∧ ∀ (k : Nat) i x, l[k]? = some (i, x) → ∃ f n x', fs[i]? = some f ∧ P.info? f.type = some n ∧ ps[k]? = some (f.offset, n.size, x') ∧ po x = some x'
  | [], ps, h => by cases h; exact ⟨rfl, fun k i x h => by simp at h⟩
  | (i, x) :: r, ps, h => by
    simp only [partsS, Option.bind_eq_some_iff, Option.map_eq_some_iff] at h
    obtain ⟨f, hf, n, hn, y, hy, l, hl, rfl⟩ := h
    obtain ⟨h1, h2⟩ := partsS_some hl
    refine ⟨by simp [h1], fun k j z hz => ?_⟩
    cases k with
    | zero => simp at hz; obtain ⟨rfl, rfl⟩ := hz; exact ⟨f, n, y, hf, hn, rfl, hy⟩
    | succ k => simpa using h2 k j z (by simpa using hz)
theorem partsA_some {sz : Nat} : ∀ {l : List (Nat × Operand)} {ps : List (Nat × Nat × PO)}, partsA sz l = some ps → ps.length = l.length ∧ ∀ (k : Nat) i x, l[k]? = some (i, x) → ∃ x', ps[k]? = some (i * sz, sz, x') ∧ po x = some x'
  | [], ps, h => by cases h; exact ⟨rfl, fun k i x h => by simp at h⟩
  | (i, x) :: r, ps, h => by
    simp only [partsA, Option.bind_eq_some_iff, Option.map_eq_some_iff] at h
    obtain ⟨y, hy, l, hl, rfl⟩ := h
    obtain ⟨h1, h2⟩ := partsA_some hl
    refine ⟨by simp [h1], fun k j z hz => ?_⟩
    cases k with
    | zero => simp at hz; obtain ⟨rfl, rfl⟩ := hz; exact ⟨y, rfl, hy⟩
    | succ k => simpa using h2 k j z (by simpa using hz)
section
variable {K : PV → Prop} (hR : Rd D ρ s (slt a) (rdsO o) w)
include hR
theorem q_bdS {t : TypeId} {parts : Array (Nat × Operand)} {fs : Array Field} {zs : List PV} {ps : List (Nat × Nat × PO)} (ho : o.op = .build t parts) (h1 : P.underlying t = some (.struct fs)) (hz : zeroP P t = some zs) (hall : ∀ f ∈ fs.toList, (P.info? f.type).isSome = true)
    (hp : partsS P fs parts.toList = some ps) (hk : PK.q P s (.bd zs ps) K) : QS P o D ρ s a w K := by
  simp only [PK.q] at hk
  obtain ⟨i, z, g1, g2, rfl, g4⟩ := zeroP_some hz
  obtain ⟨l1, l2⟩ := partsS_some hp
  obtain ⟨places, hpl, hget⟩ : ∃ places, fs.toList.mapM (fun f => (P.info? f.type).map fun i => (f.offset, i.size)) = some places ∧ ∀ (i : Nat) f n, fs.toList[i]? = some f → P.info? f.type = some n → places[i]? = some (f.offset, n.size) := by
    revert hall
    induction fs.toList with
    | nil => intro _; exact ⟨[], rfl, fun i f n h => by simp at h⟩
    | cons f l ih =>
      intro hall
      obtain ⟨pl, e1, e2⟩ := ih fun f hf => hall f (by simp [hf])
      have := hall f (by simp)
      obtain ⟨n, hn⟩ := Option.isSome_iff_exists.1 this
      refine ⟨(f.offset, n.size) :: pl, by simp [List.mapM_cons, hn, e1], fun i f' n' hf hn' => ?_⟩
      cases i with
      | zero => simp at hf; subst hf; rw [hn] at hn'; cases hn'; rfl
      | succ i => simpa using e2 i f' n' (by simpa using hf) hn'
  obtain ⟨vs', cs, f1, f2, f3⟩ := fill_rel (D := D) (ρ := ρ) (nb := s.b.length) (w := w) (a := a) (s := s) (places.toArray[·]?) parts.toList ps z.cells _ l1 (fun k i x hkk => by
    obtain ⟨f, n, x', e1, e2, e3, e4⟩ := l2 k i x hkk
    refine ⟨f.offset, n.size, x', e3, by simpa using hget i f n (by simpa using e1) e2, hR.op e4 ?_⟩
    simp only [ho, Op.operands, List.mem_map]
    exact ⟨(i, x), List.mem_of_getElem? hkk, rfl⟩) (zero_cells g4) hk
  refine .det (u := .agg vs') ?_ (.dat f2.agg) f3 rfl
  have hb : P.built t (parts.map fun (i, x) => (i, a.eval x)).toList = some vs' := by
    unfold Program.built
    simp only [g1, h1, g2, hpl]
    rw [Array.toList_map]
    exact f1
  simp only [execOp, ho, Sem.run_bind, run_build w t _ vs' hb, Result.andThen_ok]
  rfl
theorem q_bdA {t e : TypeId} {n : Nat} {parts : Array (Nat × Operand)} {ie : TypeInfo} {zs : List PV} {ps : List (Nat × Nat × PO)} (ho : o.op = .build t parts) (h1 : P.underlying t = some (.array n e)) (h3 : P.info? e = some ie) (hz : zeroP P t = some zs)
    (hp : partsA ie.size parts.toList = some ps) (hk : PK.q P s (.bd zs ps) K) : QS P o D ρ s a w K := by
  simp only [PK.q] at hk
  obtain ⟨i, z, g1, g2, rfl, g4⟩ := zeroP_some hz
  obtain ⟨l1, l2⟩ := partsA_some hp
  obtain ⟨vs', cs, f1, f2, f3⟩ := fill_rel (D := D) (ρ := ρ) (nb := s.b.length) (w := w) (a := a) (s := s) (fun i => some (i * ie.size, ie.size)) parts.toList ps z.cells _ l1 (fun k i x hkk => by
    obtain ⟨x', e3, e4⟩ := l2 k i x hkk
    refine ⟨_, _, x', e3, rfl, hR.op e4 ?_⟩
    simp only [ho, Op.operands, List.mem_map]
    exact ⟨(i, x), List.mem_of_getElem? hkk, rfl⟩) (zero_cells g4) hk
  refine .det (u := .agg vs') ?_ (.dat f2.agg) f3 rfl
  have hb : P.built t (parts.map fun (i, x) => (i, a.eval x)).toList = some vs' := by
    unfold Program.built
    simp only [g1, h1, g2, h3]
    rw [Array.toList_map]
    exact f1
  simp only [execOp, ho, Sem.run_bind, run_build w t _ vs' hb, Result.andThen_ok]
  rfl
end

/-! ### A slice that is built -/
/-- The cells of elements, one behind the other. -/
def RowD (D : Nat → Nat → Prop) (w : World) (sz : Nat) (vs : List Value) (es : List (List PV)) : Prop :=
  vs.length = es.length * sz ∧ (∀ (i : Nat) (e : List PV), es[i]? = some e → e.length = sz) ∧ (∀ j, j < vs.length → (vs.getD j undef).oneCell' = true) ∧ ∀ (i : Nat) (e : List PV) (j : Nat) (p : PV), es[i]? = some e → e[j]? = some p → Dat D w (vs.getD (i * sz + j) undef) p
theorem RowD.mono {D' : Nat → Nat → Prop} {w' : World} {sz : Nat} {vs : List Value} {es : List (List PV)} (h : RowD D w sz vs es) (hD : ∀ b o, D b o → D' b o) (hw : ∀ b o x, D b o → w.cell? ⟨b, o, none⟩ = some x → w'.cell? ⟨b, o, none⟩ = some x) : RowD D' w' sz vs es :=
  ⟨h.1, h.2.1, h.2.2.1, fun i e j p h1 h2 => (h.2.2.2 i e j p h1 h2).mono hD hw⟩
theorem RowD.append {sz : Nat} {vs us : List Value} {es fs : List (List PV)} (h : RowD D w sz vs es) (k : RowD D w sz us fs) : RowD D w sz (vs ++ us) (es ++ fs) := by
  have hl : es.length * sz = vs.length := h.1.symm
  refine ⟨by simp [h.1, k.1, Nat.add_mul], fun i e he => ?_, fun j hj => ?_, fun i e j p he hp => ?_⟩
  · rcases Nat.lt_or_ge i es.length with hi | hi
    · rw [List.getElem?_append_left hi] at he; exact h.2.1 i e he
    · rw [List.getElem?_append_right hi] at he; exact k.2.1 _ e he
  · rw [List.getD_eq_getElem?_getD]
    rcases Nat.lt_or_ge j vs.length with hi | hi
    · rw [List.getElem?_append_left hi, ← List.getD_eq_getElem?_getD]; exact h.2.2.1 j hi
    · rw [List.getElem?_append_right hi, ← List.getD_eq_getElem?_getD]; exact k.2.2.1 _ (by simp at hj; omega)
  · rw [List.getD_eq_getElem?_getD]
    rcases Nat.lt_or_ge i es.length with hi | hi
    · rw [List.getElem?_append_left hi] at he
      have hlen := h.2.1 i e he
      have hj : j < sz := by rw [← hlen]; exact (List.getElem?_eq_some_iff.1 hp).1
      rw [List.getElem?_append_left (by rw [← hl]; exact sub_lt hi hj), ← List.getD_eq_getElem?_getD]
      exact h.2.2.2 i e j p he hp
    · rw [List.getElem?_append_right hi] at he
      have h2 : vs.length ≤ i * sz + j := by rw [← hl]; exact Nat.le_trans (Nat.mul_le_mul_right _ hi) (by omega)
      rw [List.getElem?_append_right h2, ← List.getD_eq_getElem?_getD]
      have := k.2.2.2 _ e j p he hp
      rw [Nat.sub_mul] at this
      rw [show i * sz + j - vs.length = i * sz - es.length * sz + j from by rw [hl]; have := Nat.mul_le_mul_right sz hi; omega]
      exact this
/-- A slice whose row starts at its head. -/
theorem row_dat {sz b cap : Nat} {vs : List Value} {es : List (List PV)} {cs : Array Value} {e : TypeId} {fr : Nat × Nat} {k : Ow} (h : RowD D w sz vs es) (hh : w.heap[b]? = some (.cells cs e fr)) (ht : ∀ j, j < vs.length → cs[j]? = some (vs.getD j undef))
    (hc : es.length ≤ cap) (hm : cap ≤ maxLen) (hk : k = .z → cap = es.length) (hD : ∀ j, j < vs.length → D b j) : Dat D w (.slice (some ⟨b, 0, none⟩) es.length cap) (.sl es k) :=
  .sl _ _ sz _ _ b 0 (fun j => vs.getD j undef) hc hk hm (fun _ => rfl) h.2.1 (fun j hj => by
    rw [← h.1] at hj
    refine ⟨by simpa using hD j hj, ?_, h.2.2.1 j hj⟩
    simp only [World.cell?, hh, Nat.zero_add]
    simpa using ht j hj) h.2.2.2
theorem elems_rel {sz : Nat} {K : List (List PV) → Prop} : ∀ (l : List Operand) (ps : List PO), pos l = some ps → (∀ x ∈ l, ∀ x', po x = some x' → Rel D ρ nb w (a.eval x) (s.ev x')) → qElems s sz ps K →
    ∃ es, K es ∧ es.length = l.length ∧ RowD D w sz (l.flatMap fun x => (a.eval x).cells.toList) es ∧ ∀ x ∈ l, (a.eval x).cells.size = sz
  | [], ps, h, _, hq => by cases h; exact ⟨[], hq, rfl, ⟨by simp, fun i e h => by simp at h, fun j h => by simp at h, fun i e j p h => by simp at h⟩, by simp⟩
  | x :: l, ps, h, hr, hq => by
    simp only [pos, Option.bind_eq_some_iff, Option.map_eq_some_iff] at h
    obtain ⟨x', hx, ps', hps, rfl⟩ := h
    simp only [qElems] at hq
    obtain ⟨cs, ⟨h1, h2, h3⟩, h4⟩ := qCells_inv hq (hr x (by simp) x' hx)
    obtain ⟨es, g1, g2, g3, g4⟩ := elems_rel l ps' hps (fun y hy => hr y (by simp [hy])) h3
    have h5 := h4.data h2
    have hsz : (a.eval x).cells.size = sz := by rw [h4.1]; exact h1
    refine ⟨_, g1, by simp [g2], ?_, fun y hy => ?_⟩
    · have one : RowD D w sz (a.eval x).cells.toList [cs.map PV.sh] := by
        refine ⟨by simpa using hsz, fun i e he => ?_, fun j hj => ?_, fun i e j p he hp => ?_⟩
        · have : i = 0 := by have := (List.getElem?_eq_some_iff.1 he).1; simpa using this
          subst this; simp at he; subst he; simpa using h1
        · have hj' : j < cs.length := by rw [h1, ← hsz]; simpa using hj
          have := (h4.2 j _ (List.getElem?_eq_getElem hj')).2
          simpa using this
        · have : i = 0 := by have := (List.getElem?_eq_some_iff.1 he).1; simpa using this
          subst this; simp at he; subst he
          have := (h5.2 j p hp).1
          simpa using this
      have := one.append g3
      simpa using this
    · rcases List.mem_cons.1 hy with rfl | hy
      · exact hsz
      · exact g4 y hy
/-- Cells laid one behind the other over a row. -/
theorem fill_row {sz : Nat} : ∀ (l : List Value) (k : Nat) (done : List Value) (cells : Array Value), (∀ v ∈ l, v.cells.size = sz) → done.length = k * sz → cells.size = (k + l.length) * sz → (∀ j, j < done.length → cells[j]? = some (done.getD j undef)) →
    ∃ cells', Instr.fill (fun i => some (i * sz, sz)) cells (l.zipIdx k |>.map fun (v, i) => (i, v)) = some cells' ∧ cells'.toList = done ++ l.flatMap fun v => v.cells.toList
  | [], k, done, cells, _, h2, h3, h4 => by
    refine ⟨cells, rfl, ?_⟩
    simp only [List.flatMap_nil, List.append_nil]
    apply List.ext_getElem?
    intro j
    rcases Nat.lt_or_ge j done.length with hj | hj
    · have := h4 j hj
      rw [List.getElem?_eq_getElem hj]
      simpa [List.getD_eq_getElem?_getD, List.getElem?_eq_getElem hj] using this
    · rw [List.getElem?_eq_none hj, List.getElem?_eq_none (by simp [h3]; simp at h3; omega)]
  | v :: l, k, done, cells, h1, h2, h3, h4 => by
    have hv := h1 v (by simp)
    simp only [List.length_cons] at h3
    have hle : k * sz + sz ≤ cells.size := by
      rw [h3, ← Nat.succ_mul]; exact Nat.mul_le_mul_right _ (by omega)
    obtain ⟨f1, f2⟩ := splice_foldl (k * sz) v.cells.toList 0 cells (by simp [hv]; omega)
    have e : v.cells.zipIdx.foldl (fun (cs : Array Value) (c, j) => cs.setIfInBounds (k * sz + j) c) cells = (v.cells.toList.zipIdx 0).foldl (fun (cs : Array Value) (c, j) => cs.setIfInBounds (k * sz + j) c) cells := by
      rw [← Array.foldl_toList, Array.toList_zipIdx]
    rw [← e] at f1 f2
    obtain ⟨cells2, hc2⟩ : ∃ c, v.cells.zipIdx.foldl (fun (cs : Array Value) (c, j) => cs.setIfInBounds (k * sz + j) c) cells = c := ⟨_, rfl⟩
    rw [hc2] at f1 f2
    obtain ⟨cells', g1, g2⟩ := fill_row l (k + 1) (done ++ v.cells.toList) cells2 (fun u hu => h1 u (by simp [hu])) (by simp [h2, hv, Nat.add_mul]) (by rw [f1, h3]; congr 1; omega) (fun j hj => by
      have hj2 : j < cells2.size := by rw [f1]; simp [h2, hv] at hj; omega
      have hg := f2 j
      rw [Array.getD_eq_getD_getElem?, Array.getElem?_eq_getElem hj2, Option.getD_some] at hg
      rw [Array.getElem?_eq_getElem hj2, hg]
      congr 1
      simp only [Nat.add_zero]
      rw [List.getD_eq_getElem?_getD (l := done ++ _)]
      rcases Nat.lt_or_ge j done.length with hd | hd
      · rw [if_neg (by omega), List.getElem?_append_left hd, ← List.getD_eq_getElem?_getD, Array.getD_eq_getD_getElem?, h4 j hd]; rfl
      · rw [if_pos (by simp [hv]; simp [hv] at hj; omega), List.getElem?_append_right hd, List.getD_eq_getElem?_getD, h2])
    refine ⟨cells', ?_, by rw [g2]; simp⟩
    simp only [List.zipIdx_cons, List.map_cons, Instr.fill]
    rw [if_neg (by simp [hv]; omega), hc2]
    exact g1
section
variable {K : PV → Prop} (hR : Rd D ρ s (slt a) (rdsO o) w)
include hR
theorem bs_core {t e : TypeId} {n : Nat} {parts : Array (Nat × Operand)} {ie : TypeInfo} {zs : List PV} {ps : List PO} (ho : o.op = .buildSlice t n parts) (h1 : P.underlying t = some (.slice e)) (h3 : P.info? e = some ie) (hz : zeroP P e = some zs)
    (hp : pos (parts.toList.map (·.2)) = some ps) (hi : parts.toList.map (·.1) = List.range n) (hn : n * ie.size ≤ 16777216) (hmx : n ≤ maxLen) {K' : List (List PV) → Prop} (hk : qElems s ie.size ps K') :
    ∃ (es : List (List PV)) (cells' : Array Value), K' es ∧ es.length = n ∧ (execOp a.eval o).run P w = .ok (.value (.slice (some ⟨w.heap.size, 0, none⟩) n n)) (w.alloc (.cells cells' e)) ∧ RowD D w ie.size cells'.toList es ∧ ∀ j, j < cells'.toList.length → cells'[j]? = some (cells'.toList.getD j undef) := by
  obtain ⟨i, z, g1, g2, rfl, g4⟩ := zeroP_some hz
  rw [h3] at g1; cases g1
  have hlen : parts.toList.length = n := by have := congrArg List.length hi; simpa using this
  obtain ⟨es, k1, k2, k3, k4⟩ := elems_rel (D := D) (ρ := ρ) (nb := s.b.length) (w := w) (a := a) (s := s) _ _ hp (fun x hx x' hx' => hR.op hx' (by simpa [ho, Op.operands] using hx)) hk
  have hpl : parts.toList.map (fun (i, x) => (i, a.eval x)) = ((parts.toList.map fun y => a.eval y.2).zipIdx 0).map fun (v, i) => (i, v) := by
    apply List.ext_getElem?
    intro j
    rcases Nat.lt_or_ge j parts.toList.length with hj | hj
    · have h5 : (parts.toList.map (·.1))[j]? = (List.range n)[j]? := by rw [hi]
      rw [List.getElem?_map, List.getElem?_eq_getElem hj, List.getElem?_range (by omega)] at h5
      simp at h5
      simp [List.getElem?_eq_getElem hj, List.getElem?_zipIdx]
      have hj' : j < parts.size := by simpa using hj
      simp [hj', h5]
    · rw [List.getElem?_eq_none (by simpa using hj), List.getElem?_eq_none (by simpa using hj)]
  have hel : es.length = n := by rw [k2]; simpa using hlen
  have hfill : ∀ c0 : Array Value, c0.size = n * ie.size → ∃ cells', Instr.fill (fun i => some (i * ie.size, ie.size)) c0 (parts.toList.map fun (i, x) => (i, a.eval x)) = some cells' ∧ cells'.toList = (parts.toList.map fun y => a.eval y.2).flatMap fun v => v.cells.toList := fun c0 hc0 => by
    obtain ⟨c', e1, e2⟩ := fill_row (sz := ie.size) (parts.toList.map fun y => a.eval y.2) 0 [] c0 (fun v hv => by
      simp only [List.mem_map] at hv
      obtain ⟨y, hy, rfl⟩ := hv
      exact k4 _ (List.mem_map.2 ⟨y, hy, rfl⟩)) (by simp) (by rw [hc0]; simp only [List.length_map, hlen, Nat.zero_add]) (fun j hj => by simp at hj)
    rw [← hpl] at e1
    exact ⟨c', e1, by simpa using e2⟩
  have fin : ∀ cells' : Array Value, cells'.toList = ((parts.toList.map fun y => a.eval y.2).flatMap fun v => v.cells.toList) → (execOp a.eval o).run P w = .ok (.value (.slice (some ⟨w.heap.size, 0, none⟩) n n)) (w.alloc (.cells cells' e)) →
      ∃ (es : List (List PV)) (cells' : Array Value), K' es ∧ es.length = n ∧ (execOp a.eval o).run P w = .ok (.value (.slice (some ⟨w.heap.size, 0, none⟩) n n)) (w.alloc (.cells cells' e)) ∧ RowD D w ie.size cells'.toList es ∧ ∀ j, j < cells'.toList.length → cells'[j]? = some (cells'.toList.getD j undef) := by
    intro cells' f2 hr
    have hfl : (List.map (fun x => x.snd) parts.toList).flatMap (fun x => (a.eval x).cells.toList) = cells'.toList := by rw [f2]; simp [List.flatMap_map]
    rw [hfl] at k3
    have hget : ∀ j, j < cells'.toList.length → cells'[j]? = some (cells'.toList.getD j undef) := fun j hj => by
      have hj' : j < cells'.size := by simpa using hj
      simp [hj']
    exact ⟨es, cells', k1, hel, hr, k3, hget⟩
  by_cases h0 : n * ie.size = 0
  · obtain ⟨cells', f1, f2⟩ := hfill ((Array.range (n * ie.size)).map fun x => (#[] : Array Value)[x % (#[] : Array Value).size]!) (by simp)
    refine fin cells' f2 ?_
    have hn' : ¬ (16777216 < n * ie.size) := by omega
    rw [← Array.toList_map] at f1
    simp [execOp, ho, Instr.buildSlice, run_underlying h1, sizeOf_run h3, hn', h0, newRow] at f1 ⊢
    simp [f1]
  · obtain ⟨cells', f1, f2⟩ := hfill ((Array.range (n * ie.size)).map fun x => z.cells[x % z.cells.size]!) (by simp)
    refine fin cells' f2 ?_
    have hn' : ¬ (16777216 < n * ie.size) := by omega
    rw [← Array.toList_map] at f1
    have hzv : (zeroValue e).run P w = .ok z w := by simp [zeroValue, typeInfo, h3, g2]
    have h0' : ¬ (n = 0 ∨ ie.size = 0) := by rw [← Nat.mul_eq_zero]; exact h0
    simp [execOp, ho, Instr.buildSlice, run_underlying h1, sizeOf_run h3, hn', h0', hzv, newRow] at f1 ⊢
    simp [f1]
    exact fun h => absurd h h0
theorem q_bs {t e : TypeId} {n : Nat} {parts : Array (Nat × Operand)} {ie : TypeInfo} {zs : List PV} {ps : List PO} (ho : o.op = .buildSlice t n parts) (h1 : P.underlying t = some (.slice e)) (h3 : P.info? e = some ie) (hz : zeroP P e = some zs)
    (hp : pos (parts.toList.map (·.2)) = some ps) (hi : parts.toList.map (·.1) = List.range n) (hn : n * ie.size ≤ 16777216) (hmx : n ≤ maxLen) (hk : PK.q P s (.bs ie.size ps) K) : QS P o D ρ s a w K := by
  simp only [PK.q] at hk
  obtain ⟨es, cells', k1, hel, hr, k3, hget⟩ := bs_core hR ho h1 h3 hz hp hi hn hmx hk
  have hb : Below w.heap.size w (w.alloc (.cells cells' e)) := (Below.refl _ _).alloc (Nat.le_refl _) _
  have k5 := k3.mono (D' := fun b o => D b o ∨ w.heap.size ≤ b) (w' := w.alloc (.cells cells' e)) (fun _ _ h => .inl h) fun b o x _ hx => below_cell hb (cell_lt hx) hx
  refine ⟨_, k1, rfl, qnew hr hb (.dat ?_) fun _ _ _ => trivial⟩
  have := row_dat (cap := n) (k := .z) (e := e) (fr := (0, 0)) k5 (World.alloc_heap_new w (.cells cells' e)) hget (by omega) hmx (fun _ => by omega) (fun j _ => .inr (Nat.le_refl _))
  rw [hel] at this; exact this
end

/-! ### Calls and appends -/
section
variable {K : PV → Prop} (hR : Rd D ρ s (slt a) (rdsO o) w)
include hR
/-- The values of operands that are data. -/
theorem args_dat {xs : List Operand} {ps : List PO} (hp : pos xs = some ps) (hm : ∀ x ∈ xs, x ∈ o.op.operands.toList) (hd : allD (ps.map fun x => (s.ev x).sh) = true) :
    ps.length = xs.length ∧ ∀ (i : Nat) p, (ps.map fun x => (s.ev x).sh)[i]? = some p → Dat D w ((xs.map a.eval).getD i undef) p := by
  obtain ⟨h1, h2⟩ := pos_some hp
  refine ⟨h1, fun i p hp => ?_⟩
  have hp0 := hp
  simp only [List.getElem?_map, Option.map_eq_some_iff] at hp
  obtain ⟨x', hx', rfl⟩ := hp
  have hi : i < xs.length := by rw [← h1]; exact (List.getElem?_eq_some_iff.1 hx').1
  obtain ⟨y', hy', hpo⟩ := h2 i _ (List.getElem?_eq_getElem hi)
  rw [hx'] at hy'
  cases hy'
  have e : (xs.map a.eval).getD i undef = a.eval xs[i] := by simp [hi]
  rw [e]
  unfold allD at hd
  rw [List.all_eq_true] at hd
  exact ((hR.op hpo (hm _ (List.getElem_mem hi))).data (by have := hd _ (List.mem_of_getElem? hp0); rwa [PV.sh_isD] at this)).sh
omit hR in
/-- A call whose contract is known. -/
theorem call_ok {f : FuncId} {ps : List PV} {r : PV} {vs : Array Value} (hgl : GL D w) (hC : Cn P f ps r) (hsz : vs.size = ps.length) (hd : ∀ (i : Nat) p, ps[i]? = some p → Dat D w (vs.getD i undef) p) (hr : (execOp a.eval o).run P w = .ok (.enter f vs) w) :
    ∀ (next : Act → World → Prop) (Q : Exit → Act → World → Prop), (∀ u w' D', Below w.heap.size w w' → (∀ b o, D b o ∧ b < w.heap.size → D' b o) → (∀ b o, D' b o → (D b o ∧ b < w.heap.size) ∨ w.heap.size ≤ b) → (∀ b o, D' b o → b < w'.heap.size) → Dat D' w' u r → OwnOk D' (fun k => w.heap.size ≤ k) w' u r → next (a.put o.dst u) w') → o.wp P a w next Q := by
  intro next Q hn
  show o.upon P a next Q ((execOp a.eval o).run P w)
  rw [hr, Oper.upon_enter]
  have hd' : ∀ (i : Nat) p, ps[i]? = some p → Dat (fun b o => D b o ∧ b < w.heap.size) w (vs.getD i undef) p := fun i p hp => (hd i p hp).restrict
  refine (hC.2 _ w vs (fun x hx => ⟨⟨(hgl x hx).1, World.block_lt_of_cell? w ⟨0, 0, _⟩ (hgl x hx).2⟩, (hgl x hx).2⟩) (fun b o h => h.2) hsz hd').mono ?_
  rintro e w' ⟨v, D', rfl, hb, h1, h2, h3, h4, h5⟩
  exact hn v w' D' hb h1 h2 h3 h4 h5
omit hR in
theorem call_q {f : FuncId} {ps : List PV} {r : PV} {vs : Array Value} (hgl : GL D w) (hC : Cn P f ps r) (hsz : vs.size = ps.length) (hd : ∀ (i : Nat) p, ps[i]? = some p → Dat D w (vs.getD i undef) p) (hr : (execOp a.eval o).run P w = .ok (.enter f vs) w) (hk : K r.strip) : QS P o D ρ s a w K := by
  refine ⟨r.strip, hk, r.strip_own, fun next Q hn => call_ok hgl hC hsz hd hr next Q fun u w' D' hb h1 h2 h3 h4 h5 => hn u w' hb ?_ fun _ _ _ => newOk_of r.strip_isN⟩
  refine (Rel.dat h4.strip).mono (fun b o h => ?_) (fun _ _ _ _ h => h) (Nat.le_refl _) fun _ _ => rfl
  rcases h2 b o h with h' | h'
  · exact .inl h'.1
  · exact .inr h'
omit hR in
theorem ca_run {f : FuncId} {xs : List Operand} {c : Call} (ho : o.op = .call c) (hc : c.callee = .value (.func f)) (ha : c.args.toList = xs) (he : ∀ args w, (callFunc f args).run P w = .ok (.enter f args) w) :
    (execOp a.eval o).run P w = .ok (.enter f (xs.map a.eval).toArray) w := by
  have e : c.args.map a.eval = (xs.map a.eval).toArray := Array.toList_inj.1 (by rw [Array.toList_map, ha])
  have e2 : a.eval (.func f) = .func (.func f) #[] #[] := rfl
  simp only [execOp, ho, resolve, hc, e, e2, Deferred.ofValue, Sem.run_bind, Sem.run_pure, Result.andThen_ok, invoke]
  rw [show (#[] ++ (xs.map a.eval).toArray ++ #[] : Array Value) = (xs.map a.eval).toArray from by simp]
  exact he _ _
theorem q_ca {f : FuncId} {xs : List Operand} {ps : List PO} {c : Call} (ho : o.op = .call c) (hc : c.callee = .value (.func f)) (ha : c.args.toList = xs) (hp : pos xs = some ps) (hk : PK.q P s (.ca f ps) K) : QS P o D ρ s a w K := by
  simp only [PK.q] at hk
  obtain ⟨r, hC, hd, hk⟩ := hk
  obtain ⟨h1, h2⟩ := args_dat hR hp (fun x hx => by rw [ho]; simp only [Op.operands, Call.operands, hc, Array.toList_append, List.mem_append, ha]; exact .inr hx) hd
  refine call_q hR.gl hC (by simp [h1]) (fun i p hp => ?_) (ca_run ho hc ha hC.1) hk
  have := h2 i p hp
  simpa using this
theorem q_cl {t : Tmp} {xs : List Operand} {ps : List PO} {c : Call} (ho : o.op = .call c) (hc : c.callee = .value (.tmp t)) (ha : c.args.toList = xs) (hp : pos xs = some ps) (hk : PK.q P s (.cl (.t t) ps) K) : QS P o D ρ s a w K := by
  simp only [PK.q] at hk
  have hf := hR.op (y := .tmp t) (y' := .t t) rfl (by rw [ho]; simp [Op.operands, Call.operands, hc])
  split at hk
  · rename_i f fs cs e
    rw [e] at hf
    obtain ⟨r, hC, hd, hk⟩ := hk
    have hdl : fs.all PV.isD = true ∧ allD (ps.map fun x => (s.ev x).sh) = true ∧ cs.all PV.isD = true := by
      unfold allD at hd ⊢
      simp only [List.all_append, Bool.and_eq_true] at hd
      exact ⟨hd.1.1, hd.1.2, hd.2⟩
    obtain ⟨h1, h2⟩ := args_dat hR hp (fun x hx => by rw [ho]; simp only [Op.operands, Call.operands, hc, Array.toList_append, List.mem_append, ha]; exact .inr hx) hdl.2.1
    have hfd : ∃ va vb, a.eval (.tmp t) = .func (.func f) va vb ∧ va.size = fs.length ∧ vb.size = cs.length ∧ (∀ (i : Nat) p, fs[i]? = some p → Dat D w (va.getD i undef) p) ∧ (∀ (i : Nat) p, cs[i]? = some p → Dat D w (vb.getD i undef) p) := by
      have hisD : (PV.fn (.func f) fs cs).isD = true := by
        have key : ∀ l : List PV, l.all PV.isD = true → l.all (fun p => !p.isB) = true := fun l h => by
          rw [List.all_eq_true] at h ⊢
          intro p hp
          have := h p hp
          cases p <;> first | rfl | cases this
        simp only [PV.isD, key _ hdl.1, key _ hdl.2.2, Bool.and_self]
      have := hf.data hisD
      generalize a.eval (.tmp t) = z at this ⊢
      cases this with
      | fn f va vb fs cs h1 h2 h3 h4 => exact ⟨va, vb, rfl, h1, h2, h3, h4⟩
    obtain ⟨va, vb, ef, s1, s2, d1, d2⟩ := hfd
    have er : (execOp a.eval o).run P w = .ok (.enter f (va ++ (xs.map a.eval).toArray ++ vb)) w := by
      have e : c.args.map a.eval = (xs.map a.eval).toArray := Array.toList_inj.1 (by rw [Array.toList_map, ha])
      simp only [execOp, ho, resolve, hc, e, ef, Deferred.ofValue, Sem.run_bind, Sem.run_pure, Result.andThen_ok, invoke]
      exact hC.1 _ _
    refine call_q hR.gl hC (by simp [h1, s1, s2]) (fun i p hp => ?_) er hk
    rw [Array.getD_eq_getD_getElem?]
    rcases Nat.lt_or_ge i (fs.length + ps.length) with hi | hi
    · rw [List.getElem?_append_left (by simp; omega)] at hp
      rw [Array.getElem?_append_left (by simp; omega)]
      rcases Nat.lt_or_ge i fs.length with hi2 | hi2
      · rw [List.getElem?_append_left hi2] at hp
        rw [Array.getElem?_append_left (by omega)]
        have := d1 i p hp
        rwa [Array.getD_eq_getD_getElem?] at this
      · rw [List.getElem?_append_right hi2] at hp
        rw [Array.getElem?_append_right (by omega), s1]
        have := h2 _ p hp
        simpa [List.getD_eq_getElem?_getD] using this
    · rw [List.getElem?_append_right (by simp; omega)] at hp
      rw [Array.getElem?_append_right (by simp; omega)]
      have := d2 _ p hp
      rw [Array.getD_eq_getD_getElem?] at this
      simpa [s1, h1] using this
  · exact hk.elim
end
end Go.Proofs.YtcedofkenfddkaaDoor
