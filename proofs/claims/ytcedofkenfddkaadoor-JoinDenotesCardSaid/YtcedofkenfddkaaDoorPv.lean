/- Pure values and their reading in memory: the ground of a logic in which a function's text is walked without its memory. No condition. -/
import Derived.RangeFuncNested
import Derived.Shelf.Abstract
import Derived.Shelf.RegionOpen
import Derived.WalkKit
import Derived.Laws.AppendOwn
import Derived.Lib.Hide
namespace Go.Proofs.YtcedofkenfddkaaDoor
set_option linter.unusedVariables false
set_option linter.unusedSimpArgs false
open Go.RowKit

/-- Who may append to a slice: nobody without a look (sh), anybody, for it has no room left (z), the statement that has just made it (n), the owner of the slice in slot i, of which it is a first part (p), or the owner of that name (r). -/
inductive Ow where
  | sh
  | z
  | n (sz : Nat)
  | p (i : Nat)
  | r (n sz : Nat)
/-- A pure value: what a slot holds, without its place in memory. -/
inductive PV where
  | v (x : Value)
  | agg (cs : List PV)
  | tup (cs : List PV)
  | sl (es : List (List PV)) (o : Ow)
  | cp (cs : List PV) (o : Nat)
  | bx (i o : Nat)
  | fn (f : Fn) (fs cs : List PV)
  | ifc (t : TypeId) (x : PV)
  | und

/-- A value reads as a pure value that lies in memory that nobody writes: the cells of D. -/
inductive Dat (D : Nat → Nat → Prop) (w : World) : Value → PV → Prop where
  | v (x : Value) : Dat D w x (.v x)
  | und (x : Value) : Dat D w x .und
  | agg (vs : Array Value) (cs : List PV) (hs : vs.size = cs.length) (h1 : ∀ i, i < cs.length → (vs.getD i undef).oneCell' = true) (h : ∀ (i : Nat) (p : PV), cs[i]? = some p → Dat D w (vs.getD i undef) p) : Dat D w (.agg vs) (.agg cs)
  | tup (vs : Array Value) (cs : List PV) (hs : vs.size = cs.length) (h : ∀ (i : Nat) (p : PV), cs[i]? = some p → Dat D w (vs.getD i undef) p) : Dat D w (.tuple vs) (.tup cs)
  | fn (f : Fn) (va vb : Array Value) (fs cs : List PV) (h1 : va.size = fs.length) (h2 : vb.size = cs.length) (h3 : ∀ (i : Nat) (p : PV), fs[i]? = some p → Dat D w (va.getD i undef) p) (h4 : ∀ (i : Nat) (p : PV), cs[i]? = some p → Dat D w (vb.getD i undef) p) : Dat D w (.func f va vb) (.fn f fs cs)
  | ifc (t : TypeId) (x : Value) (p : PV) (h : Dat D w x p) : Dat D w (.iface t x) (.ifc t p)
  | sl (a : Option Addr) (cap sz : Nat) (es : List (List PV)) (o : Ow) (b off : Nat) (u : Nat → Value) (hc : es.length ≤ cap) (hz : o = .z → cap = es.length) (hm : cap ≤ maxLen) (ha : es ≠ [] → a = some ⟨b, off, none⟩)
      (hsz : ∀ (i : Nat) (e : List PV), es[i]? = some e → e.length = sz) (hD : ∀ j, j < es.length * sz → D b (off + j) ∧ w.cell? ⟨b, off + j, none⟩ = some (u j) ∧ (u j).oneCell' = true)
      (h : ∀ (i : Nat) (e : List PV) (j : Nat) (p : PV), es[i]? = some e → e[j]? = some p → Dat D w (u (i * sz + j)) p) : Dat D w (.slice a es.length cap) (.sl es o)
  | cp (b off : Nat) (cs : List PV) (o : Nat) (u : Nat → Value) (hD : ∀ j, j < cs.length → D b (off + j) ∧ w.cell? ⟨b, off + j, none⟩ = some (u j) ∧ (u j).oneCell' = true)
      (h : ∀ (j : Nat) (p : PV), cs[j]? = some p → Dat D w (u j) p) : Dat D w (.pointer (some ⟨b, off + o, none⟩)) (.cp cs o)

theorem Dat.mono {D D' : Nat → Nat → Prop} {w w' : World} {x : Value} {p : PV} (h : Dat D w x p) (hD : ∀ b o, D b o → D' b o) (hw : ∀ b o x, D b o → w.cell? ⟨b, o, none⟩ = some x → w'.cell? ⟨b, o, none⟩ = some x) : Dat D' w' x p := by
  induction h with
  | v x => exact .v x
  | und x => exact .und x
  | agg vs cs hs h1 _ ih => exact .agg vs cs hs h1 ih
  | tup vs cs hs _ ih => exact .tup vs cs hs ih
  | fn f va vb fs cs h1 h2 _ _ ih1 ih2 => exact .fn f va vb fs cs h1 h2 ih1 ih2
  | ifc t x p _ ih => exact .ifc t x p ih
  | sl a cap sz es o b off u hc hz hm ha hsz hd _ ih => exact .sl a cap sz es o b off u hc hz hm ha hsz (fun j hj => ⟨hD _ _ (hd j hj).1, hw _ _ _ (hd j hj).1 (hd j hj).2.1, (hd j hj).2.2⟩) ih
  | cp b off cs o u hd _ ih => exact .cp b off cs o u (fun j hj => ⟨hD _ _ (hd j hj).1, hw _ _ _ (hd j hj).1 (hd j hj).2.1, (hd j hj).2.2⟩) ih

/-- A list of values, each with its pure value. -/
def DatL (D : Nat → Nat → Prop) (w : World) (vs : List Value) (ps : List PV) : Prop := vs.length = ps.length ∧ ∀ i p, ps[i]? = some p → Dat D w (vs.getD i undef) p

/-- A pure value of the first kind: data, or the address of a variable of the call's own. -/
def Rel1 (D : Nat → Nat → Prop) (ρ : Nat → Nat) (nb : Nat) (w : World) (x : Value) (p : PV) : Prop :=
  Dat D w x p ∨ ∃ i o, p = .bx i o ∧ i < nb ∧ x = .pointer (some ⟨ρ i, o, none⟩)
/-- What a slot holds: that, or a function with what it has captured. -/
def Rel (D : Nat → Nat → Prop) (ρ : Nat → Nat) (nb : Nat) (w : World) (x : Value) (p : PV) : Prop :=
  Rel1 D ρ nb w x p ∨ ∃ f va vb fs cs, p = .fn f fs cs ∧ x = .func f va vb ∧ va.size = fs.length ∧ vb.size = cs.length ∧ (∀ i q, fs[i]? = some q → Rel1 D ρ nb w (va.getD i undef) q) ∧ (∀ i q, cs[i]? = some q → Rel1 D ρ nb w (vb.getD i undef) q)

theorem Rel1.mono {D D' : Nat → Nat → Prop} {ρ ρ' : Nat → Nat} {nb nb' : Nat} {w w' : World} {x : Value} {p : PV} (h : Rel1 D ρ nb w x p) (hD : ∀ b o, D b o → D' b o) (hw : ∀ b o x, D b o → w.cell? ⟨b, o, none⟩ = some x → w'.cell? ⟨b, o, none⟩ = some x)
    (hn : nb ≤ nb') (hρ : ∀ i, i < nb → ρ' i = ρ i) : Rel1 D' ρ' nb' w' x p := by
  rcases h with h | ⟨i, o, rfl, hi, rfl⟩
  · exact .inl (h.mono hD hw)
  · exact .inr ⟨i, o, rfl, by omega, by rw [hρ i hi]⟩
theorem Rel.mono {D D' : Nat → Nat → Prop} {ρ ρ' : Nat → Nat} {nb nb' : Nat} {w w' : World} {x : Value} {p : PV} (h : Rel D ρ nb w x p) (hD : ∀ b o, D b o → D' b o) (hw : ∀ b o x, D b o → w.cell? ⟨b, o, none⟩ = some x → w'.cell? ⟨b, o, none⟩ = some x)
    (hn : nb ≤ nb') (hρ : ∀ i, i < nb → ρ' i = ρ i) : Rel D' ρ' nb' w' x p := by
  rcases h with h | ⟨f, va, vb, fs, cs, rfl, rfl, h1, h2, h3, h4⟩
  · exact .inl (h.mono hD hw hn hρ)
  · exact .inr ⟨f, va, vb, fs, cs, rfl, rfl, h1, h2, fun i q hq => (h3 i q hq).mono hD hw hn hρ, fun i q hq => (h4 i q hq).mono hD hw hn hρ⟩
theorem Rel.dat {D : Nat → Nat → Prop} {ρ : Nat → Nat} {nb : Nat} {w : World} {x : Value} {p : PV} (h : Dat D w x p) : Rel D ρ nb w x p := .inl (.inl h)

/-- The owner's name of a slice. -/
def PV.own : PV → Option Nat
  | .sl _ (.r n _) => some n
  | _ => none
/-- A pure value without an address of the call's own variables. -/
def PV.isB : PV → Bool
  | .bx _ _ => true
  | _ => false
def PV.isD : PV → Bool
  | .bx _ _ => false
  | .fn _ fs cs => fs.all (fun p => !p.isB) && cs.all (fun p => !p.isB)
  | _ => true
/-- The same slice without its owner. -/
def PV.strip : PV → PV
  | .sl es (.r _ _) => .sl es .sh
  | .sl es (.n _) => .sl es .sh
  | .sl es (.p _) => .sl es .sh
  | p => p
/-- The same slice as a part of data. -/
def PV.sh : PV → PV
  | .sl es _ => .sl es .sh
  | p => p
theorem PV.strip_own (p : PV) : p.strip.own = none := by
  cases p <;> try rfl
  rename_i o; cases o <;> rfl
/-- A slice that a statement has just made: it starts its row, which no one else knows; or it has no room. -/
def PV.isN : PV → Bool
  | .sl _ (.n _) => true
  | .sl _ (.p _) => true
  | _ => false
theorem PV.strip_isN (p : PV) : p.strip.isN = false := by
  cases p <;> try rfl
  rename_i o; cases o <;> rfl
def NewOk (x0 : Nat → Value) (n0 : Nat) (w : World) (x : Value) : PV → Prop
  | .sl es (.p i) => ∃ ad len cap, x0 i = .slice ad len cap ∧ x = .slice ad es.length cap
  | .sl es (.n sz) => (∃ ad, x = .slice ad es.length es.length) ∨ ∃ g cap cur e, n0 ≤ g ∧ x = .slice (some ⟨g, 0, none⟩) es.length cap ∧ w.heap[g]? = some (.cells cur e (0, 0)) ∧ cur.size = cap * sz
  | _ => True
theorem newOk_of {x0 : Nat → Value} {n0 : Nat} {w : World} {x : Value} {p : PV} (h : p.isN = false) : NewOk x0 n0 w x p := by
  cases p <;> try trivial
  rename_i o; cases o <;> first | trivial | cases h
theorem NewOk.mono {x0 : Nat → Value} {n0 n1 : Nat} {w w' : World} {x : Value} {p : PV} (h : NewOk x0 n0 w x p) (hn : n1 ≤ n0) (hw : ∀ k, k < w.heap.size → w'.heap[k]? = w.heap[k]?) : NewOk x0 n1 w' x p := by
  cases p <;> try trivial
  rename_i es o; cases o <;> first | exact h | skip
  rcases h with h | ⟨g, cap, cur, e, h1, h2, h3, h4⟩
  · exact .inl h
  · exact .inr ⟨g, cap, cur, e, by omega, h2, (hw g (Array.getElem?_eq_some_iff.1 h3).1).trans h3, h4⟩
theorem Dat.strip {D : Nat → Nat → Prop} {w : World} {x : Value} {p : PV} (h : Dat D w x p) : Dat D w x p.strip := by
  cases h with
  | sl a cap sz es o b off u hc hz hm ha hsz hD h =>
    cases o with
    | sh => exact .sl a cap sz es _ b off u hc hz hm ha hsz hD h
    | z => exact .sl a cap sz es _ b off u hc hz hm ha hsz hD h
    | n m => exact .sl a cap sz es _ b off u hc (fun h => by cases h) hm ha hsz hD h
    | p m => exact .sl a cap sz es _ b off u hc (fun h => by cases h) hm ha hsz hD h
    | r n m => exact .sl a cap sz es _ b off u hc (fun h => by cases h) hm ha hsz hD h
  | v x => exact .v x
  | und x => exact .und x
  | agg vs cs hs h1 h => exact .agg vs cs hs h1 h
  | tup vs cs hs h => exact .tup vs cs hs h
  | fn f va vb fs cs h1 h2 h3 h4 => exact .fn f va vb fs cs h1 h2 h3 h4
  | ifc t x p h => exact .ifc t x p h
  | cp b off cs o u hD h => exact .cp b off cs o u hD h
theorem Dat.sh {D : Nat → Nat → Prop} {w : World} {x : Value} {p : PV} (h : Dat D w x p) : Dat D w x p.sh := by
  cases h with
  | sl a cap sz es o b off u hc hz hm ha hsz hD h => exact .sl a cap sz es _ b off u hc (fun h => by cases h) hm ha hsz hD h
  | v x => exact .v x
  | und x => exact .und x
  | agg vs cs hs h1 h => exact .agg vs cs hs h1 h
  | tup vs cs hs h => exact .tup vs cs hs h
  | fn f va vb fs cs h1 h2 h3 h4 => exact .fn f va vb fs cs h1 h2 h3 h4
  | ifc t x p h => exact .ifc t x p h
  | cp b off cs o u hD h => exact .cp b off cs o u hD h
theorem Dat.owned {D : Nat → Nat → Prop} {w : World} {x : Value} {es : List (List PV)} {k : Ow} (h : Dat D w x (.sl es k)) (n m : Nat) : Dat D w x (.sl es (.r n m)) := by
  cases h with
  | sl a cap sz es o b off u hc hz hm ha hsz hD h => exact .sl a cap sz es _ b off u hc (fun h => by cases h) hm ha hsz hD h
theorem PV.sh_own (p : PV) : p.sh.own = none := by cases p <;> rfl
theorem PV.sh_isD (p : PV) : p.sh.isD = p.isD := by cases p <;> rfl
theorem Rel1.strip {D : Nat → Nat → Prop} {ρ : Nat → Nat} {nb : Nat} {w : World} {x : Value} {p : PV} (h : Rel1 D ρ nb w x p) : Rel1 D ρ nb w x p.strip := by
  rcases h with h | ⟨i, o, rfl, hi, rfl⟩
  · exact .inl h.strip
  · exact .inr ⟨i, o, rfl, hi, rfl⟩
theorem Rel.strip {D : Nat → Nat → Prop} {ρ : Nat → Nat} {nb : Nat} {w : World} {x : Value} {p : PV} (h : Rel D ρ nb w x p) : Rel D ρ nb w x p.strip := by
  rcases h with h | ⟨f, va, vb, fs, cs, rfl, h⟩
  · exact .inl h.strip
  · exact .inr ⟨f, va, vb, fs, cs, rfl, h⟩
/-- A slice to which no one but its owner appends: behind its end nothing lies that is read. -/
def OwnOk (D : Nat → Nat → Prop) (W : Nat → Prop) (w : World) (x : Value) : PV → Prop
  | .sl es (.r _ sz) => (∃ a, x = .slice a 0 0 ∧ es = []) ∨ ∃ g cap cur e, x = .slice (some ⟨g, 0, none⟩) es.length cap ∧ W g ∧ w.heap[g]? = some (.cells cur e (0, 0)) ∧ cur.size = cap * sz ∧ (∀ e ∈ es, e.length = sz) ∧ ∀ o, es.length * sz ≤ o → ¬ D g o
  | _ => True
theorem ownOk_none {D : Nat → Nat → Prop} {W : Nat → Prop} {w : World} {x : Value} {p : PV} (h : p.own = none) : OwnOk D W w x p := by
  cases p <;> try trivial
  rename_i o; cases o <;> first | trivial | cases h
/-- The block of a slice. -/
def blk : Value → Option Nat
  | .slice (some a) _ (_ + 1) => some a.block
  | _ => Option.none
theorem Dat.restrict {D : Nat → Nat → Prop} {w : World} {x : Value} {p : PV} (h : Dat D w x p) : Dat (fun b o => D b o ∧ b < w.heap.size) w x p := by
  induction h with
  | v x => exact .v x
  | und x => exact .und x
  | agg vs cs hs h1 _ ih => exact .agg vs cs hs h1 ih
  | tup vs cs hs _ ih => exact .tup vs cs hs ih
  | fn f va vb fs cs h1 h2 _ _ ih1 ih2 => exact .fn f va vb fs cs h1 h2 ih1 ih2
  | ifc t x p _ ih => exact .ifc t x p ih
  | sl a cap sz es o b off u hc hz hm ha hsz hd _ ih => exact .sl a cap sz es o b off u hc hz hm ha hsz (fun j hj => ⟨⟨(hd j hj).1, World.block_lt_of_cell? w ⟨b, off + j, _⟩ (hd j hj).2.1⟩, (hd j hj).2⟩) ih
  | cp b off cs o u hd _ ih => exact .cp b off cs o u (fun j hj => ⟨⟨(hd j hj).1, World.block_lt_of_cell? w ⟨b, off + j, _⟩ (hd j hj).2.1⟩, (hd j hj).2⟩) ih
theorem Rel1.restrict {D : Nat → Nat → Prop} {ρ : Nat → Nat} {nb : Nat} {w : World} {x : Value} {p : PV} (h : Rel1 D ρ nb w x p) : Rel1 (fun b o => D b o ∧ b < w.heap.size) ρ nb w x p := by
  rcases h with h | h
  · exact .inl h.restrict
  · exact .inr h
theorem Rel.restrict {D : Nat → Nat → Prop} {ρ : Nat → Nat} {nb : Nat} {w : World} {x : Value} {p : PV} (h : Rel D ρ nb w x p) : Rel (fun b o => D b o ∧ b < w.heap.size) ρ nb w x p := by
  rcases h with h | ⟨f, va, vb, fs, cs, h1, h2, h3, h4, h5, h6⟩
  · exact .inl h.restrict
  · exact .inr ⟨f, va, vb, fs, cs, h1, h2, h3, h4, fun i q hq => (h5 i q hq).restrict, fun i q hq => (h6 i q hq).restrict⟩
theorem Dat.isD {D : Nat → Nat → Prop} {w : World} {x : Value} {p : PV} (h : Dat D w x p) : p.isD = true := by
  have hB : ∀ {x p}, Dat D w x p → p.isB = false := fun h => by cases h <;> rfl
  cases h <;> try rfl
  rename_i f va vb fs cs h1 h2 h3 h4
  simp only [PV.isD, Bool.and_eq_true, List.all_eq_true, Bool.not_eq_true']
  exact ⟨fun p hp => by obtain ⟨i, hi⟩ := List.getElem?_of_mem hp; exact hB (h3 i p hi), fun p hp => by obtain ⟨i, hi⟩ := List.getElem?_of_mem hp; exact hB (h4 i p hi)⟩
theorem Rel1.data {D : Nat → Nat → Prop} {ρ : Nat → Nat} {nb : Nat} {w : World} {x : Value} {p : PV} (h : Rel1 D ρ nb w x p) (hd : p.isB = false) : Dat D w x p := by
  rcases h with h | ⟨i, o, rfl, _⟩
  · exact h
  · cases hd
theorem Rel.data {D : Nat → Nat → Prop} {ρ : Nat → Nat} {nb : Nat} {w : World} {x : Value} {p : PV} (h : Rel D ρ nb w x p) (hd : p.isD = true) : Dat D w x p := by
  rcases h with h | ⟨f, va, vb, fs, cs, rfl, rfl, h3, h4, h5, h6⟩
  · rcases h with h | ⟨i, o, rfl, _⟩
    · exact h
    · cases hd
  · simp only [PV.isD, Bool.and_eq_true, List.all_eq_true, Bool.not_eq_true'] at hd
    exact .fn f va vb fs cs h3 h4 (fun i q hq => (h5 i q hq).data (hd.1 q (List.mem_of_getElem? hq))) (fun i q hq => (h6 i q hq).data (hd.2 q (List.mem_of_getElem? hq)))
theorem Rel.v_inv {D : Nat → Nat → Prop} {ρ : Nat → Nat} {nb : Nat} {w : World} {x y : Value} (h : Rel D ρ nb w x (.v y)) : x = y := by
  rcases h with (h | ⟨i, o, h, _⟩) | ⟨f, va, vb, fs, cs, h, _⟩
  · cases h; rfl
  · cases h
  · cases h
/-- What a move of a slot gives in a statement that draws its order: of an owner's slice, its first part. -/
def PV.pre (i : Nat) : PV → PV
  | .sl es (.r _ _) => .sl es (.p i)
  | p => p.strip
theorem PV.pre_or (i : Nat) (p : PV) : p.pre i = p.strip ∨ ∃ es n m, p = .sl es (.r n m) ∧ p.pre i = .sl es (.p i) := by
  cases p <;> try exact .inl rfl
  rename_i es o; cases o <;> first | exact .inl rfl | exact .inr ⟨_, _, _, rfl, rfl⟩
/-- Marks of an earlier statement are worth nothing. -/
def PV.clean : PV → PV
  | .sl es (.n _) => .sl es .sh
  | .sl es (.p _) => .sl es .sh
  | p => p
theorem PV.clean_or (p : PV) : p.clean = p.strip ∨ p.clean = p := by
  cases p <;> try exact .inr rfl
  rename_i es o; cases o <;> first | exact .inl rfl | exact .inr rfl
theorem PV.clean_own (p : PV) : p.clean.own = p.own := by
  cases p <;> try rfl
  rename_i es o; cases o <;> rfl
theorem PV.clean_isN (p : PV) : p.clean.isN = false := by
  cases p <;> try rfl
  rename_i es o; cases o <;> rfl
end Go.Proofs.YtcedofkenfddkaaDoor
