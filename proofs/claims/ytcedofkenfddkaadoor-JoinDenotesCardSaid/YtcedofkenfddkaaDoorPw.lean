/- The state of a walk without memory, and how the machine's state agrees with it. No condition. -/
import Derived.Test.YtcedofkenfddkaaDoorPv
import Derived.Test.YtcedofkenfddkaaDoorBase
import Derived.Test.YtcedofkenfddkaaDoorGl
namespace Go.Proofs.YtcedofkenfddkaaDoor
set_option linter.unusedVariables false
set_option linter.unusedSimpArgs false
open Go.RowKit

/-- The slots that are known, and the variables of the call's own. -/
structure PS where
  t : List (Nat × PV)
  b : List (List PV)
def lkp : List (Nat × PV) → Nat → PV
  | [], _ => .und
  | (j, p) :: r, i => if j = i then p else lkp r i
def PS.get (s : PS) (i : Nat) : PV := lkp s.t i
def PS.put (s : PS) (d : Option Nat) (p : PV) : PS := match d with | some d => ⟨(d, p) :: s.t, s.b⟩ | none => s
structure Gh where
  D : Nat → Nat → Prop
  ρ : Nat → Nat
/-- Where the call began: its world, the cells that are read, the blocks that it may write. -/
structure Bs where
  w0 : World
  D0 : Nat → Nat → Prop
  Sb : Nat → Prop
  gl : GL D0 w0
def Bs.W (B : Bs) (k : Nat) : Prop := B.w0.heap.size ≤ k ∨ B.Sb k
structure Fr (B : Bs) (D : Nat → Nat → Prop) (w : World) : Prop where
  os : w.os = B.w0.os
  tape : w.tape = B.w0.tape
  output : w.output = B.w0.output
  size : B.w0.heap.size ≤ w.heap.size
  block : ∀ k, k < B.w0.heap.size → ¬ B.Sb k → w.heap[k]? = B.w0.heap[k]?
  d0 : ∀ b o, B.D0 b o → D b o
  cell : ∀ b o x, B.D0 b o → B.w0.cell? ⟨b, o, none⟩ = some x → w.cell? ⟨b, o, none⟩ = some x
  new : ∀ b o, D b o → B.D0 b o ∨ B.W b
  d0lt : ∀ b o, B.D0 b o → b < B.w0.heap.size
/-- The cells of variable i. -/
def BoxR (g : Gh) (nb : Nat) (w : World) (i : Nat) (cs : List PV) : Prop :=
  ∃ vs e, w.heap[g.ρ i]? = some (.cells vs e (0, 0)) ∧ vs.size = cs.length ∧ ∀ (j : Nat) (p : PV), cs[j]? = some p → Rel g.D g.ρ nb w (vs.getD j undef) p ∧ (vs.getD j undef).oneCell' = true
/-- A value that the state tells of, with its pure value. -/
def Slot (g : Gh) (s : PS) (x : Nat → Value) (w : World) (u : Value) (p : PV) : Prop :=
  (∃ t, u = x t ∧ p = s.get t) ∨ (∃ (i j : Nat) (cs : List PV), s.b[i]? = some cs ∧ cs[j]? = some p ∧ w.cell? ⟨g.ρ i, j, none⟩ = some u)
structure R (B : Bs) (g : Gh) (s : PS) (x : Nat → Value) (w : World) : Prop where
  slots : ∀ t, Rel g.D g.ρ s.b.length w (x t) (s.get t)
  boxes : ∀ (i : Nat) cs, s.b[i]? = some cs → B.W (g.ρ i) ∧ BoxR g s.b.length w i cs
  inj : ∀ i j, i < s.b.length → j < s.b.length → g.ρ i = g.ρ j → i = j
  owns : ∀ u p, Slot g s x w u p → OwnOk g.D B.W w u p
  disj : ∀ u p u' p' b, Slot g s x w u p → Slot g s x w u' p' → p.own ≠ none → p'.own ≠ none → blk u = some b → blk u' = some b → p.own = p'.own
  ownbox : ∀ u p b i, Slot g s x w u p → p.own ≠ none → blk u = some b → i < s.b.length → g.ρ i ≠ b
  dlt : ∀ b o, g.D b o → b < w.heap.size
  dbox : ∀ i, i < s.b.length → ∀ o, ¬ g.D (g.ρ i) o
  fr : Fr B g.D w

theorem below_cell {n : Nat} {w w' : World} (h : Below n w w') {b o : Nat} {x : Value} (hb : b < n) (hx : w.cell? ⟨b, o, none⟩ = some x) : w'.cell? ⟨b, o, none⟩ = some x := (h.cell (p := ⟨b, o, none⟩) hb).trans hx
theorem cell_lt {w : World} {b o : Nat} {x : Value} (hx : w.cell? ⟨b, o, none⟩ = some x) : b < w.heap.size := World.block_lt_of_cell? w ⟨b, o, none⟩ hx
/-- The slots with another value in one of them. -/
def upd (x : Nat → Value) (d : Option Nat) (u : Value) : Nat → Value := fun t => if d = some t then u else x t
theorem upd_same (x : Nat → Value) (d : Nat) (u : Value) : upd x (some d) u d = u := by simp [upd]
theorem upd_ne (x : Nat → Value) {d t : Nat} (u : Value) (h : d ≠ t) : upd x (some d) u t = x t := by simp [upd, h]
theorem get_put_same (s : PS) (d : Nat) (p : PV) : (s.put (some d) p).get d = p := by simp [PS.put, PS.get, lkp]
theorem get_put_ne (s : PS) {d t : Nat} (p : PV) (h : d ≠ t) : (s.put (some d) p).get t = s.get t := by simp [PS.put, PS.get, lkp, h]

variable {B : Bs} {g : Gh} {s : PS} {x : Nat → Value} {w w' : World}

theorem R.gl (h : R B g s x w) : GL g.D w := B.gl.mono h.fr.d0 h.fr.cell
theorem R.slot (h : R B g s x w) (t : Nat) : Slot g s x w (x t) (s.get t) := .inl ⟨t, rfl, rfl⟩
theorem R.ρlt (h : R B g s x w) {i : Nat} (hi : i < s.b.length) : g.ρ i < w.heap.size := by
  obtain ⟨_, vs, e, hv, _⟩ := h.boxes i _ (List.getElem?_eq_getElem hi)
  exact (Array.getElem?_eq_some_iff.1 hv).1
theorem ownOk_lt {D : Nat → Nat → Prop} {W : Nat → Prop} {u : Value} {p : PV} {b : Nat} (h : OwnOk D W w u p) (ho : p.own ≠ none) (hb : blk u = some b) : b < w.heap.size ∧ W b := by
  cases p <;> try exact absurd rfl ho
  rename_i o
  cases o <;> try exact absurd rfl ho
  rcases h with ⟨a, rfl, _⟩ | ⟨gg, cap, cur, e, rfl, hW, hh, _⟩
  · cases a <;> cases hb
  · obtain rfl : gg = b := by cases cap <;> simp [blk] at hb; exact hb
    exact ⟨(Array.getElem?_eq_some_iff.1 hh).1, hW⟩

theorem sl_cap {D : Nat → Nat → Prop} {ρ : Nat → Nat} {nb : Nat} {a : Option Addr} {n cap : Nat} {es : List (List PV)} {o : Ow} (h : Rel D ρ nb w (.slice a n cap) (.sl es o)) : n ≤ cap ∧ n = es.length ∧ cap ≤ maxLen := by
  rcases h with (h | ⟨i, o, h, _⟩) | ⟨f, va, vb, fs, cs, h, _⟩
  · cases h with
    | sl a cap sz es o b off u hc hz hm ha hsz hD h => exact ⟨hc, rfl, hm⟩
  · cases h
  · cases h
theorem R.slot_rel (h : R B g s x w) {u : Value} {p : PV} (hs : Slot g s x w u p) : Rel g.D g.ρ s.b.length w u p := by
  rcases hs with ⟨t, rfl, rfl⟩ | ⟨i, j, cs, h4, h5, h6⟩
  · exact h.slots t
  · obtain ⟨_, vs, e, hv, hsz, hr⟩ := h.boxes i cs h4
    have := (hr j p h5).1
    simp only [World.cell?, hv] at h6
    simp only [Option.isSome_none, Bool.false_eq_true, if_false] at h6
    rw [Array.getD_eq_getD_getElem?, h6] at this
    exact this
/-- What a slot needs that is to hold an owner's slice. -/
def OwnNew (B : Bs) (g : Gh) (s : PS) (x : Nat → Value) (w : World) (u : Value) (p : PV) : Prop :=
  p.own ≠ none → OwnOk g.D B.W w u p ∧ (∀ v q b, Slot g s x w v q → q.own ≠ none → blk v = some b → blk u = some b → q.own = p.own) ∧ (∀ b i, blk u = some b → i < s.b.length → g.ρ i ≠ b)
theorem OwnNew.none {u : Value} {p : PV} (h : p.own = none) : OwnNew B g s x w u p := fun h' => absurd h h'
theorem R.ownNew (h : R B g s x w) {u : Value} {p : PV} (hs : Slot g s x w u p) : OwnNew B g s x w u p := fun ho =>
  ⟨h.owns _ _ hs, fun v q b k1 k2 k3 k4 => h.disj _ _ _ _ b k1 hs k2 ho k3 k4, fun b i k1 k2 => h.ownbox _ _ b i hs ho k1 k2⟩
/-- A value goes into a slot. -/
theorem R.put (h : R B g s x w) (d : Option Nat) {u : Value} {p : PV} (hr : Rel g.D g.ρ s.b.length w u p) (ho : OwnNew B g s x w u p) :
    R B g (s.put d p) (upd x d u) w := by
  cases d with
  | none =>
    have : upd x none u = x := by funext t; simp [upd]
    rw [this]; exact h
  | some d =>
  have hs : ∀ v q, Slot g (s.put (some d) p) (upd x (some d) u) w v q → (v = u ∧ q = p) ∨ Slot g s x w v q := by
    rintro v q (⟨t, rfl, rfl⟩ | hb)
    · by_cases e : d = t
      · subst e; exact .inl ⟨upd_same _ _ _, get_put_same _ _ _⟩
      · exact .inr (.inl ⟨t, upd_ne _ _ e, get_put_ne _ _ e⟩)
    · exact .inr (.inr hb)
  refine ⟨?_, h.boxes, h.inj, ?_, ?_, ?_, h.dlt, h.dbox, h.fr⟩
  · intro t
    by_cases e : d = t
    · subst e; rw [upd_same, get_put_same]; exact hr
    · rw [upd_ne _ _ e, get_put_ne _ _ e]; exact h.slots t
  · intro v q hv
    by_cases hq : q.own = none
    · exact ownOk_none hq
    · rcases hs v q hv with ⟨rfl, rfl⟩ | hv
      · exact (ho hq).1
      · exact h.owns _ _ hv
  · intro v q v' q' b h1 h2 o1 o2 b1 b2
    rcases hs v q h1 with ⟨rfl, rfl⟩ | k1 <;> rcases hs v' q' h2 with ⟨rfl, rfl⟩ | k2
    · rfl
    · exact ((ho o1).2.1 v' q' b k2 o2 b2 b1).symm
    · exact (ho o2).2.1 v q b k1 o1 b1 b2
    · exact h.disj _ _ _ _ b k1 k2 o1 o2 b1 b2
  · intro v q b i hv o1 b1 hi
    rcases hs v q hv with ⟨rfl, rfl⟩ | hv
    · exact (ho o1).2.2 b i b1 hi
    · exact h.ownbox _ _ b i hv o1 b1 hi

/-- The world turns where the state does not look, and new cells are read. -/
theorem R.frame (h : R B g s x w) (D' : Nat → Nat → Prop) (c1 : ∀ b o y, g.D b o → w.cell? ⟨b, o, none⟩ = some y → w'.cell? ⟨b, o, none⟩ = some y)
    (c2 : ∀ i, i < s.b.length → w'.heap[g.ρ i]? = w.heap[g.ρ i]?) (c3 : ∀ u p b, Slot g s x w u p → p.own ≠ none → blk u = some b → w'.heap[b]? = w.heap[b]?)
    (d1 : ∀ b o, g.D b o → D' b o) (d2 : ∀ b o, D' b o → g.D b o ∨ (B.W b ∧ (∀ i, i < s.b.length → g.ρ i ≠ b) ∧ ∀ u p, Slot g s x w u p → p.own ≠ none → blk u ≠ some b)) (d3 : ∀ b o, D' b o → b < w'.heap.size)
    (e1 : w'.os = w.os) (e2 : w'.tape = w.tape) (e3 : w'.output = w.output) (e4 : w.heap.size ≤ w'.heap.size) (e5 : ∀ k, k < B.w0.heap.size → ¬ B.Sb k → w'.heap[k]? = w.heap[k]?) : R B ⟨D', g.ρ⟩ s x w' := by
  have hs : ∀ u q, Slot ⟨D', g.ρ⟩ s x w' u q → Slot g s x w u q := by
    rintro u q (hx | ⟨i, j, cs, h4, h5, h6⟩)
    · exact .inl hx
    · exact .inr ⟨i, j, cs, h4, h5, by rw [← h6]; exact (World.cell?_of_block (a := ⟨g.ρ i, j, none⟩) (c2 i (List.getElem?_eq_some_iff.1 h4).1)).symm⟩
  refine ⟨fun t => (h.slots t).mono d1 c1 (Nat.le_refl _) fun _ _ => rfl, ?_, h.inj, ?_, ?_, ?_, d3, ?_, ?_⟩
  · intro i cs hi
    obtain ⟨hW, vs, e, hv, hsz, hr⟩ := h.boxes i cs hi
    exact ⟨hW, vs, e, (c2 i (List.getElem?_eq_some_iff.1 hi).1).trans hv, hsz, fun j p hp => ⟨(hr j p hp).1.mono d1 c1 (Nat.le_refl _) fun _ _ => rfl, (hr j p hp).2⟩⟩
  · intro u q hx
    by_cases hq : q.own = none
    · exact ownOk_none hq
    have hx' := hs u q hx
    have := h.owns u q hx'
    cases q <;> try trivial
    rename_i es o
    cases o <;> try trivial
    rcases this with hn | ⟨gg, cap, cur, e, rfl, hW, hh, hc, he, hd⟩
    · exact .inl hn
    · cases cap with
      | zero =>
        by_cases hes : es = []
        · subst hes; exact .inl ⟨_, rfl, rfl⟩
        · obtain ⟨hle, _⟩ := sl_cap (h.slot_rel hx')
          exact absurd (List.eq_nil_of_length_eq_zero (Nat.le_zero.1 hle)) hes
      | succ cap =>
        refine .inr ⟨gg, _, cur, e, rfl, hW, (c3 _ _ gg hx' hq rfl).trans hh, hc, he, fun o ho hD => ?_⟩
        rcases d2 _ _ hD with h' | h'
        · exact hd o ho h'
        · exact h'.2.2 _ _ hx' hq rfl
  · intro u q u' q' b k1 k2
    exact h.disj u q u' q' b (hs _ _ k1) (hs _ _ k2)
  · intro u q b i k1
    exact h.ownbox u q b i (hs _ _ k1)
  · intro i hi o hD
    rcases d2 _ _ hD with h' | h'
    · exact h.dbox i hi o h'
    · exact h'.2.1 i hi rfl
  · refine ⟨e1.trans h.fr.os, e2.trans h.fr.tape, e3.trans h.fr.output, Nat.le_trans h.fr.size e4, fun k hk hn => (e5 k hk hn).trans (h.fr.block k hk hn), fun b o hD => d1 _ _ (h.fr.d0 b o hD), ?_, ?_, ?_⟩
    · intro b o y hD hy
      exact c1 _ _ _ (h.fr.d0 b o hD) (h.fr.cell b o y hD hy)
    · intro b o hD
      rcases d2 _ _ hD with h' | h'
      · exact h.fr.new b o h'
      · exact .inr h'.1
    · exact h.fr.d0lt
/-- The world grows, and new cells are read. -/
theorem R.grow (h : R B g s x w) (hb : Below w.heap.size w w') (D' : Nat → Nat → Prop) (h1 : ∀ b o, g.D b o → D' b o)
    (h2 : ∀ b o, D' b o → g.D b o ∨ w.heap.size ≤ b) (h3 : ∀ b o, D' b o → b < w'.heap.size) : R B ⟨D', g.ρ⟩ s x w' := by
  refine h.frame D' (fun b o y _ hy => below_cell hb (cell_lt hy) hy) (fun i hi => hb.block _ (h.ρlt hi)) (fun u p b hu ho hbb => hb.block _ (ownOk_lt (h.owns u p hu) ho hbb).1) h1 ?_ h3
    hb.os hb.tape hb.output hb.size fun k hk _ => hb.block k (Nat.lt_of_lt_of_le hk h.fr.size)
  intro b o hD
  rcases h2 b o hD with h' | h'
  · exact .inl h'
  · refine .inr ⟨.inl (Nat.le_trans h.fr.size h'), fun i hi e => ?_, fun u p hu ho e => ?_⟩
    · have := h.ρlt hi; omega
    · have := (ownOk_lt (h.owns u p hu) ho e).1; omega
theorem R.drew (h : R B g s x w) : R B g s x w.drew :=
  h.grow (w' := w.drew) ⟨rfl, rfl, rfl, Nat.le_refl _, fun _ _ => rfl⟩ g.D (fun _ _ h => h) (fun _ _ h => .inl h) h.dlt

/-- A new variable of the call's own. -/
theorem R.box (h : R B g s x w) (d : Option Nat) (vs : Array Value) (e : TypeId) (cs : List PV) (hsz : vs.size = cs.length)
    (hr : ∀ (j : Nat) (p : PV), cs[j]? = some p → Rel g.D g.ρ s.b.length w (vs.getD j undef) p ∧ (vs.getD j undef).oneCell' = true) (ho : ∀ p ∈ cs, p.own = none) :
    R B ⟨g.D, fun i => if i = s.b.length then w.heap.size else g.ρ i⟩ (PS.put ⟨s.t, s.b ++ [cs]⟩ d (.bx s.b.length 0)) (upd x d (.pointer (some ⟨w.heap.size, 0, none⟩))) (w.alloc (.cells vs e)) := by
  have hb : Below w.heap.size w (w.alloc (.cells vs e)) := (Below.refl _ _).alloc (Nat.le_refl _) _
  have h' : R B g s x (w.alloc (.cells vs e)) := h.grow hb g.D (fun _ _ h => h) (fun _ _ h => .inl h) fun b o hD => Nat.lt_of_lt_of_le (h.dlt b o hD) hb.size
  obtain ⟨ρ', hρ'⟩ : ∃ ρ', (fun i => if i = s.b.length then w.heap.size else g.ρ i) = ρ' := ⟨_, rfl⟩
  rw [hρ']
  have e1 : ∀ i, i < s.b.length → ρ' i = g.ρ i := fun i hi => by rw [← hρ']; simp; omega
  have e2 : ρ' s.b.length = w.heap.size := by rw [← hρ']; simp
  have hcell : ∀ b o x, g.D b o → w.cell? ⟨b, o, none⟩ = some x → (w.alloc (.cells vs e)).cell? ⟨b, o, none⟩ = some x := fun b o x _ hx => below_cell hb (cell_lt hx) hx
  have mono : ∀ u p, Rel g.D g.ρ s.b.length (w.alloc (.cells vs e)) u p → Rel g.D ρ' (s.b ++ [cs]).length (w.alloc (.cells vs e)) u p := fun u p hu => hu.mono (fun _ _ h => h) (fun _ _ _ _ h => h) (by simp) e1
  have lens : (s.b ++ [cs]).length = s.b.length + 1 := by simp
  have hs : ∀ u q, Slot ⟨g.D, ρ'⟩ ⟨s.t, s.b ++ [cs]⟩ x (w.alloc (.cells vs e)) u q → q.own ≠ none → Slot g s x (w.alloc (.cells vs e)) u q := by
    rintro u q (hx | ⟨i, j, cs', h4, h5, h6⟩) hq
    · exact .inl hx
    · rcases Nat.lt_or_ge i s.b.length with hi | hi
      · rw [List.getElem?_append_left hi] at h4
        exact .inr ⟨i, j, cs', h4, h5, by rw [← h6]; show _ = World.cell? _ ⟨ρ' i, j, none⟩; rw [e1 i hi]⟩
      · rw [List.getElem?_append_right hi] at h4
        have hii : i - s.b.length = 0 := by
          have := (List.getElem?_eq_some_iff.1 h4).1
          simp at this; omega
        rw [hii] at h4
        simp at h4
        subst h4
        exact absurd (ho q (List.mem_of_getElem? h5)) hq
  have r1 : R B ⟨g.D, ρ'⟩ ⟨s.t, s.b ++ [cs]⟩ x (w.alloc (.cells vs e)) := by
    refine ⟨fun t => mono _ _ (h'.slots t), ?_, ?_, ?_, ?_, ?_, h'.dlt, ?_, h'.fr⟩
    · intro i cs' hi
      rcases Nat.lt_or_ge i s.b.length with hl | hl
      · rw [List.getElem?_append_left hl] at hi
        obtain ⟨hW, vs', e', hv, hsz', hr'⟩ := h'.boxes i cs' hi
        refine ⟨by show B.W (ρ' i); rw [e1 i hl]; exact hW, vs', e', by show _ = _; rw [← hv]; show (World.alloc _ _).heap[ρ' i]? = _; rw [e1 i hl], hsz', fun j p hp => ⟨mono _ _ (hr' j p hp).1, (hr' j p hp).2⟩⟩
      · rw [List.getElem?_append_right hl] at hi
        have hii : i - s.b.length = 0 := by
          have := (List.getElem?_eq_some_iff.1 hi).1
          simp at this; omega
        rw [hii] at hi
        simp at hi
        subst hi
        have : i = s.b.length := by omega
        subst this
        refine ⟨by show B.W (ρ' _); rw [e2]; exact .inl h.fr.size, vs, e, ?_, hsz, fun j p hp => ⟨mono _ _ ((hr j p hp).1.mono (fun _ _ h => h) hcell (Nat.le_refl _) fun _ _ => rfl), (hr j p hp).2⟩⟩
        show (World.alloc _ _).heap[ρ' _]? = _
        rw [e2]
        exact World.alloc_heap_new w _
    · intro i j hi hj hij
      have hi' : i < s.b.length + 1 := by simpa using hi
      have hj' : j < s.b.length + 1 := by simpa using hj
      have hij' : ρ' i = ρ' j := hij
      rcases Nat.lt_or_ge i s.b.length with hl | hl <;> rcases Nat.lt_or_ge j s.b.length with hm | hm
      · rw [e1 i hl, e1 j hm] at hij'; exact h'.inj i j hl hm hij'
      · have : j = s.b.length := by omega
        rw [e1 i hl, this, e2] at hij'; have := h.ρlt hl; omega
      · have : i = s.b.length := by omega
        rw [e1 j hm, this, e2] at hij'; have := h.ρlt hm; omega
      · omega
    · intro u q hu
      by_cases hq : q.own = none
      · exact ownOk_none hq
      · exact h'.owns u q (hs u q hu hq)
    · intro u q u' q' b k1 k2 o1 o2
      exact h'.disj u q u' q' b (hs _ _ k1 o1) (hs _ _ k2 o2) o1 o2
    · intro u q b i k1 o1 b1 hi
      have k := hs _ _ k1 o1
      show ρ' i ≠ b
      rcases Nat.lt_or_ge i s.b.length with hl | hl
      · rw [e1 i hl]; exact h'.ownbox u q b i k o1 b1 hl
      · have : i = s.b.length := by have : i < (s.b ++ [cs]).length := hi; simp at this; omega
        rw [this, e2]
        have k0 : Slot g s x w u q := by
          rcases k with hx | ⟨i, j, cs', h4, h5, h6⟩
          · exact .inl hx
          · exact .inr ⟨i, j, cs', h4, h5, by rw [← h6]; exact (hb.cell (p := ⟨g.ρ i, j, none⟩) (h.ρlt (List.getElem?_eq_some_iff.1 h4).1)).symm⟩
        have := (ownOk_lt (h.owns u q k0) o1 b1).1
        omega
    · intro i hi o hD
      have hi' : i < s.b.length + 1 := by have : i < (s.b ++ [cs]).length := hi; simpa using this
      have hD' : g.D (ρ' i) o := hD
      rcases Nat.lt_or_ge i s.b.length with hl | hl
      · rw [e1 i hl] at hD'; exact h.dbox i hl o hD'
      · have : i = s.b.length := by omega
        rw [this, e2] at hD'
        have := h.dlt _ _ hD'
        omega
  refine r1.put d (.inl (.inr ⟨s.b.length, 0, rfl, by simp, ?_⟩)) (.none rfl)
  show _ = Value.pointer (some ⟨ρ' s.b.length, 0, none⟩)
  rw [e2]

/-- A variable of the call's own, of a block that lies already. -/
theorem R.boxAt (h : R B g s x w) (d : Option Nat) (vs : Array Value) (e : TypeId) (cs : List PV) (hsz : vs.size = cs.length) {b0 : Nat} (hh : w.heap[b0]? = some (.cells vs e (0, 0))) (hW : B.W b0) (hne : ∀ i, i < s.b.length → g.ρ i ≠ b0) (hnD : ∀ o, ¬ g.D b0 o) (hno : ∀ u q, Slot g s x w u q → q.own ≠ none → blk u ≠ some b0)
    (hr : ∀ (j : Nat) (p : PV), cs[j]? = some p → Rel g.D g.ρ s.b.length w (vs.getD j undef) p ∧ (vs.getD j undef).oneCell' = true) (ho : ∀ p ∈ cs, p.own = none) :
    R B ⟨g.D, fun i => if i = s.b.length then b0 else g.ρ i⟩ (PS.put ⟨s.t, s.b ++ [cs]⟩ d (.bx s.b.length 0)) (upd x d (.pointer (some ⟨b0, 0, none⟩))) w := by
  obtain ⟨ρ', hρ'⟩ : ∃ ρ', (fun i => if i = s.b.length then b0 else g.ρ i) = ρ' := ⟨_, rfl⟩
  rw [hρ']
  have e1 : ∀ i, i < s.b.length → ρ' i = g.ρ i := fun i hi => by rw [← hρ']; simp; omega
  have e2 : ρ' s.b.length = b0 := by rw [← hρ']; simp
  have mono : ∀ u p, Rel g.D g.ρ s.b.length w u p → Rel g.D ρ' (s.b ++ [cs]).length w u p := fun u p hu => hu.mono (fun _ _ h => h) (fun _ _ _ _ h => h) (by simp) e1
  have lens : (s.b ++ [cs]).length = s.b.length + 1 := by simp
  have hs : ∀ u q, Slot ⟨g.D, ρ'⟩ ⟨s.t, s.b ++ [cs]⟩ x w u q → q.own ≠ none → Slot g s x w u q := by
    rintro u q (hx | ⟨i, j, cs', h4, h5, h6⟩) hq
    · exact .inl hx
    · rcases Nat.lt_or_ge i s.b.length with hi | hi
      · rw [List.getElem?_append_left hi] at h4
        exact .inr ⟨i, j, cs', h4, h5, by rw [← h6]; show _ = World.cell? _ ⟨ρ' i, j, none⟩; rw [e1 i hi]⟩
      · rw [List.getElem?_append_right hi] at h4
        have hii : i - s.b.length = 0 := by
          have := (List.getElem?_eq_some_iff.1 h4).1
          simp at this; omega
        rw [hii] at h4
        simp at h4
        subst h4
        exact absurd (ho q (List.mem_of_getElem? h5)) hq
  have r1 : R B ⟨g.D, ρ'⟩ ⟨s.t, s.b ++ [cs]⟩ x w := by
    refine ⟨fun t => mono _ _ (h.slots t), ?_, ?_, ?_, ?_, ?_, h.dlt, ?_, h.fr⟩
    · intro i cs' hi
      rcases Nat.lt_or_ge i s.b.length with hl | hl
      · rw [List.getElem?_append_left hl] at hi
        obtain ⟨hW, vs', e', hv, hsz', hr'⟩ := h.boxes i cs' hi
        refine ⟨by show B.W (ρ' i); rw [e1 i hl]; exact hW, vs', e', by show _ = _; rw [← hv]; show w.heap[ρ' i]? = _; rw [e1 i hl], hsz', fun j p hp => ⟨mono _ _ (hr' j p hp).1, (hr' j p hp).2⟩⟩
      · rw [List.getElem?_append_right hl] at hi
        have hii : i - s.b.length = 0 := by
          have := (List.getElem?_eq_some_iff.1 hi).1
          simp at this; omega
        rw [hii] at hi
        simp at hi
        subst hi
        have : i = s.b.length := by omega
        subst this
        refine ⟨by show B.W (ρ' _); rw [e2]; exact hW, vs, e, ?_, hsz, fun j p hp => ⟨mono _ _ (hr j p hp).1, (hr j p hp).2⟩⟩
        show w.heap[ρ' _]? = _
        rw [e2]
        exact hh
    · intro i j hi hj hij
      have hi' : i < s.b.length + 1 := by simpa using hi
      have hj' : j < s.b.length + 1 := by simpa using hj
      have hij' : ρ' i = ρ' j := hij
      rcases Nat.lt_or_ge i s.b.length with hl | hl <;> rcases Nat.lt_or_ge j s.b.length with hm | hm
      · rw [e1 i hl, e1 j hm] at hij'; exact h.inj i j hl hm hij'
      · have : j = s.b.length := by omega
        rw [e1 i hl, this, e2] at hij'; exact absurd hij' (hne i hl)
      · have : i = s.b.length := by omega
        rw [e1 j hm, this, e2] at hij'; exact absurd hij'.symm (hne j hm)
      · omega
    · intro u q hu
      by_cases hq : q.own = none
      · exact ownOk_none hq
      · exact h.owns u q (hs u q hu hq)
    · intro u q u' q' b k1 k2 o1 o2
      exact h.disj u q u' q' b (hs _ _ k1 o1) (hs _ _ k2 o2) o1 o2
    · intro u q b i k1 o1 b1 hi
      have k := hs _ _ k1 o1
      show ρ' i ≠ b
      rcases Nat.lt_or_ge i s.b.length with hl | hl
      · rw [e1 i hl]; exact h.ownbox u q b i k o1 b1 hl
      · have : i = s.b.length := by have : i < (s.b ++ [cs]).length := hi; simp at this; omega
        rw [this, e2]
        exact fun e3 => hno u q k o1 (by rw [b1, ← e3])
    · intro i hi o hD
      have hi' : i < s.b.length + 1 := by have : i < (s.b ++ [cs]).length := hi; simpa using this
      have hD' : g.D (ρ' i) o := hD
      rcases Nat.lt_or_ge i s.b.length with hl | hl
      · rw [e1 i hl] at hD'; exact h.dbox i hl o hD'
      · have : i = s.b.length := by omega
        rw [this, e2] at hD'
        exact hnD o hD'
  refine r1.put d (.inl (.inr ⟨s.b.length, 0, rfl, by simp, ?_⟩)) (.none rfl)
  show _ = Value.pointer (some ⟨ρ' s.b.length, 0, none⟩)
  rw [e2]

/-- The name n is given up. -/
def PV.down (n : Nat) : PV → PV
  | .sl es (.r m sz) => if m = n then .sl es .sh else .sl es (.r m sz)
  | p => p
def PS.down (n : Nat) (s : PS) : PS := ⟨s.t.map fun y => (y.1, y.2.down n), s.b.map fun cs => cs.map (PV.down n)⟩
theorem PV.down_or (n : Nat) (p : PV) : p.down n = p.strip ∨ (p.down n = p ∧ p.own ≠ some n) := by
  cases p <;> try exact .inl rfl
  rename_i es o
  cases o with
  | sh => exact .inl rfl
  | z => exact .inl rfl
  | n k => exact .inr ⟨rfl, by simp [PV.own]⟩
  | p k => exact .inr ⟨rfl, by simp [PV.own]⟩
  | r m sz =>
    by_cases e : m = n
    · exact .inl (by simp [PV.down, PV.strip, e])
    · exact .inr ⟨by simp [PV.down, e], by simp [PV.own, e]⟩
theorem PV.down_own {n : Nat} {p : PV} (h : (p.down n).own ≠ none) : p.down n = p ∧ p.own ≠ some n := by
  rcases PV.down_or n p with e | e
  · rw [e] at h; exact absurd p.strip_own h
  · exact e
theorem lkp_down (n t : Nat) : ∀ l : List (Nat × PV), lkp (l.map fun y => (y.1, y.2.down n)) t = (lkp l t).down n
  | [] => rfl
  | (j, p) :: l => by
    simp only [List.map_cons, lkp]
    split
    · rfl
    · exact lkp_down n t l
theorem get_down (n t : Nat) (s : PS) : (s.down n).get t = (s.get t).down n := lkp_down n t s.t
theorem Rel.down {D : Nat → Nat → Prop} {ρ : Nat → Nat} {nb : Nat} {u : Value} {p : PV} (n : Nat) (h : Rel D ρ nb w u p) : Rel D ρ nb w u (p.down n) := by
  rcases PV.down_or n p with e | e
  · rw [e]; exact h.strip
  · rw [e.1]; exact h
theorem slot_down {n : Nat} {u : Value} {q : PV} (h : Slot g (s.down n) x w u q) : ∃ p, q = p.down n ∧ Slot g s x w u p := by
  rcases h with ⟨t, rfl, rfl⟩ | ⟨i, j, cs, h1, h2, h3⟩
  · exact ⟨_, get_down n t s, .inl ⟨t, rfl, rfl⟩⟩
  · simp only [PS.down, List.getElem?_map, Option.map_eq_some_iff] at h1
    obtain ⟨cs', h1, rfl⟩ := h1
    simp only [List.getElem?_map, Option.map_eq_some_iff] at h2
    obtain ⟨p, h2, rfl⟩ := h2
    exact ⟨p, rfl, .inr ⟨i, j, cs', h1, h2, h3⟩⟩
theorem R.down (h : R B g s x w) (n : Nat) : R B g (s.down n) x w ∧ ∀ u p, Slot g (s.down n) x w u p → p.own ≠ none → Slot g s x w u p ∧ p.own ≠ some n := by
  have hl : (s.down n).b.length = s.b.length := by simp [PS.down]
  have hs : ∀ u p, Slot g (s.down n) x w u p → p.own ≠ none → Slot g s x w u p ∧ p.own ≠ some n := by
    intro u q hq ho
    obtain ⟨p, rfl, hp⟩ := slot_down hq
    obtain ⟨e1, e2⟩ := PV.down_own ho
    rw [e1]; exact ⟨hp, e2⟩
  refine ⟨⟨fun t => ?_, ?_, fun i j => by rw [hl]; exact h.inj i j, ?_, ?_, ?_, h.dlt, fun i => by rw [hl]; exact h.dbox i, h.fr⟩, hs⟩
  · rw [get_down, hl]; exact (h.slots t).down n
  · intro i cs hi
    simp only [PS.down, List.getElem?_map, Option.map_eq_some_iff] at hi
    obtain ⟨cs', hi, rfl⟩ := hi
    obtain ⟨hW, vs, e, h1, h2, h3⟩ := h.boxes i cs' hi
    refine ⟨hW, vs, e, h1, by simpa using h2, fun j p hp => ?_⟩
    simp only [List.getElem?_map, Option.map_eq_some_iff] at hp
    obtain ⟨p', hp, rfl⟩ := hp
    rw [hl]
    exact ⟨(h3 j p' hp).1.down n, (h3 j p' hp).2⟩
  · intro u q hq
    by_cases ho : q.own = none
    · exact ownOk_none ho
    · exact h.owns _ _ (hs u q hq ho).1
  · intro u q u' q' b k1 k2 o1 o2
    exact h.disj _ _ _ _ b (hs _ _ k1 o1).1 (hs _ _ k2 o2).1 o1 o2
  · intro u q b i k1 o1 b1 hi
    exact h.ownbox _ _ b i (hs _ _ k1 o1).1 o1 b1 (by rw [← hl]; exact hi)

/-! ### Without marks -/
def PS.clean (s : PS) : PS := ⟨s.t.map fun y => (y.1, y.2.clean), s.b⟩
theorem lkp_clean (t : Nat) : ∀ l : List (Nat × PV), lkp (l.map fun y => (y.1, y.2.clean)) t = (lkp l t).clean
  | [] => rfl
  | (j, p) :: l => by
    simp only [List.map_cons, lkp]
    split
    · rfl
    · exact lkp_clean t l
theorem get_clean (t : Nat) (s : PS) : s.clean.get t = (s.get t).clean := lkp_clean t s.t
theorem Rel.clean {D : Nat → Nat → Prop} {ρ : Nat → Nat} {nb : Nat} {u : Value} {p : PV} (h : Rel D ρ nb w u p) : Rel D ρ nb w u p.clean := by
  rcases PV.clean_or p with e | e
  · rw [e]; exact h.strip
  · rw [e]; exact h
theorem R.clean (h : R B g s x w) : R B g s.clean x w := by
  have hs : ∀ u p, Slot g s.clean x w u p → p.own ≠ none → Slot g s x w u p := fun u p hp ho => by
    rcases hp with ⟨t, rfl, rfl⟩ | hp
    · rw [get_clean] at ho ⊢
      rcases PV.clean_or (s.get t) with e | e
      · rw [e] at ho; exact absurd (s.get t).strip_own ho
      · rw [e]; exact .inl ⟨t, rfl, rfl⟩
    · exact .inr hp
  refine ⟨fun t => by rw [get_clean]; exact (h.slots t).clean, h.boxes, h.inj, fun u p hp => ?_, fun u p u' p' b k1 k2 o1 o2 => h.disj u p u' p' b (hs _ _ k1 o1) (hs _ _ k2 o2) o1 o2, fun u p b i k o1 => h.ownbox u p b i (hs _ _ k o1) o1, h.dlt, h.dbox, h.fr⟩
  by_cases ho : p.own = none
  · exact ownOk_none ho
  · exact h.owns _ _ (hs _ _ hp ho)
end Go.Proofs.YtcedofkenfddkaaDoor
