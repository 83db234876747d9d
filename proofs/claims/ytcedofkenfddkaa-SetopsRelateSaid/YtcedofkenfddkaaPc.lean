/- The code of a function, walked without its memory: what is asked of its text, and that a text of which it holds keeps its contract. No condition. -/
import Derived.Test.YtcedofkenfddkaaPe
import Derived.Test.YtcedofkenfddkaaPd
namespace Go.Proofs.Ytcedofkenfddkaa
set_option linter.unusedVariables false
set_option linter.unusedSimpArgs false
open Go.RowKit

inductive PC where
  | sk
  | rg (l : List PI)
  | dr (h t : List PI)
  | sq (a b : PC)
  | cd (c : PO) (a b : PC)
  | bk (id : Nat) (a : PC)
  | lp (wr : List Nat) (a : PC)
  | ex (id : Nat)
  | rt
  | man (c : Code)
/-- How a text is left. -/
inductive PX where
  | n
  | x (id : Nat)
  | r

/-! ### What is asked -/
/-- An operation that may be left out: its guard is read, and from then on known. -/
def PI.guard (i : PI) (s : PS) (yes no : PS → Prop) : Prop := match i.g with
  | none => yes s
  | some (t, b) => match s.get t with
    | .v (.bool c) => (c = b → yes (s.put (some t) (.v (.bool b)))) ∧ (c = !b → no (s.put (some t) (.v (.bool !b))))
    | .v (.tuple vs) => vs = #[] ∧ no s
    | _ => False
def pList (P : Program) : List PI → (PS → Prop) → PS → Prop
  | [], K, s => K s
  | i :: l, K, s => i.guard s (fun s => i.k.e P i.d s (pList P l K)) (fun s => pList P l K (s.put i.d (.v undef)))
def pHead (P : Program) : List PI → (PS → Prop) → PS → Prop
  | [], K, s => K s
  | i :: l, K, s => i.guard s (fun s => i.k.q P s fun p => p.own = none ∧ pHead P l K (s.put i.d p)) (fun s => pHead P l K (s.put i.d (.v undef)))
def forget (h : List PI) (s : PS) : PS := h.foldl (fun s i => s.put i.d .und) s
/-- Elements of plain numbers and the like. -/
def flatE (es : List (List PV)) : Prop := ∀ e ∈ es, ∀ p ∈ e, ∃ x : Value, p = .v x
def simple1 (n : Nat) : PV → Prop
  | .v _ => True
  | .sl es (.r m sz) => m ≠ n ∧ flatE es ∧ ∀ e ∈ es, e.length = sz
  | _ => False
/-- The slots that are kept when an owner's slice is cut short: numbers, and owners' slices of numbers. -/
def keepOk (h : List PI) (n : Nat) (s0 : PS) (keep : List Nat) : Prop :=
  (∀ j ∈ keep, (h.all fun i => !(i.d == some j)) = true ∧ simple1 n (s0.get j)) ∧ keep.Pairwise fun i j => (s0.get i).own = none ∨ (s0.get i).own ≠ (s0.get j).own
/-- What follows a region's head: an append to a slice that the head has made is its owner's; one to the first part of an owner's slice cuts that slice short. -/
def pTail (P : Program) (fr : Prop) (h : List PI) (s0 : PS) (t : List PI) (K : PS → Prop) (s : PS) : Prop := match t with
  | ⟨some d, none, .ap (.t x) y sz by_⟩ :: t' => match s.get x with
    | .sl es (.n sz') => sz' = sz ∧ (h.any fun i => i.d == some x) = true ∧ qSl (s.ev y) fun es' => flatE es ∧ flatE es' ∧ (∀ e ∈ es, e.length = sz) ∧ (∀ e ∈ es', e.length = sz) ∧ (es.length + es'.length) * by_ ≤ 140737488355328 ∧ es' ≠ [] ∧ pList P t' K ((forget h s0).put (some d) (.sl (es ++ es') (.r d sz)))
    | .sl es (.p i) => fr ∧ (h.any fun i => i.d == some x) = true ∧ (match s0.get i with
      | .sl _ (.r n sz') => sz' = sz ∧ qSl (s.ev y) fun es' => flatE es ∧ flatE es' ∧ (∀ e ∈ es, e.length = sz) ∧ (∀ e ∈ es', e.length = sz) ∧ (es.length + es'.length) * by_ ≤ 140737488355328 ∧ es' ≠ [] ∧ ∃ keep, keepOk h n s0 keep ∧ pList P t' K ⟨(d, .sl (es ++ es') (.r n sz)) :: keep.map (fun j => (j, s0.get j)), []⟩
      | _ => False)
    | _ => pList P t K s
  | _ => pList P t K s
/-- Whether a pure value stands for at most what another one does. -/
def low1 (nb : Nat) : PV → Bool
  | .bx i _ => decide (i < nb)
  | _ => true
def lowB (nb : Nat) : PV → Bool
  | .bx i _ => decide (i < nb)
  | .fn _ fs cs => fs.all (low1 nb) && cs.all (low1 nb)
  | _ => true
inductive SubP (nb : Nat) : PV → PV → Prop where
  | und (p : PV) : SubP nb p .und
  | eq (p : PV) (h : lowB nb p = true) : SubP nb p p
  | sh (p : PV) (h : lowB nb p = true) : SubP nb p p.sh
  | nil (n sz : Nat) : SubP nb (.sl [] .z) (.sl [] (.r n sz))
def SubT (nb : Nat) (t : List (Nat × PV)) : List (Nat × PV) → Prop
  | [] => True
  | (i, q) :: r => SubP nb (lkp t i) q ∧ SubT nb t r
inductive SubB (nb : Nat) : List (List PV) → List (List PV) → Prop where
  | nil (l : List (List PV)) : SubB nb l []
  | cons (cs cs' : List PV) (l l' : List (List PV)) (h : cs.length = cs'.length) (hc : ∀ (j : Nat) p q, cs[j]? = some p → cs'[j]? = some q → SubP nb p q) (hl : SubB nb l l') : SubB nb (cs :: l) (cs' :: l')
def SubS (s s' : PS) : Prop := SubT s'.b.length s.t s'.t ∧ SubB s'.b.length s.b s'.b
def thenX (K : PS → Prop) (Q : PX → PS → Prop) : PX → PS → Prop
  | .n, s => K s
  | e, s => Q e s
def blockX (id : Nat) (Q : PX → PS → Prop) : PX → PS → Prop
  | .x id', s => if id' = id then Q .n s else Q (.x id') s
  | e, s => Q e s
/-- Where the state agrees. -/
def RA (B : Bs) (nt : Nat) (g : Gh) (s : PS) (a : Act) (w : World) : Prop := R B g s (slt a) w ∧ a.defers = [] ∧ a.tmps.size = nt
def QL (B : Bs) (nt : Nat) (Q : PX → PS → Prop) : Exit → Act → World → Prop
  | .normal, a, w => ∃ s g, RA B nt g s a w ∧ Q .n s
  | .exit id, a, w => ∃ s g, RA B nt g s a w ∧ Q (.x id) s
  | .ret, a, w => ∃ s g, RA B nt g s a w ∧ Q .r s
  | _, _, _ => False
/-- What is asked of a loop: a family of states, one for each element of ι that is sound, with a measure. -/
def pLoop (body : (PX → PS → Prop) → PS → Prop) (Q : PX → PS → Prop) (s : PS) : Prop :=
  ∃ (ι : Type) (J : ι → Prop) (S : ι → PS) (m : ι → Nat) (i0 : ι), J i0 ∧ SubS s (S i0) ∧ ∀ i, J i → body (thenX (fun s' => ∃ j, J j ∧ m j < m i ∧ SubS s' (S j)) Q) (S i)
def pW (P : Program) (nt : Nat) (fr : Prop) : PC → (PX → PS → Prop) → PS → Prop
  | .sk, Q, s => Q .n s
  | .rg l, Q, s => pList P l (Q .n) s
  | .dr h t, Q, s => pHead P h (pTail P fr h s.clean t (Q .n)) s.clean
  | .sq a b, Q, s => pW P nt fr a (thenX (pW P nt fr b Q) Q) s
  | .cd c a b, Q, s => qBool (s.ev c) fun t => (t = true → pW P nt fr a Q s) ∧ (t = false → pW P nt fr b Q s)
  | .bk id a, Q, s => pW P nt fr a (blockX id Q) s
  | .lp _ a, Q, s => pLoop (pW P nt fr a) Q s
  | .ex id, Q, s => Q (.x id) s
  | .rt, Q, s => Q .r s
  | .man c, Q, s => ∀ B g a w, RA B nt g s a w → c.wp P (QL B nt Q) a w

/-! ### Off the program's text -/
/-- The operations of a region, their guards by the slots of the operations that they wait for. -/
def dstOk (nt : Nat) : Option Nat → Bool
  | some d => decide (d < nt)
  | none => true
def compL (P : Program) (nt : Nat) (ops : Array Oper) : List Oper → Option (List PI)
  | [] => some []
  | o :: l => (comp P o).bind fun k => (compL P nt ops l).bind fun r =>
    if dstOk nt o.dst = true then
      match o.guard with
      | none => some (⟨o.dst, none, k⟩ :: r)
      | some (j, b) => (dstO ops j).bind fun t => if t < nt then some (⟨o.dst, some (t, b), k⟩ :: r) else none
    else none
def wrK : PK → Bool
  | .st _ _ _ | .al _ | .bo _ => true
  | _ => false
/-- How many operations of a region may be met in any order. -/
def headN (l : List PI) : Nat :=
  let n0 := (l.takeWhile fun i => !wrK i.k).length
  let n1 := match l.reverse with
    | ⟨_, _, .ap _ _ _ _⟩ :: _ => l.length - 1
    | _ :: ⟨_, _, .ap _ _ _ _⟩ :: _ => l.length - 2
    | _ => l.length
  min n0 n1
def compC (P : Program) (nt : Nat) (ms : List Nat) : Code → Option PC
  | .skip => some .sk
  | .label _ => some .sk
  | .region id ops draw => if ms.contains id then some (.man (.region id ops draw)) else
    (compL P nt ops ops.toList).bind fun l => match draw with
    | false => some (.rg l)
    | true => if chkG ops (headN l) nt && chkT ops (headN l) && P.follows .mixedOrders then some (.dr (l.take (headN l)) (l.drop (headN l))) else none
  | .seq a b => (compC P nt ms a).bind fun x => (compC P nt ms b).map fun y => .sq x y
  | .cond c a b => (po c).bind fun c => (compC P nt ms a).bind fun x => (compC P nt ms b).map fun y => .cd c x y
  | .block id a => (compC P nt ms a).map (.bk id)
  | .loop a => (compC P nt ms a).map (.lp [])
  | .exit id => some (.ex id)
  | .ret => some .rt
  | _ => none

/-! ### Weaker states -/
variable {P : Program} {B : Bs} {nt : Nat} {g : Gh} {s : PS} {a : Act} {w : World} {D : Nat → Nat → Prop} {ρ : Nat → Nat} {nb : Nat}
theorem Rel1.low {nb' : Nat} {u : Value} {p : PV} (h : Rel1 D ρ nb w u p) (hl : low1 nb' p = true) : Rel1 D ρ nb' w u p := by
  rcases h with h | ⟨i, o, rfl, hi, rfl⟩
  · exact .inl h
  · exact .inr ⟨i, o, rfl, by simpa [low1] using hl, rfl⟩
theorem Rel.low {nb' : Nat} {u : Value} {p : PV} (h : Rel D ρ nb w u p) (hl : lowB nb' p = true) : Rel D ρ nb' w u p := by
  rcases h with h | ⟨f, va, vb, fs, cs, rfl, rfl, h3, h4, h5, h6⟩
  · refine .inl (h.low ?_)
    cases p <;> first | rfl | exact hl
  · simp only [lowB, Bool.and_eq_true, List.all_eq_true] at hl
    exact .inr ⟨f, va, vb, fs, cs, rfl, rfl, h3, h4, fun i q hq => (h5 i q hq).low (hl.1 q (List.mem_of_getElem? hq)), fun i q hq => (h6 i q hq).low (hl.2 q (List.mem_of_getElem? hq))⟩
theorem nil_z {u : Value} (h : Rel D ρ nb w u (.sl [] .z)) : ∃ ad, u = .slice ad 0 0 := by
  obtain ⟨ad, cap, sz, b, off, f, e, h1, h2, _⟩ := h.inv_sl
  have := h2 rfl
  exact ⟨ad, by rw [e, this]; rfl⟩
theorem SubP.rel {nb' : Nat} {u : Value} {p q : PV} (h : SubP nb' p q) (hr : Rel D ρ nb w u p) : Rel D ρ nb' w u q := by
  cases h with
  | und => exact .dat (.und _)
  | eq _ h => exact hr.low h
  | sh _ h => exact hr.sh.low (by cases p <;> first | rfl | exact h)
  | nil n sz =>
    obtain ⟨ad, rfl⟩ := nil_z hr
    exact .dat (.sl ad 0 1 [] _ 0 0 (fun _ => undef) (Nat.le_refl _) (fun h => by cases h) (Nat.zero_le _) (fun h => absurd rfl h) (fun i e h => by simp at h) (fun j h => absurd h (by simp)) (fun i e j p h => by simp at h))
/-- An owner's slice under a weaker state: it was one before, or has no row. -/
theorem SubP.own {nb' : Nat} {u : Value} {p q : PV} (h : SubP nb' p q) (hr : Rel D ρ nb w u p) (ho : q.own ≠ none) : q = p ∨ (blk u = none ∧ ∀ D W w, OwnOk D W w u q) := by
  cases h with
  | und => exact absurd rfl ho
  | eq _ h => exact .inl rfl
  | sh _ h => exact absurd p.sh_own ho
  | nil n sz =>
    obtain ⟨ad, rfl⟩ := nil_z hr
    exact .inr ⟨by cases ad <;> rfl, fun _ _ _ => .inl ⟨ad, rfl, rfl⟩⟩
theorem SubT.get {t : List (Nat × PV)} : ∀ {t' : List (Nat × PV)}, SubT nb t t' → ∀ i, SubP nb (lkp t i) (lkp t' i)
  | [], _, i => .und _
  | (j, q) :: r, h, i => by
    by_cases e : j = i
    · subst e
      simp only [lkp, if_true]
      exact h.1
    · simp only [lkp, if_neg e]
      exact SubT.get h.2 i
theorem SubB.get {l l' : List (List PV)} (h : SubB nb l l') : l'.length ≤ l.length ∧ ∀ (i : Nat) cs', l'[i]? = some cs' → ∃ cs : List PV, l[i]? = some cs ∧ cs.length = cs'.length ∧ ∀ (j : Nat) p q, cs[j]? = some p → cs'[j]? = some q → SubP nb p q := by
  induction h with
  | nil l => exact ⟨by simp, fun i cs' h => by simp at h⟩
  | cons cs cs' l l' h hc hl ih =>
    refine ⟨by simpa using ih.1, fun i cs2 hi => ?_⟩
    cases i with
    | zero => simp at hi; subst hi; exact ⟨cs, rfl, h, hc⟩
    | succ i => simpa using ih.2 i cs2 (by simpa using hi)
theorem R.weak {s' : PS} {x : Nat → Value} (h : R B g s x w) (hs : SubS s s') : R B g s' x w := by
  obtain ⟨hlen, hB⟩ := hs.2.get
  have hT := hs.1.get
  have hsl : ∀ u q, Slot g s' x w u q → ∃ p, Slot g s x w u p ∧ SubP s'.b.length p q := by
    rintro u q (⟨t, rfl, rfl⟩ | ⟨i, j, cs', h1, h2, h3⟩)
    · exact ⟨_, h.slot t, hT t⟩
    · obtain ⟨cs, e1, e2, e3⟩ := hB i cs' h1
      have hj : j < cs.length := by rw [e2]; exact (List.getElem?_eq_some_iff.1 h2).1
      exact ⟨cs[j], .inr ⟨i, j, cs, e1, List.getElem?_eq_getElem hj, h3⟩, e3 j _ _ (List.getElem?_eq_getElem hj) h2⟩
  refine ⟨fun t => (hT t).rel (h.slots t), ?_, fun i j hi hj => h.inj i j (by omega) (by omega), ?_, ?_, ?_, h.dlt, fun i hi => h.dbox i (by omega), h.fr⟩
  · intro i cs' hi
    obtain ⟨cs, e1, e2, e3⟩ := hB i cs' hi
    obtain ⟨hW, vs, e, hv, hz, hb⟩ := h.boxes i cs e1
    refine ⟨hW, vs, e, hv, hz.trans e2, fun j q hq => ?_⟩
    have hj : j < cs.length := by rw [e2]; exact (List.getElem?_eq_some_iff.1 hq).1
    have := hb j _ (List.getElem?_eq_getElem hj)
    exact ⟨(e3 j _ _ (List.getElem?_eq_getElem hj) hq).rel this.1, this.2⟩
  · intro u q hq
    by_cases ho : q.own = none
    · exact ownOk_none ho
    · obtain ⟨p, h1, h2⟩ := hsl u q hq
      rcases h2.own (h.slot_rel h1) ho with rfl | ⟨_, hk⟩
      · exact h.owns u q h1
      · exact hk _ _ _
  · intro u q u' q' b h1 h2 o1 o2 b1 b2
    obtain ⟨p, k1, k2⟩ := hsl u q h1
    obtain ⟨p', k3, k4⟩ := hsl u' q' h2
    rcases k2.own (h.slot_rel k1) o1 with rfl | ⟨hk, _⟩
    · rcases k4.own (h.slot_rel k3) o2 with rfl | ⟨hk, _⟩
      · exact h.disj _ _ _ _ b k1 k3 o1 o2 b1 b2
      · rw [hk] at b2; cases b2
    · rw [hk] at b1; cases b1
  · intro u q b i h1 o1 b1 hi
    obtain ⟨p, k1, k2⟩ := hsl u q h1
    rcases k2.own (h.slot_rel k1) o1 with rfl | ⟨hk, _⟩
    · exact h.ownbox _ _ b i k1 o1 b1 (by omega)
    · rw [hk] at b1; cases b1
theorem RA.weak {s' : PS} (h : RA B nt g s a w) (hs : SubS s s') : RA B nt g s' a w := ⟨h.1.weak hs, h.2⟩

/-! ### Regions -/
theorem put_tsz (a : Act) (d : Option Nat) (u : Value) : (a.put d u).tmps.size = a.tmps.size ∧ (a.put d u).defers = a.defers := by cases d <;> simp [Act.put]
theorem bool_not {c b : Bool} (h : ¬ c = b) : c = !b := by cases c <;> cases b <;> first | rfl | exact absurd rfl h
/-- A truth that a slot holds. -/
theorem RA.fix (h : RA B nt g s a w) {t : Nat} {b : Bool} (ht : t < a.tmps.size) (hv : a.tmps.getD t undef = .bool b) : RA B nt g (s.put (some t) (.v (.bool b))) a w := by
  have e : upd (slt a) (some t) (.bool b) = slt a := by
    funext i
    by_cases h : t = i
    · subst h; rw [upd_same]; exact hv.symm
    · rw [upd_ne _ _ h]
  refine ⟨?_, h.2⟩
  have := h.1.put (some t) (u := .bool b) (p := .v (.bool b)) (.dat (.v _)) (.none rfl)
  rw [e] at this; exact this
/-- States that say the same. -/
def EqS (s s' : PS) : Prop := (∀ t, s.get t = s'.get t) ∧ s.b = s'.b
theorem EqS.refl (s : PS) : EqS s s := ⟨fun _ => rfl, rfl⟩
theorem EqS.put {s s' : PS} (h : EqS s s') (d : Option Nat) (p : PV) : EqS (s.put d p) (s'.put d p) := by
  cases d with
  | none => exact h
  | some d =>
    refine ⟨fun t => ?_, h.2⟩
    by_cases e : d = t
    · subst e; rw [get_put_same, get_put_same]
    · rw [get_put_ne _ _ e, get_put_ne _ _ e]; exact h.1 t
theorem EqS.fix {s s' : PS} (h : EqS s s') {t : Nat} {p : PV} (hp : s'.get t = p) : EqS (s.put (some t) p) s' := by
  refine ⟨fun i => ?_, h.2⟩
  by_cases e : t = i
  · subst e; rw [get_put_same]; exact hp.symm
  · rw [get_put_ne _ _ e]; exact h.1 i
theorem RA.eqS {s s' : PS} (h : RA B nt g s a w) (e : EqS s' s) : RA B nt g s' a w := by
  obtain ⟨t, b⟩ := s
  obtain ⟨t', b'⟩ := s'
  obtain ⟨e1, e2⟩ := e
  simp only at e2
  subst e2
  obtain ⟨⟨h1, h2, h3, h4, h5, h6, h7, h8, h9⟩, hd⟩ := h
  have hs : ∀ u p, Slot g ⟨t', b'⟩ (slt a) w u p → Slot g ⟨t, b'⟩ (slt a) w u p := fun u p h => by
    rcases h with ⟨i, rfl, rfl⟩ | h
    · exact .inl ⟨i, rfl, e1 i⟩
    · exact .inr h
  exact ⟨⟨fun i => by rw [e1 i]; exact h1 i, h2, h3, fun u p h => h4 u p (hs u p h), fun u p u' p' b k1 k2 => h5 u p u' p' b (hs _ _ k1) (hs _ _ k2), fun u p b i k => h6 u p b i (hs _ _ k), h7, h8, h9⟩, hd⟩
theorem list_sound {ops : Array Oper} {Q : PX → PS → Prop} : ∀ (l : List Oper) (is : List PI) (s : PS) (g : Gh) (a : Act) (w : World), compL P nt ops l = some is → pList P is (Q .n) s → RA B nt g s a w →
    wpList P ops (QL B nt Q) l a w
  | [], is, s, g, a, w, hc, hq, h => by
    cases hc
    exact ⟨s, g, h, hq⟩
  | o :: l, is, s, g, a, w, hc, hq, h => by
    simp only [compL, Option.bind_eq_some_iff] at hc
    obtain ⟨k, hk, r, hr, hc⟩ := hc
    split at hc
    · rename_i hd
      have hd' : ∀ t, o.dst = some t → t < a.tmps.size := fun t ht => by
        rw [ht] at hd
        rw [h.2.2]; simpa [dstOk] using hd
      -- the operation, carried out
      have run : ∀ s, RA B nt g s a w → k.e P o.dst s (pList P r (Q .n)) → o.wp P a w (wpList P ops (QL B nt Q) l) (QL B nt Q) := fun s h he => by
        refine e_sound hk hd' h.1 he _ _ fun s' g' u w' h1 h2 => ?_
        exact list_sound l r s' g' _ w' hr h1 ⟨h2, by rw [(put_tsz _ _ _).2]; exact h.2.1, by rw [(put_tsz _ _ _).1]; exact h.2.2⟩
      have skip : ∀ s, RA B nt g s a w → pList P r (Q .n) (s.put o.dst (.v undef)) → wpList P ops (QL B nt Q) l (a.put o.dst undef) w := fun s h he => by
        refine list_sound l r _ g _ w hr he ⟨?_, by rw [(put_tsz _ _ _).2]; exact h.2.1, by rw [(put_tsz _ _ _).1]; exact h.2.2⟩
        rw [slt_put hd']
        exact h.1.put o.dst (.dat (.v _)) (.none rfl)
      unfold wpList
      split at hc
      · rename_i hg
        cases hc
        simp only [Region.wanted, hg, if_true]
        exact .inl (run s h hq)
      · rename_i j b hg
        simp only [Option.bind_eq_some_iff] at hc
        obtain ⟨t, ht, hc⟩ := hc
        split at hc
        · rename_i htn
          cases hc
          have hts : t < a.tmps.size := by rw [h.2.2]; exact htn
          have hy := yielded_at ht hts
          simp only [pList, PI.guard] at hq
          have hrel := h.1.slots t
          split at hq
          · rename_i c e
            rw [e] at hrel
            have hv : a.tmps.getD t undef = .bool c := hrel.v_inv
            rw [hv] at hy
            by_cases hcb : c = b
            · subst hcb
              rw [if_pos (by simp [Region.wanted, hg, hy])]
              exact .inl (run _ (h.fix hts hv) (hq.1 rfl))
            · rw [if_neg (by simp [Region.wanted, hg, hy, hcb])]
              have hneg := bool_not hcb
              exact skip _ (h.fix hts (by rw [hv, hneg])) (hq.2 hneg)
          · rename_i vs e
            rw [e] at hrel
            have hv : a.tmps.getD t undef = .tuple vs := hrel.v_inv
            rw [hv] at hy
            rw [if_neg (by simp [Region.wanted, hg, hy])]
            exact skip _ h hq.2
          · exact hq.elim
        · cases hc
    · cases hc

/-! ### Regions that draw their order -/
def VN (x0 : Nat → Value) (n0 : Nat) (D : Nat → Nat → Prop) (ρ : Nat → Nat) (nb : Nat) (p : PV) : VP := fun u w => Rel D ρ nb w u p ∧ NewOk x0 n0 w u p
def envOf (x0 : Nat → Value) (n0 : Nat) (D : Nat → Nat → Prop) (ρ : Nat → Nat) (nb : Nat) (ps : List (Option Nat × PV)) : List (Option Tmp × VP) := ps.map fun y => (y.1, VN x0 n0 D ρ nb y.2)
def stOf (s : PS) (ps : List (Option Nat × PV)) : PS := ps.foldl (fun s y => s.put y.1 y.2) s
def DistD (ps : List (Option Nat × PV)) : Prop := ps.Pairwise fun x y => x.1 = none ∨ x.1 ≠ y.1
theorem put_b (s : PS) (d : Option Nat) (p : PV) : (s.put d p).b = s.b := by cases d <;> rfl
theorem stOf_b : ∀ (ps : List (Option Nat × PV)) (s : PS), (stOf s ps).b = s.b
  | [], _ => rfl
  | (d, p) :: ps, s => (stOf_b ps (s.put d p)).trans (put_b s d p)
theorem stOf_other {t : Nat} : ∀ (ps : List (Option Nat × PV)) (s : PS), (∀ x ∈ ps, x.1 ≠ some t) → (stOf s ps).get t = s.get t
  | [], _, _ => rfl
  | (d, p) :: ps, s, h => by
    have h1 := stOf_other ps (s.put d p) fun x hx => h x (by simp [hx])
    have h2 := h (d, p) (by simp)
    rw [show stOf s ((d, p) :: ps) = stOf (s.put d p) ps from rfl, h1]
    cases d with
    | none => rfl
    | some d => exact get_put_ne s p fun e => h2 (by rw [e])
theorem lk_env {x0 : Nat → Value} {n0 t : Nat} : ∀ (ps : List (Option Nat × PV)) (s : PS), DistD ps → (∃ p, (some t, p) ∈ ps ∧ lk (envOf x0 n0 D ρ nb ps) t = some (VN x0 n0 D ρ nb p) ∧ (stOf s ps).get t = p) ∨ (lk (envOf x0 n0 D ρ nb ps) t = none ∧ (stOf s ps).get t = s.get t)
  | [], s, _ => .inr ⟨rfl, rfl⟩
  | (d, p) :: ps, s, h => by
    have h' := List.pairwise_cons.1 h
    by_cases e : d = some t
    · subst e
      refine .inl ⟨p, by simp, by simp [envOf, lk], ?_⟩
      rw [show stOf s ((some t, p) :: ps) = stOf (s.put (some t) p) ps from rfl, stOf_other]
      · exact get_put_same s t p
      · intro x hx e
        rcases h'.1 x hx with h1 | h1
        · cases h1
        · exact h1 e.symm
    · rcases lk_env (t := t) ps (s.put d p) h'.2 with ⟨q, h1, h2, h3⟩ | ⟨h1, h2⟩
      · exact .inl ⟨q, by simp [h1], by simpa [envOf, lk, e] using h2, h3⟩
      · refine .inr ⟨by simpa [envOf, lk, e] using h1, ?_⟩
        rw [show stOf s ((d, p) :: ps) = stOf (s.put d p) ps from rfl, h2]
        cases d with
        | none => rfl
        | some d => exact get_put_ne s p fun e' => e (by rw [e'])
theorem stOf_snoc (s : PS) (ps : List (Option Nat × PV)) (d : Option Nat) (p : PV) : stOf s (ps ++ [(d, p)]) = (stOf s ps).put d p := by simp [stOf, List.foldl_append]
theorem envOf_snoc {x0 : Nat → Value} {n0 : Nat} (ps : List (Option Nat × PV)) (d : Option Nat) (p : PV) : envOf x0 n0 D ρ nb (ps ++ [(d, p)]) = envOf x0 n0 D ρ nb ps ++ [(d, VN x0 n0 D ρ nb p)] := by simp [envOf]
theorem below_nob {w w' : World} (h : Keep NoB w w') : Below w.heap.size w w' := h.below (Nat.le_refl _) fun _ _ => id
theorem Rel.nob {w w' : World} {u : Value} {p : PV} (h : Rel D ρ nb w u p) (hk : Keep NoB w w') : Rel D ρ nb w' u p := h.mono (fun _ _ h => h) (fun b o x _ hx => below_cell (below_nob hk) (cell_lt hx) hx) (Nat.le_refl _) fun _ _ => rfl
/-- The end of a region's head. -/
theorem fin_sound {x0 : Nat → Value} {n0 : Nat} {F : Act → World → Prop} {D' : Nat → Nat → Prop} : ∀ (ps : List (Option Nat × PV)) (s : PS) (a : Act), DistD ps → (∀ x ∈ ps, x.2.own = none) → (∀ x ∈ ps, ∀ d, x.1 = some d → d < nt) → (∀ b o, (D b o ∧ b < w.heap.size) → D' b o) → RA B nt ⟨D', ρ⟩ s a w → s.b.length = nb →
    (∀ a', RA B nt ⟨D', ρ⟩ (stOf s ps) a' w → (∀ t p, (some t, p) ∈ ps → NewOk x0 n0 w (slt a' t) p) → (∀ t, (∀ x ∈ ps, x.1 ≠ some t) → slt a' t = slt a t) → F a' w) → finG F w (envOf x0 n0 D ρ nb ps) a
  | [], s, a, _, _, _, _, h, _, hF => hF a h (fun t p h => by cases h) fun _ _ => rfl
  | (none, p) :: ps, s, a, h0, h1, h2, h3, h, hb, hF => fin_sound ps s a (List.pairwise_cons.1 h0).2 (fun x hx => h1 x (by simp [hx])) (fun x hx => h2 x (by simp [hx])) h3 h hb fun a' k1 k2 k3 => hF a' k1 (fun t q hq => k2 t q (by
      rcases List.mem_cons.1 hq with hq | hq
      · cases hq
      · exact hq)) (fun t ht => k3 t fun x hx => ht x (by simp [hx]))
  | (some d, p) :: ps, s, a, h0, h1, h2, h3, h, hb, hF => by
    intro u hu
    have hd := h2 (some d, p) (by simp) d rfl
    have h0' := List.pairwise_cons.1 h0
    have hda : d < a.tmps.size := by rw [h.2.2]; exact hd
    have hsl : slt (a.put (some d) u) = upd (slt a) (some d) u := slt_put (by intro t ht; cases ht; exact hda)
    have hnd : ∀ x ∈ ps, x.1 ≠ some d := fun x hx e => by
      rcases h0'.1 x hx with h | h
      · cases h
      · exact h e.symm
    refine fin_sound ps (s.put (some d) p) _ h0'.2 (fun x hx => h1 x (by simp [hx])) (fun x hx => h2 x (by simp [hx])) h3 ⟨?_, by rw [(put_tsz _ _ _).2]; exact h.2.1, by rw [(put_tsz _ _ _).1]; exact h.2.2⟩ (by rw [put_b]; exact hb) fun a' k1 k2 k3 => hF a' k1 (fun t q hq => ?_) fun t ht => ?_
    · rw [hsl]
      have hu' : Rel D ρ nb w u p := hu.1
      refine h.1.put (some d) ?_ (.none (h1 (some d, p) (by simp)))
      rw [hb]
      exact hu'.restrict.mono h3 (fun _ _ _ _ h => h) (Nat.le_refl _) fun _ _ => rfl
    · rcases List.mem_cons.1 hq with hq | hq
      · cases hq
        rw [k3 d hnd, hsl, upd_same]
        exact hu.2
      · exact k2 t q hq
    · rw [k3 t fun x hx => ht x (by simp [hx]), hsl]
      exact upd_ne _ _ fun e => ht (some d, p) (by simp) (by rw [e])
/-- What the slots hold of which nothing is known may be anything. -/
theorem R.slotsU {s : PS} {x x' : Nat → Value} (h : R B g s x w) (hx : ∀ t, s.get t = .und ∨ x' t = x t) : R B g s x' w := by
  have hs : ∀ u p, Slot g s x' w u p → p.own ≠ none → Slot g s x w u p := fun u p hp ho => by
    rcases hp with ⟨t, rfl, rfl⟩ | hp
    · rcases hx t with h | h
      · rw [h] at ho; exact absurd rfl ho
      · exact .inl ⟨t, h, rfl⟩
    · exact .inr hp
  refine ⟨fun t => ?_, h.boxes, h.inj, fun u p hp => ?_, fun u p u' p' b k1 k2 o1 o2 => h.disj u p u' p' b (hs _ _ k1 o1) (hs _ _ k2 o2) o1 o2, fun u p b i k o1 => h.ownbox u p b i (hs _ _ k o1) o1, h.dlt, h.dbox, h.fr⟩
  · rcases hx t with h' | h'
    · rw [h']; exact .dat (.und _)
    · rw [h']; exact h.slots t
  · by_cases ho : p.own = none
    · exact ownOk_none ho
    · exact h.owns _ _ (hs _ _ hp ho)
theorem forget_get : ∀ (h : List PI) (s : PS) (t : Nat), (forget h s).get t = .und ∨ ((forget h s).get t = s.get t ∧ ∀ i ∈ h, i.d ≠ some t)
  | [], s, t => .inr ⟨rfl, fun i h => by cases h⟩
  | i :: h, s, t => by
    rcases forget_get h (s.put i.d .und) t with e | ⟨e, k⟩
    · exact .inl e
    · by_cases hd : i.d = some t
      · left
        rw [show forget (i :: h) s = forget h (s.put i.d .und) from rfl, e, hd, get_put_same]
      · right
        refine ⟨?_, fun j hj => ?_⟩
        · rw [show forget (i :: h) s = forget h (s.put i.d .und) from rfl, e]
          cases hdd : i.d with
          | none => rfl
          | some d => exact get_put_ne s .und fun e' => hd (by rw [hdd, e'])
        · rcases List.mem_cons.1 hj with rfl | hj
          · exact hd
          · exact k j hj
theorem forget_b : ∀ (h : List PI) (s : PS), (forget h s).b = s.b
  | [], _ => rfl
  | i :: h, s => (forget_b h (s.put i.d .und)).trans (put_b s i.d .und)
theorem R.forget {h : List PI} {s : PS} {x x' : Nat → Value} (hR : R B g s x w) (hx : ∀ t, (∀ i ∈ h, i.d ≠ some t) → x' t = x t) : R B g (forget h s) x' w := by
  have hg : ∀ t, (Go.Proofs.Ytcedofkenfddkaa.forget h s).get t = .und ∨ ((Go.Proofs.Ytcedofkenfddkaa.forget h s).get t = s.get t ∧ ∀ i ∈ h, i.d ≠ some t) := forget_get h s
  have r1 : R B g (Go.Proofs.Ytcedofkenfddkaa.forget h s) x w := by
    have hs : ∀ u p, Slot g (Go.Proofs.Ytcedofkenfddkaa.forget h s) x w u p → p.own ≠ none → Slot g s x w u p := fun u p hp ho => by
      rcases hp with ⟨t, rfl, rfl⟩ | hp
      · rcases hg t with h | h
        · rw [h] at ho; exact absurd rfl ho
        · exact .inl ⟨t, rfl, h.1⟩
      · rw [forget_b] at hp; exact .inr hp
    refine ⟨fun t => ?_, fun i cs hi => ?_, fun i j => by rw [forget_b]; exact hR.inj i j, fun u p hp => ?_, fun u p u' p' b k1 k2 o1 o2 => hR.disj u p u' p' b (hs _ _ k1 o1) (hs _ _ k2 o2) o1 o2, fun u p b i k o1 b1 hi => hR.ownbox u p b i (hs _ _ k o1) o1 b1 (by rw [forget_b] at hi; exact hi), hR.dlt, fun i hi => hR.dbox i (by rw [forget_b] at hi; exact hi), hR.fr⟩
    · rw [forget_b]
      rcases hg t with h' | h'
      · rw [h']; exact .dat (.und _)
      · rw [h'.1]; exact hR.slots t
    · rw [forget_b] at hi ⊢; exact hR.boxes i cs hi
    · by_cases ho : p.own = none
      · exact ownOk_none ho
      · exact hR.owns _ _ (hs _ _ hp ho)
  refine r1.slotsU fun t => ?_
  rcases hg t with h' | h'
  · exact .inl h'
  · exact .inr (hx t h'.2)
theorem flat_row {D' : Nat → Nat → Prop} {w' : World} {sz : Nat} {vs : List Value} {es : List (List PV)} (h : RowD D w sz vs es) (hf : flatE es) : RowD D' w' sz vs es := by
  refine ⟨h.1, h.2.1, h.2.2.1, fun i e j p h1 h2 => ?_⟩
  obtain ⟨x, rfl⟩ := hf e (List.mem_of_getElem? h1) p (List.mem_of_getElem? h2)
  have := h.2.2.2 i e j _ h1 h2
  generalize vs.getD (i * sz + j) undef = u at this ⊢
  cases this
  exact .v _
/-- An append to a slice that was just made: a fresh row. -/
theorem ap_n {o : Oper} {x y : Operand} {t e : TypeId} {i : TypeInfo} {z : Value} {n0 : Nat} (h : ApOp P o x y t e i z) {es es' : List (List PV)} {k : Ow} (hx : Rel D ρ nb w (a.eval x) (.sl es (.n i.size))) {x0 : Nat → Value} (hN : NewOk x0 n0 w (a.eval x) (.sl es (.n i.size))) (hy : Rel D ρ nb w (a.eval y) (.sl es' k)) (hn0 : n0 ≤ w.heap.size)
    (h1 : ∀ e ∈ es, e.length = i.size) (h2 : ∀ e ∈ es', e.length = i.size) (hby : (es.length + es'.length) * i.bytes ≤ 140737488355328) (hne : es' ≠ []) :
    ∃ g' cap' cs e' vs w', (execOp a.eval o).run P w = .ok (.value (.slice (some ⟨g', 0, none⟩) (es ++ es').length cap')) w' ∧ n0 ≤ g' ∧ Below n0 w w' ∧ w'.heap[g']? = some (.cells cs e' (0, 0)) ∧ (es ++ es').length ≤ cap' ∧ cap' ≤ maxLen ∧ cs.size = cap' * i.size ∧
      RowD D w i.size vs (es ++ es') ∧ ∀ j, j < vs.length → cs[j]? = some (vs.getD j undef) := by
  obtain ⟨ad, cap, vs, e1, c1, c2, _, r1, g1⟩ := sl_row hx h1
  obtain ⟨ad', cap', vs', e2, d1, d2, _, r2, g2⟩ := sl_row hy h2
  obtain ⟨b', off', rfl, g3⟩ := g2 hne
  have hpos : 0 < es'.length := List.length_pos_iff.2 hne
  have hnew : ∀ j v, vs'[j]? = some v → w.cell? ((⟨b', off', none⟩ : Addr).add j) = some v := fun j v hv => by rw [add_none]; exact (g3 j v hv).2
  have hold : es.length ≠ 0 → ∃ b, ad = some b ∧ ∀ j v, vs[j]? = some v → w.cell? (b.add j) = some v := fun hn => by
    obtain ⟨b, off, rfl, g4⟩ := g1 (by intro e; subst e; simp at hn)
    exact ⟨_, rfl, fun j v hv => by rw [add_none]; exact (g4 j v hv).2⟩
  have grow : cap < es.length + es'.length → (ad = none → cap = 0) → ∃ g' cap' cs e' vs w', (execOp a.eval o).run P w = .ok (.value (.slice (some ⟨g', 0, none⟩) (es ++ es').length cap')) w' ∧ n0 ≤ g' ∧ Below n0 w w' ∧ w'.heap[g']? = some (.cells cs e' (0, 0)) ∧ (es ++ es').length ≤ cap' ∧ cap' ≤ maxLen ∧ cs.size = cap' * i.size ∧
      RowD D w i.size vs (es ++ es') ∧ ∀ j, j < vs.length → cs[j]? = some (vs.getD j undef) := fun hcap hnil => by
    obtain ⟨cp, cs, hr, k1, k2, k3, k4⟩ := append_new (P := P) (w := w) (ty := o.type) (c := cap') h.ht h.hi h.hz h.hzs h.hb r1.1 r2.1 hold hnil hnew hcap hby
    refine ⟨w.heap.size, cp, cs, e, vs ++ vs', _, by rw [List.length_append]; exact h.run e1 e2 hr, hn0, (below_drew_alloc w _).mono hn0, World.alloc_heap_new w.drew _, by simpa using k1, k2, k3, r1.append r2, k4⟩
  rcases hN with ⟨ad2, hu⟩ | ⟨g', cp, cur, e', hg, hu, hh, hcs⟩
  · rw [e1] at hu
    injection hu with h5 h6 h7
    refine grow (by omega) fun hn => ?_
    by_cases he : es = []
    · subst he; simpa using h7
    · obtain ⟨b, off, e, _⟩ := g1 he; rw [hn] at e; cases e
  · rw [e1] at hu
    injection hu with h5 h6 h7
    subst h5
    subst h7
    by_cases hroom : es.length + es'.length ≤ cap
    · have hfit : es.length * i.size + vs'.length ≤ cur.size := by rw [r2.1, hcs, ← Nat.add_mul]; exact Nat.mul_le_mul_right _ hroom
      have hr := append_room (P := P) (w := w) (ty := o.type) (c := cap') h.ht h.hi hh r2.1 hnew (row_one r2) hroom hfit
      obtain ⟨new, hnw⟩ : ∃ new, (cur.toList.take (es.length * i.size) ++ vs' ++ cur.toList.drop (es.length * i.size + vs'.length)).toArray = new := ⟨_, rfl⟩
      rw [hnw] at hr
      have hvl : vs.length = es.length * i.size := r1.1
      refine ⟨g', cap, new, e', vs ++ vs', w.setRow g' new, by rw [List.length_append]; exact h.run e1 e2 hr, hg, ⟨rfl, rfl, rfl, by simp, fun k hk => setRow_other w _ _ new (by omega)⟩, setRow_heap w g' cur new e' (0, 0) hh, by simpa using hroom, c2, by rw [← hcs, ← hnw]; simp; omega, r1.append r2, fun j hj => ?_⟩
      have ht : (cur.toList.take (es.length * i.size)).length = es.length * i.size := by simp; omega
      rw [← hnw]
      simp only [List.getElem?_toArray]
      rw [List.length_append] at hj
      rw [List.getD_eq_getElem?_getD, List.append_assoc]
      by_cases h1 : j < es.length * i.size
      · have hj2 : j < vs.length := by omega
        have hes : es.length ≠ 0 := by intro e; rw [e] at h1; omega
        obtain ⟨b, eb, hb⟩ := hold hes
        cases eb
        have := hb j _ (List.getElem?_eq_getElem hj2)
        rw [add_none] at this
        simp only [World.cell?, hh, Nat.zero_add] at this
        rw [List.getElem?_append_left (by omega), List.getElem?_take, if_pos h1, List.getElem?_append_left hj2, List.getElem?_eq_getElem hj2]
        simpa using this
      · rw [List.getElem?_append_right (by omega), ht, List.getElem?_append_left (by omega), List.getElem?_append_right (by omega), hvl]
        have hj2 : j - es.length * i.size < vs'.length := by omega
        rw [List.getElem?_eq_getElem hj2]
        rfl
    · exact grow (by omega) fun h => by cases h
theorem lk_mem {x0 : Nat → Value} {n0 t : Nat} : ∀ (ps : List (Option Nat × PV)) (p : PV), (some t, p) ∈ ps → lk (envOf x0 n0 D ρ nb ps) t ≠ none
  | y :: ps, p, h => by
    by_cases e : y.1 = some t
    · simp [envOf, lk, e]
    · rcases List.mem_cons.1 h with h | h
      · rw [← h] at e; exact absurd rfl e
      · have := lk_mem (x0 := x0) (n0 := n0) ps p h
        simpa [envOf, lk, e] using this
theorem head_sound {ops : Array Oper} {Q : Exit → Act → World → Prop} {F : Act → World → Prop} {s0 : PS} {a0 : Act} {w0 : World} {nh : Nat} (hchk : chkG ops nh nt = true) {K : PS → Prop}
    (h0 : ∀ w, Keep NoB w0 w → ∀ t, Rel D ρ s0.b.length w (a0.tmps.getD t undef) (s0.get t)) (hbox : ∀ w, Keep NoB w0 w → ∀ (i : Nat) cs, s0.b[i]? = some cs → BoxR ⟨D, ρ⟩ s0.b.length w i cs) (hnew : ∀ b o, w0.heap.size ≤ b → D b o) (hcl : ∀ t, (s0.get t).isN = false)
    (hF : ∀ ps w, Keep NoB w0 w → DistD ps → ps.length = nh → (∀ (j : Nat) x, ps[j]? = some x → x.1 = dstO ops j) → (∀ x ∈ ps, x.2.own = none) → (∀ x ∈ ps, ∀ d, x.1 = some d → d < nt) → (∃ s', EqS s' (stOf s0 ps) ∧ K s') → finG F w (envOf (slt a0) w0.heap.size D ρ s0.b.length ps) a0) :
    ∀ (l : List Oper) (is : List PI) (ps : List (Option Nat × PV)) (s' : PS), EqS s' (stOf s0 ps) → compL P nt ops l = some is → ps.length + l.length = nh → (∀ j, j < l.length → ops[ps.length + j]? = l[j]?) → (∀ (j : Nat) x, ps[j]? = some x → x.1 = dstO ops j) → DistD ps → (∀ x ∈ ps, x.2.own = none) →
      pHead P is K s' → walkG (opwP P Q) a0 w0 (fun w => Keep NoB w0 w) F l (envOf (slt a0) w0.heap.size D ρ s0.b.length ps)
  | [], is, ps, s', hE, hc, hl, ho, hd, hdd, hown, hq => by
    cases hc
    intro w hw _
    refine hF ps w hw hdd (by simpa using hl) hd hown (fun x hx d hxd => ?_) ⟨s', hE, hq⟩
    obtain ⟨j, hj⟩ := List.getElem?_of_mem hx
    have hjn : j < nh := by have := (List.getElem?_eq_some_iff.1 hj).1; simp at hl; omega
    obtain ⟨o, ho, _, _, h3, _⟩ := chk_at hchk hjn
    have := hd j x hj
    rw [hxd] at this
    unfold dstO at this
    rw [ho] at this
    exact (h3 d this.symm).1
  | o :: l, is, ps, s', hE, hc, hl, ho, hd, hdd, hown, hq => by
    simp only [compL, Option.bind_eq_some_iff] at hc
    obtain ⟨k, hk, r, hr, hc⟩ := hc
    split at hc
    · rename_i hdk
      simp only [List.length_cons] at hl
      have hi : ps.length < nh := by omega
      obtain ⟨o', ho', _, hgd, hds, _⟩ := chk_at hchk hi
      have hoo : o' = o := by
        have := ho 0 (by simp)
        simp only [Nat.add_zero, List.getElem?_cons_zero] at this
        rw [this] at ho'
        exact (Option.some.inj ho').symm
      subst hoo
      -- going on
      have next : ∀ (s' : PS) (p : PV), EqS s' (stOf s0 ps) → p.own = none → pHead P r K (s'.put o'.dst p) → walkG (opwP P Q) a0 w0 (fun w => Keep NoB w0 w) F l (envOf (slt a0) w0.heap.size D ρ s0.b.length ps ++ [(o'.dst, VN (slt a0) w0.heap.size D ρ s0.b.length p)]) := fun s' p hE hp hq' => by
        rw [← envOf_snoc]
        refine head_sound hchk h0 hbox hnew hcl hF l r (ps ++ [(o'.dst, p)]) (s'.put o'.dst p) (by rw [stOf_snoc]; exact hE.put _ _) hr (by simp; omega) (fun j hj => ?_) (fun j x hj => ?_) ?_ (fun x hx => ?_) hq'
        · have := ho (j + 1) (by simpa using hj)
          simp only [List.getElem?_cons_succ] at this
          rw [← this]
          congr 1
          simp; omega
        · rcases Nat.lt_or_ge j ps.length with h' | h'
          · rw [List.getElem?_append_left h'] at hj; exact hd j x hj
          · rw [List.getElem?_append_right h'] at hj
            have e : j - ps.length = 0 := by have := (List.getElem?_eq_some_iff.1 hj).1; simp at this; omega
            rw [e] at hj
            simp at hj
            subst hj
            have : j = ps.length := by omega
            subst this
            unfold dstO; rw [ho']; rfl
        · refine List.pairwise_append.2 ⟨hdd, by simp, fun x hx y hy => ?_⟩
          simp at hy
          subst hy
          obtain ⟨j, hj⟩ := List.getElem?_of_mem hx
          cases hxd : x.1 with
          | none => exact .inl rfl
          | some d =>
            refine .inr fun e => ?_
            have hjl := (List.getElem?_eq_some_iff.1 hj).1
            have := (hds d e.symm).2 j (by omega) ((hd j x hj).symm.trans hxd)
            omega
        · rcases List.mem_append.1 hx with hx | hx
          · exact hown x hx
          · simp at hx; subst hx; exact hp
      -- what is read
      have rd : ∀ s', EqS s' (stOf s0 ps) → ∀ a w, Keep NoB w0 w → Rds (envOf (slt a0) w0.heap.size D ρ s0.b.length ps) a0 (rdsO o') a w → Rd D ρ s' (slt a) (rdsO o') w := fun s' hE a w hw hrds => by
        refine ⟨fun t ht => ?_, fun i cs hcs => ?_⟩
        · rw [hE.2, stOf_b, hE.1]
          revert ht
          generalize rdsO o' = ts at hrds ⊢
          induction ts with
          | nil => intro ht; cases ht
          | cons t' ts ih =>
            intro ht
            obtain ⟨h1, h2⟩ := hrds
            rcases List.mem_cons.1 ht with rfl | ht
            · rcases lk_env (x0 := slt a0) (n0 := w0.heap.size) (D := D) (ρ := ρ) (nb := s0.b.length) (t := t) ps s0 hdd with ⟨p, _, e1, e2⟩ | ⟨e1, e2⟩
              · rw [e1] at h1
                obtain ⟨u, hu, hv⟩ := h1
                rw [e2]
                have : slt a t = u := hu.2.1
                rw [this]; exact hv.1
              · rw [e1] at h1
                rw [e2]
                have : slt a t = a0.tmps.getD t undef := h1.2.1
                rw [this]; exact h0 w hw t
            · exact ih h2 ht
        · rw [hE.2, stOf_b] at hcs ⊢
          exact hbox w hw i cs hcs
      have nw : ∀ s', EqS s' (stOf s0 ps) → ∀ a w, Keep NoB w0 w → Rds (envOf (slt a0) w0.heap.size D ρ s0.b.length ps) a0 (rdsO o') a w → News (slt a0) w0.heap.size s' (slt a) (rdsO o') w := fun s' hE a w hw hrds => by
        refine ⟨hw.size, fun t ht => ?_⟩
        rw [hE.1]
        revert ht
        generalize rdsO o' = ts at hrds ⊢
        induction ts with
        | nil => intro ht; cases ht
        | cons t' ts ih =>
          intro ht
          obtain ⟨h1, h2⟩ := hrds
          rcases List.mem_cons.1 ht with rfl | ht
          · rcases lk_env (x0 := slt a0) (n0 := w0.heap.size) (D := D) (ρ := ρ) (nb := s0.b.length) (t := t) ps s0 hdd with ⟨p, hp0, e1, e2⟩ | ⟨e1, e2⟩
            · rw [e1] at h1
              obtain ⟨u, hu, hv⟩ := h1
              rw [e2]
              have : slt a t = u := hu.2.1
              rw [this]
              exact ⟨hv.2, fun ho => absurd (hown _ hp0) ho⟩
            · rw [e1] at h1
              rw [e2]
              have : slt a t = a0.tmps.getD t undef := h1.2.1
              exact ⟨newOk_of (hcl t), fun _ => this.symm⟩
          · exact ih h2 ht
      have run : ∀ s', EqS s' (stOf s0 ps) → (k.q P s' fun p => p.own = none ∧ pHead P r K (s'.put o'.dst p)) → ∃ p : PV, p.own = none ∧ headOk (opwP P Q) a0 w0 (fun w => Keep NoB w0 w) (envOf (slt a0) w0.heap.size D ρ s0.b.length ps) o' (VN (slt a0) w0.heap.size D ρ s0.b.length p) ∧ pHead P r K (s'.put o'.dst p) := fun s' hE hk2 => by
        obtain ⟨p, h1, h2⟩ := q_det k _ hk2
        obtain ⟨hp, h1⟩ := h1
        refine ⟨p, hp, ?_, h1⟩
        intro a w hc hk3 hr2 K2 hK2
        obtain ⟨p', rfl, _, hq3⟩ := q_sound hk (rd s' hE a w hk3 hr2) h2
        refine hq3 K2 Q fun u w' hb hrel hnw => ?_
        have hk4 : Keep NoB w w' := Keep.of_below' hb (Nat.le_refl _)
        refine hK2 u w' hk4 (hc.trans hk4) ?_
        rw [hE.2, stOf_b] at hrel
        refine ⟨hrel.mono (fun b o h => ?_) (fun _ _ _ _ h => h) (Nat.le_refl _) fun _ _ => rfl, hnw _ _ (nw s' hE a w hk3 hr2)⟩
        rcases h with h | h
        · exact h
        · exact hnew b o (Nat.le_trans hk3.size h)
      have yes : ∀ s', EqS s' (stOf s0 ps) → (k.q P s' fun p => p.own = none ∧ pHead P r K (s'.put o'.dst p)) → ∀ hst : ∀ V : VP, headOk (opwP P Q) a0 w0 (fun w => Keep NoB w0 w) (envOf (slt a0) w0.heap.size D ρ s0.b.length ps) o' V → stepOk (opwP P Q) a0 w0 (fun w => Keep NoB w0 w) (envOf (slt a0) w0.heap.size D ρ s0.b.length ps) o' V,
          walkG (opwP P Q) a0 w0 (fun w => Keep NoB w0 w) F (o' :: l) (envOf (slt a0) w0.heap.size D ρ s0.b.length ps) := fun s' hE hk2 hst => by
        obtain ⟨p, h1, h2, h3⟩ := run s' hE hk2
        exact ⟨_, fun u w w' h hk => ⟨h.1.nob hk, h.2.mono (Nat.le_refl _) fun k hk' => hk.block k hk' fun h => h⟩, hst _ h2, next s' p hE h1 h3⟩
      have no : ∀ s', EqS s' (stOf s0 ps) → pHead P r K (s'.put o'.dst (.v undef)) → ∀ hst : stepOk (opwP P Q) a0 w0 (fun w => Keep NoB w0 w) (envOf (slt a0) w0.heap.size D ρ s0.b.length ps) o' (fun u _ => u = undef),
          walkG (opwP P Q) a0 w0 (fun w => Keep NoB w0 w) F (o' :: l) (envOf (slt a0) w0.heap.size D ρ s0.b.length ps) := fun s' hE hk2 hst => by
        have hV : VN (slt a0) w0.heap.size D ρ s0.b.length (.v undef) = fun (u : Value) (_ : World) => u = undef := by
          funext u w
          exact propext ⟨fun h => h.1.v_inv, fun h => by subst h; exact ⟨.dat (.v _), trivial⟩⟩
        have := next s' (.v undef) hE rfl hk2
        rw [hV] at this
        exact ⟨_, fun u w w' h hk => h, hst, this⟩
      split at hc
      · rename_i hg
        cases hc
        exact yes s' hE hq fun V hV => by unfold stepOk; rw [hg]; exact hV
      · rename_i j b hg
        simp only [Option.bind_eq_some_iff] at hc
        obtain ⟨t, ht, hc⟩ := hc
        split at hc
        · rename_i htn
          cases hc
          obtain ⟨hji, _, _⟩ := hgd j b hg
          have hget : ∃ p, (envOf (slt a0) w0.heap.size D ρ s0.b.length ps)[j]? = some (some t, VN (slt a0) w0.heap.size D ρ s0.b.length p) ∧ (stOf s0 ps).get t = p := by
            have hx := List.getElem?_eq_getElem hji
            have hdx := hd j _ hx
            rw [ht] at hdx
            have hm : ps[j] = (some t, ps[j].2) := Prod.ext hdx rfl
            refine ⟨ps[j].2, by unfold envOf; rw [List.getElem?_map, hx, hm]; rfl, ?_⟩
            rcases lk_env (x0 := slt a0) (n0 := w0.heap.size) (D := D) (ρ := ρ) (nb := s0.b.length) (t := t) ps s0 hdd with ⟨p, hp1, _, e2⟩ | ⟨e1, _⟩
            · obtain ⟨j', hj'⟩ := List.getElem?_of_mem hp1
              have hj'l := (List.getElem?_eq_some_iff.1 hj').1
              obtain ⟨oj, hoj, _, _, hdj, _⟩ := chk_at hchk (show j < nh by omega)
              have : j' = j := (hdj t (by have := ht; unfold dstO at this; rw [hoj] at this; exact this)).2 j' (by omega) (hd j' _ hj').symm
              subst this
              rw [hx] at hj'
              simp only [Option.some.injEq] at hj'
              rw [e2, hj']
            · exfalso
              have hmem : (some t, ps[j].2) ∈ ps := by rw [← hm]; exact List.getElem_mem hji
              exact lk_mem ps _ hmem e1
          obtain ⟨p, hp1, hp2⟩ := hget
          simp only [pHead, PI.guard] at hq
          split at hq
          · rename_i c e
            rw [hE.1, hp2] at e
            subst e
            by_cases hcb : c = b
            · subst hcb
              refine yes _ (hE.fix hp2) (hq.1 rfl) fun V hV => ?_
              unfold stepOk
              rw [hg]
              refine .inl ⟨?_, hV⟩
              unfold isV; rw [hp1]; exact fun u w h => h.1.v_inv
            · have hneg := bool_not hcb
              refine no _ (hE.fix (by rw [hp2, hneg])) (hq.2 hneg) ?_
              unfold stepOk
              rw [hg]
              refine .inr ⟨.inl ?_, rfl⟩
              unfold isV; rw [hp1]
              intro u w h
              rw [← hneg]; exact h.1.v_inv
          · rename_i vs e
            rw [hE.1, hp2] at e
            subst e
            obtain ⟨rfl, hq⟩ := hq
            refine no s' hE hq ?_
            unfold stepOk
            rw [hg]
            refine .inr ⟨.inr ?_, rfl⟩
            unfold isV; rw [hp1]
            exact fun u w h => h.1.v_inv
          · exact hq.elim
        · cases hc
    · cases hc
/-- The state of some slots. -/
def klS (s : PS) (keep : List Nat) : PS := ⟨keep.map fun j => (j, s.get j), []⟩
theorem kl_get (s : PS) (t : Nat) : ∀ keep : List Nat, (klS s keep).get t = if t ∈ keep then s.get t else .und
  | [] => rfl
  | j :: l => by
    have ih := kl_get s t l
    show lkp ((j, s.get j) :: l.map fun j => (j, s.get j)) t = _
    by_cases e : j = t
    · subst e; simp [lkp]
    · have e' : ¬ t = j := fun h => e h.symm
      simp only [lkp, if_neg e, List.mem_cons, e', false_or]
      exact ih
theorem R.kl {n : Nat} {s : PS} {x x' : Nat → Value} (h : R B g s x w) (keep : List Nat) (hsm : ∀ j ∈ keep, simple1 n (s.get j)) (hx : ∀ j ∈ keep, x' j = x j) : R B g (klS s keep) x' w := by
  have hs : ∀ u p, Slot g (klS s keep) x' w u p → p.own ≠ none → Slot g s x w u p := fun u p hp ho => by
    rcases hp with ⟨t, rfl, rfl⟩ | ⟨i, j, cs, h1, _⟩
    · rw [kl_get] at ho ⊢
      split at ho
      · rename_i hm; rw [if_pos hm]; exact .inl ⟨t, hx t hm, rfl⟩
      · exact absurd rfl ho
    · simp [klS] at h1
  refine ⟨fun t => ?_, fun i cs hi => by simp [klS] at hi, fun i j hi => by simp [klS] at hi, fun u p hp => ?_, fun u p u' p' b k1 k2 o1 o2 => h.disj u p u' p' b (hs _ _ k1 o1) (hs _ _ k2 o2) o1 o2, fun u p b i k o1 b1 hi => by simp [klS] at hi, h.dlt, fun i hi => by simp [klS] at hi, h.fr⟩
  · rw [kl_get]
    split
    · rename_i hm
      rw [hx t hm]
      have hrel := h.slots t
      have hs1 := hsm t hm
      have : (s.get t).isD = true := by
        revert hs1
        cases s.get t <;> intro h <;> first | rfl | exact h.elim
      exact .dat (hrel.data this)
    · exact .dat (.und _)
  · by_cases ho : p.own = none
    · exact ownOk_none ho
    · exact h.owns _ _ (hs _ _ hp ho)
theorem cut_run {fr : Prop} {o : Oper} {x y : Operand} {t e : TypeId} {ti : TypeInfo} {z : Value} {w' : World} {a' : Act} {es es0 es' : List (List PV)} {n i len cap d : Nat} {k : Ow} {keep : List Nat} {ad : Option Addr} {D2 : Nat → Nat → Prop} {x0 : Nat → Value}
    (hfr1 : fr) (hfr : fr → ∀ k, ¬ B.Sb k) (h : R B g s x0 w) (hb : Below w.heap.size w w') (hA : ApOp P o x y t e ti z) (hxv : a'.eval x = .slice ad es.length cap) (hry : Rel D2 ρ nb w' (a'.eval y) (.sl es' k)) (hsi : s.get i = .sl es0 (.r n ti.size)) (p1 : x0 i = .slice ad len cap)
    (hrx : Rel D2 ρ nb w' (.slice ad es.length cap) (.sl es (.p i))) (f1 : flatE es) (f2 : flatE es') (f3 : ∀ e ∈ es, e.length = ti.size) (f4 : ∀ e ∈ es', e.length = ti.size) (f5 : (es.length + es'.length) * ti.bytes ≤ 140737488355328) (f6 : es' ≠ [])
    (hpw : keep.Pairwise fun i j => (s.get i).own = none ∨ (s.get i).own ≠ (s.get j).own) (hsm : ∀ j ∈ keep, simple1 n (s.get j)) (hdsts : ∀ j ∈ keep, slt a' j = x0 j) :
    ∃ g2 w2 u, (execOp a'.eval o).run P w' = .ok (.value u) w2 ∧ R B g2 ⟨(d, .sl (es ++ es') (.r n ti.size)) :: keep.map (fun j => (j, s.get j)), []⟩ (upd (slt a') (some d) u) w2 := by
  obtain ⟨ad1, cap1, vs, e1, c1, c2, _, r1, g1⟩ := sl_row (sz := ti.size) hrx f3
  injection e1 with q1 q2 q3
  subst q1
  subst q3
  obtain ⟨ad', cap', vs', e2, d1, d2, _, r2, g2⟩ := sl_row hry f4
  obtain ⟨b', off', rfl, g3⟩ := g2 f6
  have hpos : 0 < es'.length := List.length_pos_iff.2 f6
  have hne : es ++ es' ≠ [] := fun e => f6 (List.append_eq_nil_iff.1 e).2
  have hflat : flatE (es ++ es') := fun e he => by
    rcases List.mem_append.1 he with he | he
    · exact f1 e he
    · exact f2 e he
  have hnew : ∀ j v, vs'[j]? = some v → w'.cell? ((⟨b', off', none⟩ : Addr).add j) = some v := fun j v hv => by rw [add_none]; exact (g3 j v hv).2
  have hold : es.length ≠ 0 → ∃ b, ad = some b ∧ ∀ j v, vs[j]? = some v → w'.cell? (b.add j) = some v := fun hn => by
    obtain ⟨b, off, rfl, g4⟩ := g1 (by intro e; subst e; simp at hn)
    exact ⟨_, rfl, fun j v hv => by rw [add_none]; exact (g4 j v hv).2⟩
  have hkl := h.kl keep hsm hdsts
  have hown := h.owns _ _ (h.slot i)
  have hslot := h.slot i
  rw [hsi] at hown
  rw [p1] at hown
  have grow : cap < es.length + es'.length → (ad = none → cap = 0) → ∃ g2 w2 u, (execOp a'.eval o).run P w' = .ok (.value u) w2 ∧ R B g2 ⟨(d, .sl (es ++ es') (.r n ti.size)) :: keep.map (fun j => (j, s.get j)), []⟩ (upd (slt a') (some d) u) w2 := fun hcap hnil => by
    obtain ⟨cp, cs, hr, k1, k2, k3, k4⟩ := append_new (P := P) (w := w') (ty := o.type) (c := cap') hA.ht hA.hi hA.hz hA.hzs hA.hb r1.1 r2.1 hold hnil hnew hcap f5
    obtain ⟨g5, hR⟩ := hkl.fresh (n0 := n) (hb.trans ((below_drew_alloc w' (.cells cs e)).mono hb.size)) (g' := w'.heap.size) hb.size (World.alloc_heap_new w'.drew (.cells cs e)) (flat_row (r1.append r2) hflat) k4 (by simpa using k1) k2 k3 hne (some d)
    rw [List.length_append] at hR
    exact ⟨g5, _, _, hA.run hxv e2 hr, hR⟩
  rcases hown with ⟨ad2, hz, hes0⟩ | ⟨gg, cap2, cur, e', hu, hW, hh, hcs, hel, hnD⟩
  · injection hz with r1' r2' r3'
    exact grow (by omega) fun _ => r3'
  · injection hu with r1' r2' r3'
    subst r1'
    subst r3'
    by_cases hroom : es.length + es'.length ≤ cap
    · have hlt : gg < w.heap.size := (Array.getElem?_eq_some_iff.1 hh).1
      have hh' : w'.heap[gg]? = some (.cells cur e' (0, 0)) := (hb.block gg hlt).trans hh
      have hfit : es.length * ti.size + vs'.length ≤ cur.size := by rw [r2.1, hcs, ← Nat.add_mul]; exact Nat.mul_le_mul_right _ hroom
      have hr := append_room (P := P) (w := w') (ty := o.type) (c := cap') hA.ht hA.hi hh' r2.1 hnew (row_one r2) hroom hfit
      obtain ⟨new, hnw⟩ : ∃ new, (cur.toList.take (es.length * ti.size) ++ vs' ++ cur.toList.drop (es.length * ti.size + vs'.length)).toArray = new := ⟨_, rfl⟩
      rw [hnw] at hr
      have hvl : vs.length = es.length * ti.size := r1.1
      have hcap0 : cap ≠ 0 := by omega
      have hblk : blk (x0 i) = some gg := by
        rw [p1]
        cases cap with
        | zero => exact absurd rfl hcap0
        | succ c => rfl
      have hnsz : new.size = cap * ti.size := by rw [← hcs, ← hnw]; simp; omega
      have hrow : ∀ j, j < (vs ++ vs').length → new[j]? = some ((vs ++ vs').getD j undef) := fun j hj => by
        have ht : (cur.toList.take (es.length * ti.size)).length = es.length * ti.size := by simp; omega
        rw [← hnw]
        simp only [List.getElem?_toArray]
        rw [List.length_append] at hj
        rw [List.getD_eq_getElem?_getD, List.append_assoc]
        by_cases h1 : j < es.length * ti.size
        · have hj2 : j < vs.length := by omega
          obtain ⟨b, eb, hbb⟩ := hold (by intro e; rw [e] at h1; omega)
          cases eb
          have := hbb j _ (List.getElem?_eq_getElem hj2)
          rw [add_none] at this
          simp only [World.cell?, hh', Nat.zero_add] at this
          rw [List.getElem?_append_left (by omega), List.getElem?_take, if_pos h1, List.getElem?_append_left hj2, List.getElem?_eq_getElem hj2]
          simpa using this
        · rw [List.getElem?_append_right (by omega), ht, List.getElem?_append_left (by omega), List.getElem?_append_right (by omega), hvl]
          have hj2 : j - es.length * ti.size < vs'.length := by omega
          rw [List.getElem?_eq_getElem hj2]
          rfl
      have hSb := hfr hfr1
      have hWge : ∀ b, B.W b → B.w0.heap.size ≤ b := fun b hb => hb.resolve_right (hSb b)
      -- another owner's slice lies elsewhere
      have kget : ∀ j, j ∈ keep → (klS s keep).get j = s.get j := fun j hj => by rw [kl_get, if_pos hj]
      have kown : ∀ j, ((klS s keep).get j).own ≠ none → j ∈ keep := fun j ho => by
        rw [kl_get] at ho
        split at ho
        · assumption
        · exact absurd rfl ho
      have kne : ∀ j, ((klS s keep).get j).own ≠ none → blk (slt a' j) ≠ some gg := fun j ho e => by
        have hj := kown j ho
        have h1 := h.disj _ _ _ _ gg (h.slot j) hslot (by rw [← kget j hj]; exact ho) (by rw [hsi]; simp [PV.own]) (by rw [← hdsts j hj]; exact e) hblk
        rw [hsi] at h1
        have h2 := hsm j hj
        revert h1 h2
        cases s.get j <;> intro h1 h2 <;> try cases h1
        rename_i es1 ow
        cases ow <;> try cases h1
        exact h2.1 rfl
      have ksame : ∀ j j', ((klS s keep).get j).own ≠ none → ((klS s keep).get j').own ≠ none → ((klS s keep).get j).own = ((klS s keep).get j').own → j = j' := fun j j' h1 h2 h3 => by
        have hj := kown j h1
        have hj' := kown j' h2
        rw [kget j hj] at h1 h3
        rw [kget j' hj'] at h2 h3
        rcases Nat.lt_trichotomy j j' with hlt | heq | hlt
        all_goals first | exact heq | skip
        all_goals
          exfalso
          obtain ⟨m1, hm1⟩ := List.getElem?_of_mem hj
          obtain ⟨m2, hm2⟩ := List.getElem?_of_mem hj'
          have hl1 := (List.getElem?_eq_some_iff.1 hm1)
          have hl2 := (List.getElem?_eq_some_iff.1 hm2)
          have hp := List.pairwise_iff_getElem.1 hpw
          rcases Nat.lt_trichotomy m1 m2 with hm | hm | hm
          · have := hp m1 m2 hl1.1 hl2.1 hm
            rw [hl1.2, hl2.2] at this
            rcases this with h | h
            · exact h1 h
            · exact h h3
          · subst hm; rw [hm1] at hm2; cases hm2; omega
          · have := hp m2 m1 hl2.1 hl1.1 hm
            rw [hl1.2, hl2.2] at this
            rcases this with h | h
            · exact h2 h
            · exact h h3.symm
      have hblkw : ∀ k, k < w.heap.size → k ≠ gg → (w'.setRow gg new).heap[k]? = w.heap[k]? := fun k hk hne => (setRow_other w' _ _ new hne).trans (hb.block k hk)
      -- what is read from now on
      obtain ⟨D3, hD3⟩ : ∃ D3 : Nat → Nat → Prop, D3 = fun b o => B.D0 b o ∨ (b = gg ∧ o < (vs ++ vs').length) ∨ ∃ (j : Nat) (e4 : List (List PV)) (sz m : Nat), (klS s keep).get j = .sl e4 (.r m sz) ∧ blk (slt a' j) = some b ∧ o < e4.length * sz := ⟨_, rfl⟩
      have hsl : ∀ u p, Slot ⟨D3, g.ρ⟩ (klS s keep) (slt a') (w'.setRow gg new) u p → ∃ j, u = slt a' j ∧ p = (klS s keep).get j := fun u p hp => by
        rcases hp with hp | ⟨i, j, cs, h1, _⟩
        · exact hp
        · simp [klS] at h1
      have hkown : ∀ j, OwnOk g.D B.W w (slt a' j) ((klS s keep).get j) := fun j => hkl.owns _ _ (hkl.slot j)
      have hRk : R B ⟨D3, g.ρ⟩ (klS s keep) (slt a') (w'.setRow gg new) := by
        refine ⟨fun j => ?_, fun i cs hi => by simp [klS] at hi, fun i j hi => by simp [klS] at hi, fun u p hp => ?_, fun u p u' p' b h1 h2 o1 o2 b1 b2 => ?_, fun u p b i _ _ _ hi => by simp [klS] at hi, fun b o hD => ?_, fun i hi => by simp [klS] at hi, ?_⟩
        · have hrel := hkl.slots j
          by_cases hj : j ∈ keep
          · have h2 := hsm j hj
            rw [← kget j hj] at h2
            have ho := hkown j
            have hne2 := kne j
            have hthird : ∀ (e4 : List (List PV)) (sz m : Nat), (klS s keep).get j = .sl e4 (.r m sz) → ∀ b, blk (slt a' j) = some b → ∀ o, o < e4.length * sz → D3 b o := fun e4 sz m h1 b h2 o h3 => by rw [hD3]; exact .inr (.inr ⟨j, e4, sz, m, h1, h2, h3⟩)
            revert h2 ho hrel hne2 hthird
            cases (klS s keep).get j <;> intro hrel h2 ho hne2 hthird <;> try exact h2.elim
            · rw [hrel.v_inv]; exact .dat (.v _)
            · rename_i e4 ow
              cases ow <;> try exact h2.elim
              rename_i m sz
              obtain ⟨_, hf, hl4⟩ := h2
              rcases ho with ⟨ad3, hz, rfl⟩ | ⟨g4, cap4, cur4, e5, hu4, hW4, hh4, hcs4, hel4, hnD4⟩
              · rw [hz]
                exact .dat (.sl ad3 0 1 [] _ 0 0 (fun _ => undef) (Nat.le_refl _) (fun h => by cases h) (Nat.zero_le _) (fun h => absurd rfl h) (fun i e h => by simp at h) (fun j h => absurd h (by simp)) (fun i e j p h => by simp at h))
              · obtain ⟨ad5, cap5, vs5, e6, c5, c6, _, r5, g5⟩ := sl_row hrel hl4
                rw [hu4] at e6
                injection e6 with t1 t2 t3
                subst t1
                subst t3
                by_cases he4 : e4 = []
                · subst he4
                  rw [hu4]
                  exact .dat (.sl _ cap4 1 [] _ 0 0 (fun _ => undef) (Nat.zero_le _) (fun h => by cases h) c6 (fun h => absurd rfl h) (fun i e h => by simp at h) (fun j h => absurd h (by simp)) (fun i e j p h => by simp at h))
                · obtain ⟨b5, off5, e7, g6⟩ := g5 he4
                  injection e7 with e7
                  injection e7 with e8 e9
                  subst e8
                  subst e9
                  have hcap4 : cap4 ≠ 0 := by
                    have := List.length_pos_iff.2 he4
                    omega
                  have hblk4 : blk (slt a' j) = some g4 := by
                    rw [hu4]
                    cases cap4 with
                    | zero => exact absurd rfl hcap4
                    | succ c => rfl
                  have hne4 : g4 ≠ gg := fun e => hne2 (by simp [PV.own]) (by rw [hblk4, e])
                  have hh5 : (w'.setRow gg new).heap[g4]? = some (.cells cur4 e5 (0, 0)) := (hblkw g4 (Array.getElem?_eq_some_iff.1 hh4).1 hne4).trans hh4
                  rw [hu4]
                  refine .dat (row_dat (k := .r m sz) (flat_row r5 hf) hh5 (fun jj hjj => ?_) c5 c6 (fun h => by cases h) fun jj hjj => hthird e4 sz m rfl g4 hblk4 jj (by rw [← r5.1]; exact hjj))
                  have := (g6 jj _ (List.getElem?_eq_getElem hjj)).2
                  simp only [World.cell?, hh4, Nat.zero_add] at this
                  rw [List.getD_eq_getElem?_getD, List.getElem?_eq_getElem hjj]
                  simpa using this
          · rw [kl_get, if_neg hj]; exact .dat (.und _)
        · obtain ⟨j, rfl, rfl⟩ := hsl u p hp
          by_cases ho : ((klS s keep).get j).own = none
          · exact ownOk_none ho
          · have hk1 := hkown j
            have hne2 := kne j ho
            have hsame := ksame j
            have hget : ∃ q, (klS s keep).get j = q := ⟨_, rfl⟩
            obtain ⟨q, hq⟩ := hget
            rw [hq] at ho hk1 hsame ⊢
            cases q <;> try trivial
            rename_i e4 ow
            cases ow <;> try trivial
            rename_i m sz
            rcases hk1 with hn | ⟨g4, cap4, cur4, e5, hu4, hW4, hh4, hcs4, hel4, hnD4⟩
            · exact .inl hn
            · cases cap4 with
              | zero =>
                have hrel := hkl.slots j
                rw [hq, hu4] at hrel
                have := sl_cap hrel
                exact .inl ⟨_, by rw [hu4, show e4.length = 0 by omega], List.eq_nil_of_length_eq_zero (by omega)⟩
              | succ cap4 =>
                have hblk4 : blk (slt a' j) = some g4 := by rw [hu4]; rfl
                have hne4 : g4 ≠ gg := fun e => hne2 (by rw [hblk4, e])
                refine .inr ⟨g4, _, cur4, e5, hu4, hW4, (hblkw g4 (Array.getElem?_eq_some_iff.1 hh4).1 hne4).trans hh4, hcs4, hel4, fun oo hoo hD => ?_⟩
                rw [hD3] at hD
                rcases hD with hD | ⟨hD, _⟩ | ⟨j', e6, sz6, m6, t1, t2, t3⟩
                · have := h.fr.d0lt _ _ hD
                  have := hWge g4 hW4
                  omega
                · exact hne4 hD
                · have hd2 := hkl.disj _ _ _ _ g4 (hkl.slot j) (hkl.slot j') (by rw [hq]; simp [PV.own]) (by rw [t1]; simp [PV.own]) hblk4 t2
                  have := hsame j' (by simp [PV.own]) (by rw [t1]; simp [PV.own]) (by rw [← hq]; exact hd2)
                  subst this
                  rw [hq] at t1
                  injection t1 with t4 t5
                  subst t4
                  injection t5 with t6 t7
                  subst t7
                  omega
        · obtain ⟨j, rfl, rfl⟩ := hsl u p h1
          obtain ⟨j', rfl, rfl⟩ := hsl u' p' h2
          exact hkl.disj _ _ _ _ b (hkl.slot j) (hkl.slot j') o1 o2 b1 b2
        · have hsz : (w'.setRow gg new).heap.size = w'.heap.size := by simp
          show b < (w'.setRow gg new).heap.size
          rw [hsz]
          have hD' : D3 b o := hD
          rw [hD3] at hD'
          have hbs := hb.size
          rcases hD' with hD' | ⟨rfl, _⟩ | ⟨j, e4, sz, m, t1, t2, t3⟩
          · have := h.fr.d0lt _ _ hD'
            have := h.fr.size
            omega
          · omega
          · have := (ownOk_lt (hkown j) (by rw [t1]; simp [PV.own]) t2).1
            omega
        · have f := h.fr
          have hgg := hWge gg hW
          refine ⟨hb.os.trans f.os, hb.tape.trans f.tape, hb.output.trans f.output, by simpa using Nat.le_trans f.size hb.size, fun kk hk hn => ?_, fun b o hD => by rw [hD3]; exact .inl hD, fun b o y hD hy => ?_, fun b o hD => ?_, f.d0lt⟩
          · rw [hblkw kk (Nat.lt_of_lt_of_le hk f.size) (by omega)]
            exact f.block kk hk hn
          · have h1 := f.cell b o y hD hy
            have h2 := f.d0lt b o hD
            rw [World.cell?_of_block (a := ⟨b, o, none⟩) (hblkw b (cell_lt h1) (show b ≠ gg by omega))]
            exact h1
          · have hD' : D3 b o := hD
            rw [hD3] at hD'
            rcases hD' with hD' | ⟨rfl, _⟩ | ⟨j, e4, sz, m, t1, t2, t3⟩
            · exact .inl hD'
            · exact .inr hW
            · exact .inr (ownOk_lt (hkown j) (by rw [t1]; simp [PV.own]) t2).2
      have hdat : Dat D3 (w'.setRow gg new) (.slice (some ⟨gg, 0, none⟩) (es ++ es').length cap) (.sl (es ++ es') (.r n ti.size)) :=
        row_dat (k := .r n ti.size) (flat_row (r1.append r2) hflat) (setRow_heap w' gg cur new e' (0, 0) hh') hrow (by simpa using hroom) c2 (fun h => by cases h) fun j hj => by rw [hD3]; exact .inr (.inl ⟨rfl, hj⟩)
      have hput := hRk.put (some d) (.dat hdat) fun _ => ⟨.inr ⟨gg, cap, new, e', rfl, hW, setRow_heap w' gg cur new e' (0, 0) hh', hnsz, fun e he => ?_, fun oo hoo hD => ?_⟩, fun v q b h1 h2 h3 h4 => ?_, fun b i _ hi => by simp [klS] at hi⟩
      · refine ⟨⟨D3, g.ρ⟩, w'.setRow gg new, .slice (some ⟨gg, 0, none⟩) (es ++ es').length cap, ?_, hput⟩
        rw [List.length_append]
        exact hA.run hxv e2 hr
      · rcases List.mem_append.1 he with he | he
        · exact f3 e he
        · exact f4 e he
      · have hD' : D3 gg oo := hD
        rw [hD3] at hD'
        rcases hD' with hD' | ⟨_, hD'⟩ | ⟨j, e4, sz, m, t1, t2, t3⟩
        · have := h.fr.d0lt _ _ hD'
          have := hWge gg hW
          omega
        · rw [List.length_append, hvl, r2.1, ← Nat.add_mul, ← List.length_append] at hD'
          omega
        · exact kne j (by rw [t1]; simp [PV.own]) t2
      · exfalso
        obtain ⟨j, rfl, rfl⟩ := hsl v q h1
        refine kne j h2 ?_
        rw [h3]
        cases cap with
        | zero => exact absurd rfl hcap0
        | succ c => simp [blk] at h4; rw [h4]
    · exact grow (by omega) fun h => by cases h
theorem compL_dst {ops : Array Oper} : ∀ {l : List Oper} {is : List PI}, compL P nt ops l = some is → is.length = l.length ∧ ∀ (j : Nat) o, l[j]? = some o → ∃ i, is[j]? = some i ∧ i.d = o.dst
  | [], is, h => by cases h; exact ⟨rfl, fun j o h => by simp at h⟩
  | o :: l, is, h => by
    simp only [compL, Option.bind_eq_some_iff] at h
    obtain ⟨k, hk, r, hr, h⟩ := h
    obtain ⟨h1, h2⟩ := compL_dst hr
    have key : ∃ i0 : PI, is = i0 :: r ∧ i0.d = o.dst := by
      split at h
      · split at h
        · cases h; exact ⟨_, rfl, rfl⟩
        · simp only [Option.bind_eq_some_iff] at h
          obtain ⟨t, _, h⟩ := h
          split at h
          · cases h; exact ⟨_, rfl, rfl⟩
          · cases h
      · cases h
    obtain ⟨i0, rfl, hd⟩ := key
    refine ⟨by simp [h1], fun j o' hj => ?_⟩
    cases j with
    | zero => simp at hj; subst hj; exact ⟨i0, rfl, hd⟩
    | succ j => simpa using h2 j o' (by simpa using hj)
theorem dr_sound {fr : Prop} (hfr : fr → ∀ k, ¬ B.Sb k) {l : List Oper} {is : List PI} {id nh : Nat} {Q : PX → PS → Prop} (hcl : ∀ t, (s.get t).isN = false) (hc : compL P nt l.toArray l = some is) (hm : P.follows .mixedOrders = true) (hB : (chkG l.toArray nh nt && chkT l.toArray nh) = true) (hq : pHead P (is.take nh) (pTail P fr (is.take nh) s (is.drop nh) (Q .n)) s) (h : RA B nt g s a w) :
    (Code.region id l.toArray true).wp P (QL B nt Q) a w := by
  have hchk := (Bool.and_eq_true _ _).mp hB
  have hsz : nh ≤ l.length := by
    have := hchk.1
    unfold chkG at this
    simp only [Bool.and_eq_true, decide_eq_true_eq] at this
    simpa using this.1
  -- the two halves
  have split : ∀ (n : Nat) (l' : List Oper) (is : List PI), compL P nt l.toArray l' = some is → n ≤ l'.length → compL P nt l.toArray (l'.take n) = some (is.take n) ∧ compL P nt l.toArray (l'.drop n) = some (is.drop n) := by
    intro n
    induction n with
    | zero => intro l' is h _; exact ⟨by simp [compL], by simpa using h⟩
    | succ n ih =>
      intro l' is h hn
      cases l' with
      | nil => simp at hn
      | cons o l' =>
        simp only [compL, Option.bind_eq_some_iff] at h
        obtain ⟨k, hk, r, hr, h⟩ := h
        obtain ⟨e1, e2⟩ := ih l' r hr (by simpa using hn)
        simp only [List.take_succ_cons, List.drop_succ_cons, compL, hk, Option.bind_some, e1]
        split at h
        · rename_i hd
          rw [if_pos hd]
          split at h
          · cases h
            exact ⟨rfl, e2⟩
          · rename_i j b hg
            simp only [Option.bind_eq_some_iff] at h
            obtain ⟨t, ht, h⟩ := h
            split at h
            · rename_i htn
              cases h
              exact ⟨by simp [ht, htn], e2⟩
            · cases h
        · cases h
  obtain ⟨hc1, hc2⟩ := split nh l is hc hsz
  have hw0 : w.drew.heap.size = w.heap.size := rfl
  have hcell : ∀ w', Keep NoB w.drew w' → ∀ b o x, g.D b o → w.cell? ⟨b, o, none⟩ = some x → w'.cell? ⟨b, o, none⟩ = some x := fun w' hk b o x _ hx => below_cell (below_nob hk) (show b < w.drew.heap.size from cell_lt hx) hx
  refine regG nh nt (fun w' => Keep NoB w.drew w') hm hB h.2.2 (Keep.refl _ _) ?_
  have := head_sound (P := P) (D := fun b o => g.D b o ∨ w.heap.size ≤ b) (ρ := g.ρ) (Q := QL B nt Q) (F := fun a w => wpList P l.toArray (QL B nt Q) (l.drop nh) a w) (s0 := s) (a0 := a) (w0 := w.drew) (nh := nh) hchk.1 (K := pTail P fr (is.take nh) s (is.drop nh) (Q .n))
    (fun w' hk t => (h.1.slots t).mono (fun _ _ h => .inl h) (hcell w' hk) (Nat.le_refl _) fun _ _ => rfl)
    (fun w' hk i cs hi => by
      obtain ⟨_, vs, e, hv, hz, hb⟩ := h.1.boxes i cs hi
      have hlt : g.ρ i < w.drew.heap.size := h.1.ρlt (List.getElem?_eq_some_iff.1 hi).1
      exact ⟨vs, e, (hk.block _ hlt fun h => h).trans hv, hz, fun j p hp => ⟨(hb j p hp).1.mono (fun _ _ h => .inl h) (hcell w' hk) (Nat.le_refl _) fun _ _ => rfl, (hb j p hp).2⟩⟩)
    (fun b o hb => .inr hb) hcl
    (fun ps w' hk hdd hln hds hown hlt ⟨s', hE, hK⟩ => by
      have hb := below_nob hk
      have hg : R B ⟨fun b o => (g.D b o ∨ w.heap.size ≤ b) ∧ b < w'.heap.size, g.ρ⟩ s (slt a) w' := h.1.drew.grow hb _ (fun b o hD => ⟨.inl hD, Nat.lt_of_lt_of_le (h.1.dlt b o hD) hb.size⟩) (fun b o hD => hD.1) (fun b o hD => hD.2)
      refine fin_sound ps s a hdd hown hlt (fun b o hD => hD) ⟨hg, h.2⟩ rfl fun a' ha' hnew hsame => ?_
      have plain : pList P (is.drop nh) (Q .n) s' → wpList P l.toArray (QL B nt Q) (l.drop nh) a' w' := fun hK => list_sound _ _ _ _ a' w' hc2 hK (ha'.eqS hE)
      unfold pTail at hK
      split at hK
      · rename_i d x y sz by_ t' ht'
        split at hK
        · rename_i es sz' hx
          obtain ⟨rfl, hany, hK⟩ := hK
          obtain ⟨es', k, ey, f1, f2, f3, f4, f5, f6, f7⟩ := qSl_inv hK
          -- the append
          cases hl : l.drop nh with
          | nil => rw [hl] at hc2; rw [ht'] at hc2; cases hc2
          | cons o l' =>
            rw [hl, ht'] at hc2
            simp only [compL, Option.bind_eq_some_iff] at hc2
            obtain ⟨k0, hk0, r, hr, hc2⟩ := hc2
            split at hc2
            · rename_i hdk
              have hgn : o.guard = none ∧ o.dst = some d ∧ k0 = .ap (.t x) y sz' by_ ∧ r = t' := by
                split at hc2
                · rename_i hg0
                  simp only [Option.some.injEq, List.cons.injEq, PI.mk.injEq] at hc2
                  exact ⟨hg0, hc2.1.1, hc2.1.2.2, hc2.2⟩
                · simp only [Option.bind_eq_some_iff] at hc2
                  obtain ⟨t, _, hc2⟩ := hc2
                  split at hc2
                  · simp only [Option.some.injEq, List.cons.injEq, PI.mk.injEq] at hc2
                    cases hc2.1.2.1
                  · cases hc2
              obtain ⟨hg0, hdst, rfl, rfl⟩ := hgn
              obtain ⟨x1, x2, t, e, i, z0, hA, hx1, hx2, rfl, rfl⟩ := comp_inv hk0
              have hxt : x1 = .tmp x := by cases x1 <;> first | (cases hx1; rfl) | cases hx1
              have hev : a'.eval x1 = slt a' x := by rw [hxt]; rfl
              have ha2 := ha'.eqS hE
              have hrx := ha2.1.slots x
              rw [hx] at hrx
              have hry := po_rel (a := a') hx2 fun t _ => ha2.1.slots t
              rw [ey] at hry
              have hN : NewOk (slt a) w.heap.size w' (slt a' x) (.sl es (.n i.size)) := by
                have hgx : (stOf s ps).get x = .sl es (.n i.size) := by rw [← hE.1]; exact hx
                rcases lk_env (x0 := slt a) (n0 := w.heap.size) (D := g.D) (ρ := g.ρ) (nb := s.b.length) (t := x) ps s hdd with ⟨p, hp1, _, e2⟩ | ⟨e1, e2⟩
                · rw [hgx] at e2; subst e2; exact hnew x _ hp1
                · exfalso
                  obtain ⟨i0, hi0, hd0⟩ := List.any_eq_true.1 hany
                  have hd0 : i0.d = some x := by simpa using hd0
                  obtain ⟨j, hj⟩ := List.getElem?_of_mem hi0
                  obtain ⟨m1, m2⟩ := compL_dst hc1
                  have hjl : j < (l.take nh).length := by rw [← m1]; exact (List.getElem?_eq_some_iff.1 hj).1
                  obtain ⟨i1, hi1, hd1⟩ := m2 j _ (List.getElem?_eq_getElem hjl)
                  rw [hj] at hi1
                  cases hi1
                  have hjn : j < ps.length := by rw [hln]; simp at hjl; omega
                  have hdj := hds j _ (List.getElem?_eq_getElem hjn)
                  have hjl2 : j < l.length := by simp at hjl; omega
                  have e4 : (l.take nh)[j]'hjl = l[j] := by simp
                  rw [e4, hd0] at hd1
                  have e5 : ps[j].1 = some x := by
                    rw [hdj]; unfold dstO; simp [hjl2, ← hd1]
                  exact lk_mem (x0 := slt a) (n0 := w.heap.size) (D := g.D) (ρ := g.ρ) (nb := s.b.length) ps ps[j].2 (by rw [← e5]; exact List.getElem_mem hjn) e1
              rw [← hev] at hrx hN
              obtain ⟨g', cap', cs, e', vs, w2, hrun, q1, q2, q3, q4, q5, q6, q7, q8⟩ := ap_n hA hrx hN hry hb.size f3 f4 f5 f6
              unfold wpList
              rw [if_pos (by simp [Region.wanted, hg0])]
              refine .inl ?_
              show o.upon P a' (wpList P l.toArray (QL B nt Q) l') (QL B nt Q) ((execOp a'.eval o).run P w')
              rw [hrun]
              have hd' : ∀ t, o.dst = some t → t < a'.tmps.size := fun t ht => by
                rw [ht] at hdk
                rw [ha'.2.2]; simpa [dstOk] using hdk
              have hflat : flatE (es ++ es') := fun e he => by
                rcases List.mem_append.1 he with he | he
                · exact f1 e he
                · exact f2 e he
              have hbel : Below w.drew.heap.size w.drew w2 := hb.trans q2
              have hfor : R B g (forget (is.take nh) s) (slt a') w.drew := h.1.drew.forget fun t ht => hsame t fun y hy e => by
                obtain ⟨j, hj⟩ := List.getElem?_of_mem hy
                have hjn : j < nh := by have := (List.getElem?_eq_some_iff.1 hj).1; omega
                have hdj := hds j y hj
                rw [e] at hdj
                obtain ⟨m1, m2⟩ := compL_dst hc1
                have hjl : j < (l.take nh).length := by simp; omega
                have h3 := m2 j _ (List.getElem?_eq_getElem hjl)
                obtain ⟨i', hi', hid⟩ := h3
                refine ht i' (List.mem_of_getElem? hi') ?_
                rw [hid]
                unfold dstO at hdj
                have hjl2 : j < l.length := by omega
                have : (l.take nh)[j]'hjl = l[j] := by simp
                rw [this]
                simpa [hjl2] using hdj.symm
              obtain ⟨g2, hR2⟩ := hfor.fresh (n0 := d) hbel (g' := g') q1 q3 (flat_row q7 hflat) q8 q4 q5 q6 (fun e => f6 (List.append_eq_nil_iff.1 e).2) (some d)
              refine list_sound l' r _ g2 _ w2 hr f7 ⟨?_, by rw [(put_tsz _ _ _).2]; exact ha'.2.1, by rw [(put_tsz _ _ _).1]; exact ha'.2.2⟩
              rw [slt_put hd', hdst]
              exact hR2
            · cases hc2
        · rename_i es i hx
          obtain ⟨hfr1, hany, hK⟩ := hK
          split at hK
          · rename_i es0 n sz' hsi
            obtain ⟨rfl, hK⟩ := hK
            obtain ⟨es', k, ey, f1, f2, f3, f4, f5, f6, keep, f7, f8⟩ := qSl_inv hK
            cases hl : l.drop nh with
            | nil => rw [hl] at hc2; rw [ht'] at hc2; cases hc2
            | cons o l' =>
              rw [hl, ht'] at hc2
              simp only [compL, Option.bind_eq_some_iff] at hc2
              obtain ⟨k0, hk0, r, hr, hc2⟩ := hc2
              split at hc2
              · rename_i hdk
                have hgn : o.guard = none ∧ o.dst = some d ∧ k0 = .ap (.t x) y sz' by_ ∧ r = t' := by
                  split at hc2
                  · rename_i hg0
                    simp only [Option.some.injEq, List.cons.injEq, PI.mk.injEq] at hc2
                    exact ⟨hg0, hc2.1.1, hc2.1.2.2, hc2.2⟩
                  · simp only [Option.bind_eq_some_iff] at hc2
                    obtain ⟨t, _, hc2⟩ := hc2
                    split at hc2
                    · simp only [Option.some.injEq, List.cons.injEq, PI.mk.injEq] at hc2
                      cases hc2.1.2.1
                    · cases hc2
                obtain ⟨hg0, hdst, rfl, rfl⟩ := hgn
                obtain ⟨x1, x2, t, e, ti, z0, hA, hx1, hx2, rfl, rfl⟩ := comp_inv hk0
                have hxt : x1 = .tmp x := by cases x1 <;> first | (cases hx1; rfl) | cases hx1
                have hev : a'.eval x1 = slt a' x := by rw [hxt]; rfl
                have ha2 := ha'.eqS hE
                have hrx := ha2.1.slots x
                rw [hx] at hrx
                have hry := po_rel (a := a') hx2 fun t _ => ha2.1.slots t
                rw [ey] at hry
                have hN : NewOk (slt a) w.heap.size w' (slt a' x) (.sl es (.p i)) := by
                  have hgx : (stOf s ps).get x = .sl es (.p i) := by rw [← hE.1]; exact hx
                  rcases lk_env (x0 := slt a) (n0 := w.heap.size) (D := g.D) (ρ := g.ρ) (nb := s.b.length) (t := x) ps s hdd with ⟨p, hp1, _, e2⟩ | ⟨e1, e2⟩
                  · rw [hgx] at e2; subst e2; exact hnew x _ hp1
                  · rw [hgx] at e2
                    have := hcl x
                    rw [← e2] at this; cases this
                obtain ⟨ad, len, cap, p1, p2⟩ := hN
                have hdsts : ∀ j ∈ keep, slt a' j = slt a j := fun j hj => hsame j fun y hy e => by
                  obtain ⟨jj, hjj⟩ := List.getElem?_of_mem hy
                  have hdj := hds jj y hjj
                  rw [e] at hdj
                  obtain ⟨m1, m2⟩ := compL_dst hc1
                  have hjn : jj < nh := by have := (List.getElem?_eq_some_iff.1 hjj).1; omega
                  have hjl : jj < (l.take nh).length := by simp; omega
                  obtain ⟨i', hi', hid⟩ := m2 jj _ (List.getElem?_eq_getElem hjl)
                  have h3 := (f7.1 j hj).1
                  rw [List.all_eq_true] at h3
                  have h4 := h3 i' (List.mem_of_getElem? hi')
                  unfold dstO at hdj
                  have hjl2 : jj < l.length := by omega
                  have e4 : (l.take nh)[jj]'hjl = l[jj] := by simp
                  rw [e4] at hid
                  rw [hid] at h4
                  have : l[jj].dst = some j := by simpa [hjl2] using hdj.symm
                  rw [this] at h4
                  simp at h4
                obtain ⟨g2, w2, u, hrun, hR2⟩ := cut_run hfr1 hfr (d := d) h.1.drew hb hA (hev.trans p2) hry hsi p1 (hrx := p2 ▸ hrx) f1 f2 f3 f4 f5 f6 f7.2 (fun j hj => (f7.1 j hj).2) hdsts
                unfold wpList
                rw [if_pos (by simp [Region.wanted, hg0])]
                refine .inl ?_
                show o.upon P a' (wpList P l.toArray (QL B nt Q) l') (QL B nt Q) ((execOp a'.eval o).run P w')
                rw [hrun]
                have hd' : ∀ t, o.dst = some t → t < a'.tmps.size := fun t ht => by
                  rw [ht] at hdk
                  rw [ha'.2.2]; simpa [dstOk] using hdk
                refine list_sound l' r _ g2 _ w2 hr f8 ⟨?_, by rw [(put_tsz _ _ _).2]; exact ha'.2.1, by rw [(put_tsz _ _ _).1]; exact ha'.2.2⟩
                rw [slt_put hd', hdst]
                exact hR2
              · cases hc2
          · exact hK.elim
        · exact plain hK
      · exact plain hK)
    (l.take nh) (is.take nh) [] s (EqS.refl _) hc1 (by simp; omega) (fun j hj => by
      have hj' : j < nh := by simp at hj; omega
      simp [List.getElem?_take, hj']) (fun j x h => by simp at h) List.Pairwise.nil (by simp) hq
  simpa [envOf] using this

/-! ### All of a text -/
theorem thenX_sound {K : PS → Prop} {Q : PX → PS → Prop} {e : Exit} {next : Act → World → Prop} (hn : ∀ s g a w, RA B nt g s a w → K s → next a w) (h : QL B nt (thenX K Q) e a w) : Exit.then next (QL B nt Q) e a w := by
  cases e <;> first | exact h.elim | exact h | (obtain ⟨s, g, h1, h2⟩ := h; exact hn s g a w h1 h2)
theorem blockX_sound {id : Nat} {Q : PX → PS → Prop} {e : Exit} (h : QL B nt (blockX id Q) e a w) : Exit.inBlock id (QL B nt Q) e a w := by
  cases e <;> try exact h
  rename_i id'
  obtain ⟨s, g, h1, h2⟩ := h
  simp only [blockX] at h2
  simp only [Exit.inBlock]
  split
  · rename_i e; rw [if_pos e] at h2; exact ⟨s, g, h1, h2⟩
  · rename_i e; rw [if_neg e] at h2; exact ⟨s, g, h1, h2⟩
theorem least {p : Nat → Prop} (h : ∃ n, p n) : ∃ n, p n ∧ ∀ m, p m → n ≤ m := by
  obtain ⟨n, hn⟩ := h
  induction n using Nat.strongRecOn with
  | _ n ih =>
    by_cases hm : ∃ m, m < n ∧ p m
    · obtain ⟨m, h1, h2⟩ := hm
      exact ih m h1 h2
    · exact ⟨n, hn, fun m hpm => by
        rcases Nat.lt_or_ge m n with h | h
        · exact absurd ⟨m, h, hpm⟩ hm
        · exact h⟩
open Classical in
theorem loop_sound {c : Code} {body : (PX → PS → Prop) → PS → Prop} {Q : PX → PS → Prop} (hb : ∀ Q s g a w, body Q s → RA B nt g s a w → c.wp P (QL B nt Q) a w) (hq : pLoop body Q s) (h : RA B nt g s a w) : (Code.loop c).wp P (QL B nt Q) a w := by
  obtain ⟨ι, J, S, m, i0, hj0, hs0, hround⟩ := hq
  have hex : ∀ a w, (∃ n, ∃ i g, J i ∧ m i = n ∧ RA B nt g (S i) a w) → ∃ n, (∃ i g, J i ∧ m i = n ∧ RA B nt g (S i) a w) ∧ ∀ k, (∃ i g, J i ∧ m i = k ∧ RA B nt g (S i) a w) → n ≤ k := fun a w h => least h
  obtain ⟨μ, hμ⟩ : ∃ μ : Act → World → Nat, ∀ a w, (∃ n, ∃ i g, J i ∧ m i = n ∧ RA B nt g (S i) a w) → (∃ i g, J i ∧ m i = μ a w ∧ RA B nt g (S i) a w) ∧ ∀ k, (∃ i g, J i ∧ m i = k ∧ RA B nt g (S i) a w) → μ a w ≤ k :=
    ⟨fun a w => if h : ∃ n, ∃ i g, J i ∧ m i = n ∧ RA B nt g (S i) a w then Classical.choose (hex a w h) else 0, fun a w h => by
      simp only [dif_pos h]
      exact Classical.choose_spec (hex a w h)⟩
  refine wp_loop (fun a w => ∃ n, ∃ i g, J i ∧ m i = n ∧ RA B nt g (S i) a w) μ ⟨_, i0, g, hj0, rfl, h.weak hs0⟩ ?_
  intro a w hI
  obtain ⟨⟨i, g', hj, hm, hR⟩, _⟩ := hμ a w hI
  refine wp_mono (hb _ _ g' a w (hround i hj) hR) fun e a' w' he => ?_
  refine thenX_sound (fun s g a w h1 h2 => ?_) he
  obtain ⟨j, hj', hlt, hs⟩ := h2
  have hI' : ∃ n, ∃ i g, J i ∧ m i = n ∧ RA B nt g (S i) a w := ⟨_, j, g, hj', rfl, h1.weak hs⟩
  have := (hμ a w hI').2 (m j) ⟨j, g, hj', rfl, h1.weak hs⟩
  refine ⟨hI', ?_⟩
  omega
theorem pW_sound {fr : Prop} {ms : List Nat} (hfr : fr → ∀ k, ¬ B.Sb k) : ∀ (c : Code) (pc : PC), compC P nt ms c = some pc → ∀ (Q : PX → PS → Prop) (s : PS) (g : Gh) (a : Act) (w : World), pW P nt fr pc Q s → RA B nt g s a w → c.wp P (QL B nt Q) a w := by
  intro c
  induction c with
  | skip => intro pc hc Q s g a w hq h; cases hc; exact wp_skip ⟨s, g, h, hq⟩
  | label l => intro pc hc Q s g a w hq h; cases hc; exact wp_label ⟨s, g, h, hq⟩
  | exit id => intro pc hc Q s g a w hq h; cases hc; exact wp_exit ⟨s, g, h, hq⟩
  | ret => intro pc hc Q s g a w hq h; cases hc; exact wp_ret ⟨s, g, h, hq⟩
  | region id ops draw =>
    intro pc hc Q s g a w hq h
    simp only [compC] at hc
    split at hc
    · cases hc; exact hq B g a w h
    · simp only [Option.bind_eq_some_iff] at hc
      obtain ⟨l, hl, hc⟩ := hc
      split at hc
      · cases hc
        exact wp_region_list (list_sound _ _ _ _ _ _ hl hq h)
      · split at hc
        · rename_i hB
          cases hc
          simp only [Bool.and_eq_true] at hB
          have := dr_sound (s := s.clean) hfr (l := ops.toList) (id := id) (fun t => by rw [get_clean]; exact PV.clean_isN _) (by simpa using hl) hB.2 (by simpa using hB.1) hq ⟨h.1.clean, h.2⟩
          simpa using this
        · cases hc
  | seq x y ihx ihy =>
    intro pc hc Q s g a w hq h
    simp only [compC, Option.bind_eq_some_iff, Option.map_eq_some_iff] at hc
    obtain ⟨px, hx, py, hy, rfl⟩ := hc
    refine wp_seq (wp_mono (ihx px hx _ s g a w hq h) fun e a' w' he => thenX_sound (fun s g a w h1 h2 => ihy py hy Q s g a w h2 h1) he)
  | cond c x y ihx ihy =>
    intro pc hc Q s g a w hq h
    simp only [compC, Option.bind_eq_some_iff, Option.map_eq_some_iff] at hc
    obtain ⟨c', hcc, px, hx, py, hy, rfl⟩ := hc
    obtain ⟨b, e1, _, h1, h2⟩ := qBool_inv hq (po_rel hcc fun t _ => h.1.slots t)
    exact wp_cond_split e1 (fun e => ihx px hx Q s g a w (h1 e) h) (fun e => ihy py hy Q s g a w (h2 e) h)
  | block id x ih =>
    intro pc hc Q s g a w hq h
    simp only [compC, Option.map_eq_some_iff] at hc
    obtain ⟨px, hx, rfl⟩ := hc
    exact wp_block (wp_mono (ih px hx _ s g a w hq h) fun e a' w' he => blockX_sound he)
  | loop x ih =>
    intro pc hc Q s g a w hq h
    simp only [compC, Option.map_eq_some_iff] at hc
    obtain ⟨px, hx, rfl⟩ := hc
    exact loop_sound (fun Q s g a w hq h => ih px hx Q s g a w hq h) hq h
  | rangeFunc f ps x y _ _ => intro pc hc; cases hc
  | scope x _ => intro pc hc; cases hc
  | goto l => intro pc hc; cases hc
  | refuse y => intro pc hc; cases hc
end Go.Proofs.Ytcedofkenfddkaa
