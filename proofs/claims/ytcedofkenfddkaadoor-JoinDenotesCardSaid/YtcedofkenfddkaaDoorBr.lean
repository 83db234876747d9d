/- Bridges between the two readings of lists of intervals; the contracts of setops as contracts without memory. The lists are correct and shorter than 2^30. -/
import Derived.Test.YtcedofkenfddkaaDoorPx
import Derived.Test.YtcedofkenfddkaaDoorSetE
namespace Go.Proofs.YtcedofkenfddkaaDoor
set_option linter.unusedVariables false
set_option linter.unusedSimpArgs false
open Go.RowKit
theorem Dat.v_inv {D : Nat → Nat → Prop} {w : World} {x y : Value} (h : Dat D w x (.v y)) : x = y := (Rel.dat (ρ := fun _ => 0) (nb := 0) h).v_inv
theorem dat_rdr {D : Nat → Nat → Prop} {w : World} {v : Value} {l : List Iv} (h : Dat D w v (rg l)) (hD : ∀ b o, D b o → b < w.heap.size) (hb : ∀ s ∈ l, s.lo < M64 ∧ s.hi < M64) : RdR 0 w.heap.size w v l := by
  unfold rg at h
  generalize he : l.map ivc = es at h
  cases h with
  | sl a cap sz es o b off u hc hz hm ha hsz hd hx =>
    have hl : es.length = l.length := by rw [← he]; simp
    refine ⟨a, cap, by rw [hl], by omega, hm, fun hne => ?_⟩
    have hpos : 0 < l.length := List.length_pos_iff.2 hne
    have g : ∀ i (h : i < l.length), es[i]? = some (ivc l[i]) := fun i h => by rw [← he]; exact map_at h
    obtain rfl : 2 = sz := hsz 0 _ (g 0 hpos)
    have hes : es ≠ [] := by intro e; subst e; simp at hl; omega
    have hdlt : b < w.heap.size := hD _ _ (hd 0 (by omega)).1
    refine ⟨b, off, ha hes, Nat.zero_le _, hdlt, fun i hi => ?_⟩
    have e0 := (hx i _ 0 _ (g i hi) rfl).v_inv
    have e1 := (hx i _ 1 _ (g i hi) rfl).v_inv
    have c0 := (hd (i * 2 + 0) (by omega)).2.1
    have c1 := (hd (i * 2 + 1) (by omega)).2.1
    rw [e0] at c0
    rw [e1] at c1
    exact ⟨c0, c1, hb _ (List.getElem_mem _)⟩
theorem rdr_dat {D : Nat → Nat → Prop} {lo hi : Nat} {w : World} {v : Value} {l : List Iv} (h : RdR lo hi w v l) (hD : ∀ b o, lo ≤ b → b < hi → D b o) : Dat D w v (rg l) := by
  obtain ⟨a, cap, rfl, h1, h2, h3⟩ := h
  unfold rg
  rw [show l.length = (l.map ivc).length by simp]
  by_cases hne : l = []
  · subst hne
    exact .sl a cap 2 [] .sh 0 0 (fun _ => undef) (by simp) (fun h => by cases h) h2 (fun h => absurd rfl h) (fun i e h => by simp at h) (fun j h => by simp at h) (fun i e j p h => by simp at h)
  obtain ⟨b, off, rfl, hb1, hb2, hc⟩ := h3 hne
  refine .sl _ cap 2 _ .sh b off (fun j => (flat l).getD j undef) (by simpa using h1) (fun h => by cases h) h2 (fun _ => rfl) (fun i e h => ?_) (fun j hj => ?_) (fun i e j p he hp => ?_)
  · simp only [List.getElem?_map, Option.map_eq_some_iff] at h
    obtain ⟨s, _, rfl⟩ := h
    rfl
  · simp only [List.length_map] at hj
    obtain ⟨i, r, rfl, hr⟩ : ∃ i r, j = i * 2 + r ∧ r < 2 := ⟨j / 2, j % 2, by omega, by omega⟩
    have hi : i < l.length := by omega
    obtain ⟨c0, c1, _, _⟩ := hc i hi
    obtain ⟨f0, f1⟩ := flat_get l i hi
    refine ⟨hD _ _ hb1 hb2, ?_⟩
    obtain rfl | rfl : r = 0 ∨ r = 1 := by omega
    · rw [List.getD_eq_getElem?_getD, Nat.add_zero, f0]
      exact ⟨c0, by simp [Value.oneCell']⟩
    · rw [List.getD_eq_getElem?_getD, f1]
      exact ⟨c1, by simp [Value.oneCell']⟩
  · have hi : i < l.length := by have := (List.getElem?_eq_some_iff.1 he).1; simpa using this
    rw [map_at hi] at he
    cases he
    obtain ⟨f0, f1⟩ := flat_get l i hi
    match j, hp with
    | 0, hp => cases hp; simp only [List.getD_eq_getElem?_getD, Nat.add_zero, f0]; exact .v _
    | 1, hp => cases hp; simp only [List.getD_eq_getElem?_getD, f1]; exact .v _
    | j + 2, hp => simp [ivc] at hp
theorem Nrm.lt {l : List Iv} (h : Nrm l) : ∀ s ∈ l, s.lo < M64 ∧ s.hi < M64 := fun s hs => by
  have := NF.lo_ge h s hs; omega
/-- What a contract over memory says without it. -/
theorem cn_mem {f : FuncId} {ps : List PV} {r : PV} (hr : r.own = none) (hent : ∀ args w, (callFunc f args).run Tryd.prog w = .ok (.enter f args) w)
    (h : ∀ (D : Nat → Nat → Prop) (w : World) (vs : Array Value), (∀ b o, D b o → b < w.heap.size) → vs.size = ps.length → (∀ (i : Nat) p, ps[i]? = some p → Dat D w (vs.getD i undef) p) →
      Calls Tryd.prog f vs w fun e w' => ∃ v, e = .returned v ∧ Below w.heap.size w w' ∧ Dat (fun b o => D b o ∨ (w.heap.size ≤ b ∧ b < w'.heap.size)) w' v r) : Cn Tryd.prog f ps r := by
  refine ⟨hent, fun D w vs _ hD hsz hd => (h D w vs hD hsz hd).mono ?_⟩
  rintro e w' ⟨v, rfl, hb, hv⟩
  exact ⟨v, _, rfl, hb, fun b o h => .inl h, fun b o h => h.imp id And.left, fun b o h => h.elim (fun h => Nat.lt_of_lt_of_le (hD b o h) hb.size) And.right, hv, ownOk_none hr⟩
theorem arr2 {vs : Array Value} (h : vs.size = 2) : vs = #[vs.getD 0 undef, vs.getD 1 undef] := by
  obtain ⟨l⟩ := vs
  match l, h with
  | [x, y], _ => rfl
theorem cn_set {f : FuncId} {a b r : List Iv} (ha : Nrm a) (hb : Nrm b) (hent : ∀ args w, (callFunc f args).run Tryd.prog w = .ok (.enter f args) w)
    (h : ∀ va vb w, RdR 0 w.heap.size w va a → RdR 0 w.heap.size w vb b → Calls Tryd.prog f #[va, vb] w fun e w' => ∃ v, e = .returned v ∧ OwnR w.heap.size w' v r ∧ Below w.heap.size w w') : Cn Tryd.prog f [rg a, rg b] (rg r) := by
  refine cn_mem rfl hent fun D w vs hD hsz hd => ?_
  rw [arr2 hsz]
  refine (h _ _ w (dat_rdr (hd 0 _ rfl) hD ha.lt) (dat_rdr (hd 1 _ rfl) hD hb.lt)).mono ?_
  rintro e w' ⟨v, rfl, hv, hbl⟩
  exact ⟨v, rfl, hbl, rdr_dat hv.rd fun b o h1 h2 => .inr ⟨h1, h2⟩⟩
theorem union_c (a b : List Iv) (ha : Nrm a) (hb : Nrm b) (hl : a.length + b.length ≤ 1073741824) : Cn Tryd.prog 19 [rg a, rg b] (rg (opS fUnion a b)) :=
  cn_set ha hb (enters_of Tryd.func19 (by kernel_rfl) rfl) fun va vb w ra rb => union_calls a b va vb w ha hb ra rb hl
theorem meet_c (a b : List Iv) (ha : Nrm a) (hb : Nrm b) (hl : a.length + b.length ≤ 1073741824) : Cn Tryd.prog 20 [rg a, rg b] (rg (opS fMeet a b)) :=
  cn_set ha hb (enters_of Tryd.func20 (by kernel_rfl) rfl) fun va vb w ra rb => meet_calls a b va vb w ha hb ra rb hl
theorem minus_c (a b : List Iv) (ha : Nrm a) (hb : Nrm b) (hl : a.length + b.length ≤ 1073741824) : Cn Tryd.prog 21 [rg a, rg b] (rg (opS fMinus a b)) :=
  cn_set ha hb (enters_of Tryd.func21 (by kernel_rfl) rfl) fun va vb w ra rb => minus_calls a b va vb w ha hb ra rb hl
theorem not_c (a : List Iv) (s : Iv) (ha : Nrm a) (hs : s.lo ≤ s.hi) (hs' : s.hi < M64) (hl : a.length ≤ 1073741823) : Cn Tryd.prog 69 [rg a, ivp s] (rg (opS fMinus [s] a)) := by
  refine cn_mem rfl (enters_of Tryd.func69 (by kernel_rfl) rfl) fun D w vs hD hsz hd => ?_
  rw [arr2 hsz]
  have h1 : vs.getD 1 undef = .agg #[.int .u64 s.lo, .int .u64 s.hi] := by
    have := hd 1 _ rfl
    unfold ivp at this
    generalize vs.getD 1 undef = v1 at this ⊢
    generalize hc : ivc s = cs at this
    cases this with
    | agg us cs hs _ h =>
      subst hc
      obtain ⟨l⟩ := us
      match l, hs with
      | [x, y], _ =>
        have e0 := (h 0 _ rfl).v_inv
        have e1 := (h 1 _ rfl).v_inv
        simp at e0 e1
        rw [e0, e1]
  rw [h1]
  refine (not_calls a _ s w ha hs hs' (dat_rdr (hd 0 _ rfl) hD ha.lt) hl).mono ?_
  rintro e w' ⟨v, rfl, hv, hbl⟩
  exact ⟨v, rfl, hbl, rdr_dat hv.rd fun b o h1 h2 => .inr ⟨h1, h2⟩⟩
theorem never_sub {a b : List Iv} (ha : Nrm a) (hb : Nrm b) : neverB a b true false = decide (opS fMinus a b = []) := by
  rw [Bool.eq_iff_iff, neverB_iff ha hb, decide_eq_true_eq]
  constructor
  · intro h
    exact opS_eq ha hb trivial fun x hx => by
      have := h x hx
      simp only [mem_nil, fMinus]
      revert this
      cases mem a x <;> cases mem b x <;> simp
  · intro h z hz
    have := opS_mem (f := fMinus) ha hb hz
    rw [h] at this
    simp only [mem_nil, fMinus] at this
    revert this
    cases mem a z <;> cases mem b z <;> simp
theorem never_dis {a b : List Iv} (ha : Nrm a) (hb : Nrm b) : neverB a b true true = decide (opS fMeet a b = []) := by
  rw [Bool.eq_iff_iff, neverB_iff ha hb, decide_eq_true_eq]
  constructor
  · intro h
    exact opS_eq ha hb trivial fun x hx => by
      have := h x hx
      simp only [mem_nil, fMeet]
      revert this
      cases mem a x <;> cases mem b x <;> simp
  · intro h z hz
    have := opS_mem (f := fMeet) ha hb hz
    rw [h] at this
    simp only [mem_nil, fMeet] at this
    revert this
    cases mem a z <;> cases mem b z <;> simp
theorem subset_c (a b : List Iv) (ha : Nrm a) (hb : Nrm b) : Cn Tryd.prog 71 [rg a, rg b] (.v (.bool (decide (opS fMinus a b = [])))) := by
  rw [← never_sub ha hb]
  refine cn_mem rfl (enters_of Tryd.func71 (by kernel_rfl) rfl) fun D w vs hD hsz hd => ?_
  rw [arr2 hsz]
  refine (subset_calls a b _ _ w ha hb (dat_rdr (hd 0 _ rfl) hD ha.lt) (dat_rdr (hd 1 _ rfl) hD hb.lt)).mono ?_
  rintro e w' ⟨rfl, hbl⟩
  exact ⟨_, rfl, hbl, .v _⟩
theorem disjoint_c (a b : List Iv) (ha : Nrm a) (hb : Nrm b) : Cn Tryd.prog 70 [rg a, rg b] (.v (.bool (decide (opS fMeet a b = [])))) := by
  rw [← never_dis ha hb]
  refine cn_mem rfl (enters_of Tryd.func70 (by kernel_rfl) rfl) fun D w vs hD hsz hd => ?_
  rw [arr2 hsz]
  refine (disjoint_calls a b _ _ w ha hb (dat_rdr (hd 0 _ rfl) hD ha.lt) (dat_rdr (hd 1 _ rfl) hD hb.lt)).mono ?_
  rintro e w' ⟨rfl, hbl⟩
  exact ⟨_, rfl, hbl, .v _⟩
end Go.Proofs.YtcedofkenfddkaaDoor
