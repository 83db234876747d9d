/- Texts of this claim, bound together: T15 T16 T17 Q9 Q12 Q9n T18 T19 Bs Ct T20 Do T21 Dp. -/
import Derived.Test.YtjmhmeadcphfmaaGreatDoorB16
/- The contracts of fault.find, Code and At without memory. -/
namespace Go.Proofs.YtjmhmeadcphfmaaGreatDoor
set_option linter.unusedVariables false
set_option linter.unusedSimpArgs false
open Go.RowKit
set_option maxRecDepth 100000
def z2 : Obj := .cells #[.int .i64 0, .int .i64 0] 112
theorem dat_errno {D : Nat → Nat → Prop} {w : World} {v : Value} {c : Int} {t : TypeId} (h : Dat D w v (.ifc t (.v (.int .i64 c)))) : v = .iface t (.int .i64 c) := by
  cases h with
  | ifc t x p h => rw [h.v_inv]
theorem dat_fault {D : Nat → Nat → Prop} {w : World} {v : Value} {c k : Int} {t : TypeId} (h : Dat D w v (.ifc t (.agg [.v (.int .i64 c), .v (.int .i64 k)]))) : v = .iface t (.agg #[.int .i64 c, .int .i64 k]) := by
  cases h with
  | ifc t x p h =>
    generalize hc : [PV.v (.int .i64 c), PV.v (.int .i64 k)] = cs at h
    cases h with
    | agg us cs hs _ h =>
      subst hc
      obtain ⟨l⟩ := us
      match l, hs with
      | [x, y], _ =>
        have e0 := (h 0 _ rfl).v_inv
        have e1 := (h 1 _ rfl).v_inv
        simp at e0 e1
        rw [e0, e1]
/-- fault.Code at what ranges.Check and entry.Check make. -/
theorem codeN_c (c : Nat) : Cn Tryz.prog 35 [errno c] (.v (.int .i64 c)) := by
  refine cn_memG rfl (enters_of Tryz.func35 (by kernel_rfl) rfl) fun D w vs hg hD hsz hd => ?_
  rw [arr1 hsz, dat_errno (hd 0 _ rfl)]
  refine (code_N c w hg).mono ?_
  rintro e w' ⟨rfl, hb⟩
  exact ⟨_, rfl, hb, .v _⟩
theorem code_c (c : Nat) (k : Int) : Cn Tryz.prog 35 [errV c k] (.v (.int .i64 c)) := by
  refine cn_memG rfl (enters_of Tryz.func35 (by kernel_rfl) rfl) fun D w vs hg hD hsz hd => ?_
  have h0 := hd 0 _ rfl
  unfold errV at h0
  rw [arr1 hsz]
  by_cases hc : c = 0
  · rw [if_pos hc] at h0
    subst hc
    rw [h0.v_inv]
    refine (code_nil w).mono ?_
    rintro e w' ⟨rfl, hb⟩
    exact ⟨_, rfl, hb, .v _⟩
  · rw [if_neg hc] at h0
    rw [dat_fault h0]
    refine (code_F c k w hg).mono ?_
    rintro e w' ⟨rfl, hb⟩
    exact ⟨_, rfl, hb, .v _⟩
end Go.Proofs.YtjmhmeadcphfmaaGreatDoor
/- The contracts of ranges.Same, entry.Same, kenningref07.Canonical, Canon; the example of chapter 7. -/
namespace Go.Proofs.YtjmhmeadcphfmaaGreatDoor
set_option linter.unusedVariables false
set_option linter.unusedSimpArgs false
open Go.RowKit
set_option maxRecDepth 100000
end Go.Proofs.YtjmhmeadcphfmaaGreatDoor
/- The laws of chapter 7: they return true. -/
namespace Go.Proofs.YtjmhmeadcphfmaaGreatDoor
set_option linter.unusedVariables false
set_option linter.unusedSimpArgs false
open Go.RowKit
set_option maxRecDepth 100000
end Go.Proofs.YtjmhmeadcphfmaaGreatDoor
/- Plain mathematics of vectors: the check, the search, the order of the numbers. No condition. -/
namespace Go.Proofs.YtjmhmeadcphfmaaGreatDoor
set_option linter.unusedVariables false
set_option linter.unusedSimpArgs false
open Go.RowKit
def fewB (v : List En) : Bool := v.all (fun e => decide (e.holes.length ≤ 30)) && decide (v.length ≤ 20)
theorem fewB_iff {v : List En} : fewB v = true ↔ (∀ e ∈ v, e.holes.length ≤ 30) ∧ v.length ≤ 20 := by simp [fewB]
def prv (v : List En) (k : Nat) : Nat := match v[k - 1]? with
  | some p => p.rep
  | none => 0
theorem prv_at {v : List En} {k : Nat} (h : k - 1 < v.length) : prv v k = v[k - 1].rep := by simp [prv, List.getElem?_eq_getElem h]
def hkV (v : List En) : Nat → List En → Nat × Int
  | _, [] => (0, -1)
  | k, e :: r => if (chkE e).1 ≠ 0 then ((chkE e).1, (k : Int)) else if 0 < k ∧ e.rep ≤ prv v k then (3, (k : Int)) else hkV v (k + 1) r
def chkV (v : List En) : Nat × Int := hkV v 0 v
theorem hkV_zero (v : List En) : ∀ (k : Nat) (r : List En), r = v.drop k → ((hkV v k r).1 = 0 ↔ (∀ e ∈ r, (chkE e).1 = 0) ∧ ∀ j (h : j < v.length), k ≤ j → 0 < j → v[j - 1].rep < v[j].rep)
  | k, [], h => by
    have hl := congrArg List.length h
    simp at hl
    simp only [hkV, List.not_mem_nil, false_implies, implies_true, true_and, true_iff]
    intro j hj hk
    omega
  | k, e :: r, h => by
    have hl := congrArg List.length h
    simp at hl
    have hk : k < v.length := by omega
    rw [List.drop_eq_getElem_cons hk, List.cons.injEq] at h
    obtain ⟨he, hr⟩ := h
    have ih := hkV_zero v (k + 1) r hr
    unfold hkV
    by_cases h1 : (chkE e).1 ≠ 0
    · rw [if_pos h1]
      constructor
      · intro h; exact absurd h h1
      · rintro ⟨h2, _⟩; exact absurd (h2 e (by simp)) h1
    · rw [if_neg h1]
      have h1' : (chkE e).1 = 0 := by omega
      by_cases h2 : 0 < k ∧ e.rep ≤ prv v k
      · rw [if_pos h2]
        constructor
        · intro h; cases h
        · rintro ⟨_, h3⟩
          have := h3 k hk (Nat.le_refl _) h2.1
          have h22 := h2.2
          have h23 := congrArg En.rep he
          rw [prv_at (by omega)] at h22
          omega
      · rw [if_neg h2, ih]
        constructor
        · rintro ⟨h3, h4⟩
          refine ⟨fun f hf => ?_, fun j hj hkj hj0 => ?_⟩
          · rcases List.mem_cons.1 hf with rfl | hf
            · exact h1'
            · exact h3 f hf
          · rcases Nat.eq_or_lt_of_le hkj with rfl | hlt
            · rw [prv_at (by omega), he] at h2
              omega
            · exact h4 j hj (by omega) hj0
        · rintro ⟨h3, h4⟩
          exact ⟨fun f hf => h3 f (by simp [hf]), fun j hj hkj hj0 => h4 j hj (by omega) hj0⟩
theorem adj_pair {v : List En} (h : ∀ j (h : j < v.length), 0 < j → v[j - 1].rep < v[j].rep) : v.Pairwise fun a b => a.rep < b.rep := by
  rw [List.pairwise_iff_getElem]
  intro i j hi hj hij
  induction j with
  | zero => omega
  | succ j ih =>
    have h1 := h (j + 1) hj (by omega)
    simp only [Nat.add_sub_cancel] at h1
    rcases Nat.eq_or_lt_of_le (Nat.le_of_lt_succ hij) with rfl | h2
    · exact h1
    · have := ih (by omega) h2
      omega
theorem chkV_iff {v : List En} (hb : ∀ e ∈ v, BdE e) : (chkV v).1 = 0 ↔ RightV v := by
  unfold chkV
  rw [hkV_zero v 0 v rfl]
  have hE : ∀ e ∈ v, (chkE e).1 = 0 ↔ RightE e := fun e he => by
    have := rightEB_iff (hb e he).1 (hb e he).2.1 (hb e he).2.2
    unfold rightEB at this
    simpa using this
  constructor
  · rintro ⟨h1, h2⟩
    exact ⟨fun e he => (hE e he).1 (h1 e he), adj_pair fun j hj h0 => h2 j hj (Nat.zero_le _) h0⟩
  · rintro ⟨h1, h2⟩
    refine ⟨fun e he => (hE e he).2 (h1 e he), fun j hj _ h0 => ?_⟩
    exact List.pairwise_iff_getElem.1 h2 (j - 1) j (by omega) hj (by omega)
/-- The first entry of a replica. -/
def fdV (r : Nat) : Nat → List En → Int
  | _, [] => -1
  | k, e :: t => if e.rep = r then (k : Int) else fdV r (k + 1) t
theorem fdV_spec (r : Nat) : ∀ (l : List En) (k : Nat), (fdV r k l = -1 ∧ ∀ e ∈ l, e.rep ≠ r) ∨ ∃ (i : Nat) (h : i < l.length), fdV r k l = ((k + i : Nat) : Int) ∧ l[i].rep = r
  | [], k => .inl ⟨rfl, fun _ h => by cases h⟩
  | e :: t, k => by
    unfold fdV
    by_cases h : e.rep = r
    · rw [if_pos h]
      exact .inr ⟨0, by simp, by simp, h⟩
    · rw [if_neg h]
      rcases fdV_spec r t (k + 1) with ⟨h1, h2⟩ | ⟨i, hi, h1, h2⟩
      · refine .inl ⟨h1, fun f hf => ?_⟩
        rcases List.mem_cons.1 hf with rfl | hf
        · exact h
        · exact h2 f hf
      · exact .inr ⟨i + 1, by simpa using hi, by rw [h1]; omega, by simpa using h2⟩
theorem part_rep {v : List En} (h : RightV v) (r : Nat) : ∃ i, i ≤ v.length ∧ (∀ j, (h : j < v.length) → j < i → v[j].rep < r) ∧ (∀ j, (h : j < v.length) → i ≤ j → r ≤ v[j].rep) := by
  have hp := List.pairwise_iff_getElem.1 h.2
  obtain ⟨i, h1, h2, h3⟩ := ex_part (fun j => ∃ h : j < v.length, v[j].rep < r) v.length fun a b hab hb ⟨h4, h5⟩ => by
    refine ⟨by omega, ?_⟩
    rcases Nat.lt_or_eq_of_le hab with h6 | h6
    · have := hp a b (by omega) hb h6
      omega
    · subst h6; exact h5
  exact ⟨i, h1, fun j hj hji => (h2 j hji).2, fun j hj hij => Nat.le_of_not_lt fun h => h3 j hij hj ⟨hj, h⟩⟩
theorem fdV_part {v : List En} (hr : RightV v) {r i : Nat} (h1 : ∀ j, (h : j < v.length) → j < i → v[j].rep < r) (h2 : ∀ j, (h : j < v.length) → i ≤ j → r ≤ v[j].rep) :
    fdV r 0 v = if h : i < v.length then (if v[i].rep = r then (i : Int) else -1) else -1 := by
  have hp := List.pairwise_iff_getElem.1 hr.2
  rcases fdV_spec r v 0 with ⟨e1, e2⟩ | ⟨j, hj, e1, e2⟩
  · rw [e1]
    split
    · rename_i h
      rw [if_neg (e2 _ (List.getElem_mem h))]
    · rfl
  · have hij : i ≤ j := Nat.le_of_not_lt fun h => by have := h1 j hj h; omega
    have : i = j := by
      rcases Nat.lt_or_eq_of_le hij with h | h
      · have a1 := hp i j (by omega) hj h
        have a2 := h2 i (by omega) (Nat.le_refl _)
        omega
      · exact h
    subst this
    rw [dif_pos hj, if_pos e2, e1, Nat.zero_add]
theorem knV_fd {v : List En} (hr : RightV v) {r i : Nat} (hi : i < v.length) (h : v[i].rep = r) : knV v r = kn v[i] := by
  rw [← h]; exact knV_mem hr.2 (List.getElem_mem hi)
end Go.Proofs.YtjmhmeadcphfmaaGreatDoor
/- The boundaries of lists of intervals and of vectors: what is made of some has no others, so its length is bounded. No condition. -/
namespace Go.Proofs.YtjmhmeadcphfmaaGreatDoor
set_option linter.unusedVariables false
set_option linter.unusedSimpArgs false
theorem ascLen : ∀ (r xs : List Nat), Asc r → (∀ y ∈ r, y ∈ xs) → r.length ≤ xs.length := by
  intro r
  induction r with
  | nil => intro xs _ _; exact Nat.zero_le _
  | cons x r ih =>
    intro xs h hm
    have h' := List.pairwise_cons.1 h
    have := ih (xs.erase x) h'.2 fun y hy => by
      have h3 := h'.1 y hy
      exact (List.mem_erase_of_ne (by omega)).2 (hm y (by simp [hy]))
    have hx : x ∈ xs := hm x (by simp)
    rw [List.length_erase_of_mem hx] at this
    have := List.length_pos_of_mem hx
    simp; omega
/-- Where a set of numbers begins or ends. -/
def Ed (l : List Iv) (x : Nat) : Prop := x < M64 ∧ mem l x ≠ (if x = 0 then false else mem l (x - 1))
theorem NF.lo_prev : ∀ {l : List Iv} {n : Nat}, NF n l → ∀ s ∈ l, s.lo ≠ 0 → mem l (s.lo - 1) = false
  | [], _, _, s, hs, _ => by cases hs
  | t :: l, n, h, s, hs, h0 => by
    obtain ⟨h1, h2, h3, h4⟩ := h
    rcases List.mem_cons.1 hs with rfl | hs
    · rw [mem_cons, h4.mem_lt (by omega), decide_eq_false (show ¬ s.lo ≤ s.lo - 1 by omega)]
      rfl
    · have := h4.lo_ge s hs
      rw [mem_cons, NF.lo_prev h4 s hs h0, decide_eq_false (show ¬ s.lo - 1 ≤ t.hi by omega)]
      simp
theorem NF.asc : ∀ {l : List Iv} {n : Nat}, NF n l → Asc (l.map Iv.lo)
  | [], _, _ => List.Pairwise.nil
  | t :: l, n, h => by
    refine List.pairwise_cons.2 ⟨fun y hy => ?_, NF.asc h.2.2.2⟩
    obtain ⟨s, hs, rfl⟩ := List.mem_map.1 hy
    have := h.2.2.2.lo_ge s hs
    have := h.2.1
    omega
theorem ed_lo {l : List Iv} (h : Nrm l) {s : Iv} (hs : s ∈ l) : Ed l s.lo := by
  have h1 := NF.lo_ge h s hs
  have h2 : mem l s.lo = true := mem_iff.2 ⟨s, hs, Nat.le_refl _, h1.2.1⟩
  refine ⟨by omega, ?_⟩
  rw [h2]
  split
  · simp
  · rename_i h0
    rw [NF.lo_prev h s hs h0]
    simp
theorem ed_len {l : List Iv} {C : List Nat} (h : Nrm l) (hC : ∀ x, Ed l x → x ∈ C) : l.length ≤ C.length := by
  have := ascLen (l.map Iv.lo) C (NF.asc h) fun y hy => by
    obtain ⟨s, hs, rfl⟩ := List.mem_map.1 hy
    exact hC _ (ed_lo h hs)
  simpa using this
theorem ed_cuts {l : List Iv} (h : ∀ s ∈ l, s.lo ≤ s.hi ∧ s.hi < M64) {x : Nat} (hx : Ed l x) : x ∈ cuts l := by
  refine Classical.byContradiction fun hn => hx.2 ?_
  split
  · rename_i h0
    subst h0
    cases hm : mem l 0 with
    | false => rfl
    | true =>
      obtain ⟨s, hs, h1, h2⟩ := mem_iff.1 hm
      exact absurd (show 0 ∈ cuts l from List.mem_flatMap.2 ⟨s, hs, List.mem_cons.2 (.inl (by omega))⟩) hn
  · exact mem_same h (x := x - 1) (y := x) (by omega) hx.1 fun c hc => by
      have : c ≠ x := fun e => hn (e ▸ hc)
      omega
theorem Nrm.ivs2 {l : List Iv} (h : Nrm l) : ∀ s ∈ l, s.lo ≤ s.hi ∧ s.hi < M64 := fun s hs => (NF.lo_ge h s hs).2
theorem ed_op {f : Bool → Bool → Bool} (hf : f false false = false) {a b : List Iv} (ha : Nrm a) (hb : Nrm b) {x : Nat} (h : Ed (opS f a b) x) : Ed a x ∨ Ed b x := by
  obtain ⟨hx, hne⟩ := h
  by_cases h1 : mem a x = (if x = 0 then false else mem a (x - 1))
  · by_cases h2 : mem b x = (if x = 0 then false else mem b (x - 1))
    · refine absurd ?_ hne
      rw [opS_mem ha hb hx, h1, h2]
      split
      · exact hf
      · rw [opS_mem ha hb (by omega)]
    · exact .inr ⟨hx, h2⟩
  · exact .inl ⟨hx, h1⟩
theorem ed_nil {x : Nat} : ¬ Ed [] x := fun h => h.2 (by simp)
theorem ed_one {m n x : Nat} (h : Ed [⟨m, n⟩] x) : x = m ∨ x = n + 1 := by
  obtain ⟨_, h⟩ := h
  rw [mem_one, mem_one] at h
  by_cases e1 : x = m
  · exact .inl e1
  · by_cases e2 : x = n + 1
    · exact .inr e2
    · refine absurd ?_ h
      split
      · rename_i h0
        rw [decide_eq_false (show ¬ m ≤ x by omega)]
        rfl
      · rw [Bool.eq_iff_iff]
        simp only [Bool.and_eq_true, decide_eq_true_eq]
        omega
/-- The boundaries of what a vector knows lie in C. -/
def EdV (C : Nat → List Nat) (v : List En) : Prop := ∀ r x, Ed (knV v r) x → x ∈ C r
/-- A correct vector with its boundaries in C and its replicas in R. -/
structure IV (C : Nat → List Nat) (R : List Nat) (v : List En) : Prop where
  right : RightV v
  ed : EdV C v
  rep : ∀ e ∈ v, e.rep ∈ R
structure WV (C : Nat → List Nat) (R : List Nat) (v : List En) : Prop where
  can : CanV v
  ed : EdV C v
  rep : ∀ e ∈ v, e.rep ∈ R
variable {C C' : Nat → List Nat} {R R' : List Nat} {v a b : List En}
theorem WV.iv (h : WV C R v) : IV C R v := ⟨h.can.right, h.ed, h.rep⟩
theorem WV.nil : WV C R [] := ⟨⟨fun e h => (by cases h), List.Pairwise.nil⟩, fun r x h => absurd h (by rw [knV_nil]; exact ed_nil), fun e h => (by cases h)⟩
theorem IV.mono (h : IV C R v) (hC : ∀ r x, x ∈ C r → x ∈ C' r) (hR : ∀ x ∈ R, x ∈ R') : IV C' R' v := ⟨h.right, fun r x hx => hC _ _ (h.ed r x hx), fun e he => hR _ (h.rep e he)⟩
theorem WV.mono (h : WV C R v) (hC : ∀ r x, x ∈ C r → x ∈ C' r) (hR : ∀ x ∈ R, x ∈ R') : WV C' R' v := ⟨h.can, fun r x hx => hC _ _ (h.ed r x hx), fun e he => hR _ (h.rep e he)⟩
theorem IV.lat {f : Bool → Bool → Bool} (hf : f false false = false) (ha : IV C R a) (hb : IV C R b) : WV C R (lat f a b) := by
  refine ⟨lat_can f ha.right hb.right, fun r x hx => ?_, fun e he => ?_⟩
  · rw [lat_kn hf ha.right hb.right] at hx
    rcases ed_op hf (knV_nrm ha.right r) (knV_nrm hb.right r) hx with h | h
    · exact ha.ed r x h
    · exact hb.ed r x h
  · have := srt_mem.1 (lat_reps e he)
    rcases List.mem_append.1 this with h | h
    · obtain ⟨e', he', h⟩ := List.mem_map.1 h
      rw [← h]; exact ha.rep e' he'
    · obtain ⟨e', he', h⟩ := List.mem_map.1 h
      rw [← h]; exact hb.rep e' he'
theorem can_holes_len {e : En} (h : CanE e) {L : List Nat} (hL : ∀ x, Ed (kn e) x → x ∈ L) : e.holes.length ≤ L.length + 2 := by
  have h1 := can_ofS h
  have h2 := (can_kn h).1
  have hn := kn_nrm h.1
  rw [ofS_cons h2] at h1
  have h3 : e.holes = opS fMinus [⟨0, top (kn e)⟩] (kn e) := by
    have := congrArg (fun p => p.1.holes) h1
    exact this.symm
  have ht := (top_mem hn h2).2
  have h0 := nrm_one (Nat.zero_le (top (kn e))) ht
  rw [h3]
  have := ed_len (C := 0 :: (top (kn e) + 1) :: L) (opS_nrm (f := fMinus) h0 hn) fun x hx => by
    rcases ed_op fM0 h0 hn hx with h | h
    · rcases ed_one h with h | h <;> simp [h]
    · simp [hL x h]
  simpa using this
theorem asc_reps (h : v.Pairwise fun a b => a.rep < b.rep) : Asc (reps v) := by
  unfold Asc reps
  rw [List.pairwise_map]
  exact h
theorem WV.bv (h : WV C R v) {n m : Nat} (hC : ∀ r, (C r).length ≤ n) (hR : R.length ≤ m) : BV m (n + 2) v := by
  refine ⟨h.can.right, ?_, fun e he => ?_⟩
  · have := ascLen (reps v) R (asc_reps h.can.2) fun y hy => by
      obtain ⟨e, he, rfl⟩ := List.mem_map.1 hy
      exact h.rep e he
    simp only [reps, List.length_map] at this
    omega
  · have := can_holes_len (h.can.1 e he) (L := C e.rep) fun x hx => h.ed e.rep x (by rw [knV_mem h.can.2 he]; exact hx)
    have := hC e.rep
    omega
theorem IV.of (h : RightV v) : IV (fun r => cuts (knV v r)) (reps v) v := ⟨h, fun r x hx => ed_cuts (knV_nrm h r).ivs2 hx, fun e he => List.mem_map.2 ⟨e, he, rfl⟩⟩
end Go.Proofs.YtjmhmeadcphfmaaGreatDoor
/- The numbers of a vector tell it. No condition. -/
namespace Go.Proofs.YtjmhmeadcphfmaaGreatDoor
set_option linter.unusedVariables false
set_option linter.unusedSimpArgs false
open Go.RowKit
end Go.Proofs.YtjmhmeadcphfmaaGreatDoor
/- The contracts of vector (Find, Has, Compare) and of kenningref09 (Few, Find, Has, Numbers, Compare, Same). -/
namespace Go.Proofs.YtjmhmeadcphfmaaGreatDoor
set_option linter.unusedVariables false
set_option linter.unusedSimpArgs false
open Go.RowKit
set_option maxRecDepth 100000
theorem few_c (v : List En) (hl : v.length ≤ 9223372036854775807) : Cn Tryz.prog 74 [vp v] (.v (.bool (fewB v))) := by
  refine cn_go Tryz.func74 [] 1 (by kernel_rfl) rfl (by simp [go_sem, seval]) ?_
  conv => arg 4; cbv
  conv => enter [5, 1]; cbv
  try simp (maxSteps := 2000000) (disch := omega) only [go_sem, seval]
  try repeat ((with_reducible refine And.intro ?_ ?_); focus (first | omega | assumption | exact True.intro | (show anyD _ _ = true; exact rfl) | (simp only [List.length_map, List.length_append, List.length_cons, List.length_nil, List.length_take, List.length_drop]; omega)))
  refine pLoop.go (fun k => k ≤ v.length ∧ fewB v = ((v.drop k).all (fun e => decide (e.holes.length ≤ 30)) && decide (v.length ≤ 20))) (fun k => [(3, .v (.int .i64 (k : Nat)))]) (fun _ => []) (fun k => v.length - k) 0 [3] ?_ ?_ ?_
  · exact ⟨Nat.zero_le _, rfl⟩
  · try simp (maxSteps := 2000000) (disch := omega) only [go_sem, seval]
    try repeat ((with_reducible refine And.intro ?_ ?_); focus (first | omega | assumption | exact True.intro | (show anyD _ _ = true; exact rfl) | (simp only [List.length_map, List.length_append, List.length_cons, List.length_nil, List.length_take, List.length_drop]; omega)))
  · rintro k ⟨hk, hm⟩
    try simp (maxSteps := 2000000) (disch := omega) only [go_sem, seval]
    try repeat ((with_reducible refine And.intro ?_ ?_); focus (first | omega | assumption | exact True.intro | (show anyD _ _ = true; exact rfl) | (simp only [List.length_map, List.length_append, List.length_cons, List.length_nil, List.length_take, List.length_drop]; omega)))
    (first | refine brP.mk (fun h => ?_) (fun h => ?_) | refine gdP.mkt (fun h => ?_) (fun h => ?_) | refine gdP.mkf (fun h => ?_) (fun h => ?_) | refine pkP.mk (fun h => ?_) (fun h => ?_)) <;> (try simp only [Bool.not_true, Bool.not_false, decide_eq_true_eq, decide_eq_false_iff_not, Bool.and_eq_true, Bool.or_eq_true, Bool.not_eq_true', Bool.not_eq_false', Bool.and_eq_false_iff, Bool.or_eq_false_iff, Nat.not_lt, Int.not_lt, Nat.not_le, Int.not_le, Int.ofNat_lt, Int.ofNat_le, Int.ofNat_inj, Bool.xor_false, Bool.false_xor, Bool.true_xor, Bool.xor_true] at h) <;> (try simp (maxSteps := 2000000) (disch := omega) only [go_sem, seval]) <;> (try repeat ((with_reducible refine And.intro ?_ ?_); focus (first | omega | assumption | exact True.intro | (show anyD _ _ = true; exact rfl) | (simp only [List.length_map, List.length_append, List.length_cons, List.length_nil, List.length_take, List.length_drop]; omega))))
    · rw [List.drop_eq_getElem_cons h, List.all_cons] at hm
      try simp (maxSteps := 2000000) (disch := omega) only [go_sem, seval]
      try repeat ((with_reducible refine And.intro ?_ ?_); focus (first | omega | assumption | exact True.intro | (show anyD _ _ = true; exact rfl) | (simp only [List.length_map, List.length_append, List.length_cons, List.length_nil, List.length_take, List.length_drop]; omega)))
      (first | refine brP.mk (fun h2 => ?_) (fun h2 => ?_) | refine gdP.mkt (fun h2 => ?_) (fun h2 => ?_) | refine gdP.mkf (fun h2 => ?_) (fun h2 => ?_) | refine pkP.mk (fun h2 => ?_) (fun h2 => ?_)) <;> (try simp only [Bool.not_true, Bool.not_false, decide_eq_true_eq, decide_eq_false_iff_not, Bool.and_eq_true, Bool.or_eq_true, Bool.not_eq_true', Bool.not_eq_false', Bool.and_eq_false_iff, Bool.or_eq_false_iff, Nat.not_lt, Int.not_lt, Nat.not_le, Int.not_le, Int.ofNat_lt, Int.ofNat_le, Int.ofNat_inj, Bool.xor_false, Bool.false_xor, Bool.true_xor, Bool.xor_true] at h2) <;> (try simp (maxSteps := 2000000) (disch := omega) only [go_sem, seval]) <;> (try repeat ((with_reducible refine And.intro ?_ ?_); focus (first | omega | assumption | exact True.intro | (show anyD _ _ = true; exact rfl) | (simp only [List.length_map, List.length_append, List.length_cons, List.length_nil, List.length_take, List.length_drop]; omega))))
      · rw [hm, decide_eq_false (by omega)]
        rfl
      · rw [decide_eq_true (by omega), Bool.true_and] at hm
        exact ⟨k + 1, ⟨h, hm⟩, by omega, rfl⟩
    · rw [hm, List.drop_of_length_le (by omega)]
      simp
      omega
theorem nan_c (x : Nat) : Cn Tryz.prog 208 [.v (.int .u64 x)] (.v (.bool false)) := by
  refine cn_go Tryz.func208 [] 1 (by kernel_rfl) rfl (by simp [go_sem, seval]) ?_
  conv => arg 4; cbv
  conv => enter [5, 1]; cbv
  try simp (maxSteps := 2000000) (disch := omega) only [go_sem, seval]
  try repeat ((with_reducible refine And.intro ?_ ?_); focus (first | omega | assumption | exact True.intro | (show anyD _ _ = true; exact rfl) | (simp only [List.length_map, List.length_append, List.length_cons, List.length_nil, List.length_take, List.length_drop]; omega)))
theorem cmp_c (x y : Nat) : Cn Tryz.prog 176 [.v (.int .u64 x), .v (.int .u64 y)] (.v (.int .i64 (if x < y then -1 else if y < x then 1 else 0))) := by
  refine cn_go Tryz.func176 [] 2 (by kernel_rfl) rfl (by simp [go_sem, seval]) ?_
  conv => arg 4; cbv
  conv => enter [5, 1]; cbv
  try simp (maxSteps := 2000000) (disch := omega) only [go_sem, seval]
  try repeat ((with_reducible refine And.intro ?_ ?_); focus (first | omega | assumption | exact True.intro | (show anyD _ _ = true; exact rfl) | (simp only [List.length_map, List.length_append, List.length_cons, List.length_nil, List.length_take, List.length_drop]; omega)))
  (first | refine callP.mk (nan_c x) rfl ?_ | refine callQ.mk (nan_c x) rfl ?_ | refine callO.rd (nan_c x) rfl ?_ | refine callO.mk (nan_c x) rfl ?_)
  try simp (maxSteps := 2000000) (disch := omega) only [go_sem, seval]
  try repeat ((with_reducible refine And.intro ?_ ?_); focus (first | omega | assumption | exact True.intro | (show anyD _ _ = true; exact rfl) | (simp only [List.length_map, List.length_append, List.length_cons, List.length_nil, List.length_take, List.length_drop]; omega)))
  (first | refine callP.mk (nan_c y) rfl ?_ | refine callQ.mk (nan_c y) rfl ?_ | refine callO.rd (nan_c y) rfl ?_ | refine callO.mk (nan_c y) rfl ?_)
  try simp (maxSteps := 2000000) (disch := omega) only [go_sem, seval]
  try repeat ((with_reducible refine And.intro ?_ ?_); focus (first | omega | assumption | exact True.intro | (show anyD _ _ = true; exact rfl) | (simp only [List.length_map, List.length_append, List.length_cons, List.length_nil, List.length_take, List.length_drop]; omega)))
  (first | refine brP.mk (fun h1 => ?_) (fun h1 => ?_) | refine gdP.mkt (fun h1 => ?_) (fun h1 => ?_) | refine gdP.mkf (fun h1 => ?_) (fun h1 => ?_) | refine pkP.mk (fun h1 => ?_) (fun h1 => ?_)) <;> (try simp only [Bool.not_true, Bool.not_false, decide_eq_true_eq, decide_eq_false_iff_not, Bool.and_eq_true, Bool.or_eq_true, Bool.not_eq_true', Bool.not_eq_false', Bool.and_eq_false_iff, Bool.or_eq_false_iff, Nat.not_lt, Int.not_lt, Nat.not_le, Int.not_le, Int.ofNat_lt, Int.ofNat_le, Int.ofNat_inj, Bool.xor_false, Bool.false_xor, Bool.true_xor, Bool.xor_true] at h1) <;> (try simp (maxSteps := 2000000) (disch := omega) only [go_sem, seval]) <;> (try repeat ((with_reducible refine And.intro ?_ ?_); focus (first | omega | assumption | exact True.intro | (show anyD _ _ = true; exact rfl) | (simp only [List.length_map, List.length_append, List.length_cons, List.length_nil, List.length_take, List.length_drop]; omega))))
  · rw [if_pos h1]
  · rw [if_neg (by omega)]
    (first | refine brP.mk (fun h2 => ?_) (fun h2 => ?_) | refine gdP.mkt (fun h2 => ?_) (fun h2 => ?_) | refine gdP.mkf (fun h2 => ?_) (fun h2 => ?_) | refine pkP.mk (fun h2 => ?_) (fun h2 => ?_)) <;> (try simp only [Bool.not_true, Bool.not_false, decide_eq_true_eq, decide_eq_false_iff_not, Bool.and_eq_true, Bool.or_eq_true, Bool.not_eq_true', Bool.not_eq_false', Bool.and_eq_false_iff, Bool.or_eq_false_iff, Nat.not_lt, Int.not_lt, Nat.not_le, Int.not_le, Int.ofNat_lt, Int.ofNat_le, Int.ofNat_inj, Bool.xor_false, Bool.false_xor, Bool.true_xor, Bool.xor_true] at h2) <;> (try simp (maxSteps := 2000000) (disch := omega) only [go_sem, seval]) <;> (try repeat ((with_reducible refine And.intro ?_ ?_); focus (first | omega | assumption | exact True.intro | (show anyD _ _ = true; exact rfl) | (simp only [List.length_map, List.length_append, List.length_cons, List.length_nil, List.length_take, List.length_drop]; omega))))
    · rw [if_pos h2]
    · rw [if_neg (by omega)]
theorem key_c (r : Nat) (e : En) : Cn Tryz.prog 144 [.v (.int .u64 r), ep e] (.v (.int .i64 (if e.rep < r then -1 else if r < e.rep then 1 else 0))) := by
  refine cn_go Tryz.func144 [] 2 (by kernel_rfl) rfl (by simp [go_sem, seval]) ?_
  conv => arg 4; cbv
  conv => enter [5, 1]; cbv
  try simp (maxSteps := 2000000) (disch := omega) only [go_sem, seval]
  try repeat ((with_reducible refine And.intro ?_ ?_); focus (first | omega | assumption | exact True.intro | (show anyD _ _ = true; exact rfl) | (simp only [List.length_map, List.length_append, List.length_cons, List.length_nil, List.length_take, List.length_drop]; omega)))
  (first | refine callP.mk (cmp_c e.rep r) rfl ?_ | refine callQ.mk (cmp_c e.rep r) rfl ?_ | refine callO.rd (cmp_c e.rep r) rfl ?_ | refine callO.mk (cmp_c e.rep r) rfl ?_)
  try simp (maxSteps := 2000000) (disch := omega) only [go_sem, seval]
  try repeat ((with_reducible refine And.intro ?_ ?_); focus (first | omega | assumption | exact True.intro | (show anyD _ _ = true; exact rfl) | (simp only [List.length_map, List.length_append, List.length_cons, List.length_nil, List.length_take, List.length_drop]; omega)))
end Go.Proofs.YtjmhmeadcphfmaaGreatDoor
/- The contracts of vector.Find, Has, Check, Canonical, Canon and of kenningref09.Has, Check, Canonical, Canon, Numbers, Compare. -/
namespace Go.Proofs.YtjmhmeadcphfmaaGreatDoor
set_option linter.unusedVariables false
set_option linter.unusedSimpArgs false
open Go.RowKit
set_option maxRecDepth 100000
def kfn : PV := .cp [.fn (.func 144) [] []] 0
attribute [go_sem] kfn
theorem vfind1_c (e : En) (r : Nat) : Cn Tryz.prog 158 [ep e, .v (.int .u64 r), kfn] (.v (.int .i64 (if e.rep < r then -1 else if r < e.rep then 1 else 0))) := by
  refine cn_go Tryz.func158 [] 3 (by kernel_rfl) rfl (by simp [go_sem, seval]) ?_
  conv => arg 4; cbv
  conv => enter [5, 1]; cbv
  try simp (maxSteps := 2000000) (disch := omega) only [go_sem, seval]
  try repeat ((with_reducible refine And.intro ?_ ?_); focus (first | omega | assumption | exact True.intro | (show anyD _ _ = true; exact rfl) | (simp only [List.length_map, List.length_append, List.length_cons, List.length_nil, List.length_take, List.length_drop]; omega)))
  (first | refine callP.mk (key_c r e) rfl ?_ | refine callQ.mk (key_c r e) rfl ?_ | refine callO.rd (key_c r e) rfl ?_ | refine callO.mk (key_c r e) rfl ?_)
  try simp (maxSteps := 2000000) (disch := omega) only [go_sem, seval]
  try repeat ((with_reducible refine And.intro ?_ ?_); focus (first | omega | assumption | exact True.intro | (show anyD _ _ = true; exact rfl) | (simp only [List.length_map, List.length_append, List.length_cons, List.length_nil, List.length_take, List.length_drop]; omega)))
theorem bsfV_c (v : List En) (r : Nat) (i : Nat) (hi : i ≤ v.length) (h1 : ∀ j, (h : j < v.length) → j < i → v[j].rep < r) (h2 : ∀ j, (h : j < v.length) → i ≤ j → r ≤ v[j].rep) (hl : v.length ≤ 1152921504606846976) :
    Cn Tryz.prog 157 [vp v, .v (.int .u64 r), .fn (.func 158) [] [kfn]] (.tup [.v (.int .i64 i), .v (.bool (if h : i < v.length then decide (v[i].rep = r) else false))]) := by
  refine cn_go Tryz.func157 [] 3 (by kernel_rfl) rfl (by simp [go_sem, seval]) ?_
  conv => arg 4; cbv
  conv => enter [5, 1]; cbv
  try simp (maxSteps := 2000000) (disch := omega) only [go_sem, seval]
  try repeat ((with_reducible refine And.intro ?_ ?_); focus (first | omega | assumption | exact True.intro | (show anyD _ _ = true; exact rfl) | (simp only [List.length_map, List.length_append, List.length_cons, List.length_nil, List.length_take, List.length_drop]; omega)))
  refine pLoop.go (fun p : Nat × Nat => p.1 ≤ i ∧ i ≤ p.2 ∧ p.2 ≤ v.length) (fun p => [(9, .v (.int .i64 (p.1 : Nat))), (10, .v (.int .i64 (p.2 : Nat)))]) (fun _ => []) (fun p => p.2 - p.1) (0, v.length) [9, 10] ?_ ?_ ?_
  · exact ⟨Nat.zero_le _, hi, Nat.le_refl _⟩
  · try simp (maxSteps := 2000000) (disch := omega) only [go_sem, seval]
    try repeat ((with_reducible refine And.intro ?_ ?_); focus (first | omega | assumption | exact True.intro | (show anyD _ _ = true; exact rfl) | (simp only [List.length_map, List.length_append, List.length_cons, List.length_nil, List.length_take, List.length_drop]; omega)))
  · rintro ⟨p, q⟩ ⟨k1, k2, k3⟩
    simp only at k1 k2 k3
    try simp (maxSteps := 2000000) (disch := omega) only [go_sem, seval]
    try repeat ((with_reducible refine And.intro ?_ ?_); focus (first | omega | assumption | exact True.intro | (show anyD _ _ = true; exact rfl) | (simp only [List.length_map, List.length_append, List.length_cons, List.length_nil, List.length_take, List.length_drop]; omega)))
    (first | refine brP.mk (fun h => ?_) (fun h => ?_) | refine gdP.mkt (fun h => ?_) (fun h => ?_) | refine gdP.mkf (fun h => ?_) (fun h => ?_) | refine pkP.mk (fun h => ?_) (fun h => ?_)) <;> (try simp only [Bool.not_true, Bool.not_false, decide_eq_true_eq, decide_eq_false_iff_not, Bool.and_eq_true, Bool.or_eq_true, Bool.not_eq_true', Bool.not_eq_false', Bool.and_eq_false_iff, Bool.or_eq_false_iff, Nat.not_lt, Int.not_lt, Nat.not_le, Int.not_le, Int.ofNat_lt, Int.ofNat_le, Int.ofNat_inj, Bool.xor_false, Bool.false_xor, Bool.true_xor, Bool.xor_true] at h) <;> (try simp (maxSteps := 2000000) (disch := omega) only [go_sem, seval]) <;> (try repeat ((with_reducible refine And.intro ?_ ?_); focus (first | omega | assumption | exact True.intro | (show anyD _ _ = true; exact rfl) | (simp only [List.length_map, List.length_append, List.length_cons, List.length_nil, List.length_take, List.length_drop]; omega))))
    · have hm : (p + q) / 2 < v.length := by omega
      have a1 := h1 _ hm
      have a2 := h2 _ hm
      try simp (maxSteps := 2000000) (disch := omega) only [go_sem, seval]
      try repeat ((with_reducible refine And.intro ?_ ?_); focus (first | omega | assumption | exact True.intro | (show anyD _ _ = true; exact rfl) | (simp only [List.length_map, List.length_append, List.length_cons, List.length_nil, List.length_take, List.length_drop]; omega)))
      (first | refine callP.mk (vfind1_c v[(p + q) / 2] r) rfl ?_ | refine callQ.mk (vfind1_c v[(p + q) / 2] r) rfl ?_ | refine callO.rd (vfind1_c v[(p + q) / 2] r) rfl ?_ | refine callO.mk (vfind1_c v[(p + q) / 2] r) rfl ?_)
      try simp (maxSteps := 2000000) (disch := omega) only [go_sem, seval]
      try repeat ((with_reducible refine And.intro ?_ ?_); focus (first | omega | assumption | exact True.intro | (show anyD _ _ = true; exact rfl) | (simp only [List.length_map, List.length_append, List.length_cons, List.length_nil, List.length_take, List.length_drop]; omega)))
      (first | refine brP.mk (fun h4 => ?_) (fun h4 => ?_) | refine gdP.mkt (fun h4 => ?_) (fun h4 => ?_) | refine gdP.mkf (fun h4 => ?_) (fun h4 => ?_) | refine pkP.mk (fun h4 => ?_) (fun h4 => ?_)) <;> (try simp only [Bool.not_true, Bool.not_false, decide_eq_true_eq, decide_eq_false_iff_not, Bool.and_eq_true, Bool.or_eq_true, Bool.not_eq_true', Bool.not_eq_false', Bool.and_eq_false_iff, Bool.or_eq_false_iff, Nat.not_lt, Int.not_lt, Nat.not_le, Int.not_le, Int.ofNat_lt, Int.ofNat_le, Int.ofNat_inj, Bool.xor_false, Bool.false_xor, Bool.true_xor, Bool.xor_true] at h4) <;> (try simp (maxSteps := 2000000) (disch := omega) only [go_sem, seval]) <;> (try repeat ((with_reducible refine And.intro ?_ ?_); focus (first | omega | assumption | exact True.intro | (show anyD _ _ = true; exact rfl) | (simp only [List.length_map, List.length_append, List.length_cons, List.length_nil, List.length_take, List.length_drop]; omega))))
      · refine ⟨((p + q) / 2 + 1, q), ⟨?_, k2, k3⟩, by simp only; omega, rfl, rfl⟩
        simp only
        refine Nat.lt_of_not_le fun h5 => ?_
        have := a2 h5
        rw [if_neg (by omega)] at h4
        split at h4 <;> omega
      · refine ⟨(p, (p + q) / 2), ⟨k1, ?_, by simp only; omega⟩, by simp only; omega, rfl, rfl⟩
        simp only
        refine Nat.le_of_not_lt fun h5 => ?_
        have := a1 h5
        rw [if_pos this] at h4
        omega
    · obtain rfl : p = i := by omega
      obtain rfl : q = p := by omega
      (first | refine brP.mk (fun h4 => ?_) (fun h4 => ?_) | refine gdP.mkt (fun h4 => ?_) (fun h4 => ?_) | refine gdP.mkf (fun h4 => ?_) (fun h4 => ?_) | refine pkP.mk (fun h4 => ?_) (fun h4 => ?_)) <;> (try simp only [Bool.not_true, Bool.not_false, decide_eq_true_eq, decide_eq_false_iff_not, Bool.and_eq_true, Bool.or_eq_true, Bool.not_eq_true', Bool.not_eq_false', Bool.and_eq_false_iff, Bool.or_eq_false_iff, Nat.not_lt, Int.not_lt, Nat.not_le, Int.not_le, Int.ofNat_lt, Int.ofNat_le, Int.ofNat_inj, Bool.xor_false, Bool.false_xor, Bool.true_xor, Bool.xor_true] at h4) <;> (try simp (maxSteps := 2000000) (disch := omega) only [go_sem, seval]) <;> (try repeat ((with_reducible refine And.intro ?_ ?_); focus (first | omega | assumption | exact True.intro | (show anyD _ _ = true; exact rfl) | (simp only [List.length_map, List.length_append, List.length_cons, List.length_nil, List.length_take, List.length_drop]; omega))))
      · (first | refine callP.mk (vfind1_c v[q] r) rfl ?_ | refine callQ.mk (vfind1_c v[q] r) rfl ?_ | refine callO.rd (vfind1_c v[q] r) rfl ?_ | refine callO.mk (vfind1_c v[q] r) rfl ?_)
        try simp (maxSteps := 2000000) (disch := omega) only [go_sem, seval]
        try repeat ((with_reducible refine And.intro ?_ ?_); focus (first | omega | assumption | exact True.intro | (show anyD _ _ = true; exact rfl) | (simp only [List.length_map, List.length_append, List.length_cons, List.length_nil, List.length_take, List.length_drop]; omega)))
        have a2 := h2 _ h4 (Nat.le_refl _)
        rw [dif_pos h4, if_neg (by omega)]
        by_cases h5 : v[q].rep = r
        · rw [if_neg (by omega), decide_eq_true h5]
          simp
        · rw [if_pos (by omega), decide_eq_false h5]
          simp
      · rw [dif_neg (by omega)]
theorem vfind_c (v : List En) (r : Nat) (hr : RightV v) (hl : v.length ≤ 1152921504606846976) : Cn Tryz.prog 100 [vp v, .v (.int .u64 r)] (.v (.int .i64 (fdV r 0 v))) := by
  obtain ⟨i, hi, h1, h2⟩ := part_rep hr r
  rw [fdV_part hr h1 h2]
  refine cn_go Tryz.func100 [] 2 (by kernel_rfl) rfl (by simp [go_sem, seval]) ?_
  conv => arg 4; cbv
  conv => enter [5, 1]; cbv
  try simp (maxSteps := 2000000) (disch := omega) only [go_sem, seval]
  try repeat ((with_reducible refine And.intro ?_ ?_); focus (first | omega | assumption | exact True.intro | (show anyD _ _ = true; exact rfl) | (simp only [List.length_map, List.length_append, List.length_cons, List.length_nil, List.length_take, List.length_drop]; omega)))
  (first | refine callP.mk (bsfV_c v r i hi h1 h2 hl) rfl ?_ | refine callQ.mk (bsfV_c v r i hi h1 h2 hl) rfl ?_ | refine callO.rd (bsfV_c v r i hi h1 h2 hl) rfl ?_ | refine callO.mk (bsfV_c v r i hi h1 h2 hl) rfl ?_)
  try simp (maxSteps := 2000000) (disch := omega) only [go_sem, seval]
  try repeat ((with_reducible refine And.intro ?_ ?_); focus (first | omega | assumption | exact True.intro | (show anyD _ _ = true; exact rfl) | (simp only [List.length_map, List.length_append, List.length_cons, List.length_nil, List.length_take, List.length_drop]; omega)))
  by_cases h : i < v.length
  · rw [dif_pos h, dif_pos h]
    (first | refine brP.mk (fun h3 => ?_) (fun h3 => ?_) | refine gdP.mkt (fun h3 => ?_) (fun h3 => ?_) | refine gdP.mkf (fun h3 => ?_) (fun h3 => ?_) | refine pkP.mk (fun h3 => ?_) (fun h3 => ?_)) <;> (try simp only [Bool.not_true, Bool.not_false, decide_eq_true_eq, decide_eq_false_iff_not, Bool.and_eq_true, Bool.or_eq_true, Bool.not_eq_true', Bool.not_eq_false', Bool.and_eq_false_iff, Bool.or_eq_false_iff, Nat.not_lt, Int.not_lt, Nat.not_le, Int.not_le, Int.ofNat_lt, Int.ofNat_le, Int.ofNat_inj, Bool.xor_false, Bool.false_xor, Bool.true_xor, Bool.xor_true] at h3) <;> (try simp (maxSteps := 2000000) (disch := omega) only [go_sem, seval]) <;> (try repeat ((with_reducible refine And.intro ?_ ?_); focus (first | omega | assumption | exact True.intro | (show anyD _ _ = true; exact rfl) | (simp only [List.length_map, List.length_append, List.length_cons, List.length_nil, List.length_take, List.length_drop]; omega))))
    · rw [if_neg h3]
    · rw [if_pos h3]
  · rw [dif_neg h, dif_neg h]
    try simp (maxSteps := 2000000) (disch := omega) only [go_sem, seval]
    try repeat ((with_reducible refine And.intro ?_ ?_); focus (first | omega | assumption | exact True.intro | (show anyD _ _ = true; exact rfl) | (simp only [List.length_map, List.length_append, List.length_cons, List.length_nil, List.length_take, List.length_drop]; omega)))
theorem vhas_c (v : List En) (r c : Nat) (hr : RightV v) (hc : c < M64) (hl : v.length ≤ 1152921504606846976) (hh : ∀ e ∈ v, e.holes.length ≤ 1152921504606846976) : Cn Tryz.prog 41 [vp v, .v (.int .u64 r), .v (.int .u64 c)] (.v (.bool (mem (knV v r) c))) := by
  refine cn_go Tryz.func41 [] 3 (by kernel_rfl) rfl (by simp [go_sem, seval]) ?_
  conv => arg 4; cbv
  conv => enter [5, 1]; cbv
  try simp (maxSteps := 2000000) (disch := omega) only [go_sem, seval]
  try repeat ((with_reducible refine And.intro ?_ ?_); focus (first | omega | assumption | exact True.intro | (show anyD _ _ = true; exact rfl) | (simp only [List.length_map, List.length_append, List.length_cons, List.length_nil, List.length_take, List.length_drop]; omega)))
  (first | refine callP.mk (vfind_c v r hr hl) rfl ?_ | refine callQ.mk (vfind_c v r hr hl) rfl ?_ | refine callO.rd (vfind_c v r hr hl) rfl ?_ | refine callO.mk (vfind_c v r hr hl) rfl ?_)
  rcases fdV_spec r v 0 with ⟨e1, e2⟩ | ⟨i, hi, e1, e2⟩
  · rw [e1, knV_none e2]
    try simp (maxSteps := 2000000) (disch := omega) only [go_sem, seval]
    try repeat ((with_reducible refine And.intro ?_ ?_); focus (first | omega | assumption | exact True.intro | (show anyD _ _ = true; exact rfl) | (simp only [List.length_map, List.length_append, List.length_cons, List.length_nil, List.length_take, List.length_drop]; omega)))
    rfl
  · rw [e1, knV_fd hr hi e2, kn_mem (hr.1 _ (List.getElem_mem hi)) hc, Nat.zero_add]
    try simp (maxSteps := 2000000) (disch := omega) only [go_sem, seval]
    try repeat ((with_reducible refine And.intro ?_ ?_); focus (first | omega | assumption | exact True.intro | (show anyD _ _ = true; exact rfl) | (simp only [List.length_map, List.length_append, List.length_cons, List.length_nil, List.length_take, List.length_drop]; omega)))
    (first | refine callP.mk (ehas_c v[i] c (hr.1 _ (List.getElem_mem hi)) (hh _ (List.getElem_mem hi))) rfl ?_ | refine callQ.mk (ehas_c v[i] c (hr.1 _ (List.getElem_mem hi)) (hh _ (List.getElem_mem hi))) rfl ?_ | refine callO.rd (ehas_c v[i] c (hr.1 _ (List.getElem_mem hi)) (hh _ (List.getElem_mem hi))) rfl ?_ | refine callO.mk (ehas_c v[i] c (hr.1 _ (List.getElem_mem hi)) (hh _ (List.getElem_mem hi))) rfl ?_)
    try simp (maxSteps := 2000000) (disch := omega) only [go_sem, seval]
    try repeat ((with_reducible refine And.intro ?_ ?_); focus (first | omega | assumption | exact True.intro | (show anyD _ _ = true; exact rfl) | (simp only [List.length_map, List.length_append, List.length_cons, List.length_nil, List.length_take, List.length_drop]; omega)))
theorem refCheck_c (v : List En) (hb : ∀ e ∈ v, BdE e) (hl : v.length ≤ 1152921504606846976) (hh : ∀ e ∈ v, e.holes.length ≤ 1152921504606846976) : Cn Tryz.prog 89 [vp v] (.tup [.v (.int .i64 (chkV v).1), .v (.int .i64 (chkV v).2)]) := by
  refine cn_go Tryz.func89 [] 1 (by kernel_rfl) rfl (by simp [go_sem, seval]) ?_
  conv => arg 4; cbv
  conv => enter [5, 1]; cbv
  try simp (maxSteps := 2000000) (disch := omega) only [go_sem, seval]
  try repeat ((with_reducible refine And.intro ?_ ?_); focus (first | omega | assumption | exact True.intro | (show anyD _ _ = true; exact rfl) | (simp only [List.length_map, List.length_append, List.length_cons, List.length_nil, List.length_take, List.length_drop]; omega)))
  refine pLoop.go (fun k => k ≤ v.length ∧ chkV v = hkV v k (v.drop k)) (fun k => [(4, .v (.int .i64 (k : Nat)))]) (fun _ => []) (fun k => v.length - k) 0 [4] ?_ ?_ ?_
  · exact ⟨Nat.zero_le _, rfl⟩
  · try simp (maxSteps := 2000000) (disch := omega) only [go_sem, seval]
    try repeat ((with_reducible refine And.intro ?_ ?_); focus (first | omega | assumption | exact True.intro | (show anyD _ _ = true; exact rfl) | (simp only [List.length_map, List.length_append, List.length_cons, List.length_nil, List.length_take, List.length_drop]; omega)))
  · rintro k ⟨hk, hm⟩
    try simp (maxSteps := 2000000) (disch := omega) only [go_sem, seval]
    try repeat ((with_reducible refine And.intro ?_ ?_); focus (first | omega | assumption | exact True.intro | (show anyD _ _ = true; exact rfl) | (simp only [List.length_map, List.length_append, List.length_cons, List.length_nil, List.length_take, List.length_drop]; omega)))
    (first | refine brP.mk (fun h => ?_) (fun h => ?_) | refine gdP.mkt (fun h => ?_) (fun h => ?_) | refine gdP.mkf (fun h => ?_) (fun h => ?_) | refine pkP.mk (fun h => ?_) (fun h => ?_)) <;> (try simp only [Bool.not_true, Bool.not_false, decide_eq_true_eq, decide_eq_false_iff_not, Bool.and_eq_true, Bool.or_eq_true, Bool.not_eq_true', Bool.not_eq_false', Bool.and_eq_false_iff, Bool.or_eq_false_iff, Nat.not_lt, Int.not_lt, Nat.not_le, Int.not_le, Int.ofNat_lt, Int.ofNat_le, Int.ofNat_inj, Bool.xor_false, Bool.false_xor, Bool.true_xor, Bool.xor_true] at h) <;> (try simp (maxSteps := 2000000) (disch := omega) only [go_sem, seval]) <;> (try repeat ((with_reducible refine And.intro ?_ ?_); focus (first | omega | assumption | exact True.intro | (show anyD _ _ = true; exact rfl) | (simp only [List.length_map, List.length_append, List.length_cons, List.length_nil, List.length_take, List.length_drop]; omega))))
    · rw [List.drop_eq_getElem_cons h, hkV] at hm
      try simp (maxSteps := 2000000) (disch := omega) only [go_sem, seval]
      try repeat ((with_reducible refine And.intro ?_ ?_); focus (first | omega | assumption | exact True.intro | (show anyD _ _ = true; exact rfl) | (simp only [List.length_map, List.length_append, List.length_cons, List.length_nil, List.length_take, List.length_drop]; omega)))
      (first | refine callP.mk (check7_c v[k] (hh _ (List.getElem_mem h)) (hb _ (List.getElem_mem h)).1) rfl ?_ | refine callQ.mk (check7_c v[k] (hh _ (List.getElem_mem h)) (hb _ (List.getElem_mem h)).1) rfl ?_ | refine callO.rd (check7_c v[k] (hh _ (List.getElem_mem h)) (hb _ (List.getElem_mem h)).1) rfl ?_ | refine callO.mk (check7_c v[k] (hh _ (List.getElem_mem h)) (hb _ (List.getElem_mem h)).1) rfl ?_)
      try simp (maxSteps := 2000000) (disch := omega) only [go_sem, seval]
      try repeat ((with_reducible refine And.intro ?_ ?_); focus (first | omega | assumption | exact True.intro | (show anyD _ _ = true; exact rfl) | (simp only [List.length_map, List.length_append, List.length_cons, List.length_nil, List.length_take, List.length_drop]; omega)))
      (first | refine brP.mk (fun h2 => ?_) (fun h2 => ?_) | refine gdP.mkt (fun h2 => ?_) (fun h2 => ?_) | refine gdP.mkf (fun h2 => ?_) (fun h2 => ?_) | refine pkP.mk (fun h2 => ?_) (fun h2 => ?_)) <;> (try simp only [Bool.not_true, Bool.not_false, decide_eq_true_eq, decide_eq_false_iff_not, Bool.and_eq_true, Bool.or_eq_true, Bool.not_eq_true', Bool.not_eq_false', Bool.and_eq_false_iff, Bool.or_eq_false_iff, Nat.not_lt, Int.not_lt, Nat.not_le, Int.not_le, Int.ofNat_lt, Int.ofNat_le, Int.ofNat_inj, Bool.xor_false, Bool.false_xor, Bool.true_xor, Bool.xor_true] at h2) <;> (try simp (maxSteps := 2000000) (disch := omega) only [go_sem, seval]) <;> (try repeat ((with_reducible refine And.intro ?_ ?_); focus (first | omega | assumption | exact True.intro | (show anyD _ _ = true; exact rfl) | (simp only [List.length_map, List.length_append, List.length_cons, List.length_nil, List.length_take, List.length_drop]; omega))))
      · rw [if_pos (by omega)] at hm
        rw [hm]
      · rw [if_neg (by omega)] at hm
        (first | refine brP.mk (fun h3 => ?_) (fun h3 => ?_) | refine gdP.mkt (fun h3 => ?_) (fun h3 => ?_) | refine gdP.mkf (fun h3 => ?_) (fun h3 => ?_) | refine pkP.mk (fun h3 => ?_) (fun h3 => ?_)) <;> (try simp only [Bool.not_true, Bool.not_false, decide_eq_true_eq, decide_eq_false_iff_not, Bool.and_eq_true, Bool.or_eq_true, Bool.not_eq_true', Bool.not_eq_false', Bool.and_eq_false_iff, Bool.or_eq_false_iff, Nat.not_lt, Int.not_lt, Nat.not_le, Int.not_le, Int.ofNat_lt, Int.ofNat_le, Int.ofNat_inj, Bool.xor_false, Bool.false_xor, Bool.true_xor, Bool.xor_true] at h3) <;> (try simp (maxSteps := 2000000) (disch := omega) only [go_sem, seval]) <;> (try repeat ((with_reducible refine And.intro ?_ ?_); focus (first | omega | assumption | exact True.intro | (show anyD _ _ = true; exact rfl) | (simp only [List.length_map, List.length_append, List.length_cons, List.length_nil, List.length_take, List.length_drop]; omega))))
        · have hp := prv_at (v := v) (k := k) (by omega)
          rw [hp] at hm
          try simp (maxSteps := 2000000) (disch := omega) only [go_sem, seval]
          try repeat ((with_reducible refine And.intro ?_ ?_); focus (first | omega | assumption | exact True.intro | (show anyD _ _ = true; exact rfl) | (simp only [List.length_map, List.length_append, List.length_cons, List.length_nil, List.length_take, List.length_drop]; omega)))
          (first | refine brP.mk (fun h4 => ?_) (fun h4 => ?_) | refine gdP.mkt (fun h4 => ?_) (fun h4 => ?_) | refine gdP.mkf (fun h4 => ?_) (fun h4 => ?_) | refine pkP.mk (fun h4 => ?_) (fun h4 => ?_)) <;> (try simp only [Bool.not_true, Bool.not_false, decide_eq_true_eq, decide_eq_false_iff_not, Bool.and_eq_true, Bool.or_eq_true, Bool.not_eq_true', Bool.not_eq_false', Bool.and_eq_false_iff, Bool.or_eq_false_iff, Nat.not_lt, Int.not_lt, Nat.not_le, Int.not_le, Int.ofNat_lt, Int.ofNat_le, Int.ofNat_inj, Bool.xor_false, Bool.false_xor, Bool.true_xor, Bool.xor_true] at h4) <;> (try simp (maxSteps := 2000000) (disch := omega) only [go_sem, seval]) <;> (try repeat ((with_reducible refine And.intro ?_ ?_); focus (first | omega | assumption | exact True.intro | (show anyD _ _ = true; exact rfl) | (simp only [List.length_map, List.length_append, List.length_cons, List.length_nil, List.length_take, List.length_drop]; omega))))
          · rw [if_pos ⟨h3, h4⟩] at hm
            rw [hm]
            rfl
          · rw [if_neg (fun h => by omega)] at hm
            exact ⟨k + 1, ⟨h, hm⟩, by omega, rfl⟩
        · rw [if_neg (fun h => by omega)] at hm
          exact ⟨k + 1, ⟨h, hm⟩, by omega, rfl⟩
    · rw [hm, List.drop_of_length_le (by omega)]
      rfl
theorem vcheck_c (v : List En) (hb : ∀ e ∈ v, BdE e) (hl : v.length ≤ 1152921504606846976) (hh : ∀ e ∈ v, e.holes.length ≤ 1152921504606846976) : Cn Tryz.prog 87 [vp v] (errV (chkV v).1 (chkV v).2) := by
  refine cn_go Tryz.func87 [] 1 (by kernel_rfl) rfl (by simp [go_sem, seval]) ?_
  conv => arg 4; cbv
  conv => enter [5, 1]; cbv
  try simp (maxSteps := 2000000) (disch := omega) only [go_sem, seval]
  try repeat ((with_reducible refine And.intro ?_ ?_); focus (first | omega | assumption | exact True.intro | (show anyD _ _ = true; exact rfl) | (simp only [List.length_map, List.length_append, List.length_cons, List.length_nil, List.length_take, List.length_drop]; omega)))
  refine pLoop.go (fun k => k ≤ v.length ∧ chkV v = hkV v k (v.drop k)) (fun k => [(8, .v (.int .i64 (k : Nat)))]) (fun _ => []) (fun k => v.length - k) 0 [8] ?_ ?_ ?_
  · exact ⟨Nat.zero_le _, rfl⟩
  · try simp (maxSteps := 2000000) (disch := omega) only [go_sem, seval]
    try repeat ((with_reducible refine And.intro ?_ ?_); focus (first | omega | assumption | exact True.intro | (show anyD _ _ = true; exact rfl) | (simp only [List.length_map, List.length_append, List.length_cons, List.length_nil, List.length_take, List.length_drop]; omega)))
  · rintro k ⟨hk, hm⟩
    try simp (maxSteps := 2000000) (disch := omega) only [go_sem, seval]
    try repeat ((with_reducible refine And.intro ?_ ?_); focus (first | omega | assumption | exact True.intro | (show anyD _ _ = true; exact rfl) | (simp only [List.length_map, List.length_append, List.length_cons, List.length_nil, List.length_take, List.length_drop]; omega)))
    (first | refine brP.mk (fun h => ?_) (fun h => ?_) | refine gdP.mkt (fun h => ?_) (fun h => ?_) | refine gdP.mkf (fun h => ?_) (fun h => ?_) | refine pkP.mk (fun h => ?_) (fun h => ?_)) <;> (try simp only [Bool.not_true, Bool.not_false, decide_eq_true_eq, decide_eq_false_iff_not, Bool.and_eq_true, Bool.or_eq_true, Bool.not_eq_true', Bool.not_eq_false', Bool.and_eq_false_iff, Bool.or_eq_false_iff, Nat.not_lt, Int.not_lt, Nat.not_le, Int.not_le, Int.ofNat_lt, Int.ofNat_le, Int.ofNat_inj, Bool.xor_false, Bool.false_xor, Bool.true_xor, Bool.xor_true] at h) <;> (try simp (maxSteps := 2000000) (disch := omega) only [go_sem, seval]) <;> (try repeat ((with_reducible refine And.intro ?_ ?_); focus (first | omega | assumption | exact True.intro | (show anyD _ _ = true; exact rfl) | (simp only [List.length_map, List.length_append, List.length_cons, List.length_nil, List.length_take, List.length_drop]; omega))))
    · rw [List.drop_eq_getElem_cons h, hkV] at hm
      have hbk := hb _ (List.getElem_mem h)
      have hhk := hh _ (List.getElem_mem h)
      have hco := code_c (chkE v[k]).1 (chkE v[k]).2
      try simp (maxSteps := 2000000) (disch := omega) only [go_sem, seval]
      try repeat ((with_reducible refine And.intro ?_ ?_); focus (first | omega | assumption | exact True.intro | (show anyD _ _ = true; exact rfl) | (simp only [List.length_map, List.length_append, List.length_cons, List.length_nil, List.length_take, List.length_drop]; omega)))
      (first | refine callP.mk (echeck_c v[k] hbk.1 hhk (.inr (codeN_c 2))) rfl ?_ | refine callQ.mk (echeck_c v[k] hbk.1 hhk (.inr (codeN_c 2))) rfl ?_ | refine callO.rd (echeck_c v[k] hbk.1 hhk (.inr (codeN_c 2))) rfl ?_ | refine callO.mk (echeck_c v[k] hbk.1 hhk (.inr (codeN_c 2))) rfl ?_)
      by_cases hz : (chkE v[k]).1 = 0
      · rw [errV_nil hz]
        rw [if_neg (by omega)] at hm
        try simp (maxSteps := 2000000) (disch := omega) only [go_sem, seval]
        try repeat ((with_reducible refine And.intro ?_ ?_); focus (first | omega | assumption | exact True.intro | (show anyD _ _ = true; exact rfl) | (simp only [List.length_map, List.length_append, List.length_cons, List.length_nil, List.length_take, List.length_drop]; omega)))
        (first | refine brP.mk (fun h3 => ?_) (fun h3 => ?_) | refine gdP.mkt (fun h3 => ?_) (fun h3 => ?_) | refine gdP.mkf (fun h3 => ?_) (fun h3 => ?_) | refine pkP.mk (fun h3 => ?_) (fun h3 => ?_)) <;> (try simp only [Bool.not_true, Bool.not_false, decide_eq_true_eq, decide_eq_false_iff_not, Bool.and_eq_true, Bool.or_eq_true, Bool.not_eq_true', Bool.not_eq_false', Bool.and_eq_false_iff, Bool.or_eq_false_iff, Nat.not_lt, Int.not_lt, Nat.not_le, Int.not_le, Int.ofNat_lt, Int.ofNat_le, Int.ofNat_inj, Bool.xor_false, Bool.false_xor, Bool.true_xor, Bool.xor_true] at h3) <;> (try simp (maxSteps := 2000000) (disch := omega) only [go_sem, seval]) <;> (try repeat ((with_reducible refine And.intro ?_ ?_); focus (first | omega | assumption | exact True.intro | (show anyD _ _ = true; exact rfl) | (simp only [List.length_map, List.length_append, List.length_cons, List.length_nil, List.length_take, List.length_drop]; omega))))
        · have hp := prv_at (v := v) (k := k) (by omega)
          rw [hp] at hm
          try simp (maxSteps := 2000000) (disch := omega) only [go_sem, seval]
          try repeat ((with_reducible refine And.intro ?_ ?_); focus (first | omega | assumption | exact True.intro | (show anyD _ _ = true; exact rfl) | (simp only [List.length_map, List.length_append, List.length_cons, List.length_nil, List.length_take, List.length_drop]; omega)))
          (first | refine callP.mk (key_c v[k - 1].rep v[k]) rfl ?_ | refine callQ.mk (key_c v[k - 1].rep v[k]) rfl ?_ | refine callO.rd (key_c v[k - 1].rep v[k]) rfl ?_ | refine callO.mk (key_c v[k - 1].rep v[k]) rfl ?_)
          try simp (maxSteps := 2000000) (disch := omega) only [go_sem, seval]
          try repeat ((with_reducible refine And.intro ?_ ?_); focus (first | omega | assumption | exact True.intro | (show anyD _ _ = true; exact rfl) | (simp only [List.length_map, List.length_append, List.length_cons, List.length_nil, List.length_take, List.length_drop]; omega)))
          (first | refine brP.mk (fun h4 => ?_) (fun h4 => ?_) | refine gdP.mkt (fun h4 => ?_) (fun h4 => ?_) | refine gdP.mkf (fun h4 => ?_) (fun h4 => ?_) | refine pkP.mk (fun h4 => ?_) (fun h4 => ?_)) <;> (try simp only [Bool.not_true, Bool.not_false, decide_eq_true_eq, decide_eq_false_iff_not, Bool.and_eq_true, Bool.or_eq_true, Bool.not_eq_true', Bool.not_eq_false', Bool.and_eq_false_iff, Bool.or_eq_false_iff, Nat.not_lt, Int.not_lt, Nat.not_le, Int.not_le, Int.ofNat_lt, Int.ofNat_le, Int.ofNat_inj, Bool.xor_false, Bool.false_xor, Bool.true_xor, Bool.xor_true] at h4) <;> (try simp (maxSteps := 2000000) (disch := omega) only [go_sem, seval]) <;> (try repeat ((with_reducible refine And.intro ?_ ?_); focus (first | omega | assumption | exact True.intro | (show anyD _ _ = true; exact rfl) | (simp only [List.length_map, List.length_append, List.length_cons, List.length_nil, List.length_take, List.length_drop]; omega))))
          · have h5 : v[k].rep ≤ v[k - 1].rep := by split at h4 <;> (try split at h4) <;> omega
            rw [if_pos ⟨h3, h5⟩] at hm
            rw [hm]
            (first | refine callP.mk (fnew_c 3 k) rfl ?_ | refine callQ.mk (fnew_c 3 k) rfl ?_ | refine callO.rd (fnew_c 3 k) rfl ?_ | refine callO.mk (fnew_c 3 k) rfl ?_)
            try simp (maxSteps := 2000000) (disch := omega) only [go_sem, seval]
            try repeat ((with_reducible refine And.intro ?_ ?_); focus (first | omega | assumption | exact True.intro | (show anyD _ _ = true; exact rfl) | (simp only [List.length_map, List.length_append, List.length_cons, List.length_nil, List.length_take, List.length_drop]; omega)))
            exact errV_sub _ _
          · have h5 : ¬ v[k].rep ≤ v[k - 1].rep := by split at h4 <;> (try split at h4) <;> omega
            rw [if_neg (fun h => by omega)] at hm
            exact ⟨k + 1, ⟨h, hm⟩, by omega, rfl⟩
        · rw [if_neg (fun h => by omega)] at hm
          exact ⟨k + 1, ⟨h, hm⟩, by omega, rfl⟩
      · rw [if_pos hz] at hm
        rw [hm]
        rw [errV_ifc hz] at hco ⊢
        try simp (maxSteps := 2000000) (disch := omega) only [go_sem, seval]
        try repeat ((with_reducible refine And.intro ?_ ?_); focus (first | omega | assumption | exact True.intro | (show anyD _ _ = true; exact rfl) | (simp only [List.length_map, List.length_append, List.length_cons, List.length_nil, List.length_take, List.length_drop]; omega)))
        (first | refine callP.mk (hco) rfl ?_ | refine callQ.mk (hco) rfl ?_ | refine callO.rd (hco) rfl ?_ | refine callO.mk (hco) rfl ?_)
        try simp (maxSteps := 2000000) (disch := omega) only [go_sem, seval]
        try repeat ((with_reducible refine And.intro ?_ ?_); focus (first | omega | assumption | exact True.intro | (show anyD _ _ = true; exact rfl) | (simp only [List.length_map, List.length_append, List.length_cons, List.length_nil, List.length_take, List.length_drop]; omega)))
        (first | refine callP.mk (fnew_c (chkE v[k]).1 k) rfl ?_ | refine callQ.mk (fnew_c (chkE v[k]).1 k) rfl ?_ | refine callO.rd (fnew_c (chkE v[k]).1 k) rfl ?_ | refine callO.mk (fnew_c (chkE v[k]).1 k) rfl ?_)
        try simp (maxSteps := 2000000) (disch := omega) only [go_sem, seval]
        try repeat ((with_reducible refine And.intro ?_ ?_); focus (first | omega | assumption | exact True.intro | (show anyD _ _ = true; exact rfl) | (simp only [List.length_map, List.length_append, List.length_cons, List.length_nil, List.length_take, List.length_drop]; omega)))
        exact errV_sub _ _
    · rw [hm, List.drop_of_length_le (by omega)]
      exact .eq _ rfl
end Go.Proofs.YtjmhmeadcphfmaaGreatDoor
/- slices.BinarySearch over numbers in ascending order. The row is shorter than 2^60. -/
namespace Go.Proofs.YtjmhmeadcphfmaaGreatDoor
set_option linter.unusedVariables false
set_option linter.unusedSimpArgs false
open Go.RowKit
set_option maxRecDepth 100000
def us (l : List Nat) : PV := .sl (l.map natc) .sh
attribute [go_sem] us
theorem nan2_c (x : Nat) : Cn Tryz.prog 229 [.v (.int .u64 x)] (.v (.bool false)) := by
  refine cn_go Tryz.func229 [] 1 (by kernel_rfl) rfl (by simp [go_sem, seval]) ?_
  conv => arg 4; cbv
  conv => enter [5, 1]; cbv
  try simp (maxSteps := 2000000) (disch := omega) only [go_sem, seval]
  try repeat ((with_reducible refine And.intro ?_ ?_); focus (first | omega | assumption | exact True.intro | (show anyD _ _ = true; exact rfl) | (simp only [List.length_map, List.length_append, List.length_cons, List.length_nil, List.length_take, List.length_drop]; omega)))
theorem less_c (x y : Nat) : Cn Tryz.prog 228 [.v (.int .u64 x), .v (.int .u64 y)] (.v (.bool (decide (x < y)))) := by
  refine cn_go Tryz.func228 [] 2 (by kernel_rfl) rfl (by simp [go_sem, seval]) ?_
  conv => arg 4; cbv
  conv => enter [5, 1]; cbv
  try simp (maxSteps := 2000000) (disch := omega) only [go_sem, seval]
  try repeat ((with_reducible refine And.intro ?_ ?_); focus (first | omega | assumption | exact True.intro | (show anyD _ _ = true; exact rfl) | (simp only [List.length_map, List.length_append, List.length_cons, List.length_nil, List.length_take, List.length_drop]; omega)))
  (first | refine callP.mk (nan_c x) rfl ?_ | refine callQ.mk (nan_c x) rfl ?_ | refine callO.rd (nan_c x) rfl ?_ | refine callO.mk (nan_c x) rfl ?_)
  try simp (maxSteps := 2000000) (disch := omega) only [go_sem, seval]
  try repeat ((with_reducible refine And.intro ?_ ?_); focus (first | omega | assumption | exact True.intro | (show anyD _ _ = true; exact rfl) | (simp only [List.length_map, List.length_append, List.length_cons, List.length_nil, List.length_take, List.length_drop]; omega)))
theorem bsearch_c (l : List Nat) (x i : Nat) (hi : i ≤ l.length) (h1 : ∀ j, (h : j < l.length) → j < i → l[j] < x) (h2 : ∀ j, (h : j < l.length) → i ≤ j → x ≤ l[j]) (hl : l.length ≤ 1152921504606846976) :
    Cn Tryz.prog 218 [us l, .v (.int .u64 x)] (.tup [.v (.int .i64 i), .v (.bool (decide (l[i]? = some x)))]) := by
  refine cn_go Tryz.func218 [] 2 (by kernel_rfl) rfl (by simp [go_sem, seval]) ?_
  conv => arg 4; cbv
  conv => enter [5, 1]; cbv
  try simp (maxSteps := 2000000) (disch := omega) only [go_sem, seval]
  try repeat ((with_reducible refine And.intro ?_ ?_); focus (first | omega | assumption | exact True.intro | (show anyD _ _ = true; exact rfl) | (simp only [List.length_map, List.length_append, List.length_cons, List.length_nil, List.length_take, List.length_drop]; omega)))
  refine pLoop.go (fun p : Nat × Nat => p.1 ≤ i ∧ i ≤ p.2 ∧ p.2 ≤ l.length) (fun p => [(7, .v (.int .i64 (p.1 : Nat))), (8, .v (.int .i64 (p.2 : Nat)))]) (fun _ => []) (fun p => p.2 - p.1) (0, l.length) [7, 8] ?_ ?_ ?_
  · exact ⟨Nat.zero_le _, hi, Nat.le_refl _⟩
  · try simp (maxSteps := 2000000) (disch := omega) only [go_sem, seval]
    try repeat ((with_reducible refine And.intro ?_ ?_); focus (first | omega | assumption | exact True.intro | (show anyD _ _ = true; exact rfl) | (simp only [List.length_map, List.length_append, List.length_cons, List.length_nil, List.length_take, List.length_drop]; omega)))
  · rintro ⟨p, q⟩ ⟨k1, k2, k3⟩
    simp only at k1 k2 k3
    try simp (maxSteps := 2000000) (disch := omega) only [go_sem, seval]
    try repeat ((with_reducible refine And.intro ?_ ?_); focus (first | omega | assumption | exact True.intro | (show anyD _ _ = true; exact rfl) | (simp only [List.length_map, List.length_append, List.length_cons, List.length_nil, List.length_take, List.length_drop]; omega)))
    (first | refine brP.mk (fun h => ?_) (fun h => ?_) | refine gdP.mkt (fun h => ?_) (fun h => ?_) | refine gdP.mkf (fun h => ?_) (fun h => ?_) | refine pkP.mk (fun h => ?_) (fun h => ?_)) <;> (try simp only [Bool.not_true, Bool.not_false, decide_eq_true_eq, decide_eq_false_iff_not, Bool.and_eq_true, Bool.or_eq_true, Bool.not_eq_true', Bool.not_eq_false', Bool.and_eq_false_iff, Bool.or_eq_false_iff, Nat.not_lt, Int.not_lt, Nat.not_le, Int.not_le, Int.ofNat_lt, Int.ofNat_le, Int.ofNat_inj, Bool.xor_false, Bool.false_xor, Bool.true_xor, Bool.xor_true] at h) <;> (try simp (maxSteps := 2000000) (disch := omega) only [go_sem, seval]) <;> (try repeat ((with_reducible refine And.intro ?_ ?_); focus (first | omega | assumption | exact True.intro | (show anyD _ _ = true; exact rfl) | (simp only [List.length_map, List.length_append, List.length_cons, List.length_nil, List.length_take, List.length_drop]; omega))))
    · have hm : (p + q) / 2 < l.length := by omega
      try simp (maxSteps := 2000000) (disch := omega) only [go_sem, seval]
      try repeat ((with_reducible refine And.intro ?_ ?_); focus (first | omega | assumption | exact True.intro | (show anyD _ _ = true; exact rfl) | (simp only [List.length_map, List.length_append, List.length_cons, List.length_nil, List.length_take, List.length_drop]; omega)))
      (first | refine callP.mk (less_c l[(p + q) / 2] x) rfl ?_ | refine callQ.mk (less_c l[(p + q) / 2] x) rfl ?_ | refine callO.rd (less_c l[(p + q) / 2] x) rfl ?_ | refine callO.mk (less_c l[(p + q) / 2] x) rfl ?_)
      try simp (maxSteps := 2000000) (disch := omega) only [go_sem, seval]
      try repeat ((with_reducible refine And.intro ?_ ?_); focus (first | omega | assumption | exact True.intro | (show anyD _ _ = true; exact rfl) | (simp only [List.length_map, List.length_append, List.length_cons, List.length_nil, List.length_take, List.length_drop]; omega)))
      (first | refine brP.mk (fun h4 => ?_) (fun h4 => ?_) | refine gdP.mkt (fun h4 => ?_) (fun h4 => ?_) | refine gdP.mkf (fun h4 => ?_) (fun h4 => ?_) | refine pkP.mk (fun h4 => ?_) (fun h4 => ?_)) <;> (try simp only [Bool.not_true, Bool.not_false, decide_eq_true_eq, decide_eq_false_iff_not, Bool.and_eq_true, Bool.or_eq_true, Bool.not_eq_true', Bool.not_eq_false', Bool.and_eq_false_iff, Bool.or_eq_false_iff, Nat.not_lt, Int.not_lt, Nat.not_le, Int.not_le, Int.ofNat_lt, Int.ofNat_le, Int.ofNat_inj, Bool.xor_false, Bool.false_xor, Bool.true_xor, Bool.xor_true] at h4) <;> (try simp (maxSteps := 2000000) (disch := omega) only [go_sem, seval]) <;> (try repeat ((with_reducible refine And.intro ?_ ?_); focus (first | omega | assumption | exact True.intro | (show anyD _ _ = true; exact rfl) | (simp only [List.length_map, List.length_append, List.length_cons, List.length_nil, List.length_take, List.length_drop]; omega))))
      · refine ⟨((p + q) / 2 + 1, q), ⟨?_, k2, k3⟩, by simp only; omega, rfl, rfl⟩
        simp only
        refine Nat.lt_of_not_le fun h5 => ?_
        have := h2 _ hm h5
        omega
      · refine ⟨(p, (p + q) / 2), ⟨k1, ?_, by simp only; omega⟩, by simp only; omega, rfl, rfl⟩
        simp only
        refine Nat.le_of_not_lt fun h5 => ?_
        have := h1 _ hm h5
        omega
    · obtain rfl : p = i := by omega
      obtain rfl : q = p := by omega
      (first | refine brP.mk (fun h4 => ?_) (fun h4 => ?_) | refine gdP.mkt (fun h4 => ?_) (fun h4 => ?_) | refine gdP.mkf (fun h4 => ?_) (fun h4 => ?_) | refine pkP.mk (fun h4 => ?_) (fun h4 => ?_)) <;> (try simp only [Bool.not_true, Bool.not_false, decide_eq_true_eq, decide_eq_false_iff_not, Bool.and_eq_true, Bool.or_eq_true, Bool.not_eq_true', Bool.not_eq_false', Bool.and_eq_false_iff, Bool.or_eq_false_iff, Nat.not_lt, Int.not_lt, Nat.not_le, Int.not_le, Int.ofNat_lt, Int.ofNat_le, Int.ofNat_inj, Bool.xor_false, Bool.false_xor, Bool.true_xor, Bool.xor_true] at h4) <;> (try simp (maxSteps := 2000000) (disch := omega) only [go_sem, seval]) <;> (try repeat ((with_reducible refine And.intro ?_ ?_); focus (first | omega | assumption | exact True.intro | (show anyD _ _ = true; exact rfl) | (simp only [List.length_map, List.length_append, List.length_cons, List.length_nil, List.length_take, List.length_drop]; omega))))
      · rw [show l[q]? = some l[q] from List.getElem?_eq_getElem h4]
        (first | refine brP.mk (fun h5 => ?_) (fun h5 => ?_) | refine gdP.mkt (fun h5 => ?_) (fun h5 => ?_) | refine gdP.mkf (fun h5 => ?_) (fun h5 => ?_) | refine pkP.mk (fun h5 => ?_) (fun h5 => ?_)) <;> (try simp only [Bool.not_true, Bool.not_false, decide_eq_true_eq, decide_eq_false_iff_not, Bool.and_eq_true, Bool.or_eq_true, Bool.not_eq_true', Bool.not_eq_false', Bool.and_eq_false_iff, Bool.or_eq_false_iff, Nat.not_lt, Int.not_lt, Nat.not_le, Int.not_le, Int.ofNat_lt, Int.ofNat_le, Int.ofNat_inj, Bool.xor_false, Bool.false_xor, Bool.true_xor, Bool.xor_true] at h5) <;> (try simp (maxSteps := 2000000) (disch := omega) only [go_sem, seval]) <;> (try repeat ((with_reducible refine And.intro ?_ ?_); focus (first | omega | assumption | exact True.intro | (show anyD _ _ = true; exact rfl) | (simp only [List.length_map, List.length_append, List.length_cons, List.length_nil, List.length_take, List.length_drop]; omega))))
        · simp [h5]
        · (first | refine callP.mk (nan2_c l[q]) rfl ?_ | refine callQ.mk (nan2_c l[q]) rfl ?_ | refine callO.rd (nan2_c l[q]) rfl ?_ | refine callO.mk (nan2_c l[q]) rfl ?_)
          try simp (maxSteps := 2000000) (disch := omega) only [go_sem, seval]
          try repeat ((with_reducible refine And.intro ?_ ?_); focus (first | omega | assumption | exact True.intro | (show anyD _ _ = true; exact rfl) | (simp only [List.length_map, List.length_append, List.length_cons, List.length_nil, List.length_take, List.length_drop]; omega)))
          simp [h5]
      · rw [show l[q]? = none from List.getElem?_eq_none (by omega)]
        simp
end Go.Proofs.YtjmhmeadcphfmaaGreatDoor
/- word.Plus, word.Width and the references' counts: contracts. -/
namespace Go.Proofs.YtjmhmeadcphfmaaGreatDoor
set_option linter.unusedVariables false
set_option linter.unusedSimpArgs false
open Go.RowKit
set_option maxRecDepth 100000
def cp2 (a b : Nat) : PV := .agg [.v (.int .u64 a), .v (.int .u64 b)]
def cw (n : Nat) : PV := cp2 (n / M64) (n % M64)
attribute [go_sem] cp2 cw
end Go.Proofs.YtjmhmeadcphfmaaGreatDoor
/- The contracts of kenningref09.Numbers, Compare; the example of chapter 9; its laws: they return true. -/
namespace Go.Proofs.YtjmhmeadcphfmaaGreatDoor
set_option linter.unusedVariables false
set_option linter.unusedSimpArgs false
open Go.RowKit
set_option maxRecDepth 100000
end Go.Proofs.YtjmhmeadcphfmaaGreatDoor
/- lattice.do: an operation on the counters of each replica. Condition: the vectors are correct, at most 2^20 entries of at most 10000 holes. -/
namespace Go.Proofs.YtjmhmeadcphfmaaGreatDoor
set_option linter.unusedVariables false
set_option linter.unusedSimpArgs false
open Go.RowKit Go.Maps
set_option maxRecDepth 100000
attribute [-go_sem] nat_succ
theorem dat_tup2 {D : Nat → Nat → Prop} {w : World} {x a b : Value} (h : Dat D w x (.tup [.v a, .v b])) : x = .tuple #[a, b] := by
  cases h with
  | tup vs cs hs h =>
    obtain ⟨l⟩ := vs
    match l, hs with
    | [p, q], _ =>
      have e0 := (h 0 _ rfl).v_inv
      have e1 := (h 1 _ rfl).v_inv
      simp at e0 e1
      rw [e0, e1]
theorem dat_en {D : Nat → Nat → Prop} {w : World} {x : Value} {e : En} (h : Dat D w x (ep e)) : ∃ ah ch, x = .agg #[.int .u64 e.rep, .int .u64 e.max, .slice ah e.holes.length ch] ∧ Dat D w (.slice ah e.holes.length ch) (rg e.holes) := by
  have h' : Dat D w x (.agg [.v (.int .u64 e.rep), .v (.int .u64 e.max), rg e.holes]) := h
  cases h' with
  | agg vs cs hs _ h =>
    obtain ⟨l⟩ := vs
    match l, hs with
    | [p, q, r], _ =>
      have e0 := (h 0 _ rfl).v_inv
      have e1 := (h 1 _ rfl).v_inv
      have e2 := h 2 _ rfl
      simp at e0 e1 e2
      obtain ⟨ah, ch, rfl⟩ := rg_slice e2
      rw [e0, e1]
      exact ⟨ah, ch, rfl, e2⟩
theorem dat_entup {D : Nat → Nat → Prop} {w : World} {x : Value} {e : En} {b : Bool} (h : Dat D w x (.tup [ep e, .v (.bool b)])) : ∃ ah ch, x = .tuple #[.agg #[.int .u64 e.rep, .int .u64 e.max, .slice ah e.holes.length ch], .bool b] ∧ Dat D w (.slice ah e.holes.length ch) (rg e.holes) := by
  cases h with
  | tup vs cs hs h =>
    obtain ⟨l⟩ := vs
    match l, hs with
    | [p, q], _ =>
      have e0 := h 0 _ rfl
      have e1 := (h 1 _ rfl).v_inv
      simp at e0 e1
      obtain ⟨ah, ch, rfl, hd⟩ := dat_en e0
      rw [e1]
      exact ⟨ah, ch, rfl, hd⟩
/-- A contract without memory, used over memory. -/
theorem cn_w {f : FuncId} {ps : List PV} {r : PV} (h : Cn Tryz.prog f ps r) {D : Nat → Nat → Prop} {w : World} {vs : Array Value} (hG : GL D w) (hD : ∀ b o, D b o → b < w.heap.size) (hsz : vs.size = ps.length) (hd : ∀ (i : Nat) p, ps[i]? = some p → Dat D w (vs.getD i undef) p) :
    Calls Tryz.prog f vs w fun e w' => ∃ v, e = .returned v ∧ Below w.heap.size w w' ∧ Dat (fun b o => D b o ∨ (w.heap.size ≤ b ∧ b < w'.heap.size)) w' v r := by
  refine (h.2 D w vs hG hD hsz hd).mono ?_
  rintro e w' ⟨v, D', rfl, hb, _, q2, q3, hd, _⟩
  exact ⟨v, rfl, hb, hd.mono (fun b o h => (q2 b o h).imp id fun h' => ⟨h', q3 b o h⟩) fun _ _ _ _ h => h⟩
theorem OwnU.keep {base : Nat} {w w' : World} {v : Value} {l : List Nat} (h : OwnU base w v l) (hb : ∀ g, v.ownBlock = some g → w'.heap[g]? = w.heap[g]?) : OwnU base w' v l := by
  refine ⟨h.1, ?_⟩
  rcases h.2 with h | ⟨g, cap, cur, e, hg, hc, r⟩
  · exact .inl h
  · exact .inr ⟨g, cap, cur, e, hg, (hb g (by rw [e]; rfl)).trans hc, r⟩
theorem OwnU.lt {base : Nat} {w : World} {v : Value} {l : List Nat} (h : OwnU base w v l) : ∀ g, v.ownBlock = some g → base ≤ g ∧ g < w.heap.size := fun g hg => World.ownsRow.lt h g hg
theorem asc_cut (x : Nat) : ∀ {l : List Nat}, Asc l → ∃ i, i ≤ l.length ∧ (∀ j, (h : j < l.length) → j < i → l[j] < x) ∧ (∀ j, (h : j < l.length) → i ≤ j → x ≤ l[j])
  | [], _ => ⟨0, Nat.le_refl _, fun j h => absurd h (by simp), fun j h => absurd h (by simp)⟩
  | y :: l, h => by
    have ⟨h1, h2⟩ := List.pairwise_cons.1 h
    by_cases hy : y < x
    · obtain ⟨i, hi, q1, q2⟩ := asc_cut x h2
      refine ⟨i + 1, by simp; omega, fun j hj hji => ?_, fun j hj hij => ?_⟩
      · match j with
        | 0 => exact hy
        | j + 1 => exact q1 j (by simpa using hj) (by omega)
      · match j with
        | 0 => omega
        | j + 1 => exact q2 j (by simpa using hj) (by omega)
    · refine ⟨0, Nat.zero_le _, fun j _ hj => by omega, fun j hj _ => ?_⟩
      match j with
      | 0 => simp; omega
      | j + 1 =>
        have hj' : j < l.length := by simpa using hj
        have := h1 _ (List.getElem_mem hj')
        simp only [List.getElem_cons_succ]
        omega
theorem bs_w {C : Nat → Nat → Prop} {base : Nat} {w : World} {v : Value} {l : List Nat} (x i : Nat) (hown : OwnU base w v l) (hC : ∀ b o, C b o → b < w.heap.size) (hG : GL C w) (hi : i ≤ l.length) (h1 : ∀ j, (h : j < l.length) → j < i → l[j] < x) (h2 : ∀ j, (h : j < l.length) → i ≤ j → x ≤ l[j]) (hl : l.length ≤ 1152921504606846976) :
    Calls Tryz.prog 218 #[v, .int .u64 (x : Nat)] w fun e w' => (∃ b, e = .returned (.tuple #[.int .i64 (i : Nat), .bool b])) ∧ Below w.heap.size w w' := by
  refine (cn_w (bsearch_c l x i hi h1 h2 hl) (D := fun b o => C b o ∨ (base ≤ b ∧ b < w.heap.size)) (hG.mono (fun _ _ h => .inl h) fun _ _ _ _ h => h) (fun b o h => h.elim (hC b o) And.right) rfl (fun j p hp => ?_)).mono ?_
  · match j, hp with
    | 0, hp => cases hp; exact ownN_dat hown fun b o h1 h2 => .inr ⟨h1, h2⟩
    | 1, hp => cases hp; exact .v _
    | j + 2, hp => simp at hp
  · rintro e w' ⟨v, rfl, hb, hd⟩
    rw [dat_tup2 hd]
    exact ⟨⟨_, rfl⟩, hb⟩
theorem add_calls {C : Nat → Nat → Prop} {base rb : Nat} {w : World} {v : Value} {xs : List Nat} (x : Nat) (hown : OwnU base w v (srt xs)) (hbx : Boxed w rb 230 v) (hrb : rb < base) (hnot : x ∉ xs) (hl : (srt xs).length ≤ 4194304) (hbase : base ≤ w.heap.size) (hC : ∀ b o, C b o → b < w.heap.size) (hG : GL C w) :
    Calls Tryz.prog 195 #[.pointer (some ⟨rb, 0, none⟩), .int .u64 (x : Nat)] w fun e w' => (∃ u, e = .returned u) ∧ ∃ v', Boxed w' rb 230 v' ∧ OwnU base w' v' (srt (xs ++ [x])) ∧ Keep (fun k => k = rb ∨ base ≤ k) w w' := by
  obtain ⟨i, hi, q1, q2⟩ := asc_cut x (srt_asc xs)
  have HBS := Lib.hid (bs_w x i hown hC hG hi q1 q2 (by omega))
  have hins : srt (xs ++ [x]) = (srt xs).take i ++ x :: (srt xs).drop i := srt_ins hi (fun k hk hik => by
    have h1 := q2 k hk hik
    have h2 : (srt xs)[k] ≠ x := fun e => hnot (srt_mem.1 (e ▸ List.getElem_mem hk))
    omega) (by
    rcases Nat.eq_zero_or_pos i with h0 | h0
    · exact .inl h0
    · exact .inr ⟨by omega, q1 _ (by omega) (by omega)⟩)
  have HI := Lib.hid hins
  have HO := Lib.hid hown
  have HX := Lib.hid hbx
  have c0 := hbx.cell
  have hrw := hbx.lt
  clear hins hown hbx hC hG q1 q2 hnot
  have tokA : True := trivial
  have tokB : True := trivial
  go_enter Tryz.func195, Tryz.ntmps195
  go_wp2_with (first
    | (go_at_call 218; have _t := tokA; refine HBS.out.mono ?_; rintro e w1 ⟨⟨bb, rfl⟩, hb1⟩
       have c1 : w1.cell? ⟨rb, 0, none⟩ = some v := (World.cell?_of_block (a := ⟨rb, 0, none⟩) (hb1.block rb hrw)).trans c0
       have HB1 := Lib.hid hb1
       clear hb1 tokA)
    | (go_at_call 219; have _t := tokB
       refine (insert_calls base w1.heap.size _ _ v (srt xs) x i hi (HO.out.keep fun g hg => by rw [Below.heap_alloc _ _ _ (Nat.lt_of_lt_of_le (HO.out.lt g hg).2 HB1.out.size), HB1.out.block g (HO.out.lt g hg).2]) (World.alloc_heap_new w1 _) (fun e => by have h8 := (HO.out.lt _ e).2; have h9 := HB1.out.size; omega) (by omega) (by have := HB1.out.size; simp; omega)).mono ?_
       rintro e w3 ⟨v', rfl, ho3, hg3, _⟩
       have hx3 : Boxed w3 rb 230 v := ((show Boxed w1 rb _ v from (HB1.out.block rb hrw).trans HX.out).alloc _).kept hg3 (fun e => by have := (HO.out.lt rb e.symm).1; omega)
       have c3 := hx3.cell
       have f3 := hx3.frozen
       have HX3 := Lib.hid hx3
       have HK3 := Lib.hid ((((Keep.of_below' (S := fun k => k = rb ∨ base ≤ k) HB1.out (Nat.le_refl _)).alloc _).grown hg3 fun k hk _ => .inr (HO.out.lt k hk).1))
       rw [← HI.out] at ho3
       obtain ⟨g3, cap3, cur3, rfl, _⟩ := (show _ ∨ _ from ho3.cases).resolve_left (fun h => by have := h.2; rw [HI.out] at this; simp at this)
       have HO3 := Lib.hid ho3
       clear hx3 hg3 ho3 tokB)
    | go_in)
  go_end0
  exact ⟨⟨_, rfl⟩, _, HX3.out.set _, HO3.out.keep fun g hg => Below.heap_setCell _ _ _ _ (by have := (HO3.out.lt g hg).1; show g ≠ rb; omega), HK3.out.setCell (fun _ => .inl rfl) _⟩
end Go.Proofs.YtjmhmeadcphfmaaGreatDoor
/- The laws of chapter 9: they return true. -/
namespace Go.Proofs.YtjmhmeadcphfmaaGreatDoor
set_option linter.unusedVariables false
set_option linter.unusedSimpArgs false
open Go.RowKit
set_option maxRecDepth 100000
theorem CanV.bd {v : List En} (h : CanV v) : ∀ e ∈ v, BdE e := fun e he => BdE_of (h.1 e he).1
end Go.Proofs.YtjmhmeadcphfmaaGreatDoor
/- lattice.do: an operation on the counters of each replica. Condition: the vectors are correct, at most 2^20 entries of at most 10000 holes. -/
namespace Go.Proofs.YtjmhmeadcphfmaaGreatDoor
set_option linter.unusedVariables false
set_option linter.unusedSimpArgs false
open Go.RowKit Go.Maps
set_option maxRecDepth 100000
attribute [-go_sem] nat_succ
theorem below_keep {n : Nat} {A B C : World} {S : Nat → Prop} (h : Below n A B) (hk : Keep S B C) (hs : ∀ k, k < n → ¬ S k) (hn : n ≤ A.heap.size) : Below n A C :=
  ⟨hk.os.trans h.os, hk.tape.trans h.tape, hk.output.trans h.output, Nat.le_trans h.size hk.size, fun k hkn => (hk.block k (by have := h.size; omega) (hs k hkn)).trans (h.block k hkn)⟩
theorem ranges_block {w w' : World} {b r n cnt : Nat} {D : DV} {left : Lit → Bool} (h : w.ranges Tryz.prog 24 rV b r n D left cnt) (hb : w'.heap[b]? = w.heap[b]?) (hr : w'.heap[r]? = w.heap[r]?) : w'.ranges Tryz.prog 24 rV b r n D left cnt := by
  obtain ⟨es, clock, since, seen, c0, h1, F, hs, hD, h2, rest⟩ := h
  exact ⟨es, clock, since, seen, c0, hb.trans h1, F, hs, hD, hr.trans h2, rest⟩
theorem invU : ∀ (key : Value) (kl : Lit), keyOf Tryz.prog 24 key = some kl → ∃ x : {r : Nat // r < M64}, key = Value.int .u64 (x.1 : Nat) := fun key kl h => by
  obtain ⟨x, rfl, _, hw⟩ := Maps.keyOf_int_inv Tryz.underlying24 h
  simp [Lit.wf, IntKind.min, IntKind.max, IntKind.signed, IntKind.bits] at hw
  refine ⟨⟨x.toNat, by rw [M64_val]; omega⟩, ?_⟩
  rw [Int.toNat_of_nonneg (by omega)]
theorem strike_iff {left : Lit → Bool} {r x : Nat} : (left (kR r) && !(kR r).sameKey (kR x)) = false ↔ left (kR r) = false ∨ r = x := by
  have h : (kR r).sameKey (kR x) = decide (r = x) := by
    simp [kR, Lit.sameKey]
    omega
  rw [h]
  cases left (kR r) <;> simp
theorem asc_len : ∀ (r xs : List Nat), Asc r → (∀ y ∈ r, y ∈ xs) → r.length ≤ xs.length := by
  intro r
  induction r with
  | nil => intro xs _ _; exact Nat.zero_le _
  | cons x r ih =>
    intro xs h hm
    have h' := List.pairwise_cons.1 h
    have := ih (xs.erase x) h'.2 fun y hy => by
      have h3 := h'.1 y hy
      exact (List.mem_erase_of_ne (by omega)).2 (hm y (by simp [hy]))
    have hx : x ∈ xs := hm x (by simp)
    rw [List.length_erase_of_mem hx] at this
    have := List.length_pos_of_mem hx
    simp; omega
theorem ixr_0 (a1 a2 : Option Addr) (n1 n2 c1 c2 : Nat) (w : World) : (Instr.index 232 (.agg #[.slice a1 n1 c1, .slice a2 n2 c2]) (.int .i64 0)).run Tryz.prog w = .ok (.slice a1 n1 c1) w := by kernel_rfl
theorem ixr_1 (a1 a2 : Option Addr) (n1 n2 c1 c2 : Nat) (w : World) : (Instr.index 232 (.agg #[.slice a1 n1 c1, .slice a2 n2 c2]) (.int .i64 1)).run Tryz.prog w = .ok (.slice a2 n2 c2) w := by kernel_rfl
theorem infoE : (Tryz.prog.info? 61).map (fun i => (i.zero, i.size, i.bytes)) = some (some (.agg #[.int .u64 0, .int .u64 0, .slice none 0 0]), 3, 40) := by kernel_rfl
/-- A row of numbers, as a range reads it. -/
theorem OwnU.shape {base : Nat} {w : World} {v : Value} {l : List Nat} (h : OwnU base w v l) : ∃ ad cap, v = .slice ad l.length cap ∧ l.length ≤ cap ∧ cap ≤ maxLen ∧ (l ≠ [] → ∃ g, ad = some ⟨g, 0, none⟩ ∧ g < w.heap.size ∧ ∀ j (hj : j < l.length), w.cell? ⟨g, j, none⟩ = some (.int .u64 (l[j] : Nat))) := by
  rcases h.cases with ⟨rfl, rfl⟩ | ⟨g, cap, cur, rfl, h1, h2, h3, h4, h5, h6, h7⟩
  · exact ⟨none, 0, rfl, Nat.le_refl _, Nat.zero_le _, fun h => absurd rfl h⟩
  · refine ⟨_, cap, rfl, h4, h5, fun _ => ⟨g, rfl, h2, fun j hj => ?_⟩⟩
    have := World.ownsRow.cells h (g := g) rfl j (uV l[j]) (by rw [List.getElem?_map, List.getElem?_eq_getElem hj]; rfl)
    rw [add_none, Nat.zero_add] at this
    exact this
theorem latO_eq {f : Bool → Bool → Bool} {a b : List En} {r : Nat} {e : En} {ok : Bool} (h : ofS r (opS f (knV a r) (knV b r)) = (e, ok)) : latO f a b r = if ok = true then some e else none := by
  unfold latO latE
  rw [h]
theorem fm_step {f : Bool → Bool → Bool} {a b : List En} {L : List Nat} {k : Nat} (hk : k < L.length) : (L.take (k + 1)).filterMap (latO f a b) = (L.take k).filterMap (latO f a b) ++ (latO f a b L[k]).toList := by
  rw [List.take_succ_eq_append_getElem hk, List.filterMap_append, List.filterMap_cons, List.filterMap_nil]
  cases latO f a b L[k] <;> rfl
/-- A call of a function value that is held in a slot. -/
theorem wp_callv {P : Program} {f : FuncId} {t : Tmp} {xs : List Operand} {c : Call} {o : Oper} {a : Act} {w : World} {K : Act → World → Prop} {Q : Exit → Act → World → Prop} (ho : o.op = .call c) (hc : c.callee = .value (.tmp t)) (hv : a.eval (.tmp t) = .func (.func f) #[] #[]) (ha : c.args.toList = xs)
    (he : ∀ args w, (callFunc f args).run P w = .ok (.enter f args) w)
    (h : Calls P f (xs.map a.eval).toArray w fun e w'' => match e with | .returned v => K (a.put o.dst v) w'' | .panicked chain => Q (.panic chain) a w'' | .outgrown => LetsOut Q) : o.wp P a w K Q := by
  have hr : (execOp a.eval o).run P w = .ok (.enter f (xs.map a.eval).toArray) w := by
    have e : c.args.map a.eval = (xs.map a.eval).toArray := Array.toList_inj.1 (by rw [Array.toList_map, ha])
    simp only [execOp, ho, resolve, hc, e, hv, Deferred.ofValue, Sem.run_bind, Sem.run_pure, Result.andThen_ok, invoke]
    rw [show (#[] ++ (xs.map a.eval).toArray ++ #[] : Array Value) = (xs.map a.eval).toArray from by simp]
    exact he _ _
  unfold Oper.wp
  rw [hr, Oper.upon_enter]
  exact h.mono (fun e w' h => by cases e <;> exact h)
theorem wp_append_own_at {P : Program} {w : World} {o : Oper} {a : Act} {K : Act → World → Prop} {Q : Exit → Act → World → Prop} (s x : Operand) (t : TypeId)
    (ho : o.op = .call { callee := .builtin .append, args := #[s, x], argTypes := #[t, t] })
    (base : Nat) (e : TypeId) (i : TypeInfo) (z : Value) (size bytes : Nat) (ht : P.underlying t = some (.slice e)) (hi : P.info? e = some i) (hz : i.zero = some z)
    (hsize : i.size = size) (hby : i.bytes = bytes) (hzs : z.cells.size = size) (hsz : 0 < size)
    (v : Value) (n : Nat) (xs : List Value) (hs : a.eval s = v) (hown : w.ownsRow base e size v n xs)
    (ad : Addr) (m c : Nat) (news : List Value) (hx : a.eval x = .slice (some ad) m c) (hl : news.length = m * size) (hnews : ∀ j u, news[j]? = some u → w.cell? (ad.add j) = some u) (h1 : ∀ u ∈ news, u.oneCell' = true)
    (h63 : n + m ≤ maxLen) (hbytes : (n + m) * bytes ≤ 140737488355328) (hbase : base ≤ w.heap.size)
    (h : ∀ v' w', w'.ownsRow base e size v' (n + m) (xs ++ news) → w.grownBy w' v.ownBlock → (v' = .slice none 0 0 ↔ v = .slice none 0 0 ∧ m = 0) → (v'.ownBlock = v.ownBlock ∨ v'.ownBlock = some w.heap.size) → K (a.put o.dst v') w') :
    o.wp P a w K Q := by
  obtain ⟨v', w', hr, h2, h3, h4, h5⟩ := run_append_own_at (P := P) w base t o.type e i z size bytes ht hi hz hsize hby hzs hsz v n xs hown ad m c news hl hnews h1 h63 hbytes hbase
  unfold Oper.wp execOp
  simp only [ho, resolve, invoke, builtin, Sem.run_bind, Sem.run_pure, Result.andThen_ok, List.map_toArray, List.map_cons, List.map_nil, hs, hx, hr]
  exact h v' w' h2 h3 h4 h5
set_option maxHeartbeats 8000000 in
theorem do_calls (C : Nat → Nat → Prop) (a b : List En) (va vb : Value) (w : World) (f : Bool → Bool → Bool) (op : FuncId) (hop : ∀ r, Cn Tryz.prog op [rg (knV a r), rg (knV b r)] (rg (opS f (knV a r) (knV b r))))
    (ha : SmV a) (hb : SmV b) (ra : RdF C w.heap.size w va a) (rb : RdF C w.heap.size w vb b) (hC : ∀ b o, C b o → b < w.heap.size) (hG : GL C w) :
    Calls Tryz.prog 152 #[va, vb, .func (.func op) #[] #[]] w fun e w' => ∃ v, e = .returned v ∧ Below w.heap.size w w' ∧ Dat (DL C w.heap.size w') w' v (vp (lat f a b)) := by
  have HP0 := Lib.hid (pair_calls C a b va vb w ha hb ra rb hC hG)
  have HGL := Lib.hid hG
  have hent := (hop 0).1
  have HOP := Lib.hid hop
  have HM := Lib.hid (rep_lt ha.1 hb.1)
  obtain ⟨dom, hdom⟩ : ∃ dom, dom = reps a ++ reps b := ⟨_, rfl⟩
  have hdl : dom.length ≤ 2097152 := by have h1 := ha.2.1; have h2 := hb.2.1; rw [hdom]; simp [reps]; omega
  have hlat : lat f a b = (srt dom).filterMap (latO f a b) := by rw [hdom]; rfl
  rw [← hdom] at HM
  have HLat := Lib.hid hlat
  have HDom := Lib.hid hdom
  clear hG ra rb hop hlat
  have tokA : True := trivial
  have tokB : True := trivial
  go_enter Tryz.func152, Tryz.ntmps152
  go_wp2_with (first
    | (go_at_call 194; have _t := tokA; refine HP0.out.mono ?_; rintro e w1 ⟨rfl, hb1, D, hown, hpd⟩
       rw [← hdom] at hpd
       have hmb : w.heap.size < w1.heap.size := hown.lt
       have HO1 := Lib.hid hown
       have HP1 := Lib.hid hpd
       have HB1 := Lib.hid hb1
       clear hown hpd hb1 tokA)
    | (at_range; have _t := tokB; refine wpList_range_own _ rfl _ 227 rfl 24 232 law_u Tryz.underlying227 rV w.heap.size (a.length + b.length) D rfl (HO1.out.alloc _) ?_; intro w2 hrg2 hg2 hs2; clear tokB)
    | go_in)
  go_frame
  simp only [World.size_alloc] at hrg2 hs2 ⊢
  clear hdom
  have HG2 := Lib.hid hg2
  have hbx2 : Boxed w2 w1.heap.size 230 (.slice none 0 0) := (Boxed.new w1 _ _).kept hg2 (by simp)
  have HK2 : Hid (∀ k, k < w1.heap.size → w2.heap[k]? = w1.heap[k]?) := Lib.hid fun k hk => (hg2.block k (by simp; omega) (by simp)).trans (Below.heap_alloc _ _ _ hk)
  have HB2 := Lib.hid (below_keep HB1.out (S := fun _ => False) ⟨hg2.os, hg2.tape, hg2.output, Nat.le_trans (by simp) hg2.size, fun k hk _ => HK2.out k hk⟩ (fun _ _ h => h) (Nat.le_refl _))
  clear hg2
  go_loopg [9] (Maps.size D) (fun g x wr => ∃ left xs v, wr.ranges Tryz.prog 24 rV w.heap.size (w1.heap.size + 1) (a.length + b.length) D left g ∧ (∀ r, r ∈ xs ↔ r ∈ dom ∧ left (kR r) = false) ∧ (∀ r, left (kR r) = true → r ∈ dom) ∧
    OwnU (w1.heap.size + 2) wr v (srt xs) ∧ Boxed wr w1.heap.size 230 v ∧ Keep (fun k => w1.heap.size ≤ k) w2 wr)
  case atStart =>
    have hpd := HP1.out
    refine ⟨Maps.has D, [], .slice none 0 0, hrg2, fun r => ?_, fun r h => ?_, ?_, hbx2, Keep.refl _ _⟩
    · rw [(hpd.2 r).1]; simp
    · rw [(hpd.2 r).1] at h; simpa using h
    · rw [srt_nil]; exact World.ownsRow_nil _ _ _ _
  case round =>
    obtain ⟨left, xs, v, hrg, hxs, hlf, hown, hbx, hK⟩ := hrel
    obtain ⟨wl, hwl⟩ : ∃ x, x = wr := ⟨_, rfl⟩
    subst hwl
    have HRG := Lib.hid hrg
    have HXS := Lib.hid hxs
    have HLF := Lib.hid hlf
    have HOW := Lib.hid hown
    have HBX := Lib.hid hbx
    have HKL := Lib.hid hK
    have hsl : (srt xs).length ≤ 2097152 := Nat.le_trans (asc_len _ dom (srt_asc xs) fun y hy => ((hxs y).1 (srt_mem.1 hy)).1) hdl
    have hw2l : w2.heap.size ≤ wl.heap.size := hK.size
    have HKW : Hid (∀ k, k < w1.heap.size → wl.heap[k]? = w1.heap[k]?) := Lib.hid fun k hk => (hK.block k (by omega) (by omega)).trans (HK2.out k hk)
    have HBL := Lib.hid (below_keep HB2.out hK (fun k hk => by omega) (Nat.le_refl _))
    have HGW : Hid (GL C wl) := Lib.hid (HGL.out.mono (fun _ _ h => h) fun j o x hj hx => (World.cell?_of_block (a := ⟨j, o, none⟩) (HBL.out.block j (hC j o hj))).trans hx)
    clear hrg2 hbx2 hrg hxs hlf hown hbx hK
    go_wp2_with (first
      | (at_next; refine wpList_next_ranges _ rfl _ rfl 24 law_u rV (fun r : {r : Nat // r < M64} => Value.int .u64 (r.1 : Nat)) (fun c : Value => c) invU (fun v y _ => ⟨v, rfl⟩) w.heap.size (w1.heap.size + 1) (a.length + b.length) D left gk rfl HRG.out ?_ ?_)
      | go_in)
    · intro hc0 hl0
      have hL : srt xs = srt dom := srt_eq (srt_asc dom) fun y => by rw [srt_mem, HXS.out y, hl0]; simp
      have HOW2 := HOW.out
      rw [hL] at HOW2 hsl
      have c0 := HBX.out.cell
      have hown := HRG.out.owns
      have HO := Lib.hid hown
      clear hown hl0 hL HOW HXS HLF
      obtain ⟨L, hLL⟩ : ∃ L, L = srt dom := ⟨_, rfl⟩
      rw [← hLL] at HOW2 hsl
      obtain ⟨ad, cap, rfl, hcap, hcm, hcl⟩ := HOW2.shape
      unfold maxLen at hcm
      have HCL := Lib.hid hcl
      have HLL := Lib.hid hLL
      clear hcl hLL HOW2
      go_wp2_with fail
      go_loopg [10, 29] L.length (fun g y x wr => ∃ k, k ≤ L.length ∧ g = L.length - k ∧ x = .int .i64 k ∧ OutE C w.heap.size wl.heap.size wr y ((L.take k).filterMap (latO f a b)) ∧ Keep (fun k => wl.heap.size ≤ k) wl wr)
      case atStart => exact ⟨0, Nat.zero_le _, rfl, rfl, OutE.start _ _ _ _, Keep.refl _ _⟩
      case round =>
        obtain ⟨k, hk, rfl, rfl, hout, hKr⟩ := hrel
        have HKR := Lib.hid hKr
        have HOUT := Lib.hid hout
        clear hKr hout
        have hwrl := HKR.out.size
        have HRW : Hid (∀ j, j < wl.heap.size → wr.heap[j]? = wl.heap[j]?) := Lib.hid fun j hj => HKR.out.block j hj (by omega)
        have HBR := Lib.hid (below_keep HBL.out HKR.out (fun k hk => by omega) (Nat.le_refl _))
        by_cases hlt : k < L.length
        · obtain ⟨g, had, hgl, hcells⟩ := HCL.out (fun e => by rw [e] at hlt; simp at hlt)
          subst had
          obtain ⟨r, hr⟩ : ∃ r, r = L[k] := ⟨_, rfl⟩
          have hrm : r < M64 := HM.out r (by rw [hr, ← HLL.out]; exact List.getElem_mem hlt)
          have ck : wr.cell? ⟨g, k, none⟩ = some (.int .u64 (r : Nat)) := by rw [hr]; exact (World.cell?_of_block (a := ⟨g, k, none⟩) (HRW.out g hgl)).trans (hcells k hlt)
          obtain ⟨s0, s1, hat, hd0, hd1⟩ := (HP1.out.2 r).2
          obtain ⟨a0, n0, rfl⟩ := rg_slice hd0
          obtain ⟨a1, n1, rfl⟩ := rg_slice hd1
          have hlk := map_look (ownsMap_block HO.out (HRW.out _ (by omega))) hrm hat
          have hmw : ∀ j o x, DL C w.heap.size w1 j o → w1.cell? ⟨j, o, none⟩ = some x → wr.cell? ⟨j, o, none⟩ = some x := fun j o x hj hx => by
            have hj1 := World.block_lt_of_cell? w1 ⟨j, o, none⟩ hx
            exact (World.cell?_of_block (a := ⟨j, o, none⟩) ((HRW.out j (Nat.lt_of_lt_of_le hj1 (by omega))).trans (HKW.out j hj1))).trans hx
          have hdx : ∀ j o, DL C w.heap.size w1 j o → DX C w.heap.size wr u10 j o := fun j o hj => ⟨hj.imp id fun h => ⟨h.1, by omega⟩, fun e => by
            have h5 := (HOUT.out.owns j e).1
            rcases hj with hj | hj
            · have := hC j o hj; omega
            · omega⟩
          have hDXb : ∀ j o, DX C w.heap.size wr u10 j o → j < wr.heap.size := fun j o h => h.1.elim (fun h => by have := hC j o h; omega) And.right
          have hGX : GL (DX C w.heap.size wr u10) wr := HGW.out.mono (fun j o h => ⟨.inl h, fun e => by have h5 := (HOUT.out.owns j e).1; have := hC j o h; omega⟩) fun j o x hj hx => (World.cell?_of_block (a := ⟨j, o, none⟩) (HRW.out j (by have := hC j o hj; omega))).trans hx
          have HXB := Lib.hid hDXb
          have HGX := Lib.hid hGX
          have HOPC := Lib.hid (cn_w (HOP.out r) hGX hDXb (vs := #[.slice a0 (knV a r).length n0, .slice a1 (knV b r).length n1]) rfl (fun i p hp => by
            match i, hp with
            | 0, hp => cases hp; exact hd0.mono hdx hmw
            | 1, hp => cases hp; exact hd1.mono hdx hmw
            | i + 2, hp => simp at hp))
          have hnr : Nrm (opS f (knV a r) (knV b r)) := opS_nrm (knV_nrm ha.1 r) (knV_nrm hb.1 r)
          have hol : (opS f (knV a r) (knV b r)).length ≤ 80100 := by
            have h1 := opS_length f (knV a r) (knV b r)
            have h2 := knV_len (n := 1048576) (h := 10000) ha r
            have h3 := knV_len (n := 1048576) (h := 10000) hb r
            omega
          have hof := eof_c r (opS f (knV a r) (knV b r)) hnr (by omega)
          obtain ⟨e, ok, hE⟩ : ∃ e ok, ofS r (opS f (knV a r) (knV b r)) = (e, ok) := ⟨_, _, rfl⟩
          rw [hE] at hof
          have HOF := Lib.hid hof
          have hlo := latO_eq (f := f) (a := a) (b := b) hE
          have hst := fm_step (f := f) (a := a) (b := b) hlt
          rw [← hr, hlo] at hst
          have HST := Lib.hid hst
          have hhl : e.holes.length ≤ 1000000 := by
            have := ofS_length r (opS f (knV a r) (knV b r))
            rw [hE] at this
            simp only at this
            omega
          have hn0 : (knV a r).length ≤ maxLen := by have := knV_len (n := 1048576) (h := 10000) ha r; unfold maxLen; omega
          have hn1 : (knV b r).length ≤ maxLen := by have := knV_len (n := 1048576) (h := 10000) hb r; unfold maxLen; omega
          unfold maxLen at hn0 hn1
          have i0 := ixr_0 a0 a1 (knV a r).length (knV b r).length n0 n1
          have i1 := ixr_1 a0 a1 (knV a r).length (knV b r).length n0 n1
          obtain ⟨ls, hls⟩ : ∃ ls, ls = opS f (knV a r) (knV b r) := ⟨_, rfl⟩
          rw [← hls] at HOF HOPC hol
          clear hof hE hlo hst hat hd0 hd1 hmw hdx hcells hDXb hGX hnr hr hls
          have tokD : True := trivial
          have tokE : True := trivial
          have tokF : True := trivial
          cases ok with
          | false =>
            go_wp2_with fail
            refine wp_callv (t := 35) (f := op) (xs := [.tmp 39, .tmp 43]) rfl rfl rfl rfl hent ?_
            refine HOPC.out.mono ?_
            rintro e' w3 ⟨v3, rfl, hb3, hd3⟩
            obtain ⟨a3, n3, rfl⟩ := rg_slice hd3
            have HB3 := Lib.hid hb3
            have HD3 := Lib.hid hd3
            clear hb3 hd3
            dsimp only
            go_wp2_with fail
            refine (cn_w HOF.out (D := fun j o => DX C w.heap.size wr u10 j o ∨ (wr.heap.size ≤ j ∧ j < w3.heap.size)) (HGX.out.mono (fun _ _ h => .inl h) fun j o x hj hx => (World.cell?_of_block (a := ⟨j, o, none⟩) (HB3.out.block j (HXB.out j o hj))).trans hx) (fun j o h => h.elim (fun h => Nat.lt_of_lt_of_le (HXB.out j o h) HB3.out.size) And.right) rfl (fun i p hp => ?_)).mono ?_
            · match i, hp with
              | 0, hp => cases hp; exact .v _
              | 1, hp => cases hp; exact HD3.out
              | i + 2, hp => simp at hp
            rintro e' w4 ⟨v4, rfl, hb4, hd4⟩
            obtain ⟨a4, n4, rfl, hd4'⟩ := dat_entup hd4
            have HB4 := Lib.hid hb4
            have HD4 := Lib.hid hd4'
            clear hb4 hd4 hd4'
            dsimp only
            go_wp2_with fail
            go_roundg (L.length - (k + 1))
            case measure => omega
            case rel =>
              have h34 := HB3.out.size
              have h44 := HB4.out.size
              refine ⟨k + 1, hlt, rfl, by simp, ?_, HKR.out.trans (((Keep.of_below' HB3.out (Nat.le_refl _)).trans (Keep.of_below' HB4.out (Nat.le_refl _))).alloc _)⟩
              rw [HST.out]
              simp only [Bool.false_eq_true, if_false, Option.toList_none, List.append_nil]
              exact HOUT.out.keep (by simp; omega) fun j hj => by rw [Below.heap_alloc _ _ _ (by omega), HB4.out.block j (by omega), HB3.out.block j hj]
          | true =>
            go_wp2_with fail
            refine wp_callv (t := 35) (f := op) (xs := [.tmp 39, .tmp 43]) rfl rfl rfl rfl hent ?_
            refine HOPC.out.mono ?_
            rintro e' w3 ⟨v3, rfl, hb3, hd3⟩
            obtain ⟨a3, n3, rfl⟩ := rg_slice hd3
            have HB3 := Lib.hid hb3
            have HD3 := Lib.hid hd3
            clear hb3 hd3
            dsimp only
            go_wp2_with fail
            refine (cn_w HOF.out (D := fun j o => DX C w.heap.size wr u10 j o ∨ (wr.heap.size ≤ j ∧ j < w3.heap.size)) (HGX.out.mono (fun _ _ h => .inl h) fun j o x hj hx => (World.cell?_of_block (a := ⟨j, o, none⟩) (HB3.out.block j (HXB.out j o hj))).trans hx) (fun j o h => h.elim (fun h => Nat.lt_of_lt_of_le (HXB.out j o h) HB3.out.size) And.right) rfl (fun i p hp => ?_)).mono ?_
            · match i, hp with
              | 0, hp => cases hp; exact .v _
              | 1, hp => cases hp; exact HD3.out
              | i + 2, hp => simp at hp
            rintro e' w4 ⟨v4, rfl, hb4, hd4⟩
            obtain ⟨a4, n4, rfl, hd4'⟩ := dat_entup hd4
            have HB4 := Lib.hid hb4
            have HD4 := Lib.hid hd4'
            clear hb4 hd4 hd4'
            dsimp only
            go_wp2_with fail
            have hz5 : ((w4.alloc (.cells #[.int .u64 e.rep, .int .u64 e.max, .slice a4 e.holes.length n4] 61)).alloc (.cells #[.int .u64 e.rep, .int .u64 e.max, .slice a4 e.holes.length n4] 61)).heap.size = w4.heap.size + 2 := by simp
            have h34 := HB3.out.size
            have h44 := HB4.out.size
            have hb5 : ∀ j, j < wr.heap.size → ((w4.alloc (.cells #[.int .u64 e.rep, .int .u64 e.max, .slice a4 e.holes.length n4] 61)).alloc (.cells #[.int .u64 e.rep, .int .u64 e.max, .slice a4 e.holes.length n4] 61)).heap[j]? = wr.heap[j]? := fun j hj => by
              rw [Below.heap_alloc _ _ _ (by simp; omega), Below.heap_alloc _ _ _ (by omega), HB4.out.block j (by omega), HB3.out.block j hj]
            obtain ⟨xs5, h15, h25⟩ := HOUT.out.keep (by omega) hb5
            have hnb : ((w4.alloc (.cells #[.int .u64 e.rep, .int .u64 e.max, .slice a4 e.holes.length n4] 61)).alloc (.cells #[.int .u64 e.rep, .int .u64 e.max, .slice a4 e.holes.length n4] 61)).heap[w4.heap.size + 1]? = some (.cells #[.int .u64 e.rep, .int .u64 e.max, .slice a4 e.holes.length n4] 61 (0, 0)) := by
              have := World.alloc_heap_new (w4.alloc (.cells #[.int .u64 e.rep, .int .u64 e.max, .slice a4 e.holes.length n4] 61)) (.cells #[.int .u64 e.rep, .int .u64 e.max, .slice a4 e.holes.length n4] 61)
              rwa [World.size_alloc] at this
            have hd5 : Dat (DX C w.heap.size ((w4.alloc (.cells #[.int .u64 e.rep, .int .u64 e.max, .slice a4 e.holes.length n4] 61)).alloc (.cells #[.int .u64 e.rep, .int .u64 e.max, .slice a4 e.holes.length n4] 61)) u10) ((w4.alloc (.cells #[.int .u64 e.rep, .int .u64 e.max, .slice a4 e.holes.length n4] 61)).alloc (.cells #[.int .u64 e.rep, .int .u64 e.max, .slice a4 e.holes.length n4] 61)) (.slice a4 e.holes.length n4) (rg e.holes) := by
              refine HD4.out.mono (fun j o h => ?_) fun j o x h hx => ?_
              · have key : wr.heap.size ≤ j → j < w4.heap.size → DX C w.heap.size ((w4.alloc (.cells #[.int .u64 e.rep, .int .u64 e.max, .slice a4 e.holes.length n4] 61)).alloc (.cells #[.int .u64 e.rep, .int .u64 e.max, .slice a4 e.holes.length n4] 61)) u10 j o := fun h1 h2 => ⟨.inr ⟨by omega, by omega⟩, fun h => by have := (HOUT.out.owns j h).2; omega⟩
                rcases h with (h | h) | h
                · exact ⟨h.1.imp id fun h => ⟨h.1, by omega⟩, h.2⟩
                · exact key h.1 (by omega)
                · exact key (by omega) h.2
              · have hj4 := World.block_lt_of_cell? w4 ⟨j, o, none⟩ hx
                exact (World.cell?_of_block (a := ⟨j, o, none⟩) (by rw [Below.heap_alloc _ _ _ (by simp; exact Nat.lt_succ_of_lt hj4), Below.heap_alloc _ _ _ hj4])).trans hx
            have hel : ((L.take k).filterMap (latO f a b)).length ≤ k := Nat.le_trans (List.length_filterMap_le _ _) (by simp; omega)
            obtain ⟨ie, hie, hze, hse, hbe⟩ := info_parts infoE
            refine wp_append_own_at _ _ 49 rfl wl.heap.size 61 ie _ 3 40 Tryz.underlying49 hie hze hse hbe rfl (by decide) _ _ xs5 rfl h15 ⟨w4.heap.size + 1, 0, none⟩ 1 1 [.int .u64 e.rep, .int .u64 e.max, .slice a4 e.holes.length n4] rfl rfl (fun j u hj => by
              rw [add_none, Nat.zero_add]
              exact (cells_of hnb j u (by simpa using hj)).1) (fun u hu => by simp at hu; rcases hu with rfl | rfl | rfl <;> rfl) (by unfold maxLen; omega) (by omega) (by omega) ?_
            intro v6 w6 ho6 hg6 _ hbl6
            have HP6 := Lib.hid (OutE.push (mb := w.heap.size) h25 h15 hd5 hC (by omega) ho6 hg6 hbl6)
            have HG6 := Lib.hid hg6
            have HB5 := Lib.hid hb5
            have HZ5 := Lib.hid hz5
            have HOB := Lib.hid (fun j (h : u10.ownBlock = some j) => (HOUT.out.owns j h).1)
            clear ho6 hg6 hbl6 h15 h25 hd5 hnb hb5 hz5
            go_wp2_with fail
            go_roundg (L.length - (k + 1))
            case measure => omega
            case rel =>
              refine ⟨k + 1, hlt, rfl, by simp, ?_, HKR.out.trans ((((((Keep.of_below' HB3.out (Nat.le_refl _)).trans (Keep.of_below' HB4.out (Nat.le_refl _))).alloc _).alloc _).grown HG6.out fun j hj _ => HOB.out j hj))⟩
              rw [HST.out]
              simp only [if_true, Option.toList_some]
              exact HP6.out
        · obtain rfl : k = L.length := by omega
          go_wp2_with fail
          refine bodyPost_ret (results_tmp rfl _ _ _) rfl ?_
          have h := HOUT.out.dat (by omega)
          rw [List.take_length, HLL.out, ← HLat.out] at h
          exact ⟨_, rfl, HBR.out, h⟩
    · intro x hx c kl y ys w3 cnt3 hkey hlk hv hat hrg3 hlt hg3 hs3 hen
      try dsimp only at hkey hen ⊢
      obtain rfl : kl = kR x := by
        have := (key_r hx).symm.trans hkey
        simpa using this.symm
      have HRG3 := Lib.hid hrg3
      have HK3 := Lib.hid ((HKL.out.grown hg3 (fun k hk _ => by cases hk; omega)))
      have hb3 : ∀ k, k ≠ w1.heap.size + 1 → k < wl.heap.size → w3.heap[k]? = wl.heap[k]? := fun k hk hkl => hg3.block k hkl (fun e => hk (by cases e; rfl))
      have HB3 := Lib.hid hb3
      have hblt := HBX.out.lt
      have HAD := Lib.hid (add_calls (C := C) (base := w1.heap.size + 2) (rb := w1.heap.size) (w := w3) (v := v) (xs := xs) x (HOW.out.keep fun g hg => hb3 g (by have := (HOW.out.lt g hg).1; omega) (HOW.out.lt g hg).2) ((hb3 _ (by omega) hblt).trans HBX.out) (by omega) (fun h => by have := ((HXS.out x).1 h).2; rw [hlk] at this; cases this) (by omega) (by omega)
        (fun b o h => by have := hC b o h; omega) (HGW.out.mono (fun _ _ h => h) fun j o y hj hy => (World.cell?_of_block (a := ⟨j, o, none⟩) (hb3 j (by have := hC j o hj; omega) (by have := hC j o hj; omega))).trans hy))
      clear hkey hv hat hrg3 hg3 hb3
      have tokC : True := trivial
      go_wp2_with (first
        | (go_at_call 195; have _t := tokC; refine HAD.out.mono ?_; rintro e w4 ⟨⟨u, rfl⟩, v', hbx4, ho4, hk4⟩; have HBX4 := Lib.hid hbx4; have HO4 := Lib.hid ho4; have HK4 := Lib.hid hk4; clear hbx4 ho4 hk4 tokC)
        | go_in)
      go_roundg cnt3
      case measure => exact hlt
      case rel =>
        have hm : ∀ k, k < w3.heap.size → k ≠ w1.heap.size → k < w1.heap.size + 2 → w4.heap[k]? = w3.heap[k]? := fun k hk h1 h2 => HK4.out.block k hk (by omega)
        refine ⟨_, xs ++ [x], v', ranges_block HRG3.out (hm _ (by omega) (by omega) (by omega)) (hm _ (by omega) (by omega) (by omega)), fun r => ?_, fun r h => ?_, HO4.out, HBX4.out, HK3.out.trans (HK4.out.mono fun k _ h => by omega)⟩
        · rw [strike_iff, List.mem_append, HXS.out r, List.mem_singleton]
          constructor
          · rintro (⟨h1, h2⟩ | rfl)
            · exact ⟨h1, .inl h2⟩
            · exact ⟨HLF.out _ hlk, .inr rfl⟩
          · rintro ⟨h1, h2 | h2⟩
            · exact .inl ⟨h1, h2⟩
            · exact .inr h2
        · exact HLF.out r (by cases h0 : left (kR r) with | true => rfl | false => rw [h0] at h; simp at h)
end Go.Proofs.YtjmhmeadcphfmaaGreatDoor
