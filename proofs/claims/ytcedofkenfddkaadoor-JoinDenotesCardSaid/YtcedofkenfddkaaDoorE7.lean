/- Entries: what is known, the canonical form, the operations. No condition. -/
import Derived.Test.YtcedofkenfddkaaDoorSetD
namespace Go.Proofs.YtcedofkenfddkaaDoor
set_option linter.unusedVariables false
set_option linter.unusedSimpArgs false
theorem opS_length (f : Bool → Bool → Bool) (a b : List Iv) : (opS f a b).length ≤ 2 * (a.length + b.length) + 1 := Nat.le_trans (merged_length f _ _) (by simpa using pieces_length a b)
/-- An entry. -/
structure En where
  rep : Nat
  max : Nat
  holes : List Iv
deriving DecidableEq
theorem En.ext' {e f : En} (h1 : e.rep = f.rep) (h2 : e.max = f.max) (h3 : e.holes = f.holes) : e = f := by cases e; cases f; simp_all
/-- A correct entry. -/
def RightE (e : En) : Prop := Nrm e.holes ∧ (∀ s ∈ e.holes, s.hi ≤ e.max) ∧ e.max < M64 ∧ e.rep < M64
theorem nrm_one {m n : Nat} (h : m ≤ n) (h' : n < M64) : Nrm [⟨m, n⟩] := ⟨Nat.zero_le _, h, h', trivial⟩
theorem mem_one (m n x : Nat) : mem [⟨m, n⟩] x = (decide (m ≤ x) && decide (x ≤ n)) := by simp [mem]
def kn (e : En) : List Iv := opS fMinus [⟨0, e.max⟩] e.holes
theorem kn_nrm {e : En} (h : RightE e) : Nrm (kn e) := opS_nrm (nrm_one (Nat.zero_le _) h.2.2.1) h.1
theorem kn_mem {e : En} (h : RightE e) {x : Nat} (hx : x < M64) : mem (kn e) x = (decide (x ≤ e.max) && !mem e.holes x) := by
  unfold kn
  rw [opS_mem (nrm_one (Nat.zero_le _) h.2.2.1) h.1 hx, mem_one]
  simp [fMinus]
/-- The greatest number of a list. -/
def top (l : List Iv) : Nat := match l.getLast? with
  | some s => s.hi
  | none => 0
theorem top_at {l : List Iv} (h : 0 < l.length) : l[l.length - 1].hi = top l := by
  unfold top
  rw [List.getLast?_eq_getElem?, List.getElem?_eq_getElem (by omega)]
theorem top_nil : top [] = 0 := rfl
theorem top_mem {l : List Iv} (hl : Nrm l) (h : l ≠ []) : mem l (top l) = true ∧ top l < M64 := by
  have h' : 0 < l.length := List.length_pos_iff.2 h
  have := NF.lo_ge hl l[l.length - 1] (List.getElem_mem _)
  rw [← top_at h']
  exact ⟨mem_iff.2 ⟨_, List.getElem_mem _, this.2.1, Nat.le_refl _⟩, this.2.2⟩
theorem top_ge {l : List Iv} (hl : Nrm l) {x : Nat} (hx : mem l x = true) : x ≤ top l := by
  obtain ⟨s, hs, h1, h2⟩ := mem_iff.1 hx
  have hne : l ≠ [] := by intro e; subst e; cases hs
  obtain ⟨k, t, rfl⟩ := List.eq_nil_or_concat l |>.resolve_left hne
  unfold top
  rw [List.concat_eq_append] at *
  rw [List.getLast?_concat]
  rcases List.mem_append.1 hs with h | h
  · have := hl.last_lt s h
    have := (NF.lo_ge hl t (by simp)).2.1
    simp only; omega
  · simp at h; subst h; exact h2
/-- The entry of what is known. -/
def ofS (r : Nat) (l : List Iv) : En × Bool := if l = [] then (⟨0, 0, []⟩, false) else (⟨r, top l, opS fMinus [⟨0, top l⟩] l⟩, true)
theorem ofS_nil (r : Nat) : ofS r [] = (⟨0, 0, []⟩, false) := rfl
theorem ofS_cons {r : Nat} {l : List Iv} (h : l ≠ []) : ofS r l = (⟨r, top l, opS fMinus [⟨0, top l⟩] l⟩, true) := if_neg h
theorem ofS_2 (r : Nat) (l : List Iv) : (ofS r l).2 = decide (l ≠ []) := by
  unfold ofS
  split
  · rename_i h; simp [h]
  · rename_i h; simp [h]
theorem ofS_right {r : Nat} {l : List Iv} (hr : r < M64) (hl : Nrm l) : RightE (ofS r l).1 := by
  by_cases h : l = []
  · subst h; exact ⟨trivial, (fun _ h => by cases h), M64_pos, M64_pos⟩
  · rw [ofS_cons h]
    have ht := (top_mem hl h).2
    have hn : Nrm (opS fMinus [⟨0, top l⟩] l) := opS_nrm (nrm_one (Nat.zero_le _) ht) hl
    refine ⟨hn, fun s hs => ?_, ht, hr⟩
    have h1 := NF.lo_ge hn s hs
    have h2 : mem (opS fMinus [⟨0, top l⟩] l) s.hi = true := mem_iff.2 ⟨s, hs, h1.2.1, Nat.le_refl _⟩
    rw [opS_mem (nrm_one (Nat.zero_le _) ht) hl h1.2.2, mem_one] at h2
    simp [fMinus] at h2
    exact h2.1
theorem kn_ofS {r : Nat} {l : List Iv} (hr : r < M64) (hl : Nrm l) (h : l ≠ []) : kn (ofS r l).1 = l := by
  have hR := ofS_right hr hl
  refine Nrm.unique (kn_nrm hR) hl fun x hx => ?_
  rw [kn_mem hR hx]
  rw [ofS_cons h]
  have ht := (top_mem hl h).2
  simp only
  rw [opS_mem (nrm_one (Nat.zero_le _) ht) hl hx, mem_one]
  simp only [fMinus]
  by_cases hxt : x ≤ top l
  · simp [hxt]
  · have : mem l x = false := by
      cases e : mem l x with
      | false => rfl
      | true => exact absurd (top_ge hl e) hxt
    simp [hxt, this]
/-- A canonical entry: its greatest counter is known. -/
def CanE (e : En) : Prop := RightE e ∧ ∀ s ∈ e.holes, s.hi < e.max
theorem can_max {e : En} (h : CanE e) : mem e.holes e.max = false := by
  cases h' : mem e.holes e.max with
  | false => rfl
  | true =>
    obtain ⟨s, hs, _, h2⟩ := mem_iff.1 h'
    have := h.2 s hs
    omega
theorem can_kn {e : En} (h : CanE e) : kn e ≠ [] ∧ top (kn e) = e.max := by
  have hm : mem (kn e) e.max = true := by rw [kn_mem h.1 h.1.2.2.1, can_max h]; simp
  have hne : kn e ≠ [] := by intro h'; rw [h'] at hm; cases hm
  refine ⟨hne, ?_⟩
  have h1 := top_ge (kn_nrm h.1) hm
  have h2 := top_mem (kn_nrm h.1) hne
  rw [kn_mem h.1 h2.2] at h2
  simp at h2
  omega
theorem can_ofS {e : En} (h : CanE e) : ofS e.rep (kn e) = (e, true) := by
  obtain ⟨h1, h2⟩ := can_kn h
  rw [ofS_cons h1, h2]
  have : opS fMinus [⟨0, e.max⟩] (kn e) = e.holes := by
    refine opS_eq (nrm_one (Nat.zero_le _) h.1.2.2.1) (kn_nrm h.1) h.1.1 fun x hx => ?_
    rw [kn_mem h.1 hx, mem_one]
    simp only [fMinus]
    by_cases hx' : x ≤ e.max
    · simp [hx']
    · have : mem e.holes x = false := by
        cases h' : mem e.holes x with
        | false => rfl
        | true =>
          obtain ⟨s, hs, _, h2⟩ := mem_iff.1 h'
          have := h.1.2.1 s hs
          omega
      simp [hx', this]
  rw [this]
theorem ofS_can {r : Nat} {l : List Iv} (hr : r < M64) (hl : Nrm l) (h : l ≠ []) : CanE (ofS r l).1 := by
  refine ⟨ofS_right hr hl, fun s hs => ?_⟩
  have hR := ofS_right hr hl
  have h1 := hR.2.1 s hs
  rcases Nat.lt_or_eq_of_le h1 with h2 | h2
  · exact h2
  · have h3 : mem (ofS r l).1.holes (ofS r l).1.max = true := mem_iff.2 ⟨s, hs, by have := NF.lo_ge hR.1 s hs; omega, by omega⟩
    have h4 := top_mem hl h
    have h5 : mem (kn (ofS r l).1) (top l) = true := by rw [kn_ofS hr hl h]; exact h4.1
    rw [kn_mem hR h4.2] at h5
    rw [ofS_cons h] at h3 h5
    simp only at h3 h5
    rw [h3] at h5
    simp at h5
/-- A last hole that reaches the greatest counter is taken away. -/
theorem canon_step {e : En} (h : RightE e) {l : List Iv} {s : Iv} (hs : e.holes = l ++ [s]) (hm : e.max ≤ s.hi) (h0 : 0 < s.lo) : RightE ⟨e.rep, s.lo - 1, l⟩ ∧ kn ⟨e.rep, s.lo - 1, l⟩ = kn e := by
  have hn : Nrm (l ++ [s]) := hs ▸ h.1
  have hs1 := NF.lo_ge hn s (by simp)
  have hR : RightE ⟨e.rep, s.lo - 1, l⟩ := by
    refine ⟨hn.init, fun t ht => ?_, ?_, h.2.2.2⟩
    · have := hn.last_lt t ht
      simp only; omega
    · simp only; omega
  refine ⟨hR, Nrm.unique (kn_nrm hR) (kn_nrm h) fun x hx => ?_⟩
  have hmax : s.hi = e.max := by have := h.2.1 s (by rw [hs]; simp); omega
  rw [kn_mem hR hx, kn_mem h hx, hs, mem_append, mem_one' s x]
  simp only
  by_cases h1 : x ≤ s.lo - 1
  · have e1 : x ≤ e.max := by omega
    have e2 : ¬ s.lo ≤ x := by omega
    simp [h1, e1, e2]
  · by_cases h2 : x ≤ e.max
    · have e2 : s.lo ≤ x := by omega
      have e3 : x ≤ s.hi := by omega
      simp [h1, e2, e3]
    · simp [h1, h2]
where mem_one' (s : Iv) (x : Nat) : mem [s] x = (decide (s.lo ≤ x) && decide (x ≤ s.hi)) := by simp [mem]
theorem canon_none {e : En} (h : RightE e) {l : List Iv} {s : Iv} (hs : e.holes = l ++ [s]) (hm : e.max ≤ s.hi) (h0 : s.lo = 0) : kn e = [] := by
  refine Nrm.unique (kn_nrm h) trivial fun x hx => ?_
  rw [kn_mem h hx, hs, mem_append]
  by_cases h2 : x ≤ e.max
  · have : mem [s] x = true := mem_iff.2 ⟨s, by simp, by omega, by omega⟩
    simp [this]
  · simp [h2]
theorem kn_holes_nil {e : En} (h : RightE e) (hh : e.holes = []) : CanE e := ⟨h, fun s hs => by rw [hh] at hs; cases hs⟩
theorem can_last {e : En} (h : RightE e) {l : List Iv} {s : Iv} (hs : e.holes = l ++ [s]) (hm : s.hi < e.max) : CanE e := by
  refine ⟨h, fun t ht => ?_⟩
  rw [hs] at ht
  have hn : Nrm (l ++ [s]) := hs ▸ h.1
  have hs1 := NF.lo_ge hn s (by simp)
  rcases List.mem_append.1 ht with h1 | h1
  · have := hn.last_lt t h1; omega
  · simp at h1; subst h1; exact hm
theorem ofS_length (r : Nat) (l : List Iv) : (ofS r l).1.holes.length ≤ 2 * l.length + 3 := by
  by_cases h : l = []
  · subst h; simp [ofS]
  · rw [ofS_cons h]
    have := opS_length fMinus [⟨0, top l⟩] l
    simp at this ⊢
    omega
theorem kn_length (e : En) : (kn e).length ≤ 2 * e.holes.length + 3 := by
  have := opS_length fMinus [⟨0, e.max⟩] e.holes
  simp at this
  unfold kn; omega
end Go.Proofs.YtcedofkenfddkaaDoor
