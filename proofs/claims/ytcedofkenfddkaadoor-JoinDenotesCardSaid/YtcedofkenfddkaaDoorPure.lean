/- Plain mathematics of interval lists: membership, normal lists, their uniqueness; the pieces of two lists and what a merge makes of them. No program in sight. No condition. -/
namespace Go.Proofs.YtcedofkenfddkaaDoor
set_option linter.unusedVariables false
set_option linter.unusedSimpArgs false

/-- The number of the numbers of 64 bits. -/
def M64 : Nat := 18446744073709551616
theorem M64_val : M64 = 18446744073709551616 := rfl
theorem M64_pos : 0 < M64 := by rw [M64_val]; omega

structure Iv where
  lo : Nat
  hi : Nat
deriving DecidableEq

theorem Iv.ext' {s t : Iv} (h1 : s.lo = t.lo) (h2 : s.hi = t.hi) : s = t := by cases s; cases t; simp_all

/-- Is a number in one of the intervals? -/
def mem (l : List Iv) (x : Nat) : Bool := l.any fun s => decide (s.lo ≤ x) && decide (x ≤ s.hi)

@[simp] theorem mem_nil (x : Nat) : mem [] x = false := rfl
theorem mem_cons (s : Iv) (l : List Iv) (x : Nat) : mem (s :: l) x = ((decide (s.lo ≤ x) && decide (x ≤ s.hi)) || mem l x) := rfl
theorem mem_append (l k : List Iv) (x : Nat) : mem (l ++ k) x = (mem l x || mem k x) := by simp [mem, List.any_append]
theorem mem_iff {l : List Iv} {x : Nat} : mem l x = true ↔ ∃ s ∈ l, s.lo ≤ x ∧ x ≤ s.hi := by simp [mem]

/-- Normal from n on: ascending, correct intervals with gaps between them. -/
def NF : Nat → List Iv → Prop
  | _, [] => True
  | n, s :: l => n ≤ s.lo ∧ s.lo ≤ s.hi ∧ s.hi < M64 ∧ NF (s.hi + 2) l
/-- A correct list. -/
def Nrm (l : List Iv) : Prop := NF 0 l

theorem NF.mono {l : List Iv} {n m : Nat} (h : NF n l) (hm : m ≤ n) : NF m l := by
  cases l with
  | nil => trivial
  | cons s l => exact ⟨Nat.le_trans hm h.1, h.2.1, h.2.2.1, h.2.2.2⟩
theorem NF.tail {s : Iv} {l : List Iv} {n : Nat} (h : NF n (s :: l)) : NF n l := h.2.2.2.mono (by have := h.1; have := h.2.1; omega)
theorem NF.lo_ge {l : List Iv} : ∀ {n : Nat}, NF n l → ∀ s ∈ l, n ≤ s.lo ∧ s.lo ≤ s.hi ∧ s.hi < M64 := by
  induction l with
  | nil => intro n _ s hs; cases hs
  | cons t l ih =>
    intro n h s hs
    cases hs with
    | head => exact ⟨h.1, h.2.1, h.2.2.1⟩
    | tail _ hs => have := ih h.2.2.2 s hs; have := h.1; have := h.2.1; exact ⟨by omega, by omega, by omega⟩
theorem NF.mem_ge {l : List Iv} {n : Nat} (h : NF n l) {x : Nat} (hx : mem l x = true) : n ≤ x ∧ x < M64 := by
  obtain ⟨s, hs, h1, h2⟩ := mem_iff.1 hx
  have := h.lo_ge s hs
  omega
theorem NF.mem_lt {l : List Iv} {n : Nat} (h : NF n l) {x : Nat} (hx : x < n) : mem l x = false := by
  cases e : mem l x with
  | false => rfl
  | true => have := (h.mem_ge e).1; omega

/-- A normal list is determined by its set. -/
theorem NF.unique : ∀ {a b : List Iv} {n : Nat}, NF n a → NF n b → (∀ x, mem a x = mem b x) → a = b
  | [], [], _, _, _, _ => rfl
  | [], s :: l, _, _, hb, h => by
    have := h s.lo
    have h1 := hb.2.1
    simp [mem_cons, h1] at this
  | s :: l, [], _, ha, _, h => by
    have := h s.lo
    have h1 := ha.2.1
    simp [mem_cons, h1] at this
  | s :: l, t :: k, n, ha, hb, h => by
    have ha2 := ha.2.1
    have hb2 := hb.2.1
    have hlo : s.lo = t.lo := by
      have h1 := h s.lo
      have h2 := h t.lo
      rw [mem_cons, mem_cons] at h1 h2
      have e1 : mem l t.lo = true → s.hi + 2 ≤ t.lo := fun e => (ha.2.2.2.mem_ge e).1
      have e2 : mem k s.lo = true → t.hi + 2 ≤ s.lo := fun e => (hb.2.2.2.mem_ge e).1
      cases c1 : mem l t.lo <;> cases c2 : mem k s.lo <;> simp_all <;> omega
    have hhi : s.hi = t.hi := by
      rcases Nat.lt_trichotomy s.hi t.hi with hlt | heq | hgt
      · exfalso
        have h1 := h (s.hi + 1)
        have g1 : s.lo ≤ s.hi + 1 := by omega
        have g2 : ¬ s.hi + 1 ≤ s.hi := by omega
        have g3 : t.lo ≤ s.hi + 1 := by omega
        have g4 : s.hi + 1 ≤ t.hi := by omega
        rw [mem_cons, mem_cons, ha.2.2.2.mem_lt (show s.hi + 1 < s.hi + 2 by omega)] at h1
        simp [g2, g3, g4] at h1
      · exact heq
      · exfalso
        have h1 := h (t.hi + 1)
        have g1 : t.lo ≤ t.hi + 1 := by omega
        have g2 : ¬ t.hi + 1 ≤ t.hi := by omega
        have g3 : s.lo ≤ t.hi + 1 := by omega
        have g4 : t.hi + 1 ≤ s.hi := by omega
        rw [mem_cons, mem_cons, hb.2.2.2.mem_lt (show t.hi + 1 < t.hi + 2 by omega)] at h1
        simp [g2, g3, g4] at h1
    have hst : s = t := Iv.ext' hlo hhi
    subst hst
    have : l = k := NF.unique (n := s.hi + 2) ha.2.2.2 hb.2.2.2 fun x => by
      by_cases hx : x < s.hi + 2
      · rw [ha.2.2.2.mem_lt hx, hb.2.2.2.mem_lt hx]
      · have := h x
        rw [mem_cons, mem_cons] at this
        have hn : ¬ x ≤ s.hi := by omega
        simpa [hn] using this
    rw [this]

theorem Nrm.unique {a b : List Iv} (ha : Nrm a) (hb : Nrm b) (h : ∀ x, x < M64 → mem a x = mem b x) : a = b :=
  NF.unique ha hb fun x => by
    by_cases hx : x < M64
    · exact h x hx
    · have : ∀ {l}, Nrm l → mem l x = false := fun {l} hl => by
        cases e : mem l x with
        | false => rfl
        | true => have := (NF.mem_ge hl e).2; omega
      rw [this ha, this hb]

theorem NF.append {a b : List Iv} : ∀ {n : Nat}, NF n a → (∀ m, n ≤ m → (∀ s ∈ a, s.hi + 2 ≤ m) → (a = [] → m = n) → NF m b → NF n (a ++ b)) := by
  induction a with
  | nil => intro n _ m _ _ h1 hb; have := h1 rfl; subst this; exact hb
  | cons s a ih =>
    intro n h m hm hs _ hb
    refine ⟨h.1, h.2.1, h.2.2.1, ?_⟩
    have h2 := hs s (by simp)
    cases a with
    | nil => exact hb.mono h2
    | cons t a => exact ih h.2.2.2 m h2 (fun u hu => hs u (by simp [hu])) (fun e => by cases e) hb

/-- The first number behind x at which a list may change. -/
def nxt : List Iv → Nat → Option Nat
  | [], _ => none
  | s :: l, x => if x < s.lo then some s.lo else if s.hi + 1 < M64 ∧ x < s.hi + 1 then some (s.hi + 1) else nxt l x
/-- The less of two places. -/
def minO : Option Nat → Option Nat → Option Nat
  | none, b => b
  | some x, none => some x
  | some x, some y => if y < x then some y else some x

theorem nxt_gt {l : List Iv} {x y : Nat} (h : nxt l x = some y) : x < y := by
  induction l with
  | nil => cases h
  | cons s l ih =>
    unfold nxt at h
    split at h
    · cases h; assumption
    · split at h
      · cases h; omega
      · exact ih h
theorem nxt_lt {l : List Iv} {n x y : Nat} (hl : NF n l) (h : nxt l x = some y) : y < M64 := by
  induction l generalizing n with
  | nil => cases h
  | cons s l ih =>
    have h1 := hl.2.1
    have h2 := hl.2.2.1
    unfold nxt at h
    split at h
    · cases h; omega
    · split at h
      · cases h; omega
      · exact ih hl.2.2.2 h
/-- Up to there nothing changes. -/
theorem nxt_same {l : List Iv} {n x y z : Nat} (hl : NF n l) (h : nxt l x = some y) (h1 : x ≤ z) (h2 : z < y) : mem l z = mem l x := by
  induction l generalizing n with
  | nil => cases h
  | cons s l ih =>
    have g1 := hl.2.1
    unfold nxt at h
    split at h
    · rename_i hlt
      cases h
      rw [(hl.2.2.2.mono (m := s.lo) (by omega) |> fun k : NF s.lo l => (show NF s.lo (s :: l) from ⟨Nat.le_refl _, g1, hl.2.2.1, hl.2.2.2⟩)).mem_lt h2,
        (show NF s.lo (s :: l) from ⟨Nat.le_refl _, g1, hl.2.2.1, hl.2.2.2⟩).mem_lt hlt]
    · split at h
      · rename_i hn hc
        cases h
        have e1 : mem l z = false := hl.2.2.2.mem_lt (by omega)
        have e2 : mem l x = false := hl.2.2.2.mem_lt (by omega)
        rw [mem_cons, mem_cons, e1, e2]
        have : (s.lo ≤ z) = True := by simp; omega
        have : (s.lo ≤ x) = True := by simp; omega
        have : (z ≤ s.hi) = True := by simp; omega
        have : (x ≤ s.hi) = True := by simp; omega
        simp [*]
      · rename_i hn hc
        rw [mem_cons, mem_cons, ih hl.2.2.2 h]
        have g2 := hl.2.2.1
        by_cases hh : s.hi + 1 < M64
        · have a1 : ¬ x ≤ s.hi := by omega
          have a2 : ¬ z ≤ s.hi := by omega
          simp [a1, a2]
        · exfalso
          have : l = [] := by
            cases l with
            | nil => rfl
            | cons t l => have := hl.2.2.2.1; have := hl.2.2.2.2.1; have := hl.2.2.2.2.2.1; omega
          subst this
          cases h
theorem nxt_none {l : List Iv} {n x z : Nat} (hl : NF n l) (h : nxt l x = none) (h1 : x ≤ z) (h2 : z < M64) : mem l z = mem l x := by
  induction l generalizing n with
  | nil => rfl
  | cons s l ih =>
    have g2 := hl.2.2.1
    unfold nxt at h
    split at h
    · cases h
    · split at h
      · cases h
      · rename_i hn hc
        rw [mem_cons, mem_cons, ih hl.2.2.2 h]
        by_cases hh : s.hi + 1 < M64
        · have a1 : ¬ x ≤ s.hi := by omega
          have a2 : ¬ z ≤ s.hi := by omega
          simp [a1, a2]
        · have : (s.lo ≤ z) = True := by simp; omega
          have : (s.lo ≤ x) = True := by simp; omega
          have : (z ≤ s.hi) = True := by simp; omega
          have : (x ≤ s.hi) = True := by simp; omega
          simp [*]
/-- A list without its intervals that end before x changes behind x at the same places. -/
theorem nxt_drop {s : Iv} {l : List Iv} {x : Nat} (h : s.hi < x) (h0 : s.lo ≤ s.hi) : nxt (s :: l) x = nxt l x := by
  conv => lhs; unfold nxt
  rw [if_neg (by omega), if_neg (by omega)]

/-- The pieces from a number on, each with whether it is in both lists. -/
def pcs (a b : List Iv) : Nat → Nat → List (Iv × Bool × Bool)
  | 0, _ => []
  | f + 1, x =>
    match minO (nxt a x) (nxt b x) with
    | none => [(⟨x, M64 - 1⟩, mem a x, mem b x)]
    | some y => (⟨x, y - 1⟩, mem a x, mem b x) :: pcs a b f y
/-- All pieces of two lists. -/
def pieces (a b : List Iv) : List (Iv × Bool × Bool) := pcs a b M64 0

/-- Pieces that cover all from x on. -/
def Cov (a b : List Iv) : Nat → List (Iv × Bool × Bool) → Prop
  | x, [] => x = M64
  | x, (s, p, q) :: r => s.lo = x ∧ x ≤ s.hi ∧ s.hi < M64 ∧ (∀ z, x ≤ z → z ≤ s.hi → mem a z = p ∧ mem b z = q) ∧ Cov a b (s.hi + 1) r

theorem minO_none {a b : Option Nat} (h : minO a b = none) : a = none ∧ b = none := by
  cases a <;> cases b <;> simp [minO] at h ⊢
  split at h <;> cases h
theorem pcs_cov {a b : List Iv} (ha : Nrm a) (hb : Nrm b) : ∀ (f x : Nat), x < M64 → M64 ≤ f + x → Cov a b x (pcs a b f x) := by
  intro f
  induction f with
  | zero => intro x h1 h2; omega
  | succ f ih =>
    intro x h1 h2
    unfold pcs
    cases hm : minO (nxt a x) (nxt b x) with
    | none =>
      obtain ⟨na, nb⟩ := minO_none hm
      refine ⟨rfl, ?_, ?_, ?_, ?_⟩
      · show x ≤ M64 - 1; omega
      · show M64 - 1 < M64; omega
      · intro z z1 z2
        have z3 : z < M64 := by have : z ≤ M64 - 1 := z2; omega
        exact ⟨nxt_none ha na z1 z3, nxt_none hb nb z1 z3⟩
      · show M64 - 1 + 1 = M64; omega
    | some y =>
      have hy : x < y ∧ y < M64 ∧ ∀ z, x ≤ z → z < y → mem a z = mem a x ∧ mem b z = mem b x := by
        cases ea : nxt a x with
        | none =>
          rw [ea] at hm
          have eb : nxt b x = some y := hm
          refine ⟨nxt_gt eb, nxt_lt hb eb, fun z z1 z2 => ⟨nxt_none ha ea z1 (by have := nxt_lt hb eb; omega), nxt_same hb eb z1 z2⟩⟩
        | some u =>
          cases eb : nxt b x with
          | none =>
            rw [ea, eb] at hm
            simp only [minO] at hm
            cases hm
            exact ⟨nxt_gt ea, nxt_lt ha ea, fun z z1 z2 => ⟨nxt_same ha ea z1 z2, nxt_none hb eb z1 (by have := nxt_lt ha ea; omega)⟩⟩
          | some v =>
            rw [ea, eb] at hm
            simp only [minO] at hm
            split at hm
            · cases hm
              exact ⟨nxt_gt eb, nxt_lt hb eb, fun z z1 z2 => ⟨nxt_same ha ea z1 (by omega), nxt_same hb eb z1 z2⟩⟩
            · cases hm
              exact ⟨nxt_gt ea, nxt_lt ha ea, fun z z1 z2 => ⟨nxt_same ha ea z1 z2, nxt_same hb eb z1 (by omega)⟩⟩
      obtain ⟨y1, y2, y3⟩ := hy
      refine ⟨rfl, ?_, ?_, ?_, ?_⟩
      · show x ≤ y - 1; omega
      · show y - 1 < M64; omega
      · intro z z1 z2
        have : z ≤ y - 1 := z2
        exact y3 z z1 (by omega)
      · show Cov a b (y - 1 + 1) _
        rw [show y - 1 + 1 = y from by omega]
        exact ih y y2 (by omega)
theorem pieces_cov {a b : List Iv} (ha : Nrm a) (hb : Nrm b) : Cov a b 0 (pieces a b) := pcs_cov ha hb M64 0 M64_pos (by omega)

/-- An interval behind a list: joined to the last one if they touch. -/
def put (out : List Iv) (s : Iv) : List Iv :=
  match out.getLast? with
  | none => [s]
  | some t => if t.hi + 1 = s.lo then out.dropLast ++ [⟨t.lo, s.hi⟩] else out ++ [s]
/-- What a merge makes of pieces. -/
def merged (f : Bool → Bool → Bool) (out : List Iv) : List (Iv × Bool × Bool) → List Iv
  | [] => out
  | (s, p, q) :: r => merged f (if f p q then put out s else out) r
/-- The list of an operation. -/
def opS (f : Bool → Bool → Bool) (a b : List Iv) : List Iv := merged f [] (pieces a b)

theorem merged_append (f : Bool → Bool → Bool) (out : List Iv) (xs ys : List (Iv × Bool × Bool)) : merged f out (xs ++ ys) = merged f (merged f out xs) ys := by
  induction xs generalizing out with
  | nil => rfl
  | cons x xs ih => obtain ⟨s, p, q⟩ := x; simp only [List.cons_append, merged]; exact ih _

theorem NF.snoc {l : List Iv} {s : Iv} {n : Nat} (h : NF n l) (hl : ∀ t ∈ l, t.hi + 2 ≤ s.lo) (hn : n ≤ s.lo) (h1 : s.lo ≤ s.hi) (h2 : s.hi < M64) : NF n (l ++ [s]) := by
  induction l generalizing n with
  | nil => exact ⟨hn, h1, h2, trivial⟩
  | cons t l ih => exact ⟨h.1, h.2.1, h.2.2.1, ih h.2.2.2 (fun u hu => hl u (by simp [hu])) (hl t (by simp))⟩
theorem NF.last_lt {l : List Iv} {t : Iv} : ∀ {n : Nat}, NF n (l ++ [t]) → ∀ u ∈ l, u.hi + 2 ≤ t.lo := by
  induction l with
  | nil => intro n _ u hu; cases hu
  | cons s l ih =>
    intro n h u hu
    cases hu with
    | head => exact (h.2.2.2.lo_ge t (by simp)).1
    | tail _ hu => exact ih h.2.2.2 u hu
theorem NF.init {l : List Iv} {t : Iv} : ∀ {n : Nat}, NF n (l ++ [t]) → NF n l := by
  induction l with
  | nil => intro n _; trivial
  | cons s l ih => intro n h; exact ⟨h.1, h.2.1, h.2.2.1, ih h.2.2.2⟩

theorem put_nrm {out : List Iv} {s : Iv} (h : Nrm out) (hs : ∀ t ∈ out, t.hi < s.lo) (h1 : s.lo ≤ s.hi) (h2 : s.hi < M64) :
    Nrm (put out s) ∧ (∀ x, mem (put out s) x = (mem out x || (decide (s.lo ≤ x) && decide (x ≤ s.hi)))) ∧ ∀ t ∈ put out s, t.hi ≤ s.hi := by
  rcases List.eq_nil_or_concat out with rfl | ⟨l, t, rfl⟩
  · refine ⟨⟨Nat.zero_le _, h1, h2, trivial⟩, fun x => by simp [put, mem_cons], fun t ht => ?_⟩
    simp [put] at ht; subst ht; exact Nat.le_refl _
  · simp only [List.concat_eq_append] at *
    have ht := NF.lo_ge h t (by simp)
    have hts := hs t (by simp)
    unfold put
    simp only [List.getLast?_concat, List.dropLast_concat]
    by_cases e : t.hi + 1 = s.lo
    · rw [if_pos e]
      refine ⟨NF.snoc (NF.init h) (fun u hu => by have := NF.last_lt h u hu; show u.hi + 2 ≤ t.lo; omega) (Nat.zero_le _) (by show t.lo ≤ s.hi; omega) h2, fun x => ?_, fun u hu => ?_⟩
      · rw [mem_append, mem_append, mem_cons, mem_cons, Bool.or_assoc]
        congr 1
        simp only [mem_nil, Bool.or_false]
        rw [Bool.eq_iff_iff]
        simp
        omega
      · simp at hu
        rcases hu with hu | rfl
        · have := NF.last_lt h u hu; omega
        · exact Nat.le_refl _
    · rw [if_neg e]
      refine ⟨NF.snoc h (fun u hu => ?_) (Nat.zero_le _) h1 h2, fun x => by rw [mem_append, mem_cons]; simp, fun u hu => ?_⟩
      · simp at hu
        rcases hu with hu | rfl
        · have := NF.last_lt h u hu; omega
        · omega
      · simp at hu
        rcases hu with hu | rfl | rfl
        · have := NF.last_lt h u hu; omega
        · omega
        · exact Nat.le_refl _

theorem merged_spec {f : Bool → Bool → Bool} {a b : List Iv} : ∀ (xs : List (Iv × Bool × Bool)) (x : Nat) (out : List Iv), Cov a b x xs → Nrm out → (∀ t ∈ out, t.hi < x) →
    Nrm (merged f out xs) ∧ ∀ z, z < M64 → mem (merged f out xs) z = if z < x then mem out z else f (mem a z) (mem b z) := by
  intro xs
  induction xs with
  | nil =>
    intro x out hc h _
    refine ⟨h, fun z hz => ?_⟩
    have : x = M64 := hc
    rw [if_pos (by omega)]; rfl
  | cons y xs ih =>
    intro x out hc h hx
    obtain ⟨s, p, q⟩ := y
    obtain ⟨h1, h2, h3, h4, h5⟩ := hc
    have hx' : ∀ t ∈ out, t.hi < s.lo := by rw [h1]; exact hx
    have hmo : ∀ z, x ≤ z → mem out z = false := fun z hz => by
      cases e : mem out z with
      | false => rfl
      | true => obtain ⟨t, ht, _, ht2⟩ := mem_iff.1 e; have := hx t ht; omega
    simp only [merged]
    by_cases e : f p q = true
    · rw [if_pos e]
      obtain ⟨p1, p2, p3⟩ := put_nrm h hx' (by omega) h3
      obtain ⟨r1, r2⟩ := ih (s.hi + 1) _ h5 p1 (fun t ht => by have := p3 t ht; omega)
      refine ⟨r1, fun z hz => ?_⟩
      rw [r2 z hz, p2 z]
      by_cases z1 : z < x
      · rw [if_pos (by omega), if_pos z1]
        have : ¬ s.lo ≤ z := by omega
        simp [this]
      · rw [if_neg z1]
        by_cases z2 : z < s.hi + 1
        · rw [if_pos z2, (h4 z (by omega) (by omega)).1, (h4 z (by omega) (by omega)).2, e]
          have a1 : s.lo ≤ z := by omega
          have a2 : z ≤ s.hi := by omega
          simp [a1, a2]
        · rw [if_neg z2]
    · rw [if_neg e]
      obtain ⟨r1, r2⟩ := ih (s.hi + 1) _ h5 h (fun t ht => by have := hx t ht; omega)
      refine ⟨r1, fun z hz => ?_⟩
      rw [r2 z hz]
      by_cases z1 : z < x
      · rw [if_pos (by omega), if_pos z1]
      · rw [if_neg z1]
        by_cases z2 : z < s.hi + 1
        · rw [if_pos z2, (h4 z (by omega) (by omega)).1, (h4 z (by omega) (by omega)).2]
          rw [hmo z (by omega)]
          simpa using e
        · rw [if_neg z2]

/-- What an operation's list is: correct, and of just the numbers that the operation takes. -/
theorem opS_nrm {f : Bool → Bool → Bool} {a b : List Iv} (ha : Nrm a) (hb : Nrm b) : Nrm (opS f a b) := (merged_spec (f := f) _ 0 [] (pieces_cov ha hb) trivial (fun _ h => by cases h)).1
theorem opS_mem {f : Bool → Bool → Bool} {a b : List Iv} (ha : Nrm a) (hb : Nrm b) {x : Nat} (hx : x < M64) : mem (opS f a b) x = f (mem a x) (mem b x) := by
  have := (merged_spec (f := f) _ 0 [] (pieces_cov ha hb) trivial (fun _ h => by cases h)).2 x hx
  rwa [if_neg (by omega)] at this
theorem opS_eq {f : Bool → Bool → Bool} {a b c : List Iv} (ha : Nrm a) (hb : Nrm b) (hc : Nrm c) (h : ∀ x, x < M64 → mem c x = f (mem a x) (mem b x)) : opS f a b = c :=
  Nrm.unique (opS_nrm ha hb) hc fun x hx => by rw [opS_mem ha hb hx, h x hx]
end Go.Proofs.YtcedofkenfddkaaDoor
