/- Texts of this claim, bound together: Q5 Region At Au Aw Open. -/
import Derived.Stop.Asserts
import Derived.Laws.Cells
import Derived.Laws.IdiomCopy
import Derived.ChangeAt
import Derived.DataElems
import Derived.Deep.Slices
import Derived.WalkKit
import Derived.ProofKit
import Derived.Lib.SmallJoins
import Derived.Test.YtcedofkenfddkaaDoorB1
/- Sorted lists of numbers, and what an operation makes of the pieces between them. No condition. -/
namespace Go.Proofs.YtcedofkenfddkaaDoor
set_option linter.unusedVariables false
set_option linter.unusedSimpArgs false
/-- Strictly ascending. -/
def Asc (l : List Nat) : Prop := l.Pairwise (· < ·)
theorem asc_unique : ∀ {a b : List Nat}, Asc a → Asc b → (∀ x, x ∈ a ↔ x ∈ b) → a = b
  | [], [], _, _, _ => rfl
  | [], y :: b, _, _, h => absurd ((h y).2 (by simp)) (by simp)
  | x :: a, [], _, _, h => absurd ((h x).1 (by simp)) (by simp)
  | x :: a, y :: b, ha, hb, h => by
    have ha' := List.pairwise_cons.1 ha
    have hb' := List.pairwise_cons.1 hb
    have hxy : x = y := by
      have h1 := (h x).1 (by simp)
      have h2 := (h y).2 (by simp)
      simp at h1 h2
      rcases h1 with h1 | h1
      · exact h1
      · rcases h2 with h2 | h2
        · exact h2.symm
        · have := hb'.1 x h1; have := ha'.1 y h2; omega
    subst hxy
    congr 1
    refine asc_unique ha'.2 hb'.2 fun z => ?_
    have := h z
    simp at this
    constructor
    · intro hz
      rcases this.1 (.inr hz) with e | e
      · have := ha'.1 z hz; omega
      · exact e
    · intro hz
      rcases this.2 (.inr hz) with e | e
      · have := hb'.1 z hz; omega
      · exact e
theorem ex_srt : ∀ xs : List Nat, ∃ r, Asc r ∧ ∀ y, y ∈ r ↔ y ∈ xs
  | [] => ⟨[], List.Pairwise.nil, fun _ => Iff.rfl⟩
  | x :: xs => by
    obtain ⟨r, h1, h2⟩ := ex_srt xs
    refine ⟨r.filter (· < x) ++ x :: r.filter (x < ·), ?_, fun y => ?_⟩
    · refine List.pairwise_append.2 ⟨h1.filter _, List.pairwise_cons.2 ⟨fun y hy => by simpa using (List.mem_filter.1 hy).2, h1.filter _⟩, fun y hy z hz => ?_⟩
      have := (List.mem_filter.1 hy).2
      simp at this hz
      rcases hz with rfl | hz <;> omega
    · simp only [List.mem_append, List.mem_filter, List.mem_cons, h2, decide_eq_true_eq]
      by_cases e : y = x
      · simp [e]
      · rcases Nat.lt_or_ge y x with h | h
        · simp [h, e]; omega
        · have : x < y := by omega
          simp [this, e]; omega
/-- The ascending list of some numbers. -/
noncomputable def srt (xs : List Nat) : List Nat := Classical.choose (ex_srt xs)
theorem srt_asc (xs : List Nat) : Asc (srt xs) := (Classical.choose_spec (ex_srt xs)).1
theorem srt_mem {xs : List Nat} {y : Nat} : y ∈ srt xs ↔ y ∈ xs := (Classical.choose_spec (ex_srt xs)).2 y
theorem srt_eq {xs r : List Nat} (h : Asc r) (hm : ∀ y, y ∈ r ↔ y ∈ xs) : srt xs = r := asc_unique (srt_asc xs) h fun y => by rw [srt_mem, hm]
theorem srt_nil : srt [] = [] := srt_eq List.Pairwise.nil fun _ => Iff.rfl
theorem asc_lt {l : List Nat} (h : Asc l) {i j : Nat} (hj : j < l.length) (hi : i < j) : l[i] < l[j] := List.pairwise_iff_getElem.1 h i j (by omega) hj hi
/-- A number is put in where it belongs. -/
theorem srt_ins {xs : List Nat} {x at_ : Nat} (h0 : at_ ≤ (srt xs).length) (h1 : ∀ k (h : k < (srt xs).length), at_ ≤ k → x < (srt xs)[k]) (h2 : at_ = 0 ∨ ∃ h : at_ - 1 < (srt xs).length, (srt xs)[at_ - 1] < x) :
    srt (xs ++ [x]) = (srt xs).take at_ ++ x :: (srt xs).drop at_ := by
  have ha := srt_asc xs
  have hlo : ∀ y ∈ (srt xs).take at_, y < x := fun y hy => by
    obtain ⟨i, hi, rfl⟩ := List.getElem_of_mem hy
    simp at hi ⊢
    rcases h2 with h2 | ⟨h, h2⟩
    · omega
    · rcases Nat.lt_or_ge i (at_ - 1) with h' | h'
      · have := asc_lt ha h h'; omega
      · have : i = at_ - 1 := by omega
        subst this; exact h2
  have hhi : ∀ y ∈ (srt xs).drop at_, x < y := fun y hy => by
    obtain ⟨i, hi, rfl⟩ := List.getElem_of_mem hy
    simp at hi ⊢
    exact h1 _ (by omega) (by omega)
  refine srt_eq (List.pairwise_append.2 ⟨ha.sublist (List.take_sublist _ _), List.pairwise_cons.2 ⟨fun y hy => hhi y hy, ha.sublist (List.drop_sublist _ _)⟩, fun y hy z hz => ?_⟩) fun y => ?_
  · simp at hz
    rcases hz with rfl | hz
    · exact hlo y hy
    · exact Nat.lt_trans (hlo y hy) (hhi z hz)
  · have : y ∈ (srt xs).take at_ ++ (srt xs).drop at_ ↔ y ∈ xs := by rw [List.take_append_drop]; exact srt_mem
    simp only [List.mem_append, List.mem_cons, List.not_mem_nil, or_false] at this ⊢
    constructor
    · rintro (h | h | h)
      · exact .inl (this.1 (.inl h))
      · exact .inr h
      · exact .inl (this.1 (.inr h))
    · rintro (h | h)
      · rcases this.2 h with h | h
        · exact .inl h
        · exact .inr (.inr h)
      · exact .inr (.inl h)
theorem srt_has {xs : List Nat} {x : Nat} (h : x ∈ srt xs) : srt (xs ++ [x]) = srt xs := srt_eq (srt_asc xs) fun y => by
  rw [srt_mem] at *
  simp
  intro e; subst e; exact h
theorem srt_len (xs : List Nat) : (srt xs).length ≤ xs.length := by
  have key : ∀ (r xs : List Nat), Asc r → (∀ y ∈ r, y ∈ xs) → r.length ≤ xs.length := by
    intro r
    induction r with
    | nil => intro xs _ _; exact Nat.zero_le _
    | cons x r ih =>
      intro xs h hm
      have h' := List.pairwise_cons.1 h
      have := ih (xs.erase x) h'.2 fun y hy => by
        have h3 := h'.1 y hy
        exact (List.mem_erase_of_ne (by omega)).2 (hm y (by simp [hy]))
      have hx : x ∈ xs := hm x (by simp)
      rw [List.length_erase_of_mem hx] at this
      have := List.length_pos_of_mem hx
      simp; omega
  exact key _ _ (srt_asc xs) fun y hy => srt_mem.1 hy

/-! ### Where something may change -/
def cut1 (s : Iv) : List Nat := s.lo :: if s.hi < M64 - 1 then [s.hi + 1] else []
def cuts (l : List Iv) : List Nat := l.flatMap cut1
def allS (ls : List (List Iv)) : List Nat := 0 :: ls.flatMap cuts
noncomputable def starts (ls : List (List Iv)) : List Nat := srt (allS ls)
theorem cut1_len (s : Iv) : (cut1 s).length ≤ 2 := by unfold cut1; split <;> simp
theorem cuts_len (l : List Iv) : (cuts l).length ≤ 2 * l.length := by
  induction l with
  | nil => simp [cuts]
  | cons s l ih =>
    have := cut1_len s
    simp only [cuts, List.flatMap_cons, List.length_append, List.length_cons] at ih ⊢
    omega
theorem cuts_snoc {l : List Iv} {k : Nat} (h : k < l.length) : cuts (l.take (k + 1)) = cuts (l.take k) ++ cut1 l[k] := by
  unfold cuts; rw [List.take_succ_eq_append_getElem h, List.flatMap_append]; simp only [List.flatMap_cons, List.flatMap_nil, List.append_nil]
/-- Between two numbers nothing changes where no cut lies. -/
theorem mem_same {l : List Iv} (hr : ∀ s ∈ l, s.lo ≤ s.hi ∧ s.hi < M64) {x y : Nat} (hxy : x ≤ y) (hy : y < M64) (hc : ∀ c ∈ cuts l, c ≤ x ∨ y < c) : mem l y = mem l x := by
  induction l with
  | nil => rfl
  | cons s l ih =>
    have hs := hr s (by simp)
    rw [mem_cons, mem_cons, ih (fun t ht => hr t (by simp [ht])) fun c h => hc c (by simp [cuts] at h ⊢; exact .inr h)]
    congr 1
    have h1 := hc s.lo (by simp [cuts, cut1])
    have h2 : s.hi < M64 - 1 → s.hi + 1 ≤ x ∨ y < s.hi + 1 := fun h => hc (s.hi + 1) (by simp [cuts, cut1, h])
    rw [Bool.eq_iff_iff]
    simp only [Bool.and_eq_true, decide_eq_true_eq]
    by_cases h3 : s.hi < M64 - 1
    · have := h2 h3; omega
    · omega
def opb : Nat → Bool → Bool → Bool
  | 0, a, b => a || b
  | 1, a, b => a && b
  | _, a, b => a && !b
/-- The end of a piece. -/
def bdS (st : List Nat) (i : Nat) : Nat := if h : i < st.length then st[i] else M64
/-- What has been made of the first pieces. -/
structure DoInv (f : Bool → Bool → Bool) (a b : List Iv) (st : List Nat) (i : Nat) (out : List Iv) : Prop where
  nrm : Nrm out
  lt : ∀ t ∈ out, t.hi < bdS st i
  mm : ∀ x, x < bdS st i → mem out x = f (mem a x) (mem b x)
  len : out.length ≤ i
theorem put_len (out : List Iv) (s : Iv) : (put out s).length ≤ out.length + 1 := by
  unfold put
  split
  · simp
  · split <;> simp <;> omega
theorem DoInv.step {f : Bool → Bool → Bool} {a b : List Iv} {st : List Nat} {i : Nat} {out : List Iv} (h : DoInv f a b st i out) (ha : Nrm a) (hb : Nrm b) (hs : Asc st) (hlt : ∀ x ∈ st, x < M64) (hc : ∀ c, c ∈ cuts a ∨ c ∈ cuts b → c ∈ st) (hi : i < st.length) :
    (f (mem a st[i]) (mem b st[i]) = true → DoInv f a b st (i + 1) (put out ⟨st[i], if h : i + 1 < st.length then st[i + 1] - 1 else M64 - 1⟩)) ∧ (f (mem a st[i]) (mem b st[i]) = false → DoInv f a b st (i + 1) out) := by
  have e0 : bdS st i = st[i] := dif_pos hi
  have hM := M64_val
  have hlo : st[i] < M64 := hlt _ (List.getElem_mem _)
  have e1 : (if h : i + 1 < st.length then st[i + 1] - 1 else M64 - 1) + 1 = bdS st (i + 1) ∧ st[i] < bdS st (i + 1) ∧ bdS st (i + 1) ≤ M64 := by
    unfold bdS
    split
    · rename_i h; have := asc_lt hs h (Nat.lt_succ_self i); have := hlt _ (List.getElem_mem h); omega
    · omega
  obtain ⟨e1, e2, e3⟩ := e1
  have hcut : ∀ x, st[i] ≤ x → x < bdS st (i + 1) → ∀ c ∈ st, c ≤ st[i] ∨ x < c := fun x h1 h2 c hc => by
    obtain ⟨j, hj, rfl⟩ := List.getElem_of_mem hc
    rcases Nat.lt_trichotomy j i with h | h | h
    · have := asc_lt hs hi h; omega
    · subst h; omega
    · right
      unfold bdS at h2
      split at h2
      · rcases Nat.eq_or_lt_of_le (show i + 1 ≤ j from h) with h' | h'
        · subst h'; exact h2
        · have := asc_lt hs hj h'; omega
      · omega
  have ra : ∀ s ∈ a, s.lo ≤ s.hi ∧ s.hi < M64 := fun s hs => by have := NF.lo_ge ha s hs; omega
  have rb : ∀ s ∈ b, s.lo ≤ s.hi ∧ s.hi < M64 := fun s hs => by have := NF.lo_ge hb s hs; omega
  have same : ∀ x, st[i] ≤ x → x < bdS st (i + 1) → mem a x = mem a st[i] ∧ mem b x = mem b st[i] := fun x h1 h2 =>
    ⟨mem_same ra h1 (by omega) fun c h => hcut x h1 h2 c (hc c (.inl h)), mem_same rb h1 (by omega) fun c h => hcut x h1 h2 c (hc c (.inr h))⟩
  constructor
  · intro hf
    obtain ⟨p1, p2, p3⟩ := put_nrm (s := ⟨st[i], if h : i + 1 < st.length then st[i + 1] - 1 else M64 - 1⟩) h.nrm (fun t ht => by have := h.lt t ht; rw [e0] at this; exact this) (by show st[i] ≤ (if h : i + 1 < st.length then st[i + 1] - 1 else M64 - 1); omega) (by show (if h : i + 1 < st.length then st[i + 1] - 1 else M64 - 1) < M64; omega)
    refine ⟨p1, fun t ht => by have := p3 t ht; show t.hi < _; simp only at this; omega, fun x hx => ?_, Nat.le_trans (put_len _ _) (by have := h.len; omega)⟩
    rw [p2 x]
    simp only
    rcases Nat.lt_or_ge x st[i] with h' | h'
    · rw [h.mm x (by omega)]
      have : ¬ st[i] ≤ x := by omega
      simp [this]
    · rw [(same x h' hx).1, (same x h' hx).2, hf]
      have : x ≤ (if h : i + 1 < st.length then st[i + 1] - 1 else M64 - 1) := by omega
      simp [h', this]
  · intro hf
    refine ⟨h.nrm, fun t ht => by have := h.lt t ht; omega, fun x hx => ?_, by have := h.len; omega⟩
    rcases Nat.lt_or_ge x st[i] with h' | h'
    · exact h.mm x (by omega)
    · rw [(same x h' hx).1, (same x h' hx).2, hf]
      cases e : mem out x with
      | false => rfl
      | true => obtain ⟨t, ht, _, ht2⟩ := mem_iff.1 e; have := h.lt t ht; omega
theorem DoInv.done {f : Bool → Bool → Bool} {a b : List Iv} {st : List Nat} {out : List Iv} (h : DoInv f a b st st.length out) (ha : Nrm a) (hb : Nrm b) : out = opS f a b :=
  (opS_eq ha hb h.nrm fun x hx => h.mm x (by unfold bdS; rw [dif_neg (by omega)]; exact hx)).symm
theorem starts_asc (ls : List (List Iv)) : Asc (starts ls) := srt_asc _
theorem starts_zero (ls : List (List Iv)) : ∃ h : 0 < (starts ls).length, (starts ls)[0] = 0 := by
  have h0 : 0 ∈ starts ls := srt_mem.2 (by simp [allS])
  obtain ⟨i, hi, e⟩ := List.getElem_of_mem h0
  refine ⟨by omega, ?_⟩
  rcases Nat.eq_zero_or_pos i with h | h
  · subst h; exact e
  · have := asc_lt (starts_asc ls) hi h; omega
theorem starts_lt {ls : List (List Iv)} (h : ∀ l ∈ ls, ∀ s ∈ l, s.lo < M64) : ∀ x ∈ starts ls, x < M64 := fun x hx => by
  have := srt_mem.1 hx
  simp only [allS, List.mem_cons, List.mem_flatMap, cuts, cut1] at this
  rcases this with rfl | ⟨l, hl, s, hs, h'⟩
  · exact M64_pos
  · rcases h' with rfl | h'
    · exact h l hl s hs
    · split at h'
      · simp at h'; omega
      · cases h'
theorem DoInv.zero {f : Bool → Bool → Bool} {a b : List Iv} (ls : List (List Iv)) : DoInv f a b (starts ls) 0 [] := by
  obtain ⟨h, e⟩ := starts_zero ls
  have : bdS (starts ls) 0 = 0 := by unfold bdS; rw [dif_pos h, e]
  exact ⟨trivial, (fun _ h => by cases h), fun x hx => (by omega), Nat.le_refl _⟩
/-- The numbers that have been met. -/
def preS (ls : List (List Iv)) (i j : Nat) : List Nat := 0 :: ((ls.take i).flatMap cuts ++ cuts ((ls[i]?.getD []).take j))
theorem preS_00 (ls : List (List Iv)) : preS ls 0 0 = [0] := by simp [preS, cuts]
theorem cuts_append (a b : List Iv) : cuts (a ++ b) = cuts a ++ cuts b := by simp [cuts]
theorem preS_next {ls : List (List Iv)} {i j : Nat} (h : i < ls.length) (hj : ls[i].length ≤ j) : preS ls i j = preS ls (i + 1) 0 := by
  unfold preS
  rw [List.getElem?_eq_getElem h, Option.getD_some, List.take_of_length_le hj, List.take_succ_eq_append_getElem h, List.flatMap_append]
  simp [cuts]
theorem preS_step {ls : List (List Iv)} {i j : Nat} (h : i < ls.length) (hj : j < ls[i].length) : preS ls i (j + 1) = preS ls i j ++ cut1 ls[i][j] := by
  unfold preS
  rw [List.getElem?_eq_getElem h, Option.getD_some, cuts_snoc hj]
  simp
theorem preS_end {ls : List (List Iv)} {i : Nat} (h : ls.length ≤ i) : preS ls i 0 = allS ls := by
  unfold preS allS
  rw [List.take_of_length_le h]; simp [cuts]
theorem preS_len {ls : List (List Iv)} {i : Nat} (j : Nat) (h : i < ls.length) : (preS ls i j).length ≤ (allS ls).length := by
  have e : ls.flatMap cuts = (ls.take i).flatMap cuts ++ (cuts (ls[i].take j) ++ cuts (ls[i].drop j) ++ (ls.drop (i + 1)).flatMap cuts) := by
    rw [← cuts_append, List.take_append_drop]
    conv => lhs; rw [← List.take_append_drop i ls, List.drop_eq_getElem_cons h, List.flatMap_append, List.flatMap_cons]
  unfold preS allS
  rw [e, List.getElem?_eq_getElem h, Option.getD_some]
  simp
end Go.Proofs.YtcedofkenfddkaaDoor
/- A law for a statement whose order of evaluation is left open: each operation of its head is met once, by what the operations that it waits for have left, in whatever order they come; its tail is walked in the order of the text. No condition. -/
namespace Go.Proofs.YtcedofkenfddkaaDoor
set_option linter.unusedVariables false
set_option linter.unusedSimpArgs false
open Go.RowKit

abbrev VP := Value → World → Prop
abbrev NoB : Nat → Prop := fun _ => False
/-- The slot of operation j. -/
def dstO (ops : Array Oper) (j : Nat) : Option Tmp := (ops[j]?).bind (·.dst)
/-- Operation i waits for operation j by an edge of its own. -/
def edge (ops : Array Oper) (i j : Nat) : Bool := match ops[i]? with | some o => o.after.any fun e => Region.binds .any e && e.on == j | none => false
/-- The slots that an operation reads. -/
def rdsO (o : Oper) : List Tmp := o.op.operands.toList.filterMap fun | .tmp t => some t | _ => none
/-- What is known of a slot. -/
def lk : List (Option Tmp × VP) → Tmp → Option VP
  | [], _ => none
  | (d, V) :: r, t => if d = some t then some V else lk r t
/-- A slot's value, in the three spellings of the walk. -/
def RdEq (a : Act) (t : Tmp) (u : Value) : Prop := a.eval (.tmp t) = u ∧ a.tmps.getD t undef = u ∧ a.tmps[t]?.getD undef = u
/-- What is known of the slots that are read. -/
def Rds (env : List (Option Tmp × VP)) (a0 : Act) : List Tmp → Act → World → Prop
  | [], _, _ => True
  | t :: ts, a, w => (match lk env t with | some V => ∃ u, RdEq a t u ∧ V u w | none => RdEq a t (a0.tmps.getD t undef)) ∧ Rds env a0 ts a w
theorem RdEq.of {a : Act} {t : Tmp} {u : Value} (h : a.tmps.getD t undef = u) : RdEq a t u := ⟨h, h, by rw [← h]; simp⟩

/-- The values of operation o, as it is met in whatever order. -/
def headOk (opw : Oper → Act → World → (Act → World → Prop) → Prop) (a0 : Act) (w0 : World) (C : World → Prop) (env : List (Option Tmp × VP)) (o : Oper) (V : VP) : Prop :=
  ∀ a w, C w → Keep NoB w0 w → Rds env a0 (rdsO o) a w → ∀ K : Act → World → Prop, (∀ u w', Keep NoB w w' → C w' → V u w' → K (a.put o.dst u) w') → opw o a w K
/-- The value of operation j is x. -/
def isV (env : List (Option Tmp × VP)) (j : Nat) (x : Value) : Prop := match env[j]? with | some (_, V) => ∀ u w, V u w → u = x | none => False
def stepOk (opw : Oper → Act → World → (Act → World → Prop) → Prop) (a0 : Act) (w0 : World) (C : World → Prop) (env : List (Option Tmp × VP)) (o : Oper) (V : VP) : Prop :=
  match o.guard with
  | none => headOk opw a0 w0 C env o V
  | some (j, b) => (isV env j (.bool b) ∧ headOk opw a0 w0 C env o V) ∨ ((isV env j (.bool !b) ∨ isV env j undef) ∧ V = fun u _ => u = undef)
/-- The end of the head: whatever values the slots hold. -/
def finG (F : Act → World → Prop) (w : World) : List (Option Tmp × VP) → Act → Prop
  | [], a => F a w
  | (none, _) :: r, a => finG F w r a
  | (some d, V) :: r, a => ∀ u, V u w → finG F w r (a.put (some d) u)
/-- The walk of the head, in the order of the text. -/
def walkG (opw : Oper → Act → World → (Act → World → Prop) → Prop) (a0 : Act) (w0 : World) (C : World → Prop) (F : Act → World → Prop) : List Oper → List (Option Tmp × VP) → Prop
  | [], env => ∀ w, C w → Keep NoB w0 w → finG F w env a0
  | o :: l, env => ∃ V : VP, (∀ u w w', V u w → Keep NoB w w' → V u w') ∧ stepOk opw a0 w0 C env o V ∧ walkG opw a0 w0 C F l (env ++ [(o.dst, V)])

/-- The first operation of the head that writes a slot. -/
def writer (ops : Array Oper) (nh : Nat) (t : Tmp) : Option Nat := (List.range nh).find? fun j => dstO ops j == some t
def chkRead (ops : Array Oper) (nh i : Nat) (t : Tmp) : Bool :=
  match writer ops nh t with
  | some j => if j < i then edge ops i j else if i < j then edge ops j i else true
  | none => true
def chkG (ops : Array Oper) (nh nt : Nat) : Bool :=
  decide (nh ≤ ops.size) &&
  (List.range nh).all fun i =>
    match ops[i]? with
    | none => false
    | some o => ((rdsO o).all (chkRead ops nh i)) &&
      (match o.guard with | none => true | some (j, _) => decide (j < i) && edge ops i j && (dstO ops j).isSome) &&
      (match o.dst with | none => true | some d => decide (d < nt) && (List.range nh).all fun j => decide (j = i) || !(dstO ops j == some d)) &&
      (decide (nh = ops.size) || (List.range (nh + 1)).any fun j => decide (i < j) && edge ops j i)
def chkT (ops : Array Oper) (nh : Nat) : Bool := (List.range ops.size).all fun t => (decide (t ≤ nh) || edge ops t (t - 1)) && match ops[t]? with | some o => o.after.all fun e => !Region.binds .any e || decide (e.on < t) | none => false

structure GI (ops : Array Oper) (nh : Nat) (a0 : Act) (w0 : World) (C : World → Prop) (env : List (Option Tmp × VP)) (listed : Array Bool) (a : Act) (w : World) : Prop where
  size : listed.size = ops.size
  closed : ∀ i j, listed.getD i false = true → edge ops i j = true → listed.getD j false = true
  heads : ∀ i, listed.getD i false = true → i < nh
  c : C w
  keep : Keep NoB w0 w
  vals : ∀ j d V, listed.getD j false = true → env[j]? = some (some d, V) → V (a.tmps.getD d undef) w
  rest : ∀ t, (∀ j, listed.getD j false = true → dstO ops j ≠ some t) → a.tmps.getD t undef = a0.tmps.getD t undef
  tsize : a.tmps.size = a0.tmps.size
  defers : a.defers = a0.defers

section
variable {ops : Array Oper} {nh : Nat} {a0 : Act} {w0 : World} {C : World → Prop}

theorem edge_iff {i j : Nat} {o : Oper} (ho : ops[i]? = some o) : edge ops i j = true ↔ ∃ e ∈ o.after, Region.binds .any e = true ∧ e.on = j := by
  unfold edge
  simp only [ho]
  rw [Array.any_eq_true']
  constructor
  · rintro ⟨e, he, hb⟩
    simp only [Bool.and_eq_true, beq_iff_eq] at hb
    exact ⟨e, he, hb.1, hb.2⟩
  · rintro ⟨e, he, hb, rfl⟩
    exact ⟨e, he, by simp [hb]⟩
theorem getD_ff {listed : Array Bool} {i : Nat} (h : listed.getD i true = false) : listed.getD i false = false ∧ i < listed.size := by
  rcases Nat.lt_or_ge i listed.size with h' | h'
  · simp [h'] at h ⊢; exact h
  · simp [Array.getElem?_eq_none h'] at h
theorem getD_ft {listed : Array Bool} {i : Nat} (h : listed.getD i false = false) (hi : i < listed.size) : listed.getD i true = false := by
  simp [hi] at h ⊢; exact h
theorem getD_set_same {listed : Array Bool} {i : Nat} (hi : i < listed.size) : (listed.setIfInBounds i true).getD i false = true := by simp [hi]
theorem getD_set_other {listed : Array Bool} {i j : Nat} (h : j ≠ i) : (listed.setIfInBounds i true).getD j false = listed.getD j false := by
  simp [Array.getElem?_setIfInBounds_ne (Ne.symm h)]
theorem put_getD_same {a : Act} {d : Tmp} {u : Value} (h : d < a.tmps.size) : (a.put (some d) u).tmps.getD d undef = u := by simp [Act.put, h]
theorem put_getD_other {a : Act} {d t : Tmp} {u : Value} (h : t ≠ d) : (a.put (some d) u).tmps.getD t undef = a.tmps.getD t undef := by
  simp [Act.put, Array.getElem?_setIfInBounds_ne (Ne.symm h)]

theorem chk_at {nt i : Nat} (h : chkG ops nh nt = true) (hi : i < nh) : ∃ o, ops[i]? = some o ∧ (∀ t ∈ rdsO o, chkRead ops nh i t = true) ∧
    (∀ j b, o.guard = some (j, b) → j < i ∧ edge ops i j = true ∧ (dstO ops j).isSome) ∧ (∀ d, o.dst = some d → d < nt ∧ ∀ j, j < nh → dstO ops j = some d → j = i) ∧
    (nh = ops.size ∨ ∃ j, j ≤ nh ∧ i < j ∧ edge ops j i = true) := by
  unfold chkG at h
  simp only [Bool.and_eq_true, List.all_eq_true, List.mem_range] at h
  have h := h.2 i hi
  cases ho : ops[i]? with
  | none => simp [ho] at h
  | some o =>
    simp only [ho, Bool.and_eq_true, List.all_eq_true, Bool.or_eq_true, decide_eq_true_eq, List.any_eq_true, List.mem_range] at h
    obtain ⟨⟨⟨h1, h2⟩, h3⟩, h4⟩ := h
    refine ⟨o, rfl, h1, ?_, ?_, ?_⟩
    · intro j b hg
      simp only [hg, Bool.and_eq_true, decide_eq_true_eq] at h2
      exact ⟨h2.1.1, h2.1.2, h2.2⟩
    · intro d hd
      simp only [hd, Bool.and_eq_true, decide_eq_true_eq, List.all_eq_true, List.mem_range, Bool.or_eq_true, Bool.not_eq_true', beq_eq_false_iff_ne] at h3
      exact ⟨h3.1, fun j hj e => (h3.2 j hj).resolve_right fun hne => hne e⟩
    · rcases h4 with h4 | ⟨j, hj, h5, h6⟩
      · exact .inl h4
      · exact .inr ⟨j, by omega, h5, h6⟩

theorem lk_some {env : List (Option Tmp × VP)} {t : Tmp} {V : VP} (h : lk env t = some V) : ∃ j : Nat, env[j]? = some (some t, V) := by
  induction env with
  | nil => cases h
  | cons x r ih =>
    obtain ⟨d, V'⟩ := x
    unfold lk at h
    split at h
    · rename_i e; cases h; exact ⟨0, by simp [e]⟩
    · obtain ⟨j, hj⟩ := ih h; exact ⟨j + 1, by simpa using hj⟩
theorem lk_none {env : List (Option Tmp × VP)} {t : Tmp} (h : lk env t = none) : ∀ (j : Nat) V, env[j]? ≠ some (some t, V) := by
  induction env with
  | nil => intro j V; simp
  | cons x r ih =>
    obtain ⟨d, V'⟩ := x
    unfold lk at h
    split at h
    · cases h
    · rename_i e
      intro j V
      cases j with
      | zero => simp; intro h1; exact absurd h1 e
      | succ j => simpa using ih h j V
theorem writer_some {t : Tmp} {j : Nat} (h : writer ops nh t = some j) : j < nh ∧ dstO ops j = some t := by
  have h1 := List.find?_some h
  have h2 := List.mem_of_find?_eq_some h
  simp at h1 h2
  exact ⟨h2, h1⟩
theorem writer_of {t : Tmp} {j : Nat} (hj : j < nh) (h : dstO ops j = some t) : ∃ j', writer ops nh t = some j' := by
  cases hw : writer ops nh t with
  | some j' => exact ⟨j', rfl⟩
  | none =>
    have := List.find?_eq_none.1 hw j (by simpa using hj)
    simp [h] at this

/-- What an operation reads, out of the state in which it comes up. -/
theorem GI.rds {nt i : Nat} {o : Oper} {env env' : List (Option Tmp × VP)} {listed : Array Bool} {a : Act} {w : World} (hg : GI ops nh a0 w0 C env' listed a w) (hchk : chkG ops nh nt = true)
    (hi : i < nh) (ho : ops[i]? = some o) (hun : listed.getD i false = false) (hready : ∀ j, edge ops i j = true → listed.getD j false = true)
    (hlen : env.length = i) (hpre : ∀ j : Nat, j < i → env'[j]? = env[j]?) (hdst : ∀ (j : Nat) x, env[j]? = some x → dstO ops j = x.1) :
    ∀ ts : List Tmp, (∀ t ∈ ts, chkRead ops nh i t = true) → Rds env a0 ts a w := by
  intro ts
  induction ts with
  | nil => intro _; trivial
  | cons t ts ih =>
    intro hts
    refine ⟨?_, ih fun t' h' => hts t' (by simp [h'])⟩
    have hct := hts t (by simp)
    unfold chkRead at hct
    cases hl : lk env t with
    | some V =>
      obtain ⟨j, hj⟩ := lk_some hl
      have hji : j < i := by rw [← hlen]; exact (List.getElem?_eq_some_iff.1 hj).1
      have hdj := hdst j _ hj
      obtain ⟨j', hw⟩ := writer_of (nh := nh) (show j < nh by omega) hdj
      obtain ⟨w1, w2⟩ := writer_some hw
      obtain ⟨oj, hoj, _, _, hd, _⟩ := chk_at hchk (show j < nh by omega)
      have : j' = j := (hd t (by unfold dstO at hdj; rw [hoj] at hdj; exact hdj)).2 j' w1 w2
      subst this
      simp only [hw, if_pos hji] at hct
      have := hg.vals j' t V (hready j' hct) (by rw [hpre j' hji]; exact hj)
      exact ⟨_, RdEq.of rfl, this⟩
    | none =>
      refine RdEq.of (hg.rest t fun j hlj hdj => ?_)
      have hjn := hg.heads j hlj
      obtain ⟨j', hw⟩ := writer_of hjn hdj
      obtain ⟨w1, w2⟩ := writer_some hw
      obtain ⟨oj, hoj, _, _, hd, _⟩ := chk_at hchk hjn
      have : j' = j := (hd t (by unfold dstO at hdj; rw [hoj] at hdj; exact hdj)).2 j' w1 w2
      subst this
      simp only [hw] at hct
      by_cases h1 : j' < i
      · have hjl : j' < env.length := by omega
        have := hdst j' _ (List.getElem?_eq_getElem hjl)
        rw [hdj] at this
        exact lk_none hl j' env[j'].2 (by rw [List.getElem?_eq_getElem hjl]; congr 1; exact Prod.ext this.symm rfl)
      · rw [if_neg h1] at hct
        by_cases h2 : i < j'
        · rw [if_pos h2] at hct
          have := hg.closed j' i hlj hct
          rw [hun] at this; cases this
        · have : j' = i := by omega
          subst this
          rw [hun] at hlj; cases hlj

theorem GI.step {nt i : Nat} {o : Oper} {V : VP} {env : List (Option Tmp × VP)} {listed : Array Bool} {a : Act} {w w' : World} {u : Value} (hg : GI ops nh a0 w0 C env listed a w) (hchk : chkG ops nh nt = true)
    (hnt : a0.tmps.size = nt) (hi : i < nh) (ho : ops[i]? = some o) (hun : listed.getD i true = false) (hready : ∀ j, edge ops i j = true → listed.getD j false = true)
    (hst : ∀ (j : Nat) d V, env[j]? = some (d, V) → ∀ u w w', V u w → Keep NoB w w' → V u w') (hdst : ∀ (j : Nat) x, env[j]? = some x → dstO ops j = x.1)
    (hV : env[i]? = some (o.dst, V)) (hk : Keep NoB w w') (hc : C w') (hu : V u w') : GI ops nh a0 w0 C env (listed.setIfInBounds i true) (a.put o.dst u) w' := by
  obtain ⟨hf, hlt⟩ := getD_ff hun
  have hl : ∀ j, (listed.setIfInBounds i true).getD j false = true → j = i ∨ listed.getD j false = true := fun j hj => by
    by_cases e : j = i
    · exact .inl e
    · exact .inr (by rwa [getD_set_other e] at hj)
  have hl' : ∀ j, listed.getD j false = true → (listed.setIfInBounds i true).getD j false = true := fun j hj => by
    by_cases e : j = i
    · subst e; exact getD_set_same hlt
    · rwa [getD_set_other e]
  obtain ⟨o', ho', _, _, hd, _⟩ := chk_at hchk hi
  obtain rfl : o' = o := Option.some.inj (ho'.symm.trans ho)
  refine ⟨by simp [hg.size], ?_, ?_, hc, hg.keep.trans hk, ?_, ?_, ?_, ?_⟩
  · intro j k hj he
    rcases hl j hj with rfl | hj
    · exact hl' _ (hready k he)
    · exact hl' _ (hg.closed j k hj he)
  · intro j hj
    rcases hl j hj with rfl | hj
    · exact hi
    · exact hg.heads j hj
  · intro j d V' hj hV'
    have hdj := hdst j _ hV'
    rcases hl j hj with rfl | hj2
    · have hVV := hV.symm.trans hV'
      simp only [Option.some.injEq, Prod.mk.injEq] at hVV
      obtain ⟨hd0, rfl⟩ := hVV
      rw [hd0, put_getD_same (by rw [hg.tsize, hnt]; exact (hd d hd0).1)]
      exact hu
    · have := hst j _ _ hV' _ _ _ (hg.vals j d V' hj2 hV') hk
      cases hod : o'.dst with
      | none => exact this
      | some d' =>
        rw [put_getD_other]
        · exact this
        · intro e
          subst e
          have hjn := hg.heads j hj2
          have := (hd d hod).2 j hjn hdj
          subst this
          rw [hf] at hj2; cases hj2
  · intro t ht
    cases hod : o'.dst with
    | none => exact hg.rest t fun j hj => ht j (hl' j hj)
    | some d' =>
      rw [put_getD_other]
      · exact hg.rest t fun j hj => ht j (hl' j hj)
      · intro e
        subst e
        exact ht i (getD_set_same hlt) (by unfold dstO; rw [ho]; exact hod)
  · rw [← hg.tsize]; cases o'.dst <;> simp [Act.put]
  · rw [← hg.defers]; cases o'.dst <;> simp [Act.put]

def fillA (a : Act) (b : Act) (x : Option Tmp × VP) : Act := match x.1 with | none => b | some d => b.put (some d) (a.tmps.getD d undef)
theorem finG_fill {F : Act → World → Prop} {w : World} {a : Act} : ∀ (env : List (Option Tmp × VP)) (b : Act), finG F w env b → (∀ d V, (some d, V) ∈ env → V (a.tmps.getD d undef) w) → F (env.foldl (fillA a) b) w
  | [], _, h, _ => h
  | (none, _) :: r, b, h, hv => finG_fill r b h fun d V hm => hv d V (by simp [hm])
  | (some d, V) :: r, b, h, hv => finG_fill r _ (h _ (hv d V (by simp))) fun d V hm => hv d V (by simp [hm])
theorem fill_getD {a : Act} (t : Tmp) : ∀ (env : List (Option Tmp × VP)) (b : Act), t < b.tmps.size → ((∃ V, (some t, V) ∈ env) ∨ b.tmps.getD t undef = a.tmps.getD t undef) →
    (env.foldl (fillA a) b).tmps.getD t undef = a.tmps.getD t undef
  | [], b, _, h => h.resolve_left (by rintro ⟨V, hV⟩; cases hV)
  | (none, V) :: r, b, hs, h => fill_getD t r b hs (by
      rcases h with ⟨V', hV⟩ | h
      · simp at hV; exact .inl ⟨V', hV⟩
      · exact .inr h)
  | (some d, V) :: r, b, hs, h => fill_getD t r (b.put (some d) (a.tmps.getD d undef)) (by simpa [Act.put] using hs) (by
      by_cases e : t = d
      · subst e; exact .inr (put_getD_same hs)
      · rcases h with ⟨V', hV⟩ | h
        · simp [e] at hV; exact .inl ⟨V', hV⟩
        · exact .inr ((put_getD_other e).trans h))
theorem fill_size {a : Act} : ∀ (env : List (Option Tmp × VP)) (b : Act), (env.foldl (fillA a) b).tmps.size = b.tmps.size ∧ (env.foldl (fillA a) b).defers = b.defers
  | [], _ => ⟨rfl, rfl⟩
  | (none, _) :: r, b => fill_size r b
  | (some d, V) :: r, b => by
    have := fill_size (a := a) r (b.put (some d) (a.tmps.getD d undef))
    exact ⟨this.1.trans (by simp [Act.put]), this.2.trans (by simp [Act.put])⟩
theorem Act.ext' {a b : Act} (hs : a.tmps.size = b.tmps.size) (hd : a.defers = b.defers) (h : ∀ t, t < b.tmps.size → a.tmps.getD t undef = b.tmps.getD t undef) : a = b := by
  obtain ⟨ta, da⟩ := a
  obtain ⟨tb, db⟩ := b
  simp only at hs hd h
  subst hd
  have : ta = tb := Array.ext hs fun i h1 h2 => by
    have := h i h2
    simpa [h1, h2] using this
  rw [this]
/-- At the head's end. -/
theorem GI.fin {F : Act → World → Prop} {env : List (Option Tmp × VP)} {listed : Array Bool} {a : Act} {w : World} (hg : GI ops nh a0 w0 C env listed a w) (hlen : env.length = nh)
    (hdst : ∀ (j : Nat) x, env[j]? = some x → dstO ops j = x.1) (hall : ∀ i, i < nh → listed.getD i false = true)
    (hf : finG F w env a0) : F a w := by
  have h1 := finG_fill (a := a) env a0 hf fun d V hm => by
    obtain ⟨j, hj⟩ := List.getElem?_of_mem hm
    exact hg.vals j d V (hall j (by rw [← hlen]; exact (List.getElem?_eq_some_iff.1 hj).1)) hj
  have h2 : env.foldl (fillA a) a0 = a := by
    obtain ⟨s1, s2⟩ := fill_size (a := a) env a0
    refine Act.ext' (s1.trans hg.tsize.symm) (s2.trans hg.defers.symm) fun t ht => fill_getD t env a0 (by rw [← hg.tsize]; exact ht) ?_
    by_cases hw : ∃ j, listed.getD j false = true ∧ dstO ops j = some t
    · obtain ⟨j, hj, hd⟩ := hw
      have hjn := hg.heads j hj
      have hjl : j < env.length := by omega
      have := hdst j _ (List.getElem?_eq_getElem hjl)
      rw [hd] at this
      exact .inl ⟨env[j].2, by rw [show (some t, env[j].2) = env[j] from Prod.ext this rfl]; exact List.getElem_mem hjl⟩
    · exact .inr (hg.rest t fun j hj hd => hw ⟨j, hj, hd⟩).symm
  rwa [h2] at h1

theorem isV_of {env env' : List (Option Tmp × VP)} {i j : Nat} {x : Value} (h : isV env j x) (hpre : ∀ j : Nat, j < i → env'[j]? = env[j]?) (hj : j < i) : isV env' j x := by
  unfold isV at *
  rw [hpre j hj]; exact h
theorem yielded_at {j : Nat} {d : Tmp} {tmps : Array Value} (hd : dstO ops j = some d) (hs : d < tmps.size) : yielded ops tmps j = match tmps.getD d undef with | .bool b => some b | _ => none := by
  unfold yielded
  unfold dstO at hd
  rw [hd]
  simp only [Option.bind_some, Array.getElem?_eq_getElem hs, Array.getD_eq_getD_getElem?, Option.getD_some]
  split <;> simp_all
theorem chkT_at {t : Nat} (h : chkT ops nh = true) (ht : t < ops.size) : (t ≤ nh ∨ edge ops t (t - 1) = true) ∧ ∀ j, edge ops t j = true → j < t := by
  unfold chkT at h
  rw [List.all_eq_true] at h
  have h := h t (by simpa using ht)
  simp only [Bool.and_eq_true, Bool.or_eq_true, decide_eq_true_eq] at h
  refine ⟨h.1, fun j hj => ?_⟩
  have h2 := h.2
  cases ho : ops[t]? with
  | none => simp [ho] at h2
  | some o =>
    simp only [ho, Array.all_eq_true'] at h2
    obtain ⟨e, he, hb, rfl⟩ := (edge_iff ho).1 hj
    have := h2 e he
    simpa [hb] using this
theorem ready_edges {i : Nat} {listed : Array Bool} (h : i ∈ Region.ready .any ops listed) : listed.getD i true = false ∧ i < ops.size ∧ (∃ o, ops[i]? = some o) ∧ ∀ j, edge ops i j = true → listed.getD j false = true := by
  obtain ⟨h1, o, ho, h2⟩ := mem_ready.1 h
  refine ⟨h1, (Array.getElem?_eq_some_iff.1 ho).1, ⟨o, ho⟩, fun j hj => ?_⟩
  obtain ⟨e, he, hb, rfl⟩ := (edge_iff ho).1 hj
  exact h2 e he hb
theorem ready_of {i : Nat} {listed : Array Bool} {o : Oper} (ho : ops[i]? = some o) (h1 : listed.getD i true = false) (h2 : ∀ j, edge ops i j = true → listed.getD j false = true) : i ∈ Region.ready .any ops listed :=
  mem_ready.2 ⟨h1, o, ho, fun e he hb => h2 _ ((edge_iff ho).2 ⟨e, he, hb, rfl⟩)⟩
/-- If something is left, something may come up. -/
theorem ready_some {listed : Array Bool} (hct : chkT ops nh = true) (hs : listed.size = ops.size) : ∀ (i : Nat), i < ops.size → listed.getD i false = false → ∃ k, k ∈ Region.ready .any ops listed := by
  intro i
  induction i using Nat.strongRecOn with
  | _ i ih =>
    intro hi hun
    by_cases hall : ∀ j, edge ops i j = true → listed.getD j false = true
    · exact ⟨i, ready_of (Array.getElem?_eq_getElem hi) (getD_ft hun (by omega)) hall⟩
    · have : ∃ j, edge ops i j = true ∧ listed.getD j false = false := by
        apply Classical.byContradiction
        intro hn
        refine hall fun j hj => ?_
        cases h : listed.getD j false with
        | true => rfl
        | false => exact absurd ⟨j, hj, h⟩ hn
      obtain ⟨j, hj, hu⟩ := this
      have := (chkT_at hct hi).2 j hj
      exact ih j this (by omega) hu

theorem nodup_sub : ∀ (l S : List Nat), l.Nodup → l ⊆ S → l.length ≤ S.length
  | [], _, _, _ => Nat.zero_le _
  | x :: l, S, hn, hs => by
    have hx : x ∈ S := hs (by simp)
    have h1 : l ⊆ S.erase x := fun y hy => (List.mem_erase_of_ne (fun e => (List.nodup_cons.1 hn).1 (by rw [← e]; exact hy))).2 (hs (by simp [hy]))
    have := nodup_sub l (S.erase x) (List.nodup_cons.1 hn).2 h1
    rw [List.length_erase_of_mem hx] at this
    have := List.length_pos_of_mem hx
    simp; omega
/-- The heart: whatever order the head's operations come in. -/
theorem gcore {nt : Nat} (opw : Oper → Act → World → (Act → World → Prop) → Prop) (step : Nat → (Act → World → Prop) → Act → World → Prop) (W : Nat → Array Bool → Act → World → Prop) (Qn : Act → World → Prop) (T : Nat → Act → World → Prop)
    (hstep : ∀ i o K a w, ops[i]? = some o → (if Region.wanted o (yielded ops a.tmps) then opw o a w K else K (a.put o.dst undef) w) → step i K a w)
    (hmono : ∀ i K K' a w, (∀ a w, K a w → K' a w) → step i K a w → step i K' a w)
    (hW0 : ∀ listed a w, Region.ready .any ops listed = [] → Qn a w → W 0 listed a w)
    (hW : ∀ fuel listed a w, (Region.ready .any ops listed = [] → Qn a w) → (∀ i ∈ Region.ready .any ops listed, step i (W fuel (listed.setIfInBounds i true)) a w) → W (fuel + 1) listed a w)
    (hT : ∀ k a w, k < ops.size → T k a w → step k (T (k + 1)) a w) (hT0 : ∀ a w, T ops.size a w → Qn a w)
    (hchk : chkG ops nh nt = true) (hct : chkT ops nh = true) (hnh : nh ≤ ops.size) (hnt : a0.tmps.size = nt) (env : List (Option Tmp × VP)) (hlen : env.length = nh)
    (hst : ∀ (j : Nat) d V, env[j]? = some (d, V) → ∀ u w w', V u w → Keep NoB w w' → V u w') (hdst : ∀ (j : Nat) x, env[j]? = some x → dstO ops j = x.1)
    (hok : ∀ (i : Nat) o V, ops[i]? = some o → env[i]? = some (o.dst, V) → stepOk opw a0 w0 C (env.take i) o V)
    (hfin : ∀ w, C w → Keep NoB w0 w → finG (T nh) w env a0) :
    ∀ (fuel : Nat) (listed : Array Bool) (a : Act) (w : World) (S : List Nat), GI ops nh a0 w0 C env listed a w → (∀ i, i < ops.size → listed.getD i false = false → i ∈ S) → S.length ≤ fuel → W fuel listed a w := by
  -- the tail
  have tail : ∀ (fuel k : Nat) (listed : Array Bool) (a : Act) (w : World), listed.size = ops.size → (∀ i, listed.getD i false = true ↔ i < k) → nh ≤ k → k ≤ ops.size → ops.size - k ≤ fuel → T k a w → W fuel listed a w := by
    intro fuel
    induction fuel with
    | zero =>
      intro k listed a w hs hl _ hk hf ht
      obtain rfl : k = ops.size := by omega
      refine hW0 _ _ _ ?_ (hT0 _ _ ht)
      refine List.eq_nil_iff_forall_not_mem.2 fun i hi => ?_
      obtain ⟨h1, h2, _⟩ := ready_edges hi
      have := (getD_ff h1).1
      rw [(hl i).2 h2] at this; cases this
    | succ fuel ih =>
      intro k listed a w hs hl hn hk hf ht
      by_cases hkk : k = ops.size
      · subst hkk
        have hnil : Region.ready .any ops listed = [] := List.eq_nil_iff_forall_not_mem.2 fun i hi => by
          obtain ⟨h1, h2, _⟩ := ready_edges hi
          have := (getD_ff h1).1
          rw [(hl i).2 h2] at this; cases this
        exact hW _ _ _ _ (fun _ => hT0 _ _ ht) fun i hi => by rw [hnil] at hi; cases hi
      · refine hW _ _ _ _ (fun h0 => ?_) fun i hi => ?_
        · exfalso
          have hu : listed.getD k false = false := by
            cases h : listed.getD k false with
            | false => rfl
            | true => have := (hl k).1 h; omega
          obtain ⟨j, hj⟩ := ready_some hct hs k (by omega) hu
          rw [h0] at hj; cases hj
        · obtain ⟨h1, h2, _, h3⟩ := ready_edges hi
          have hik : ¬ i < k := fun h => by have := (getD_ff h1).1; rw [(hl i).2 h] at this; cases this
          have : i = k := by
            rcases (chkT_at hct h2).1 with h | h
            · omega
            · have := (hl _).1 (h3 _ h); omega
          subst this
          refine hmono _ _ _ _ _ (fun a' w' ht' => ih (i + 1) _ _ _ (by simp [hs]) (fun j => ?_) (by omega) (by omega) (by omega) ht') (hT i a w h2 ht)
          by_cases e : j = i
          · subst e; simp [getD_set_same (getD_ff h1).2]
          · rw [getD_set_other e, hl]; omega
  intro fuel
  have sink : ∀ (listed : Array Bool) (a : Act) (w : World), GI ops nh a0 w0 C env listed a w → nh ∈ Region.ready .any ops listed → ∀ (n i : Nat), nh - i = n → i < nh → listed.getD i false = true := by
    intro listed a w hg hr n
    obtain ⟨h1, h2, _, h3⟩ := ready_edges hr
    induction n using Nat.strongRecOn with
    | _ n ih =>
      intro i hn hi
      obtain ⟨_, _, _, _, _, h4⟩ := chk_at hchk hi
      rcases h4 with h4 | ⟨j, hj, hij, he⟩
      · omega
      · by_cases e : j = nh
        · subst e; exact h3 i he
        · exact hg.closed j i (ih (nh - j) (by omega) j rfl (by omega)) he
  have full : ∀ (fuel : Nat) (listed : Array Bool) (a : Act) (w : World), GI ops nh a0 w0 C env listed a w → (∀ i, i < nh → listed.getD i false = true) → ops.size - nh ≤ fuel → W fuel listed a w := by
    intro fuel listed a w hg hall hf
    exact tail fuel nh listed a w hg.size (fun i => ⟨hg.heads i, hall i⟩) (Nat.le_refl _) hnh hf (hg.fin hlen hdst hall (hfin w hg.c hg.keep))
  induction fuel with
  | zero =>
    intro listed a w S hg hS hf
    have hall : ∀ i, i < ops.size → listed.getD i false = true := fun i hi => by
      cases h : listed.getD i false with
      | true => rfl
      | false => have := hS i hi h; rw [List.eq_nil_of_length_eq_zero (by omega : S.length = 0)] at this; cases this
    have : nh = ops.size := by
      apply Classical.byContradiction
      intro hne
      have := hg.heads nh (hall nh (by omega)); omega
    exact full 0 listed a w hg (fun i hi => hall i (by omega)) (by omega)
  | succ fuel ih =>
    intro listed a w S hg hS hf
    by_cases hall : ∀ i, i < nh → listed.getD i false = true
    · -- all of the head has come
      refine full _ listed a w hg hall ?_
      have hsub : (List.range' nh (ops.size - nh)) ⊆ S := fun i hi => by
        simp only [List.mem_range'_1] at hi
        refine hS i (by omega) ?_
        cases h : listed.getD i false with
        | false => rfl
        | true => have := hg.heads i h; omega
      have hnd : (List.range' nh (ops.size - nh)).Nodup := List.nodup_range'
      have := nodup_sub _ _ hnd hsub
      simp at this
      omega
    · have hun : ∃ i, i < nh ∧ listed.getD i false = false := by
        apply Classical.byContradiction
        intro hn
        refine hall fun i hi => ?_
        cases h : listed.getD i false with
        | true => rfl
        | false => exact absurd ⟨i, hi, h⟩ hn
      refine hW _ _ _ _ (fun h0 => ?_) fun i hi => ?_
      · exfalso
        obtain ⟨i, hi, hu⟩ := hun
        obtain ⟨j, hj⟩ := ready_some hct hg.size i (by omega) hu
        rw [h0] at hj; cases hj
      · obtain ⟨h1, h2, ⟨o, ho⟩, h3⟩ := ready_edges hi
        have hin : i < nh := by
          apply Classical.byContradiction
          intro hge
          have hnn : i = nh := by
            rcases (chkT_at hct h2).1 with h | h
            · omega
            · have := hg.heads _ (h3 _ h); omega
          subst hnn
          obtain ⟨j, hj, hu⟩ := hun
          rw [sink listed a w hg hi _ j rfl hj] at hu; cases hu
        obtain ⟨o', ho', hrd, hgd, _, _⟩ := chk_at hchk hin
        obtain rfl : o' = o := Option.some.inj (ho'.symm.trans ho)
        have hil : i < env.length := by omega
        have hei : env[i]? = some (o'.dst, env[i].2) := by
          have := hdst i _ (List.getElem?_eq_getElem hil)
          unfold dstO at this
          rw [ho] at this
          rw [List.getElem?_eq_getElem hil]
          exact congrArg some (Prod.ext this.symm rfl)
        have hpre : ∀ j : Nat, j < i → env[j]? = (env.take i)[j]? := fun j hj => by rw [List.getElem?_take, if_pos hj]
        have hrds := hg.rds (env := env.take i) hchk hin ho (getD_ff h1).1 h3 (by simp; omega) hpre (fun j x hx => hdst j x (by rw [List.getElem?_take] at hx; split at hx; exact hx; cases hx)) (rdsO o') hrd
        have hsk := hok i o' _ ho hei
        have hgo : ∀ u w', Keep NoB w w' → C w' → env[i].2 u w' → W fuel (listed.setIfInBounds i true) (a.put o'.dst u) w' := fun u w' hk hc hu =>
          ih _ _ _ (S.erase i) (hg.step hchk hnt hin ho h1 h3 hst hdst hei hk hc hu) (fun j hj hu' => by
            have hji : j ≠ i := fun e => by subst e; rw [getD_set_same (getD_ff h1).2] at hu'; cases hu'
            rw [getD_set_other hji] at hu'
            exact (List.mem_erase_of_ne hji).2 (hS j hj hu')) (by rw [List.length_erase_of_mem (hS i h2 (getD_ff h1).1)]; omega)
        refine hstep i o' _ a w ho ?_
        unfold stepOk at hsk
        cases hgu : o'.guard with
        | none =>
          simp only [hgu] at hsk
          rw [if_pos (by simp [Region.wanted, hgu])]
          exact hsk a w hg.c hg.keep hrds _ hgo
        | some jb =>
          obtain ⟨j, b⟩ := jb
          simp only [hgu] at hsk
          obtain ⟨hji, hje, hjd⟩ := hgd j b hgu
          obtain ⟨d, hd⟩ := Option.isSome_iff_exists.1 hjd
          have hjl : j < env.length := by omega
          have hej := hdst j _ (List.getElem?_eq_getElem hjl)
          rw [hd] at hej
          have hvj := hg.vals j d env[j].2 (h3 j hje) (by rw [List.getElem?_eq_getElem hjl]; exact congrArg some (Prod.ext hej.symm rfl))
          obtain ⟨oj, hoj, _, _, hdj, _⟩ := chk_at hchk (show j < nh by omega)
          have hds : d < a.tmps.size := by rw [hg.tsize, hnt]; exact (hdj d (by unfold dstO at hd; rw [hoj] at hd; exact hd)).1
          have hy := yielded_at (tmps := a.tmps) hd hds
          have hval : ∀ x, isV (env.take i) j x → a.tmps.getD d undef = x := fun x hx => by
            have := isV_of hx hpre hji
            unfold isV at this
            rw [List.getElem?_eq_getElem hjl] at this
            exact this _ _ hvj
          rcases hsk with ⟨hx, hh⟩ | ⟨hx, hVu⟩
          · have := hval _ hx
            rw [this] at hy
            rw [if_pos (by simp [Region.wanted, hgu, hy])]
            exact hh a w hg.c hg.keep hrds _ hgo
          · have hyb : yielded ops a.tmps j ≠ some b := by
              rcases hx with hx | hx
              · have := hval _ hx
                rw [this] at hy
                rw [hy]; cases b <;> simp
              · have := hval _ hx
                rw [this] at hy
                rw [hy]; simp [undef]
            rw [if_neg (by simp [Region.wanted, hgu]; exact hyb)]
            exact hgo undef w (Keep.refl _ _) hg.c (by rw [hVu])

theorem walkG_env {opw : Oper → Act → World → (Act → World → Prop) → Prop} {F : Act → World → Prop} : ∀ (l : List Oper) (env : List (Option Tmp × VP)), walkG opw a0 w0 C F l env →
    ∃ r : List (Option Tmp × VP), r.length = l.length ∧ (∀ (i : Nat) o, l[i]? = some o → ∃ V, r[i]? = some (o.dst, V) ∧ (∀ u w w', V u w → Keep NoB w w' → V u w') ∧ stepOk opw a0 w0 C (env ++ r.take i) o V) ∧
      (∀ w, C w → Keep NoB w0 w → finG F w (env ++ r) a0)
  | [], env, h => ⟨[], rfl, (fun i o ho => by simp at ho), by rw [List.append_nil]; exact h⟩
  | o :: l, env, ⟨V, hs, hk, hw⟩ => by
    obtain ⟨r, h1, h2, h3⟩ := walkG_env l _ hw
    refine ⟨(o.dst, V) :: r, by simp [h1], fun i o' ho' => ?_, by simpa using h3⟩
    cases i with
    | zero =>
      obtain rfl : o = o' := by simpa using ho'
      exact ⟨V, rfl, hs, by simpa using hk⟩
    | succ i =>
      obtain ⟨V', g1, g2, g3⟩ := h2 i o' (by simpa using ho')
      exact ⟨V', by simpa using g1, g2, by simpa using g3⟩

theorem gready {nt : Nat} {l : List Oper} (hO : ops = l.toArray) (opw : Oper → Act → World → (Act → World → Prop) → Prop) (step : Nat → (Act → World → Prop) → Act → World → Prop) (W : Nat → Array Bool → Act → World → Prop) (Qn : Act → World → Prop) (T : Nat → Act → World → Prop)
    (hstep : ∀ i o K a w, ops[i]? = some o → (if Region.wanted o (yielded ops a.tmps) then opw o a w K else K (a.put o.dst undef) w) → step i K a w)
    (hmono : ∀ i K K' a w, (∀ a w, K a w → K' a w) → step i K a w → step i K' a w)
    (hW0 : ∀ listed a w, Region.ready .any ops listed = [] → Qn a w → W 0 listed a w)
    (hW : ∀ fuel listed a w, (Region.ready .any ops listed = [] → Qn a w) → (∀ i ∈ Region.ready .any ops listed, step i (W fuel (listed.setIfInBounds i true)) a w) → W (fuel + 1) listed a w)
    (hT : ∀ k a w, k < ops.size → T k a w → step k (T (k + 1)) a w) (hT0 : ∀ a w, T ops.size a w → Qn a w)
    (hchk : chkG ops nh nt = true) (hct : chkT ops nh = true) (hnt : a0.tmps.size = nt) (hC : C w0)
    (h : walkG opw a0 w0 C (T nh) (l.take nh) []) : W ops.size (Array.replicate ops.size false) a0 w0 := by
  subst hO
  have hnh : nh ≤ l.toArray.size := by
    unfold chkG at hchk
    simp only [Bool.and_eq_true, decide_eq_true_eq] at hchk
    exact hchk.1
  have hnl : nh ≤ l.length := by simpa using hnh
  obtain ⟨env, h1, h2, h3⟩ := walkG_env _ _ h
  have hlen : env.length = nh := by rw [h1]; simp; omega
  have get : ∀ i : Nat, i < nh → ∃ o V, l[i]? = some o ∧ env[i]? = some (o.dst, V) ∧ (∀ u w w', V u w → Keep NoB w w' → V u w') ∧ stepOk opw a0 w0 C (env.take i) o V := fun i hi => by
    have hil : i < l.length := by omega
    obtain ⟨V, g⟩ := h2 i l[i] (by rw [List.getElem?_take, if_pos hi]; exact List.getElem?_eq_getElem hil)
    exact ⟨l[i], V, List.getElem?_eq_getElem hil, by simpa using g⟩
  refine gcore (nt := nt) opw step W Qn T hstep hmono hW0 hW hT hT0 hchk hct hnh hnt env hlen (fun j d V hj => ?_) (fun j x hj => ?_) (fun i o V ho hV => ?_) (by simpa using h3) _ _ _ _ (List.range l.toArray.size) ?_ (fun i hi _ => by simpa using hi) (by simp)
  · obtain ⟨o, V', g1, g2, g3, g4⟩ := get j (by rw [← hlen]; exact (List.getElem?_eq_some_iff.1 hj).1)
    rw [g2] at hj
    cases hj
    exact g3
  · obtain ⟨o, V', g1, g2, g3, g4⟩ := get j (by rw [← hlen]; exact (List.getElem?_eq_some_iff.1 hj).1)
    rw [g2] at hj
    cases hj
    unfold dstO
    simp [g1]
  · obtain ⟨o', V', g1, g2, g3, g4⟩ := get i (by rw [← hlen]; exact (List.getElem?_eq_some_iff.1 hV).1)
    have e1 : o' = o := by have : l[i]? = some o := by simpa using ho
                           rw [g1] at this; exact Option.some.inj this
    subst e1
    rw [g2] at hV
    simp only [Option.some.injEq, Prod.mk.injEq, true_and] at hV
    subst hV
    exact g4
  · have hf : ∀ i : Nat, (Array.replicate l.toArray.size false).getD i false = false := fun i => by
      simp only [Array.getD_eq_getD_getElem?, Array.getElem?_replicate]
      split <;> rfl
    exact ⟨by simp, (fun i j hi => by rw [hf] at hi; cases hi), (fun i hi => by rw [hf] at hi; cases hi), hC, Keep.refl _ _, (fun j d V hj => by rw [hf] at hj; cases hj), fun _ _ => rfl, rfl, rfl⟩
end

/-- THE LAW, for a statement of an activation of a function. -/
theorem regG {P : Program} {id : Nat} {l : List Oper} {Q : Exit → Act → World → Prop} {a : Act} {w : World} (nh nt : Nat) (C : World → Prop) (hm : P.follows .mixedOrders = true)
    (hB : (chkG l.toArray nh nt && chkT l.toArray nh) = true) (hnt : a.tmps.size = nt) (hC : C w.drew)
    (h : walkG (fun o a w K => o.wp P a w K Q) a w.drew C (fun a w => wpList P l.toArray Q (l.drop nh) a w) (l.take nh) []) : (Code.region id l.toArray true).wp P Q a w := by
  rw [Bool.and_eq_true] at hB
  refine wp_region_any hm ?_
  refine gready (ops := l.toArray) (a0 := a) (w0 := w.drew) (C := C) rfl (fun o a w K => o.wp P a w K Q) (wpOp P l.toArray Q) (wpAny P .any l.toArray Q) (fun a w => Q .normal a w) (fun k a w => wpList P l.toArray Q (l.drop k) a w)
    ?_ (fun i K K' a w hk hs => wpOp_mono hk hs) (fun listed a w h1 h2 => ⟨h1, h2⟩) (fun fuel listed a w h1 h2 => ⟨h1, h2⟩) ?_ ?_ hB.1 hB.2 hnt hC h
  · intro i o K a w ho hs
    unfold wpOp
    simp only [ho]
    split
    · rename_i hw; rw [if_pos hw] at hs; exact .inl hs
    · rename_i hw; rw [if_neg hw] at hs; exact hs
  · intro k a w hk ht
    have hk' : k < l.length := by simpa using hk
    simp only [List.drop_eq_getElem_cons hk', wpList] at ht
    unfold wpOp
    simp only [List.getElem?_toArray, List.getElem?_eq_getElem hk']
    exact ht
  · intro a w ht
    simpa [wpList] using ht
/-- The same inside a round of a range over a function. -/
theorem regGIn {P : Program} {F : Fence} {n : Nat} (hF : ∀ f, F.fn f) {id : Nat} {l : List Oper} {Q : Exit → Act → World → Prop} {a : Act} {w : World} (nh nt : Nat) (C : World → Prop) (hm : P.follows .mixedOrders = true)
    (hB : (chkG l.toArray nh nt && chkT l.toArray nh) = true) (hnt : a.tmps.size = nt) (hC : C w.drew)
    (h : walkG (fun o a w K => o.wpIn F n P a w K Q) a w.drew C (fun a w => wpListIn F n P l.toArray Q (l.drop nh) a w) (l.take nh) []) : (Code.region id l.toArray true).wpIn F n P Q a w := by
  rw [Bool.and_eq_true] at hB
  refine wpIn_region_any hm ?_
  refine gready (ops := l.toArray) (a0 := a) (w0 := w.drew) (C := C) rfl (fun o a w K => o.wpIn F n P a w K Q) (wpOpIn F n P l.toArray Q) (wpAnyIn F n P .any l.toArray Q) (fun a w => Q .normal a w) (fun k a w => wpListIn F n P l.toArray Q (l.drop k) a w)
    ?_ (fun i K K' a w hk hs => wpOpIn_mono hk hs) (fun listed a w h1 h2 => ⟨h1, h2⟩) (fun fuel listed a w h1 h2 => ⟨h1, h2⟩) ?_ ?_ hB.1 hB.2 hnt hC h
  · intro i o K a w ho hs
    unfold wpOpIn
    simp only [ho]
    split
    · rename_i hw; rw [if_pos hw] at hs; exact hs
    · rename_i hw; rw [if_neg hw] at hs; exact ⟨fun f _ => hF f, hs⟩
  · intro k a w hk ht
    have hk' : k < l.length := by simpa using hk
    simp only [List.drop_eq_getElem_cons hk', wpListIn] at ht
    unfold wpOpIn
    simp only [List.getElem?_toArray, List.getElem?_eq_getElem hk']
    exact ht
  · intro a w ht
    simpa [wpListIn] using ht

/-! ### The steps of the head's walk -/
section
variable {P : Program} {Q : Exit → Act → World → Prop} {a0 : Act} {w0 : World} {C : World → Prop} {F : Act → World → Prop} {l : List Oper} {o : Oper} {env : List (Option Tmp × VP)}
abbrev opwP (P : Program) (Q : Exit → Act → World → Prop) : Oper → Act → World → (Act → World → Prop) → Prop := fun o a w K => o.wp P a w K Q
abbrev opwI (G : Fence) (n : Nat) (P : Program) (Q : Exit → Act → World → Prop) : Oper → Act → World → (Act → World → Prop) → Prop := fun o a w K => o.wpIn G n P a w K Q
theorem eqV_stab (v : Value) : ∀ (u : Value) (w w' : World), (fun (u : Value) (_ : World) => u = v) u w → Keep NoB w w' → (fun (u : Value) (_ : World) => u = v) u w' := fun _ _ _ h _ => h
theorem isV_eq {j : Nat} {d : Option Tmp} {v x : Value} (h : env[j]? = some (d, fun u _ => u = v)) (e : v = x) : isV env j x := by unfold isV; rw [h]; exact fun u _ h => h.trans e
theorem head_det (v : Value) (h : ∀ a w, C w → Keep NoB w0 w → Rds env a0 (rdsO o) a w → (execOp a.eval o).run P w = .ok (.value v) w) : headOk (opwP P Q) a0 w0 C env o (fun u _ => u = v) := by
  intro a w hc hk hr K hK
  show o.upon P a K Q ((execOp a.eval o).run P w)
  rw [h a w hc hk hr]
  exact hK v w (Keep.refl _ _) hc rfl
theorem head_detI {G : Fence} {n : Nat} (hG : ∀ f, G.fn f) (v : Value) (h : ∀ a w, C w → Keep NoB w0 w → Rds env a0 (rdsO o) a w → (o.semAt G.round a.eval).run P w = .ok (.value v) w) : headOk (opwI G n P Q) a0 w0 C env o (fun u _ => u = v) := by
  intro a w hc hk hr K hK
  refine ⟨fun f _ => hG f, ?_⟩
  rw [h a w hc hk hr]
  exact hK v w (Keep.refl _ _) hc rfl
/-- An operation that has one value, whatever the order. -/
theorem wdet (v : Value) (hg : o.guard = none) (h : ∀ a w, C w → Keep NoB w0 w → Rds env a0 (rdsO o) a w → (execOp a.eval o).run P w = .ok (.value v) w)
    (hn : walkG (opwP P Q) a0 w0 C F l (env ++ [(o.dst, fun u _ => u = v)])) : walkG (opwP P Q) a0 w0 C F (o :: l) env :=
  ⟨_, eqV_stab v, by unfold stepOk; rw [hg]; exact head_det v h, hn⟩
theorem wdetI {G : Fence} {n : Nat} (hG : ∀ f, G.fn f) (v : Value) (hg : o.guard = none) (h : ∀ a w, C w → Keep NoB w0 w → Rds env a0 (rdsO o) a w → (o.semAt G.round a.eval).run P w = .ok (.value v) w)
    (hn : walkG (opwI G n P Q) a0 w0 C F l (env ++ [(o.dst, fun u _ => u = v)])) : walkG (opwI G n P Q) a0 w0 C F (o :: l) env :=
  ⟨_, eqV_stab v, by unfold stepOk; rw [hg]; exact head_detI hG v h, hn⟩
/-- The same, its guard saying yes. -/
theorem wdetg {j : Nat} {b : Bool} (hg : o.guard = some (j, b)) (hj : isV env j (.bool b)) (v : Value) (h : ∀ a w, C w → Keep NoB w0 w → Rds env a0 (rdsO o) a w → (execOp a.eval o).run P w = .ok (.value v) w)
    (hn : walkG (opwP P Q) a0 w0 C F l (env ++ [(o.dst, fun u _ => u = v)])) : walkG (opwP P Q) a0 w0 C F (o :: l) env :=
  ⟨_, eqV_stab v, by unfold stepOk; rw [hg]; exact .inl ⟨hj, head_det v h⟩, hn⟩
theorem wdetgI {G : Fence} {n : Nat} (hG : ∀ f, G.fn f) {j : Nat} {b : Bool} (hg : o.guard = some (j, b)) (hj : isV env j (.bool b)) (v : Value) (h : ∀ a w, C w → Keep NoB w0 w → Rds env a0 (rdsO o) a w → (o.semAt G.round a.eval).run P w = .ok (.value v) w)
    (hn : walkG (opwI G n P Q) a0 w0 C F l (env ++ [(o.dst, fun u _ => u = v)])) : walkG (opwI G n P Q) a0 w0 C F (o :: l) env :=
  ⟨_, eqV_stab v, by unfold stepOk; rw [hg]; exact .inl ⟨hj, head_detI hG v h⟩, hn⟩
/-- Its guard says no. -/
theorem wskip {opw : Oper → Act → World → (Act → World → Prop) → Prop} {j : Nat} {b : Bool} (hg : o.guard = some (j, b)) (hj : isV env j (.bool !b) ∨ isV env j undef)
    (hn : walkG opw a0 w0 C F l (env ++ [(o.dst, fun u _ => u = undef)])) : walkG opw a0 w0 C F (o :: l) env :=
  ⟨_, eqV_stab undef, by unfold stepOk; rw [hg]; exact .inr ⟨hj, rfl⟩, hn⟩
/-- Whatever else: a predicate on the value that later memory does not turn. -/
theorem wgen {opw : Oper → Act → World → (Act → World → Prop) → Prop} (V : VP) (hs : ∀ u w w', V u w → Keep NoB w w' → V u w') (hg : o.guard = none)
    (h : headOk opw a0 w0 C env o V) (hn : walkG opw a0 w0 C F l (env ++ [(o.dst, V)])) : walkG opw a0 w0 C F (o :: l) env :=
  ⟨V, hs, by unfold stepOk; rw [hg]; exact h, hn⟩
theorem wgeng {opw : Oper → Act → World → (Act → World → Prop) → Prop} {j : Nat} {b : Bool} (V : VP) (hs : ∀ u w w', V u w → Keep NoB w w' → V u w') (hg : o.guard = some (j, b)) (hj : isV env j (.bool b))
    (h : headOk opw a0 w0 C env o V) (hn : walkG opw a0 w0 C F l (env ++ [(o.dst, V)])) : walkG opw a0 w0 C F (o :: l) env :=
  ⟨V, hs, by unfold stepOk; rw [hg]; exact .inl ⟨hj, h⟩, hn⟩
end
end Go.Proofs.YtcedofkenfddkaaDoor
/- errors.As: an error of the target's own type, an error that unwraps to one. -/
namespace Go.Proofs.YtcedofkenfddkaaDoor.As
set_option linter.unusedVariables false
set_option linter.unusedSimpArgs false
open Go.RowKit Go.Extern.Stop Go.Stop Go.Extern
set_option maxRecDepth 100000
theorem as_nil (t : Value) (w : World) :
    Calls Tryd.prog 87 #[.nilIface, t] w fun e w' => e = .returned (.bool false) ∧ w' = w := by
  go_enter Tryd.func87, Tryd.ntmps87
  go_wp2
  go_ret
  exact ⟨rfl, rfl⟩
set_option maxHeartbeats 4000000 in
theorem as_NN (c : Int) (t : Addr) (old : Value) (w : World) (hg : w.cell? ⟨0, 0, none⟩ = some (.iface 144 (.agg #[.pointer (some ⟨1, 29, none⟩)]))) (ht0 : w.cell? t = some old) (hf0 : w.frozen? t = false) :
    Calls Tryd.prog 87 #[.iface 50 (.int .i64 c), .iface 87 (.pointer (some t))] w fun ev w' => ev = .returned (.bool true) ∧ w' = ((((w.alloc (.cells #[.pointer (some t)] 87)).alloc (.cells #[.pointer (some ⟨1, 87, none⟩), .pointer (some ⟨w.heap.size, 0, none⟩), .int .u64 150] 119)).alloc (.cells #[.pointer (some ⟨1, 87, none⟩), .pointer (some ⟨w.heap.size, 0, none⟩), .int .u64 150] 119)).alloc (.cells #[.int .i64 c] 50)).setCell t (.int .i64 c) := by
  have h6 := @run_callFunc_extern Tryd.prog 110 _ (fun args => ReflectliteValue.unpack (args.getD 0 (.tuple #[]))) Tryd.func110 (by kernel_rfl) (by kernel_rfl) (by kernel_rfl) (by kernel_rfl)
  have h7 := @run_callFunc_extern Tryd.prog 111 _ (ReflectliteValue.methodAny (ReflectliteValue.valueError "reflectlite.Value.Type" 0) (fun t _ _ _ => ReflectliteType.toType t)) Tryd.func111 (by kernel_rfl) (by kernel_rfl) (by kernel_rfl) (by kernel_rfl)
  have h8 := @run_callFunc_extern Tryd.prog 112 _ (ReflectliteValue.method (ReflectliteValue.valueError "reflectlite.Value.IsNil" 0) ReflectliteValue.isNil) Tryd.func112 (by kernel_rfl) (by kernel_rfl) (by kernel_rfl) (by kernel_rfl)
  have h27 := @run_callFunc_extern Tryd.prog 149 _ (ReflectliteType.abiMethod fun t => do pure (.int .u8 (← Rtype.kind t))) Tryd.func149 (by kernel_rfl) (by kernel_rfl) (by kernel_rfl) (by kernel_rfl)
  have h37 := @run_callFunc_extern Tryd.prog 161 _ (ReflectliteType.method ReflectliteType.elem) Tryd.func161 (by kernel_rfl) (by kernel_rfl) (by kernel_rfl) (by kernel_rfl)
  have h38 := @run_callFunc_extern Tryd.prog 162 _ (ReflectliteType.relation "Implements" ReflectliteType.implements_) Tryd.func162 (by kernel_rfl) (by kernel_rfl) (by kernel_rfl) (by kernel_rfl)
  have h10 := @run_callFunc_extern Tryd.prog 129 _ ReflectliteType.typeOf Tryd.func129 (by kernel_rfl) (by kernel_rfl) (by kernel_rfl) (by kernel_rfl)
  have h35 := @run_callFunc_extern Tryd.prog 159 _ (ReflectliteType.relation "AssignableTo" ReflectliteType.assignableTo) Tryd.func159 (by kernel_rfl) (by kernel_rfl) (by kernel_rfl) (by kernel_rfl)
  have h11 := @run_callFunc_extern Tryd.prog 130 _ (ReflectliteValue.method (ReflectliteValue.valueError "reflectlite.Value.Elem" 0) ReflectliteValue.elem) Tryd.func130 (by kernel_rfl) (by kernel_rfl) (by kernel_rfl) (by kernel_rfl)
  have h12 := @run_callFunc_extern Tryd.prog 131 _ ReflectliteValue.set Tryd.func131 (by kernel_rfl) (by kernel_rfl) (by kernel_rfl) (by kernel_rfl)
  have tO := typeOfN
  have mA := methodAssignableTo
  have a25 := assignableN
  have v25 := valueOfN
  have f6 := valueOfNp
  have f7 := typeNp
  have mK := methodKind
  have mE := methodElem
  have mI := methodImplements
  have k27 := kindNp
  have k25 := kindN
  have e27 := elemNp
  have i25 := implementsN
  have n8 := isNilNp ⟨w.heap.size, 0, none⟩ t ((w.alloc (.cells #[.pointer (some t)] 87)).alloc (.cells #[.pointer (some ⟨1, 87, none⟩), .pointer (some ⟨w.heap.size, 0, none⟩), .int .u64 150] 119)) (by simp)
  have hlt : 0 < w.heap.size := by
    rcases Nat.eq_zero_or_pos w.heap.size with h0 | h
    · simp [World.cell?, h0] at hg
    · exact h
  have hg2 : ((w.alloc (.cells #[.pointer (some t)] 87)).alloc (.cells #[.pointer (some ⟨1, 87, none⟩), .pointer (some ⟨w.heap.size, 0, none⟩), .int .u64 150] 119)).cell? ⟨0, 0, none⟩ = some (.iface 144 (.agg #[.pointer (some ⟨1, 29, none⟩)])) := by
    rw [World.cell?_alloc_lt _ _ ⟨0, 0, none⟩ (by simp), World.cell?_alloc_lt _ _ ⟨0, 0, none⟩ hlt]; exact hg
  have htl : t.block < w.heap.size := by
    rcases Nat.lt_or_ge t.block w.heap.size with h | h
    · exact h
    · simp [World.cell?, Array.getElem?_eq_none h] at ht0
  have el := elemVNp ⟨w.heap.size, 0, none⟩ t (((w.alloc (.cells #[.pointer (some t)] 87)).alloc (.cells #[.pointer (some ⟨1, 87, none⟩), .pointer (some ⟨w.heap.size, 0, none⟩), .int .u64 150] 119)).alloc (.cells #[.pointer (some ⟨1, 87, none⟩), .pointer (some ⟨w.heap.size, 0, none⟩), .int .u64 150] 119)) (by rw [World.cell?_alloc_lt _ _ ⟨w.heap.size, 0, none⟩ (by simp; omega)]; simp)
  have st := setN t ⟨w.heap.size + 1 + 1 + 1, 0, none⟩ c old ((((w.alloc (.cells #[.pointer (some t)] 87)).alloc (.cells #[.pointer (some ⟨1, 87, none⟩), .pointer (some ⟨w.heap.size, 0, none⟩), .int .u64 150] 119)).alloc (.cells #[.pointer (some ⟨1, 87, none⟩), .pointer (some ⟨w.heap.size, 0, none⟩), .int .u64 150] 119)).alloc (.cells #[.int .i64 c] 50))
    (by rw [World.cell?_alloc_at _ _ _ _ (by simp)]; rfl)
    (by rw [World.cell?_alloc_lt _ _ t (by simp; omega), World.cell?_alloc_lt _ _ t (by simp; omega), World.cell?_alloc_lt _ _ t (by simp; omega), World.cell?_alloc_lt _ _ t htl]; exact ht0)
    (by rw [World.frozen?_alloc_old _ _ t (by simp; omega), World.frozen?_alloc_old _ _ t (by simp; omega), World.frozen?_alloc_old _ _ t (by simp; omega), World.frozen?_alloc_old _ _ t (Nat.ne_of_lt htl)]; exact hf0)
  go_enter Tryd.func87, Tryd.ntmps87
  go_wp2
  refine wp_loop_rounds 1 ?_
  rw [rounds_succ]
  go_wp2
  go_ret
  exact ⟨rfl, rfl⟩
end Go.Proofs.YtcedofkenfddkaaDoor.As
/- errors.As at *api.Fault: the law of reflectlite's Set at a struct of two cells. -/
namespace Go.Proofs.YtcedofkenfddkaaDoor.As
set_option linter.unusedVariables false
set_option linter.unusedSimpArgs false
open Go.RowKit Go.Extern.Stop Go.Stop Go.Extern
set_option maxRecDepth 100000
theorem setF (T b : Nat) (c k : Int) (W : World) (h0 : W.cell? ⟨b, 0, none⟩ = some (.int .i64 c)) (h1 : W.cell? ⟨b, 1, none⟩ = some (.int .i64 k)) (t0 : (W.cell? ⟨T, 0, none⟩).isSome = true) (t1 : (W.cell? ⟨T, 1, none⟩).isSome = true) (f0 : W.frozen? ⟨T, 0, none⟩ = false) (f1 : W.frozen? ⟨T, 1, none⟩ = false) :
    (ReflectliteValue.set #[.agg #[.pointer (some ⟨1, 89, none⟩), .pointer (some ⟨T, 0, none⟩), .int .u64 409], .agg #[.pointer (some ⟨1, 89, none⟩), .pointer (some ⟨b, 0, none⟩), .int .u64 153]]).run Tryd.prog W
      = .ok (.tuple #[]) (W.setCells T 0 [.int .i64 c, .int .i64 k]) := by
  have hl : (loadVar 89 ⟨b, 0, none⟩).run Tryd.prog W = .ok (.agg #[.int .i64 c, .int .i64 k]) W := by
    have hl2 := run_loadCells_list (P := Tryd.prog) (w := W) ⟨b, 0, none⟩ [.int .i64 c, .int .i64 k] (fun j v hj => by
      match j, hj with
      | 0, hj => cases hj; simpa [Addr.add] using h0
      | 1, hj => cases hj; simpa [Addr.add] using h1)
    have hs := sizeF W
    simp [loadVar, isAgg, underlying, Tryd.underlying89, Result.andThen, hs]
    simp only [List.length_cons, List.length_nil] at hl2
    rw [hl2]
  have hst : (storeVar 89 ⟨T, 0, none⟩ (.agg #[.int .i64 c, .int .i64 k])).run Tryd.prog W = .ok () (W.setCells T 0 [.int .i64 c, .int .i64 k]) := by
    have hs := sizeF W
    have h2 := Go.run_storeCells_cells (P := Tryd.prog) T 0 [.int .i64 c, .int .i64 k] 0 W (fun j hj => by
      match j, hj with
      | 0, _ => simpa using t0
      | 1, _ => simpa using t1) (fun j hj => by
      match j, hj with
      | 0, _ => simpa using f0
      | 1, _ => simpa using f1) (by simp [Value.oneCell'])
    simp [storeVar, hs, Value.cells, Result.andThen]
    simpa using h2
  rw [rls]
  simp only [Sem.run_bind, partsFa, partsF, Result.andThen]
  simp [ReflectliteValue.flagAddr, hl, Result.andThen, directF, hst]
set_option maxHeartbeats 4000000 in
theorem as_FF (c k : Int) (T : Nat) (w : World) (hg : w.cell? ⟨0, 0, none⟩ = some (.iface 144 (.agg #[.pointer (some ⟨1, 29, none⟩)]))) (t0 : (w.cell? ⟨T, 0, none⟩).isSome = true) (t1 : (w.cell? ⟨T, 1, none⟩).isSome = true) (f0 : w.frozen? ⟨T, 0, none⟩ = false) (f1 : w.frozen? ⟨T, 1, none⟩ = false) :
    Calls Tryd.prog 87 #[.iface 89 (.agg #[.int .i64 c, .int .i64 k]), .iface 128 (.pointer (some ⟨T, 0, none⟩))] w fun ev w' => ev = .returned (.bool true) ∧ w' = ((((w.alloc (.cells #[.pointer (some ⟨T, 0, none⟩)] 128)).alloc (.cells #[.pointer (some ⟨1, 128, none⟩), .pointer (some ⟨w.heap.size, 0, none⟩), .int .u64 150] 119)).alloc (.cells #[.pointer (some ⟨1, 128, none⟩), .pointer (some ⟨w.heap.size, 0, none⟩), .int .u64 150] 119)).alloc (.cells #[.int .i64 c, .int .i64 k] 89)).setCells T 0 [.int .i64 c, .int .i64 k] := by
  have h6 := @run_callFunc_extern Tryd.prog 110 _ (fun args => ReflectliteValue.unpack (args.getD 0 (.tuple #[]))) Tryd.func110 (by kernel_rfl) (by kernel_rfl) (by kernel_rfl) (by kernel_rfl)
  have h7 := @run_callFunc_extern Tryd.prog 111 _ (ReflectliteValue.methodAny (ReflectliteValue.valueError "reflectlite.Value.Type" 0) (fun t _ _ _ => ReflectliteType.toType t)) Tryd.func111 (by kernel_rfl) (by kernel_rfl) (by kernel_rfl) (by kernel_rfl)
  have h8 := @run_callFunc_extern Tryd.prog 112 _ (ReflectliteValue.method (ReflectliteValue.valueError "reflectlite.Value.IsNil" 0) ReflectliteValue.isNil) Tryd.func112 (by kernel_rfl) (by kernel_rfl) (by kernel_rfl) (by kernel_rfl)
  have h27 := @run_callFunc_extern Tryd.prog 149 _ (ReflectliteType.abiMethod fun t => do pure (.int .u8 (← Rtype.kind t))) Tryd.func149 (by kernel_rfl) (by kernel_rfl) (by kernel_rfl) (by kernel_rfl)
  have h37 := @run_callFunc_extern Tryd.prog 161 _ (ReflectliteType.method ReflectliteType.elem) Tryd.func161 (by kernel_rfl) (by kernel_rfl) (by kernel_rfl) (by kernel_rfl)
  have h38 := @run_callFunc_extern Tryd.prog 162 _ (ReflectliteType.relation "Implements" ReflectliteType.implements_) Tryd.func162 (by kernel_rfl) (by kernel_rfl) (by kernel_rfl) (by kernel_rfl)
  have h10 := @run_callFunc_extern Tryd.prog 129 _ ReflectliteType.typeOf Tryd.func129 (by kernel_rfl) (by kernel_rfl) (by kernel_rfl) (by kernel_rfl)
  have h35 := @run_callFunc_extern Tryd.prog 159 _ (ReflectliteType.relation "AssignableTo" ReflectliteType.assignableTo) Tryd.func159 (by kernel_rfl) (by kernel_rfl) (by kernel_rfl) (by kernel_rfl)
  have h11 := @run_callFunc_extern Tryd.prog 130 _ (ReflectliteValue.method (ReflectliteValue.valueError "reflectlite.Value.Elem" 0) ReflectliteValue.elem) Tryd.func130 (by kernel_rfl) (by kernel_rfl) (by kernel_rfl) (by kernel_rfl)
  have h12 := @run_callFunc_extern Tryd.prog 131 _ ReflectliteValue.set Tryd.func131 (by kernel_rfl) (by kernel_rfl) (by kernel_rfl) (by kernel_rfl)
  have tO := typeOfF
  have mA := methodAssignableTo
  have a25 := assignableF
  have v25 := valueOfF
  have f6 := valueOfFp
  have f7 := typeFp
  have mK := methodKind
  have mE := methodElem
  have mI := methodImplements
  have k27 := kindFp
  have k25 := kindF
  have e27 := elemFp
  have i25 := implementsF
  have n8 := isNilFp ⟨w.heap.size, 0, none⟩ ⟨T, 0, none⟩ ((w.alloc (.cells #[.pointer (some ⟨T, 0, none⟩)] 128)).alloc (.cells #[.pointer (some ⟨1, 128, none⟩), .pointer (some ⟨w.heap.size, 0, none⟩), .int .u64 150] 119)) (by simp)
  have hlt : 0 < w.heap.size := by
    rcases Nat.eq_zero_or_pos w.heap.size with h0 | h
    · simp [World.cell?, h0] at hg
    · exact h
  have hg2 : ((w.alloc (.cells #[.pointer (some ⟨T, 0, none⟩)] 128)).alloc (.cells #[.pointer (some ⟨1, 128, none⟩), .pointer (some ⟨w.heap.size, 0, none⟩), .int .u64 150] 119)).cell? ⟨0, 0, none⟩ = some (.iface 144 (.agg #[.pointer (some ⟨1, 29, none⟩)])) := by
    rw [World.cell?_alloc_lt _ _ ⟨0, 0, none⟩ (by simp), World.cell?_alloc_lt _ _ ⟨0, 0, none⟩ hlt]; exact hg
  have htl : T < w.heap.size := by
    rcases Nat.lt_or_ge T w.heap.size with h | h
    · exact h
    · simp [World.cell?, Array.getElem?_eq_none h] at t0
  have el := elemVFp ⟨w.heap.size, 0, none⟩ ⟨T, 0, none⟩ (((w.alloc (.cells #[.pointer (some ⟨T, 0, none⟩)] 128)).alloc (.cells #[.pointer (some ⟨1, 128, none⟩), .pointer (some ⟨w.heap.size, 0, none⟩), .int .u64 150] 119)).alloc (.cells #[.pointer (some ⟨1, 128, none⟩), .pointer (some ⟨w.heap.size, 0, none⟩), .int .u64 150] 119)) (by rw [World.cell?_alloc_lt _ _ ⟨w.heap.size, 0, none⟩ (by simp; omega)]; simp)
  have st := setF T (w.heap.size + 1 + 1 + 1) c k ((((w.alloc (.cells #[.pointer (some ⟨T, 0, none⟩)] 128)).alloc (.cells #[.pointer (some ⟨1, 128, none⟩), .pointer (some ⟨w.heap.size, 0, none⟩), .int .u64 150] 119)).alloc (.cells #[.pointer (some ⟨1, 128, none⟩), .pointer (some ⟨w.heap.size, 0, none⟩), .int .u64 150] 119)).alloc (.cells #[.int .i64 c, .int .i64 k] 89))
    (by rw [World.cell?_alloc_at _ _ _ _ (by simp)]; rfl)
    (by rw [World.cell?_alloc_at _ _ _ _ (by simp)]; rfl)
    (by rw [World.cell?_alloc_lt _ _ ⟨T, 0, none⟩ (by simp; omega), World.cell?_alloc_lt _ _ ⟨T, 0, none⟩ (by simp; omega), World.cell?_alloc_lt _ _ ⟨T, 0, none⟩ (by simp; omega), World.cell?_alloc_lt _ _ ⟨T, 0, none⟩ htl]; exact t0)
    (by rw [World.cell?_alloc_lt _ _ ⟨T, 1, none⟩ (by simp; omega), World.cell?_alloc_lt _ _ ⟨T, 1, none⟩ (by simp; omega), World.cell?_alloc_lt _ _ ⟨T, 1, none⟩ (by simp; omega), World.cell?_alloc_lt _ _ ⟨T, 1, none⟩ htl]; exact t1)
    (by rw [World.frozen?_alloc_old _ _ ⟨T, 0, none⟩ (by simp; omega), World.frozen?_alloc_old _ _ ⟨T, 0, none⟩ (by simp; omega), World.frozen?_alloc_old _ _ ⟨T, 0, none⟩ (by simp; omega), World.frozen?_alloc_old _ _ ⟨T, 0, none⟩ (Nat.ne_of_lt htl)]; exact f0)
    (by rw [World.frozen?_alloc_old _ _ ⟨T, 1, none⟩ (by simp; omega), World.frozen?_alloc_old _ _ ⟨T, 1, none⟩ (by simp; omega), World.frozen?_alloc_old _ _ ⟨T, 1, none⟩ (by simp; omega), World.frozen?_alloc_old _ _ ⟨T, 1, none⟩ (Nat.ne_of_lt htl)]; exact f1)
  go_enter Tryd.func87, Tryd.ntmps87
  go_wp2
  refine wp_loop_rounds 1 ?_
  rw [rounds_succ]
  go_wp2
  go_ret
  exact ⟨rfl, rfl⟩
end Go.Proofs.YtcedofkenfddkaaDoor.As
/- errors.As: an error that unwraps to one of the target's type. -/
namespace Go.Proofs.YtcedofkenfddkaaDoor.As
set_option linter.unusedVariables false
set_option linter.unusedSimpArgs false
open Go.RowKit Go.Extern.Stop Go.Stop Go.Extern
set_option maxRecDepth 100000
theorem noAs (v : Value) (xT : TypeId) (w : World) : (Instr.typeAssert (.iface 89 v) xT 149 true).run Tryd.prog w = .ok (.tuple #[.nilIface, .bool false]) w := run_typeAssert_lacksB Tryd.underlying149 (by kernel_rfl) (by kernel_rfl) v xT w
theorem hasUw (v : Value) (xT : TypeId) (w : World) : (Instr.typeAssert (.iface 89 v) xT 152 true).run Tryd.prog w = .ok (.tuple #[.iface 89 v, .bool true]) w := run_typeAssert_hasB Tryd.underlying152 (by kernel_rfl) v xT w
set_option maxHeartbeats 4000000 in
theorem as_FN (c k : Int) (t : Addr) (old : Value) (w : World) (hg : w.cell? ⟨0, 0, none⟩ = some (.iface 144 (.agg #[.pointer (some ⟨1, 29, none⟩)]))) (ht0 : w.cell? t = some old) (hf0 : w.frozen? t = false) :
    Calls Tryd.prog 87 #[.iface 89 (.agg #[.int .i64 c, .int .i64 k]), .iface 87 (.pointer (some t))] w fun ev w' => ev = .returned (.bool true) ∧ w' = (((((w.alloc (.cells #[.pointer (some t)] 87)).alloc (.cells #[.pointer (some ⟨1, 87, none⟩), .pointer (some ⟨w.heap.size, 0, none⟩), .int .u64 150] 119)).alloc (.cells #[.pointer (some ⟨1, 87, none⟩), .pointer (some ⟨w.heap.size, 0, none⟩), .int .u64 150] 119)).alloc (.cells #[.int .i64 c, .int .i64 k] 89)).alloc (.cells #[.int .i64 c] 50)).setCell t (.int .i64 c) := by
  have h6 := @run_callFunc_extern Tryd.prog 110 _ (fun args => ReflectliteValue.unpack (args.getD 0 (.tuple #[]))) Tryd.func110 (by kernel_rfl) (by kernel_rfl) (by kernel_rfl) (by kernel_rfl)
  have h7 := @run_callFunc_extern Tryd.prog 111 _ (ReflectliteValue.methodAny (ReflectliteValue.valueError "reflectlite.Value.Type" 0) (fun t _ _ _ => ReflectliteType.toType t)) Tryd.func111 (by kernel_rfl) (by kernel_rfl) (by kernel_rfl) (by kernel_rfl)
  have h8 := @run_callFunc_extern Tryd.prog 112 _ (ReflectliteValue.method (ReflectliteValue.valueError "reflectlite.Value.IsNil" 0) ReflectliteValue.isNil) Tryd.func112 (by kernel_rfl) (by kernel_rfl) (by kernel_rfl) (by kernel_rfl)
  have h27 := @run_callFunc_extern Tryd.prog 149 _ (ReflectliteType.abiMethod fun t => do pure (.int .u8 (← Rtype.kind t))) Tryd.func149 (by kernel_rfl) (by kernel_rfl) (by kernel_rfl) (by kernel_rfl)
  have h37 := @run_callFunc_extern Tryd.prog 161 _ (ReflectliteType.method ReflectliteType.elem) Tryd.func161 (by kernel_rfl) (by kernel_rfl) (by kernel_rfl) (by kernel_rfl)
  have h38 := @run_callFunc_extern Tryd.prog 162 _ (ReflectliteType.relation "Implements" ReflectliteType.implements_) Tryd.func162 (by kernel_rfl) (by kernel_rfl) (by kernel_rfl) (by kernel_rfl)
  have h10 := @run_callFunc_extern Tryd.prog 129 _ ReflectliteType.typeOf Tryd.func129 (by kernel_rfl) (by kernel_rfl) (by kernel_rfl) (by kernel_rfl)
  have h35 := @run_callFunc_extern Tryd.prog 159 _ (ReflectliteType.relation "AssignableTo" ReflectliteType.assignableTo) Tryd.func159 (by kernel_rfl) (by kernel_rfl) (by kernel_rfl) (by kernel_rfl)
  have h11 := @run_callFunc_extern Tryd.prog 130 _ (ReflectliteValue.method (ReflectliteValue.valueError "reflectlite.Value.Elem" 0) ReflectliteValue.elem) Tryd.func130 (by kernel_rfl) (by kernel_rfl) (by kernel_rfl) (by kernel_rfl)
  have h12 := @run_callFunc_extern Tryd.prog 131 _ ReflectliteValue.set Tryd.func131 (by kernel_rfl) (by kernel_rfl) (by kernel_rfl) (by kernel_rfl)
  have tO := typeOfN
  have tF := typeOfF
  have aF := assignableFN
  have mU := methodUnwrap
  have nA := noAs
  have hU := hasUw
  have mA := methodAssignableTo
  have a25 := assignableN
  have v25 := valueOfN
  have f6 := valueOfNp
  have f7 := typeNp
  have mK := methodKind
  have mE := methodElem
  have mI := methodImplements
  have k27 := kindNp
  have k25 := kindN
  have e27 := elemNp
  have i25 := implementsN
  have n8 := isNilNp ⟨w.heap.size, 0, none⟩ t ((w.alloc (.cells #[.pointer (some t)] 87)).alloc (.cells #[.pointer (some ⟨1, 87, none⟩), .pointer (some ⟨w.heap.size, 0, none⟩), .int .u64 150] 119)) (by simp)
  have hlt : 0 < w.heap.size := by
    rcases Nat.eq_zero_or_pos w.heap.size with h0 | h
    · simp [World.cell?, h0] at hg
    · exact h
  have hg2 : ((w.alloc (.cells #[.pointer (some t)] 87)).alloc (.cells #[.pointer (some ⟨1, 87, none⟩), .pointer (some ⟨w.heap.size, 0, none⟩), .int .u64 150] 119)).cell? ⟨0, 0, none⟩ = some (.iface 144 (.agg #[.pointer (some ⟨1, 29, none⟩)])) := by
    rw [World.cell?_alloc_lt _ _ ⟨0, 0, none⟩ (by simp), World.cell?_alloc_lt _ _ ⟨0, 0, none⟩ hlt]; exact hg
  have htl : t.block < w.heap.size := by
    rcases Nat.lt_or_ge t.block w.heap.size with h | h
    · exact h
    · simp [World.cell?, Array.getElem?_eq_none h] at ht0
  have el := elemVNp ⟨w.heap.size, 0, none⟩ t ((((w.alloc (.cells #[.pointer (some t)] 87)).alloc (.cells #[.pointer (some ⟨1, 87, none⟩), .pointer (some ⟨w.heap.size, 0, none⟩), .int .u64 150] 119)).alloc (.cells #[.pointer (some ⟨1, 87, none⟩), .pointer (some ⟨w.heap.size, 0, none⟩), .int .u64 150] 119)).alloc (.cells #[.int .i64 c, .int .i64 k] 89)) (by rw [World.cell?_alloc_lt _ _ ⟨w.heap.size, 0, none⟩ (by simp; omega), World.cell?_alloc_lt _ _ ⟨w.heap.size, 0, none⟩ (by simp; omega)]; simp)
  have st := setN t ⟨w.heap.size + 1 + 1 + 1 + 1, 0, none⟩ c old (((((w.alloc (.cells #[.pointer (some t)] 87)).alloc (.cells #[.pointer (some ⟨1, 87, none⟩), .pointer (some ⟨w.heap.size, 0, none⟩), .int .u64 150] 119)).alloc (.cells #[.pointer (some ⟨1, 87, none⟩), .pointer (some ⟨w.heap.size, 0, none⟩), .int .u64 150] 119)).alloc (.cells #[.int .i64 c, .int .i64 k] 89)).alloc (.cells #[.int .i64 c] 50))
    (by rw [World.cell?_alloc_at _ _ _ _ (by simp)]; rfl)
    (by rw [World.cell?_alloc_lt _ _ t (by simp; omega), World.cell?_alloc_lt _ _ t (by simp; omega), World.cell?_alloc_lt _ _ t (by simp; omega), World.cell?_alloc_lt _ _ t (by simp; omega), World.cell?_alloc_lt _ _ t htl]; exact ht0)
    (by rw [World.frozen?_alloc_old _ _ t (by simp; omega), World.frozen?_alloc_old _ _ t (by simp; omega), World.frozen?_alloc_old _ _ t (by simp; omega), World.frozen?_alloc_old _ _ t (by simp; omega), World.frozen?_alloc_old _ _ t (Nat.ne_of_lt htl)]; exact hf0)
  go_enter Tryd.func87, Tryd.ntmps87
  go_wp2
  refine wp_loop_rounds 2 ?_
  rw [rounds_succ]
  go_wp2
  rw [rounds_succ]
  go_wp2
  go_ret
  exact ⟨rfl, rfl⟩
end Go.Proofs.YtcedofkenfddkaaDoor.As
/- From the data of a statement's arguments to the readings of the walk. No condition. -/
namespace Go.Proofs.YtcedofkenfddkaaDoor
set_option linter.unusedVariables false
set_option linter.unusedSimpArgs false
open Go.ChangeShapes Go.WideShapes Go.ChangeAt Go.RowKit Go.Deep

set_option maxRecDepth 100000

section
variable {H : Type} {enc : TypeId × Value → H} {w : World} {base : Nat} {spare : Nat → Bool} {held : Bool}
instance : Inhabited Iv := ⟨⟨0, 0⟩⟩
theorem u64_nat {n : Int} (h : (Lit.int .u64 n).wf = true) : ∃ x : Nat, n = x ∧ x < M64 := by
  simp [Lit.wf, IntKind.min, IntKind.max, IntKind.signed, IntKind.bits] at h
  exact ⟨n.toNat, by omega, by rw [M64_val]; omega⟩
theorem trod_u64 {t : TypeId} {fuel : Nat} {cs : List Value} {x : DataW H × List MemPlace} (ht : Tryd.prog.underlying t = some (.int .u64)) (h : DataW.trod enc Tryd.prog w base spare held fuel t cs = some x) : ∃ n : Nat, cs = [.int .u64 n] ∧ n < M64 := by
  obtain ⟨n, rfl, _, hw⟩ := DataW.trod_int ht h
  obtain ⟨m, rfl, hm⟩ := u64_nat hw
  exact ⟨m, rfl, hm⟩
theorem add_block (a : Addr) (i : Nat) : (a.add i).block = a.block := by unfold Addr.add; split <;> rfl
/-- A slice, element by element. -/
theorem rdsl_open {α : Type} [Inhabited α] {t e : TypeId} {fuel sz : Nat} {cs : List Value} {x : DataW H × List MemPlace} (rd : World → Nat → Nat → α → Prop) (ht : Tryd.prog.underlying t = some (.slice e)) (hsz : Tryd.prog.cellsOf e = sz)
    (hel : ∀ (n : Nat) (a : Addr) (cs' : List Value) (y : DataW H × List MemPlace), w.cells? base a sz = some cs' → DataW.trod enc Tryd.prog w base spare held n e cs' = some y → a.spot = none ∧ a.block < w.heap.size ∧ ∃ x, rd w a.block a.off x)
    (h : DataW.trod enc Tryd.prog w base spare held fuel t cs = some x) : ∃ v l, cs = [v] ∧ RdSl sz rd 0 w.heap.size w v l := by
  rcases open_slice ht h with ⟨rfl, _⟩ | ⟨a, len, cap, m, n, D, Pl, rfl, hb, hl, hm, hmm, _, hx⟩
  · exact ⟨_, [], rfl, RdSl.nil _ _ (by decide)⟩
  have hlm : len ≤ m := by rw [hmm]; split <;> omega
  have each : ∀ i, i < len → ∃ y, (a.add (i * sz)).spot = none ∧ a.block < w.heap.size ∧ rd w a.block ((a.add (i * sz)).off) y := by
    intro i hi
    obtain ⟨cs', h1, h2⟩ := hx i (by omega)
    rw [hsz] at h1
    obtain ⟨e1, e2, y, e3⟩ := hel _ _ _ _ h1 h2
    rw [add_block] at e2 e3
    exact ⟨y, e1, e2, e3⟩
  obtain ⟨f, hf⟩ := choose_lt each
  refine ⟨_, (List.range len).map f, rfl, some a, cap, by simp, by simpa using hl, hm, fun hne => ?_⟩
  have hpos : 0 < len := by
    rcases Nat.eq_zero_or_pos len with h0 | h0
    · subst h0; simp at hne
    · exact h0
  obtain ⟨b, off, spot⟩ := a
  have hs : spot = none := by
    have := (hf 0 hpos).1
    simpa [Addr.add] using this
  subst hs
  refine ⟨b, off, rfl, Nat.zero_le _, (hf 0 hpos).2.1, fun i hi => ?_⟩
  have hi' : i < len := by simpa using hi
  have := (hf i hi').2.2
  have e : ((⟨b, off, none⟩ : Addr).add (i * sz)).off = off + i * sz := by unfold Addr.add; split <;> simp_all
  rw [e] at this
  simpa using this
/-- A struct of two fields of one cell each. -/
theorem pair_open {P : Program} {e : TypeId} {f0 f1 : Field} {n : Nat} {a : Addr} {cs : List Value} {y : DataW H × List MemPlace} (he : P.underlying e = some (.struct #[f0, f1])) (o0 : f0.offset = 0) (o1 : f1.offset = 1) (c0 : P.cellsOf f0.type = 1) (c1 : P.cellsOf f1.type = 1)
    (h1 : w.cells? base a 2 = some cs) (h2 : DataW.trod enc P w base spare held n e cs = some y) :
    ∃ v0 v1 k y0 y1, w.cell? a = some v0 ∧ w.cell? (a.add 1) = some v1 ∧ DataW.trod enc P w base spare held k f0.type [v0] = some y0 ∧ DataW.trod enc P w base spare held k f1.type [v1] = some y1 := by
  obtain ⟨_, hlen, hcell⟩ := World.cells?_some h1
  obtain ⟨xs, k, _, _, _, hxl, hf⟩ := DataW.trod_struct he h2
  match xs, hxl, cs, hlen with
  | [y0, y1], _, [v0, v1], _ =>
    have g0 := hf 0 f0 rfl
    have g1 := hf 1 f1 rfl
    simp [o0, o1, c0, c1] at g0 g1
    have e0 := hcell 0 (by omega)
    have e1 := hcell 1 (by omega)
    exact ⟨v0, v1, k, y0, y1, by simpa [Addr.add] using e0, by simpa using e1, g0, g1⟩
theorem iv_open {n : Nat} {a : Addr} {cs : List Value} {y : DataW H × List MemPlace} (h1 : w.cells? base a 2 = some cs) (h2 : DataW.trod enc Tryd.prog w base spare held n 46 cs = some y) : a.spot = none ∧ a.block < w.heap.size ∧ ∃ s, rdIv w a.block a.off s := by
  obtain ⟨v0, v1, k, y0, y1, e0, e1, g0, g1⟩ := pair_open Tryd.underlying46 rfl rfl (by kernel_rfl) (by kernel_rfl) h1 h2
  obtain ⟨lo, q0, hlo⟩ := trod_u64 Tryd.underlying24 g0
  obtain ⟨hi, q1, hhi⟩ := trod_u64 Tryd.underlying24 g1
  obtain rfl : v0 = _ := by simpa using q0
  obtain rfl : v1 = _ := by simpa using q1
  obtain ⟨b, off, spot⟩ := a
  obtain rfl : spot = none := World.cell?_spot e0
  exact ⟨rfl, World.block_lt_of_cell? _ _ e0, ⟨lo, hi⟩, e0, by simpa [Addr.add] using e1, hlo, hhi⟩
/-- An argument of type Ranges. -/
theorem ranges_open {fuel : Nat} {cs : List Value} {x : DataW H × List MemPlace} (h : DataW.trod enc Tryd.prog w base spare held fuel 23 cs = some x) : ∃ v l, cs = [v] ∧ RdR 0 w.heap.size w v l :=
  rdsl_open rdIv Tryd.underlying23 (by kernel_rfl) (fun _ _ _ _ h1 h2 => iv_open h1 h2) h
theorem open_ranges {r : Reach} {b0 : Nat} {v : Value} {d : DataW H} {ps : List MemPlace} (hval : Value.okWide Tryd.prog w r b0 23 v) (h : DataW.Trod enc Tryd.prog w base spare held 23 v d ps) : ∃ l, RdR 0 w.heap.size w v l := by
  obtain ⟨a, len, cap, rfl⟩ := okWide_slice Tryd.underlying23 hval
  obtain ⟨fuel, hf⟩ := h
  obtain ⟨v, l, hv, hl⟩ := ranges_open hf
  simp [Value.cells] at hv
  exact ⟨l, by rw [hv]; exact hl⟩
/-- An argument of type Interval. -/
theorem open_interval {r : Reach} {b0 : Nat} {v : Value} {d : DataW H} {ps : List MemPlace} (hval : Value.okWide Tryd.prog w r b0 46 v) (h : DataW.Trod enc Tryd.prog w base spare held 46 v d ps) : ∃ s : Iv, v = .agg #[.int .u64 s.lo, .int .u64 s.hi] ∧ s.lo < M64 ∧ s.hi < M64 := by
  obtain ⟨v0, v1, y0, y1, n, rfl, _, _, g0, g1⟩ := Go.Joins.open_agg2 Tryd.underlying46 (by kernel_rfl) (by kernel_rfl) hval h
  obtain ⟨lo, q0, hlo⟩ := trod_u64 Tryd.underlying24 g0
  obtain ⟨hi, q1, hhi⟩ := trod_u64 Tryd.underlying24 g1
  obtain rfl : v0 = _ := by simpa using q0
  obtain rfl : v1 = _ := by simpa using q1
  exact ⟨⟨lo, hi⟩, rfl, hlo, hhi⟩
theorem open_u64 {r : Reach} {b0 : Nat} {v : Value} {d : DataW H} {ps : List MemPlace} (hval : Value.okWide Tryd.prog w r b0 24 v) (h : DataW.Trod enc Tryd.prog w base spare held 24 v d ps) : ∃ n : Nat, v = .int .u64 n ∧ n < M64 := by
  obtain ⟨n, rfl, _, _, hw⟩ := open_int Tryd.underlying24 hval h
  obtain ⟨m, rfl, hm⟩ := u64_nat hw
  exact ⟨m, rfl, hm⟩
end
end Go.Proofs.YtcedofkenfddkaaDoor
