/- Texts of this claim, bound together: Q8 RefA Pf. -/
import Derived.BigQuiet
import Derived.Deep.QuietTactic
import Derived.Test.YtcedofkenfddkaaDoorB7
/- The operations on entries: what their results know, and the laws of chapter 8, without program. No condition. -/
namespace Go.Proofs.YtcedofkenfddkaaDoor
set_option linter.unusedVariables false
set_option linter.unusedSimpArgs false
/-- The entry that an operation returns. -/
def jn (f : Bool → Bool → Bool) (a b : En) : En × Bool := ofS a.rep (opS f (kn a) (kn b))
variable {f : Bool → Bool → Bool} {a b c : En}
theorem jn_right (ha : RightE a) (hb : RightE b) : RightE (jn f a b).1 := ofS_right ha.2.2.2 (opS_nrm (kn_nrm ha) (kn_nrm hb))
theorem jn_kn (ha : RightE a) (hb : RightE b) (h : (jn f a b).2 = true) : kn (jn f a b).1 = opS f (kn a) (kn b) :=
  kn_ofS ha.2.2.2 (opS_nrm (kn_nrm ha) (kn_nrm hb)) (by unfold jn at h; rw [ofS_2] at h; simpa using h)
theorem jn_can (ha : RightE a) (hb : RightE b) (h : (jn f a b).2 = true) : CanE (jn f a b).1 :=
  ofS_can ha.2.2.2 (opS_nrm (kn_nrm ha) (kn_nrm hb)) (by unfold jn at h; rw [ofS_2] at h; simpa using h)
theorem jn_2 : (jn f a b).2 = decide (opS f (kn a) (kn b) ≠ []) := ofS_2 _ _
theorem jn_len : (jn f a b).1.holes.length ≤ 8 * a.holes.length + 8 * b.holes.length + 29 := by
  have h1 := ofS_length a.rep (opS f (kn a) (kn b))
  have h2 := opS_length f (kn a) (kn b)
  have h3 := kn_length a
  have h4 := kn_length b
  unfold jn; omega
theorem jn_rep (h : (jn f a b).2 = true) : (jn f a b).1.rep = a.rep := by
  unfold jn at *
  rw [ofS_2] at h
  rw [ofS_cons (by simpa using h)]
/-- What is known by an entry with another counter. -/
def below (c : Nat) : List Iv := if c = 0 then [] else [⟨0, c - 1⟩]
def oneE (r c : Nat) : En := ⟨r, c, below c⟩
theorem below_len (c : Nat) : (below c).length ≤ 1 := by unfold below; split <;> simp
theorem oneE_right {r c : Nat} (hr : r < M64) (hc : c < M64) : RightE (oneE r c) := by
  refine ⟨?_, fun s hs => ?_, hc, hr⟩
  · show Nrm (below c)
    unfold below
    split
    · trivial
    · exact nrm_one (Nat.zero_le _) (by omega)
  · have hs : s ∈ below c := hs
    show s.hi ≤ c
    unfold below at hs
    split at hs
    · cases hs
    · simp at hs; subst hs; simp only; omega
theorem oneE_kn {r c : Nat} (hr : r < M64) (hc : c < M64) : kn (oneE r c) = [⟨c, c⟩] := by
  refine Nrm.unique (kn_nrm (oneE_right hr hc)) (nrm_one (Nat.le_refl _) hc) fun x hx => ?_
  rw [kn_mem (oneE_right hr hc) hx, mem_one]
  show (decide (x ≤ c) && !mem (below c) x) = _
  unfold below
  split
  · rename_i h; subst h; rw [Bool.eq_iff_iff]; simp
  · rw [mem_one, Bool.eq_iff_iff]; simp; omega
theorem ofS_one {r c : Nat} (hr : r < M64) (hc : c < M64) : ofS r [⟨c, c⟩] = (oneE r c, true) := by
  have h := can_ofS (e := oneE r c) ⟨oneE_right hr hc, fun s hs => by
    have hs : s ∈ below c := hs
    show s.hi < c
    unfold below at hs
    split at hs
    · cases hs
    · simp at hs; subst hs; simp only; omega⟩
  rw [oneE_kn hr hc] at h
  exact h
def addE (e : En) (c : Nat) : En := (jn fUnion e (oneE e.rep c)).1
theorem ops_ne {x : List Iv} {y : List Iv} (hx : Nrm x) (hy : Nrm y) {n : Nat} (hn : n < M64) (h : f (mem x n) (mem y n) = true) : opS f x y ≠ [] := by
  intro e
  have := opS_mem (f := f) hx hy hn
  rw [e, h] at this
  cases this
theorem addE_some {e : En} {c : Nat} (he : RightE e) (hc : c < M64) : (jn fUnion e (oneE e.rep c)).2 = true := by
  rw [jn_2]
  have := ops_ne (f := fUnion) (kn_nrm he) (kn_nrm (oneE_right he.2.2.2 hc)) hc (by rw [oneE_kn he.2.2.2 hc, mem_one]; simp [fUnion])
  simpa using this
theorem addE_right {e : En} {c : Nat} (he : RightE e) (hc : c < M64) : RightE (addE e c) := jn_right he (oneE_right he.2.2.2 hc)
theorem addE_kn {e : En} {c : Nat} (he : RightE e) (hc : c < M64) : kn (addE e c) = opS fUnion (kn e) [⟨c, c⟩] := by
  have := jn_kn he (oneE_right he.2.2.2 hc) (addE_some he hc)
  rw [oneE_kn he.2.2.2 hc] at this
  exact this
theorem addE_eq {e : En} {c : Nat} (he : RightE e) (hc : c < M64) : addE e c = (ofS e.rep (opS fUnion (kn e) [⟨c, c⟩])).1 := by
  unfold addE jn
  rw [oneE_kn he.2.2.2 hc]
theorem addE_has {e : En} {c : Nat} (he : RightE e) (hc : c < M64) : (decide (c ≤ (addE e c).max) && !mem (addE e c).holes c) = true := by
  rw [← kn_mem (addE_right he hc) hc, addE_kn he hc, opS_mem (kn_nrm he) (nrm_one (Nat.le_refl _) hc) hc, mem_one]
  simp [fUnion]
/-- The counter behind all that are known. -/
def nextE (e : En) : Nat × Bool := if kn e = [] then (0, true) else if top (kn e) = M64 - 1 then (0, false) else (top (kn e) + 1, true)
def canE (e : En) : En × Bool := ofS e.rep (kn e)
theorem addNext {e : En} (he : RightE e) (h1 : kn e ≠ []) (h2 : top (kn e) + 1 < M64) : (addE e (top (kn e) + 1)).max = top (kn e) + 1 ∧ (addE e (top (kn e) + 1)).holes = (canE e).1.holes := by
  have hn := nrm_one (Nat.le_refl (top (kn e) + 1)) h2
  have hk := kn_nrm he
  have ht := top_mem hk h1
  have hU : Nrm (opS fUnion (kn e) [⟨top (kn e) + 1, top (kn e) + 1⟩]) := opS_nrm hk hn
  have hne : opS fUnion (kn e) [⟨top (kn e) + 1, top (kn e) + 1⟩] ≠ [] := ops_ne hk hn ht.2 (by rw [ht.1]; rfl)
  have htop : top (opS fUnion (kn e) [⟨top (kn e) + 1, top (kn e) + 1⟩]) = top (kn e) + 1 := by
    have g1 := top_mem hU hne
    have g2 := top_ge hU (x := top (kn e) + 1) (by rw [opS_mem hk hn h2, mem_one]; simp [fUnion])
    have g3 := g1.1
    rw [opS_mem hk hn g1.2, mem_one] at g3
    simp [fUnion] at g3
    rcases g3 with g3 | g3
    · have := top_ge hk g3; omega
    · omega
  rw [addE_eq he h2, ofS_cons hne, htop]
  refine ⟨rfl, ?_⟩
  unfold canE
  rw [ofS_cons h1]
  simp only
  refine Nrm.unique (opS_nrm (nrm_one (Nat.zero_le _) h2) hU) (opS_nrm (nrm_one (Nat.zero_le _) ht.2) hk) fun x hx => ?_
  rw [opS_mem (nrm_one (Nat.zero_le _) h2) hU hx, opS_mem (nrm_one (Nat.zero_le _) ht.2) hk hx, opS_mem hk hn hx, mem_one, mem_one, mem_one]
  simp only [fMinus, fUnion]
  cases e1 : mem (kn e) x with
  | true => simp
  | false =>
    rw [Bool.eq_iff_iff]
    simp
    omega
/-! ### the algebra -/
theorem jn_comm (ha : RightE a) (hb : RightE b) (hr : a.rep = b.rep) : jn fUnion b a = jn fUnion a b := by
  unfold jn
  rw [hr, V_comm (kn_nrm ha) (kn_nrm hb)]
where V_comm {x y : List Iv} (hx : Nrm x) (hy : Nrm y) : opS fUnion y x = opS fUnion x y :=
  Nrm.unique (opS_nrm hy hx) (opS_nrm hx hy) fun z hz => by rw [opS_mem hy hx hz, opS_mem hx hy hz]; simp only [fUnion]; cases mem x z <;> cases mem y z <;> rfl
theorem jn_assoc (ha : RightE a) (hb : RightE b) (hc : RightE c) (hr : a.rep = b.rep) (h1 : (jn fUnion a b).2 = true) (h2 : (jn fUnion b c).2 = true) : jn fUnion (jn fUnion a b).1 c = jn fUnion a (jn fUnion b c).1 := by
  have e1 := jn_kn ha hb h1
  have e2 := jn_kn hb hc h2
  have e3 := jn_rep h1
  show ofS (jn fUnion a b).1.rep (opS fUnion (kn (jn fUnion a b).1) (kn c)) = ofS a.rep (opS fUnion (kn a) (kn (jn fUnion b c).1))
  rw [e1, e2, e3]
  congr 1
  have na := kn_nrm ha
  have nb := kn_nrm hb
  have nc := kn_nrm hc
  exact Nrm.unique (opS_nrm (opS_nrm na nb) nc) (opS_nrm na (opS_nrm nb nc)) fun z hz => by
    simp only [opS_mem, opS_nrm, na, nb, nc, hz, fUnion]
    cases mem (kn a) z <;> cases mem (kn b) z <;> cases mem (kn c) z <;> rfl
theorem meet_minus {x y : List Iv} (hx : Nrm x) (hy : Nrm y) : opS fUnion (opS fMeet x y) (opS fMinus x y) = x :=
  Nrm.unique (opS_nrm (opS_nrm hx hy) (opS_nrm hx hy)) hx fun z hz => by
    simp only [opS_mem, opS_nrm, hx, hy, hz, fUnion, fMeet, fMinus]
    cases mem x z <;> cases mem y z <;> rfl
theorem nil_iff {x : List Iv} (hx : Nrm x) : x = [] ↔ ∀ z, z < M64 → mem x z = false := by
  constructor
  · rintro rfl z _; rfl
  · intro h
    exact Nrm.unique hx trivial fun z hz => by rw [h z hz]; rfl
theorem known_iff (ha : RightE a) (hb : RightE b) : (canE a).2 = ((jn fMeet a b).2 || (jn fMinus a b).2) := by
  have na := kn_nrm ha
  have nb := kn_nrm hb
  have hp := meet_minus na nb
  rw [jn_2, jn_2]
  unfold canE
  rw [ofS_2]
  by_cases h : kn a = []
  · have e1 : opS fMeet (kn a) (kn b) = [] := (nil_iff (opS_nrm na nb)).2 fun z hz => by rw [opS_mem na nb hz, h]; rfl
    have e2 : opS fMinus (kn a) (kn b) = [] := (nil_iff (opS_nrm na nb)).2 fun z hz => by rw [opS_mem na nb hz, h]; rfl
    rw [e1, e2]
    simp [h]
  · by_cases e1 : opS fMeet (kn a) (kn b) = []
    · by_cases e2 : opS fMinus (kn a) (kn b) = []
      · rw [e1, e2] at hp
        exact absurd (hp.symm.trans ((nil_iff (opS_nrm (a := []) (b := []) trivial trivial)).2 fun z hz => by rw [opS_mem (a := []) (b := []) trivial trivial hz]; rfl)) h
      · simp [h, e2]
    · simp [h, e1]
theorem parts_both (ha : RightE a) (hb : RightE b) (h1 : (jn fMeet a b).2 = true) (h2 : (jn fMinus a b).2 = true) : jn fUnion (jn fMeet a b).1 (jn fMinus a b).1 = canE a := by
  show ofS (jn fMeet a b).1.rep (opS fUnion (kn (jn fMeet a b).1) (kn (jn fMinus a b).1)) = ofS a.rep (kn a)
  rw [jn_kn ha hb h1, jn_kn ha hb h2, jn_rep h1, meet_minus (kn_nrm ha) (kn_nrm hb)]
theorem parts_meet (ha : RightE a) (hb : RightE b) (h2 : (jn fMinus a b).2 = false) : (jn fMeet a b) = canE a := by
  have e : opS fMinus (kn a) (kn b) = [] := by rw [jn_2] at h2; simpa using h2
  have na := kn_nrm ha
  have nb := kn_nrm hb
  have : opS fMeet (kn a) (kn b) = kn a := Nrm.unique (opS_nrm na nb) na fun z hz => by
    have h3 := opS_mem (f := fMinus) na nb hz
    rw [e] at h3
    rw [opS_mem na nb hz]
    simp only [fMinus, fMeet, mem_nil] at *
    revert h3
    cases mem (kn a) z <;> cases mem (kn b) z <;> simp
  unfold jn canE
  rw [this]
theorem parts_minus (ha : RightE a) (hb : RightE b) (h2 : (jn fMeet a b).2 = false) : (jn fMinus a b) = canE a := by
  have e : opS fMeet (kn a) (kn b) = [] := by rw [jn_2] at h2; simpa using h2
  have na := kn_nrm ha
  have nb := kn_nrm hb
  have : opS fMinus (kn a) (kn b) = kn a := Nrm.unique (opS_nrm na nb) na fun z hz => by
    have h3 := opS_mem (f := fMeet) na nb hz
    rw [e] at h3
    rw [opS_mem na nb hz]
    simp only [fMinus, fMeet, mem_nil] at *
    revert h3
    cases mem (kn a) z <;> cases mem (kn b) z <;> simp
  unfold jn canE
  rw [this]
theorem minus_self {x : List Iv} (hx : Nrm x) : opS fMinus x x = [] := opS_eq hx hx trivial fun z hz => by simp [fMinus]
end Go.Proofs.YtcedofkenfddkaaDoor
/- The contracts of the references of the layers 3 and 4: Right, Relate, Check, Same. No condition but that the numbers are of 64 bits. -/
namespace Go.Proofs.YtcedofkenfddkaaDoor
set_option linter.unusedVariables false
set_option linter.unusedSimpArgs false
open Go.RowKit

theorem refRight_any (s : Iv) (w : World) : Calls Tryd.prog 108 #[.agg #[.int .u64 s.lo, .int .u64 s.hi]] w fun e w' => e = .returned (.bool (decide (s.lo ≤ s.hi))) ∧ Below w.heap.size w w' := by
  go_enter Tryd.func108, Tryd.ntmps108
  go_wp2
  go_ret
  exact ⟨rfl, (Below.refl _ _).alloc (Nat.le_refl _) _⟩

theorem refRight_is (s : Iv) (c : Bool) (h : decide (s.lo ≤ s.hi) = c) (w : World) : Calls Tryd.prog 108 #[.agg #[.int .u64 s.lo, .int .u64 s.hi]] w fun e w' => e = .returned (.bool c) ∧ Below w.heap.size w w' := by
  rw [← h]; exact refRight_any s w
theorem sub_one_eq {x y : Nat} (h : x < y) (hy : y < M64) : (IntKind.u64.wrap ((y : Int) - x) == 1) = decide (x + 1 = y) := by
  rw [wrap_sub (by omega) hy, Bool.eq_iff_iff]
  simp
  omega
theorem refRelate_any (s t : Iv) (w : World) (h1 : s.lo < M64) (h2 : t.lo < M64) :
    Calls Tryd.prog 109 #[.agg #[.int .u64 s.lo, .int .u64 s.hi], .agg #[.int .u64 t.lo, .int .u64 t.hi]] w fun e w' => e = .returned (.int .i64 (relate s t)) ∧ Below w.heap.size w w' := by
  have H : ∀ n : Nat, relate s t = n → Hid (relate s t = n) := fun _ h => h
  by_cases c1 : s.hi < t.lo
  · have g := sub_one_eq c1 h2
    by_cases c3 : s.hi + 1 = t.lo
    · have R := H 1 (by unfold relate; rw [if_pos c1, if_pos c3])
      rw [decide_eq_true c3] at g
      clear H c3
      go_enter Tryd.func109, Tryd.ntmps109
      go_wp2
      go_ret
      rw [R.out]
      exact ⟨rfl, ((Below.refl _ _).alloc (Nat.le_refl _) _).alloc (by simp) _⟩
    · have R := H 0 (by unfold relate; rw [if_pos c1, if_neg c3])
      rw [decide_eq_false c3] at g
      clear H c3
      go_enter Tryd.func109, Tryd.ntmps109
      go_wp2
      go_ret
      rw [R.out]
      exact ⟨rfl, ((Below.refl _ _).alloc (Nat.le_refl _) _).alloc (by simp) _⟩
  · by_cases c2 : t.hi < s.lo
    · have g := sub_one_eq c2 h1
      by_cases c3 : t.hi + 1 = s.lo
      · have R := H 3 (by unfold relate; rw [if_neg c1, if_pos c2, if_pos c3])
        rw [decide_eq_true c3] at g
        clear H c3
        go_enter Tryd.func109, Tryd.ntmps109
        go_wp2
        go_ret
        rw [R.out]
        exact ⟨rfl, ((Below.refl _ _).alloc (Nat.le_refl _) _).alloc (by simp) _⟩
      · have R := H 4 (by unfold relate; rw [if_neg c1, if_pos c2, if_neg c3])
        rw [decide_eq_false c3] at g
        clear H c3
        go_enter Tryd.func109, Tryd.ntmps109
        go_wp2
        go_ret
        rw [R.out]
        exact ⟨rfl, ((Below.refl _ _).alloc (Nat.le_refl _) _).alloc (by simp) _⟩
    · have R := H 2 (by unfold relate; rw [if_neg c1, if_neg c2])
      clear H
      go_enter Tryd.func109, Tryd.ntmps109
      go_wp2
      go_ret
      rw [R.out]
      exact ⟨rfl, ((Below.refl _ _).alloc (Nat.le_refl _) _).alloc (by simp) _⟩

/-- The error and the index of a list's check. -/
def chkL : Option Iv → List Iv → Nat → Nat × Int
  | _, [], _ => (0, -1)
  | p, s :: l, i => if s.lo ≤ s.hi then (if (match p with | none => 0 | some q => relate q s) = 0 then chkL (some s) l (i + 1) else (3, (i : Int))) else (2, (i : Int))
def chk (l : List Iv) : Nat × Int := chkL none l 0
theorem chkL_nf : ∀ (l : List Iv) (p : Option Iv) (i : Nat), (∀ s ∈ l, s.hi < M64) → ((chkL p l i).1 = 0 ↔ match p with | none => NF 0 l | some q => (∀ s ∈ l, s.lo ≤ s.hi → relate q s = 0 ∨ True) ∧ (l = [] ∨ ∃ s r, l = s :: r ∧ s.lo ≤ s.hi ∧ relate q s = 0 ∧ NF (s.hi + 2) r))
  | [], p, i, _ => by cases p <;> simp [chkL, NF]
  | s :: l, p, i, hb => by
    have ih := chkL_nf l (some s) (i + 1) (fun t ht => hb t (by simp [ht]))
    have hs := hb s (by simp)
    have key : (chkL (some s) l (i + 1)).1 = 0 ↔ NF (s.hi + 2) l := by
      rw [ih]
      constructor
      · rintro ⟨_, rfl | ⟨t, r, rfl, h1, h2, h3⟩⟩
        · trivial
        · refine ⟨?_, h1, hb t (by simp), h3⟩
          unfold relate at h2
          split at h2
          · split at h2
            · cases h2
            · omega
          · split at h2
            · split at h2 <;> cases h2
            · cases h2
      · intro h
        refine ⟨fun _ _ _ => .inr trivial, ?_⟩
        cases l with
        | nil => exact .inl rfl
        | cons t r =>
          have := h.1
          exact .inr ⟨t, r, rfl, h.2.1, by unfold relate; rw [if_pos (by omega), if_neg (by omega)], h.2.2.2⟩
    unfold chkL
    by_cases h1 : s.lo ≤ s.hi
    · rw [if_pos h1]
      cases p with
      | none =>
        simp only [if_true]
        rw [key]
        exact ⟨fun h => ⟨Nat.zero_le _, h1, hs, h⟩, fun h => h.2.2.2⟩
      | some q =>
        simp only
        by_cases h2 : relate q s = 0
        · rw [if_pos h2, key]
          exact ⟨fun h => ⟨fun _ _ _ => .inr trivial, .inr ⟨s, l, rfl, h1, h2, h⟩⟩, fun h => by
            rcases h.2 with h | ⟨t, r, e, _, _, h⟩
            · cases h
            · cases e; exact h⟩
        · rw [if_neg h2]
          simp
          intro _ h; exact absurd h h2
    · rw [if_neg h1]
      cases p with
      | none => simp [NF, h1]
      | some q =>
        simp
        intro h; exact absurd h h1
theorem chk_nrm {l : List Iv} (h : ∀ s ∈ l, s.hi < M64) : (chk l).1 = 0 ↔ Nrm l := chkL_nf l none 0 h
theorem chkL_step {l : List Iv} {k : Nat} {p : Option Iv} (h : k < l.length) : chkL p (l.drop k) k = if l[k].lo ≤ l[k].hi then (if (match p with | none => 0 | some q => relate q l[k]) = 0 then chkL (some l[k]) (l.drop (k + 1)) (k + 1) else (3, (k : Int))) else (2, (k : Int)) := by
  rw [List.drop_eq_getElem_cons h]; rfl

def chkAt (l : List Iv) (k : Nat) (s : Iv) : Prop := chk l = chkL (if k = 0 then none else l[k - 1]?) (l.drop k) k ∧ (chkL (if k = 0 then none else l[k - 1]?) (l.drop k) k = if (match (if k = 0 then none else l[k - 1]?) with | none => 0 | some q => relate q s) = 0 then chkL (some s) (l.drop (k + 1)) (k + 1) else (3, (k : Int)))
theorem refCheck_next {l : List Iv} {k : Nat} {s : Iv} (h : k < l.length) (hs : s = l[k]) (ha : chkAt l k s) (k0 : k = 0) : Hid (chk l = chkL (if k + 1 = 0 then none else l[k + 1 - 1]?) (l.drop (k + 1)) (k + 1)) := by
  subst k0
  show _ = _
  rw [ha.1, ha.2]
  simp only [if_true, Nat.zero_add, Nat.one_ne_zero, if_false, Nat.sub_self, List.getElem?_eq_getElem h, ← hs]
theorem refCheck_next2 {l : List Iv} {j : Nat} {s q : Iv} (h : j + 1 < l.length) (hs : s = l[j + 1]) (ha : chkAt l (j + 1) s) (hq : q = l[j]) (hr : relate q s = 0) : Hid (chk l = chkL (if j + 2 = 0 then none else l[j + 2 - 1]?) (l.drop (j + 2)) (j + 2)) := by
  have e := ha.1.trans ha.2
  simp [List.getElem?_eq_getElem h, ← hs, List.getElem?_eq_getElem (show j < l.length by omega), ← hq, hr] at e
  show _ = _
  rw [e]
  simp [List.getElem?_eq_getElem h, ← hs]
theorem refCheck_last {l : List Iv} {j r : Nat} {s q : Iv} (h : j + 1 < l.length) (ha : chkAt l (j + 1) s) (hq : q = l[j]) (hr : relate q s = r + 1) : chk l = (3, ((j + 1 : Nat) : Int)) := by
  rw [ha.1, ha.2]
  simp [List.getElem?_eq_getElem (show j < l.length by omega), ← hq, hr]

set_option maxHeartbeats 2000000 in
set_option maxRecDepth 100000 in
theorem refCheck_any (l : List Iv) (v : Value) (w : World) (hl : RdR 0 w.heap.size w v l) :
    Calls Tryd.prog 83 #[v] w fun e w' => e = .returned (.tuple #[.int .i64 ((chk l).1 : Int), .int .i64 (chk l).2]) ∧ Below w.heap.size w w' := by
  have hbd := hl.bound
  obtain ⟨a, cap, rfl, hlc, hcm, hc⟩ := hl
  unfold maxLen at hcm
  go_enter Tryd.func83, Tryd.ntmps83
  go_wp2_with fail
  go_loopg [4] (l.length + 1) (fun g i wr => ∃ k : Nat, k ≤ l.length ∧ g = l.length - k + 1 ∧ i = .int .i64 k ∧ Hid (chk l = chkL (if k = 0 then none else l[k - 1]?) (l.drop k) k) ∧ Below w.heap.size w wr)
  case atStart => exact ⟨0, Nat.zero_le _, rfl, rfl, rfl, Below.refl _ _⟩
  case round =>
    obtain ⟨k, hk, rfl, rfl, hn, hB⟩ := hrel
    by_cases hlt : k < l.length
    · obtain ⟨b, off, rfl, _, hb, hcell⟩ := hc (by intro e; subst e; simp at hlt)
      obtain ⟨g1, g2, g3, g4⟩ := hcell k hlt
      have hs := chkL_step (p := if k = 0 then none else l[k - 1]?) hlt
      obtain ⟨s, hsd⟩ : ∃ s, s = l[k] := ⟨_, rfl⟩
      rw [← hsd] at g1 g2 g3 g4 hs
      have c1 : wr.cell? ⟨b, off + k * 2, none⟩ = some (.int .u64 s.lo) := (hB.cell (p := ⟨b, _, none⟩) hb).trans g1
      have c2 : wr.cell? ⟨b, off + k * 2 + 1, none⟩ = some (.int .u64 s.hi) := (hB.cell (p := ⟨b, _, none⟩) hb).trans g2
      have hsz := hB.size
      clear g1 g2
      by_cases t1 : s.lo ≤ s.hi
      · rw [if_pos t1] at hs
        have HR := Lib.hid (fun W => refRight_is s true (by simpa using t1) W)
        have HN : Hid (chkAt l k s ∧ s = l[k] ∧ ∀ (i : Nat) (h : i < l.length), rdIv w b (off + i * 2) l[i]) := ⟨⟨hn.out, hs⟩, hsd, hcell⟩
        clear hs hn hcell hc hsd t1
        go_upto_region 6 with (go_at_call 108; refine (HR.out _).mono ?_; rintro e w1 ⟨rfl, hb1⟩)
        by_cases k0 : k = 0
        · have hz : decide ((0:Int) < k) = false := by simp; omega
          refine regG 15 34 (fun _ => True) (by kernel_rfl) (by kernel_rfl) rfl trivial ?_
          simp only [List.take_succ_cons, List.take_zero]
          repeat (first
            | (refine wdet ?_ rfl (fun a w hc _ hr => ?_) ?_; rotate_left; (simp [Rds, rdsO, lk, Op.operands, Call.operands, RdEq] at hr; go_simp; with_reducible rfl); dsimp only [List.nil_append, List.cons_append])
            | (refine wskip rfl ?_ ?_; (first | exact .inl (isV_eq rfl rfl) | exact .inr (isV_eq rfl rfl)); dsimp only [List.nil_append, List.cons_append])
            | (refine wdetg rfl ?_ ?_ (fun a w hc _ hr => ?_) ?_; exact (isV_eq rfl rfl); rotate_left; (simp [Rds, rdsO, lk, Op.operands, Call.operands, RdEq] at hr; go_simp; with_reducible rfl); dsimp only [List.nil_append, List.cons_append]))
          intro w2 hc2 hk2
          simp only [finG, forall_eq, List.nil_append, List.cons_append, List.drop_succ_cons, List.drop_zero, List.drop_nil]
          simp only [Act.put, List.setIfInBounds_toArray, List.set_cons_succ, List.set_cons_zero]
          have hk3 : Keep NoB w1 w2 := ((Keep.refl NoB w1).drew).trans hk2
          have HZ := Lib.hid k0
          clear hc2 hk2 k0 hz
          go_wp2
          go_roundg (l.length - k)
          case measure => simp
          case rel => exact ⟨k + 1, by omega, by omega, by go_num, refCheck_next hlt HN.out.2.1 HN.out.1 HZ.out, hB.trans ((hb1.trans (hk3.below hb1.size fun _ _ => id)).mono hsz)⟩
        · obtain ⟨j, rfl⟩ : ∃ j, k = j + 1 := ⟨k - 1, by omega⟩
          obtain ⟨q1, q2, q3, q4⟩ := HN.out.2.2 j (by omega)
          obtain ⟨q, hq⟩ : ∃ q, q = l[j] := ⟨_, rfl⟩
          rw [← hq] at q1 q2 q3 q4
          have HQ := Lib.hid hq
          clear hq k0
          have kb : Below w.heap.size w w1 := hB.trans (hb1.mono hsz)
          have d1 : w1.cell? ⟨b, off + j * 2, none⟩ = some (.int .u64 q.lo) := (kb.cell (p := ⟨b, _, none⟩) hb).trans q1
          have d2 : w1.cell? ⟨b, off + j * 2 + 1, none⟩ = some (.int .u64 q.hi) := (kb.cell (p := ⟨b, _, none⟩) hb).trans q2
          have e1 : w1.cell? ⟨b, off + (j + 1) * 2, none⟩ = some (.int .u64 s.lo) := (hb1.cell (p := ⟨b, _, none⟩) (by simpa using Nat.lt_of_lt_of_le hb hsz)).trans c1
          have e2 : w1.cell? ⟨b, off + (j + 1) * 2 + 1, none⟩ = some (.int .u64 s.hi) := (hb1.cell (p := ⟨b, _, none⟩) (by simpa using Nat.lt_of_lt_of_le hb hsz)).trans c2
          have hw : IntKind.i64.wrap (j : Int) = (j : Int) := by rw [IntWalk.i64_in]; omega
          have i1 : ((j : Nat) : Int) < l.length := by omega
          have i2 : ((j : Nat) : Int) + 1 < l.length := by omega
          have i3 : (0 : Int) ≤ (j : Int) + 1 := by omega
          have hz : decide ((0:Int) < ((j + 1 : Nat) : Int)) = true := by simp
          clear q1 q2
          refine regG 15 34 (fun w' => w'.cell? ⟨b, off + j * 2, none⟩ = some (.int .u64 q.lo) ∧ w'.cell? ⟨b, off + j * 2 + 1, none⟩ = some (.int .u64 q.hi) ∧ w'.cell? ⟨b, off + (j + 1) * 2, none⟩ = some (.int .u64 s.lo) ∧ w'.cell? ⟨b, off + (j + 1) * 2 + 1, none⟩ = some (.int .u64 s.hi)) (by kernel_rfl) (by kernel_rfl) rfl ⟨d1, d2, e1, e2⟩ ?_
          simp only [List.take_succ_cons, List.take_zero]
          repeat (first
            | (refine wdet ?_ rfl (fun a w hc _ hr => ?_) ?_; rotate_left; (simp [Rds, rdsO, lk, Op.operands, Call.operands, RdEq] at hr; go_simp; with_reducible rfl); dsimp only [List.nil_append, List.cons_append])
            | (refine wskip rfl ?_ ?_; (first | exact .inl (isV_eq rfl rfl) | exact .inr (isV_eq rfl rfl)); dsimp only [List.nil_append, List.cons_append])
            | (refine wdetg rfl ?_ ?_ (fun a w hc _ hr => ?_) ?_; exact (isV_eq rfl rfl); rotate_left; (simp [Rds, rdsO, lk, Op.operands, Call.operands, RdEq] at hr; go_simp; with_reducible rfl); dsimp only [List.nil_append, List.cons_append]))
          refine wgeng (fun u _ => u = (.int .i64 ((relate q s : Nat) : Int))) (eqV_stab _) rfl (isV_eq rfl rfl) ?_ ?_
          · intro a2 w2 hc hk hr K hK
            have HK := Lib.hid hK
            clear hK
            simp [Rds, rdsO, lk, Op.operands, Call.operands, RdEq] at hr
            go_simp
            refine (refRelate_any q s _ q3 g3).mono ?_
            rintro e w3 ⟨rfl, hb3⟩
            have hkb : Keep NoB w2 w3 := Keep.of_below' hb3 (Nat.le_refl _)
            exact HK.out _ _ hkb ⟨hkb.cell_some hc.1 id, hkb.cell_some hc.2.1 id, hkb.cell_some hc.2.2.1 id, hkb.cell_some hc.2.2.2 id⟩ rfl
          dsimp only [List.nil_append, List.cons_append]
          obtain ⟨r, hr⟩ : ∃ r, relate q s = r := ⟨_, rfl⟩
          rw [hr]
          have HR2 := Lib.hid hr
          clear hr
          cases r with
          | zero =>
            repeat (first
              | (refine wdet ?_ rfl (fun a w hc _ hr => ?_) ?_; rotate_left; (simp [Rds, rdsO, lk, Op.operands, Call.operands, RdEq] at hr; go_simp; with_reducible rfl); dsimp only [List.nil_append, List.cons_append])
              | (refine wskip rfl ?_ ?_; (first | exact .inl (isV_eq rfl rfl) | exact .inr (isV_eq rfl rfl)); dsimp only [List.nil_append, List.cons_append])
              | (refine wdetg rfl ?_ ?_ (fun a w hc _ hr => ?_) ?_; exact (isV_eq rfl rfl); rotate_left; (simp [Rds, rdsO, lk, Op.operands, Call.operands, RdEq] at hr; go_simp; with_reducible rfl); dsimp only [List.nil_append, List.cons_append]))
            intro w2 hc2 hk2
            simp only [finG, forall_eq, List.nil_append, List.cons_append, List.drop_succ_cons, List.drop_zero, List.drop_nil]
            simp only [Act.put, List.setIfInBounds_toArray, List.set_cons_succ, List.set_cons_zero]
            have hk3 : Keep NoB w1 w2 := ((Keep.refl NoB w1).drew).trans hk2
            clear hc2 hk2 hz i1 hw
            go_wp2
            go_roundg (l.length - (j + 1))
            case measure => simp
            case rel => exact ⟨j + 2, by omega, by omega, by go_num, refCheck_next2 hlt HN.out.2.1 HN.out.1 HQ.out HR2.out, hB.trans ((hb1.trans (hk3.below hb1.size fun _ _ => id)).mono hsz)⟩
          | succ r =>
            have hd : decide (((r + 1 : Nat) : Int) = 0) = false := by simp; omega
            repeat (first
              | (refine wdet ?_ rfl (fun a w hc _ hr => ?_) ?_; rotate_left; (simp [Rds, rdsO, lk, Op.operands, Call.operands, RdEq] at hr; go_simp; with_reducible rfl); dsimp only [List.nil_append, List.cons_append])
              | (refine wskip rfl ?_ ?_; (first | exact .inl (isV_eq rfl rfl) | exact .inr (isV_eq rfl rfl)); dsimp only [List.nil_append, List.cons_append])
              | (refine wdetg rfl ?_ ?_ (fun a w hc _ hr => ?_) ?_; exact (isV_eq rfl rfl); rotate_left; (simp [Rds, rdsO, lk, Op.operands, Call.operands, RdEq] at hr; go_simp; with_reducible rfl); dsimp only [List.nil_append, List.cons_append]))
            intro w2 hc2 hk2
            simp only [finG, forall_eq, List.nil_append, List.cons_append, List.drop_succ_cons, List.drop_zero, List.drop_nil]
            simp only [Act.put, List.setIfInBounds_toArray, List.set_cons_succ, List.set_cons_zero]
            have hk3 : Keep NoB w1 w2 := ((Keep.refl NoB w1).drew).trans hk2
            clear hc2 hk2 hz i1 hw
            go_wp2
            go_ret2
            rw [refCheck_last hlt HN.out.1 HQ.out HR2.out]
            exact ⟨rfl, hB.trans ((hb1.trans (hk3.below hb1.size fun _ _ => id)).mono hsz)⟩
      · have HV : Hid (chk l = (2, (k : Int))) := by rw [hn.out, hs, if_neg t1]; rfl
        have hd1 : decide (s.lo ≤ s.hi) = false := by simpa using t1
        have HR := Lib.hid (fun W => refRight_is s _ hd1 W)
        clear hs hn hcell hc hsd hd1 t1
        go_wp2_with (go_at_call 108; refine (HR.out _).mono ?_; rintro e w1 ⟨rfl, hb1⟩)
        go_ret2
        rw [HV.out]
        exact ⟨rfl, hB.trans (hb1.mono hsz)⟩
    · have hkl : k = l.length := by omega
      have HV : Hid (chk l = (0, -1)) := by rw [hn.out, hkl, List.drop_length]; cases (if l.length = 0 then none else l[l.length - 1]?) <;> rfl
      clear hn
      go_wp2
      go_ret2
      rw [HV.out]
      exact ⟨rfl, hB⟩
end Go.Proofs.YtcedofkenfddkaaDoor
/- A function keeps its contract if what is asked of its text holds; and what a contract says of the machine. No condition. -/
namespace Go.Proofs.YtcedofkenfddkaaDoor
set_option linter.unusedVariables false
set_option linter.unusedSimpArgs false
open Go.RowKit
variable {P : Program}

def enumP : Nat → List PV → List (Nat × PV)
  | _, [] => []
  | k, p :: ps => (k, p) :: enumP (k + 1) ps
theorem lkp_enum : ∀ (ps : List PV) (k i : Nat), lkp (enumP k ps) i = if k ≤ i then ps.getD (i - k) .und else .und
  | [], k, i => by simp [enumP, lkp]
  | p :: ps, k, i => by
    simp only [enumP, lkp]
    by_cases h : k = i
    · subst h; simp
    · rw [if_neg h, lkp_enum ps (k + 1) i]
      by_cases h2 : k + 1 ≤ i
      · rw [if_pos h2, if_pos (by omega)]
        obtain ⟨d, hd⟩ : ∃ d, i - k = d + 1 := ⟨i - k - 1, by omega⟩
        rw [hd, show i - (k + 1) = d from by omega]
        rfl
      · rw [if_neg h2, if_neg (by omega)]
def PV.resD : PV → Bool
  | .agg cs => allD cs
  | p => p.isD
def tupV : List Value → Value
  | [u] => u
  | us => .tuple us.toArray
/-- Where a result lies: in a slot, or in a variable of the call's own (whether a struct, its cells). -/
inductive RV where
  | t (i : Nat)
  | c (i : Nat) (ag : Bool) (n : Nat)
def RV.get (s : PS) : RV → Option PV
  | .t i => some (s.get i)
  | .c i ag n => match s.get i with
    | .bx j o => match s.b[j]? with
      | some cs => match ag with
        | true => if o + n ≤ cs.length then some (.agg ((cs.drop o).take n)) else none
        | false => cs[o]?
      | none => none
    | _ => none
def rvs (s : PS) : List RV → Option (List PV)
  | [] => some []
  | r :: l => (r.get s).bind fun p => (rvs s l).map fun ps => p :: ps
/-- What a function returns. -/
def RetOk (rs : List RV) (s : PS) (r : PV) : Prop := match rs with
  | [.t t] => SubP 0 (s.get t) r
  | [x] => match x.get s with
    | some p => p.resD = true ∧ SubP 0 p.sh r ∧ r.own = none
    | none => False
  | rs => match rvs s rs with
    | some ps => ps.all PV.resD = true ∧ SubP 0 (.tup (ps.map PV.sh)) r
    | none => False
def postF (rs : List RV) (r : PV) : PX → PS → Prop
  | .x _, _ => False
  | _, s => RetOk rs s r
def compR (P : Program) : ResultVar → Option RV
  | .tmp t => some (.t t)
  | .cell a t => (shp P t).bind fun (ag, n) => if ag || n == 1 then some (.c a ag n) else none
def compRs (P : Program) : List ResultVar → Option (List RV)
  | [] => some []
  | r :: l => (compR P r).bind fun x => (compRs P l).map fun xs => x :: xs
section
variable {B : Bs} {nt : Nat} {g : Gh} {s : PS} {a : Act} {w : World}
def resRun (tmps : Array Value) : ResultVar → Sem Value
  | .tmp t => pure (tmps.getD t undef)
  | .cell a t => do loadVar t (← asAddr (tmps.getD a undef))
/-- A result's value. -/
theorem rv_one (h : R B g s (slt a) w) {rv : ResultVar} {x : RV} {p : PV} (hc : compR P rv = some x) (hg : x.get s = some p) (hd : p.resD = true) : ∃ u, (resRun a.tmps rv).run P w = .ok u w ∧ Dat g.D w u p.sh := by
  cases rv with
  | tmp t =>
    cases hc
    simp only [RV.get, Option.some.injEq] at hg
    subst hg
    have hD : (s.get t).isD = true := by
      revert hd
      cases s.get t <;> intro hd <;> first | exact hd | rfl
    exact ⟨_, rfl, ((h.slots t).data hD).sh⟩
  | cell i t =>
    simp only [compR, Option.bind_eq_some_iff] at hc
    obtain ⟨⟨ag, n⟩, hs, hc⟩ := hc
    simp only at hc
    split at hc
    · rename_i hcond
      cases hc
      simp only [RV.get] at hg
      split at hg
      · rename_i j o e
        have hr := h.slots i
        rw [e] at hr
        obtain ⟨hj, e1⟩ := hr.inv_bx
        split at hg
        · rename_i cs hcs
          obtain ⟨hW, vs, e', hv, hz, hb⟩ := h.boxes j cs hcs
          have hcell : ∀ k, k < cs.length → w.cell? ⟨g.ρ j, 0 + k, none⟩ = some (vs.getD k undef) ∧ (vs.getD k undef).oneCell' = true := fun k hk => by
            refine ⟨?_, (hb k _ (List.getElem?_eq_getElem hk)).2⟩
            simp only [World.cell?, hv]
            simp [show k < vs.size by omega]
          have hq : qAt cs o ag n fun y => y = p := by
            unfold qAt
            cases ag with
            | true =>
              simp only at hg ⊢
              split at hg
              · rename_i hle; cases hg; exact ⟨hle, rfl⟩
              · cases hg
            | false =>
              simp only at hg ⊢
              rw [hg]
          have hall : ag = true → allD ((cs.drop o).take n) = true := fun e => by
            subst e
            simp only at hg
            split at hg
            · cases hg; exact hd
            · cases hg
          obtain ⟨u, p', g1, g2, rfl⟩ := qAt_load (P := P) (D := g.D) (ρ := g.ρ) (nb := s.b.length) hs hq hcell (fun k q hq => (hb k q hq).1) hall
          refine ⟨u, ?_, (g2.data ?_).sh⟩
          · rw [Nat.zero_add] at g1
            have e2 : a.tmps.getD i undef = .pointer (some ⟨g.ρ j, o, none⟩) := e1
            simp only [resRun, e2, asAddr, Sem.run_bind, Sem.run_pure, Result.andThen_ok, g1]
          · revert hd
            cases p' <;> intro hd <;> first | exact hd | rfl
        · cases hg
      · cases hg
    · cases hc
theorem rv_all (h : R B g s (slt a) w) : ∀ {l : List ResultVar} {rs : List RV} {ps : List PV}, compRs P l = some rs → rvs s rs = some ps → ps.all PV.resD = true →
    ∃ us : List Value, (l.mapM (resRun a.tmps)).run P w = .ok us w ∧ us.length = ps.length ∧ l.length = rs.length ∧ ∀ (i : Nat) p, ps[i]? = some p → Dat g.D w (us.getD i undef) p.sh
  | [], rs, ps, hc, hp, _ => by cases hc; cases hp; exact ⟨[], rfl, rfl, rfl, fun i p h => by simp at h⟩
  | r :: l, rs, ps, hc, hp, hd => by
    simp only [compRs, Option.bind_eq_some_iff, Option.map_eq_some_iff] at hc
    obtain ⟨x, hx, xs, hxs, rfl⟩ := hc
    simp only [rvs, Option.bind_eq_some_iff, Option.map_eq_some_iff] at hp
    obtain ⟨p, hp, qs, hq, rfl⟩ := hp
    simp only [List.all_cons, Bool.and_eq_true] at hd
    obtain ⟨u, h1, h2⟩ := rv_one h hx hp hd.1
    obtain ⟨us, h3, h4, h5, h6⟩ := rv_all h hxs hq hd.2
    refine ⟨u :: us, by simp only [List.mapM_cons, Sem.run_bind, h1, Result.andThen_ok, h3, Sem.run_pure], by simp [h4], by simp [h5], fun i q hi => ?_⟩
    cases i with
    | zero => simp at hi; subst hi; exact h2
    | succ i => simpa using h6 i q (by simpa using hi)
theorem results_eq (fn : Func) (tmps : Array Value) {us : List Value} (h : (fn.results.toList.mapM (resRun tmps)).run P w = .ok us w) : (results fn tmps).run P w = .ok (tupV us) w := by
  unfold results
  rw [Array.mapM_eq_mapM_toList]
  simp only [Sem.run_bind, Sem.run_map]
  erw [h]
  simp only [Result.andThen_ok, Sem.run_pure]
  match us with
  | [] => rfl
  | [u] => rfl
  | u :: v :: l => simp [tupV]
end
theorem dat0 {D : Nat → Nat → Prop} {ρ : Nat → Nat} {w : World} {u : Value} {p : PV} (h : Rel D ρ 0 w u p) : Dat D w u p := by
  have h1 : ∀ {u p}, Rel1 D ρ 0 w u p → Dat D w u p := fun h => by
    rcases h with h | ⟨i, o, _, hi, _⟩
    · exact h
    · omega
  rcases h with h | ⟨f, va, vb, fs, cs, rfl, rfl, h3, h4, h5, h6⟩
  · exact h1 h
  · exact .fn f va vb fs cs h3 h4 (fun i p hp => h1 (h5 i p hp)) (fun i p hp => h1 (h6 i p hp))
theorem enters_fn {f : FuncId} {fn : Func} {c : Code} (hf : P.funcs[f]? = some fn) (hn : (fn.name == "runtime.NumGoroutine") = false) (hb : fn.body = some c) : ∀ args w, (callFunc f args).run P w = .ok (.enter f args) w := by
  intro args w
  have hn' : ¬ fn.name = "runtime.NumGoroutine" := by simpa using hn
  simp [callFunc, hf, hn', hb]
theorem cn_of {f : FuncId} {fn : Func} {c : Code} {pc : PC} (ms : List Nat) (hf : P.funcs[f]? = some fn) (hn : (fn.name == "runtime.NumGoroutine") = false) (hb : fn.body = some c) (rs : List RV) (hr : compRs P fn.results.toList = some rs) (nt : Nat) (hnt : fn.ntmps = nt) (hc : compC P nt ms c = some pc) {ps : List PV} {r : PV}
    (hps : ∀ p ∈ ps, p.own = none) (hl : ps.length ≤ nt) (hvc : pW P nt True pc (postF rs r) ⟨enumP 0 ps, []⟩) : Cn P f ps r := by
  refine ⟨enters_fn hf hn hb, fun D w vs hgl hD hsz hd => calls_of_wp hf hb ?_⟩
  subst hnt
  obtain ⟨a, ha⟩ : ∃ a : Act, ({ tmps := vs ++ Array.replicate (fn.ntmps - vs.size) undef, defers := [] } : Act) = a := ⟨_, rfl⟩
  rw [ha]
  have hR : RA ⟨w, D, fun _ => False, hgl⟩ fn.ntmps ⟨D, fun _ => 0⟩ ⟨enumP 0 ps, []⟩ a w := by
    have hget : ∀ t, (⟨enumP 0 ps, []⟩ : PS).get t = ps.getD t .und := fun t => by
      show lkp (enumP 0 ps) t = _
      rw [lkp_enum]; simp
    have hown : ∀ u p, Slot ⟨D, fun _ => 0⟩ ⟨enumP 0 ps, []⟩ (slt a) w u p → p.own = none := by
      rintro u p (⟨t, rfl, rfl⟩ | ⟨i, j, cs, h1, _⟩)
      · rw [hget, List.getD_eq_getElem?_getD]
        cases h : ps[t]? with
        | none => rfl
        | some p => exact hps p (List.mem_of_getElem? h)
      · simp at h1
    refine ⟨⟨fun t => ?_, fun i cs h => by simp at h, fun i j h => by simp at h, fun u p h => ownOk_none (hown u p h), fun u p u' p' b h _ ho => absurd (hown u p h) ho, fun u p b i h ho => absurd (hown u p h) ho, hD, fun i h => by simp at h, ⟨rfl, rfl, rfl, Nat.le_refl _, fun _ _ _ => rfl, fun _ _ h => h, fun _ _ _ _ h => h, fun _ _ h => .inl h, hD⟩⟩, by rw [← ha], by rw [← ha]; simp; omega⟩
    rw [hget, List.getD_eq_getElem?_getD]
    cases h : ps[t]? with
    | none => exact .dat (.und _)
    | some p =>
      have := hd t p h
      have ht : t < vs.size := by rw [hsz]; exact (List.getElem?_eq_some_iff.1 h).1
      have e : slt a t = vs.getD t undef := by
        rw [← ha]
        simp [slt, Array.getElem?_append_left ht]
      rw [e]; exact .dat this
  refine wp_mono (pW_sound (B := ⟨w, D, fun _ => False, hgl⟩) (fun _ _ h => h) c pc hc _ _ _ a w hvc hR) fun e a' w' he => ?_
  have fin : ∀ s g, RA ⟨w, D, fun _ => False, hgl⟩ fn.ntmps g s a' w' → RetOk rs s r → bodyPost P fn (fun e w' => ∃ v D', e = .returned v ∧ Below w.heap.size w w' ∧ (∀ b o, D b o → D' b o) ∧ (∀ b o, D' b o → D b o ∨ w.heap.size ≤ b) ∧ (∀ b o, D' b o → b < w'.heap.size) ∧ Dat D' w' v r ∧ OwnOk D' (fun k => w.heap.size ≤ k) w' v r) .ret a' w' := by
    intro s g h hret
    obtain ⟨hR, hdf, _⟩ := h
    have hbel : Below w.heap.size w w' := ⟨hR.fr.os, hR.fr.tape, hR.fr.output, hR.fr.size, fun k hk => hR.fr.block k hk fun h => h⟩
    have hnew : ∀ b o, g.D b o → D b o ∨ w.heap.size ≤ b := fun b o h => by
      rcases hR.fr.new b o h with h' | h' | h'
      · exact .inl h'
      · exact .inr h'
      · exact h'.elim
    have many : ∀ ps', rvs s rs = some ps' → ps'.all PV.resD = true → ∃ us : List Value, (results fn a'.tmps).run P w' = .ok (tupV us) w' ∧ us.length = ps'.length ∧ ∀ (i : Nat) p, ps'[i]? = some p → Dat g.D w' (us.getD i undef) p.sh := fun ps' h1 h2 => by
      obtain ⟨us, k1, k2, _, k3⟩ := rv_all hR hr h1 h2
      exact ⟨us, results_eq fn _ k1, k2, k3⟩
    unfold RetOk at hret
    split at hret
    · rename_i t
      have hres : fn.results.toList = [.tmp t] := by
        revert hr
        cases fn.results.toList with
        | nil => intro h; cases h
        | cons x l =>
          intro h
          simp only [compRs, Option.bind_eq_some_iff, Option.map_eq_some_iff] at h
          obtain ⟨y, hy, ys, hys, e⟩ := h
          cases e
          cases l with
          | nil =>
            cases x with
            | tmp t => cases hy; rfl
            | cell a t =>
              simp only [compR, Option.bind_eq_some_iff] at hy
              obtain ⟨⟨ag, n⟩, _, hy⟩ := hy
              simp only at hy
              split at hy <;> cases hy
          | cons z l =>
            simp only [compRs, Option.bind_eq_some_iff, Option.map_eq_some_iff] at hys
            obtain ⟨_, _, _, _, e⟩ := hys
            cases e
      have hrun := results_eq (P := P) (w := w') fn a'.tmps (us := [a'.tmps.getD t undef]) (by rw [hres]; rfl)
      refine ⟨hdf, _, hrun, _, g.D, rfl, hbel, hR.fr.d0, hnew, hR.dlt, dat0 (SubP.rel hret (hR.slots t)), ?_⟩
      by_cases ho : r.own = none
      · exact ownOk_none ho
      · rcases SubP.own hret (hR.slots t) ho with rfl | ⟨_, hk⟩
        · have := hR.owns _ _ (hR.slot t)
          revert this ho
          cases s.get t <;> try (intros; trivial)
          rename_i es ow
          cases ow <;> try (intros; trivial)
          intro _ h
          rcases h with hn | ⟨gg, cap, cur, e, h1, hW, h2⟩
          · exact .inl hn
          · exact .inr ⟨gg, cap, cur, e, h1, hW.resolve_right (fun h => h), h2⟩
        · exact hk _ _ _
    · rename_i x _
      split at hret
      · rename_i p hp
        obtain ⟨h1, h2, h3⟩ := hret
        obtain ⟨us, k1, k2, k3⟩ := many [p] (by simp [rvs, hp]) (by simpa using h1)
        match us, k2 with
        | [u], _ =>
          refine ⟨hdf, _, k1, _, g.D, rfl, hbel, hR.fr.d0, hnew, hR.dlt, ?_, ownOk_none h3⟩
          exact dat0 (ρ := g.ρ) (SubP.rel h2 (nb := 0) (.dat (k3 0 p rfl)))
      · exact hret.elim
    · split at hret
      · rename_i hne1 hne2 _ ps' hp
        obtain ⟨h1, h2⟩ := hret
        obtain ⟨us, k1, k2, k3⟩ := many ps' hp h1
        have hlen : us.length ≠ 1 := by
          intro e
          rw [k2] at e
          have hl2 : ∀ {rs ps'}, rvs s rs = some ps' → ps'.length = rs.length := by
            intro rs
            induction rs with
            | nil => intro ps' h; cases h; rfl
            | cons x l ih =>
              intro ps' h
              simp only [rvs, Option.bind_eq_some_iff, Option.map_eq_some_iff] at h
              obtain ⟨p, _, qs, hq, rfl⟩ := h
              simp [ih hq]
          rw [hl2 hp] at e
          match rs, e with
          | [x], _ => exact hne2 x rfl
        have ev : tupV us = .tuple us.toArray := by
          revert hlen
          match us with
          | [] => intro _; rfl
          | [u] => intro h; exact absurd rfl h
          | u :: v :: l => intro _; rfl
        rw [ev] at k1
        have : r.own = none := by cases h2 <;> rfl
        refine ⟨hdf, _, k1, _, g.D, rfl, hbel, hR.fr.d0, hnew, hR.dlt, ?_, ownOk_none this⟩
        refine dat0 (ρ := g.ρ) (SubP.rel h2 (nb := 0) (.dat (.tup _ _ (by simp [k2]) fun i p hp => ?_)))
        simp only [List.getElem?_map, Option.map_eq_some_iff] at hp
        obtain ⟨q, hq, rfl⟩ := hp
        have := k3 i q hq
        simpa [List.getD_eq_getElem?_getD] using this
      · exact hret.elim
  cases e with
  | normal => obtain ⟨s, g, h1, h2⟩ := he; exact fin s g h1 h2
  | ret => obtain ⟨s, g, h1, h2⟩ := he; exact fin s g h1 h2
  | exit id => obtain ⟨s, g, h1, h2⟩ := he; exact h2.elim
  | goto l => exact he.elim
  | panic ch => exact he.elim
  | outgrown => exact he.elim

/-! ### A function that takes over a slice -/
/-- What it returns: the successor, whatever its name. -/
def postO (t : Nat) (rs : List (List PV)) (sz : Nat) : PX → PS → Prop
  | .x _, _ => False
  | _, s => match s.get t with
    | .sl es (.r _ sz') => es = rs ∧ sz' = sz
    | _ => False
theorem ocn_of {f : FuncId} {fn : Func} {c : Code} {pc : PC} (ms : List Nat) (hf : P.funcs[f]? = some fn) (hn : (fn.name == "runtime.NumGoroutine") = false) (hb : fn.body = some c) (t : Nat) (hr : compRs P fn.results.toList = some [.t t]) (nt : Nat) (hnt : fn.ntmps = nt) (hc : compC P nt ms c = some pc) {es rs : List (List PV)} {sz : Nat} {ps : List PV}
    (hps : ∀ p ∈ ps, p.own = none) (hl : ps.length + 1 ≤ nt) (hvc : pW P nt False pc (postO t rs sz) ⟨enumP 0 (.sl es (.r 0 sz) :: ps), []⟩) : OCn P f es sz ps rs := by
  refine ⟨enters_fn hf hn hb, fun D w v vs hgl hD hsz hd hv hvo => calls_of_wp hf hb ?_⟩
  subst hnt
  obtain ⟨a, ha⟩ : ∃ a : Act, ({ tmps := (#[v] ++ vs) ++ Array.replicate (fn.ntmps - (#[v] ++ vs).size) undef, defers := [] } : Act) = a := ⟨_, rfl⟩
  rw [ha]
  have hget : ∀ i, (⟨enumP 0 (.sl es (.r 0 sz) :: ps), []⟩ : PS).get i = (PV.sl es (.r 0 sz) :: ps).getD i .und := fun i => by
    show lkp (enumP 0 _) i = _
    rw [lkp_enum]; simp
  have hslt0 : slt a 0 = v := by
    rw [← ha]
    simp only [slt, Array.getD_eq_getD_getElem?]
    rw [Array.getElem?_append_left (by simp; omega), Array.getElem?_append_left (by simp)]
    rfl
  have hs : ∀ u p, Slot ⟨D, fun _ => 0⟩ ⟨enumP 0 (.sl es (.r 0 sz) :: ps), []⟩ (slt a) w u p → p.own ≠ none → u = v ∧ p = .sl es (.r 0 sz) := by
    rintro u p (⟨i, rfl, rfl⟩ | ⟨i, j, cs, h1, _⟩) ho
    · rw [hget] at ho ⊢
      cases i with
      | zero => exact ⟨hslt0, rfl⟩
      | succ i =>
        exfalso
        simp only [List.getD_eq_getElem?_getD, List.getElem?_cons_succ] at ho
        cases h : ps[i]? with
        | none => rw [h] at ho; exact ho rfl
        | some p => rw [h] at ho; exact ho (hps p (List.mem_of_getElem? h))
    · simp at h1
  have hvo' : OwnOk D (Bs.W ⟨w, D, fun k => blk v = some k, hgl⟩) w v (.sl es (.r 0 sz)) := by
    rcases hvo with hn | ⟨gg, cap, cur, e, h1, h2, h3⟩
    · exact .inl hn
    · cases cap with
      | zero =>
        by_cases hes : es = []
        · subst hes; exact .inl ⟨_, by rw [h1]; rfl, rfl⟩
        · have := sl_cap (ρ := fun _ => 0) (nb := 0) (.dat (h1 ▸ hv))
          exact absurd (List.eq_nil_of_length_eq_zero (Nat.le_zero.1 this.1)) hes
      | succ cap => exact .inr ⟨gg, _, cur, e, h1, .inr (by rw [h1]; rfl), h3⟩
  have hR : RA ⟨w, D, fun k => blk v = some k, hgl⟩ fn.ntmps ⟨D, fun _ => 0⟩ ⟨enumP 0 (.sl es (.r 0 sz) :: ps), []⟩ a w := by
    refine ⟨⟨fun i => ?_, fun i cs h => by simp at h, fun i j h => by simp at h, fun u p h => ?_, fun u p u' p' b h h' ho ho' _ _ => by rw [(hs u p h ho).2, (hs u' p' h' ho').2], fun u p b i h ho _ hi => by simp at hi, hD, fun i h => by simp at h, ⟨rfl, rfl, rfl, Nat.le_refl _, fun _ _ _ => rfl, fun _ _ h => h, fun _ _ _ _ h => h, fun _ _ h => .inl h, hD⟩⟩, by rw [← ha], by rw [← ha]; simp; omega⟩
    · rw [hget]
      cases i with
      | zero => rw [hslt0]; exact .dat (hv.owned _ _)
      | succ i =>
        simp only [List.getD_eq_getElem?_getD, List.getElem?_cons_succ]
        cases h : ps[i]? with
        | none => exact .dat (.und _)
        | some p =>
          have := hd i p h
          have ht : i < vs.size := by rw [hsz]; exact (List.getElem?_eq_some_iff.1 h).1
          have e : slt a (i + 1) = vs.getD i undef := by
            rw [← ha]
            simp only [slt, Array.getD_eq_getD_getElem?]
            rw [Array.getElem?_append_left (by simp; omega), Array.getElem?_append_right (by simp)]
            simp
          rw [e]; exact .dat this
    · by_cases ho : p.own = none
      · exact ownOk_none ho
      · obtain ⟨rfl, rfl⟩ := hs u p h ho
        exact hvo'
  refine wp_mono (pW_sound (B := ⟨w, D, fun k => blk v = some k, hgl⟩) (fun h => h.elim) c pc hc _ _ _ a w hvc hR) fun e a' w' he => ?_
  have hres : fn.results.toList = [.tmp t] := by
    revert hr
    cases fn.results.toList with
    | nil => intro h; cases h
    | cons x l =>
      intro h
      simp only [compRs, Option.bind_eq_some_iff, Option.map_eq_some_iff] at h
      obtain ⟨y, hy, ys, hys, e⟩ := h
      cases e
      cases l with
      | nil =>
        cases x with
        | tmp t => cases hy; rfl
        | cell a t =>
          simp only [compR, Option.bind_eq_some_iff] at hy
          obtain ⟨⟨ag, n⟩, _, hy⟩ := hy
          simp only at hy
          split at hy <;> cases hy
      | cons z l =>
        simp only [compRs, Option.bind_eq_some_iff, Option.map_eq_some_iff] at hys
        obtain ⟨_, _, _, _, e⟩ := hys
        cases e
  have fin : ∀ s g, RA ⟨w, D, fun k => blk v = some k, hgl⟩ fn.ntmps g s a' w' → (match s.get t with | .sl es (.r _ sz') => es = rs ∧ sz' = sz | _ => False) → bodyPost P fn (fun e w' => ∃ u D', e = .returned u ∧ (w'.os = w.os ∧ w'.tape = w.tape ∧ w'.output = w.output ∧ w.heap.size ≤ w'.heap.size) ∧ (∀ k, k < w.heap.size → blk v ≠ some k → w'.heap[k]? = w.heap[k]?) ∧
      (∀ b o y, D b o → w.cell? ⟨b, o, none⟩ = some y → w'.cell? ⟨b, o, none⟩ = some y) ∧ (∀ b o, D b o → D' b o) ∧ (∀ b o, D' b o → D b o ∨ w.heap.size ≤ b ∨ blk v = some b) ∧ (∀ b o, D' b o → b < w'.heap.size) ∧
      Dat D' w' u (.sl rs .sh) ∧ OwnOk D' (fun k => w.heap.size ≤ k ∨ blk v = some k) w' u (.sl rs (.r 0 sz))) .ret a' w' := by
    intro s g h hret
    obtain ⟨hZ, hdf, _⟩ := h
    split at hret
    · rename_i es' m sz' e
      obtain ⟨rfl, rfl⟩ := hret
      have hrun := results_eq (P := P) (w := w') fn a'.tmps (us := [a'.tmps.getD t undef]) (by rw [hres]; rfl)
      have h1 := hZ.slots t
      have h2 := hZ.owns _ _ (hZ.slot t)
      rw [e] at h1 h2
      have hd1 : Dat g.D w' (slt a' t) (.sl es' .sh) := by
        rcases h1 with (hr | ⟨_, _, hh, _⟩) | ⟨_, _, _, _, _, hh, _⟩
        · exact hr.sh
        · cases hh
        · cases hh
      refine ⟨hdf, _, hrun, _, g.D, rfl, ⟨hZ.fr.os, hZ.fr.tape, hZ.fr.output, hZ.fr.size⟩, fun k hk hn => hZ.fr.block k hk hn, fun b o y hD hy => hZ.fr.cell b o y hD hy, hZ.fr.d0, fun b o hD => hZ.fr.new b o hD, hZ.dlt, hd1, ?_⟩
      rcases h2 with hn | ⟨gg, cap, cur, e, q1, q2, q3⟩
      · exact .inl hn
      · exact .inr ⟨gg, cap, cur, e, q1, q2, q3⟩
    · exact hret.elim
  cases e with
  | normal => obtain ⟨s, g, h1, h2⟩ := he; exact fin s g h1 h2
  | ret => obtain ⟨s, g, h1, h2⟩ := he; exact fin s g h1 h2
  | exit id => obtain ⟨s, g, h1, h2⟩ := he; exact h2.elim
  | goto l => exact he.elim
  | panic ch => exact he.elim
  | outgrown => exact he.elim

/-! ### By the function's own text -/
def codeOf (fn : Func) : Code := match fn.body with
  | some c => c
  | none => .skip
def okFn (P : Program) (fn : Func) (ms : List Nat) (n : Nat) : Bool := !(fn.name == "runtime.NumGoroutine") && fn.body.isSome && (compRs P fn.results.toList).isSome && (compC P fn.ntmps ms (codeOf fn)).isSome && decide (n ≤ fn.ntmps)
def pcOf (P : Program) (fn : Func) (ms : List Nat) : PC := (compC P fn.ntmps ms (codeOf fn)).getD .sk
def rsOf (P : Program) (fn : Func) : List RV := (compRs P fn.results.toList).getD []
theorem cn_go {f : FuncId} {fn : Func} (hf : P.funcs[f]? = some fn) (ms : List Nat) {ps : List PV} {r : PV} (n : Nat) (hok : okFn P fn ms n = true) (hl : ps.length = n) (hps : ∀ p ∈ ps, p.own = none) (hvc : pW P fn.ntmps True (pcOf P fn ms) (postF (rsOf P fn) r) ⟨enumP 0 ps, []⟩) : Cn P f ps r := by
  unfold okFn at hok
  simp only [Bool.and_eq_true, Bool.not_eq_true', decide_eq_true_eq] at hok
  obtain ⟨⟨⟨⟨h1, h2⟩, h3⟩, h4⟩, h5⟩ := hok
  obtain ⟨c, hc⟩ := Option.isSome_iff_exists.1 h2
  obtain ⟨rs, hrs⟩ := Option.isSome_iff_exists.1 h3
  obtain ⟨pc, hpc⟩ := Option.isSome_iff_exists.1 h4
  unfold pcOf rsOf at hvc
  rw [hpc, hrs] at hvc
  have e : codeOf fn = c := by unfold codeOf; rw [hc]
  rw [e] at hpc
  exact cn_of ms hf h1 hc rs hrs fn.ntmps rfl hpc hps (by omega) hvc
theorem ocn_go {f : FuncId} {fn : Func} (hf : P.funcs[f]? = some fn) (ms : List Nat) {es rs : List (List PV)} {sz : Nat} {ps : List PV} (n t : Nat) (hok : okFn P fn ms n = true) (hrs : compRs P fn.results.toList = some [.t t]) (hl : ps.length + 1 = n) (hps : ∀ p ∈ ps, p.own = none) (hvc : pW P fn.ntmps False (pcOf P fn ms) (postO t rs sz) ⟨enumP 0 (.sl es (.r 0 sz) :: ps), []⟩) : OCn P f es sz ps rs := by
  unfold okFn at hok
  simp only [Bool.and_eq_true, Bool.not_eq_true', decide_eq_true_eq] at hok
  obtain ⟨⟨⟨⟨h1, h2⟩, h3⟩, h4⟩, h5⟩ := hok
  obtain ⟨c, hc⟩ := Option.isSome_iff_exists.1 h2
  obtain ⟨pc, hpc⟩ := Option.isSome_iff_exists.1 h4
  unfold pcOf at hvc
  rw [hpc] at hvc
  have e : codeOf fn = c := by unfold codeOf; rw [hc]
  rw [e] at hpc
  exact ocn_of ms hf h1 hc t hrs fn.ntmps rfl hpc hps (by omega) hvc
end Go.Proofs.YtcedofkenfddkaaDoor
