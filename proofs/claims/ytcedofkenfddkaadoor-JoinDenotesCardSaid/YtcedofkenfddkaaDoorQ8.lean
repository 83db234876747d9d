/- The operations on entries: what their results know, and the laws of chapter 8, without program. No condition. -/
import Derived.Test.YtcedofkenfddkaaDoorE7
namespace Go.Proofs.YtcedofkenfddkaaDoor
set_option linter.unusedVariables false
set_option linter.unusedSimpArgs false
/-- The entry that an operation returns. -/
def jn (f : Bool → Bool → Bool) (a b : En) : En × Bool := ofS a.rep (opS f (kn a) (kn b))
variable {f : Bool → Bool → Bool} {a b c : En}
theorem jn_right (ha : RightE a) (hb : RightE b) : RightE (jn f a b).1 := ofS_right ha.2.2.2 (opS_nrm (kn_nrm ha) (kn_nrm hb))
theorem jn_kn (ha : RightE a) (hb : RightE b) (h : (jn f a b).2 = true) : kn (jn f a b).1 = opS f (kn a) (kn b) :=
  kn_ofS ha.2.2.2 (opS_nrm (kn_nrm ha) (kn_nrm hb)) (by unfold jn at h; rw [ofS_2] at h; simpa using h)
theorem jn_can (ha : RightE a) (hb : RightE b) (h : (jn f a b).2 = true) : CanE (jn f a b).1 :=
  ofS_can ha.2.2.2 (opS_nrm (kn_nrm ha) (kn_nrm hb)) (by unfold jn at h; rw [ofS_2] at h; simpa using h)
theorem jn_2 : (jn f a b).2 = decide (opS f (kn a) (kn b) ≠ []) := ofS_2 _ _
theorem jn_len : (jn f a b).1.holes.length ≤ 8 * a.holes.length + 8 * b.holes.length + 29 := by
  have h1 := ofS_length a.rep (opS f (kn a) (kn b))
  have h2 := opS_length f (kn a) (kn b)
  have h3 := kn_length a
  have h4 := kn_length b
  unfold jn; omega
theorem jn_rep (h : (jn f a b).2 = true) : (jn f a b).1.rep = a.rep := by
  unfold jn at *
  rw [ofS_2] at h
  rw [ofS_cons (by simpa using h)]
/-- What is known by an entry with another counter. -/
def below (c : Nat) : List Iv := if c = 0 then [] else [⟨0, c - 1⟩]
def oneE (r c : Nat) : En := ⟨r, c, below c⟩
theorem below_len (c : Nat) : (below c).length ≤ 1 := by unfold below; split <;> simp
theorem oneE_right {r c : Nat} (hr : r < M64) (hc : c < M64) : RightE (oneE r c) := by
  refine ⟨?_, fun s hs => ?_, hc, hr⟩
  · show Nrm (below c)
    unfold below
    split
    · trivial
    · exact nrm_one (Nat.zero_le _) (by omega)
  · have hs : s ∈ below c := hs
    show s.hi ≤ c
    unfold below at hs
    split at hs
    · cases hs
    · simp at hs; subst hs; simp only; omega
theorem oneE_kn {r c : Nat} (hr : r < M64) (hc : c < M64) : kn (oneE r c) = [⟨c, c⟩] := by
  refine Nrm.unique (kn_nrm (oneE_right hr hc)) (nrm_one (Nat.le_refl _) hc) fun x hx => ?_
  rw [kn_mem (oneE_right hr hc) hx, mem_one]
  show (decide (x ≤ c) && !mem (below c) x) = _
  unfold below
  split
  · rename_i h; subst h; rw [Bool.eq_iff_iff]; simp
  · rw [mem_one, Bool.eq_iff_iff]; simp; omega
theorem ofS_one {r c : Nat} (hr : r < M64) (hc : c < M64) : ofS r [⟨c, c⟩] = (oneE r c, true) := by
  have h := can_ofS (e := oneE r c) ⟨oneE_right hr hc, fun s hs => by
    have hs : s ∈ below c := hs
    show s.hi < c
    unfold below at hs
    split at hs
    · cases hs
    · simp at hs; subst hs; simp only; omega⟩
  rw [oneE_kn hr hc] at h
  exact h
def addE (e : En) (c : Nat) : En := (jn fUnion e (oneE e.rep c)).1
theorem ops_ne {x : List Iv} {y : List Iv} (hx : Nrm x) (hy : Nrm y) {n : Nat} (hn : n < M64) (h : f (mem x n) (mem y n) = true) : opS f x y ≠ [] := by
  intro e
  have := opS_mem (f := f) hx hy hn
  rw [e, h] at this
  cases this
theorem addE_some {e : En} {c : Nat} (he : RightE e) (hc : c < M64) : (jn fUnion e (oneE e.rep c)).2 = true := by
  rw [jn_2]
  have := ops_ne (f := fUnion) (kn_nrm he) (kn_nrm (oneE_right he.2.2.2 hc)) hc (by rw [oneE_kn he.2.2.2 hc, mem_one]; simp [fUnion])
  simpa using this
theorem addE_right {e : En} {c : Nat} (he : RightE e) (hc : c < M64) : RightE (addE e c) := jn_right he (oneE_right he.2.2.2 hc)
theorem addE_kn {e : En} {c : Nat} (he : RightE e) (hc : c < M64) : kn (addE e c) = opS fUnion (kn e) [⟨c, c⟩] := by
  have := jn_kn he (oneE_right he.2.2.2 hc) (addE_some he hc)
  rw [oneE_kn he.2.2.2 hc] at this
  exact this
theorem addE_eq {e : En} {c : Nat} (he : RightE e) (hc : c < M64) : addE e c = (ofS e.rep (opS fUnion (kn e) [⟨c, c⟩])).1 := by
  unfold addE jn
  rw [oneE_kn he.2.2.2 hc]
theorem addE_has {e : En} {c : Nat} (he : RightE e) (hc : c < M64) : (decide (c ≤ (addE e c).max) && !mem (addE e c).holes c) = true := by
  rw [← kn_mem (addE_right he hc) hc, addE_kn he hc, opS_mem (kn_nrm he) (nrm_one (Nat.le_refl _) hc) hc, mem_one]
  simp [fUnion]
/-- The counter behind all that are known. -/
def nextE (e : En) : Nat × Bool := if kn e = [] then (0, true) else if top (kn e) = M64 - 1 then (0, false) else (top (kn e) + 1, true)
def canE (e : En) : En × Bool := ofS e.rep (kn e)
theorem addNext {e : En} (he : RightE e) (h1 : kn e ≠ []) (h2 : top (kn e) + 1 < M64) : (addE e (top (kn e) + 1)).max = top (kn e) + 1 ∧ (addE e (top (kn e) + 1)).holes = (canE e).1.holes := by
  have hn := nrm_one (Nat.le_refl (top (kn e) + 1)) h2
  have hk := kn_nrm he
  have ht := top_mem hk h1
  have hU : Nrm (opS fUnion (kn e) [⟨top (kn e) + 1, top (kn e) + 1⟩]) := opS_nrm hk hn
  have hne : opS fUnion (kn e) [⟨top (kn e) + 1, top (kn e) + 1⟩] ≠ [] := ops_ne hk hn ht.2 (by rw [ht.1]; rfl)
  have htop : top (opS fUnion (kn e) [⟨top (kn e) + 1, top (kn e) + 1⟩]) = top (kn e) + 1 := by
    have g1 := top_mem hU hne
    have g2 := top_ge hU (x := top (kn e) + 1) (by rw [opS_mem hk hn h2, mem_one]; simp [fUnion])
    have g3 := g1.1
    rw [opS_mem hk hn g1.2, mem_one] at g3
    simp [fUnion] at g3
    rcases g3 with g3 | g3
    · have := top_ge hk g3; omega
    · omega
  rw [addE_eq he h2, ofS_cons hne, htop]
  refine ⟨rfl, ?_⟩
  unfold canE
  rw [ofS_cons h1]
  simp only
  refine Nrm.unique (opS_nrm (nrm_one (Nat.zero_le _) h2) hU) (opS_nrm (nrm_one (Nat.zero_le _) ht.2) hk) fun x hx => ?_
  rw [opS_mem (nrm_one (Nat.zero_le _) h2) hU hx, opS_mem (nrm_one (Nat.zero_le _) ht.2) hk hx, opS_mem hk hn hx, mem_one, mem_one, mem_one]
  simp only [fMinus, fUnion]
  cases e1 : mem (kn e) x with
  | true => simp
  | false =>
    rw [Bool.eq_iff_iff]
    simp
    omega
/-! ### the algebra -/
theorem jn_comm (ha : RightE a) (hb : RightE b) (hr : a.rep = b.rep) : jn fUnion b a = jn fUnion a b := by
  unfold jn
  rw [hr, V_comm (kn_nrm ha) (kn_nrm hb)]
where V_comm {x y : List Iv} (hx : Nrm x) (hy : Nrm y) : opS fUnion y x = opS fUnion x y :=
  Nrm.unique (opS_nrm hy hx) (opS_nrm hx hy) fun z hz => by rw [opS_mem hy hx hz, opS_mem hx hy hz]; simp only [fUnion]; cases mem x z <;> cases mem y z <;> rfl
theorem jn_assoc (ha : RightE a) (hb : RightE b) (hc : RightE c) (hr : a.rep = b.rep) (h1 : (jn fUnion a b).2 = true) (h2 : (jn fUnion b c).2 = true) : jn fUnion (jn fUnion a b).1 c = jn fUnion a (jn fUnion b c).1 := by
  have e1 := jn_kn ha hb h1
  have e2 := jn_kn hb hc h2
  have e3 := jn_rep h1
  show ofS (jn fUnion a b).1.rep (opS fUnion (kn (jn fUnion a b).1) (kn c)) = ofS a.rep (opS fUnion (kn a) (kn (jn fUnion b c).1))
  rw [e1, e2, e3]
  congr 1
  have na := kn_nrm ha
  have nb := kn_nrm hb
  have nc := kn_nrm hc
  exact Nrm.unique (opS_nrm (opS_nrm na nb) nc) (opS_nrm na (opS_nrm nb nc)) fun z hz => by
    simp only [opS_mem, opS_nrm, na, nb, nc, hz, fUnion]
    cases mem (kn a) z <;> cases mem (kn b) z <;> cases mem (kn c) z <;> rfl
theorem meet_minus {x y : List Iv} (hx : Nrm x) (hy : Nrm y) : opS fUnion (opS fMeet x y) (opS fMinus x y) = x :=
  Nrm.unique (opS_nrm (opS_nrm hx hy) (opS_nrm hx hy)) hx fun z hz => by
    simp only [opS_mem, opS_nrm, hx, hy, hz, fUnion, fMeet, fMinus]
    cases mem x z <;> cases mem y z <;> rfl
theorem nil_iff {x : List Iv} (hx : Nrm x) : x = [] ↔ ∀ z, z < M64 → mem x z = false := by
  constructor
  · rintro rfl z _; rfl
  · intro h
    exact Nrm.unique hx trivial fun z hz => by rw [h z hz]; rfl
theorem known_iff (ha : RightE a) (hb : RightE b) : (canE a).2 = ((jn fMeet a b).2 || (jn fMinus a b).2) := by
  have na := kn_nrm ha
  have nb := kn_nrm hb
  have hp := meet_minus na nb
  rw [jn_2, jn_2]
  unfold canE
  rw [ofS_2]
  by_cases h : kn a = []
  · have e1 : opS fMeet (kn a) (kn b) = [] := (nil_iff (opS_nrm na nb)).2 fun z hz => by rw [opS_mem na nb hz, h]; rfl
    have e2 : opS fMinus (kn a) (kn b) = [] := (nil_iff (opS_nrm na nb)).2 fun z hz => by rw [opS_mem na nb hz, h]; rfl
    rw [e1, e2]
    simp [h]
  · by_cases e1 : opS fMeet (kn a) (kn b) = []
    · by_cases e2 : opS fMinus (kn a) (kn b) = []
      · rw [e1, e2] at hp
        exact absurd (hp.symm.trans ((nil_iff (opS_nrm (a := []) (b := []) trivial trivial)).2 fun z hz => by rw [opS_mem (a := []) (b := []) trivial trivial hz]; rfl)) h
      · simp [h, e2]
    · simp [h, e1]
theorem parts_both (ha : RightE a) (hb : RightE b) (h1 : (jn fMeet a b).2 = true) (h2 : (jn fMinus a b).2 = true) : jn fUnion (jn fMeet a b).1 (jn fMinus a b).1 = canE a := by
  show ofS (jn fMeet a b).1.rep (opS fUnion (kn (jn fMeet a b).1) (kn (jn fMinus a b).1)) = ofS a.rep (kn a)
  rw [jn_kn ha hb h1, jn_kn ha hb h2, jn_rep h1, meet_minus (kn_nrm ha) (kn_nrm hb)]
theorem parts_meet (ha : RightE a) (hb : RightE b) (h2 : (jn fMinus a b).2 = false) : (jn fMeet a b) = canE a := by
  have e : opS fMinus (kn a) (kn b) = [] := by rw [jn_2] at h2; simpa using h2
  have na := kn_nrm ha
  have nb := kn_nrm hb
  have : opS fMeet (kn a) (kn b) = kn a := Nrm.unique (opS_nrm na nb) na fun z hz => by
    have h3 := opS_mem (f := fMinus) na nb hz
    rw [e] at h3
    rw [opS_mem na nb hz]
    simp only [fMinus, fMeet, mem_nil] at *
    revert h3
    cases mem (kn a) z <;> cases mem (kn b) z <;> simp
  unfold jn canE
  rw [this]
theorem parts_minus (ha : RightE a) (hb : RightE b) (h2 : (jn fMeet a b).2 = false) : (jn fMinus a b) = canE a := by
  have e : opS fMeet (kn a) (kn b) = [] := by rw [jn_2] at h2; simpa using h2
  have na := kn_nrm ha
  have nb := kn_nrm hb
  have : opS fMinus (kn a) (kn b) = kn a := Nrm.unique (opS_nrm na nb) na fun z hz => by
    have h3 := opS_mem (f := fMeet) na nb hz
    rw [e] at h3
    rw [opS_mem na nb hz]
    simp only [fMinus, fMeet, mem_nil] at *
    revert h3
    cases mem (kn a) z <;> cases mem (kn b) z <;> simp
  unfold jn canE
  rw [this]
theorem minus_self {x : List Iv} (hx : Nrm x) : opS fMinus x x = [] := opS_eq hx hx trivial fun z hz => by simp [fMinus]
end Go.Proofs.YtcedofkenfddkaaDoor
