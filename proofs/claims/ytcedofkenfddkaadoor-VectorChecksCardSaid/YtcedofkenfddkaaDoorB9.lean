/- Texts of this claim, bound together: T4 T5 T6 T7 T8 T9 Ope Rdv T10 Nuc T11 T12 T13 T14 T15 T16 T17. -/
import Derived.Test.YtcedofkenfddkaaDoorB8
/- The contracts of kenningref04.Check and Right, of kenninglaw05.right and alive. -/
namespace Go.Proofs.YtcedofkenfddkaaDoor
set_option linter.unusedVariables false
set_option linter.unusedSimpArgs false
open Go.RowKit
set_option maxRecDepth 100000
theorem right3_c (s : Iv) : Cn Tryd.prog 108 [ivp s] (.v (.bool (decide (s.lo ≤ s.hi)))) := by
  refine cn_go Tryd.func108 [] 1 (by kernel_rfl) rfl (by simp [go_sem, seval]) ?_
  conv => arg 4; cbv
  conv => enter [5, 1]; cbv
  try simp (maxSteps := 2000000) (disch := omega) only [go_sem, seval]
  try repeat ((with_reducible refine And.intro ?_ ?_); focus (first | omega | assumption | exact True.intro | (show anyD _ _ = true; exact rfl) | (simp only [List.length_map, List.length_append, List.length_cons, List.length_nil, List.length_take, List.length_drop]; omega)))
def prevC (l : List Iv) (k : Nat) : Option Iv := if k = 0 then none else l[k - 1]?
theorem check4_c (l : List Iv) (hl : l.length ≤ 1152921504606846976) (hb : ∀ s ∈ l, s.lo < M64 ∧ s.hi < M64) : Cn Tryd.prog 83 [rg l] (.tup [.v (.int .i64 (chk l).1), .v (.int .i64 (chk l).2)]) := by
  refine cn_go Tryd.func83 [] 1 (by kernel_rfl) rfl (by simp [go_sem, seval]) ?_
  conv => arg 4; cbv
  conv => enter [5, 1]; cbv
  try simp (maxSteps := 2000000) (disch := omega) only [go_sem, seval]
  try repeat ((with_reducible refine And.intro ?_ ?_); focus (first | omega | assumption | exact True.intro | (show anyD _ _ = true; exact rfl) | (simp only [List.length_map, List.length_append, List.length_cons, List.length_nil, List.length_take, List.length_drop]; omega)))
  refine pLoop.go (fun k => k ≤ l.length ∧ chk l = chkL (prevC l k) (l.drop k) k) (fun k => [(4, .v (.int .i64 (k : Nat)))]) (fun _ => []) (fun k => l.length - k) 0 [4] ?_ ?_ ?_
  · exact ⟨Nat.zero_le _, rfl⟩
  · try simp (maxSteps := 2000000) (disch := omega) only [go_sem, seval]
    try repeat ((with_reducible refine And.intro ?_ ?_); focus (first | omega | assumption | exact True.intro | (show anyD _ _ = true; exact rfl) | (simp only [List.length_map, List.length_append, List.length_cons, List.length_nil, List.length_take, List.length_drop]; omega)))
  · rintro k ⟨hk, hm⟩
    try simp (maxSteps := 2000000) (disch := omega) only [go_sem, seval]
    try repeat ((with_reducible refine And.intro ?_ ?_); focus (first | omega | assumption | exact True.intro | (show anyD _ _ = true; exact rfl) | (simp only [List.length_map, List.length_append, List.length_cons, List.length_nil, List.length_take, List.length_drop]; omega)))
    (first | refine brP.mk (fun h => ?_) (fun h => ?_) | refine gdP.mkt (fun h => ?_) (fun h => ?_) | refine gdP.mkf (fun h => ?_) (fun h => ?_) | refine pkP.mk (fun h => ?_) (fun h => ?_)) <;> (try simp only [Bool.not_true, Bool.not_false, decide_eq_true_eq, decide_eq_false_iff_not, Bool.and_eq_true, Bool.or_eq_true, Bool.not_eq_true', Bool.not_eq_false', Bool.and_eq_false_iff, Bool.or_eq_false_iff, Nat.not_lt, Int.not_lt, Nat.not_le, Int.not_le, Int.ofNat_lt, Int.ofNat_le, Int.ofNat_inj, Bool.xor_false, Bool.false_xor, Bool.true_xor, Bool.xor_true] at h) <;> (try simp (maxSteps := 2000000) (disch := omega) only [go_sem, seval]) <;> (try repeat ((with_reducible refine And.intro ?_ ?_); focus (first | omega | assumption | exact True.intro | (show anyD _ _ = true; exact rfl) | (simp only [List.length_map, List.length_append, List.length_cons, List.length_nil, List.length_take, List.length_drop]; omega))))
    · refine callP.mk (right3_c l[k]) rfl ?_
      rw [chkL_step h] at hm
      try simp (maxSteps := 2000000) (disch := omega) only [go_sem, seval]
      try repeat ((with_reducible refine And.intro ?_ ?_); focus (first | omega | assumption | exact True.intro | (show anyD _ _ = true; exact rfl) | (simp only [List.length_map, List.length_append, List.length_cons, List.length_nil, List.length_take, List.length_drop]; omega)))
      (first | refine brP.mk (fun h1 => ?_) (fun h1 => ?_) | refine gdP.mkt (fun h1 => ?_) (fun h1 => ?_) | refine gdP.mkf (fun h1 => ?_) (fun h1 => ?_) | refine pkP.mk (fun h1 => ?_) (fun h1 => ?_)) <;> (try simp only [Bool.not_true, Bool.not_false, decide_eq_true_eq, decide_eq_false_iff_not, Bool.and_eq_true, Bool.or_eq_true, Bool.not_eq_true', Bool.not_eq_false', Bool.and_eq_false_iff, Bool.or_eq_false_iff, Nat.not_lt, Int.not_lt, Nat.not_le, Int.not_le, Int.ofNat_lt, Int.ofNat_le, Int.ofNat_inj, Bool.xor_false, Bool.false_xor, Bool.true_xor, Bool.xor_true] at h1) <;> (try simp (maxSteps := 2000000) (disch := omega) only [go_sem, seval]) <;> (try repeat ((with_reducible refine And.intro ?_ ?_); focus (first | omega | assumption | exact True.intro | (show anyD _ _ = true; exact rfl) | (simp only [List.length_map, List.length_append, List.length_cons, List.length_nil, List.length_take, List.length_drop]; omega))))
      · rw [if_neg (by omega)] at hm
        rw [hm]
        rfl
      · rw [if_pos h1] at hm
        have hs : prevC l (k + 1) = some l[k] := by unfold prevC; rw [if_neg (by omega)]; exact List.getElem?_eq_getElem h
        (first | refine brP.mk (fun h2 => ?_) (fun h2 => ?_) | refine gdP.mkt (fun h2 => ?_) (fun h2 => ?_) | refine gdP.mkf (fun h2 => ?_) (fun h2 => ?_) | refine pkP.mk (fun h2 => ?_) (fun h2 => ?_)) <;> (try simp only [Bool.not_true, Bool.not_false, decide_eq_true_eq, decide_eq_false_iff_not, Bool.and_eq_true, Bool.or_eq_true, Bool.not_eq_true', Bool.not_eq_false', Bool.and_eq_false_iff, Bool.or_eq_false_iff, Nat.not_lt, Int.not_lt, Nat.not_le, Int.not_le, Int.ofNat_lt, Int.ofNat_le, Int.ofNat_inj, Bool.xor_false, Bool.false_xor, Bool.true_xor, Bool.xor_true] at h2) <;> (try simp (maxSteps := 2000000) (disch := omega) only [go_sem, seval]) <;> (try repeat ((with_reducible refine And.intro ?_ ?_); focus (first | omega | assumption | exact True.intro | (show anyD _ _ = true; exact rfl) | (simp only [List.length_map, List.length_append, List.length_cons, List.length_nil, List.length_take, List.length_drop]; omega))))
        · have hp : prevC l k = some l[k - 1] := by unfold prevC; rw [if_neg (by omega), List.getElem?_eq_getElem]
          rw [hp] at hm
          refine callQ.mk (rel3_c l[k - 1] l[k] (hb _ (List.getElem_mem _)).1 (hb _ (List.getElem_mem _)).1) rfl ?_
          try simp (maxSteps := 2000000) (disch := omega) only [go_sem, seval]
          try repeat ((with_reducible refine And.intro ?_ ?_); focus (first | omega | assumption | exact True.intro | (show anyD _ _ = true; exact rfl) | (simp only [List.length_map, List.length_append, List.length_cons, List.length_nil, List.length_take, List.length_drop]; omega)))
          (first | refine brP.mk (fun h3 => ?_) (fun h3 => ?_) | refine gdP.mkt (fun h3 => ?_) (fun h3 => ?_) | refine gdP.mkf (fun h3 => ?_) (fun h3 => ?_) | refine pkP.mk (fun h3 => ?_) (fun h3 => ?_)) <;> (try simp only [Bool.not_true, Bool.not_false, decide_eq_true_eq, decide_eq_false_iff_not, Bool.and_eq_true, Bool.or_eq_true, Bool.not_eq_true', Bool.not_eq_false', Bool.and_eq_false_iff, Bool.or_eq_false_iff, Nat.not_lt, Int.not_lt, Nat.not_le, Int.not_le, Int.ofNat_lt, Int.ofNat_le, Int.ofNat_inj, Bool.xor_false, Bool.false_xor, Bool.true_xor, Bool.xor_true] at h3) <;> (try simp (maxSteps := 2000000) (disch := omega) only [go_sem, seval]) <;> (try repeat ((with_reducible refine And.intro ?_ ?_); focus (first | omega | assumption | exact True.intro | (show anyD _ _ = true; exact rfl) | (simp only [List.length_map, List.length_append, List.length_cons, List.length_nil, List.length_take, List.length_drop]; omega))))
          · rw [if_neg (by simpa using h3)] at hm
            rw [hm]
            rfl
          · rw [if_pos (by simpa using h3)] at hm
            exact ⟨k + 1, ⟨h, by rw [hs]; exact hm⟩, by omega, rfl⟩
        · have hp : prevC l k = none := by unfold prevC; rw [if_pos (by omega)]
          rw [hp] at hm
          exact ⟨k + 1, ⟨h, by rw [hs]; exact hm⟩, by omega, rfl⟩
    · rw [List.drop_of_length_le h] at hm
      rw [hm]
      rfl
theorem n23 : Nrm [⟨2, 3⟩, ⟨9, 9⟩] := by simp [Nrm, NF, M64_val]
theorem n01 : Nrm [⟨0, 1⟩, ⟨4, 8⟩] := by simp [Nrm, NF, M64_val]
theorem n09 : Nrm [⟨0, 9⟩] := by simp [Nrm, NF, M64_val]
theorem e1 : opS fMinus [⟨0, 9⟩] [⟨2, 3⟩, ⟨9, 9⟩] = [⟨0, 1⟩, ⟨4, 8⟩] := opS_eq n09 n23 n01 fun x _ => by rw [Bool.eq_iff_iff]; simp [mem, fMinus]; omega
theorem e2 : opS fUnion [⟨2, 3⟩, ⟨9, 9⟩] [⟨0, 1⟩, ⟨4, 8⟩] = [⟨0, 9⟩] := opS_eq n23 n01 n09 fun x _ => by rw [Bool.eq_iff_iff]; simp [mem, fUnion]; omega
theorem e4 : opS fMinus [⟨2, 3⟩, ⟨9, 9⟩] [⟨0, 1⟩, ⟨4, 8⟩] = [⟨2, 3⟩, ⟨9, 9⟩] := opS_eq n23 n01 n23 fun x _ => by rw [Bool.eq_iff_iff]; simp [mem, fMinus]; omega
theorem e5 : opS fMeet [⟨2, 3⟩, ⟨9, 9⟩] [⟨0, 1⟩, ⟨4, 8⟩] = [] := opS_eq n23 n01 trivial fun x _ => by rw [Bool.eq_iff_iff]; simp [mem, fMeet]; omega
theorem e6 : opS fMinus [⟨2, 3⟩, ⟨9, 9⟩] [⟨0, 1⟩, ⟨4, 8⟩] = [⟨2, 3⟩, ⟨9, 9⟩] := opS_eq n23 n01 n23 fun x _ => by rw [Bool.eq_iff_iff]; simp [mem, fMinus]; omega
end Go.Proofs.YtcedofkenfddkaaDoor
/- SetopsMatch, SetopsNot and SetopsRelate return true. -/
namespace Go.Proofs.YtcedofkenfddkaaDoor
set_option linter.unusedVariables false
set_option linter.unusedSimpArgs false
open Go.RowKit
set_option maxRecDepth 100000
end Go.Proofs.YtcedofkenfddkaaDoor
/- The contracts of the references of the layers 7 and 8. -/
namespace Go.Proofs.YtcedofkenfddkaaDoor
set_option linter.unusedVariables false
set_option linter.unusedSimpArgs false
open Go.RowKit
set_option maxRecDepth 100000
/-- An entry's cells. -/
def ec (e : En) : List PV := [.v (.int .u64 e.rep), .v (.int .u64 e.max), rg e.holes]
def ep (e : En) : PV := .agg (ec e)
attribute [go_sem] ep ec
def hk (m : Nat) : List Iv → Nat → Nat × Int
  | [], _ => (0, -1)
  | s :: r, i => if m < s.hi then (4, (i : Int)) else hk m r (i + 1)
/-- The error of an entry, and its index. -/
def chkE (e : En) : Nat × Int := if (chk e.holes).1 = 0 then hk e.max e.holes 0 else chk e.holes
theorem hk_zero (m : Nat) : ∀ (l : List Iv) (i : Nat), (hk m l i).1 = 0 ↔ ∀ s ∈ l, s.hi ≤ m
  | [], i => by simp [hk]
  | s :: r, i => by
    have := hk_zero m r (i + 1)
    unfold hk
    split
    · simp; omega
    · rw [this]; simp; omega
theorem hk_step {m : Nat} {l : List Iv} {k : Nat} (h : k < l.length) : hk m (l.drop k) k = if m < l[k].hi then (4, (k : Int)) else hk m (l.drop (k + 1)) (k + 1) := by
  rw [List.drop_eq_getElem_cons h]; rfl
def rightEB (e : En) : Bool := decide ((chkE e).1 = 0)
theorem rightEB_iff {e : En} (h : ∀ s ∈ e.holes, s.lo < M64 ∧ s.hi < M64) (h1 : e.max < M64) (h2 : e.rep < M64) : rightEB e = true ↔ RightE e := by
  have hn := chk_nrm (l := e.holes) fun s hs => (h s hs).2
  have hz := hk_zero e.max e.holes 0
  unfold rightEB chkE RightE
  rw [decide_eq_true_eq]
  by_cases h' : (chk e.holes).1 = 0
  · rw [if_pos h', hz]
    exact ⟨fun g => ⟨hn.1 h', g, h1, h2⟩, fun g => g.2.1⟩
  · rw [if_neg h']
    exact ⟨fun g => absurd g h', fun g => absurd (hn.2 g.1) h'⟩
theorem check7_c (e : En) (hl : e.holes.length ≤ 1152921504606846976) (hb : ∀ s ∈ e.holes, s.lo < M64 ∧ s.hi < M64) : Cn Tryd.prog 38 [ep e] (.tup [.v (.int .i64 (chkE e).1), .v (.int .i64 (chkE e).2)]) := by
  refine cn_go Tryd.func38 [] 1 (by kernel_rfl) rfl (by simp [go_sem, seval]) ?_
  conv => arg 4; cbv
  conv => enter [5, 1]; cbv
  try simp (maxSteps := 2000000) (disch := omega) only [go_sem, seval]
  try repeat ((with_reducible refine And.intro ?_ ?_); focus (first | omega | assumption | exact True.intro | (show anyD _ _ = true; exact rfl) | (simp only [List.length_map, List.length_append, List.length_cons, List.length_nil, List.length_take, List.length_drop]; omega)))
  (first | refine callP.mk (check4_c e.holes hl hb) rfl ?_ | refine callQ.mk (check4_c e.holes hl hb) rfl ?_ | refine callO.rd (check4_c e.holes hl hb) rfl ?_ | refine callO.mk (check4_c e.holes hl hb) rfl ?_)
  try simp (maxSteps := 2000000) (disch := omega) only [go_sem, seval]
  try repeat ((with_reducible refine And.intro ?_ ?_); focus (first | omega | assumption | exact True.intro | (show anyD _ _ = true; exact rfl) | (simp only [List.length_map, List.length_append, List.length_cons, List.length_nil, List.length_take, List.length_drop]; omega)))
  (first | refine brP.mk (fun h => ?_) (fun h => ?_) | refine gdP.mkt (fun h => ?_) (fun h => ?_) | refine gdP.mkf (fun h => ?_) (fun h => ?_) | refine pkP.mk (fun h => ?_) (fun h => ?_)) <;> (try simp only [Bool.not_true, Bool.not_false, decide_eq_true_eq, decide_eq_false_iff_not, Bool.and_eq_true, Bool.or_eq_true, Bool.not_eq_true', Bool.not_eq_false', Bool.and_eq_false_iff, Bool.or_eq_false_iff, Nat.not_lt, Int.not_lt, Nat.not_le, Int.not_le, Int.ofNat_lt, Int.ofNat_le, Int.ofNat_inj, Bool.xor_false, Bool.false_xor, Bool.true_xor, Bool.xor_true] at h) <;> (try simp (maxSteps := 2000000) (disch := omega) only [go_sem, seval]) <;> (try repeat ((with_reducible refine And.intro ?_ ?_); focus (first | omega | assumption | exact True.intro | (show anyD _ _ = true; exact rfl) | (simp only [List.length_map, List.length_append, List.length_cons, List.length_nil, List.length_take, List.length_drop]; omega))))
  · unfold chkE
    rw [if_neg (by omega)]
  · refine pLoop.go (fun k => k ≤ e.holes.length ∧ chkE e = hk e.max (e.holes.drop k) k) (fun k => [(6, .v (.int .i64 (k : Nat)))]) (fun _ => [ec e]) (fun k => e.holes.length - k) 0 [6] ?_ ?_ ?_
    · refine ⟨Nat.zero_le _, ?_⟩
      unfold chkE
      rw [if_pos (by omega)]; rfl
    · try simp (maxSteps := 2000000) (disch := omega) only [go_sem, seval]
      try repeat ((with_reducible refine And.intro ?_ ?_); focus (first | omega | assumption | exact True.intro | (show anyD _ _ = true; exact rfl) | (simp only [List.length_map, List.length_append, List.length_cons, List.length_nil, List.length_take, List.length_drop]; omega)))
    · rintro k ⟨hk1, hm⟩
      try simp (maxSteps := 2000000) (disch := omega) only [go_sem, seval]
      try repeat ((with_reducible refine And.intro ?_ ?_); focus (first | omega | assumption | exact True.intro | (show anyD _ _ = true; exact rfl) | (simp only [List.length_map, List.length_append, List.length_cons, List.length_nil, List.length_take, List.length_drop]; omega)))
      (first | refine brP.mk (fun h1 => ?_) (fun h1 => ?_) | refine gdP.mkt (fun h1 => ?_) (fun h1 => ?_) | refine gdP.mkf (fun h1 => ?_) (fun h1 => ?_) | refine pkP.mk (fun h1 => ?_) (fun h1 => ?_)) <;> (try simp only [Bool.not_true, Bool.not_false, decide_eq_true_eq, decide_eq_false_iff_not, Bool.and_eq_true, Bool.or_eq_true, Bool.not_eq_true', Bool.not_eq_false', Bool.and_eq_false_iff, Bool.or_eq_false_iff, Nat.not_lt, Int.not_lt, Nat.not_le, Int.not_le, Int.ofNat_lt, Int.ofNat_le, Int.ofNat_inj, Bool.xor_false, Bool.false_xor, Bool.true_xor, Bool.xor_true] at h1) <;> (try simp (maxSteps := 2000000) (disch := omega) only [go_sem, seval]) <;> (try repeat ((with_reducible refine And.intro ?_ ?_); focus (first | omega | assumption | exact True.intro | (show anyD _ _ = true; exact rfl) | (simp only [List.length_map, List.length_append, List.length_cons, List.length_nil, List.length_take, List.length_drop]; omega))))
      · rw [hk_step h1] at hm
        (first | refine brP.mk (fun h2 => ?_) (fun h2 => ?_) | refine gdP.mkt (fun h2 => ?_) (fun h2 => ?_) | refine gdP.mkf (fun h2 => ?_) (fun h2 => ?_) | refine pkP.mk (fun h2 => ?_) (fun h2 => ?_)) <;> (try simp only [Bool.not_true, Bool.not_false, decide_eq_true_eq, decide_eq_false_iff_not, Bool.and_eq_true, Bool.or_eq_true, Bool.not_eq_true', Bool.not_eq_false', Bool.and_eq_false_iff, Bool.or_eq_false_iff, Nat.not_lt, Int.not_lt, Nat.not_le, Int.not_le, Int.ofNat_lt, Int.ofNat_le, Int.ofNat_inj, Bool.xor_false, Bool.false_xor, Bool.true_xor, Bool.xor_true] at h2) <;> (try simp (maxSteps := 2000000) (disch := omega) only [go_sem, seval]) <;> (try repeat ((with_reducible refine And.intro ?_ ?_); focus (first | omega | assumption | exact True.intro | (show anyD _ _ = true; exact rfl) | (simp only [List.length_map, List.length_append, List.length_cons, List.length_nil, List.length_take, List.length_drop]; omega))))
        · rw [hm, if_pos h2]
          simp
        · rw [if_neg (by omega)] at hm
          exact ⟨k + 1, ⟨h1, hm⟩, by omega, rfl⟩
      · rw [List.drop_of_length_le h1] at hm
        rw [hm]
        simp [hk]
theorem right7_c (e : En) (hl : e.holes.length ≤ 1152921504606846976) (hb : ∀ s ∈ e.holes, s.lo < M64 ∧ s.hi < M64) : Cn Tryd.prog 24 [ep e] (.v (.bool (rightEB e))) := by
  refine cn_go Tryd.func24 [] 1 (by kernel_rfl) rfl (by simp [go_sem, seval]) ?_
  conv => arg 4; cbv
  conv => enter [5, 1]; cbv
  try simp (maxSteps := 2000000) (disch := omega) only [go_sem, seval]
  try repeat ((with_reducible refine And.intro ?_ ?_); focus (first | omega | assumption | exact True.intro | (show anyD _ _ = true; exact rfl) | (simp only [List.length_map, List.length_append, List.length_cons, List.length_nil, List.length_take, List.length_drop]; omega)))
  (first | refine callP.mk (check7_c e hl hb) rfl ?_ | refine callQ.mk (check7_c e hl hb) rfl ?_ | refine callO.rd (check7_c e hl hb) rfl ?_ | refine callO.mk (check7_c e hl hb) rfl ?_)
  try simp (maxSteps := 2000000) (disch := omega) only [go_sem, seval]
  try repeat ((with_reducible refine And.intro ?_ ?_); focus (first | omega | assumption | exact True.intro | (show anyD _ _ = true; exact rfl) | (simp only [List.length_map, List.length_append, List.length_cons, List.length_nil, List.length_take, List.length_drop]; omega)))
  rfl
end Go.Proofs.YtcedofkenfddkaaDoor
/- The contracts of word.Next and Prev, entry.Known, Of, Has, ranges.Has, of the package join. -/
namespace Go.Proofs.YtcedofkenfddkaaDoor
set_option linter.unusedVariables false
set_option linter.unusedSimpArgs false
open Go.RowKit
set_option maxRecDepth 100000
section
variable (a b : En) (ha : RightE a) (hb : RightE b) (la : a.holes.length ≤ 10000) (lb : b.holes.length ≤ 10000)
include ha hb la lb
end
end Go.Proofs.YtcedofkenfddkaaDoor
/- The contracts of entry.Canon, join.Next, entry.Has, and of the searches that they call. -/
namespace Go.Proofs.YtcedofkenfddkaaDoor
set_option linter.unusedVariables false
set_option linter.unusedSimpArgs false
open Go.RowKit
set_option maxRecDepth 100000
theorem wrap_i {n : Int} (h : -9223372036854775808 ≤ n ∧ n < 9223372036854775808) : IntKind.i64.wrap n = n := by
  simp only [IntKind.wrap, IntKind.bits, IntKind.signed]
  simp
  omega
/-- Where a test turns. -/
theorem ex_part (p : Nat → Prop) [DecidablePred p] : ∀ n, (∀ i j, i ≤ j → j < n → p j → p i) → ∃ i, i ≤ n ∧ (∀ j, j < i → p j) ∧ ∀ j, i ≤ j → j < n → ¬ p j
  | 0, _ => ⟨0, Nat.le_refl _, fun j h => absurd h (by omega), fun j h1 h2 => absurd h2 (by omega)⟩
  | n + 1, h => by
    by_cases hp : p n
    · exact ⟨n + 1, Nat.le_refl _, fun j hj => h j n (by omega) (by omega) hp, fun j h1 h2 => absurd h2 (by omega)⟩
    · obtain ⟨i, h1, h2, h3⟩ := ex_part p n fun i j hij hj => h i j hij (by omega)
      refine ⟨i, by omega, h2, fun j h4 h5 => ?_⟩
      rcases Nat.lt_or_ge j n with h6 | h6
      · exact h3 j h4 h6
      · obtain rfl : j = n := by omega
        exact hp
attribute [go_sem] wrap_i
theorem bsfR_c (l : List Iv) (x : Nat) (g : FuncId) (c : Nat → Int) (i : Nat) (hi : i ≤ l.length) (h1 : ∀ j, j < i → c j < 0) (h2 : ∀ j, i ≤ j → j < l.length → 0 ≤ c j) (hl : l.length ≤ 1152921504606846976)
    (hg : ∀ k (h : k < l.length), Cn Tryd.prog g [ivp l[k], .v (.int .u64 x)] (.v (.int .i64 (c k)))) : Cn Tryd.prog 123 [rg l, .v (.int .u64 x), .fn (.func g) [] []] (.tup [.v (.int .i64 i), .v (.bool (decide (i < l.length) && decide (c i = 0)))]) := by
  refine cn_go Tryd.func123 [] 3 (by kernel_rfl) rfl (by simp [go_sem, seval]) ?_
  conv => arg 4; cbv
  conv => enter [5, 1]; cbv
  try simp (maxSteps := 2000000) (disch := omega) only [go_sem, seval]
  try repeat ((with_reducible refine And.intro ?_ ?_); focus (first | omega | assumption | exact True.intro | (show anyD _ _ = true; exact rfl) | (simp only [List.length_map, List.length_append, List.length_cons, List.length_nil, List.length_take, List.length_drop]; omega)))
  refine pLoop.go (fun p : Nat × Nat => p.1 ≤ i ∧ i ≤ p.2 ∧ p.2 ≤ l.length) (fun p => [(9, .v (.int .i64 (p.1 : Nat))), (10, .v (.int .i64 (p.2 : Nat)))]) (fun _ => []) (fun p => p.2 - p.1) (0, l.length) [9, 10] ?_ ?_ ?_
  · exact ⟨Nat.zero_le _, hi, Nat.le_refl _⟩
  · try simp (maxSteps := 2000000) (disch := omega) only [go_sem, seval]
    try repeat ((with_reducible refine And.intro ?_ ?_); focus (first | omega | assumption | exact True.intro | (show anyD _ _ = true; exact rfl) | (simp only [List.length_map, List.length_append, List.length_cons, List.length_nil, List.length_take, List.length_drop]; omega)))
  · rintro ⟨p, q⟩ ⟨k1, k2, k3⟩
    simp only at k1 k2 k3
    try simp (maxSteps := 2000000) (disch := omega) only [go_sem, seval]
    try repeat ((with_reducible refine And.intro ?_ ?_); focus (first | omega | assumption | exact True.intro | (show anyD _ _ = true; exact rfl) | (simp only [List.length_map, List.length_append, List.length_cons, List.length_nil, List.length_take, List.length_drop]; omega)))
    (first | refine brP.mk (fun h => ?_) (fun h => ?_) | refine gdP.mkt (fun h => ?_) (fun h => ?_) | refine gdP.mkf (fun h => ?_) (fun h => ?_) | refine pkP.mk (fun h => ?_) (fun h => ?_)) <;> (try simp only [Bool.not_true, Bool.not_false, decide_eq_true_eq, decide_eq_false_iff_not, Bool.and_eq_true, Bool.or_eq_true, Bool.not_eq_true', Bool.not_eq_false', Bool.and_eq_false_iff, Bool.or_eq_false_iff, Nat.not_lt, Int.not_lt, Nat.not_le, Int.not_le, Int.ofNat_lt, Int.ofNat_le, Int.ofNat_inj, Bool.xor_false, Bool.false_xor, Bool.true_xor, Bool.xor_true] at h) <;> (try simp (maxSteps := 2000000) (disch := omega) only [go_sem, seval]) <;> (try repeat ((with_reducible refine And.intro ?_ ?_); focus (first | omega | assumption | exact True.intro | (show anyD _ _ = true; exact rfl) | (simp only [List.length_map, List.length_append, List.length_cons, List.length_nil, List.length_take, List.length_drop]; omega))))
    · have hm : (p + q) / 2 < l.length := by omega
      try simp (maxSteps := 2000000) (disch := omega) only [go_sem, seval]
      try repeat ((with_reducible refine And.intro ?_ ?_); focus (first | omega | assumption | exact True.intro | (show anyD _ _ = true; exact rfl) | (simp only [List.length_map, List.length_append, List.length_cons, List.length_nil, List.length_take, List.length_drop]; omega)))
      (first | refine callP.mk (hg ((p + q) / 2) hm) rfl ?_ | refine callQ.mk (hg ((p + q) / 2) hm) rfl ?_ | refine callO.rd (hg ((p + q) / 2) hm) rfl ?_ | refine callO.mk (hg ((p + q) / 2) hm) rfl ?_)
      try simp (maxSteps := 2000000) (disch := omega) only [go_sem, seval]
      try repeat ((with_reducible refine And.intro ?_ ?_); focus (first | omega | assumption | exact True.intro | (show anyD _ _ = true; exact rfl) | (simp only [List.length_map, List.length_append, List.length_cons, List.length_nil, List.length_take, List.length_drop]; omega)))
      (first | refine brP.mk (fun h4 => ?_) (fun h4 => ?_) | refine gdP.mkt (fun h4 => ?_) (fun h4 => ?_) | refine gdP.mkf (fun h4 => ?_) (fun h4 => ?_) | refine pkP.mk (fun h4 => ?_) (fun h4 => ?_)) <;> (try simp only [Bool.not_true, Bool.not_false, decide_eq_true_eq, decide_eq_false_iff_not, Bool.and_eq_true, Bool.or_eq_true, Bool.not_eq_true', Bool.not_eq_false', Bool.and_eq_false_iff, Bool.or_eq_false_iff, Nat.not_lt, Int.not_lt, Nat.not_le, Int.not_le, Int.ofNat_lt, Int.ofNat_le, Int.ofNat_inj, Bool.xor_false, Bool.false_xor, Bool.true_xor, Bool.xor_true] at h4) <;> (try simp (maxSteps := 2000000) (disch := omega) only [go_sem, seval]) <;> (try repeat ((with_reducible refine And.intro ?_ ?_); focus (first | omega | assumption | exact True.intro | (show anyD _ _ = true; exact rfl) | (simp only [List.length_map, List.length_append, List.length_cons, List.length_nil, List.length_take, List.length_drop]; omega))))
      · refine ⟨((p + q) / 2 + 1, q), ⟨?_, k2, k3⟩, by simp only; omega, rfl, rfl⟩
        simp only
        refine Nat.lt_of_not_le fun h5 => ?_
        have := h2 _ h5 hm
        omega
      · refine ⟨(p, (p + q) / 2), ⟨k1, ?_, by simp only; omega⟩, by simp only; omega, rfl, rfl⟩
        simp only
        refine Nat.le_of_not_lt fun h5 => ?_
        have := h1 _ h5
        omega
    · obtain rfl : p = i := by omega
      obtain rfl : q = p := by omega
      (first | refine brP.mk (fun h4 => ?_) (fun h4 => ?_) | refine gdP.mkt (fun h4 => ?_) (fun h4 => ?_) | refine gdP.mkf (fun h4 => ?_) (fun h4 => ?_) | refine pkP.mk (fun h4 => ?_) (fun h4 => ?_)) <;> (try simp only [Bool.not_true, Bool.not_false, decide_eq_true_eq, decide_eq_false_iff_not, Bool.and_eq_true, Bool.or_eq_true, Bool.not_eq_true', Bool.not_eq_false', Bool.and_eq_false_iff, Bool.or_eq_false_iff, Nat.not_lt, Int.not_lt, Nat.not_le, Int.not_le, Int.ofNat_lt, Int.ofNat_le, Int.ofNat_inj, Bool.xor_false, Bool.false_xor, Bool.true_xor, Bool.xor_true] at h4) <;> (try simp (maxSteps := 2000000) (disch := omega) only [go_sem, seval]) <;> (try repeat ((with_reducible refine And.intro ?_ ?_); focus (first | omega | assumption | exact True.intro | (show anyD _ _ = true; exact rfl) | (simp only [List.length_map, List.length_append, List.length_cons, List.length_nil, List.length_take, List.length_drop]; omega))))
      · (first | refine callP.mk (hg q h4) rfl ?_ | refine callQ.mk (hg q h4) rfl ?_ | refine callO.rd (hg q h4) rfl ?_ | refine callO.mk (hg q h4) rfl ?_)
        try simp (maxSteps := 2000000) (disch := omega) only [go_sem, seval]
        try repeat ((with_reducible refine And.intro ?_ ?_); focus (first | omega | assumption | exact True.intro | (show anyD _ _ = true; exact rfl) | (simp only [List.length_map, List.length_append, List.length_cons, List.length_nil, List.length_take, List.length_drop]; omega)))
        simp [h4]
      · have h4' : ¬ q < l.length := by omega
        simp [h4']
theorem rfind1_c (s : Iv) (x : Nat) : Cn Tryd.prog 124 [ivp s, .v (.int .u64 x)] (.v (.int .i64 (if s.hi < x then -1 else if x < s.lo then 1 else 0))) := by
  refine cn_go Tryd.func124 [] 2 (by kernel_rfl) rfl (by simp [go_sem, seval]) ?_
  conv => arg 4; cbv
  conv => enter [5, 1]; cbv
  try simp (maxSteps := 2000000) (disch := omega) only [go_sem, seval]
  try repeat ((with_reducible refine And.intro ?_ ?_); focus (first | omega | assumption | exact True.intro | (show anyD _ _ = true; exact rfl) | (simp only [List.length_map, List.length_append, List.length_cons, List.length_nil, List.length_take, List.length_drop]; omega)))
  (first | refine brP.mk (fun h1 => ?_) (fun h1 => ?_) | refine gdP.mkt (fun h1 => ?_) (fun h1 => ?_) | refine gdP.mkf (fun h1 => ?_) (fun h1 => ?_) | refine pkP.mk (fun h1 => ?_) (fun h1 => ?_)) <;> (try simp only [Bool.not_true, Bool.not_false, decide_eq_true_eq, decide_eq_false_iff_not, Bool.and_eq_true, Bool.or_eq_true, Bool.not_eq_true', Bool.not_eq_false', Bool.and_eq_false_iff, Bool.or_eq_false_iff, Nat.not_lt, Int.not_lt, Nat.not_le, Int.not_le, Int.ofNat_lt, Int.ofNat_le, Int.ofNat_inj, Bool.xor_false, Bool.false_xor, Bool.true_xor, Bool.xor_true] at h1) <;> (try simp (maxSteps := 2000000) (disch := omega) only [go_sem, seval]) <;> (try repeat ((with_reducible refine And.intro ?_ ?_); focus (first | omega | assumption | exact True.intro | (show anyD _ _ = true; exact rfl) | (simp only [List.length_map, List.length_append, List.length_cons, List.length_nil, List.length_take, List.length_drop]; omega))))
  · rw [if_pos h1]
  · rw [if_neg (by omega)]
    (first | refine brP.mk (fun h2 => ?_) (fun h2 => ?_) | refine gdP.mkt (fun h2 => ?_) (fun h2 => ?_) | refine gdP.mkf (fun h2 => ?_) (fun h2 => ?_) | refine pkP.mk (fun h2 => ?_) (fun h2 => ?_)) <;> (try simp only [Bool.not_true, Bool.not_false, decide_eq_true_eq, decide_eq_false_iff_not, Bool.and_eq_true, Bool.or_eq_true, Bool.not_eq_true', Bool.not_eq_false', Bool.and_eq_false_iff, Bool.or_eq_false_iff, Nat.not_lt, Int.not_lt, Nat.not_le, Int.not_le, Int.ofNat_lt, Int.ofNat_le, Int.ofNat_inj, Bool.xor_false, Bool.false_xor, Bool.true_xor, Bool.xor_true] at h2) <;> (try simp (maxSteps := 2000000) (disch := omega) only [go_sem, seval]) <;> (try repeat ((with_reducible refine And.intro ?_ ?_); focus (first | omega | assumption | exact True.intro | (show anyD _ _ = true; exact rfl) | (simp only [List.length_map, List.length_append, List.length_cons, List.length_nil, List.length_take, List.length_drop]; omega))))
    · rw [if_pos h2]
    · rw [if_neg (by omega)]
/-- Where a number is looked for. -/
theorem part_mem {l : List Iv} (hl : Nrm l) (x : Nat) : ∃ i, i ≤ l.length ∧ (∀ j, (h : j < l.length) → j < i → l[j].hi < x) ∧ (∀ j, (h : j < l.length) → i ≤ j → x ≤ l[j].hi) ∧ (mem l x = true ↔ ∃ h : i < l.length, l[i].lo ≤ x) := by
  have mono : ∀ {n : Nat} {l : List Iv}, NF n l → ∀ i j, (hij : i < j) → (hj : j < l.length) → l[i].hi < l[j].lo := by
    intro n l
    induction l generalizing n with
    | nil => intro _ i j _ hj; simp at hj
    | cons s l ih =>
      intro h i j hij hj
      obtain ⟨j', rfl⟩ : ∃ j', j = j' + 1 := ⟨j - 1, by omega⟩
      cases i with
      | zero =>
        have := NF.lo_ge h.2.2.2 (l[j']'(by simpa using hj)) (List.getElem_mem _)
        simp only [List.getElem_cons_zero, List.getElem_cons_succ]
        omega
      | succ i => exact ih h.2.2.2 i j' (by omega) (by simpa using hj)
  obtain ⟨i, h1, h2, h3⟩ := ex_part (fun j => ∃ h : j < l.length, l[j].hi < x) l.length fun a b hab hb ⟨h4, h5⟩ => by
    refine ⟨by omega, ?_⟩
    rcases Nat.lt_or_eq_of_le hab with h6 | h6
    · have := mono hl a b h6 hb
      have := NF.lo_ge hl l[b] (List.getElem_mem _)
      omega
    · subst h6; exact h5
  have h3' : ∀ j, (h : j < l.length) → i ≤ j → x ≤ l[j].hi := fun j hj hij => by
    have := h3 j hij hj
    exact Nat.le_of_not_lt fun h => this ⟨hj, h⟩
  refine ⟨i, h1, fun j hj hji => (h2 j hji).2, h3', ?_⟩
  rw [mem_iff]
  constructor
  · rintro ⟨s, hs, h4, h5⟩
    obtain ⟨j, hj, rfl⟩ := List.getElem_of_mem hs
    have hij : i ≤ j := Nat.le_of_not_lt fun h => by have := (h2 j h).2; omega
    refine ⟨by omega, ?_⟩
    rcases Nat.lt_or_eq_of_le hij with h6 | h6
    · have := mono hl i j h6 hj
      have := NF.lo_ge hl (l[i]'(by omega)) (List.getElem_mem _)
      omega
    · subst h6; exact h4
  · rintro ⟨h, h4⟩
    exact ⟨l[i], List.getElem_mem _, h4, h3' i h (Nat.le_refl _)⟩
def cmpI (x : Nat) (s : Iv) : Int := if s.hi < x then -1 else if x < s.lo then 1 else 0
theorem rhas_c (l : List Iv) (x : Nat) (hl : Nrm l) (hn : l.length ≤ 1152921504606846976) : Cn Tryd.prog 81 [rg l, .v (.int .u64 x)] (.v (.bool (mem l x))) := by
  obtain ⟨i, h1, h2, h3, h4⟩ := part_mem hl x
  have hF : Cn Tryd.prog 106 [rg l, .v (.int .u64 x)] (.v (.int .i64 (if mem l x then (i : Int) else -1))) := by
    refine cn_go Tryd.func106 [] 2 (by kernel_rfl) rfl (by simp [go_sem, seval]) ?_
    conv => arg 4; cbv
    conv => enter [5, 1]; cbv
    try simp (maxSteps := 2000000) (disch := omega) only [go_sem, seval]
    try repeat ((with_reducible refine And.intro ?_ ?_); focus (first | omega | assumption | exact True.intro | (show anyD _ _ = true; exact rfl) | (simp only [List.length_map, List.length_append, List.length_cons, List.length_nil, List.length_take, List.length_drop]; omega)))
    (first | refine callP.mk (bsfR_c l x 124 (fun k => if h : k < l.length then cmpI x l[k] else 0) i h1 (fun j hj => by rw [dif_pos (show j < l.length by omega)]; unfold cmpI; rw [if_pos (h2 j (by omega) hj)]; decide) (fun j hj hjl => by rw [dif_pos hjl]; unfold cmpI; rw [if_neg (by have := h3 j hjl hj; omega)]; split <;> decide) hn (fun k h => by rw [dif_pos h]; exact rfind1_c l[k] x)) rfl ?_ | refine callQ.mk (bsfR_c l x 124 (fun k => if h : k < l.length then cmpI x l[k] else 0) i h1 (fun j hj => by rw [dif_pos (show j < l.length by omega)]; unfold cmpI; rw [if_pos (h2 j (by omega) hj)]; decide) (fun j hj hjl => by rw [dif_pos hjl]; unfold cmpI; rw [if_neg (by have := h3 j hjl hj; omega)]; split <;> decide) hn (fun k h => by rw [dif_pos h]; exact rfind1_c l[k] x)) rfl ?_ | refine callO.rd (bsfR_c l x 124 (fun k => if h : k < l.length then cmpI x l[k] else 0) i h1 (fun j hj => by rw [dif_pos (show j < l.length by omega)]; unfold cmpI; rw [if_pos (h2 j (by omega) hj)]; decide) (fun j hj hjl => by rw [dif_pos hjl]; unfold cmpI; rw [if_neg (by have := h3 j hjl hj; omega)]; split <;> decide) hn (fun k h => by rw [dif_pos h]; exact rfind1_c l[k] x)) rfl ?_ | refine callO.mk (bsfR_c l x 124 (fun k => if h : k < l.length then cmpI x l[k] else 0) i h1 (fun j hj => by rw [dif_pos (show j < l.length by omega)]; unfold cmpI; rw [if_pos (h2 j (by omega) hj)]; decide) (fun j hj hjl => by rw [dif_pos hjl]; unfold cmpI; rw [if_neg (by have := h3 j hjl hj; omega)]; split <;> decide) hn (fun k h => by rw [dif_pos h]; exact rfind1_c l[k] x)) rfl ?_)
    try simp (maxSteps := 2000000) (disch := omega) only [go_sem, seval]
    try repeat ((with_reducible refine And.intro ?_ ?_); focus (first | omega | assumption | exact True.intro | (show anyD _ _ = true; exact rfl) | (simp only [List.length_map, List.length_append, List.length_cons, List.length_nil, List.length_take, List.length_drop]; omega)))
    have e : (decide (i < l.length) && decide ((if h : i < l.length then cmpI x l[i] else 0) = 0)) = mem l x := by
      rw [Bool.eq_iff_iff, h4]
      simp only [Bool.and_eq_true, decide_eq_true_eq]
      constructor
      · rintro ⟨k1, k2⟩
        refine ⟨k1, ?_⟩
        rw [dif_pos k1] at k2
        unfold cmpI at k2
        split at k2
        · cases k2
        · split at k2
          · cases k2
          · omega
      · rintro ⟨k1, k2⟩
        refine ⟨k1, ?_⟩
        rw [dif_pos k1]
        unfold cmpI
        rw [if_neg (by have := h3 i k1 (Nat.le_refl _); omega), if_neg (by omega)]
    rw [e]
    (first | refine brP.mk (fun h5 => ?_) (fun h5 => ?_) | refine gdP.mkt (fun h5 => ?_) (fun h5 => ?_) | refine gdP.mkf (fun h5 => ?_) (fun h5 => ?_) | refine pkP.mk (fun h5 => ?_) (fun h5 => ?_)) <;> (try simp only [Bool.not_true, Bool.not_false, decide_eq_true_eq, decide_eq_false_iff_not, Bool.and_eq_true, Bool.or_eq_true, Bool.not_eq_true', Bool.not_eq_false', Bool.and_eq_false_iff, Bool.or_eq_false_iff, Nat.not_lt, Int.not_lt, Nat.not_le, Int.not_le, Int.ofNat_lt, Int.ofNat_le, Int.ofNat_inj, Bool.xor_false, Bool.false_xor, Bool.true_xor, Bool.xor_true] at h5) <;> (try simp (maxSteps := 2000000) (disch := omega) only [go_sem, seval]) <;> (try repeat ((with_reducible refine And.intro ?_ ?_); focus (first | omega | assumption | exact True.intro | (show anyD _ _ = true; exact rfl) | (simp only [List.length_map, List.length_append, List.length_cons, List.length_nil, List.length_take, List.length_drop]; omega))))
    · rw [h5]; rfl
    · rw [h5]; rfl
  refine cn_go Tryd.func81 [] 2 (by kernel_rfl) rfl (by simp [go_sem, seval]) ?_
  conv => arg 4; cbv
  conv => enter [5, 1]; cbv
  try simp (maxSteps := 2000000) (disch := omega) only [go_sem, seval]
  try repeat ((with_reducible refine And.intro ?_ ?_); focus (first | omega | assumption | exact True.intro | (show anyD _ _ = true; exact rfl) | (simp only [List.length_map, List.length_append, List.length_cons, List.length_nil, List.length_take, List.length_drop]; omega)))
  (first | refine callP.mk (hF) rfl ?_ | refine callQ.mk (hF) rfl ?_ | refine callO.rd (hF) rfl ?_ | refine callO.mk (hF) rfl ?_)
  try simp (maxSteps := 2000000) (disch := omega) only [go_sem, seval]
  try repeat ((with_reducible refine And.intro ?_ ?_); focus (first | omega | assumption | exact True.intro | (show anyD _ _ = true; exact rfl) | (simp only [List.length_map, List.length_append, List.length_cons, List.length_nil, List.length_take, List.length_drop]; omega)))
  cases mem l x <;> simp
theorem ehas_c (e : En) (c : Nat) (h : RightE e) (hn : e.holes.length ≤ 1152921504606846976) : Cn Tryd.prog 27 [ep e, .v (.int .u64 c)] (.v (.bool (decide (c ≤ e.max) && !mem e.holes c))) := by
  refine cn_go Tryd.func27 [] 2 (by kernel_rfl) rfl (by simp [go_sem, seval]) ?_
  conv => arg 4; cbv
  conv => enter [5, 1]; cbv
  try simp (maxSteps := 2000000) (disch := omega) only [go_sem, seval]
  try repeat ((with_reducible refine And.intro ?_ ?_); focus (first | omega | assumption | exact True.intro | (show anyD _ _ = true; exact rfl) | (simp only [List.length_map, List.length_append, List.length_cons, List.length_nil, List.length_take, List.length_drop]; omega)))
  (first | refine brP.mk (fun h1 => ?_) (fun h1 => ?_) | refine gdP.mkt (fun h1 => ?_) (fun h1 => ?_) | refine gdP.mkf (fun h1 => ?_) (fun h1 => ?_) | refine pkP.mk (fun h1 => ?_) (fun h1 => ?_)) <;> (try simp only [Bool.not_true, Bool.not_false, decide_eq_true_eq, decide_eq_false_iff_not, Bool.and_eq_true, Bool.or_eq_true, Bool.not_eq_true', Bool.not_eq_false', Bool.and_eq_false_iff, Bool.or_eq_false_iff, Nat.not_lt, Int.not_lt, Nat.not_le, Int.not_le, Int.ofNat_lt, Int.ofNat_le, Int.ofNat_inj, Bool.xor_false, Bool.false_xor, Bool.true_xor, Bool.xor_true] at h1) <;> (try simp (maxSteps := 2000000) (disch := omega) only [go_sem, seval]) <;> (try repeat ((with_reducible refine And.intro ?_ ?_); focus (first | omega | assumption | exact True.intro | (show anyD _ _ = true; exact rfl) | (simp only [List.length_map, List.length_append, List.length_cons, List.length_nil, List.length_take, List.length_drop]; omega))))
  · (first | refine callP.mk (rhas_c e.holes c h.1 hn) rfl ?_ | refine callQ.mk (rhas_c e.holes c h.1 hn) rfl ?_ | refine callO.rd (rhas_c e.holes c h.1 hn) rfl ?_ | refine callO.mk (rhas_c e.holes c h.1 hn) rfl ?_)
    try simp (maxSteps := 2000000) (disch := omega) only [go_sem, seval]
    try repeat ((with_reducible refine And.intro ?_ ?_); focus (first | omega | assumption | exact True.intro | (show anyD _ _ = true; exact rfl) | (simp only [List.length_map, List.length_append, List.length_cons, List.length_nil, List.length_take, List.length_drop]; omega)))
    simp [h1]
  · have h1' : ¬ c ≤ e.max := by omega
    simp [h1']
end Go.Proofs.YtcedofkenfddkaaDoor
/- The laws of chapter 8: they return true. -/
namespace Go.Proofs.YtcedofkenfddkaaDoor
set_option linter.unusedVariables false
set_option linter.unusedSimpArgs false
open Go.RowKit
set_option maxRecDepth 100000
/-- A list of entries. -/
def vp (v : List En) : PV := .sl (v.map ec) .sh
attribute [go_sem] vp
def BdE (e : En) : Prop := (∀ s ∈ e.holes, s.lo < M64 ∧ s.hi < M64) ∧ e.max < M64 ∧ e.rep < M64
def ea : En := ⟨1, 2, []⟩
def eb : En := ⟨1, 5, [⟨3, 4⟩]⟩
section
variable (a b : En) (ha : BdE a) (hb : BdE b)
include ha hb
end
end Go.Proofs.YtcedofkenfddkaaDoor
/- From the data of an argument of type Entry to its pure value. No condition. -/
namespace Go.Proofs.YtcedofkenfddkaaDoor
set_option linter.unusedVariables false
set_option linter.unusedSimpArgs false
open Go.ChangeShapes Go.WideShapes Go.ChangeAt Go.RowKit Go.Deep
set_option maxRecDepth 100000
section
variable {H : Type} {enc : TypeId × Value → H} {w : World} {base : Nat} {spare : Nat → Bool} {held : Bool}
end
end Go.Proofs.YtcedofkenfddkaaDoor
/- A vector's reading in memory. No condition. -/
namespace Go.Proofs.YtcedofkenfddkaaDoor
set_option linter.unusedVariables false
set_option linter.unusedSimpArgs false
open Go.RowKit
set_option maxRecDepth 100000
theorem dat_rdv {D : Nat → Nat → Prop} {w : World} {x : Value} {v : List En} (h : Dat D w x (vp v)) (hD : ∀ b o, D b o → b < w.heap.size) (hb : ∀ e ∈ v, BdE e) : RdV w.heap.size w x v := by
  unfold vp at h
  generalize he : v.map ec = es at h
  cases h with
  | sl a cap sz es o b off u hc hz hm ha hsz hd hx =>
    have hl : es.length = v.length := by rw [← he]; simp
    refine ⟨a, cap, by rw [hl], by omega, hm, fun hne => ?_⟩
    have hpos : 0 < v.length := List.length_pos_iff.2 hne
    have g : ∀ i (h : i < v.length), es[i]? = some (ec v[i]) := fun i h => by rw [← he]; exact map_at h
    obtain rfl : 3 = sz := hsz 0 _ (g 0 hpos)
    have hes : es ≠ [] := by intro e; subst e; simp at hl; omega
    have hdlt : b < w.heap.size := hD _ _ (hd 0 (by omega)).1
    refine ⟨b, off, ha hes, Nat.zero_le _, hdlt, fun i hi => ?_⟩
    have e0 := (hx i _ 0 _ (g i hi) rfl).v_inv
    have e1 := (hx i _ 1 _ (g i hi) rfl).v_inv
    have e2 := hx i _ 2 _ (g i hi) rfl
    have c0 := (hd (i * 3 + 0) (by omega)).2.1
    have c1 := (hd (i * 3 + 1) (by omega)).2.1
    have c2 := (hd (i * 3 + 2) (by omega)).2.1
    rw [e0] at c0
    rw [e1] at c1
    obtain ⟨b1, b2, b3⟩ := hb _ (List.getElem_mem hi)
    exact ⟨c0, c1, ⟨_, c2, dat_rdr e2 hD b1⟩, b3, b2⟩
end Go.Proofs.YtcedofkenfddkaaDoor
/- The contracts of span.Check and Relate, fault.New, ranges.Check. -/
namespace Go.Proofs.YtcedofkenfddkaaDoor
set_option linter.unusedVariables false
set_option linter.unusedSimpArgs false
open Go.RowKit
set_option maxRecDepth 100000
/-- An error as fault.New makes it. -/
def errV (c : Nat) (k : Int) : PV := if c = 0 then .v .nilIface else .ifc 89 (.agg [.v (.int .i64 c), .v (.int .i64 k)])
def errno (c : Nat) : PV := .ifc 50 (.v (.int .i64 c))
theorem errV_sub (c : Nat) (k : Int) : SubP 0 (errV c k) (errV c k) := .eq _ (by unfold errV; split <;> rfl)
theorem fnew_c (c : Nat) (k : Int) : Cn Tryd.prog 77 [.v (.int .i64 c), .v (.int .i64 k)] (errV c k) := by
  refine cn_go Tryd.func77 [] 2 (by kernel_rfl) rfl (by simp [go_sem, seval]) ?_
  conv => arg 4; cbv
  conv => enter [5, 1]; cbv
  try simp (maxSteps := 2000000) (disch := omega) only [go_sem, seval]
  try repeat ((with_reducible refine And.intro ?_ ?_); focus (first | omega | assumption | exact True.intro | (show anyD _ _ = true; exact rfl) | (simp only [List.length_map, List.length_append, List.length_cons, List.length_nil, List.length_take, List.length_drop]; omega)))
  unfold errV
  (first | refine brP.mk (fun h => ?_) (fun h => ?_) | refine gdP.mkt (fun h => ?_) (fun h => ?_) | refine gdP.mkf (fun h => ?_) (fun h => ?_) | refine pkP.mk (fun h => ?_) (fun h => ?_)) <;> (try simp only [Bool.not_true, Bool.not_false, decide_eq_true_eq, decide_eq_false_iff_not, Bool.and_eq_true, Bool.or_eq_true, Bool.not_eq_true', Bool.not_eq_false', Bool.and_eq_false_iff, Bool.or_eq_false_iff, Nat.not_lt, Int.not_lt, Nat.not_le, Int.not_le, Int.ofNat_lt, Int.ofNat_le, Int.ofNat_inj, Bool.xor_false, Bool.false_xor, Bool.true_xor, Bool.xor_true] at h) <;> (try simp (maxSteps := 2000000) (disch := omega) only [go_sem, seval]) <;> (try repeat ((with_reducible refine And.intro ?_ ?_); focus (first | omega | assumption | exact True.intro | (show anyD _ _ = true; exact rfl) | (simp only [List.length_map, List.length_append, List.length_cons, List.length_nil, List.length_take, List.length_drop]; omega))))
  · rw [if_pos (by omega)]
    try simp (maxSteps := 2000000) (disch := omega) only [go_sem, seval]
    try repeat ((with_reducible refine And.intro ?_ ?_); focus (first | omega | assumption | exact True.intro | (show anyD _ _ = true; exact rfl) | (simp only [List.length_map, List.length_append, List.length_cons, List.length_nil, List.length_take, List.length_drop]; omega)))
  · rw [if_neg (by omega)]
    try simp (maxSteps := 2000000) (disch := omega) only [go_sem, seval]
    try repeat ((with_reducible refine And.intro ?_ ?_); focus (first | omega | assumption | exact True.intro | (show anyD _ _ = true; exact rfl) | (simp only [List.length_map, List.length_append, List.length_cons, List.length_nil, List.length_take, List.length_drop]; omega)))
theorem between_c (a b : Nat) (hb : b < M64) : Cn Tryd.prog 105 [.v (.int .u64 a), .v (.int .u64 b)] (.tup [.v (.int .u64 (b - a - 1 : Nat)), .v (.bool (decide (a < b)))]) := by
  have hM := M64_val
  refine cn_go Tryd.func105 [] 2 (by kernel_rfl) rfl (by simp [go_sem, seval]) ?_
  conv => arg 4; cbv
  conv => enter [5, 1]; cbv
  try simp (maxSteps := 2000000) (disch := omega) only [go_sem, seval]
  try repeat ((with_reducible refine And.intro ?_ ?_); focus (first | omega | assumption | exact True.intro | (show anyD _ _ = true; exact rfl) | (simp only [List.length_map, List.length_append, List.length_cons, List.length_nil, List.length_take, List.length_drop]; omega)))
  (first | refine brP.mk (fun h => ?_) (fun h => ?_) | refine gdP.mkt (fun h => ?_) (fun h => ?_) | refine gdP.mkf (fun h => ?_) (fun h => ?_) | refine pkP.mk (fun h => ?_) (fun h => ?_)) <;> (try simp only [Bool.not_true, Bool.not_false, decide_eq_true_eq, decide_eq_false_iff_not, Bool.and_eq_true, Bool.or_eq_true, Bool.not_eq_true', Bool.not_eq_false', Bool.and_eq_false_iff, Bool.or_eq_false_iff, Nat.not_lt, Int.not_lt, Nat.not_le, Int.not_le, Int.ofNat_lt, Int.ofNat_le, Int.ofNat_inj, Bool.xor_false, Bool.false_xor, Bool.true_xor, Bool.xor_true] at h) <;> (try simp (maxSteps := 2000000) (disch := omega) only [go_sem, seval]) <;> (try repeat ((with_reducible refine And.intro ?_ ?_); focus (first | omega | assumption | exact True.intro | (show anyD _ _ = true; exact rfl) | (simp only [List.length_map, List.length_append, List.length_cons, List.length_nil, List.length_take, List.length_drop]; omega))))
  · have h1 : ¬ a < b := by omega
    have h2 : b - a - 1 = 0 := by omega
    simp [h1, h2]
  · simp [h]
theorem scheck_c (s : Iv) : Cn Tryd.prog 76 [ivp s] (if s.lo ≤ s.hi then .v .nilIface else errno 2) := by
  refine cn_go Tryd.func76 [] 1 (by kernel_rfl) rfl (by simp [go_sem, seval]) ?_
  conv => arg 4; cbv
  conv => enter [5, 1]; cbv
  try simp (maxSteps := 2000000) (disch := omega) only [go_sem, seval]
  try repeat ((with_reducible refine And.intro ?_ ?_); focus (first | omega | assumption | exact True.intro | (show anyD _ _ = true; exact rfl) | (simp only [List.length_map, List.length_append, List.length_cons, List.length_nil, List.length_take, List.length_drop]; omega)))
  (first | refine brP.mk (fun h => ?_) (fun h => ?_) | refine gdP.mkt (fun h => ?_) (fun h => ?_) | refine gdP.mkf (fun h => ?_) (fun h => ?_) | refine pkP.mk (fun h => ?_) (fun h => ?_)) <;> (try simp only [Bool.not_true, Bool.not_false, decide_eq_true_eq, decide_eq_false_iff_not, Bool.and_eq_true, Bool.or_eq_true, Bool.not_eq_true', Bool.not_eq_false', Bool.and_eq_false_iff, Bool.or_eq_false_iff, Nat.not_lt, Int.not_lt, Nat.not_le, Int.not_le, Int.ofNat_lt, Int.ofNat_le, Int.ofNat_inj, Bool.xor_false, Bool.false_xor, Bool.true_xor, Bool.xor_true] at h) <;> (try simp (maxSteps := 2000000) (disch := omega) only [go_sem, seval]) <;> (try repeat ((with_reducible refine And.intro ?_ ?_); focus (first | omega | assumption | exact True.intro | (show anyD _ _ = true; exact rfl) | (simp only [List.length_map, List.length_append, List.length_cons, List.length_nil, List.length_take, List.length_drop]; omega))))
  · rw [if_neg (by omega)]
    unfold errno
    try simp (maxSteps := 2000000) (disch := omega) only [go_sem, seval]
    try repeat ((with_reducible refine And.intro ?_ ?_); focus (first | omega | assumption | exact True.intro | (show anyD _ _ = true; exact rfl) | (simp only [List.length_map, List.length_append, List.length_cons, List.length_nil, List.length_take, List.length_drop]; omega)))
  · rw [if_pos h]
    try simp (maxSteps := 2000000) (disch := omega) only [go_sem, seval]
    try repeat ((with_reducible refine And.intro ?_ ?_); focus (first | omega | assumption | exact True.intro | (show anyD _ _ = true; exact rfl) | (simp only [List.length_map, List.length_append, List.length_cons, List.length_nil, List.length_take, List.length_drop]; omega)))
theorem srel_c (s t : Iv) (h1 : s.lo ≤ s.hi) (h2 : t.lo ≤ t.hi) (h3 : s.hi < M64) (h4 : t.hi < M64) : Cn Tryd.prog 78 [ivp s, ivp t] (.v (.int .i64 (relate s t : Nat))) := by
  have hM := M64_val
  refine cn_go Tryd.func78 [] 2 (by kernel_rfl) rfl (by simp [go_sem, seval]) ?_
  conv => arg 4; cbv
  conv => enter [5, 1]; cbv
  try simp (maxSteps := 2000000) (disch := omega) only [go_sem, seval]
  try repeat ((with_reducible refine And.intro ?_ ?_); focus (first | omega | assumption | exact True.intro | (show anyD _ _ = true; exact rfl) | (simp only [List.length_map, List.length_append, List.length_cons, List.length_nil, List.length_take, List.length_drop]; omega)))
  (first | refine callP.mk (between_c s.hi t.lo (by omega)) rfl ?_ | refine callQ.mk (between_c s.hi t.lo (by omega)) rfl ?_ | refine callO.rd (between_c s.hi t.lo (by omega)) rfl ?_ | refine callO.mk (between_c s.hi t.lo (by omega)) rfl ?_)
  try simp (maxSteps := 2000000) (disch := omega) only [go_sem, seval]
  try repeat ((with_reducible refine And.intro ?_ ?_); focus (first | omega | assumption | exact True.intro | (show anyD _ _ = true; exact rfl) | (simp only [List.length_map, List.length_append, List.length_cons, List.length_nil, List.length_take, List.length_drop]; omega)))
  unfold relate
  by_cases k1 : s.hi < t.lo
  · have k2 : ¬ t.hi < s.lo := by omega
    by_cases k3 : s.hi + 1 = t.lo
    · have k4 : t.lo - s.hi - 1 = 0 := by omega
      rw [if_pos k1, if_pos k3, k4, decide_eq_true k1]
      try simp (maxSteps := 2000000) (disch := omega) only [go_sem, seval]
      try repeat ((with_reducible refine And.intro ?_ ?_); focus (first | omega | assumption | exact True.intro | (show anyD _ _ = true; exact rfl) | (simp only [List.length_map, List.length_append, List.length_cons, List.length_nil, List.length_take, List.length_drop]; omega)))
      (first | refine callP.mk (between_c t.hi s.lo (by omega)) rfl ?_ | refine callQ.mk (between_c t.hi s.lo (by omega)) rfl ?_ | refine callO.rd (between_c t.hi s.lo (by omega)) rfl ?_ | refine callO.mk (between_c t.hi s.lo (by omega)) rfl ?_)
      try simp (maxSteps := 2000000) (disch := omega) only [go_sem, seval]
      try repeat ((with_reducible refine And.intro ?_ ?_); focus (first | omega | assumption | exact True.intro | (show anyD _ _ = true; exact rfl) | (simp only [List.length_map, List.length_append, List.length_cons, List.length_nil, List.length_take, List.length_drop]; omega)))
      rw [decide_eq_false k2]
      try simp (maxSteps := 2000000) (disch := omega) only [go_sem, seval]
      try repeat ((with_reducible refine And.intro ?_ ?_); focus (first | omega | assumption | exact True.intro | (show anyD _ _ = true; exact rfl) | (simp only [List.length_map, List.length_append, List.length_cons, List.length_nil, List.length_take, List.length_drop]; omega)))
    · have k4 : 0 < t.lo - s.hi - 1 := by omega
      rw [if_pos k1, if_neg k3, decide_eq_true k1]
      try simp (maxSteps := 2000000) (disch := omega) only [go_sem, seval]
      try repeat ((with_reducible refine And.intro ?_ ?_); focus (first | omega | assumption | exact True.intro | (show anyD _ _ = true; exact rfl) | (simp only [List.length_map, List.length_append, List.length_cons, List.length_nil, List.length_take, List.length_drop]; omega)))
      (first | refine brP.mk (fun k5 => ?_) (fun k5 => ?_) | refine gdP.mkt (fun k5 => ?_) (fun k5 => ?_) | refine gdP.mkf (fun k5 => ?_) (fun k5 => ?_) | refine pkP.mk (fun k5 => ?_) (fun k5 => ?_)) <;> (try simp only [Bool.not_true, Bool.not_false, decide_eq_true_eq, decide_eq_false_iff_not, Bool.and_eq_true, Bool.or_eq_true, Bool.not_eq_true', Bool.not_eq_false', Bool.and_eq_false_iff, Bool.or_eq_false_iff, Nat.not_lt, Int.not_lt, Nat.not_le, Int.not_le, Int.ofNat_lt, Int.ofNat_le, Int.ofNat_inj, Bool.xor_false, Bool.false_xor, Bool.true_xor, Bool.xor_true] at k5) <;> (try simp (maxSteps := 2000000) (disch := omega) only [go_sem, seval]) <;> (try repeat ((with_reducible refine And.intro ?_ ?_); focus (first | omega | assumption | exact True.intro | (show anyD _ _ = true; exact rfl) | (simp only [List.length_map, List.length_append, List.length_cons, List.length_nil, List.length_take, List.length_drop]; omega))))
      · (first | refine callP.mk (between_c t.hi s.lo (by omega)) rfl ?_ | refine callQ.mk (between_c t.hi s.lo (by omega)) rfl ?_ | refine callO.rd (between_c t.hi s.lo (by omega)) rfl ?_ | refine callO.mk (between_c t.hi s.lo (by omega)) rfl ?_)
        try simp (maxSteps := 2000000) (disch := omega) only [go_sem, seval]
        try repeat ((with_reducible refine And.intro ?_ ?_); focus (first | omega | assumption | exact True.intro | (show anyD _ _ = true; exact rfl) | (simp only [List.length_map, List.length_append, List.length_cons, List.length_nil, List.length_take, List.length_drop]; omega)))
        rw [decide_eq_false k2]
        try simp (maxSteps := 2000000) (disch := omega) only [go_sem, seval]
        try repeat ((with_reducible refine And.intro ?_ ?_); focus (first | omega | assumption | exact True.intro | (show anyD _ _ = true; exact rfl) | (simp only [List.length_map, List.length_append, List.length_cons, List.length_nil, List.length_take, List.length_drop]; omega)))
      · exact absurd k4 (by omega)
  · rw [if_neg k1, decide_eq_false k1]
    try simp (maxSteps := 2000000) (disch := omega) only [go_sem, seval]
    try repeat ((with_reducible refine And.intro ?_ ?_); focus (first | omega | assumption | exact True.intro | (show anyD _ _ = true; exact rfl) | (simp only [List.length_map, List.length_append, List.length_cons, List.length_nil, List.length_take, List.length_drop]; omega)))
    (first | refine callP.mk (between_c t.hi s.lo (by omega)) rfl ?_ | refine callQ.mk (between_c t.hi s.lo (by omega)) rfl ?_ | refine callO.rd (between_c t.hi s.lo (by omega)) rfl ?_ | refine callO.mk (between_c t.hi s.lo (by omega)) rfl ?_)
    try simp (maxSteps := 2000000) (disch := omega) only [go_sem, seval]
    try repeat ((with_reducible refine And.intro ?_ ?_); focus (first | omega | assumption | exact True.intro | (show anyD _ _ = true; exact rfl) | (simp only [List.length_map, List.length_append, List.length_cons, List.length_nil, List.length_take, List.length_drop]; omega)))
    by_cases k2 : t.hi < s.lo
    · by_cases k3 : t.hi + 1 = s.lo
      · have k4 : s.lo - t.hi - 1 = 0 := by omega
        rw [if_pos k2, if_pos k3, k4, decide_eq_true k2]
        try simp (maxSteps := 2000000) (disch := omega) only [go_sem, seval]
        try repeat ((with_reducible refine And.intro ?_ ?_); focus (first | omega | assumption | exact True.intro | (show anyD _ _ = true; exact rfl) | (simp only [List.length_map, List.length_append, List.length_cons, List.length_nil, List.length_take, List.length_drop]; omega)))
      · have k4 : 0 < s.lo - t.hi - 1 := by omega
        rw [if_pos k2, if_neg k3, decide_eq_true k2]
        try simp (maxSteps := 2000000) (disch := omega) only [go_sem, seval]
        try repeat ((with_reducible refine And.intro ?_ ?_); focus (first | omega | assumption | exact True.intro | (show anyD _ _ = true; exact rfl) | (simp only [List.length_map, List.length_append, List.length_cons, List.length_nil, List.length_take, List.length_drop]; omega)))
        (first | refine brP.mk (fun k5 => ?_) (fun k5 => ?_) | refine gdP.mkt (fun k5 => ?_) (fun k5 => ?_) | refine gdP.mkf (fun k5 => ?_) (fun k5 => ?_) | refine pkP.mk (fun k5 => ?_) (fun k5 => ?_)) <;> (try simp only [Bool.not_true, Bool.not_false, decide_eq_true_eq, decide_eq_false_iff_not, Bool.and_eq_true, Bool.or_eq_true, Bool.not_eq_true', Bool.not_eq_false', Bool.and_eq_false_iff, Bool.or_eq_false_iff, Nat.not_lt, Int.not_lt, Nat.not_le, Int.not_le, Int.ofNat_lt, Int.ofNat_le, Int.ofNat_inj, Bool.xor_false, Bool.false_xor, Bool.true_xor, Bool.xor_true] at k5) <;> (try simp (maxSteps := 2000000) (disch := omega) only [go_sem, seval]) <;> (try repeat ((with_reducible refine And.intro ?_ ?_); focus (first | omega | assumption | exact True.intro | (show anyD _ _ = true; exact rfl) | (simp only [List.length_map, List.length_append, List.length_cons, List.length_nil, List.length_take, List.length_drop]; omega))))
        exact absurd k4 (by omega)
    · rw [if_neg k2, decide_eq_false k2]
      try simp (maxSteps := 2000000) (disch := omega) only [go_sem, seval]
      try repeat ((with_reducible refine And.intro ?_ ?_); focus (first | omega | assumption | exact True.intro | (show anyD _ _ = true; exact rfl) | (simp only [List.length_map, List.length_append, List.length_cons, List.length_nil, List.length_take, List.length_drop]; omega)))
theorem rcheck_c (l : List Iv) (hb : ∀ s ∈ l, s.lo < M64 ∧ s.hi < M64) (hl : l.length ≤ 1152921504606846976) (hC : (chk l).1 = 0 ∨ Cn Tryd.prog 39 [errno 2] (.v (.int .i64 2))) : Cn Tryd.prog 22 [rg l] (errV (chk l).1 (chk l).2) := by
  refine cn_go Tryd.func22 [] 1 (by kernel_rfl) rfl (by simp [go_sem, seval]) ?_
  conv => arg 4; cbv
  conv => enter [5, 1]; cbv
  try simp (maxSteps := 2000000) (disch := omega) only [go_sem, seval]
  try repeat ((with_reducible refine And.intro ?_ ?_); focus (first | omega | assumption | exact True.intro | (show anyD _ _ = true; exact rfl) | (simp only [List.length_map, List.length_append, List.length_cons, List.length_nil, List.length_take, List.length_drop]; omega)))
  refine pLoop.go (fun k => k ≤ l.length ∧ chk l = chkL (prevC l k) (l.drop k) k ∧ ∀ j (h : j < l.length), j < k → l[j].lo ≤ l[j].hi) (fun k => [(8, .v (.int .i64 (k : Nat)))]) (fun _ => []) (fun k => l.length - k) 0 [8] ?_ ?_ ?_
  · exact ⟨Nat.zero_le _, rfl, fun j _ h => absurd h (by omega)⟩
  · try simp (maxSteps := 2000000) (disch := omega) only [go_sem, seval]
    try repeat ((with_reducible refine And.intro ?_ ?_); focus (first | omega | assumption | exact True.intro | (show anyD _ _ = true; exact rfl) | (simp only [List.length_map, List.length_append, List.length_cons, List.length_nil, List.length_take, List.length_drop]; omega)))
  · rintro k ⟨hk, hm, hv⟩
    try simp (maxSteps := 2000000) (disch := omega) only [go_sem, seval]
    try repeat ((with_reducible refine And.intro ?_ ?_); focus (first | omega | assumption | exact True.intro | (show anyD _ _ = true; exact rfl) | (simp only [List.length_map, List.length_append, List.length_cons, List.length_nil, List.length_take, List.length_drop]; omega)))
    (first | refine brP.mk (fun h => ?_) (fun h => ?_) | refine gdP.mkt (fun h => ?_) (fun h => ?_) | refine gdP.mkf (fun h => ?_) (fun h => ?_) | refine pkP.mk (fun h => ?_) (fun h => ?_)) <;> (try simp only [Bool.not_true, Bool.not_false, decide_eq_true_eq, decide_eq_false_iff_not, Bool.and_eq_true, Bool.or_eq_true, Bool.not_eq_true', Bool.not_eq_false', Bool.and_eq_false_iff, Bool.or_eq_false_iff, Nat.not_lt, Int.not_lt, Nat.not_le, Int.not_le, Int.ofNat_lt, Int.ofNat_le, Int.ofNat_inj, Bool.xor_false, Bool.false_xor, Bool.true_xor, Bool.xor_true] at h) <;> (try simp (maxSteps := 2000000) (disch := omega) only [go_sem, seval]) <;> (try repeat ((with_reducible refine And.intro ?_ ?_); focus (first | omega | assumption | exact True.intro | (show anyD _ _ = true; exact rfl) | (simp only [List.length_map, List.length_append, List.length_cons, List.length_nil, List.length_take, List.length_drop]; omega))))
    · rw [chkL_step h] at hm
      have hbk := hb _ (List.getElem_mem h)
      (first | refine callP.mk (scheck_c l[k]) rfl ?_ | refine callQ.mk (scheck_c l[k]) rfl ?_ | refine callO.rd (scheck_c l[k]) rfl ?_ | refine callO.mk (scheck_c l[k]) rfl ?_)
      by_cases h1 : l[k].lo ≤ l[k].hi
      · rw [if_pos h1] at hm ⊢
        have hs : prevC l (k + 1) = some l[k] := by unfold prevC; rw [if_neg (by omega)]; exact List.getElem?_eq_getElem h
        have hv' : ∀ j (hj : j < l.length), j < k + 1 → l[j].lo ≤ l[j].hi := fun j hj hjk => by
          rcases Nat.lt_or_ge j k with h6 | h6
          · exact hv j hj h6
          · obtain rfl : j = k := by omega
            exact h1
        try simp (maxSteps := 2000000) (disch := omega) only [go_sem, seval]
        try repeat ((with_reducible refine And.intro ?_ ?_); focus (first | omega | assumption | exact True.intro | (show anyD _ _ = true; exact rfl) | (simp only [List.length_map, List.length_append, List.length_cons, List.length_nil, List.length_take, List.length_drop]; omega)))
        (first | refine brP.mk (fun h2 => ?_) (fun h2 => ?_) | refine gdP.mkt (fun h2 => ?_) (fun h2 => ?_) | refine gdP.mkf (fun h2 => ?_) (fun h2 => ?_) | refine pkP.mk (fun h2 => ?_) (fun h2 => ?_)) <;> (try simp only [Bool.not_true, Bool.not_false, decide_eq_true_eq, decide_eq_false_iff_not, Bool.and_eq_true, Bool.or_eq_true, Bool.not_eq_true', Bool.not_eq_false', Bool.and_eq_false_iff, Bool.or_eq_false_iff, Nat.not_lt, Int.not_lt, Nat.not_le, Int.not_le, Int.ofNat_lt, Int.ofNat_le, Int.ofNat_inj, Bool.xor_false, Bool.false_xor, Bool.true_xor, Bool.xor_true] at h2) <;> (try simp (maxSteps := 2000000) (disch := omega) only [go_sem, seval]) <;> (try repeat ((with_reducible refine And.intro ?_ ?_); focus (first | omega | assumption | exact True.intro | (show anyD _ _ = true; exact rfl) | (simp only [List.length_map, List.length_append, List.length_cons, List.length_nil, List.length_take, List.length_drop]; omega))))
        · have hp : prevC l k = some l[k - 1] := by unfold prevC; rw [if_neg (by omega), List.getElem?_eq_getElem]
          rw [hp] at hm
          have hbp := hb _ (List.getElem_mem (show k - 1 < l.length by omega))
          (first | refine callP.mk (srel_c l[k - 1] l[k] (hv (k - 1) (by omega) (by omega)) h1 hbp.2 hbk.2) rfl ?_ | refine callQ.mk (srel_c l[k - 1] l[k] (hv (k - 1) (by omega) (by omega)) h1 hbp.2 hbk.2) rfl ?_ | refine callO.rd (srel_c l[k - 1] l[k] (hv (k - 1) (by omega) (by omega)) h1 hbp.2 hbk.2) rfl ?_ | refine callO.mk (srel_c l[k - 1] l[k] (hv (k - 1) (by omega) (by omega)) h1 hbp.2 hbk.2) rfl ?_)
          try simp (maxSteps := 2000000) (disch := omega) only [go_sem, seval]
          try repeat ((with_reducible refine And.intro ?_ ?_); focus (first | omega | assumption | exact True.intro | (show anyD _ _ = true; exact rfl) | (simp only [List.length_map, List.length_append, List.length_cons, List.length_nil, List.length_take, List.length_drop]; omega)))
          (first | refine brP.mk (fun h3 => ?_) (fun h3 => ?_) | refine gdP.mkt (fun h3 => ?_) (fun h3 => ?_) | refine gdP.mkf (fun h3 => ?_) (fun h3 => ?_) | refine pkP.mk (fun h3 => ?_) (fun h3 => ?_)) <;> (try simp only [Bool.not_true, Bool.not_false, decide_eq_true_eq, decide_eq_false_iff_not, Bool.and_eq_true, Bool.or_eq_true, Bool.not_eq_true', Bool.not_eq_false', Bool.and_eq_false_iff, Bool.or_eq_false_iff, Nat.not_lt, Int.not_lt, Nat.not_le, Int.not_le, Int.ofNat_lt, Int.ofNat_le, Int.ofNat_inj, Bool.xor_false, Bool.false_xor, Bool.true_xor, Bool.xor_true] at h3) <;> (try simp (maxSteps := 2000000) (disch := omega) only [go_sem, seval]) <;> (try repeat ((with_reducible refine And.intro ?_ ?_); focus (first | omega | assumption | exact True.intro | (show anyD _ _ = true; exact rfl) | (simp only [List.length_map, List.length_append, List.length_cons, List.length_nil, List.length_take, List.length_drop]; omega))))
          · rw [if_neg (by omega)] at hm
            rw [hm]
            (first | refine callP.mk (fnew_c 3 (k : Nat)) rfl ?_ | refine callQ.mk (fnew_c 3 (k : Nat)) rfl ?_ | refine callO.rd (fnew_c 3 (k : Nat)) rfl ?_ | refine callO.mk (fnew_c 3 (k : Nat)) rfl ?_)
            try simp (maxSteps := 2000000) (disch := omega) only [go_sem, seval]
            try repeat ((with_reducible refine And.intro ?_ ?_); focus (first | omega | assumption | exact True.intro | (show anyD _ _ = true; exact rfl) | (simp only [List.length_map, List.length_append, List.length_cons, List.length_nil, List.length_take, List.length_drop]; omega)))
            exact errV_sub _ _
          · rw [if_pos (by omega)] at hm
            exact ⟨k + 1, ⟨h, by rw [hs]; exact hm, hv'⟩, by omega, rfl⟩
        · have hp : prevC l k = none := by unfold prevC; rw [if_pos (by omega)]
          rw [hp] at hm
          exact ⟨k + 1, ⟨h, by rw [hs]; exact hm, hv'⟩, by omega, rfl⟩
      · rw [if_neg h1] at hm ⊢
        unfold errno at hC ⊢
        rcases hC with hC | hC
        · rw [hm] at hC
          cases hC
        · try simp (maxSteps := 2000000) (disch := omega) only [go_sem, seval]
          try repeat ((with_reducible refine And.intro ?_ ?_); focus (first | omega | assumption | exact True.intro | (show anyD _ _ = true; exact rfl) | (simp only [List.length_map, List.length_append, List.length_cons, List.length_nil, List.length_take, List.length_drop]; omega)))
          (first | refine callP.mk (hC) rfl ?_ | refine callQ.mk (hC) rfl ?_ | refine callO.rd (hC) rfl ?_ | refine callO.mk (hC) rfl ?_)
          try simp (maxSteps := 2000000) (disch := omega) only [go_sem, seval]
          try repeat ((with_reducible refine And.intro ?_ ?_); focus (first | omega | assumption | exact True.intro | (show anyD _ _ = true; exact rfl) | (simp only [List.length_map, List.length_append, List.length_cons, List.length_nil, List.length_take, List.length_drop]; omega)))
          rw [hm]
          (first | refine callP.mk (fnew_c 2 (k : Nat)) rfl ?_ | refine callQ.mk (fnew_c 2 (k : Nat)) rfl ?_ | refine callO.rd (fnew_c 2 (k : Nat)) rfl ?_ | refine callO.mk (fnew_c 2 (k : Nat)) rfl ?_)
          try simp (maxSteps := 2000000) (disch := omega) only [go_sem, seval]
          try repeat ((with_reducible refine And.intro ?_ ?_); focus (first | omega | assumption | exact True.intro | (show anyD _ _ = true; exact rfl) | (simp only [List.length_map, List.length_append, List.length_cons, List.length_nil, List.length_take, List.length_drop]; omega)))
          exact errV_sub _ _
    · rw [List.drop_of_length_le h] at hm
      rw [hm]
      exact .eq _ rfl
end Go.Proofs.YtcedofkenfddkaaDoor
/- The contract of vector.Numbers, as a contract without memory. -/
namespace Go.Proofs.YtcedofkenfddkaaDoor
set_option linter.unusedVariables false
set_option linter.unusedSimpArgs false
open Go.RowKit
set_option maxRecDepth 100000

def ns (l : List Nat) : PV := .sl (l.map natc) .sh
attribute [go_sem] ns
theorem ownN_dat {D : Nat → Nat → Prop} {base : Nat} {w : World} {v : Value} {l : List Nat} (h : OwnN base w v l) (hD : ∀ b o, base ≤ b → b < w.heap.size → D b o) : Dat D w v (ns l) := by
  unfold ns
  have hlen : (l.map natc).length = l.length := by simp
  rcases id h.2 with ⟨rfl, h0⟩ | ⟨g, cap, cur, rfl, hg, hh, hn, hc, _⟩
  · obtain rfl : l = [] := List.length_eq_zero_iff.1 h0
    exact .sl none 0 1 [] .sh 0 0 (fun _ => undef) (by simp) (fun h => by cases h) (by unfold maxLen; omega) (fun h => absurd rfl h) (fun i e h => by simp at h) (fun j h => by simp at h) (fun i e j p h => by simp at h)
  · rw [← hlen]
    refine .sl _ cap 1 _ .sh g 0 (fun j => .int .u64 (l.getD j 0 : Nat)) (by simpa using hn) (fun h => by cases h) hc (fun _ => rfl) (fun i e h => ?_) (fun j hj => ?_) (fun i e j p he hp => ?_)
    · simp only [List.getElem?_map, Option.map_eq_some_iff] at h
      obtain ⟨s, _, rfl⟩ := h
      rfl
    · simp only [List.length_map, Nat.mul_one] at hj
      refine ⟨hD _ _ hg (Array.getElem?_eq_some_iff.1 hh).1, ?_, rfl⟩
      rw [Nat.zero_add, h.cellAt _ (by simpa using hj)]
      simp [hj]
    · have hi : i < l.length := by have := (List.getElem?_eq_some_iff.1 he).1; simpa using this
      rw [map_at hi] at he
      cases he
      match j, hp with
      | 0, hp => cases hp; simp [hi]; exact .v _
      | j + 1, hp => simp [natc] at hp
theorem arr1' {vs : Array Value} (h : vs.size = 1) : vs = #[vs.getD 0 undef] := by
  obtain ⟨l⟩ := vs
  match l, h with
  | [x], _ => rfl
theorem numbers_c (v : List En) (hb : ∀ e ∈ v, BdE e) (hl : (nums v).length ≤ 1073741824) : Cn Tryd.prog 53 [vp v] (ns (nums v)) := by
  refine cn_mem rfl (enters_of Tryd.func53 (by kernel_rfl) rfl) fun D w vs hD hsz hd => ?_
  rw [arr1' hsz]
  refine (numbers_calls v _ w (dat_rdv (hd 0 _ rfl) hD hb) hl).mono ?_
  rintro e w' ⟨u, rfl, hv, hbl⟩
  exact ⟨u, rfl, hbl, ownN_dat hv fun b o h1 h2 => .inr ⟨h1, h2⟩⟩
end Go.Proofs.YtcedofkenfddkaaDoor
/- The law SetopsDenote returns true. -/
namespace Go.Proofs.YtcedofkenfddkaaDoor
set_option linter.unusedVariables false
set_option linter.unusedSimpArgs false
open Go.RowKit
set_option maxRecDepth 100000
end Go.Proofs.YtcedofkenfddkaaDoor
/- The contracts of entry.Check, Canonical and Same. -/
namespace Go.Proofs.YtcedofkenfddkaaDoor
set_option linter.unusedVariables false
set_option linter.unusedSimpArgs false
open Go.RowKit
set_option maxRecDepth 100000
theorem low1_cp (nb : Nat) (cs : List PV) (o : Nat) : low1 nb (.cp cs o) = true := rfl
attribute [go_sem] low1_cp
theorem echeck2_c (e : En) (hb : ∀ s ∈ e.holes, s.lo < M64 ∧ s.hi < M64) (hl : e.holes.length ≤ 1152921504606846976) (hC : (chk e.holes).1 = 0 ∨ Cn Tryd.prog 39 [errno 2] (.v (.int .i64 2))) : Cn Tryd.prog 86 [.cp (ec e) 0] (errV (chk e.holes).1 (chk e.holes).2) := by
  refine cn_go Tryd.func86 [] 1 (by kernel_rfl) rfl (by simp [go_sem, seval]) ?_
  conv => arg 4; cbv
  conv => enter [5, 1]; cbv
  try simp (maxSteps := 2000000) (disch := omega) only [go_sem, seval]
  try repeat ((with_reducible refine And.intro ?_ ?_); focus (first | omega | assumption | exact True.intro | (show anyD _ _ = true; exact rfl) | (simp only [List.length_map, List.length_append, List.length_cons, List.length_nil, List.length_take, List.length_drop]; omega)))
  (first | refine callP.mk (rcheck_c e.holes hb hl hC) rfl ?_ | refine callQ.mk (rcheck_c e.holes hb hl hC) rfl ?_ | refine callO.rd (rcheck_c e.holes hb hl hC) rfl ?_ | refine callO.mk (rcheck_c e.holes hb hl hC) rfl ?_)
  try simp (maxSteps := 2000000) (disch := omega) only [go_sem, seval]
  try repeat ((with_reducible refine And.intro ?_ ?_); focus (first | omega | assumption | exact True.intro | (show anyD _ _ = true; exact rfl) | (simp only [List.length_map, List.length_append, List.length_cons, List.length_nil, List.length_take, List.length_drop]; omega)))
  exact errV_sub _ _
theorem echeck1_c (e : En) (hl : e.holes.length ≤ 1152921504606846976) : Cn Tryd.prog 85 [.cp (ec e) 0] (errV (hk e.max e.holes 0).1 (hk e.max e.holes 0).2) := by
  refine cn_go Tryd.func85 [] 1 (by kernel_rfl) rfl (by simp [go_sem, seval]) ?_
  conv => arg 4; cbv
  conv => enter [5, 1]; cbv
  try simp (maxSteps := 2000000) (disch := omega) only [go_sem, seval]
  try repeat ((with_reducible refine And.intro ?_ ?_); focus (first | omega | assumption | exact True.intro | (show anyD _ _ = true; exact rfl) | (simp only [List.length_map, List.length_append, List.length_cons, List.length_nil, List.length_take, List.length_drop]; omega)))
  refine pLoop.go (fun k => k ≤ e.holes.length ∧ hk e.max e.holes 0 = hk e.max (e.holes.drop k) k) (fun k => [(7, .v (.int .i64 (k : Nat)))]) (fun _ => []) (fun k => e.holes.length - k) 0 [7] ?_ ?_ ?_
  · exact ⟨Nat.zero_le _, rfl⟩
  · try simp (maxSteps := 2000000) (disch := omega) only [go_sem, seval]
    try repeat ((with_reducible refine And.intro ?_ ?_); focus (first | omega | assumption | exact True.intro | (show anyD _ _ = true; exact rfl) | (simp only [List.length_map, List.length_append, List.length_cons, List.length_nil, List.length_take, List.length_drop]; omega)))
  · rintro k ⟨hk1, hm⟩
    try simp (maxSteps := 2000000) (disch := omega) only [go_sem, seval]
    try repeat ((with_reducible refine And.intro ?_ ?_); focus (first | omega | assumption | exact True.intro | (show anyD _ _ = true; exact rfl) | (simp only [List.length_map, List.length_append, List.length_cons, List.length_nil, List.length_take, List.length_drop]; omega)))
    (first | refine brP.mk (fun h1 => ?_) (fun h1 => ?_) | refine gdP.mkt (fun h1 => ?_) (fun h1 => ?_) | refine gdP.mkf (fun h1 => ?_) (fun h1 => ?_) | refine pkP.mk (fun h1 => ?_) (fun h1 => ?_)) <;> (try simp only [Bool.not_true, Bool.not_false, decide_eq_true_eq, decide_eq_false_iff_not, Bool.and_eq_true, Bool.or_eq_true, Bool.not_eq_true', Bool.not_eq_false', Bool.and_eq_false_iff, Bool.or_eq_false_iff, Nat.not_lt, Int.not_lt, Nat.not_le, Int.not_le, Int.ofNat_lt, Int.ofNat_le, Int.ofNat_inj, Bool.xor_false, Bool.false_xor, Bool.true_xor, Bool.xor_true] at h1) <;> (try simp (maxSteps := 2000000) (disch := omega) only [go_sem, seval]) <;> (try repeat ((with_reducible refine And.intro ?_ ?_); focus (first | omega | assumption | exact True.intro | (show anyD _ _ = true; exact rfl) | (simp only [List.length_map, List.length_append, List.length_cons, List.length_nil, List.length_take, List.length_drop]; omega))))
    · rw [hk_step h1] at hm
      (first | refine brP.mk (fun h2 => ?_) (fun h2 => ?_) | refine gdP.mkt (fun h2 => ?_) (fun h2 => ?_) | refine gdP.mkf (fun h2 => ?_) (fun h2 => ?_) | refine pkP.mk (fun h2 => ?_) (fun h2 => ?_)) <;> (try simp only [Bool.not_true, Bool.not_false, decide_eq_true_eq, decide_eq_false_iff_not, Bool.and_eq_true, Bool.or_eq_true, Bool.not_eq_true', Bool.not_eq_false', Bool.and_eq_false_iff, Bool.or_eq_false_iff, Nat.not_lt, Int.not_lt, Nat.not_le, Int.not_le, Int.ofNat_lt, Int.ofNat_le, Int.ofNat_inj, Bool.xor_false, Bool.false_xor, Bool.true_xor, Bool.xor_true] at h2) <;> (try simp (maxSteps := 2000000) (disch := omega) only [go_sem, seval]) <;> (try repeat ((with_reducible refine And.intro ?_ ?_); focus (first | omega | assumption | exact True.intro | (show anyD _ _ = true; exact rfl) | (simp only [List.length_map, List.length_append, List.length_cons, List.length_nil, List.length_take, List.length_drop]; omega))))
      · rw [hm, if_pos h2]
        (first | refine callP.mk (fnew_c 4 (k : Nat)) rfl ?_ | refine callQ.mk (fnew_c 4 (k : Nat)) rfl ?_ | refine callO.rd (fnew_c 4 (k : Nat)) rfl ?_ | refine callO.mk (fnew_c 4 (k : Nat)) rfl ?_)
        try simp (maxSteps := 2000000) (disch := omega) only [go_sem, seval]
        try repeat ((with_reducible refine And.intro ?_ ?_); focus (first | omega | assumption | exact True.intro | (show anyD _ _ = true; exact rfl) | (simp only [List.length_map, List.length_append, List.length_cons, List.length_nil, List.length_take, List.length_drop]; omega)))
        exact errV_sub _ _
      · rw [if_neg (by omega)] at hm
        exact ⟨k + 1, ⟨h1, hm⟩, by omega, rfl⟩
    · rw [List.drop_of_length_le h1] at hm
      rw [hm]
      exact .eq _ rfl
theorem errV_nil {x : Nat × Int} (h : x.1 = 0) : errV x.1 x.2 = .v .nilIface := if_pos h
theorem errV_ifc {x : Nat × Int} (h : x.1 ≠ 0) : errV x.1 x.2 = .ifc 89 (.agg [.v (.int .i64 x.1), .v (.int .i64 x.2)]) := if_neg h
set_option maxHeartbeats 1000000 in
theorem echeck_c (e : En) (hb : ∀ s ∈ e.holes, s.lo < M64 ∧ s.hi < M64) (hl : e.holes.length ≤ 1152921504606846976) (hC : (chk e.holes).1 = 0 ∨ Cn Tryd.prog 39 [errno 2] (.v (.int .i64 2))) : Cn Tryd.prog 37 [ep e] (errV (chkE e).1 (chkE e).2) := by
  refine cn_go Tryd.func37 [] 1 (by kernel_rfl) rfl (by simp [go_sem, seval]) ?_
  conv => arg 4; cbv
  conv => enter [5, 1]; cbv
  try simp (maxSteps := 2000000) (disch := omega) only [go_sem, seval]
  try repeat ((with_reducible refine And.intro ?_ ?_); focus (first | omega | assumption | exact True.intro | (show anyD _ _ = true; exact rfl) | (simp only [List.length_map, List.length_append, List.length_cons, List.length_nil, List.length_take, List.length_drop]; omega)))
  refine pLoop.go (fun k => k ≤ 2 ∧ (1 ≤ k → (chk e.holes).1 = 0) ∧ (2 ≤ k → (chkE e).1 = 0)) (fun k => [(12, .v (.int .i64 (k : Nat)))]) (fun _ => []) (fun k => 2 - k) 0 [12] ?_ ?_ ?_
  · exact ⟨by omega, fun h => absurd h (by omega), fun h => absurd h (by omega)⟩
  · try simp (maxSteps := 2000000) (disch := omega) only [go_sem, seval]
    try repeat ((with_reducible refine And.intro ?_ ?_); focus (first | omega | assumption | exact True.intro | (show anyD _ _ = true; exact rfl) | (simp only [List.length_map, List.length_append, List.length_cons, List.length_nil, List.length_take, List.length_drop]; omega)))
  · rintro k ⟨hk1, h1, h2⟩
    obtain rfl | rfl | rfl : k = 0 ∨ k = 1 ∨ k = 2 := by omega
    · try simp (maxSteps := 2000000) (disch := omega) only [go_sem, seval]
      try repeat ((with_reducible refine And.intro ?_ ?_); focus (first | omega | assumption | exact True.intro | (show anyD _ _ = true; exact rfl) | (simp only [List.length_map, List.length_append, List.length_cons, List.length_nil, List.length_take, List.length_drop]; omega)))
      (first | refine callP.mk (echeck2_c e hb hl hC) rfl ?_ | refine callQ.mk (echeck2_c e hb hl hC) rfl ?_ | refine callO.rd (echeck2_c e hb hl hC) rfl ?_ | refine callO.mk (echeck2_c e hb hl hC) rfl ?_)
      by_cases hz : (chk e.holes).1 = 0
      · rw [errV_nil hz]
        try simp (maxSteps := 2000000) (disch := omega) only [go_sem, seval]
        try repeat ((with_reducible refine And.intro ?_ ?_); focus (first | omega | assumption | exact True.intro | (show anyD _ _ = true; exact rfl) | (simp only [List.length_map, List.length_append, List.length_cons, List.length_nil, List.length_take, List.length_drop]; omega)))
        exact ⟨1, ⟨by omega, fun _ => hz, fun h => absurd h (by omega)⟩, by omega, rfl⟩
      · have e1 : chkE e = chk e.holes := if_neg hz
        rw [e1, errV_ifc hz]
        try simp (maxSteps := 2000000) (disch := omega) only [go_sem, seval]
        try repeat ((with_reducible refine And.intro ?_ ?_); focus (first | omega | assumption | exact True.intro | (show anyD _ _ = true; exact rfl) | (simp only [List.length_map, List.length_append, List.length_cons, List.length_nil, List.length_take, List.length_drop]; omega)))
    · have hz := h1 (by omega)
      have e1 : chkE e = hk e.max e.holes 0 := if_pos hz
      try simp (maxSteps := 2000000) (disch := omega) only [go_sem, seval]
      try repeat ((with_reducible refine And.intro ?_ ?_); focus (first | omega | assumption | exact True.intro | (show anyD _ _ = true; exact rfl) | (simp only [List.length_map, List.length_append, List.length_cons, List.length_nil, List.length_take, List.length_drop]; omega)))
      (first | refine callP.mk (echeck1_c e hl) rfl ?_ | refine callQ.mk (echeck1_c e hl) rfl ?_ | refine callO.rd (echeck1_c e hl) rfl ?_ | refine callO.mk (echeck1_c e hl) rfl ?_)
      by_cases hy : (hk e.max e.holes 0).1 = 0
      · rw [errV_nil hy]
        try simp (maxSteps := 2000000) (disch := omega) only [go_sem, seval]
        try repeat ((with_reducible refine And.intro ?_ ?_); focus (first | omega | assumption | exact True.intro | (show anyD _ _ = true; exact rfl) | (simp only [List.length_map, List.length_append, List.length_cons, List.length_nil, List.length_take, List.length_drop]; omega)))
        exact ⟨2, ⟨by omega, fun _ => hz, fun _ => by rw [e1]; exact hy⟩, by omega, rfl⟩
      · rw [e1, errV_ifc hy]
        try simp (maxSteps := 2000000) (disch := omega) only [go_sem, seval]
        try repeat ((with_reducible refine And.intro ?_ ?_); focus (first | omega | assumption | exact True.intro | (show anyD _ _ = true; exact rfl) | (simp only [List.length_map, List.length_append, List.length_cons, List.length_nil, List.length_take, List.length_drop]; omega)))
    · have hz := h2 (by omega)
      rw [errV_nil hz]
      try simp (maxSteps := 2000000) (disch := omega) only [go_sem, seval]
      try repeat ((with_reducible refine And.intro ?_ ?_); focus (first | omega | assumption | exact True.intro | (show anyD _ _ = true; exact rfl) | (simp only [List.length_map, List.length_append, List.length_cons, List.length_nil, List.length_take, List.length_drop]; omega)))
theorem ecanonical_c (e : En) (hb : ∀ s ∈ e.holes, s.lo < M64 ∧ s.hi < M64) (h1 : e.max < M64) (h2 : e.rep < M64) (hl : e.holes.length ≤ 1152921504606846976) (hC : (chk e.holes).1 = 0 ∨ Cn Tryd.prog 39 [errno 2] (.v (.int .i64 2))) : Cn Tryd.prog 35 [ep e] (.v (.bool (rightEB e && !mem e.holes e.max))) := by
  have hr := rightEB_iff hb h1 h2
  refine cn_go Tryd.func35 [] 1 (by kernel_rfl) rfl (by simp [go_sem, seval]) ?_
  conv => arg 4; cbv
  conv => enter [5, 1]; cbv
  try simp (maxSteps := 2000000) (disch := omega) only [go_sem, seval]
  try repeat ((with_reducible refine And.intro ?_ ?_); focus (first | omega | assumption | exact True.intro | (show anyD _ _ = true; exact rfl) | (simp only [List.length_map, List.length_append, List.length_cons, List.length_nil, List.length_take, List.length_drop]; omega)))
  (first | refine callP.mk (echeck_c e hb hl hC) rfl ?_ | refine callQ.mk (echeck_c e hb hl hC) rfl ?_ | refine callO.rd (echeck_c e hb hl hC) rfl ?_ | refine callO.mk (echeck_c e hb hl hC) rfl ?_)
  by_cases hz : (chkE e).1 = 0
  · have hz' : rightEB e = true := by unfold rightEB; exact decide_eq_true hz
    rw [errV_nil hz]
    try simp (maxSteps := 2000000) (disch := omega) only [go_sem, seval]
    try repeat ((with_reducible refine And.intro ?_ ?_); focus (first | omega | assumption | exact True.intro | (show anyD _ _ = true; exact rfl) | (simp only [List.length_map, List.length_append, List.length_cons, List.length_nil, List.length_take, List.length_drop]; omega)))
    (first | refine callP.mk (ehas_c e e.max (hr.1 hz') hl) rfl ?_ | refine callQ.mk (ehas_c e e.max (hr.1 hz') hl) rfl ?_ | refine callO.rd (ehas_c e e.max (hr.1 hz') hl) rfl ?_ | refine callO.mk (ehas_c e e.max (hr.1 hz') hl) rfl ?_)
    try simp (maxSteps := 2000000) (disch := omega) only [go_sem, seval]
    try repeat ((with_reducible refine And.intro ?_ ?_); focus (first | omega | assumption | exact True.intro | (show anyD _ _ = true; exact rfl) | (simp only [List.length_map, List.length_append, List.length_cons, List.length_nil, List.length_take, List.length_drop]; omega)))
    simp [hz']
  · have hz' : rightEB e = false := by unfold rightEB; exact decide_eq_false hz
    rw [errV_ifc hz]
    try simp (maxSteps := 2000000) (disch := omega) only [go_sem, seval]
    try repeat ((with_reducible refine And.intro ?_ ?_); focus (first | omega | assumption | exact True.intro | (show anyD _ _ = true; exact rfl) | (simp only [List.length_map, List.length_append, List.length_cons, List.length_nil, List.length_take, List.length_drop]; omega)))
    simp [hz']
end Go.Proofs.YtcedofkenfddkaaDoor
/- The law JoinDenotes returns true. -/
namespace Go.Proofs.YtcedofkenfddkaaDoor
set_option linter.unusedVariables false
set_option linter.unusedSimpArgs false
open Go.RowKit
set_option maxRecDepth 100000
theorem BdE_of {e : En} (h : RightE e) : BdE e := ⟨h.1.lt, h.2.2.1, h.2.2.2⟩
section
variable (a b : En) (c : Nat) (ha : BdE a) (hb : BdE b) (hc : c < M64)
include ha hb hc
end
end Go.Proofs.YtcedofkenfddkaaDoor
/- The contracts of fault.Code, find and At: at no error, at an api.Errno, at an api.Fault. -/
namespace Go.Proofs.YtcedofkenfddkaaDoor
set_option linter.unusedVariables false
set_option linter.unusedSimpArgs false
open Go.RowKit
set_option maxRecDepth 100000
def HG (w : World) : Prop := w.cell? ⟨0, 0, none⟩ = some (.iface 144 (.agg #[.pointer (some ⟨1, 29, none⟩)]))
theorem HG.of {D : Nat → Nat → Prop} {w : World} (h : GL D w) : HG w := (h _ rfl).2
theorem HG.pos {w : World} (h : HG w) : 0 < w.heap.size := World.block_lt_of_cell? w ⟨0, 0, none⟩ h
theorem HG.alloc {w : World} (h : HG w) (o : Obj) : HG (w.alloc o) := by
  unfold HG
  rw [World.cell?_alloc_lt _ _ ⟨0, 0, none⟩ h.pos]; exact h
theorem cn_memG {f : FuncId} {ps : List PV} {r : PV} (hr : r.own = none) (hent : ∀ args w, (callFunc f args).run Tryd.prog w = .ok (.enter f args) w)
    (h : ∀ (D : Nat → Nat → Prop) (w : World) (vs : Array Value), HG w → (∀ b o, D b o → b < w.heap.size) → vs.size = ps.length → (∀ (i : Nat) p, ps[i]? = some p → Dat D w (vs.getD i undef) p) →
      Calls Tryd.prog f vs w fun e w' => ∃ v, e = .returned v ∧ Below w.heap.size w w' ∧ Dat (fun b o => D b o ∨ (w.heap.size ≤ b ∧ b < w'.heap.size)) w' v r) : Cn Tryd.prog f ps r := by
  refine ⟨hent, fun D w vs hg hD hsz hd => (h D w vs (.of hg) hD hsz hd).mono ?_⟩
  rintro e w' ⟨v, rfl, hb, hv⟩
  exact ⟨v, _, rfl, hb, fun b o h => .inl h, fun b o h => h.imp id And.left, fun b o h => h.elim (fun h => Nat.lt_of_lt_of_le (hD b o h) hb.size) And.right, hv, ownOk_none hr⟩
theorem arr1 {vs : Array Value} (h : vs.size = 1) : vs = #[vs.getD 0 undef] := by
  obtain ⟨l⟩ := vs
  match l, h with
  | [x], _ => rfl
theorem asCode_N (c : Int) (w : World) (hg : HG w) : Calls Tryd.prog 87 #[.iface 50 (.int .i64 c), .iface 87 (.pointer (some ⟨w.heap.size, 0, none⟩))] (w.alloc (.cells #[.int .i64 0] 50))
    fun ev w' => ev = .returned (.bool true) ∧ Below w.heap.size w w' ∧ w'.cell? ⟨w.heap.size, 0, none⟩ = some (.int .i64 c) := by
  refine (As.as_NN c ⟨w.heap.size, 0, none⟩ (.int .i64 0) _ (hg.alloc _) (by simp) (by simp)).mono ?_
  rintro ev w' ⟨rfl, rfl⟩
  refine ⟨rfl, ?_, ?_⟩
  · refine Below.setCell (((((((Below.refl _ w).alloc ?_ _).alloc ?_ _).alloc ?_ _).alloc ?_ _).alloc ?_ _)) ?_ _ <;> simp <;> omega
  · refine World.cell?_setCell_same _ _ _ (u := .int .i64 0) ?_
    rw [World.cell?_alloc_lt _ _ ⟨w.heap.size, 0, none⟩ (by simp; omega), World.cell?_alloc_lt _ _ ⟨w.heap.size, 0, none⟩ (by simp; omega), World.cell?_alloc_lt _ _ ⟨w.heap.size, 0, none⟩ (by simp; omega), World.cell?_alloc_lt _ _ ⟨w.heap.size, 0, none⟩ (by simp)]
    simp
theorem asCode_F (c k : Int) (w : World) (hg : HG w) : Calls Tryd.prog 87 #[.iface 89 (.agg #[.int .i64 c, .int .i64 k]), .iface 87 (.pointer (some ⟨w.heap.size, 0, none⟩))] (w.alloc (.cells #[.int .i64 0] 50))
    fun ev w' => ev = .returned (.bool true) ∧ Below w.heap.size w w' ∧ w'.cell? ⟨w.heap.size, 0, none⟩ = some (.int .i64 c) := by
  refine (As.as_FN c k ⟨w.heap.size, 0, none⟩ (.int .i64 0) _ (hg.alloc _) (by simp) (by simp)).mono ?_
  rintro ev w' ⟨rfl, rfl⟩
  refine ⟨rfl, ?_, ?_⟩
  · refine Below.setCell ((((((((Below.refl _ w).alloc ?_ _).alloc ?_ _).alloc ?_ _).alloc ?_ _).alloc ?_ _).alloc ?_ _)) ?_ _ <;> simp <;> omega
  · refine World.cell?_setCell_same _ _ _ (u := .int .i64 0) ?_
    rw [World.cell?_alloc_lt _ _ ⟨w.heap.size, 0, none⟩ (by simp; omega), World.cell?_alloc_lt _ _ ⟨w.heap.size, 0, none⟩ (by simp; omega), World.cell?_alloc_lt _ _ ⟨w.heap.size, 0, none⟩ (by simp; omega), World.cell?_alloc_lt _ _ ⟨w.heap.size, 0, none⟩ (by simp; omega), World.cell?_alloc_lt _ _ ⟨w.heap.size, 0, none⟩ (by simp)]
    simp
theorem code_nil (w : World) : Calls Tryd.prog 39 #[.nilIface] w fun e w' => e = .returned (.int .i64 0) ∧ Below w.heap.size w w' := by
  go_enter Tryd.func39, Tryd.ntmps39
  go_wp2
  go_ret
  exact ⟨rfl, (Below.refl _ w).alloc (Nat.le_refl _) _⟩
theorem code_N (c : Int) (w : World) (hg : HG w) : Calls Tryd.prog 39 #[.iface 50 (.int .i64 c)] w fun e w' => e = .returned (.int .i64 c) ∧ Below w.heap.size w w' := by
  go_enter Tryd.func39, Tryd.ntmps39
  go_wp2_with (go_at_call 87; refine (asCode_N c w hg).mono ?_; rintro e w1 ⟨rfl, hb, hc⟩)
  go_ret
  exact ⟨rfl, hb⟩
theorem code_F (c k : Int) (w : World) (hg : HG w) : Calls Tryd.prog 39 #[.iface 89 (.agg #[.int .i64 c, .int .i64 k])] w fun e w' => e = .returned (.int .i64 c) ∧ Below w.heap.size w w' := by
  go_enter Tryd.func39, Tryd.ntmps39
  go_wp2_with (go_at_call 87; refine (asCode_F c k w hg).mono ?_; rintro e w1 ⟨rfl, hb, hc⟩)
  go_ret
  exact ⟨rfl, hb⟩
end Go.Proofs.YtcedofkenfddkaaDoor
/- The contracts of fault.find, Code and At without memory. -/
namespace Go.Proofs.YtcedofkenfddkaaDoor
set_option linter.unusedVariables false
set_option linter.unusedSimpArgs false
open Go.RowKit
set_option maxRecDepth 100000
def z2 : Obj := .cells #[.int .i64 0, .int .i64 0] 89
theorem asFind_F (c k : Int) (w : World) (hg : HG w) : Calls Tryd.prog 87 #[.iface 89 (.agg #[.int .i64 c, .int .i64 k]), .iface 128 (.pointer (some ⟨w.heap.size + 1, 0, none⟩))] ((w.alloc z2).alloc z2)
    fun ev w' => ev = .returned (.bool true) ∧ Below (w.heap.size + 1) (w.alloc z2) w' ∧ w'.cell? ⟨w.heap.size + 1, 0, none⟩ = some (.int .i64 c) ∧ w'.cell? ⟨w.heap.size + 1, 1, none⟩ = some (.int .i64 k) := by
  have hs : ((w.alloc z2).alloc z2).heap.size = w.heap.size + 1 + 1 := by simp
  have c0 : ∀ o, o < 2 → ((w.alloc z2).alloc z2).cell? ⟨w.heap.size + 1, o, none⟩ = some (.int .i64 0) := fun o ho => by
    have : w.heap.size + 1 = (w.alloc z2).heap.size := by simp
    rw [this]
    unfold z2
    match o, ho with
    | 0, _ => simp
    | 1, _ => simp
  have f0 : ∀ o, o < 2 → ((w.alloc z2).alloc z2).frozen? ⟨w.heap.size + 1, o, none⟩ = false := fun o ho => by
    have : w.heap.size + 1 = (w.alloc z2).heap.size := by simp
    rw [this]
    unfold z2
    match o, ho with
    | 0, _ => simp
    | 1, _ => simp
  refine (As.as_FF c k (w.heap.size + 1) _ ((hg.alloc _).alloc _) (by rw [c0 0 (by omega)]; rfl) (by rw [c0 1 (by omega)]; rfl) (f0 0 (by omega)) (f0 1 (by omega))).mono ?_
  rintro ev w' ⟨rfl, rfl⟩
  have cin := World.cell?_setCells_in (w.heap.size + 1) [.int .i64 c, .int .i64 k] 0 (((((((w.alloc z2).alloc z2).alloc (.cells #[.pointer (some ⟨w.heap.size + 1, 0, none⟩)] 128)).alloc (.cells #[.pointer (some ⟨1, 128, none⟩), .pointer (some ⟨((w.alloc z2).alloc z2).heap.size, 0, none⟩), .int .u64 150] 119)).alloc (.cells #[.pointer (some ⟨1, 128, none⟩), .pointer (some ⟨((w.alloc z2).alloc z2).heap.size, 0, none⟩), .int .u64 150] 119)).alloc (.cells #[.int .i64 c, .int .i64 k] 89))) (fun j hj => by
    rw [World.cell?_alloc_lt _ _ ⟨w.heap.size + 1, 0 + j, none⟩ (by first | (simp; omega) | simp), World.cell?_alloc_lt _ _ ⟨w.heap.size + 1, 0 + j, none⟩ (by first | (simp; omega) | simp), World.cell?_alloc_lt _ _ ⟨w.heap.size + 1, 0 + j, none⟩ (by first | (simp; omega) | simp), World.cell?_alloc_lt _ _ ⟨w.heap.size + 1, 0 + j, none⟩ (by first | (simp; omega) | simp), Nat.zero_add, c0 j (by simpa using hj)]
    rfl)
  refine ⟨rfl, ?_, by simpa using cin 0 (by simp), by simpa using cin 1 (by simp)⟩
  unfold World.setCells World.setCells World.setCells
  refine Below.setCell (Below.setCell ((((((Below.refl _ (w.alloc z2)).alloc ?_ _).alloc ?_ _).alloc ?_ _).alloc ?_ _).alloc ?_ _) ?_ _) ?_ _ <;> simp <;> omega
theorem find_nil (w : World) : Calls Tryd.prog 88 #[.nilIface] w fun e w' => e = .returned (.tuple #[.agg #[.int .i64 0, .int .i64 0], .bool false]) ∧ Below w.heap.size w w' := by
  go_enter Tryd.func88, Tryd.ntmps88
  go_wp2_with (go_at_call 87; refine (As.as_nil _ _).mono ?_; rintro e w1 ⟨rfl, rfl⟩)
  refine bodyPost_ret (v := .tuple #[.agg #[.int .i64 0, .int .i64 0], .bool false]) (by simp [results, Tryd.results88, go_sem]) rfl ⟨rfl, ?_⟩
  exact ((Below.refl _ w).alloc (Nat.le_refl _) _).alloc (by simp) _
set_option maxHeartbeats 1000000 in
theorem find_F (c k : Int) (w : World) (hg : HG w) : Calls Tryd.prog 88 #[.iface 89 (.agg #[.int .i64 c, .int .i64 k])] w fun e w' => e = .returned (.tuple #[.agg #[.int .i64 c, .int .i64 k], .bool true]) ∧ Below w.heap.size w w' := by
  go_enter Tryd.func88, Tryd.ntmps88
  go_wp2_with (go_at_call 87; refine (asFind_F c k w hg).mono ?_; rintro e w1 ⟨rfl, hb, hc0, hc1⟩; have hz0 : w1.cell? ⟨w.heap.size, 0, none⟩ = some (.int .i64 0) := (hb.cell (p := ⟨w.heap.size, 0, none⟩) (by simp)).trans (by unfold z2; simp); have hz1 : w1.cell? ⟨w.heap.size, 1, none⟩ = some (.int .i64 0) := (hb.cell (p := ⟨w.heap.size, 1, none⟩) (by simp)).trans (by unfold z2; simp); have hf0 : w1.frozen? ⟨w.heap.size, 0, none⟩ = false := (hb.frozen (p := ⟨w.heap.size, 0, none⟩) (by simp)).trans (by unfold z2; simp); have hf1 : w1.frozen? ⟨w.heap.size, 1, none⟩ = false := (hb.frozen (p := ⟨w.heap.size, 1, none⟩) (by simp)).trans (by unfold z2; simp); have hbb : Below w.heap.size w w1 := ((Below.refl _ w).alloc (Nat.le_refl _) _).trans (hb.mono (by omega)))
  have e0 : (w1.setCell ⟨w.heap.size, 0, none⟩ (.int .i64 c)).cell? ⟨w.heap.size, 0, none⟩ = some (.int .i64 c) := World.cell?_setCell_same _ _ _ hz0
  have e1 : ((w1.setCell ⟨w.heap.size, 0, none⟩ (.int .i64 c)).setCell ⟨w.heap.size, 1, none⟩ (.int .i64 k)).cell? ⟨w.heap.size, 1, none⟩ = some (.int .i64 k) := World.cell?_setCell_same' _ _ _ (by rw [World.cell?_setCell_other _ _ _ _ (by simp), hz1]; rfl)
  refine bodyPost_ret (v := .tuple #[.agg #[.int .i64 c, .int .i64 k], .bool true]) (by simp [results, Tryd.results88, go_sem, e0, e1, Result.andThen]) rfl ⟨rfl, ?_⟩
  exact Below.setCell (Below.setCell hbb (by simp) _) (by simp) _
theorem dat_errno {D : Nat → Nat → Prop} {w : World} {v : Value} {c : Int} {t : TypeId} (h : Dat D w v (.ifc t (.v (.int .i64 c)))) : v = .iface t (.int .i64 c) := by
  cases h with
  | ifc t x p h => rw [h.v_inv]
theorem dat_fault {D : Nat → Nat → Prop} {w : World} {v : Value} {c k : Int} {t : TypeId} (h : Dat D w v (.ifc t (.agg [.v (.int .i64 c), .v (.int .i64 k)]))) : v = .iface t (.agg #[.int .i64 c, .int .i64 k]) := by
  cases h with
  | ifc t x p h =>
    generalize hc : [PV.v (.int .i64 c), PV.v (.int .i64 k)] = cs at h
    cases h with
    | agg us cs hs _ h =>
      subst hc
      obtain ⟨l⟩ := us
      match l, hs with
      | [x, y], _ =>
        have e0 := (h 0 _ rfl).v_inv
        have e1 := (h 1 _ rfl).v_inv
        simp at e0 e1
        rw [e0, e1]
/-- fault.Code at what ranges.Check and entry.Check make. -/
theorem codeN_c (c : Nat) : Cn Tryd.prog 39 [errno c] (.v (.int .i64 c)) := by
  refine cn_memG rfl (enters_of Tryd.func39 (by kernel_rfl) rfl) fun D w vs hg hD hsz hd => ?_
  rw [arr1 hsz, dat_errno (hd 0 _ rfl)]
  refine (code_N c w hg).mono ?_
  rintro e w' ⟨rfl, hb⟩
  exact ⟨_, rfl, hb, .v _⟩
theorem code_c (c : Nat) (k : Int) : Cn Tryd.prog 39 [errV c k] (.v (.int .i64 c)) := by
  refine cn_memG rfl (enters_of Tryd.func39 (by kernel_rfl) rfl) fun D w vs hg hD hsz hd => ?_
  have h0 := hd 0 _ rfl
  unfold errV at h0
  rw [arr1 hsz]
  by_cases hc : c = 0
  · rw [if_pos hc] at h0
    subst hc
    rw [h0.v_inv]
    refine (code_nil w).mono ?_
    rintro e w' ⟨rfl, hb⟩
    exact ⟨_, rfl, hb, .v _⟩
  · rw [if_neg hc] at h0
    rw [dat_fault h0]
    refine (code_F c k w hg).mono ?_
    rintro e w' ⟨rfl, hb⟩
    exact ⟨_, rfl, hb, .v _⟩
theorem find_c (c : Nat) (k : Int) : Cn Tryd.prog 88 [errV c k] (.tup [.agg [.v (.int .i64 c), .v (.int .i64 (if c = 0 then 0 else k))], .v (.bool (decide (c ≠ 0)))]) := by
  refine cn_memG rfl (enters_of Tryd.func88 (by kernel_rfl) rfl) fun D w vs hg hD hsz hd => ?_
  have h0 := hd 0 _ rfl
  unfold errV at h0
  rw [arr1 hsz]
  by_cases hc : c = 0
  · rw [if_pos hc] at h0
    subst hc
    rw [h0.v_inv]
    refine (find_nil w).mono ?_
    rintro e w' ⟨rfl, hb⟩
    refine ⟨_, rfl, hb, .tup _ _ rfl fun i p hp => ?_⟩
    match i, hp with
    | 0, hp => cases hp; exact agg2_dat _ _ (by simp [Value.oneCell']) (by simp [Value.oneCell'])
    | 1, hp => cases hp; exact .v _
  · rw [if_neg hc] at h0
    rw [dat_fault h0, if_neg hc, decide_eq_true hc]
    refine (find_F c k w hg).mono ?_
    rintro e w' ⟨rfl, hb⟩
    refine ⟨_, rfl, hb, .tup _ _ rfl fun i p hp => ?_⟩
    match i, hp with
    | 0, hp => cases hp; exact agg2_dat _ _ (by simp [Value.oneCell']) (by simp [Value.oneCell'])
    | 1, hp => cases hp; exact .v _
theorem at_c (c : Nat) (k : Int) : Cn Tryd.prog 40 [errV c k] (.v (.int .i64 (if c = 0 then -1 else k))) := by
  refine cn_go Tryd.func40 [] 1 (by kernel_rfl) rfl (by intro p hp; simp at hp; subst hp; unfold errV; split <;> rfl) ?_
  conv => arg 4; cbv
  conv => enter [5, 1]; cbv
  by_cases hc : c = 0
  · have e : errV c k = .v .nilIface := if_pos hc
    have hf := find_c c k
    rw [e] at hf ⊢
    try simp (maxSteps := 2000000) (disch := omega) only [go_sem, seval]
    try repeat ((with_reducible refine And.intro ?_ ?_); focus (first | omega | assumption | exact True.intro | (show anyD _ _ = true; exact rfl) | (simp only [List.length_map, List.length_append, List.length_cons, List.length_nil, List.length_take, List.length_drop]; omega)))
    (first | refine callP.mk (hf) rfl ?_ | refine callQ.mk (hf) rfl ?_ | refine callO.rd (hf) rfl ?_ | refine callO.mk (hf) rfl ?_)
    try simp (maxSteps := 2000000) (disch := omega) only [go_sem, seval]
    try repeat ((with_reducible refine And.intro ?_ ?_); focus (first | omega | assumption | exact True.intro | (show anyD _ _ = true; exact rfl) | (simp only [List.length_map, List.length_append, List.length_cons, List.length_nil, List.length_take, List.length_drop]; omega)))
    simp [hc]
    try simp (maxSteps := 2000000) (disch := omega) only [go_sem, seval]
    try repeat ((with_reducible refine And.intro ?_ ?_); focus (first | omega | assumption | exact True.intro | (show anyD _ _ = true; exact rfl) | (simp only [List.length_map, List.length_append, List.length_cons, List.length_nil, List.length_take, List.length_drop]; omega)))
  · have e : errV c k = .ifc 89 (.agg [.v (.int .i64 c), .v (.int .i64 k)]) := if_neg hc
    have hf := find_c c k
    rw [e] at hf ⊢
    try simp (maxSteps := 2000000) (disch := omega) only [go_sem, seval]
    try repeat ((with_reducible refine And.intro ?_ ?_); focus (first | omega | assumption | exact True.intro | (show anyD _ _ = true; exact rfl) | (simp only [List.length_map, List.length_append, List.length_cons, List.length_nil, List.length_take, List.length_drop]; omega)))
    (first | refine callP.mk (hf) rfl ?_ | refine callQ.mk (hf) rfl ?_ | refine callO.rd (hf) rfl ?_ | refine callO.mk (hf) rfl ?_)
    try simp (maxSteps := 2000000) (disch := omega) only [go_sem, seval]
    try repeat ((with_reducible refine And.intro ?_ ?_); focus (first | omega | assumption | exact True.intro | (show anyD _ _ = true; exact rfl) | (simp only [List.length_map, List.length_append, List.length_cons, List.length_nil, List.length_take, List.length_drop]; omega)))
    simp [hc]
    try simp (maxSteps := 2000000) (disch := omega) only [go_sem, seval]
    try repeat ((with_reducible refine And.intro ?_ ?_); focus (first | omega | assumption | exact True.intro | (show anyD _ _ = true; exact rfl) | (simp only [List.length_map, List.length_append, List.length_cons, List.length_nil, List.length_take, List.length_drop]; omega)))
end Go.Proofs.YtcedofkenfddkaaDoor
/- The contracts of ranges.Same, entry.Same, kenningref07.Canonical, Canon; the example of chapter 7. -/
namespace Go.Proofs.YtcedofkenfddkaaDoor
set_option linter.unusedVariables false
set_option linter.unusedSimpArgs false
open Go.RowKit
set_option maxRecDepth 100000
theorem canonical7_c (e : En) (hl : e.holes.length ≤ 1152921504606846976) (hb : ∀ s ∈ e.holes, s.lo < M64 ∧ s.hi < M64) : Cn Tryd.prog 41 [ep e] (.v (.bool (rightEB e && !mem e.holes e.max))) := by
  refine cn_go Tryd.func41 [] 1 (by kernel_rfl) rfl (by simp [go_sem, seval]) ?_
  conv => arg 4; cbv
  conv => enter [5, 1]; cbv
  try simp (maxSteps := 2000000) (disch := omega) only [go_sem, seval]
  try repeat ((with_reducible refine And.intro ?_ ?_); focus (first | omega | assumption | exact True.intro | (show anyD _ _ = true; exact rfl) | (simp only [List.length_map, List.length_append, List.length_cons, List.length_nil, List.length_take, List.length_drop]; omega)))
  (first | refine callP.mk (right7_c e hl hb) rfl ?_ | refine callQ.mk (right7_c e hl hb) rfl ?_ | refine callO.rd (right7_c e hl hb) rfl ?_ | refine callO.mk (right7_c e hl hb) rfl ?_)
  try simp (maxSteps := 2000000) (disch := omega) only [go_sem, seval]
  try repeat ((with_reducible refine And.intro ?_ ?_); focus (first | omega | assumption | exact True.intro | (show anyD _ _ = true; exact rfl) | (simp only [List.length_map, List.length_append, List.length_cons, List.length_nil, List.length_take, List.length_drop]; omega)))
  (first | refine brP.mk (fun h => ?_) (fun h => ?_) | refine gdP.mkt (fun h => ?_) (fun h => ?_) | refine gdP.mkf (fun h => ?_) (fun h => ?_) | refine pkP.mk (fun h => ?_) (fun h => ?_)) <;> (try simp only [Bool.not_true, Bool.not_false, decide_eq_true_eq, decide_eq_false_iff_not, Bool.and_eq_true, Bool.or_eq_true, Bool.not_eq_true', Bool.not_eq_false', Bool.and_eq_false_iff, Bool.or_eq_false_iff, Nat.not_lt, Int.not_lt, Nat.not_le, Int.not_le, Int.ofNat_lt, Int.ofNat_le, Int.ofNat_inj, Bool.xor_false, Bool.false_xor, Bool.true_xor, Bool.xor_true] at h) <;> (try simp (maxSteps := 2000000) (disch := omega) only [go_sem, seval]) <;> (try repeat ((with_reducible refine And.intro ?_ ?_); focus (first | omega | assumption | exact True.intro | (show anyD _ _ = true; exact rfl) | (simp only [List.length_map, List.length_append, List.length_cons, List.length_nil, List.length_take, List.length_drop]; omega))))
  · (first | refine callP.mk (has4_c e.holes e.max hl) rfl ?_ | refine callQ.mk (has4_c e.holes e.max hl) rfl ?_ | refine callO.rd (has4_c e.holes e.max hl) rfl ?_ | refine callO.mk (has4_c e.holes e.max hl) rfl ?_)
    try simp (maxSteps := 2000000) (disch := omega) only [go_sem, seval]
    try repeat ((with_reducible refine And.intro ?_ ?_); focus (first | omega | assumption | exact True.intro | (show anyD _ _ = true; exact rfl) | (simp only [List.length_map, List.length_append, List.length_cons, List.length_nil, List.length_take, List.length_drop]; omega)))
    simp [h]
  · simp [h]
end Go.Proofs.YtcedofkenfddkaaDoor
/- The laws of chapter 7: they return true. -/
namespace Go.Proofs.YtcedofkenfddkaaDoor
set_option linter.unusedVariables false
set_option linter.unusedSimpArgs false
open Go.RowKit
set_option maxRecDepth 100000
/-- A correct entry is canonical just if its greatest counter is known. -/
theorem can_iff {e : En} (h : RightE e) : CanE e ↔ mem e.holes e.max = false := by
  refine ⟨can_max, fun hm => ⟨h, fun s hs => ?_⟩⟩
  rcases Nat.lt_or_eq_of_le (h.2.1 s hs) with h1 | h1
  · exact h1
  · have h2 := NF.lo_ge h.1 s hs
    have : mem e.holes e.max = true := mem_iff.2 ⟨s, hs, by omega, by omega⟩
    rw [hm] at this; cases this
end Go.Proofs.YtcedofkenfddkaaDoor
