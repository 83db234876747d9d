/- Texts of this claim, bound together: T2 T3 T4 T5 T6 T7 T8 T9 Ope Rdv T10 Mp Nuc T11. -/
import Derived.Maps.Own
import Derived.Maps.OwnIn
import Derived.Maps.Views
import Derived.Maps.RangeWalk
import Derived.Deep.LoopGhost
import Derived.Test.YtjmhmeadcphfmaaGreatDoorB14
/- The contracts of kenningref04.Same, Starts and of kenningref05. -/
namespace Go.Proofs.YtjmhmeadcphfmaaGreatDoor
set_option linter.unusedVariables false
set_option linter.unusedSimpArgs false
open Go.RowKit
set_option maxRecDepth 100000
theorem same4_c (a b : List Iv) (hl : a.length ≤ 1152921504606846976) : Cn Tryz.prog 28 [rg a, rg b] (.v (.bool (decide (a = b)))) := by
  refine cn_go Tryz.func28 [] 2 (by kernel_rfl) rfl (by simp [go_sem, seval]) ?_
  conv => arg 4; cbv
  conv => enter [5, 1]; cbv
  try simp (maxSteps := 2000000) (disch := omega) only [go_sem, seval]
  try repeat ((with_reducible refine And.intro ?_ ?_); focus (first | omega | assumption | exact True.intro | (show anyD _ _ = true; exact rfl) | (simp only [List.length_map, List.length_append, List.length_cons, List.length_nil, List.length_take, List.length_drop]; omega)))
  (first | refine brP.mk (fun h0 => ?_) (fun h0 => ?_) | refine gdP.mkt (fun h0 => ?_) (fun h0 => ?_) | refine gdP.mkf (fun h0 => ?_) (fun h0 => ?_) | refine pkP.mk (fun h0 => ?_) (fun h0 => ?_)) <;> (try simp only [Bool.not_true, Bool.not_false, decide_eq_true_eq, decide_eq_false_iff_not, Bool.and_eq_true, Bool.or_eq_true, Bool.not_eq_true', Bool.not_eq_false', Bool.and_eq_false_iff, Bool.or_eq_false_iff, Nat.not_lt, Int.not_lt, Nat.not_le, Int.not_le, Int.ofNat_lt, Int.ofNat_le, Int.ofNat_inj, Bool.xor_false, Bool.false_xor, Bool.true_xor, Bool.xor_true] at h0) <;> (try simp (maxSteps := 2000000) (disch := omega) only [go_sem, seval]) <;> (try repeat ((with_reducible refine And.intro ?_ ?_); focus (first | omega | assumption | exact True.intro | (show anyD _ _ = true; exact rfl) | (simp only [List.length_map, List.length_append, List.length_cons, List.length_nil, List.length_take, List.length_drop]; omega))))
  · symm
    rw [decide_eq_false_iff_not]
    rintro rfl
    exact h0 rfl
  · have h0' : a.length = b.length := by simpa using h0
    clear h0
    refine pLoop.go (fun k => k ≤ a.length ∧ (a = b ↔ a.drop k = b.drop k)) (fun k => [(5, .v (.int .i64 (k : Nat)))]) (fun _ => []) (fun k => a.length - k) 0 [5] ?_ ?_ ?_
    · exact ⟨Nat.zero_le _, Iff.rfl⟩
    · try simp (maxSteps := 2000000) (disch := omega) only [go_sem, seval]
      try repeat ((with_reducible refine And.intro ?_ ?_); focus (first | omega | assumption | exact True.intro | (show anyD _ _ = true; exact rfl) | (simp only [List.length_map, List.length_append, List.length_cons, List.length_nil, List.length_take, List.length_drop]; omega)))
    · rintro k ⟨hk, hm⟩
      try simp (maxSteps := 2000000) (disch := omega) only [go_sem, seval]
      try repeat ((with_reducible refine And.intro ?_ ?_); focus (first | omega | assumption | exact True.intro | (show anyD _ _ = true; exact rfl) | (simp only [List.length_map, List.length_append, List.length_cons, List.length_nil, List.length_take, List.length_drop]; omega)))
      (first | refine brP.mk (fun h => ?_) (fun h => ?_) | refine gdP.mkt (fun h => ?_) (fun h => ?_) | refine gdP.mkf (fun h => ?_) (fun h => ?_) | refine pkP.mk (fun h => ?_) (fun h => ?_)) <;> (try simp only [Bool.not_true, Bool.not_false, decide_eq_true_eq, decide_eq_false_iff_not, Bool.and_eq_true, Bool.or_eq_true, Bool.not_eq_true', Bool.not_eq_false', Bool.and_eq_false_iff, Bool.or_eq_false_iff, Nat.not_lt, Int.not_lt, Nat.not_le, Int.not_le, Int.ofNat_lt, Int.ofNat_le, Int.ofNat_inj, Bool.xor_false, Bool.false_xor, Bool.true_xor, Bool.xor_true] at h) <;> (try simp (maxSteps := 2000000) (disch := omega) only [go_sem, seval]) <;> (try repeat ((with_reducible refine And.intro ?_ ?_); focus (first | omega | assumption | exact True.intro | (show anyD _ _ = true; exact rfl) | (simp only [List.length_map, List.length_append, List.length_cons, List.length_nil, List.length_take, List.length_drop]; omega))))
      · have hk' : k < b.length := by omega
        rw [List.drop_eq_getElem_cons h, List.drop_eq_getElem_cons hk', List.cons.injEq] at hm
        try simp (maxSteps := 2000000) (disch := omega) only [go_sem, seval]
        try repeat ((with_reducible refine And.intro ?_ ?_); focus (first | omega | assumption | exact True.intro | (show anyD _ _ = true; exact rfl) | (simp only [List.length_map, List.length_append, List.length_cons, List.length_nil, List.length_take, List.length_drop]; omega)))
        (first | refine brP.mk (fun e => ?_) (fun e => ?_) | refine gdP.mkt (fun e => ?_) (fun e => ?_) | refine gdP.mkf (fun e => ?_) (fun e => ?_) | refine pkP.mk (fun e => ?_) (fun e => ?_)) <;> (try simp only [Bool.not_true, Bool.not_false, decide_eq_true_eq, decide_eq_false_iff_not, Bool.and_eq_true, Bool.or_eq_true, Bool.not_eq_true', Bool.not_eq_false', Bool.and_eq_false_iff, Bool.or_eq_false_iff, Nat.not_lt, Int.not_lt, Nat.not_le, Int.not_le, Int.ofNat_lt, Int.ofNat_le, Int.ofNat_inj, Bool.xor_false, Bool.false_xor, Bool.true_xor, Bool.xor_true] at e) <;> (try simp (maxSteps := 2000000) (disch := omega) only [go_sem, seval]) <;> (try repeat ((with_reducible refine And.intro ?_ ?_); focus (first | omega | assumption | exact True.intro | (show anyD _ _ = true; exact rfl) | (simp only [List.length_map, List.length_append, List.length_cons, List.length_nil, List.length_take, List.length_drop]; omega))))
        · symm
          rw [decide_eq_false_iff_not]
          intro he
          have := (hm.1 he).1
          rcases (by simpa using e : ¬ a[k].lo = b[k].lo ∨ ¬ a[k].hi = b[k].hi) with e | e
          · exact e (congrArg Iv.lo this)
          · exact e (congrArg Iv.hi this)
        · refine ⟨k + 1, ⟨h, ?_⟩, by omega, rfl⟩
          rw [hm]
          have e : a[k].lo = b[k].lo ∧ a[k].hi = b[k].hi := by simpa using e
          exact ⟨fun h => h.2, fun h => ⟨Iv.ext' e.1 e.2, h⟩⟩
      · rw [eq_comm, decide_eq_true_eq, hm, List.drop_of_length_le h, List.drop_of_length_le (by omega)]
end Go.Proofs.YtjmhmeadcphfmaaGreatDoor
/- The contracts of kenningref05. -/
namespace Go.Proofs.YtjmhmeadcphfmaaGreatDoor
set_option linter.unusedVariables false
set_option linter.unusedSimpArgs false
open Go.RowKit
set_option maxRecDepth 100000
end Go.Proofs.YtjmhmeadcphfmaaGreatDoor
/- The contracts of kenningref04.Check and Right, of kenninglaw05.right and alive. -/
namespace Go.Proofs.YtjmhmeadcphfmaaGreatDoor
set_option linter.unusedVariables false
set_option linter.unusedSimpArgs false
open Go.RowKit
set_option maxRecDepth 100000
theorem right3_c (s : Iv) : Cn Tryz.prog 145 [ivp s] (.v (.bool (decide (s.lo ≤ s.hi)))) := by
  refine cn_go Tryz.func145 [] 1 (by kernel_rfl) rfl (by simp [go_sem, seval]) ?_
  conv => arg 4; cbv
  conv => enter [5, 1]; cbv
  try simp (maxSteps := 2000000) (disch := omega) only [go_sem, seval]
  try repeat ((with_reducible refine And.intro ?_ ?_); focus (first | omega | assumption | exact True.intro | (show anyD _ _ = true; exact rfl) | (simp only [List.length_map, List.length_append, List.length_cons, List.length_nil, List.length_take, List.length_drop]; omega)))
def prevC (l : List Iv) (k : Nat) : Option Iv := if k = 0 then none else l[k - 1]?
theorem check4_c (l : List Iv) (hl : l.length ≤ 1152921504606846976) (hb : ∀ s ∈ l, s.lo < M64 ∧ s.hi < M64) : Cn Tryz.prog 88 [rg l] (.tup [.v (.int .i64 (chk l).1), .v (.int .i64 (chk l).2)]) := by
  refine cn_go Tryz.func88 [] 1 (by kernel_rfl) rfl (by simp [go_sem, seval]) ?_
  conv => arg 4; cbv
  conv => enter [5, 1]; cbv
  try simp (maxSteps := 2000000) (disch := omega) only [go_sem, seval]
  try repeat ((with_reducible refine And.intro ?_ ?_); focus (first | omega | assumption | exact True.intro | (show anyD _ _ = true; exact rfl) | (simp only [List.length_map, List.length_append, List.length_cons, List.length_nil, List.length_take, List.length_drop]; omega)))
  refine pLoop.go (fun k => k ≤ l.length ∧ chk l = chkL (prevC l k) (l.drop k) k) (fun k => [(4, .v (.int .i64 (k : Nat)))]) (fun _ => []) (fun k => l.length - k) 0 [4] ?_ ?_ ?_
  · exact ⟨Nat.zero_le _, rfl⟩
  · try simp (maxSteps := 2000000) (disch := omega) only [go_sem, seval]
    try repeat ((with_reducible refine And.intro ?_ ?_); focus (first | omega | assumption | exact True.intro | (show anyD _ _ = true; exact rfl) | (simp only [List.length_map, List.length_append, List.length_cons, List.length_nil, List.length_take, List.length_drop]; omega)))
  · rintro k ⟨hk, hm⟩
    try simp (maxSteps := 2000000) (disch := omega) only [go_sem, seval]
    try repeat ((with_reducible refine And.intro ?_ ?_); focus (first | omega | assumption | exact True.intro | (show anyD _ _ = true; exact rfl) | (simp only [List.length_map, List.length_append, List.length_cons, List.length_nil, List.length_take, List.length_drop]; omega)))
    (first | refine brP.mk (fun h => ?_) (fun h => ?_) | refine gdP.mkt (fun h => ?_) (fun h => ?_) | refine gdP.mkf (fun h => ?_) (fun h => ?_) | refine pkP.mk (fun h => ?_) (fun h => ?_)) <;> (try simp only [Bool.not_true, Bool.not_false, decide_eq_true_eq, decide_eq_false_iff_not, Bool.and_eq_true, Bool.or_eq_true, Bool.not_eq_true', Bool.not_eq_false', Bool.and_eq_false_iff, Bool.or_eq_false_iff, Nat.not_lt, Int.not_lt, Nat.not_le, Int.not_le, Int.ofNat_lt, Int.ofNat_le, Int.ofNat_inj, Bool.xor_false, Bool.false_xor, Bool.true_xor, Bool.xor_true] at h) <;> (try simp (maxSteps := 2000000) (disch := omega) only [go_sem, seval]) <;> (try repeat ((with_reducible refine And.intro ?_ ?_); focus (first | omega | assumption | exact True.intro | (show anyD _ _ = true; exact rfl) | (simp only [List.length_map, List.length_append, List.length_cons, List.length_nil, List.length_take, List.length_drop]; omega))))
    · refine callP.mk (right3_c l[k]) rfl ?_
      rw [chkL_step h] at hm
      try simp (maxSteps := 2000000) (disch := omega) only [go_sem, seval]
      try repeat ((with_reducible refine And.intro ?_ ?_); focus (first | omega | assumption | exact True.intro | (show anyD _ _ = true; exact rfl) | (simp only [List.length_map, List.length_append, List.length_cons, List.length_nil, List.length_take, List.length_drop]; omega)))
      (first | refine brP.mk (fun h1 => ?_) (fun h1 => ?_) | refine gdP.mkt (fun h1 => ?_) (fun h1 => ?_) | refine gdP.mkf (fun h1 => ?_) (fun h1 => ?_) | refine pkP.mk (fun h1 => ?_) (fun h1 => ?_)) <;> (try simp only [Bool.not_true, Bool.not_false, decide_eq_true_eq, decide_eq_false_iff_not, Bool.and_eq_true, Bool.or_eq_true, Bool.not_eq_true', Bool.not_eq_false', Bool.and_eq_false_iff, Bool.or_eq_false_iff, Nat.not_lt, Int.not_lt, Nat.not_le, Int.not_le, Int.ofNat_lt, Int.ofNat_le, Int.ofNat_inj, Bool.xor_false, Bool.false_xor, Bool.true_xor, Bool.xor_true] at h1) <;> (try simp (maxSteps := 2000000) (disch := omega) only [go_sem, seval]) <;> (try repeat ((with_reducible refine And.intro ?_ ?_); focus (first | omega | assumption | exact True.intro | (show anyD _ _ = true; exact rfl) | (simp only [List.length_map, List.length_append, List.length_cons, List.length_nil, List.length_take, List.length_drop]; omega))))
      · rw [if_neg (by omega)] at hm
        rw [hm]
        rfl
      · rw [if_pos h1] at hm
        have hs : prevC l (k + 1) = some l[k] := by unfold prevC; rw [if_neg (by omega)]; exact List.getElem?_eq_getElem h
        (first | refine brP.mk (fun h2 => ?_) (fun h2 => ?_) | refine gdP.mkt (fun h2 => ?_) (fun h2 => ?_) | refine gdP.mkf (fun h2 => ?_) (fun h2 => ?_) | refine pkP.mk (fun h2 => ?_) (fun h2 => ?_)) <;> (try simp only [Bool.not_true, Bool.not_false, decide_eq_true_eq, decide_eq_false_iff_not, Bool.and_eq_true, Bool.or_eq_true, Bool.not_eq_true', Bool.not_eq_false', Bool.and_eq_false_iff, Bool.or_eq_false_iff, Nat.not_lt, Int.not_lt, Nat.not_le, Int.not_le, Int.ofNat_lt, Int.ofNat_le, Int.ofNat_inj, Bool.xor_false, Bool.false_xor, Bool.true_xor, Bool.xor_true] at h2) <;> (try simp (maxSteps := 2000000) (disch := omega) only [go_sem, seval]) <;> (try repeat ((with_reducible refine And.intro ?_ ?_); focus (first | omega | assumption | exact True.intro | (show anyD _ _ = true; exact rfl) | (simp only [List.length_map, List.length_append, List.length_cons, List.length_nil, List.length_take, List.length_drop]; omega))))
        · have hp : prevC l k = some l[k - 1] := by unfold prevC; rw [if_neg (by omega), List.getElem?_eq_getElem]
          rw [hp] at hm
          refine callQ.mk (rel3_c l[k - 1] l[k] (hb _ (List.getElem_mem _)).1 (hb _ (List.getElem_mem _)).1) rfl ?_
          try simp (maxSteps := 2000000) (disch := omega) only [go_sem, seval]
          try repeat ((with_reducible refine And.intro ?_ ?_); focus (first | omega | assumption | exact True.intro | (show anyD _ _ = true; exact rfl) | (simp only [List.length_map, List.length_append, List.length_cons, List.length_nil, List.length_take, List.length_drop]; omega)))
          (first | refine brP.mk (fun h3 => ?_) (fun h3 => ?_) | refine gdP.mkt (fun h3 => ?_) (fun h3 => ?_) | refine gdP.mkf (fun h3 => ?_) (fun h3 => ?_) | refine pkP.mk (fun h3 => ?_) (fun h3 => ?_)) <;> (try simp only [Bool.not_true, Bool.not_false, decide_eq_true_eq, decide_eq_false_iff_not, Bool.and_eq_true, Bool.or_eq_true, Bool.not_eq_true', Bool.not_eq_false', Bool.and_eq_false_iff, Bool.or_eq_false_iff, Nat.not_lt, Int.not_lt, Nat.not_le, Int.not_le, Int.ofNat_lt, Int.ofNat_le, Int.ofNat_inj, Bool.xor_false, Bool.false_xor, Bool.true_xor, Bool.xor_true] at h3) <;> (try simp (maxSteps := 2000000) (disch := omega) only [go_sem, seval]) <;> (try repeat ((with_reducible refine And.intro ?_ ?_); focus (first | omega | assumption | exact True.intro | (show anyD _ _ = true; exact rfl) | (simp only [List.length_map, List.length_append, List.length_cons, List.length_nil, List.length_take, List.length_drop]; omega))))
          · rw [if_neg (by simpa using h3)] at hm
            rw [hm]
            rfl
          · rw [if_pos (by simpa using h3)] at hm
            exact ⟨k + 1, ⟨h, by rw [hs]; exact hm⟩, by omega, rfl⟩
        · have hp : prevC l k = none := by unfold prevC; rw [if_pos (by omega)]
          rw [hp] at hm
          exact ⟨k + 1, ⟨h, by rw [hs]; exact hm⟩, by omega, rfl⟩
    · rw [List.drop_of_length_le h] at hm
      rw [hm]
      rfl
theorem n23 : Nrm [⟨2, 3⟩, ⟨9, 9⟩] := by simp [Nrm, NF, M64_val]
theorem n01 : Nrm [⟨0, 1⟩, ⟨4, 8⟩] := by simp [Nrm, NF, M64_val]
theorem n09 : Nrm [⟨0, 9⟩] := by simp [Nrm, NF, M64_val]
theorem e1 : opS fMinus [⟨0, 9⟩] [⟨2, 3⟩, ⟨9, 9⟩] = [⟨0, 1⟩, ⟨4, 8⟩] := opS_eq n09 n23 n01 fun x _ => by rw [Bool.eq_iff_iff]; simp [mem, fMinus]; omega
theorem e2 : opS fUnion [⟨2, 3⟩, ⟨9, 9⟩] [⟨0, 1⟩, ⟨4, 8⟩] = [⟨0, 9⟩] := opS_eq n23 n01 n09 fun x _ => by rw [Bool.eq_iff_iff]; simp [mem, fUnion]; omega
theorem e4 : opS fMinus [⟨2, 3⟩, ⟨9, 9⟩] [⟨0, 1⟩, ⟨4, 8⟩] = [⟨2, 3⟩, ⟨9, 9⟩] := opS_eq n23 n01 n23 fun x _ => by rw [Bool.eq_iff_iff]; simp [mem, fMinus]; omega
theorem e5 : opS fMeet [⟨2, 3⟩, ⟨9, 9⟩] [⟨0, 1⟩, ⟨4, 8⟩] = [] := opS_eq n23 n01 trivial fun x _ => by rw [Bool.eq_iff_iff]; simp [mem, fMeet]; omega
theorem e6 : opS fMinus [⟨2, 3⟩, ⟨9, 9⟩] [⟨0, 1⟩, ⟨4, 8⟩] = [⟨2, 3⟩, ⟨9, 9⟩] := opS_eq n23 n01 n23 fun x _ => by rw [Bool.eq_iff_iff]; simp [mem, fMinus]; omega
end Go.Proofs.YtjmhmeadcphfmaaGreatDoor
/- SetopsMatch, SetopsNot and SetopsRelate return true. -/
namespace Go.Proofs.YtjmhmeadcphfmaaGreatDoor
set_option linter.unusedVariables false
set_option linter.unusedSimpArgs false
open Go.RowKit
set_option maxRecDepth 100000
def BdR (l : List Iv) : Prop := ∀ s ∈ l, s.lo < M64 ∧ s.hi < M64
end Go.Proofs.YtjmhmeadcphfmaaGreatDoor
/- The contracts of the references of the layers 7 and 8. -/
namespace Go.Proofs.YtjmhmeadcphfmaaGreatDoor
set_option linter.unusedVariables false
set_option linter.unusedSimpArgs false
open Go.RowKit
set_option maxRecDepth 100000
/-- An entry's cells. -/
def ec (e : En) : List PV := [.v (.int .u64 e.rep), .v (.int .u64 e.max), rg e.holes]
def ep (e : En) : PV := .agg (ec e)
attribute [go_sem] ep ec
def hk (m : Nat) : List Iv → Nat → Nat × Int
  | [], _ => (0, -1)
  | s :: r, i => if m < s.hi then (4, (i : Int)) else hk m r (i + 1)
/-- The error of an entry, and its index. -/
def chkE (e : En) : Nat × Int := if (chk e.holes).1 = 0 then hk e.max e.holes 0 else chk e.holes
theorem hk_zero (m : Nat) : ∀ (l : List Iv) (i : Nat), (hk m l i).1 = 0 ↔ ∀ s ∈ l, s.hi ≤ m
  | [], i => by simp [hk]
  | s :: r, i => by
    have := hk_zero m r (i + 1)
    unfold hk
    split
    · simp; omega
    · rw [this]; simp; omega
theorem hk_step {m : Nat} {l : List Iv} {k : Nat} (h : k < l.length) : hk m (l.drop k) k = if m < l[k].hi then (4, (k : Int)) else hk m (l.drop (k + 1)) (k + 1) := by
  rw [List.drop_eq_getElem_cons h]; rfl
def rightEB (e : En) : Bool := decide ((chkE e).1 = 0)
theorem rightEB_iff {e : En} (h : ∀ s ∈ e.holes, s.lo < M64 ∧ s.hi < M64) (h1 : e.max < M64) (h2 : e.rep < M64) : rightEB e = true ↔ RightE e := by
  have hn := chk_nrm (l := e.holes) fun s hs => (h s hs).2
  have hz := hk_zero e.max e.holes 0
  unfold rightEB chkE RightE
  rw [decide_eq_true_eq]
  by_cases h' : (chk e.holes).1 = 0
  · rw [if_pos h', hz]
    exact ⟨fun g => ⟨hn.1 h', g, h1, h2⟩, fun g => g.2.1⟩
  · rw [if_neg h']
    exact ⟨fun g => absurd g h', fun g => absurd (hn.2 g.1) h'⟩
theorem check7_c (e : En) (hl : e.holes.length ≤ 1152921504606846976) (hb : ∀ s ∈ e.holes, s.lo < M64 ∧ s.hi < M64) : Cn Tryz.prog 147 [ep e] (.tup [.v (.int .i64 (chkE e).1), .v (.int .i64 (chkE e).2)]) := by
  refine cn_go Tryz.func147 [] 1 (by kernel_rfl) rfl (by simp [go_sem, seval]) ?_
  conv => arg 4; cbv
  conv => enter [5, 1]; cbv
  try simp (maxSteps := 2000000) (disch := omega) only [go_sem, seval]
  try repeat ((with_reducible refine And.intro ?_ ?_); focus (first | omega | assumption | exact True.intro | (show anyD _ _ = true; exact rfl) | (simp only [List.length_map, List.length_append, List.length_cons, List.length_nil, List.length_take, List.length_drop]; omega)))
  (first | refine callP.mk (check4_c e.holes hl hb) rfl ?_ | refine callQ.mk (check4_c e.holes hl hb) rfl ?_ | refine callO.rd (check4_c e.holes hl hb) rfl ?_ | refine callO.mk (check4_c e.holes hl hb) rfl ?_)
  try simp (maxSteps := 2000000) (disch := omega) only [go_sem, seval]
  try repeat ((with_reducible refine And.intro ?_ ?_); focus (first | omega | assumption | exact True.intro | (show anyD _ _ = true; exact rfl) | (simp only [List.length_map, List.length_append, List.length_cons, List.length_nil, List.length_take, List.length_drop]; omega)))
  (first | refine brP.mk (fun h => ?_) (fun h => ?_) | refine gdP.mkt (fun h => ?_) (fun h => ?_) | refine gdP.mkf (fun h => ?_) (fun h => ?_) | refine pkP.mk (fun h => ?_) (fun h => ?_)) <;> (try simp only [Bool.not_true, Bool.not_false, decide_eq_true_eq, decide_eq_false_iff_not, Bool.and_eq_true, Bool.or_eq_true, Bool.not_eq_true', Bool.not_eq_false', Bool.and_eq_false_iff, Bool.or_eq_false_iff, Nat.not_lt, Int.not_lt, Nat.not_le, Int.not_le, Int.ofNat_lt, Int.ofNat_le, Int.ofNat_inj, Bool.xor_false, Bool.false_xor, Bool.true_xor, Bool.xor_true] at h) <;> (try simp (maxSteps := 2000000) (disch := omega) only [go_sem, seval]) <;> (try repeat ((with_reducible refine And.intro ?_ ?_); focus (first | omega | assumption | exact True.intro | (show anyD _ _ = true; exact rfl) | (simp only [List.length_map, List.length_append, List.length_cons, List.length_nil, List.length_take, List.length_drop]; omega))))
  · unfold chkE
    rw [if_neg (by omega)]
  · refine pLoop.go (fun k => k ≤ e.holes.length ∧ chkE e = hk e.max (e.holes.drop k) k) (fun k => [(6, .v (.int .i64 (k : Nat)))]) (fun _ => [ec e]) (fun k => e.holes.length - k) 0 [6] ?_ ?_ ?_
    · refine ⟨Nat.zero_le _, ?_⟩
      unfold chkE
      rw [if_pos (by omega)]; rfl
    · try simp (maxSteps := 2000000) (disch := omega) only [go_sem, seval]
      try repeat ((with_reducible refine And.intro ?_ ?_); focus (first | omega | assumption | exact True.intro | (show anyD _ _ = true; exact rfl) | (simp only [List.length_map, List.length_append, List.length_cons, List.length_nil, List.length_take, List.length_drop]; omega)))
    · rintro k ⟨hk1, hm⟩
      try simp (maxSteps := 2000000) (disch := omega) only [go_sem, seval]
      try repeat ((with_reducible refine And.intro ?_ ?_); focus (first | omega | assumption | exact True.intro | (show anyD _ _ = true; exact rfl) | (simp only [List.length_map, List.length_append, List.length_cons, List.length_nil, List.length_take, List.length_drop]; omega)))
      (first | refine brP.mk (fun h1 => ?_) (fun h1 => ?_) | refine gdP.mkt (fun h1 => ?_) (fun h1 => ?_) | refine gdP.mkf (fun h1 => ?_) (fun h1 => ?_) | refine pkP.mk (fun h1 => ?_) (fun h1 => ?_)) <;> (try simp only [Bool.not_true, Bool.not_false, decide_eq_true_eq, decide_eq_false_iff_not, Bool.and_eq_true, Bool.or_eq_true, Bool.not_eq_true', Bool.not_eq_false', Bool.and_eq_false_iff, Bool.or_eq_false_iff, Nat.not_lt, Int.not_lt, Nat.not_le, Int.not_le, Int.ofNat_lt, Int.ofNat_le, Int.ofNat_inj, Bool.xor_false, Bool.false_xor, Bool.true_xor, Bool.xor_true] at h1) <;> (try simp (maxSteps := 2000000) (disch := omega) only [go_sem, seval]) <;> (try repeat ((with_reducible refine And.intro ?_ ?_); focus (first | omega | assumption | exact True.intro | (show anyD _ _ = true; exact rfl) | (simp only [List.length_map, List.length_append, List.length_cons, List.length_nil, List.length_take, List.length_drop]; omega))))
      · rw [hk_step h1] at hm
        (first | refine brP.mk (fun h2 => ?_) (fun h2 => ?_) | refine gdP.mkt (fun h2 => ?_) (fun h2 => ?_) | refine gdP.mkf (fun h2 => ?_) (fun h2 => ?_) | refine pkP.mk (fun h2 => ?_) (fun h2 => ?_)) <;> (try simp only [Bool.not_true, Bool.not_false, decide_eq_true_eq, decide_eq_false_iff_not, Bool.and_eq_true, Bool.or_eq_true, Bool.not_eq_true', Bool.not_eq_false', Bool.and_eq_false_iff, Bool.or_eq_false_iff, Nat.not_lt, Int.not_lt, Nat.not_le, Int.not_le, Int.ofNat_lt, Int.ofNat_le, Int.ofNat_inj, Bool.xor_false, Bool.false_xor, Bool.true_xor, Bool.xor_true] at h2) <;> (try simp (maxSteps := 2000000) (disch := omega) only [go_sem, seval]) <;> (try repeat ((with_reducible refine And.intro ?_ ?_); focus (first | omega | assumption | exact True.intro | (show anyD _ _ = true; exact rfl) | (simp only [List.length_map, List.length_append, List.length_cons, List.length_nil, List.length_take, List.length_drop]; omega))))
        · rw [hm, if_pos h2]
          simp
        · rw [if_neg (by omega)] at hm
          exact ⟨k + 1, ⟨h1, hm⟩, by omega, rfl⟩
      · rw [List.drop_of_length_le h1] at hm
        rw [hm]
        simp [hk]
end Go.Proofs.YtjmhmeadcphfmaaGreatDoor
/- The contracts of word.Next and Prev, entry.Known, Of, Has, ranges.Has, of the package join. -/
namespace Go.Proofs.YtjmhmeadcphfmaaGreatDoor
set_option linter.unusedVariables false
set_option linter.unusedSimpArgs false
open Go.RowKit
set_option maxRecDepth 100000
theorem upTo_c (x : Nat) : Cn Tryz.prog 174 [.v (.int .u64 x)] (ivp ⟨0, x⟩) := by
  refine cn_go Tryz.func174 [] 1 (by kernel_rfl) rfl (by simp [go_sem, seval]) ?_
  conv => arg 4; cbv
  conv => enter [5, 1]; cbv
  try simp (maxSteps := 2000000) (disch := omega) only [go_sem, seval]
  try repeat ((with_reducible refine And.intro ?_ ?_); focus (first | omega | assumption | exact True.intro | (show anyD _ _ = true; exact rfl) | (simp only [List.length_map, List.length_append, List.length_cons, List.length_nil, List.length_take, List.length_drop]; omega)))
  try rfl
theorem eknown_c (e : En) (h : RightE e) (hl : e.holes.length ≤ 131072) : Cn Tryz.prog 124 [ep e] (rg (kn e)) := by
  refine cn_go Tryz.func124 [] 1 (by kernel_rfl) rfl (by simp [go_sem, seval]) ?_
  conv => arg 4; cbv
  conv => enter [5, 1]; cbv
  try simp (maxSteps := 2000000) (disch := omega) only [go_sem, seval]
  try repeat ((with_reducible refine And.intro ?_ ?_); focus (first | omega | assumption | exact True.intro | (show anyD _ _ = true; exact rfl) | (simp only [List.length_map, List.length_append, List.length_cons, List.length_nil, List.length_take, List.length_drop]; omega)))
  (first | refine callP.mk (upTo_c e.max) rfl ?_ | refine callQ.mk (upTo_c e.max) rfl ?_ | refine callO.rd (upTo_c e.max) rfl ?_ | refine callO.mk (upTo_c e.max) rfl ?_)
  try simp (maxSteps := 2000000) (disch := omega) only [go_sem, seval]
  try repeat ((with_reducible refine And.intro ?_ ?_); focus (first | omega | assumption | exact True.intro | (show anyD _ _ = true; exact rfl) | (simp only [List.length_map, List.length_append, List.length_cons, List.length_nil, List.length_take, List.length_drop]; omega)))
  (first | refine callP.mk (not_c e.holes ⟨0, e.max⟩ h.1 (Nat.zero_le _) h.2.2.1 (by omega)) rfl ?_ | refine callQ.mk (not_c e.holes ⟨0, e.max⟩ h.1 (Nat.zero_le _) h.2.2.1 (by omega)) rfl ?_ | refine callO.rd (not_c e.holes ⟨0, e.max⟩ h.1 (Nat.zero_le _) h.2.2.1 (by omega)) rfl ?_ | refine callO.mk (not_c e.holes ⟨0, e.max⟩ h.1 (Nat.zero_le _) h.2.2.1 (by omega)) rfl ?_)
  try simp (maxSteps := 2000000) (disch := omega) only [go_sem, seval]
  try repeat ((with_reducible refine And.intro ?_ ?_); focus (first | omega | assumption | exact True.intro | (show anyD _ _ = true; exact rfl) | (simp only [List.length_map, List.length_append, List.length_cons, List.length_nil, List.length_take, List.length_drop]; omega)))
  rfl
theorem eof_c (r : Nat) (l : List Iv) (hl : Nrm l) (h1 : l.length ≤ 131072) : Cn Tryz.prog 178 [.v (.int .u64 r), rg l] (.tup [ep (ofS r l).1, .v (.bool (ofS r l).2)]) := by
  refine cn_go Tryz.func178 [] 2 (by kernel_rfl) rfl (by simp [go_sem, seval]) ?_
  conv => arg 4; cbv
  conv => enter [5, 1]; cbv
  try simp (maxSteps := 2000000) (disch := omega) only [go_sem, seval]
  try repeat ((with_reducible refine And.intro ?_ ?_); focus (first | omega | assumption | exact True.intro | (show anyD _ _ = true; exact rfl) | (simp only [List.length_map, List.length_append, List.length_cons, List.length_nil, List.length_take, List.length_drop]; omega)))
  (first | refine brP.mk (fun h => ?_) (fun h => ?_) | refine gdP.mkt (fun h => ?_) (fun h => ?_) | refine gdP.mkf (fun h => ?_) (fun h => ?_) | refine pkP.mk (fun h => ?_) (fun h => ?_)) <;> (try simp only [Bool.not_true, Bool.not_false, decide_eq_true_eq, decide_eq_false_iff_not, Bool.and_eq_true, Bool.or_eq_true, Bool.not_eq_true', Bool.not_eq_false', Bool.and_eq_false_iff, Bool.or_eq_false_iff, Nat.not_lt, Int.not_lt, Nat.not_le, Int.not_le, Int.ofNat_lt, Int.ofNat_le, Int.ofNat_inj, Bool.xor_false, Bool.false_xor, Bool.true_xor, Bool.xor_true] at h) <;> (try simp (maxSteps := 2000000) (disch := omega) only [go_sem, seval]) <;> (try repeat ((with_reducible refine And.intro ?_ ?_); focus (first | omega | assumption | exact True.intro | (show anyD _ _ = true; exact rfl) | (simp only [List.length_map, List.length_append, List.length_cons, List.length_nil, List.length_take, List.length_drop]; omega))))
  · subst h
    rfl
  · have hp : 0 < l.length := List.length_pos_iff.2 (by simpa using h)
    have ht := top_at hp
    have hM := (top_mem hl (by simpa using h)).2
    try simp (maxSteps := 2000000) (disch := omega) only [go_sem, seval, ht]
    try repeat ((with_reducible refine And.intro ?_ ?_); focus (first | omega | assumption | exact True.intro | (show anyD _ _ = true; exact rfl) | (simp only [List.length_map, List.length_append, List.length_cons, List.length_nil, List.length_take, List.length_drop]; omega)))
    (first | refine callP.mk (upTo_c (top l)) rfl ?_ | refine callQ.mk (upTo_c (top l)) rfl ?_ | refine callO.rd (upTo_c (top l)) rfl ?_ | refine callO.mk (upTo_c (top l)) rfl ?_)
    try simp (maxSteps := 2000000) (disch := omega) only [go_sem, seval]
    try repeat ((with_reducible refine And.intro ?_ ?_); focus (first | omega | assumption | exact True.intro | (show anyD _ _ = true; exact rfl) | (simp only [List.length_map, List.length_append, List.length_cons, List.length_nil, List.length_take, List.length_drop]; omega)))
    (first | refine callP.mk (not_c l ⟨0, top l⟩ hl (Nat.zero_le _) hM (by omega)) rfl ?_ | refine callQ.mk (not_c l ⟨0, top l⟩ hl (Nat.zero_le _) hM (by omega)) rfl ?_ | refine callO.rd (not_c l ⟨0, top l⟩ hl (Nat.zero_le _) hM (by omega)) rfl ?_ | refine callO.mk (not_c l ⟨0, top l⟩ hl (Nat.zero_le _) hM (by omega)) rfl ?_)
    try simp (maxSteps := 2000000) (disch := omega) only [go_sem, seval]
    try repeat ((with_reducible refine And.intro ?_ ?_); focus (first | omega | assumption | exact True.intro | (show anyD _ _ = true; exact rfl) | (simp only [List.length_map, List.length_append, List.length_cons, List.length_nil, List.length_take, List.length_drop]; omega)))
    rw [ofS_cons (by simpa using h)]
section
variable (a b : En) (ha : RightE a) (hb : RightE b) (la : a.holes.length ≤ 10000) (lb : b.holes.length ≤ 10000)
include ha hb la lb
end
end Go.Proofs.YtjmhmeadcphfmaaGreatDoor
/- The contracts of entry.Canon, join.Next, entry.Has, and of the searches that they call. -/
namespace Go.Proofs.YtjmhmeadcphfmaaGreatDoor
set_option linter.unusedVariables false
set_option linter.unusedSimpArgs false
open Go.RowKit
set_option maxRecDepth 100000
theorem wrap_i {n : Int} (h : -9223372036854775808 ≤ n ∧ n < 9223372036854775808) : IntKind.i64.wrap n = n := by
  simp only [IntKind.wrap, IntKind.bits, IntKind.signed]
  simp
  omega
/-- Where a test turns. -/
theorem ex_part (p : Nat → Prop) [DecidablePred p] : ∀ n, (∀ i j, i ≤ j → j < n → p j → p i) → ∃ i, i ≤ n ∧ (∀ j, j < i → p j) ∧ ∀ j, i ≤ j → j < n → ¬ p j
  | 0, _ => ⟨0, Nat.le_refl _, fun j h => absurd h (by omega), fun j h1 h2 => absurd h2 (by omega)⟩
  | n + 1, h => by
    by_cases hp : p n
    · exact ⟨n + 1, Nat.le_refl _, fun j hj => h j n (by omega) (by omega) hp, fun j h1 h2 => absurd h2 (by omega)⟩
    · obtain ⟨i, h1, h2, h3⟩ := ex_part p n fun i j hij hj => h i j hij (by omega)
      refine ⟨i, by omega, h2, fun j h4 h5 => ?_⟩
      rcases Nat.lt_or_ge j n with h6 | h6
      · exact h3 j h4 h6
      · obtain rfl : j = n := by omega
        exact hp
attribute [go_sem] wrap_i
theorem bsfR_c (l : List Iv) (x : Nat) (g : FuncId) (c : Nat → Int) (i : Nat) (hi : i ≤ l.length) (h1 : ∀ j, j < i → c j < 0) (h2 : ∀ j, i ≤ j → j < l.length → 0 ≤ c j) (hl : l.length ≤ 1152921504606846976)
    (hg : ∀ k (h : k < l.length), Cn Tryz.prog g [ivp l[k], .v (.int .u64 x)] (.v (.int .i64 (c k)))) : Cn Tryz.prog 214 [rg l, .v (.int .u64 x), .fn (.func g) [] []] (.tup [.v (.int .i64 i), .v (.bool (decide (i < l.length) && decide (c i = 0)))]) := by
  refine cn_go Tryz.func214 [] 3 (by kernel_rfl) rfl (by simp [go_sem, seval]) ?_
  conv => arg 4; cbv
  conv => enter [5, 1]; cbv
  try simp (maxSteps := 2000000) (disch := omega) only [go_sem, seval]
  try repeat ((with_reducible refine And.intro ?_ ?_); focus (first | omega | assumption | exact True.intro | (show anyD _ _ = true; exact rfl) | (simp only [List.length_map, List.length_append, List.length_cons, List.length_nil, List.length_take, List.length_drop]; omega)))
  refine pLoop.go (fun p : Nat × Nat => p.1 ≤ i ∧ i ≤ p.2 ∧ p.2 ≤ l.length) (fun p => [(9, .v (.int .i64 (p.1 : Nat))), (10, .v (.int .i64 (p.2 : Nat)))]) (fun _ => []) (fun p => p.2 - p.1) (0, l.length) [9, 10] ?_ ?_ ?_
  · exact ⟨Nat.zero_le _, hi, Nat.le_refl _⟩
  · try simp (maxSteps := 2000000) (disch := omega) only [go_sem, seval]
    try repeat ((with_reducible refine And.intro ?_ ?_); focus (first | omega | assumption | exact True.intro | (show anyD _ _ = true; exact rfl) | (simp only [List.length_map, List.length_append, List.length_cons, List.length_nil, List.length_take, List.length_drop]; omega)))
  · rintro ⟨p, q⟩ ⟨k1, k2, k3⟩
    simp only at k1 k2 k3
    try simp (maxSteps := 2000000) (disch := omega) only [go_sem, seval]
    try repeat ((with_reducible refine And.intro ?_ ?_); focus (first | omega | assumption | exact True.intro | (show anyD _ _ = true; exact rfl) | (simp only [List.length_map, List.length_append, List.length_cons, List.length_nil, List.length_take, List.length_drop]; omega)))
    (first | refine brP.mk (fun h => ?_) (fun h => ?_) | refine gdP.mkt (fun h => ?_) (fun h => ?_) | refine gdP.mkf (fun h => ?_) (fun h => ?_) | refine pkP.mk (fun h => ?_) (fun h => ?_)) <;> (try simp only [Bool.not_true, Bool.not_false, decide_eq_true_eq, decide_eq_false_iff_not, Bool.and_eq_true, Bool.or_eq_true, Bool.not_eq_true', Bool.not_eq_false', Bool.and_eq_false_iff, Bool.or_eq_false_iff, Nat.not_lt, Int.not_lt, Nat.not_le, Int.not_le, Int.ofNat_lt, Int.ofNat_le, Int.ofNat_inj, Bool.xor_false, Bool.false_xor, Bool.true_xor, Bool.xor_true] at h) <;> (try simp (maxSteps := 2000000) (disch := omega) only [go_sem, seval]) <;> (try repeat ((with_reducible refine And.intro ?_ ?_); focus (first | omega | assumption | exact True.intro | (show anyD _ _ = true; exact rfl) | (simp only [List.length_map, List.length_append, List.length_cons, List.length_nil, List.length_take, List.length_drop]; omega))))
    · have hm : (p + q) / 2 < l.length := by omega
      try simp (maxSteps := 2000000) (disch := omega) only [go_sem, seval]
      try repeat ((with_reducible refine And.intro ?_ ?_); focus (first | omega | assumption | exact True.intro | (show anyD _ _ = true; exact rfl) | (simp only [List.length_map, List.length_append, List.length_cons, List.length_nil, List.length_take, List.length_drop]; omega)))
      (first | refine callP.mk (hg ((p + q) / 2) hm) rfl ?_ | refine callQ.mk (hg ((p + q) / 2) hm) rfl ?_ | refine callO.rd (hg ((p + q) / 2) hm) rfl ?_ | refine callO.mk (hg ((p + q) / 2) hm) rfl ?_)
      try simp (maxSteps := 2000000) (disch := omega) only [go_sem, seval]
      try repeat ((with_reducible refine And.intro ?_ ?_); focus (first | omega | assumption | exact True.intro | (show anyD _ _ = true; exact rfl) | (simp only [List.length_map, List.length_append, List.length_cons, List.length_nil, List.length_take, List.length_drop]; omega)))
      (first | refine brP.mk (fun h4 => ?_) (fun h4 => ?_) | refine gdP.mkt (fun h4 => ?_) (fun h4 => ?_) | refine gdP.mkf (fun h4 => ?_) (fun h4 => ?_) | refine pkP.mk (fun h4 => ?_) (fun h4 => ?_)) <;> (try simp only [Bool.not_true, Bool.not_false, decide_eq_true_eq, decide_eq_false_iff_not, Bool.and_eq_true, Bool.or_eq_true, Bool.not_eq_true', Bool.not_eq_false', Bool.and_eq_false_iff, Bool.or_eq_false_iff, Nat.not_lt, Int.not_lt, Nat.not_le, Int.not_le, Int.ofNat_lt, Int.ofNat_le, Int.ofNat_inj, Bool.xor_false, Bool.false_xor, Bool.true_xor, Bool.xor_true] at h4) <;> (try simp (maxSteps := 2000000) (disch := omega) only [go_sem, seval]) <;> (try repeat ((with_reducible refine And.intro ?_ ?_); focus (first | omega | assumption | exact True.intro | (show anyD _ _ = true; exact rfl) | (simp only [List.length_map, List.length_append, List.length_cons, List.length_nil, List.length_take, List.length_drop]; omega))))
      · refine ⟨((p + q) / 2 + 1, q), ⟨?_, k2, k3⟩, by simp only; omega, rfl, rfl⟩
        simp only
        refine Nat.lt_of_not_le fun h5 => ?_
        have := h2 _ h5 hm
        omega
      · refine ⟨(p, (p + q) / 2), ⟨k1, ?_, by simp only; omega⟩, by simp only; omega, rfl, rfl⟩
        simp only
        refine Nat.le_of_not_lt fun h5 => ?_
        have := h1 _ h5
        omega
    · obtain rfl : p = i := by omega
      obtain rfl : q = p := by omega
      (first | refine brP.mk (fun h4 => ?_) (fun h4 => ?_) | refine gdP.mkt (fun h4 => ?_) (fun h4 => ?_) | refine gdP.mkf (fun h4 => ?_) (fun h4 => ?_) | refine pkP.mk (fun h4 => ?_) (fun h4 => ?_)) <;> (try simp only [Bool.not_true, Bool.not_false, decide_eq_true_eq, decide_eq_false_iff_not, Bool.and_eq_true, Bool.or_eq_true, Bool.not_eq_true', Bool.not_eq_false', Bool.and_eq_false_iff, Bool.or_eq_false_iff, Nat.not_lt, Int.not_lt, Nat.not_le, Int.not_le, Int.ofNat_lt, Int.ofNat_le, Int.ofNat_inj, Bool.xor_false, Bool.false_xor, Bool.true_xor, Bool.xor_true] at h4) <;> (try simp (maxSteps := 2000000) (disch := omega) only [go_sem, seval]) <;> (try repeat ((with_reducible refine And.intro ?_ ?_); focus (first | omega | assumption | exact True.intro | (show anyD _ _ = true; exact rfl) | (simp only [List.length_map, List.length_append, List.length_cons, List.length_nil, List.length_take, List.length_drop]; omega))))
      · (first | refine callP.mk (hg q h4) rfl ?_ | refine callQ.mk (hg q h4) rfl ?_ | refine callO.rd (hg q h4) rfl ?_ | refine callO.mk (hg q h4) rfl ?_)
        try simp (maxSteps := 2000000) (disch := omega) only [go_sem, seval]
        try repeat ((with_reducible refine And.intro ?_ ?_); focus (first | omega | assumption | exact True.intro | (show anyD _ _ = true; exact rfl) | (simp only [List.length_map, List.length_append, List.length_cons, List.length_nil, List.length_take, List.length_drop]; omega)))
        simp [h4]
      · have h4' : ¬ q < l.length := by omega
        simp [h4']
theorem rfind1_c (s : Iv) (x : Nat) : Cn Tryz.prog 215 [ivp s, .v (.int .u64 x)] (.v (.int .i64 (if s.hi < x then -1 else if x < s.lo then 1 else 0))) := by
  refine cn_go Tryz.func215 [] 2 (by kernel_rfl) rfl (by simp [go_sem, seval]) ?_
  conv => arg 4; cbv
  conv => enter [5, 1]; cbv
  try simp (maxSteps := 2000000) (disch := omega) only [go_sem, seval]
  try repeat ((with_reducible refine And.intro ?_ ?_); focus (first | omega | assumption | exact True.intro | (show anyD _ _ = true; exact rfl) | (simp only [List.length_map, List.length_append, List.length_cons, List.length_nil, List.length_take, List.length_drop]; omega)))
  (first | refine brP.mk (fun h1 => ?_) (fun h1 => ?_) | refine gdP.mkt (fun h1 => ?_) (fun h1 => ?_) | refine gdP.mkf (fun h1 => ?_) (fun h1 => ?_) | refine pkP.mk (fun h1 => ?_) (fun h1 => ?_)) <;> (try simp only [Bool.not_true, Bool.not_false, decide_eq_true_eq, decide_eq_false_iff_not, Bool.and_eq_true, Bool.or_eq_true, Bool.not_eq_true', Bool.not_eq_false', Bool.and_eq_false_iff, Bool.or_eq_false_iff, Nat.not_lt, Int.not_lt, Nat.not_le, Int.not_le, Int.ofNat_lt, Int.ofNat_le, Int.ofNat_inj, Bool.xor_false, Bool.false_xor, Bool.true_xor, Bool.xor_true] at h1) <;> (try simp (maxSteps := 2000000) (disch := omega) only [go_sem, seval]) <;> (try repeat ((with_reducible refine And.intro ?_ ?_); focus (first | omega | assumption | exact True.intro | (show anyD _ _ = true; exact rfl) | (simp only [List.length_map, List.length_append, List.length_cons, List.length_nil, List.length_take, List.length_drop]; omega))))
  · rw [if_pos h1]
  · rw [if_neg (by omega)]
    (first | refine brP.mk (fun h2 => ?_) (fun h2 => ?_) | refine gdP.mkt (fun h2 => ?_) (fun h2 => ?_) | refine gdP.mkf (fun h2 => ?_) (fun h2 => ?_) | refine pkP.mk (fun h2 => ?_) (fun h2 => ?_)) <;> (try simp only [Bool.not_true, Bool.not_false, decide_eq_true_eq, decide_eq_false_iff_not, Bool.and_eq_true, Bool.or_eq_true, Bool.not_eq_true', Bool.not_eq_false', Bool.and_eq_false_iff, Bool.or_eq_false_iff, Nat.not_lt, Int.not_lt, Nat.not_le, Int.not_le, Int.ofNat_lt, Int.ofNat_le, Int.ofNat_inj, Bool.xor_false, Bool.false_xor, Bool.true_xor, Bool.xor_true] at h2) <;> (try simp (maxSteps := 2000000) (disch := omega) only [go_sem, seval]) <;> (try repeat ((with_reducible refine And.intro ?_ ?_); focus (first | omega | assumption | exact True.intro | (show anyD _ _ = true; exact rfl) | (simp only [List.length_map, List.length_append, List.length_cons, List.length_nil, List.length_take, List.length_drop]; omega))))
    · rw [if_pos h2]
    · rw [if_neg (by omega)]
/-- Where a number is looked for. -/
theorem part_mem {l : List Iv} (hl : Nrm l) (x : Nat) : ∃ i, i ≤ l.length ∧ (∀ j, (h : j < l.length) → j < i → l[j].hi < x) ∧ (∀ j, (h : j < l.length) → i ≤ j → x ≤ l[j].hi) ∧ (mem l x = true ↔ ∃ h : i < l.length, l[i].lo ≤ x) := by
  have mono : ∀ {n : Nat} {l : List Iv}, NF n l → ∀ i j, (hij : i < j) → (hj : j < l.length) → l[i].hi < l[j].lo := by
    intro n l
    induction l generalizing n with
    | nil => intro _ i j _ hj; simp at hj
    | cons s l ih =>
      intro h i j hij hj
      obtain ⟨j', rfl⟩ : ∃ j', j = j' + 1 := ⟨j - 1, by omega⟩
      cases i with
      | zero =>
        have := NF.lo_ge h.2.2.2 (l[j']'(by simpa using hj)) (List.getElem_mem _)
        simp only [List.getElem_cons_zero, List.getElem_cons_succ]
        omega
      | succ i => exact ih h.2.2.2 i j' (by omega) (by simpa using hj)
  obtain ⟨i, h1, h2, h3⟩ := ex_part (fun j => ∃ h : j < l.length, l[j].hi < x) l.length fun a b hab hb ⟨h4, h5⟩ => by
    refine ⟨by omega, ?_⟩
    rcases Nat.lt_or_eq_of_le hab with h6 | h6
    · have := mono hl a b h6 hb
      have := NF.lo_ge hl l[b] (List.getElem_mem _)
      omega
    · subst h6; exact h5
  have h3' : ∀ j, (h : j < l.length) → i ≤ j → x ≤ l[j].hi := fun j hj hij => by
    have := h3 j hij hj
    exact Nat.le_of_not_lt fun h => this ⟨hj, h⟩
  refine ⟨i, h1, fun j hj hji => (h2 j hji).2, h3', ?_⟩
  rw [mem_iff]
  constructor
  · rintro ⟨s, hs, h4, h5⟩
    obtain ⟨j, hj, rfl⟩ := List.getElem_of_mem hs
    have hij : i ≤ j := Nat.le_of_not_lt fun h => by have := (h2 j h).2; omega
    refine ⟨by omega, ?_⟩
    rcases Nat.lt_or_eq_of_le hij with h6 | h6
    · have := mono hl i j h6 hj
      have := NF.lo_ge hl (l[i]'(by omega)) (List.getElem_mem _)
      omega
    · subst h6; exact h4
  · rintro ⟨h, h4⟩
    exact ⟨l[i], List.getElem_mem _, h4, h3' i h (Nat.le_refl _)⟩
def cmpI (x : Nat) (s : Iv) : Int := if s.hi < x then -1 else if x < s.lo then 1 else 0
theorem rhas_c (l : List Iv) (x : Nat) (hl : Nrm l) (hn : l.length ≤ 1152921504606846976) : Cn Tryz.prog 134 [rg l, .v (.int .u64 x)] (.v (.bool (mem l x))) := by
  obtain ⟨i, h1, h2, h3, h4⟩ := part_mem hl x
  have hF : Cn Tryz.prog 184 [rg l, .v (.int .u64 x)] (.v (.int .i64 (if mem l x then (i : Int) else -1))) := by
    refine cn_go Tryz.func184 [] 2 (by kernel_rfl) rfl (by simp [go_sem, seval]) ?_
    conv => arg 4; cbv
    conv => enter [5, 1]; cbv
    try simp (maxSteps := 2000000) (disch := omega) only [go_sem, seval]
    try repeat ((with_reducible refine And.intro ?_ ?_); focus (first | omega | assumption | exact True.intro | (show anyD _ _ = true; exact rfl) | (simp only [List.length_map, List.length_append, List.length_cons, List.length_nil, List.length_take, List.length_drop]; omega)))
    (first | refine callP.mk (bsfR_c l x 215 (fun k => if h : k < l.length then cmpI x l[k] else 0) i h1 (fun j hj => by rw [dif_pos (show j < l.length by omega)]; unfold cmpI; rw [if_pos (h2 j (by omega) hj)]; decide) (fun j hj hjl => by rw [dif_pos hjl]; unfold cmpI; rw [if_neg (by have := h3 j hjl hj; omega)]; split <;> decide) hn (fun k h => by rw [dif_pos h]; exact rfind1_c l[k] x)) rfl ?_ | refine callQ.mk (bsfR_c l x 215 (fun k => if h : k < l.length then cmpI x l[k] else 0) i h1 (fun j hj => by rw [dif_pos (show j < l.length by omega)]; unfold cmpI; rw [if_pos (h2 j (by omega) hj)]; decide) (fun j hj hjl => by rw [dif_pos hjl]; unfold cmpI; rw [if_neg (by have := h3 j hjl hj; omega)]; split <;> decide) hn (fun k h => by rw [dif_pos h]; exact rfind1_c l[k] x)) rfl ?_ | refine callO.rd (bsfR_c l x 215 (fun k => if h : k < l.length then cmpI x l[k] else 0) i h1 (fun j hj => by rw [dif_pos (show j < l.length by omega)]; unfold cmpI; rw [if_pos (h2 j (by omega) hj)]; decide) (fun j hj hjl => by rw [dif_pos hjl]; unfold cmpI; rw [if_neg (by have := h3 j hjl hj; omega)]; split <;> decide) hn (fun k h => by rw [dif_pos h]; exact rfind1_c l[k] x)) rfl ?_ | refine callO.mk (bsfR_c l x 215 (fun k => if h : k < l.length then cmpI x l[k] else 0) i h1 (fun j hj => by rw [dif_pos (show j < l.length by omega)]; unfold cmpI; rw [if_pos (h2 j (by omega) hj)]; decide) (fun j hj hjl => by rw [dif_pos hjl]; unfold cmpI; rw [if_neg (by have := h3 j hjl hj; omega)]; split <;> decide) hn (fun k h => by rw [dif_pos h]; exact rfind1_c l[k] x)) rfl ?_)
    try simp (maxSteps := 2000000) (disch := omega) only [go_sem, seval]
    try repeat ((with_reducible refine And.intro ?_ ?_); focus (first | omega | assumption | exact True.intro | (show anyD _ _ = true; exact rfl) | (simp only [List.length_map, List.length_append, List.length_cons, List.length_nil, List.length_take, List.length_drop]; omega)))
    have e : (decide (i < l.length) && decide ((if h : i < l.length then cmpI x l[i] else 0) = 0)) = mem l x := by
      rw [Bool.eq_iff_iff, h4]
      simp only [Bool.and_eq_true, decide_eq_true_eq]
      constructor
      · rintro ⟨k1, k2⟩
        refine ⟨k1, ?_⟩
        rw [dif_pos k1] at k2
        unfold cmpI at k2
        split at k2
        · cases k2
        · split at k2
          · cases k2
          · omega
      · rintro ⟨k1, k2⟩
        refine ⟨k1, ?_⟩
        rw [dif_pos k1]
        unfold cmpI
        rw [if_neg (by have := h3 i k1 (Nat.le_refl _); omega), if_neg (by omega)]
    rw [e]
    (first | refine brP.mk (fun h5 => ?_) (fun h5 => ?_) | refine gdP.mkt (fun h5 => ?_) (fun h5 => ?_) | refine gdP.mkf (fun h5 => ?_) (fun h5 => ?_) | refine pkP.mk (fun h5 => ?_) (fun h5 => ?_)) <;> (try simp only [Bool.not_true, Bool.not_false, decide_eq_true_eq, decide_eq_false_iff_not, Bool.and_eq_true, Bool.or_eq_true, Bool.not_eq_true', Bool.not_eq_false', Bool.and_eq_false_iff, Bool.or_eq_false_iff, Nat.not_lt, Int.not_lt, Nat.not_le, Int.not_le, Int.ofNat_lt, Int.ofNat_le, Int.ofNat_inj, Bool.xor_false, Bool.false_xor, Bool.true_xor, Bool.xor_true] at h5) <;> (try simp (maxSteps := 2000000) (disch := omega) only [go_sem, seval]) <;> (try repeat ((with_reducible refine And.intro ?_ ?_); focus (first | omega | assumption | exact True.intro | (show anyD _ _ = true; exact rfl) | (simp only [List.length_map, List.length_append, List.length_cons, List.length_nil, List.length_take, List.length_drop]; omega))))
    · rw [h5]; rfl
    · rw [h5]; rfl
  refine cn_go Tryz.func134 [] 2 (by kernel_rfl) rfl (by simp [go_sem, seval]) ?_
  conv => arg 4; cbv
  conv => enter [5, 1]; cbv
  try simp (maxSteps := 2000000) (disch := omega) only [go_sem, seval]
  try repeat ((with_reducible refine And.intro ?_ ?_); focus (first | omega | assumption | exact True.intro | (show anyD _ _ = true; exact rfl) | (simp only [List.length_map, List.length_append, List.length_cons, List.length_nil, List.length_take, List.length_drop]; omega)))
  (first | refine callP.mk (hF) rfl ?_ | refine callQ.mk (hF) rfl ?_ | refine callO.rd (hF) rfl ?_ | refine callO.mk (hF) rfl ?_)
  try simp (maxSteps := 2000000) (disch := omega) only [go_sem, seval]
  try repeat ((with_reducible refine And.intro ?_ ?_); focus (first | omega | assumption | exact True.intro | (show anyD _ _ = true; exact rfl) | (simp only [List.length_map, List.length_append, List.length_cons, List.length_nil, List.length_take, List.length_drop]; omega)))
  cases mem l x <;> simp
theorem ehas_c (e : En) (c : Nat) (h : RightE e) (hn : e.holes.length ≤ 1152921504606846976) : Cn Tryz.prog 101 [ep e, .v (.int .u64 c)] (.v (.bool (decide (c ≤ e.max) && !mem e.holes c))) := by
  refine cn_go Tryz.func101 [] 2 (by kernel_rfl) rfl (by simp [go_sem, seval]) ?_
  conv => arg 4; cbv
  conv => enter [5, 1]; cbv
  try simp (maxSteps := 2000000) (disch := omega) only [go_sem, seval]
  try repeat ((with_reducible refine And.intro ?_ ?_); focus (first | omega | assumption | exact True.intro | (show anyD _ _ = true; exact rfl) | (simp only [List.length_map, List.length_append, List.length_cons, List.length_nil, List.length_take, List.length_drop]; omega)))
  (first | refine brP.mk (fun h1 => ?_) (fun h1 => ?_) | refine gdP.mkt (fun h1 => ?_) (fun h1 => ?_) | refine gdP.mkf (fun h1 => ?_) (fun h1 => ?_) | refine pkP.mk (fun h1 => ?_) (fun h1 => ?_)) <;> (try simp only [Bool.not_true, Bool.not_false, decide_eq_true_eq, decide_eq_false_iff_not, Bool.and_eq_true, Bool.or_eq_true, Bool.not_eq_true', Bool.not_eq_false', Bool.and_eq_false_iff, Bool.or_eq_false_iff, Nat.not_lt, Int.not_lt, Nat.not_le, Int.not_le, Int.ofNat_lt, Int.ofNat_le, Int.ofNat_inj, Bool.xor_false, Bool.false_xor, Bool.true_xor, Bool.xor_true] at h1) <;> (try simp (maxSteps := 2000000) (disch := omega) only [go_sem, seval]) <;> (try repeat ((with_reducible refine And.intro ?_ ?_); focus (first | omega | assumption | exact True.intro | (show anyD _ _ = true; exact rfl) | (simp only [List.length_map, List.length_append, List.length_cons, List.length_nil, List.length_take, List.length_drop]; omega))))
  · (first | refine callP.mk (rhas_c e.holes c h.1 hn) rfl ?_ | refine callQ.mk (rhas_c e.holes c h.1 hn) rfl ?_ | refine callO.rd (rhas_c e.holes c h.1 hn) rfl ?_ | refine callO.mk (rhas_c e.holes c h.1 hn) rfl ?_)
    try simp (maxSteps := 2000000) (disch := omega) only [go_sem, seval]
    try repeat ((with_reducible refine And.intro ?_ ?_); focus (first | omega | assumption | exact True.intro | (show anyD _ _ = true; exact rfl) | (simp only [List.length_map, List.length_append, List.length_cons, List.length_nil, List.length_take, List.length_drop]; omega)))
    simp [h1]
  · have h1' : ¬ c ≤ e.max := by omega
    simp [h1']
end Go.Proofs.YtjmhmeadcphfmaaGreatDoor
/- The laws of chapter 8: they return true. -/
namespace Go.Proofs.YtjmhmeadcphfmaaGreatDoor
set_option linter.unusedVariables false
set_option linter.unusedSimpArgs false
open Go.RowKit
set_option maxRecDepth 100000
/-- A list of entries. -/
def vp (v : List En) : PV := .sl (v.map ec) .sh
attribute [go_sem] vp
def BdE (e : En) : Prop := (∀ s ∈ e.holes, s.lo < M64 ∧ s.hi < M64) ∧ e.max < M64 ∧ e.rep < M64
def ea : En := ⟨1, 2, []⟩
def eb : En := ⟨1, 5, [⟨3, 4⟩]⟩
def ed : En := ⟨1, 5, []⟩
section
variable (a b : En) (ha : BdE a) (hb : BdE b)
include ha hb
end
end Go.Proofs.YtjmhmeadcphfmaaGreatDoor
/- From the data of an argument of type Entry to its pure value. No condition. -/
namespace Go.Proofs.YtjmhmeadcphfmaaGreatDoor
set_option linter.unusedVariables false
set_option linter.unusedSimpArgs false
open Go.ChangeShapes Go.WideShapes Go.ChangeAt Go.RowKit Go.Deep
set_option maxRecDepth 100000
theorem agg3_dat {D : Nat → Nat → Prop} {w : World} {x y z : Value} {p q r : PV} (hx : x.oneCell' = true) (hy : y.oneCell' = true) (hz : z.oneCell' = true) (h1 : Dat D w x p) (h2 : Dat D w y q) (h3 : Dat D w z r) : Dat D w (.agg #[x, y, z]) (.agg [p, q, r]) := by
  refine .agg _ _ rfl (fun i hi => ?_) fun i p hp => ?_
  · match i, hi with
    | 0, _ => exact hx
    | 1, _ => exact hy
    | 2, _ => exact hz
  · match i, hp with
    | 0, hp => cases hp; exact h1
    | 1, hp => cases hp; exact h2
    | 2, hp => cases hp; exact h3
section
variable {H : Type} {enc : TypeId × Value → H} {w : World} {base : Nat} {spare : Nat → Bool} {held : Bool}
end
end Go.Proofs.YtjmhmeadcphfmaaGreatDoor
/- A vector's reading in memory. No condition. -/
namespace Go.Proofs.YtjmhmeadcphfmaaGreatDoor
set_option linter.unusedVariables false
set_option linter.unusedSimpArgs false
open Go.RowKit
set_option maxRecDepth 100000
end Go.Proofs.YtjmhmeadcphfmaaGreatDoor
/- The contracts of span.Check and Relate, fault.New, ranges.Check. -/
namespace Go.Proofs.YtjmhmeadcphfmaaGreatDoor
set_option linter.unusedVariables false
set_option linter.unusedSimpArgs false
open Go.RowKit
set_option maxRecDepth 100000
/-- An error as fault.New makes it. -/
def errV (c : Nat) (k : Int) : PV := if c = 0 then .v .nilIface else .ifc 112 (.agg [.v (.int .i64 c), .v (.int .i64 k)])
def errno (c : Nat) : PV := .ifc 45 (.v (.int .i64 c))
theorem errV_sub (c : Nat) (k : Int) : SubP 0 (errV c k) (errV c k) := .eq _ (by unfold errV; split <;> rfl)
theorem fnew_c (c : Nat) (k : Int) : Cn Tryz.prog 86 [.v (.int .i64 c), .v (.int .i64 k)] (errV c k) := by
  refine cn_go Tryz.func86 [] 2 (by kernel_rfl) rfl (by simp [go_sem, seval]) ?_
  conv => arg 4; cbv
  conv => enter [5, 1]; cbv
  try simp (maxSteps := 2000000) (disch := omega) only [go_sem, seval]
  try repeat ((with_reducible refine And.intro ?_ ?_); focus (first | omega | assumption | exact True.intro | (show anyD _ _ = true; exact rfl) | (simp only [List.length_map, List.length_append, List.length_cons, List.length_nil, List.length_take, List.length_drop]; omega)))
  unfold errV
  (first | refine brP.mk (fun h => ?_) (fun h => ?_) | refine gdP.mkt (fun h => ?_) (fun h => ?_) | refine gdP.mkf (fun h => ?_) (fun h => ?_) | refine pkP.mk (fun h => ?_) (fun h => ?_)) <;> (try simp only [Bool.not_true, Bool.not_false, decide_eq_true_eq, decide_eq_false_iff_not, Bool.and_eq_true, Bool.or_eq_true, Bool.not_eq_true', Bool.not_eq_false', Bool.and_eq_false_iff, Bool.or_eq_false_iff, Nat.not_lt, Int.not_lt, Nat.not_le, Int.not_le, Int.ofNat_lt, Int.ofNat_le, Int.ofNat_inj, Bool.xor_false, Bool.false_xor, Bool.true_xor, Bool.xor_true] at h) <;> (try simp (maxSteps := 2000000) (disch := omega) only [go_sem, seval]) <;> (try repeat ((with_reducible refine And.intro ?_ ?_); focus (first | omega | assumption | exact True.intro | (show anyD _ _ = true; exact rfl) | (simp only [List.length_map, List.length_append, List.length_cons, List.length_nil, List.length_take, List.length_drop]; omega))))
  · rw [if_pos (by omega)]
    try simp (maxSteps := 2000000) (disch := omega) only [go_sem, seval]
    try repeat ((with_reducible refine And.intro ?_ ?_); focus (first | omega | assumption | exact True.intro | (show anyD _ _ = true; exact rfl) | (simp only [List.length_map, List.length_append, List.length_cons, List.length_nil, List.length_take, List.length_drop]; omega)))
  · rw [if_neg (by omega)]
    try simp (maxSteps := 2000000) (disch := omega) only [go_sem, seval]
    try repeat ((with_reducible refine And.intro ?_ ?_); focus (first | omega | assumption | exact True.intro | (show anyD _ _ = true; exact rfl) | (simp only [List.length_map, List.length_append, List.length_cons, List.length_nil, List.length_take, List.length_drop]; omega)))
theorem between_c (a b : Nat) (hb : b < M64) : Cn Tryz.prog 189 [.v (.int .u64 a), .v (.int .u64 b)] (.tup [.v (.int .u64 (b - a - 1 : Nat)), .v (.bool (decide (a < b)))]) := by
  have hM := M64_val
  refine cn_go Tryz.func189 [] 2 (by kernel_rfl) rfl (by simp [go_sem, seval]) ?_
  conv => arg 4; cbv
  conv => enter [5, 1]; cbv
  try simp (maxSteps := 2000000) (disch := omega) only [go_sem, seval]
  try repeat ((with_reducible refine And.intro ?_ ?_); focus (first | omega | assumption | exact True.intro | (show anyD _ _ = true; exact rfl) | (simp only [List.length_map, List.length_append, List.length_cons, List.length_nil, List.length_take, List.length_drop]; omega)))
  (first | refine brP.mk (fun h => ?_) (fun h => ?_) | refine gdP.mkt (fun h => ?_) (fun h => ?_) | refine gdP.mkf (fun h => ?_) (fun h => ?_) | refine pkP.mk (fun h => ?_) (fun h => ?_)) <;> (try simp only [Bool.not_true, Bool.not_false, decide_eq_true_eq, decide_eq_false_iff_not, Bool.and_eq_true, Bool.or_eq_true, Bool.not_eq_true', Bool.not_eq_false', Bool.and_eq_false_iff, Bool.or_eq_false_iff, Nat.not_lt, Int.not_lt, Nat.not_le, Int.not_le, Int.ofNat_lt, Int.ofNat_le, Int.ofNat_inj, Bool.xor_false, Bool.false_xor, Bool.true_xor, Bool.xor_true] at h) <;> (try simp (maxSteps := 2000000) (disch := omega) only [go_sem, seval]) <;> (try repeat ((with_reducible refine And.intro ?_ ?_); focus (first | omega | assumption | exact True.intro | (show anyD _ _ = true; exact rfl) | (simp only [List.length_map, List.length_append, List.length_cons, List.length_nil, List.length_take, List.length_drop]; omega))))
  · have h1 : ¬ a < b := by omega
    have h2 : b - a - 1 = 0 := by omega
    simp [h1, h2]
  · simp [h]
theorem scheck_c (s : Iv) : Cn Tryz.prog 141 [ivp s] (if s.lo ≤ s.hi then .v .nilIface else errno 2) := by
  refine cn_go Tryz.func141 [] 1 (by kernel_rfl) rfl (by simp [go_sem, seval]) ?_
  conv => arg 4; cbv
  conv => enter [5, 1]; cbv
  try simp (maxSteps := 2000000) (disch := omega) only [go_sem, seval]
  try repeat ((with_reducible refine And.intro ?_ ?_); focus (first | omega | assumption | exact True.intro | (show anyD _ _ = true; exact rfl) | (simp only [List.length_map, List.length_append, List.length_cons, List.length_nil, List.length_take, List.length_drop]; omega)))
  (first | refine brP.mk (fun h => ?_) (fun h => ?_) | refine gdP.mkt (fun h => ?_) (fun h => ?_) | refine gdP.mkf (fun h => ?_) (fun h => ?_) | refine pkP.mk (fun h => ?_) (fun h => ?_)) <;> (try simp only [Bool.not_true, Bool.not_false, decide_eq_true_eq, decide_eq_false_iff_not, Bool.and_eq_true, Bool.or_eq_true, Bool.not_eq_true', Bool.not_eq_false', Bool.and_eq_false_iff, Bool.or_eq_false_iff, Nat.not_lt, Int.not_lt, Nat.not_le, Int.not_le, Int.ofNat_lt, Int.ofNat_le, Int.ofNat_inj, Bool.xor_false, Bool.false_xor, Bool.true_xor, Bool.xor_true] at h) <;> (try simp (maxSteps := 2000000) (disch := omega) only [go_sem, seval]) <;> (try repeat ((with_reducible refine And.intro ?_ ?_); focus (first | omega | assumption | exact True.intro | (show anyD _ _ = true; exact rfl) | (simp only [List.length_map, List.length_append, List.length_cons, List.length_nil, List.length_take, List.length_drop]; omega))))
  · rw [if_neg (by omega)]
    unfold errno
    try simp (maxSteps := 2000000) (disch := omega) only [go_sem, seval]
    try repeat ((with_reducible refine And.intro ?_ ?_); focus (first | omega | assumption | exact True.intro | (show anyD _ _ = true; exact rfl) | (simp only [List.length_map, List.length_append, List.length_cons, List.length_nil, List.length_take, List.length_drop]; omega)))
  · rw [if_pos h]
    try simp (maxSteps := 2000000) (disch := omega) only [go_sem, seval]
    try repeat ((with_reducible refine And.intro ?_ ?_); focus (first | omega | assumption | exact True.intro | (show anyD _ _ = true; exact rfl) | (simp only [List.length_map, List.length_append, List.length_cons, List.length_nil, List.length_take, List.length_drop]; omega)))
theorem srel_c (s t : Iv) (h1 : s.lo ≤ s.hi) (h2 : t.lo ≤ t.hi) (h3 : s.hi < M64) (h4 : t.hi < M64) : Cn Tryz.prog 142 [ivp s, ivp t] (.v (.int .i64 (relate s t : Nat))) := by
  have hM := M64_val
  refine cn_go Tryz.func142 [] 2 (by kernel_rfl) rfl (by simp [go_sem, seval]) ?_
  conv => arg 4; cbv
  conv => enter [5, 1]; cbv
  try simp (maxSteps := 2000000) (disch := omega) only [go_sem, seval]
  try repeat ((with_reducible refine And.intro ?_ ?_); focus (first | omega | assumption | exact True.intro | (show anyD _ _ = true; exact rfl) | (simp only [List.length_map, List.length_append, List.length_cons, List.length_nil, List.length_take, List.length_drop]; omega)))
  (first | refine callP.mk (between_c s.hi t.lo (by omega)) rfl ?_ | refine callQ.mk (between_c s.hi t.lo (by omega)) rfl ?_ | refine callO.rd (between_c s.hi t.lo (by omega)) rfl ?_ | refine callO.mk (between_c s.hi t.lo (by omega)) rfl ?_)
  try simp (maxSteps := 2000000) (disch := omega) only [go_sem, seval]
  try repeat ((with_reducible refine And.intro ?_ ?_); focus (first | omega | assumption | exact True.intro | (show anyD _ _ = true; exact rfl) | (simp only [List.length_map, List.length_append, List.length_cons, List.length_nil, List.length_take, List.length_drop]; omega)))
  unfold relate
  by_cases k1 : s.hi < t.lo
  · have k2 : ¬ t.hi < s.lo := by omega
    by_cases k3 : s.hi + 1 = t.lo
    · have k4 : t.lo - s.hi - 1 = 0 := by omega
      rw [if_pos k1, if_pos k3, k4, decide_eq_true k1]
      try simp (maxSteps := 2000000) (disch := omega) only [go_sem, seval]
      try repeat ((with_reducible refine And.intro ?_ ?_); focus (first | omega | assumption | exact True.intro | (show anyD _ _ = true; exact rfl) | (simp only [List.length_map, List.length_append, List.length_cons, List.length_nil, List.length_take, List.length_drop]; omega)))
      (first | refine callP.mk (between_c t.hi s.lo (by omega)) rfl ?_ | refine callQ.mk (between_c t.hi s.lo (by omega)) rfl ?_ | refine callO.rd (between_c t.hi s.lo (by omega)) rfl ?_ | refine callO.mk (between_c t.hi s.lo (by omega)) rfl ?_)
      try simp (maxSteps := 2000000) (disch := omega) only [go_sem, seval]
      try repeat ((with_reducible refine And.intro ?_ ?_); focus (first | omega | assumption | exact True.intro | (show anyD _ _ = true; exact rfl) | (simp only [List.length_map, List.length_append, List.length_cons, List.length_nil, List.length_take, List.length_drop]; omega)))
      rw [decide_eq_false k2]
      try simp (maxSteps := 2000000) (disch := omega) only [go_sem, seval]
      try repeat ((with_reducible refine And.intro ?_ ?_); focus (first | omega | assumption | exact True.intro | (show anyD _ _ = true; exact rfl) | (simp only [List.length_map, List.length_append, List.length_cons, List.length_nil, List.length_take, List.length_drop]; omega)))
    · have k4 : 0 < t.lo - s.hi - 1 := by omega
      rw [if_pos k1, if_neg k3, decide_eq_true k1]
      try simp (maxSteps := 2000000) (disch := omega) only [go_sem, seval]
      try repeat ((with_reducible refine And.intro ?_ ?_); focus (first | omega | assumption | exact True.intro | (show anyD _ _ = true; exact rfl) | (simp only [List.length_map, List.length_append, List.length_cons, List.length_nil, List.length_take, List.length_drop]; omega)))
      (first | refine brP.mk (fun k5 => ?_) (fun k5 => ?_) | refine gdP.mkt (fun k5 => ?_) (fun k5 => ?_) | refine gdP.mkf (fun k5 => ?_) (fun k5 => ?_) | refine pkP.mk (fun k5 => ?_) (fun k5 => ?_)) <;> (try simp only [Bool.not_true, Bool.not_false, decide_eq_true_eq, decide_eq_false_iff_not, Bool.and_eq_true, Bool.or_eq_true, Bool.not_eq_true', Bool.not_eq_false', Bool.and_eq_false_iff, Bool.or_eq_false_iff, Nat.not_lt, Int.not_lt, Nat.not_le, Int.not_le, Int.ofNat_lt, Int.ofNat_le, Int.ofNat_inj, Bool.xor_false, Bool.false_xor, Bool.true_xor, Bool.xor_true] at k5) <;> (try simp (maxSteps := 2000000) (disch := omega) only [go_sem, seval]) <;> (try repeat ((with_reducible refine And.intro ?_ ?_); focus (first | omega | assumption | exact True.intro | (show anyD _ _ = true; exact rfl) | (simp only [List.length_map, List.length_append, List.length_cons, List.length_nil, List.length_take, List.length_drop]; omega))))
      · (first | refine callP.mk (between_c t.hi s.lo (by omega)) rfl ?_ | refine callQ.mk (between_c t.hi s.lo (by omega)) rfl ?_ | refine callO.rd (between_c t.hi s.lo (by omega)) rfl ?_ | refine callO.mk (between_c t.hi s.lo (by omega)) rfl ?_)
        try simp (maxSteps := 2000000) (disch := omega) only [go_sem, seval]
        try repeat ((with_reducible refine And.intro ?_ ?_); focus (first | omega | assumption | exact True.intro | (show anyD _ _ = true; exact rfl) | (simp only [List.length_map, List.length_append, List.length_cons, List.length_nil, List.length_take, List.length_drop]; omega)))
        rw [decide_eq_false k2]
        try simp (maxSteps := 2000000) (disch := omega) only [go_sem, seval]
        try repeat ((with_reducible refine And.intro ?_ ?_); focus (first | omega | assumption | exact True.intro | (show anyD _ _ = true; exact rfl) | (simp only [List.length_map, List.length_append, List.length_cons, List.length_nil, List.length_take, List.length_drop]; omega)))
      · exact absurd k4 (by omega)
  · rw [if_neg k1, decide_eq_false k1]
    try simp (maxSteps := 2000000) (disch := omega) only [go_sem, seval]
    try repeat ((with_reducible refine And.intro ?_ ?_); focus (first | omega | assumption | exact True.intro | (show anyD _ _ = true; exact rfl) | (simp only [List.length_map, List.length_append, List.length_cons, List.length_nil, List.length_take, List.length_drop]; omega)))
    (first | refine callP.mk (between_c t.hi s.lo (by omega)) rfl ?_ | refine callQ.mk (between_c t.hi s.lo (by omega)) rfl ?_ | refine callO.rd (between_c t.hi s.lo (by omega)) rfl ?_ | refine callO.mk (between_c t.hi s.lo (by omega)) rfl ?_)
    try simp (maxSteps := 2000000) (disch := omega) only [go_sem, seval]
    try repeat ((with_reducible refine And.intro ?_ ?_); focus (first | omega | assumption | exact True.intro | (show anyD _ _ = true; exact rfl) | (simp only [List.length_map, List.length_append, List.length_cons, List.length_nil, List.length_take, List.length_drop]; omega)))
    by_cases k2 : t.hi < s.lo
    · by_cases k3 : t.hi + 1 = s.lo
      · have k4 : s.lo - t.hi - 1 = 0 := by omega
        rw [if_pos k2, if_pos k3, k4, decide_eq_true k2]
        try simp (maxSteps := 2000000) (disch := omega) only [go_sem, seval]
        try repeat ((with_reducible refine And.intro ?_ ?_); focus (first | omega | assumption | exact True.intro | (show anyD _ _ = true; exact rfl) | (simp only [List.length_map, List.length_append, List.length_cons, List.length_nil, List.length_take, List.length_drop]; omega)))
      · have k4 : 0 < s.lo - t.hi - 1 := by omega
        rw [if_pos k2, if_neg k3, decide_eq_true k2]
        try simp (maxSteps := 2000000) (disch := omega) only [go_sem, seval]
        try repeat ((with_reducible refine And.intro ?_ ?_); focus (first | omega | assumption | exact True.intro | (show anyD _ _ = true; exact rfl) | (simp only [List.length_map, List.length_append, List.length_cons, List.length_nil, List.length_take, List.length_drop]; omega)))
        (first | refine brP.mk (fun k5 => ?_) (fun k5 => ?_) | refine gdP.mkt (fun k5 => ?_) (fun k5 => ?_) | refine gdP.mkf (fun k5 => ?_) (fun k5 => ?_) | refine pkP.mk (fun k5 => ?_) (fun k5 => ?_)) <;> (try simp only [Bool.not_true, Bool.not_false, decide_eq_true_eq, decide_eq_false_iff_not, Bool.and_eq_true, Bool.or_eq_true, Bool.not_eq_true', Bool.not_eq_false', Bool.and_eq_false_iff, Bool.or_eq_false_iff, Nat.not_lt, Int.not_lt, Nat.not_le, Int.not_le, Int.ofNat_lt, Int.ofNat_le, Int.ofNat_inj, Bool.xor_false, Bool.false_xor, Bool.true_xor, Bool.xor_true] at k5) <;> (try simp (maxSteps := 2000000) (disch := omega) only [go_sem, seval]) <;> (try repeat ((with_reducible refine And.intro ?_ ?_); focus (first | omega | assumption | exact True.intro | (show anyD _ _ = true; exact rfl) | (simp only [List.length_map, List.length_append, List.length_cons, List.length_nil, List.length_take, List.length_drop]; omega))))
        exact absurd k4 (by omega)
    · rw [if_neg k2, decide_eq_false k2]
      try simp (maxSteps := 2000000) (disch := omega) only [go_sem, seval]
      try repeat ((with_reducible refine And.intro ?_ ?_); focus (first | omega | assumption | exact True.intro | (show anyD _ _ = true; exact rfl) | (simp only [List.length_map, List.length_append, List.length_cons, List.length_nil, List.length_take, List.length_drop]; omega)))
theorem rcheck_c (l : List Iv) (hb : ∀ s ∈ l, s.lo < M64 ∧ s.hi < M64) (hl : l.length ≤ 1152921504606846976) (hC : (chk l).1 = 0 ∨ Cn Tryz.prog 35 [errno 2] (.v (.int .i64 2))) : Cn Tryz.prog 85 [rg l] (errV (chk l).1 (chk l).2) := by
  refine cn_go Tryz.func85 [] 1 (by kernel_rfl) rfl (by simp [go_sem, seval]) ?_
  conv => arg 4; cbv
  conv => enter [5, 1]; cbv
  try simp (maxSteps := 2000000) (disch := omega) only [go_sem, seval]
  try repeat ((with_reducible refine And.intro ?_ ?_); focus (first | omega | assumption | exact True.intro | (show anyD _ _ = true; exact rfl) | (simp only [List.length_map, List.length_append, List.length_cons, List.length_nil, List.length_take, List.length_drop]; omega)))
  refine pLoop.go (fun k => k ≤ l.length ∧ chk l = chkL (prevC l k) (l.drop k) k ∧ ∀ j (h : j < l.length), j < k → l[j].lo ≤ l[j].hi) (fun k => [(8, .v (.int .i64 (k : Nat)))]) (fun _ => []) (fun k => l.length - k) 0 [8] ?_ ?_ ?_
  · exact ⟨Nat.zero_le _, rfl, fun j _ h => absurd h (by omega)⟩
  · try simp (maxSteps := 2000000) (disch := omega) only [go_sem, seval]
    try repeat ((with_reducible refine And.intro ?_ ?_); focus (first | omega | assumption | exact True.intro | (show anyD _ _ = true; exact rfl) | (simp only [List.length_map, List.length_append, List.length_cons, List.length_nil, List.length_take, List.length_drop]; omega)))
  · rintro k ⟨hk, hm, hv⟩
    try simp (maxSteps := 2000000) (disch := omega) only [go_sem, seval]
    try repeat ((with_reducible refine And.intro ?_ ?_); focus (first | omega | assumption | exact True.intro | (show anyD _ _ = true; exact rfl) | (simp only [List.length_map, List.length_append, List.length_cons, List.length_nil, List.length_take, List.length_drop]; omega)))
    (first | refine brP.mk (fun h => ?_) (fun h => ?_) | refine gdP.mkt (fun h => ?_) (fun h => ?_) | refine gdP.mkf (fun h => ?_) (fun h => ?_) | refine pkP.mk (fun h => ?_) (fun h => ?_)) <;> (try simp only [Bool.not_true, Bool.not_false, decide_eq_true_eq, decide_eq_false_iff_not, Bool.and_eq_true, Bool.or_eq_true, Bool.not_eq_true', Bool.not_eq_false', Bool.and_eq_false_iff, Bool.or_eq_false_iff, Nat.not_lt, Int.not_lt, Nat.not_le, Int.not_le, Int.ofNat_lt, Int.ofNat_le, Int.ofNat_inj, Bool.xor_false, Bool.false_xor, Bool.true_xor, Bool.xor_true] at h) <;> (try simp (maxSteps := 2000000) (disch := omega) only [go_sem, seval]) <;> (try repeat ((with_reducible refine And.intro ?_ ?_); focus (first | omega | assumption | exact True.intro | (show anyD _ _ = true; exact rfl) | (simp only [List.length_map, List.length_append, List.length_cons, List.length_nil, List.length_take, List.length_drop]; omega))))
    · rw [chkL_step h] at hm
      have hbk := hb _ (List.getElem_mem h)
      (first | refine callP.mk (scheck_c l[k]) rfl ?_ | refine callQ.mk (scheck_c l[k]) rfl ?_ | refine callO.rd (scheck_c l[k]) rfl ?_ | refine callO.mk (scheck_c l[k]) rfl ?_)
      by_cases h1 : l[k].lo ≤ l[k].hi
      · rw [if_pos h1] at hm ⊢
        have hs : prevC l (k + 1) = some l[k] := by unfold prevC; rw [if_neg (by omega)]; exact List.getElem?_eq_getElem h
        have hv' : ∀ j (hj : j < l.length), j < k + 1 → l[j].lo ≤ l[j].hi := fun j hj hjk => by
          rcases Nat.lt_or_ge j k with h6 | h6
          · exact hv j hj h6
          · obtain rfl : j = k := by omega
            exact h1
        try simp (maxSteps := 2000000) (disch := omega) only [go_sem, seval]
        try repeat ((with_reducible refine And.intro ?_ ?_); focus (first | omega | assumption | exact True.intro | (show anyD _ _ = true; exact rfl) | (simp only [List.length_map, List.length_append, List.length_cons, List.length_nil, List.length_take, List.length_drop]; omega)))
        (first | refine brP.mk (fun h2 => ?_) (fun h2 => ?_) | refine gdP.mkt (fun h2 => ?_) (fun h2 => ?_) | refine gdP.mkf (fun h2 => ?_) (fun h2 => ?_) | refine pkP.mk (fun h2 => ?_) (fun h2 => ?_)) <;> (try simp only [Bool.not_true, Bool.not_false, decide_eq_true_eq, decide_eq_false_iff_not, Bool.and_eq_true, Bool.or_eq_true, Bool.not_eq_true', Bool.not_eq_false', Bool.and_eq_false_iff, Bool.or_eq_false_iff, Nat.not_lt, Int.not_lt, Nat.not_le, Int.not_le, Int.ofNat_lt, Int.ofNat_le, Int.ofNat_inj, Bool.xor_false, Bool.false_xor, Bool.true_xor, Bool.xor_true] at h2) <;> (try simp (maxSteps := 2000000) (disch := omega) only [go_sem, seval]) <;> (try repeat ((with_reducible refine And.intro ?_ ?_); focus (first | omega | assumption | exact True.intro | (show anyD _ _ = true; exact rfl) | (simp only [List.length_map, List.length_append, List.length_cons, List.length_nil, List.length_take, List.length_drop]; omega))))
        · have hp : prevC l k = some l[k - 1] := by unfold prevC; rw [if_neg (by omega), List.getElem?_eq_getElem]
          rw [hp] at hm
          have hbp := hb _ (List.getElem_mem (show k - 1 < l.length by omega))
          (first | refine callP.mk (srel_c l[k - 1] l[k] (hv (k - 1) (by omega) (by omega)) h1 hbp.2 hbk.2) rfl ?_ | refine callQ.mk (srel_c l[k - 1] l[k] (hv (k - 1) (by omega) (by omega)) h1 hbp.2 hbk.2) rfl ?_ | refine callO.rd (srel_c l[k - 1] l[k] (hv (k - 1) (by omega) (by omega)) h1 hbp.2 hbk.2) rfl ?_ | refine callO.mk (srel_c l[k - 1] l[k] (hv (k - 1) (by omega) (by omega)) h1 hbp.2 hbk.2) rfl ?_)
          try simp (maxSteps := 2000000) (disch := omega) only [go_sem, seval]
          try repeat ((with_reducible refine And.intro ?_ ?_); focus (first | omega | assumption | exact True.intro | (show anyD _ _ = true; exact rfl) | (simp only [List.length_map, List.length_append, List.length_cons, List.length_nil, List.length_take, List.length_drop]; omega)))
          (first | refine brP.mk (fun h3 => ?_) (fun h3 => ?_) | refine gdP.mkt (fun h3 => ?_) (fun h3 => ?_) | refine gdP.mkf (fun h3 => ?_) (fun h3 => ?_) | refine pkP.mk (fun h3 => ?_) (fun h3 => ?_)) <;> (try simp only [Bool.not_true, Bool.not_false, decide_eq_true_eq, decide_eq_false_iff_not, Bool.and_eq_true, Bool.or_eq_true, Bool.not_eq_true', Bool.not_eq_false', Bool.and_eq_false_iff, Bool.or_eq_false_iff, Nat.not_lt, Int.not_lt, Nat.not_le, Int.not_le, Int.ofNat_lt, Int.ofNat_le, Int.ofNat_inj, Bool.xor_false, Bool.false_xor, Bool.true_xor, Bool.xor_true] at h3) <;> (try simp (maxSteps := 2000000) (disch := omega) only [go_sem, seval]) <;> (try repeat ((with_reducible refine And.intro ?_ ?_); focus (first | omega | assumption | exact True.intro | (show anyD _ _ = true; exact rfl) | (simp only [List.length_map, List.length_append, List.length_cons, List.length_nil, List.length_take, List.length_drop]; omega))))
          · rw [if_neg (by omega)] at hm
            rw [hm]
            (first | refine callP.mk (fnew_c 3 (k : Nat)) rfl ?_ | refine callQ.mk (fnew_c 3 (k : Nat)) rfl ?_ | refine callO.rd (fnew_c 3 (k : Nat)) rfl ?_ | refine callO.mk (fnew_c 3 (k : Nat)) rfl ?_)
            try simp (maxSteps := 2000000) (disch := omega) only [go_sem, seval]
            try repeat ((with_reducible refine And.intro ?_ ?_); focus (first | omega | assumption | exact True.intro | (show anyD _ _ = true; exact rfl) | (simp only [List.length_map, List.length_append, List.length_cons, List.length_nil, List.length_take, List.length_drop]; omega)))
            exact errV_sub _ _
          · rw [if_pos (by omega)] at hm
            exact ⟨k + 1, ⟨h, by rw [hs]; exact hm, hv'⟩, by omega, rfl⟩
        · have hp : prevC l k = none := by unfold prevC; rw [if_pos (by omega)]
          rw [hp] at hm
          exact ⟨k + 1, ⟨h, by rw [hs]; exact hm, hv'⟩, by omega, rfl⟩
      · rw [if_neg h1] at hm ⊢
        unfold errno at hC ⊢
        rcases hC with hC | hC
        · rw [hm] at hC
          cases hC
        · try simp (maxSteps := 2000000) (disch := omega) only [go_sem, seval]
          try repeat ((with_reducible refine And.intro ?_ ?_); focus (first | omega | assumption | exact True.intro | (show anyD _ _ = true; exact rfl) | (simp only [List.length_map, List.length_append, List.length_cons, List.length_nil, List.length_take, List.length_drop]; omega)))
          (first | refine callP.mk (hC) rfl ?_ | refine callQ.mk (hC) rfl ?_ | refine callO.rd (hC) rfl ?_ | refine callO.mk (hC) rfl ?_)
          try simp (maxSteps := 2000000) (disch := omega) only [go_sem, seval]
          try repeat ((with_reducible refine And.intro ?_ ?_); focus (first | omega | assumption | exact True.intro | (show anyD _ _ = true; exact rfl) | (simp only [List.length_map, List.length_append, List.length_cons, List.length_nil, List.length_take, List.length_drop]; omega)))
          rw [hm]
          (first | refine callP.mk (fnew_c 2 (k : Nat)) rfl ?_ | refine callQ.mk (fnew_c 2 (k : Nat)) rfl ?_ | refine callO.rd (fnew_c 2 (k : Nat)) rfl ?_ | refine callO.mk (fnew_c 2 (k : Nat)) rfl ?_)
          try simp (maxSteps := 2000000) (disch := omega) only [go_sem, seval]
          try repeat ((with_reducible refine And.intro ?_ ?_); focus (first | omega | assumption | exact True.intro | (show anyD _ _ = true; exact rfl) | (simp only [List.length_map, List.length_append, List.length_cons, List.length_nil, List.length_take, List.length_drop]; omega)))
          exact errV_sub _ _
    · rw [List.drop_of_length_le h] at hm
      rw [hm]
      exact .eq _ rfl
end Go.Proofs.YtjmhmeadcphfmaaGreatDoor
/- The contract of lattice.pair: a map from each replica to the counters that either vector knows. -/
namespace Go.Proofs.YtjmhmeadcphfmaaGreatDoor
set_option linter.unusedVariables false
set_option linter.unusedSimpArgs false
open Go.RowKit Go.Maps
set_option maxRecDepth 100000
abbrev DV := DataW Value
def rV (v : Value) : Option (DV × List MemPlace) := some (.held v, [])
def zP : Value := .agg #[.slice none 0 0, .slice none 0 0]
def kR (r : Nat) : Lit := .int .u64 (r : Nat)
theorem law_u : Keyed Tryz.prog 24 := int_keyed Tryz.underlying24
theorem zeroPair (w : World) : (zeroValue 232).run Tryz.prog w = .ok zP w := by kernel_rfl
theorem key_r {r : Nat} (h : r < M64) : keyOf Tryz.prog 24 (.int .u64 (r : Nat)) = some (kR r) := by
  rw [M64_val] at h
  refine keyOf_int_mk Tryz.underlying24 ?_
  simp [Lit.wf, IntKind.min, IntKind.max, IntKind.signed, IntKind.bits]
  omega
theorem kR_key (r : Nat) : WideAt.IsKeyLit (kR r) := trivial
theorem kR_inj {r s : Nat} (h : kR r = kR s) : r = s := by
  unfold kR at h
  injection h with _ h
  omega
/-- The cells that a result may read: those of C, and those laid since block mb. -/
def DL (C : Nat → Nat → Prop) (mb : Nat) (w : World) : Nat → Nat → Prop := fun b o => C b o ∨ (mb < b ∧ b < w.heap.size)
/-- The cells of an entry, and what its holes are read from. -/
def rdF (C : Nat → Nat → Prop) (w : World) (b o : Nat) (e : En) : Prop := w.cell? ⟨b, o, none⟩ = some (.int .u64 e.rep) ∧ w.cell? ⟨b, o + 1, none⟩ = some (.int .u64 e.max) ∧ (∃ hv, w.cell? ⟨b, o + 2, none⟩ = some hv ∧ Dat C w hv (rg e.holes)) ∧ e.rep < M64 ∧ e.max < M64
def RdF (C : Nat → Nat → Prop) (n0 : Nat) (w : World) (v : Value) (l : List En) : Prop := RdSl 3 (rdF C) 0 n0 w v l
theorem RdF.keep {C : Nat → Nat → Prop} {n0 : Nat} {w w' : World} {v : Value} {l : List En} (hC : ∀ b o, C b o → b < n0) (h : RdF C n0 w v l) (hb : ∀ k, k < n0 → w'.heap[k]? = w.heap[k]?) : RdF C n0 w' v l :=
  RdSl.keep h (Nat.le_refl _) (Nat.le_refl _) fun b o x _ h2 ⟨c0, c1, ⟨hv, c2, c3⟩, c4⟩ =>
    ⟨(World.cell?_of_block (a := ⟨b, o, none⟩) (hb b h2)).trans c0, (World.cell?_of_block (a := ⟨b, o + 1, none⟩) (hb b h2)).trans c1, ⟨hv, (World.cell?_of_block (a := ⟨b, o + 2, none⟩) (hb b h2)).trans c2, c3.mono (fun _ _ h => h) fun b o x hD hx => (World.cell?_of_block (a := ⟨b, o, none⟩) (hb b (hC b o hD))).trans hx⟩, c4⟩
theorem dat_rdf {D : Nat → Nat → Prop} {w : World} {x : Value} {v : List En} (h : Dat D w x (vp v)) (hD : ∀ b o, D b o → b < w.heap.size) (hb : ∀ e ∈ v, BdE e) : RdF D w.heap.size w x v := by
  unfold vp at h
  generalize he : v.map ec = es at h
  cases h with
  | sl a cap sz es o b off u hc hz hm ha hsz hd hx =>
    have hl : es.length = v.length := by rw [← he]; simp
    refine ⟨a, cap, by rw [hl], by omega, hm, fun hne => ?_⟩
    have hpos : 0 < v.length := List.length_pos_iff.2 hne
    have g : ∀ i (h : i < v.length), es[i]? = some (ec v[i]) := fun i h => by rw [← he]; exact map_at h
    obtain rfl : 3 = sz := hsz 0 _ (g 0 hpos)
    have hes : es ≠ [] := by intro e; subst e; simp at hl; omega
    have hdlt : b < w.heap.size := hD _ _ (hd 0 (by omega)).1
    refine ⟨b, off, ha hes, Nat.zero_le _, hdlt, fun i hi => ?_⟩
    have e0 := (hx i _ 0 _ (g i hi) rfl).v_inv
    have e1 := (hx i _ 1 _ (g i hi) rfl).v_inv
    have e2 := hx i _ 2 _ (g i hi) rfl
    have c0 := (hd (i * 3 + 0) (by omega)).2.1
    have c1 := (hd (i * 3 + 1) (by omega)).2.1
    have c2 := (hd (i * 3 + 2) (by omega)).2.1
    rw [e0] at c0
    rw [e1] at c1
    obtain ⟨b1, b2, b3⟩ := hb _ (List.getElem_mem hi)
    exact ⟨c0, c1, ⟨_, c2, e2⟩, b3, b2⟩
/-- What the map holds. -/
def PairD (C : Nat → Nat → Prop) (w : World) (mb : Nat) (D : DV) (dom : List Nat) (f0 f1 : Nat → List Iv) : Prop :=
  IsMap D ∧ ∀ r, has D (kR r) = decide (r ∈ dom) ∧ ∃ s0 s1, D.atKey (kR r) (.held zP) = .held (.agg #[s0, s1]) ∧ Dat (DL C mb w) w s0 (rg (f0 r)) ∧ Dat (DL C mb w) w s1 (rg (f1 r))
theorem dat_nil {D : Nat → Nat → Prop} {w : World} : Dat D w (.slice none 0 0) (rg []) := .sl none 0 2 [] .sh 0 0 (fun _ => undef) (by simp) (fun h => by cases h) (by decide) (fun h => absurd rfl h) (fun i e h => by simp at h) (fun j h => by simp at h) (fun i e j p h => by simp at h)
theorem PairD.start (C : Nat → Nat → Prop) (w : World) (mb : Nat) : PairD C w mb (.map []) [] (fun _ => []) (fun _ => []) :=
  ⟨⟨[], rfl⟩, fun r => ⟨by simp [has], _, _, rfl, dat_nil, dat_nil⟩⟩
theorem PairD.mono {C : Nat → Nat → Prop} {w w' : World} {mb : Nat} {D : DV} {dom : List Nat} {f0 f1 : Nat → List Iv} (hC : ∀ b o, C b o → b < mb) (h : PairD C w mb D dom f0 f1) (hs : w.heap.size ≤ w'.heap.size) (hb : ∀ k, k < w.heap.size → k ≠ mb → w'.heap[k]? = w.heap[k]?) : PairD C w' mb D dom f0 f1 := by
  refine ⟨h.1, fun r => ⟨(h.2 r).1, ?_⟩⟩
  obtain ⟨s0, s1, e, d0, d1⟩ := (h.2 r).2
  have hw : ∀ b o x, DL C mb w b o → w.cell? ⟨b, o, none⟩ = some x → w'.cell? ⟨b, o, none⟩ = some x := fun b o x hD hx =>
    (World.cell?_of_block (a := ⟨b, o, none⟩) (hb b (World.block_lt_of_cell? w ⟨b, o, none⟩ hx) (by rcases hD with hD | hD; have := hC b o hD; omega; omega))).trans hx
  have hD : ∀ b o, DL C mb w b o → DL C mb w' b o := fun b o hD => hD.imp id fun h => ⟨h.1, Nat.lt_of_lt_of_le h.2 hs⟩
  exact ⟨s0, s1, e, d0.mono hD hw, d1.mono hD hw⟩
theorem PairD.put0 {C : Nat → Nat → Prop} {w : World} {mb : Nat} {D : DV} {dom : List Nat} {f0 f1 : Nat → List Iv} (h : PairD C w mb D dom f0 f1) {r0 : Nat} {l : List Iv} {s s0 s1 : Value} (hs : Dat (DL C mb w) w s (rg l)) (he : D.atKey (kR r0) (.held zP) = .held (.agg #[s0, s1])) :
    PairD C w mb (D.put (kR r0) (.held (.agg #[s, s1]))) (dom ++ [r0]) (fun r => if r = r0 then l else f0 r) f1 := by
  refine ⟨h.1.put _ _, fun r => ?_⟩
  by_cases e : r = r0
  · subst e
    obtain ⟨t0, t1, e1, d0, d1⟩ := (h.2 r).2
    rw [he] at e1
    cases e1
    exact ⟨by rw [has_put_same h.1 (kR_key _)]; simp, s, s1, atKey_put_same h.1 (kR_key _) _ _, by dsimp only; rw [if_pos rfl]; exact hs, d1⟩
  · have hne : kR r ≠ kR r0 := fun h => e (kR_inj h)
    obtain ⟨t0, t1, e1, d0, d1⟩ := (h.2 r).2
    exact ⟨by rw [has_put_other hne, (h.2 r).1]; simp [e], t0, t1, by rw [atKey_put_other hne]; exact e1, by dsimp only; rw [if_neg e]; exact d0, d1⟩
theorem PairD.put1 {C : Nat → Nat → Prop} {w : World} {mb : Nat} {D : DV} {dom : List Nat} {f0 f1 : Nat → List Iv} (h : PairD C w mb D dom f0 f1) {r0 : Nat} {l : List Iv} {s s0 s1 : Value} (hs : Dat (DL C mb w) w s (rg l)) (he : D.atKey (kR r0) (.held zP) = .held (.agg #[s0, s1])) :
    PairD C w mb (D.put (kR r0) (.held (.agg #[s0, s]))) (dom ++ [r0]) f0 (fun r => if r = r0 then l else f1 r) := by
  refine ⟨h.1.put _ _, fun r => ?_⟩
  by_cases e : r = r0
  · subst e
    obtain ⟨t0, t1, e1, d0, d1⟩ := (h.2 r).2
    rw [he] at e1
    cases e1
    exact ⟨by rw [has_put_same h.1 (kR_key _)]; simp, s0, s, atKey_put_same h.1 (kR_key _) _ _, d0, by dsimp only; rw [if_pos rfl]; exact hs⟩
  · have hne : kR r ≠ kR r0 := fun h => e (kR_inj h)
    obtain ⟨t0, t1, e1, d0, d1⟩ := (h.2 r).2
    exact ⟨by rw [has_put_other hne, (h.2 r).1]; simp [e], t0, t1, by rw [atKey_put_other hne]; exact e1, d0, by dsimp only; rw [if_neg e]; exact d1⟩
theorem knV_snoc {v : List En} {e : En} (h : ∀ f ∈ v, f.rep ≠ e.rep) (r : Nat) : knV (v ++ [e]) r = if r = e.rep then kn e else knV v r := by
  unfold knV
  rw [List.find?_append]
  by_cases hr : r = e.rep
  · subst hr
    rw [if_pos rfl, show List.find? (fun f => f.rep == e.rep) v = none from List.find?_eq_none.2 fun f hf => by simpa using h f hf]
    simp
  · rw [if_neg hr]
    have : List.find? (fun f => f.rep == r) [e] = none := by simp; exact fun h => hr h.symm
    rw [this, Option.or_none]
theorem knV_take {v : List En} (h : RightV v) {k : Nat} (hk : k < v.length) : knV (v.take (k + 1)) = fun r => if r = v[k].rep then kn v[k] else knV (v.take k) r := by
  funext r
  rw [List.take_succ_eq_append_getElem hk]
  refine knV_snoc (fun f hf => ?_) r
  obtain ⟨i, hi, rfl⟩ := List.getElem_of_mem hf
  have hik : i < k := by simp at hi; omega
  have := List.pairwise_iff_getElem.1 h.2 i k (by omega) hk hik
  simp only [List.getElem_take]
  omega
/-- What is asked of a vector that an operation is called with. -/
def SmV (v : List En) : Prop := RightV v ∧ v.length ≤ 1048576 ∧ ∀ e ∈ v, e.holes.length ≤ 10000
end Go.Proofs.YtjmhmeadcphfmaaGreatDoor
/- The contract of vector.Numbers, as a contract without memory. -/
namespace Go.Proofs.YtjmhmeadcphfmaaGreatDoor
set_option linter.unusedVariables false
set_option linter.unusedSimpArgs false
open Go.RowKit
set_option maxRecDepth 100000

def ns (l : List Nat) : PV := .sl (l.map natc) .sh
attribute [go_sem] ns
theorem ownN_dat {D : Nat → Nat → Prop} {base : Nat} {w : World} {v : Value} {l : List Nat} (h : OwnN base w v l) (hD : ∀ b o, base ≤ b → b < w.heap.size → D b o) : Dat D w v (ns l) := by
  unfold ns
  have hlen : (l.map natc).length = l.length := by simp
  rcases id h.2 with ⟨rfl, h0⟩ | ⟨g, cap, cur, rfl, hg, hh, hn, hc, _⟩
  · obtain rfl : l = [] := List.length_eq_zero_iff.1 h0
    exact .sl none 0 1 [] .sh 0 0 (fun _ => undef) (by simp) (fun h => by cases h) (by unfold maxLen; omega) (fun h => absurd rfl h) (fun i e h => by simp at h) (fun j h => by simp at h) (fun i e j p h => by simp at h)
  · rw [← hlen]
    refine .sl _ cap 1 _ .sh g 0 (fun j => .int .u64 (l.getD j 0 : Nat)) (by simpa using hn) (fun h => by cases h) hc (fun _ => rfl) (fun i e h => ?_) (fun j hj => ?_) (fun i e j p he hp => ?_)
    · simp only [List.getElem?_map, Option.map_eq_some_iff] at h
      obtain ⟨s, _, rfl⟩ := h
      rfl
    · simp only [List.length_map, Nat.mul_one] at hj
      refine ⟨hD _ _ hg (Array.getElem?_eq_some_iff.1 hh).1, ?_, rfl⟩
      rw [Nat.zero_add, h.cellAt _ (by simpa using hj)]
      simp [hj]
    · have hi : i < l.length := by have := (List.getElem?_eq_some_iff.1 he).1; simpa using this
      rw [map_at hi] at he
      cases he
      match j, hp with
      | 0, hp => cases hp; simp [hi]; exact .v _
      | j + 1, hp => simp [natc] at hp
end Go.Proofs.YtjmhmeadcphfmaaGreatDoor
/- The law SetopsDenote returns true. -/
namespace Go.Proofs.YtjmhmeadcphfmaaGreatDoor
set_option linter.unusedVariables false
set_option linter.unusedSimpArgs false
open Go.RowKit
set_option maxRecDepth 100000
end Go.Proofs.YtjmhmeadcphfmaaGreatDoor
