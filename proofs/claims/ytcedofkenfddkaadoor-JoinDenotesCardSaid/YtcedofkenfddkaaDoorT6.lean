/- The contracts of the references of the layers 7 and 8. -/
import Derived.Test.YtcedofkenfddkaaDoorT5
import Derived.Test.YtcedofkenfddkaaDoorQ8
namespace Go.Proofs.YtcedofkenfddkaaDoor
set_option linter.unusedVariables false
set_option linter.unusedSimpArgs false
open Go.RowKit
set_option maxRecDepth 100000
/-- An entry's cells. -/
def ec (e : En) : List PV := [.v (.int .u64 e.rep), .v (.int .u64 e.max), rg e.holes]
def ep (e : En) : PV := .agg (ec e)
attribute [go_sem] ep ec
theorem same7_c (a b : En) (hl : a.holes.length ≤ 1152921504606846976) : Cn Tryd.prog 34 [ep a, ep b] (.v (.bool (decide (a = b)))) := by
  refine cn_go Tryd.func34 [] 2 (by kernel_rfl) rfl (by simp [go_sem, seval]) ?_
  conv => arg 4; cbv
  conv => enter [5, 1]; cbv
  try simp (maxSteps := 2000000) (disch := omega) only [go_sem, seval]
  try repeat ((with_reducible refine And.intro ?_ ?_); focus (first | omega | assumption | exact True.intro | (show anyD _ _ = true; exact rfl) | (simp only [List.length_map, List.length_append, List.length_cons, List.length_nil, List.length_take, List.length_drop]; omega)))
  have key : (a = b) ↔ (a.rep = b.rep ∧ a.max = b.max ∧ a.holes = b.holes) := ⟨fun h => by subst h; exact ⟨rfl, rfl, rfl⟩, fun h => En.ext' h.1 h.2.1 h.2.2⟩
  (first | refine brP.mk (fun h1 => ?_) (fun h1 => ?_) | refine gdP.mkt (fun h1 => ?_) (fun h1 => ?_) | refine gdP.mkf (fun h1 => ?_) (fun h1 => ?_) | refine pkP.mk (fun h1 => ?_) (fun h1 => ?_)) <;> (try simp only [Bool.not_true, Bool.not_false, decide_eq_true_eq, decide_eq_false_iff_not, Bool.and_eq_true, Bool.or_eq_true, Bool.not_eq_true', Bool.not_eq_false', Bool.and_eq_false_iff, Bool.or_eq_false_iff, Nat.not_lt, Int.not_lt, Nat.not_le, Int.not_le, Int.ofNat_lt, Int.ofNat_le, Int.ofNat_inj, Bool.xor_false, Bool.false_xor, Bool.true_xor, Bool.xor_true] at h1) <;> (try simp (maxSteps := 2000000) (disch := omega) only [go_sem, seval]) <;> (try repeat ((with_reducible refine And.intro ?_ ?_); focus (first | omega | assumption | exact True.intro | (show anyD _ _ = true; exact rfl) | (simp only [List.length_map, List.length_append, List.length_cons, List.length_nil, List.length_take, List.length_drop]; omega))))
  · (first | refine brP.mk (fun h2 => ?_) (fun h2 => ?_) | refine gdP.mkt (fun h2 => ?_) (fun h2 => ?_) | refine gdP.mkf (fun h2 => ?_) (fun h2 => ?_) | refine pkP.mk (fun h2 => ?_) (fun h2 => ?_)) <;> (try simp only [Bool.not_true, Bool.not_false, decide_eq_true_eq, decide_eq_false_iff_not, Bool.and_eq_true, Bool.or_eq_true, Bool.not_eq_true', Bool.not_eq_false', Bool.and_eq_false_iff, Bool.or_eq_false_iff, Nat.not_lt, Int.not_lt, Nat.not_le, Int.not_le, Int.ofNat_lt, Int.ofNat_le, Int.ofNat_inj, Bool.xor_false, Bool.false_xor, Bool.true_xor, Bool.xor_true] at h2) <;> (try simp (maxSteps := 2000000) (disch := omega) only [go_sem, seval]) <;> (try repeat ((with_reducible refine And.intro ?_ ?_); focus (first | omega | assumption | exact True.intro | (show anyD _ _ = true; exact rfl) | (simp only [List.length_map, List.length_append, List.length_cons, List.length_nil, List.length_take, List.length_drop]; omega))))
    · (first | refine callP.mk (same4_c a.holes b.holes hl) rfl ?_ | refine callQ.mk (same4_c a.holes b.holes hl) rfl ?_ | refine callO.rd (same4_c a.holes b.holes hl) rfl ?_ | refine callO.mk (same4_c a.holes b.holes hl) rfl ?_)
      try simp (maxSteps := 2000000) (disch := omega) only [go_sem, seval]
      try repeat ((with_reducible refine And.intro ?_ ?_); focus (first | omega | assumption | exact True.intro | (show anyD _ _ = true; exact rfl) | (simp only [List.length_map, List.length_append, List.length_cons, List.length_nil, List.length_take, List.length_drop]; omega)))
      simp [key, h1, h2]
    · simp [key, h2]
  · simp [key, h1]
def hk (m : Nat) : List Iv → Nat → Nat × Int
  | [], _ => (0, -1)
  | s :: r, i => if m < s.hi then (4, (i : Int)) else hk m r (i + 1)
/-- The error of an entry, and its index. -/
def chkE (e : En) : Nat × Int := if (chk e.holes).1 = 0 then hk e.max e.holes 0 else chk e.holes
theorem hk_zero (m : Nat) : ∀ (l : List Iv) (i : Nat), (hk m l i).1 = 0 ↔ ∀ s ∈ l, s.hi ≤ m
  | [], i => by simp [hk]
  | s :: r, i => by
    have := hk_zero m r (i + 1)
    unfold hk
    split
    · simp; omega
    · rw [this]; simp; omega
theorem hk_step {m : Nat} {l : List Iv} {k : Nat} (h : k < l.length) : hk m (l.drop k) k = if m < l[k].hi then (4, (k : Int)) else hk m (l.drop (k + 1)) (k + 1) := by
  rw [List.drop_eq_getElem_cons h]; rfl
def rightEB (e : En) : Bool := decide ((chkE e).1 = 0)
theorem rightEB_iff {e : En} (h : ∀ s ∈ e.holes, s.lo < M64 ∧ s.hi < M64) (h1 : e.max < M64) (h2 : e.rep < M64) : rightEB e = true ↔ RightE e := by
  have hn := chk_nrm (l := e.holes) fun s hs => (h s hs).2
  have hz := hk_zero e.max e.holes 0
  unfold rightEB chkE RightE
  rw [decide_eq_true_eq]
  by_cases h' : (chk e.holes).1 = 0
  · rw [if_pos h', hz]
    exact ⟨fun g => ⟨hn.1 h', g, h1, h2⟩, fun g => g.2.1⟩
  · rw [if_neg h']
    exact ⟨fun g => absurd g h', fun g => absurd (hn.2 g.1) h'⟩
theorem check7_c (e : En) (hl : e.holes.length ≤ 1152921504606846976) (hb : ∀ s ∈ e.holes, s.lo < M64 ∧ s.hi < M64) : Cn Tryd.prog 38 [ep e] (.tup [.v (.int .i64 (chkE e).1), .v (.int .i64 (chkE e).2)]) := by
  refine cn_go Tryd.func38 [] 1 (by kernel_rfl) rfl (by simp [go_sem, seval]) ?_
  conv => arg 4; cbv
  conv => enter [5, 1]; cbv
  try simp (maxSteps := 2000000) (disch := omega) only [go_sem, seval]
  try repeat ((with_reducible refine And.intro ?_ ?_); focus (first | omega | assumption | exact True.intro | (show anyD _ _ = true; exact rfl) | (simp only [List.length_map, List.length_append, List.length_cons, List.length_nil, List.length_take, List.length_drop]; omega)))
  (first | refine callP.mk (check4_c e.holes hl hb) rfl ?_ | refine callQ.mk (check4_c e.holes hl hb) rfl ?_ | refine callO.rd (check4_c e.holes hl hb) rfl ?_ | refine callO.mk (check4_c e.holes hl hb) rfl ?_)
  try simp (maxSteps := 2000000) (disch := omega) only [go_sem, seval]
  try repeat ((with_reducible refine And.intro ?_ ?_); focus (first | omega | assumption | exact True.intro | (show anyD _ _ = true; exact rfl) | (simp only [List.length_map, List.length_append, List.length_cons, List.length_nil, List.length_take, List.length_drop]; omega)))
  (first | refine brP.mk (fun h => ?_) (fun h => ?_) | refine gdP.mkt (fun h => ?_) (fun h => ?_) | refine gdP.mkf (fun h => ?_) (fun h => ?_) | refine pkP.mk (fun h => ?_) (fun h => ?_)) <;> (try simp only [Bool.not_true, Bool.not_false, decide_eq_true_eq, decide_eq_false_iff_not, Bool.and_eq_true, Bool.or_eq_true, Bool.not_eq_true', Bool.not_eq_false', Bool.and_eq_false_iff, Bool.or_eq_false_iff, Nat.not_lt, Int.not_lt, Nat.not_le, Int.not_le, Int.ofNat_lt, Int.ofNat_le, Int.ofNat_inj, Bool.xor_false, Bool.false_xor, Bool.true_xor, Bool.xor_true] at h) <;> (try simp (maxSteps := 2000000) (disch := omega) only [go_sem, seval]) <;> (try repeat ((with_reducible refine And.intro ?_ ?_); focus (first | omega | assumption | exact True.intro | (show anyD _ _ = true; exact rfl) | (simp only [List.length_map, List.length_append, List.length_cons, List.length_nil, List.length_take, List.length_drop]; omega))))
  · unfold chkE
    rw [if_neg (by omega)]
  · refine pLoop.go (fun k => k ≤ e.holes.length ∧ chkE e = hk e.max (e.holes.drop k) k) (fun k => [(6, .v (.int .i64 (k : Nat)))]) (fun _ => [ec e]) (fun k => e.holes.length - k) 0 [6] ?_ ?_ ?_
    · refine ⟨Nat.zero_le _, ?_⟩
      unfold chkE
      rw [if_pos (by omega)]; rfl
    · try simp (maxSteps := 2000000) (disch := omega) only [go_sem, seval]
      try repeat ((with_reducible refine And.intro ?_ ?_); focus (first | omega | assumption | exact True.intro | (show anyD _ _ = true; exact rfl) | (simp only [List.length_map, List.length_append, List.length_cons, List.length_nil, List.length_take, List.length_drop]; omega)))
    · rintro k ⟨hk1, hm⟩
      try simp (maxSteps := 2000000) (disch := omega) only [go_sem, seval]
      try repeat ((with_reducible refine And.intro ?_ ?_); focus (first | omega | assumption | exact True.intro | (show anyD _ _ = true; exact rfl) | (simp only [List.length_map, List.length_append, List.length_cons, List.length_nil, List.length_take, List.length_drop]; omega)))
      (first | refine brP.mk (fun h1 => ?_) (fun h1 => ?_) | refine gdP.mkt (fun h1 => ?_) (fun h1 => ?_) | refine gdP.mkf (fun h1 => ?_) (fun h1 => ?_) | refine pkP.mk (fun h1 => ?_) (fun h1 => ?_)) <;> (try simp only [Bool.not_true, Bool.not_false, decide_eq_true_eq, decide_eq_false_iff_not, Bool.and_eq_true, Bool.or_eq_true, Bool.not_eq_true', Bool.not_eq_false', Bool.and_eq_false_iff, Bool.or_eq_false_iff, Nat.not_lt, Int.not_lt, Nat.not_le, Int.not_le, Int.ofNat_lt, Int.ofNat_le, Int.ofNat_inj, Bool.xor_false, Bool.false_xor, Bool.true_xor, Bool.xor_true] at h1) <;> (try simp (maxSteps := 2000000) (disch := omega) only [go_sem, seval]) <;> (try repeat ((with_reducible refine And.intro ?_ ?_); focus (first | omega | assumption | exact True.intro | (show anyD _ _ = true; exact rfl) | (simp only [List.length_map, List.length_append, List.length_cons, List.length_nil, List.length_take, List.length_drop]; omega))))
      · rw [hk_step h1] at hm
        (first | refine brP.mk (fun h2 => ?_) (fun h2 => ?_) | refine gdP.mkt (fun h2 => ?_) (fun h2 => ?_) | refine gdP.mkf (fun h2 => ?_) (fun h2 => ?_) | refine pkP.mk (fun h2 => ?_) (fun h2 => ?_)) <;> (try simp only [Bool.not_true, Bool.not_false, decide_eq_true_eq, decide_eq_false_iff_not, Bool.and_eq_true, Bool.or_eq_true, Bool.not_eq_true', Bool.not_eq_false', Bool.and_eq_false_iff, Bool.or_eq_false_iff, Nat.not_lt, Int.not_lt, Nat.not_le, Int.not_le, Int.ofNat_lt, Int.ofNat_le, Int.ofNat_inj, Bool.xor_false, Bool.false_xor, Bool.true_xor, Bool.xor_true] at h2) <;> (try simp (maxSteps := 2000000) (disch := omega) only [go_sem, seval]) <;> (try repeat ((with_reducible refine And.intro ?_ ?_); focus (first | omega | assumption | exact True.intro | (show anyD _ _ = true; exact rfl) | (simp only [List.length_map, List.length_append, List.length_cons, List.length_nil, List.length_take, List.length_drop]; omega))))
        · rw [hm, if_pos h2]
          simp
        · rw [if_neg (by omega)] at hm
          exact ⟨k + 1, ⟨h1, hm⟩, by omega, rfl⟩
      · rw [List.drop_of_length_le h1] at hm
        rw [hm]
        simp [hk]
theorem right7_c (e : En) (hl : e.holes.length ≤ 1152921504606846976) (hb : ∀ s ∈ e.holes, s.lo < M64 ∧ s.hi < M64) : Cn Tryd.prog 24 [ep e] (.v (.bool (rightEB e))) := by
  refine cn_go Tryd.func24 [] 1 (by kernel_rfl) rfl (by simp [go_sem, seval]) ?_
  conv => arg 4; cbv
  conv => enter [5, 1]; cbv
  try simp (maxSteps := 2000000) (disch := omega) only [go_sem, seval]
  try repeat ((with_reducible refine And.intro ?_ ?_); focus (first | omega | assumption | exact True.intro | (show anyD _ _ = true; exact rfl) | (simp only [List.length_map, List.length_append, List.length_cons, List.length_nil, List.length_take, List.length_drop]; omega)))
  (first | refine callP.mk (check7_c e hl hb) rfl ?_ | refine callQ.mk (check7_c e hl hb) rfl ?_ | refine callO.rd (check7_c e hl hb) rfl ?_ | refine callO.mk (check7_c e hl hb) rfl ?_)
  try simp (maxSteps := 2000000) (disch := omega) only [go_sem, seval]
  try repeat ((with_reducible refine And.intro ?_ ?_); focus (first | omega | assumption | exact True.intro | (show anyD _ _ = true; exact rfl) | (simp only [List.length_map, List.length_append, List.length_cons, List.length_nil, List.length_take, List.length_drop]; omega)))
  rfl
theorem known7_c (e : En) (h : RightE e) (hl : e.holes.length ≤ 131072) : Cn Tryd.prog 30 [ep e] (rg (kn e)) := by
  refine cn_go Tryd.func30 [] 1 (by kernel_rfl) rfl (by simp [go_sem, seval]) ?_
  conv => arg 4; cbv
  conv => enter [5, 1]; cbv
  try simp (maxSteps := 2000000) (disch := omega) only [go_sem, seval]
  try repeat ((with_reducible refine And.intro ?_ ?_); focus (first | omega | assumption | exact True.intro | (show anyD _ _ = true; exact rfl) | (simp only [List.length_map, List.length_append, List.length_cons, List.length_nil, List.length_take, List.length_drop]; omega)))
  (first | refine callP.mk (refMinus_c [⟨0, e.max⟩] e.holes (nrm_one (Nat.zero_le _) h.2.2.1) h.1 (by simp) hl) rfl ?_ | refine callQ.mk (refMinus_c [⟨0, e.max⟩] e.holes (nrm_one (Nat.zero_le _) h.2.2.1) h.1 (by simp) hl) rfl ?_ | refine callO.rd (refMinus_c [⟨0, e.max⟩] e.holes (nrm_one (Nat.zero_le _) h.2.2.1) h.1 (by simp) hl) rfl ?_ | refine callO.mk (refMinus_c [⟨0, e.max⟩] e.holes (nrm_one (Nat.zero_le _) h.2.2.1) h.1 (by simp) hl) rfl ?_)
  try simp (maxSteps := 2000000) (disch := omega) only [go_sem, seval]
  try repeat ((with_reducible refine And.intro ?_ ?_); focus (first | omega | assumption | exact True.intro | (show anyD _ _ = true; exact rfl) | (simp only [List.length_map, List.length_append, List.length_cons, List.length_nil, List.length_take, List.length_drop]; omega)))
  rfl
theorem of7_c (r : Nat) (l : List Iv) (hl : Nrm l) (h1 : l.length ≤ 131072) : Cn Tryd.prog 33 [.v (.int .u64 r), rg l] (.tup [ep (ofS r l).1, .v (.bool (ofS r l).2)]) := by
  refine cn_go Tryd.func33 [] 2 (by kernel_rfl) rfl (by simp [go_sem, seval]) ?_
  conv => arg 4; cbv
  conv => enter [5, 1]; cbv
  try simp (maxSteps := 2000000) (disch := omega) only [go_sem, seval]
  try repeat ((with_reducible refine And.intro ?_ ?_); focus (first | omega | assumption | exact True.intro | (show anyD _ _ = true; exact rfl) | (simp only [List.length_map, List.length_append, List.length_cons, List.length_nil, List.length_take, List.length_drop]; omega)))
  (first | refine brP.mk (fun h => ?_) (fun h => ?_) | refine gdP.mkt (fun h => ?_) (fun h => ?_) | refine gdP.mkf (fun h => ?_) (fun h => ?_) | refine pkP.mk (fun h => ?_) (fun h => ?_)) <;> (try simp only [Bool.not_true, Bool.not_false, decide_eq_true_eq, decide_eq_false_iff_not, Bool.and_eq_true, Bool.or_eq_true, Bool.not_eq_true', Bool.not_eq_false', Bool.and_eq_false_iff, Bool.or_eq_false_iff, Nat.not_lt, Int.not_lt, Nat.not_le, Int.not_le, Int.ofNat_lt, Int.ofNat_le, Int.ofNat_inj, Bool.xor_false, Bool.false_xor, Bool.true_xor, Bool.xor_true] at h) <;> (try simp (maxSteps := 2000000) (disch := omega) only [go_sem, seval]) <;> (try repeat ((with_reducible refine And.intro ?_ ?_); focus (first | omega | assumption | exact True.intro | (show anyD _ _ = true; exact rfl) | (simp only [List.length_map, List.length_append, List.length_cons, List.length_nil, List.length_take, List.length_drop]; omega))))
  · subst h
    rfl
  · have hp : 0 < l.length := List.length_pos_iff.2 (by simpa using h)
    have ht := top_at hp
    have hM := (top_mem hl (by simpa using h)).2
    try simp (maxSteps := 2000000) (disch := omega) only [go_sem, seval, ht]
    try repeat ((with_reducible refine And.intro ?_ ?_); focus (first | omega | assumption | exact True.intro | (show anyD _ _ = true; exact rfl) | (simp only [List.length_map, List.length_append, List.length_cons, List.length_nil, List.length_take, List.length_drop]; omega)))
    (first | refine callP.mk (refMinus_c [⟨0, top l⟩] l (nrm_one (Nat.zero_le _) hM) hl (by simp) h1) rfl ?_ | refine callQ.mk (refMinus_c [⟨0, top l⟩] l (nrm_one (Nat.zero_le _) hM) hl (by simp) h1) rfl ?_ | refine callO.rd (refMinus_c [⟨0, top l⟩] l (nrm_one (Nat.zero_le _) hM) hl (by simp) h1) rfl ?_ | refine callO.mk (refMinus_c [⟨0, top l⟩] l (nrm_one (Nat.zero_le _) hM) hl (by simp) h1) rfl ?_)
    try simp (maxSteps := 2000000) (disch := omega) only [go_sem, seval]
    try repeat ((with_reducible refine And.intro ?_ ?_); focus (first | omega | assumption | exact True.intro | (show anyD _ _ = true; exact rfl) | (simp only [List.length_map, List.length_append, List.length_cons, List.length_nil, List.length_take, List.length_drop]; omega)))
    rw [ofS_cons (by simpa using h)]
end Go.Proofs.YtcedofkenfddkaaDoor
