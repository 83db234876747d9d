/- The contracts of word.Next and Prev, entry.Known, Of, Has, ranges.Has, of the package join. -/
import Derived.Test.YtcedofkenfddkaaDoorT6
namespace Go.Proofs.YtcedofkenfddkaaDoor
set_option linter.unusedVariables false
set_option linter.unusedSimpArgs false
open Go.RowKit
set_option maxRecDepth 100000
theorem wnext_c (x : Nat) (hx : x < M64) : Cn Tryd.prog 120 [.v (.int .u64 x)] (.tup [.v (.int .u64 (if x = M64 - 1 then 0 else x + 1 : Nat)), .v (.bool (decide (x ≠ M64 - 1)))]) := by
  have hM := M64_val
  refine cn_go Tryd.func120 [] 1 (by kernel_rfl) rfl (by simp [go_sem, seval]) ?_
  conv => arg 4; cbv
  conv => enter [5, 1]; cbv
  by_cases h : x = M64 - 1
  · rw [if_pos h]
    subst h
    try simp (maxSteps := 2000000) (disch := omega) only [go_sem, seval]
    try repeat ((with_reducible refine And.intro ?_ ?_); focus (first | omega | assumption | exact True.intro | (show anyD _ _ = true; exact rfl) | (simp only [List.length_map, List.length_append, List.length_cons, List.length_nil, List.length_take, List.length_drop]; omega)))
    simp [hM]
  · rw [if_neg h]
    try simp (maxSteps := 2000000) (disch := omega) only [go_sem, seval]
    try repeat ((with_reducible refine And.intro ?_ ?_); focus (first | omega | assumption | exact True.intro | (show anyD _ _ = true; exact rfl) | (simp only [List.length_map, List.length_append, List.length_cons, List.length_nil, List.length_take, List.length_drop]; omega)))
    simp
    omega
theorem wprev_c (x : Nat) (hx : x < M64) : Cn Tryd.prog 84 [.v (.int .u64 x)] (.tup [.v (.int .u64 (x - 1 : Nat)), .v (.bool (decide (x ≠ 0)))]) := by
  have hM := M64_val
  refine cn_go Tryd.func84 [] 1 (by kernel_rfl) rfl (by simp [go_sem, seval]) ?_
  conv => arg 4; cbv
  conv => enter [5, 1]; cbv
  try simp (maxSteps := 2000000) (disch := omega) only [go_sem, seval]
  try repeat ((with_reducible refine And.intro ?_ ?_); focus (first | omega | assumption | exact True.intro | (show anyD _ _ = true; exact rfl) | (simp only [List.length_map, List.length_append, List.length_cons, List.length_nil, List.length_take, List.length_drop]; omega)))
  (first | refine brP.mk (fun h => ?_) (fun h => ?_) | refine gdP.mkt (fun h => ?_) (fun h => ?_) | refine gdP.mkf (fun h => ?_) (fun h => ?_) | refine pkP.mk (fun h => ?_) (fun h => ?_)) <;> (try simp only [Bool.not_true, Bool.not_false, decide_eq_true_eq, decide_eq_false_iff_not, Bool.and_eq_true, Bool.or_eq_true, Bool.not_eq_true', Bool.not_eq_false', Bool.and_eq_false_iff, Bool.or_eq_false_iff, Nat.not_lt, Int.not_lt, Nat.not_le, Int.not_le, Int.ofNat_lt, Int.ofNat_le, Int.ofNat_inj, Bool.xor_false, Bool.false_xor, Bool.true_xor, Bool.xor_true] at h) <;> (try simp (maxSteps := 2000000) (disch := omega) only [go_sem, seval]) <;> (try repeat ((with_reducible refine And.intro ?_ ?_); focus (first | omega | assumption | exact True.intro | (show anyD _ _ = true; exact rfl) | (simp only [List.length_map, List.length_append, List.length_cons, List.length_nil, List.length_take, List.length_drop]; omega))))
  · subst h
    rfl
  · simp [h]
theorem upTo_c (x : Nat) : Cn Tryd.prog 80 [.v (.int .u64 x)] (ivp ⟨0, x⟩) := by
  refine cn_go Tryd.func80 [] 1 (by kernel_rfl) rfl (by simp [go_sem, seval]) ?_
  conv => arg 4; cbv
  conv => enter [5, 1]; cbv
  try simp (maxSteps := 2000000) (disch := omega) only [go_sem, seval]
  try repeat ((with_reducible refine And.intro ?_ ?_); focus (first | omega | assumption | exact True.intro | (show anyD _ _ = true; exact rfl) | (simp only [List.length_map, List.length_append, List.length_cons, List.length_nil, List.length_take, List.length_drop]; omega)))
  try rfl
theorem eknown_c (e : En) (h : RightE e) (hl : e.holes.length ≤ 131072) : Cn Tryd.prog 26 [ep e] (rg (kn e)) := by
  refine cn_go Tryd.func26 [] 1 (by kernel_rfl) rfl (by simp [go_sem, seval]) ?_
  conv => arg 4; cbv
  conv => enter [5, 1]; cbv
  try simp (maxSteps := 2000000) (disch := omega) only [go_sem, seval]
  try repeat ((with_reducible refine And.intro ?_ ?_); focus (first | omega | assumption | exact True.intro | (show anyD _ _ = true; exact rfl) | (simp only [List.length_map, List.length_append, List.length_cons, List.length_nil, List.length_take, List.length_drop]; omega)))
  (first | refine callP.mk (upTo_c e.max) rfl ?_ | refine callQ.mk (upTo_c e.max) rfl ?_ | refine callO.rd (upTo_c e.max) rfl ?_ | refine callO.mk (upTo_c e.max) rfl ?_)
  try simp (maxSteps := 2000000) (disch := omega) only [go_sem, seval]
  try repeat ((with_reducible refine And.intro ?_ ?_); focus (first | omega | assumption | exact True.intro | (show anyD _ _ = true; exact rfl) | (simp only [List.length_map, List.length_append, List.length_cons, List.length_nil, List.length_take, List.length_drop]; omega)))
  (first | refine callP.mk (not_c e.holes ⟨0, e.max⟩ h.1 (Nat.zero_le _) h.2.2.1 (by omega)) rfl ?_ | refine callQ.mk (not_c e.holes ⟨0, e.max⟩ h.1 (Nat.zero_le _) h.2.2.1 (by omega)) rfl ?_ | refine callO.rd (not_c e.holes ⟨0, e.max⟩ h.1 (Nat.zero_le _) h.2.2.1 (by omega)) rfl ?_ | refine callO.mk (not_c e.holes ⟨0, e.max⟩ h.1 (Nat.zero_le _) h.2.2.1 (by omega)) rfl ?_)
  try simp (maxSteps := 2000000) (disch := omega) only [go_sem, seval]
  try repeat ((with_reducible refine And.intro ?_ ?_); focus (first | omega | assumption | exact True.intro | (show anyD _ _ = true; exact rfl) | (simp only [List.length_map, List.length_append, List.length_cons, List.length_nil, List.length_take, List.length_drop]; omega)))
  rfl
theorem eof_c (r : Nat) (l : List Iv) (hl : Nrm l) (h1 : l.length ≤ 131072) : Cn Tryd.prog 32 [.v (.int .u64 r), rg l] (.tup [ep (ofS r l).1, .v (.bool (ofS r l).2)]) := by
  refine cn_go Tryd.func32 [] 2 (by kernel_rfl) rfl (by simp [go_sem, seval]) ?_
  conv => arg 4; cbv
  conv => enter [5, 1]; cbv
  try simp (maxSteps := 2000000) (disch := omega) only [go_sem, seval]
  try repeat ((with_reducible refine And.intro ?_ ?_); focus (first | omega | assumption | exact True.intro | (show anyD _ _ = true; exact rfl) | (simp only [List.length_map, List.length_append, List.length_cons, List.length_nil, List.length_take, List.length_drop]; omega)))
  (first | refine brP.mk (fun h => ?_) (fun h => ?_) | refine gdP.mkt (fun h => ?_) (fun h => ?_) | refine gdP.mkf (fun h => ?_) (fun h => ?_) | refine pkP.mk (fun h => ?_) (fun h => ?_)) <;> (try simp only [Bool.not_true, Bool.not_false, decide_eq_true_eq, decide_eq_false_iff_not, Bool.and_eq_true, Bool.or_eq_true, Bool.not_eq_true', Bool.not_eq_false', Bool.and_eq_false_iff, Bool.or_eq_false_iff, Nat.not_lt, Int.not_lt, Nat.not_le, Int.not_le, Int.ofNat_lt, Int.ofNat_le, Int.ofNat_inj, Bool.xor_false, Bool.false_xor, Bool.true_xor, Bool.xor_true] at h) <;> (try simp (maxSteps := 2000000) (disch := omega) only [go_sem, seval]) <;> (try repeat ((with_reducible refine And.intro ?_ ?_); focus (first | omega | assumption | exact True.intro | (show anyD _ _ = true; exact rfl) | (simp only [List.length_map, List.length_append, List.length_cons, List.length_nil, List.length_take, List.length_drop]; omega))))
  · subst h
    rfl
  · have hp : 0 < l.length := List.length_pos_iff.2 (by simpa using h)
    have ht := top_at hp
    have hM := (top_mem hl (by simpa using h)).2
    try simp (maxSteps := 2000000) (disch := omega) only [go_sem, seval, ht]
    try repeat ((with_reducible refine And.intro ?_ ?_); focus (first | omega | assumption | exact True.intro | (show anyD _ _ = true; exact rfl) | (simp only [List.length_map, List.length_append, List.length_cons, List.length_nil, List.length_take, List.length_drop]; omega)))
    (first | refine callP.mk (upTo_c (top l)) rfl ?_ | refine callQ.mk (upTo_c (top l)) rfl ?_ | refine callO.rd (upTo_c (top l)) rfl ?_ | refine callO.mk (upTo_c (top l)) rfl ?_)
    try simp (maxSteps := 2000000) (disch := omega) only [go_sem, seval]
    try repeat ((with_reducible refine And.intro ?_ ?_); focus (first | omega | assumption | exact True.intro | (show anyD _ _ = true; exact rfl) | (simp only [List.length_map, List.length_append, List.length_cons, List.length_nil, List.length_take, List.length_drop]; omega)))
    (first | refine callP.mk (not_c l ⟨0, top l⟩ hl (Nat.zero_le _) hM (by omega)) rfl ?_ | refine callQ.mk (not_c l ⟨0, top l⟩ hl (Nat.zero_le _) hM (by omega)) rfl ?_ | refine callO.rd (not_c l ⟨0, top l⟩ hl (Nat.zero_le _) hM (by omega)) rfl ?_ | refine callO.mk (not_c l ⟨0, top l⟩ hl (Nat.zero_le _) hM (by omega)) rfl ?_)
    try simp (maxSteps := 2000000) (disch := omega) only [go_sem, seval]
    try repeat ((with_reducible refine And.intro ?_ ?_); focus (first | omega | assumption | exact True.intro | (show anyD _ _ = true; exact rfl) | (simp only [List.length_map, List.length_append, List.length_cons, List.length_nil, List.length_take, List.length_drop]; omega)))
    rw [ofS_cons (by simpa using h)]
theorem below_c (c : Nat) (hc : c < M64) : Cn Tryd.prog 119 [.v (.int .u64 c)] (rg (below c)) := by
  refine cn_go Tryd.func119 [] 1 (by kernel_rfl) rfl (by simp [go_sem, seval]) ?_
  conv => arg 4; cbv
  conv => enter [5, 1]; cbv
  try simp (maxSteps := 2000000) (disch := omega) only [go_sem, seval]
  try repeat ((with_reducible refine And.intro ?_ ?_); focus (first | omega | assumption | exact True.intro | (show anyD _ _ = true; exact rfl) | (simp only [List.length_map, List.length_append, List.length_cons, List.length_nil, List.length_take, List.length_drop]; omega)))
  (first | refine callP.mk (wprev_c c hc) rfl ?_ | refine callQ.mk (wprev_c c hc) rfl ?_ | refine callO.rd (wprev_c c hc) rfl ?_ | refine callO.mk (wprev_c c hc) rfl ?_)
  try simp (maxSteps := 2000000) (disch := omega) only [go_sem, seval]
  try repeat ((with_reducible refine And.intro ?_ ?_); focus (first | omega | assumption | exact True.intro | (show anyD _ _ = true; exact rfl) | (simp only [List.length_map, List.length_append, List.length_cons, List.length_nil, List.length_take, List.length_drop]; omega)))
  unfold below
  (first | refine brP.mk (fun h => ?_) (fun h => ?_) | refine gdP.mkt (fun h => ?_) (fun h => ?_) | refine gdP.mkf (fun h => ?_) (fun h => ?_) | refine pkP.mk (fun h => ?_) (fun h => ?_)) <;> (try simp only [Bool.not_true, Bool.not_false, decide_eq_true_eq, decide_eq_false_iff_not, Bool.and_eq_true, Bool.or_eq_true, Bool.not_eq_true', Bool.not_eq_false', Bool.and_eq_false_iff, Bool.or_eq_false_iff, Nat.not_lt, Int.not_lt, Nat.not_le, Int.not_le, Int.ofNat_lt, Int.ofNat_le, Int.ofNat_inj, Bool.xor_false, Bool.false_xor, Bool.true_xor, Bool.xor_true] at h) <;> (try simp (maxSteps := 2000000) (disch := omega) only [go_sem, seval]) <;> (try repeat ((with_reducible refine And.intro ?_ ?_); focus (first | omega | assumption | exact True.intro | (show anyD _ _ = true; exact rfl) | (simp only [List.length_map, List.length_append, List.length_cons, List.length_nil, List.length_take, List.length_drop]; omega))))
  · have h : c = 0 := by simpa using h
    rw [if_pos h]
    rfl
  · have h : ¬ c = 0 := by simpa using h
    rw [if_neg h]
    rfl
section
variable (a b : En) (ha : RightE a) (hb : RightE b) (la : a.holes.length ≤ 10000) (lb : b.holes.length ≤ 10000)
include ha hb la lb
theorem apply_c (f : FuncId) (op : Bool → Bool → Bool) (hf : Cn Tryd.prog f [rg (kn a), rg (kn b)] (rg (opS op (kn a) (kn b)))) : Cn Tryd.prog 100 [.agg [.fn (.func f) [] []], ep a, ep b] (.tup [ep (jn op a b).1, .v (.bool (jn op a b).2)]) := by
  have h1 := kn_length a
  have h2 := kn_length b
  have h3 := opS_length op (kn a) (kn b)
  refine cn_go Tryd.func100 [] 3 (by kernel_rfl) rfl (by simp [go_sem, seval]) ?_
  conv => arg 4; cbv
  conv => enter [5, 1]; cbv
  try simp (maxSteps := 2000000) (disch := omega) only [go_sem, seval]
  try repeat ((with_reducible refine And.intro ?_ ?_); focus (first | omega | assumption | exact True.intro | (show anyD _ _ = true; exact rfl) | (simp only [List.length_map, List.length_append, List.length_cons, List.length_nil, List.length_take, List.length_drop]; omega)))
  (first | refine callP.mk (eknown_c a ha (by omega)) rfl ?_ | refine callQ.mk (eknown_c a ha (by omega)) rfl ?_ | refine callO.rd (eknown_c a ha (by omega)) rfl ?_ | refine callO.mk (eknown_c a ha (by omega)) rfl ?_)
  try simp (maxSteps := 2000000) (disch := omega) only [go_sem, seval]
  try repeat ((with_reducible refine And.intro ?_ ?_); focus (first | omega | assumption | exact True.intro | (show anyD _ _ = true; exact rfl) | (simp only [List.length_map, List.length_append, List.length_cons, List.length_nil, List.length_take, List.length_drop]; omega)))
  (first | refine callP.mk (eknown_c b hb (by omega)) rfl ?_ | refine callQ.mk (eknown_c b hb (by omega)) rfl ?_ | refine callO.rd (eknown_c b hb (by omega)) rfl ?_ | refine callO.mk (eknown_c b hb (by omega)) rfl ?_)
  try simp (maxSteps := 2000000) (disch := omega) only [go_sem, seval]
  try repeat ((with_reducible refine And.intro ?_ ?_); focus (first | omega | assumption | exact True.intro | (show anyD _ _ = true; exact rfl) | (simp only [List.length_map, List.length_append, List.length_cons, List.length_nil, List.length_take, List.length_drop]; omega)))
  (first | refine callP.mk (hf) rfl ?_ | refine callQ.mk (hf) rfl ?_ | refine callO.rd (hf) rfl ?_ | refine callO.mk (hf) rfl ?_)
  try simp (maxSteps := 2000000) (disch := omega) only [go_sem, seval]
  try repeat ((with_reducible refine And.intro ?_ ?_); focus (first | omega | assumption | exact True.intro | (show anyD _ _ = true; exact rfl) | (simp only [List.length_map, List.length_append, List.length_cons, List.length_nil, List.length_take, List.length_drop]; omega)))
  (first | refine callP.mk (eof_c a.rep (opS op (kn a) (kn b)) (opS_nrm (kn_nrm ha) (kn_nrm hb)) (by omega)) rfl ?_ | refine callQ.mk (eof_c a.rep (opS op (kn a) (kn b)) (opS_nrm (kn_nrm ha) (kn_nrm hb)) (by omega)) rfl ?_ | refine callO.rd (eof_c a.rep (opS op (kn a) (kn b)) (opS_nrm (kn_nrm ha) (kn_nrm hb)) (by omega)) rfl ?_ | refine callO.mk (eof_c a.rep (opS op (kn a) (kn b)) (opS_nrm (kn_nrm ha) (kn_nrm hb)) (by omega)) rfl ?_)
  try simp (maxSteps := 2000000) (disch := omega) only [go_sem, seval]
  try repeat ((with_reducible refine And.intro ?_ ?_); focus (first | omega | assumption | exact True.intro | (show anyD _ _ = true; exact rfl) | (simp only [List.length_map, List.length_append, List.length_cons, List.length_nil, List.length_take, List.length_drop]; omega)))
  rfl
theorem jUnion_c : Cn Tryd.prog 63 [ep a, ep b] (.tup [ep (jn fUnion a b).1, .v (.bool (jn fUnion a b).2)]) := by
  have h1 := kn_length a
  have h2 := kn_length b
  refine cn_go Tryd.func63 [] 2 (by kernel_rfl) rfl (by simp [go_sem, seval]) ?_
  conv => arg 4; cbv
  conv => enter [5, 1]; cbv
  try simp (maxSteps := 2000000) (disch := omega) only [go_sem, seval]
  try repeat ((with_reducible refine And.intro ?_ ?_); focus (first | omega | assumption | exact True.intro | (show anyD _ _ = true; exact rfl) | (simp only [List.length_map, List.length_append, List.length_cons, List.length_nil, List.length_take, List.length_drop]; omega)))
  (first | refine callP.mk (apply_c a b ha hb la lb 19 fUnion (union_c _ _ (kn_nrm ha) (kn_nrm hb) (by omega))) rfl ?_ | refine callQ.mk (apply_c a b ha hb la lb 19 fUnion (union_c _ _ (kn_nrm ha) (kn_nrm hb) (by omega))) rfl ?_ | refine callO.rd (apply_c a b ha hb la lb 19 fUnion (union_c _ _ (kn_nrm ha) (kn_nrm hb) (by omega))) rfl ?_ | refine callO.mk (apply_c a b ha hb la lb 19 fUnion (union_c _ _ (kn_nrm ha) (kn_nrm hb) (by omega))) rfl ?_)
  try simp (maxSteps := 2000000) (disch := omega) only [go_sem, seval]
  try repeat ((with_reducible refine And.intro ?_ ?_); focus (first | omega | assumption | exact True.intro | (show anyD _ _ = true; exact rfl) | (simp only [List.length_map, List.length_append, List.length_cons, List.length_nil, List.length_take, List.length_drop]; omega)))
theorem jMeet_c : Cn Tryd.prog 64 [ep a, ep b] (.tup [ep (jn fMeet a b).1, .v (.bool (jn fMeet a b).2)]) := by
  have h1 := kn_length a
  have h2 := kn_length b
  refine cn_go Tryd.func64 [] 2 (by kernel_rfl) rfl (by simp [go_sem, seval]) ?_
  conv => arg 4; cbv
  conv => enter [5, 1]; cbv
  try simp (maxSteps := 2000000) (disch := omega) only [go_sem, seval]
  try repeat ((with_reducible refine And.intro ?_ ?_); focus (first | omega | assumption | exact True.intro | (show anyD _ _ = true; exact rfl) | (simp only [List.length_map, List.length_append, List.length_cons, List.length_nil, List.length_take, List.length_drop]; omega)))
  (first | refine callP.mk (apply_c a b ha hb la lb 20 fMeet (meet_c _ _ (kn_nrm ha) (kn_nrm hb) (by omega))) rfl ?_ | refine callQ.mk (apply_c a b ha hb la lb 20 fMeet (meet_c _ _ (kn_nrm ha) (kn_nrm hb) (by omega))) rfl ?_ | refine callO.rd (apply_c a b ha hb la lb 20 fMeet (meet_c _ _ (kn_nrm ha) (kn_nrm hb) (by omega))) rfl ?_ | refine callO.mk (apply_c a b ha hb la lb 20 fMeet (meet_c _ _ (kn_nrm ha) (kn_nrm hb) (by omega))) rfl ?_)
  try simp (maxSteps := 2000000) (disch := omega) only [go_sem, seval]
  try repeat ((with_reducible refine And.intro ?_ ?_); focus (first | omega | assumption | exact True.intro | (show anyD _ _ = true; exact rfl) | (simp only [List.length_map, List.length_append, List.length_cons, List.length_nil, List.length_take, List.length_drop]; omega)))
theorem jMinus_c : Cn Tryd.prog 65 [ep a, ep b] (.tup [ep (jn fMinus a b).1, .v (.bool (jn fMinus a b).2)]) := by
  have h1 := kn_length a
  have h2 := kn_length b
  refine cn_go Tryd.func65 [] 2 (by kernel_rfl) rfl (by simp [go_sem, seval]) ?_
  conv => arg 4; cbv
  conv => enter [5, 1]; cbv
  try simp (maxSteps := 2000000) (disch := omega) only [go_sem, seval]
  try repeat ((with_reducible refine And.intro ?_ ?_); focus (first | omega | assumption | exact True.intro | (show anyD _ _ = true; exact rfl) | (simp only [List.length_map, List.length_append, List.length_cons, List.length_nil, List.length_take, List.length_drop]; omega)))
  (first | refine callP.mk (apply_c a b ha hb la lb 21 fMinus (minus_c _ _ (kn_nrm ha) (kn_nrm hb) (by omega))) rfl ?_ | refine callQ.mk (apply_c a b ha hb la lb 21 fMinus (minus_c _ _ (kn_nrm ha) (kn_nrm hb) (by omega))) rfl ?_ | refine callO.rd (apply_c a b ha hb la lb 21 fMinus (minus_c _ _ (kn_nrm ha) (kn_nrm hb) (by omega))) rfl ?_ | refine callO.mk (apply_c a b ha hb la lb 21 fMinus (minus_c _ _ (kn_nrm ha) (kn_nrm hb) (by omega))) rfl ?_)
  try simp (maxSteps := 2000000) (disch := omega) only [go_sem, seval]
  try repeat ((with_reducible refine And.intro ?_ ?_); focus (first | omega | assumption | exact True.intro | (show anyD _ _ = true; exact rfl) | (simp only [List.length_map, List.length_append, List.length_cons, List.length_nil, List.length_take, List.length_drop]; omega)))
theorem jSubset_c : Cn Tryd.prog 99 [ep a, ep b] (.v (.bool (decide (opS fMinus (kn a) (kn b) = [])))) := by
  have h1 := kn_length a
  have h2 := kn_length b
  refine cn_go Tryd.func99 [] 2 (by kernel_rfl) rfl (by simp [go_sem, seval]) ?_
  conv => arg 4; cbv
  conv => enter [5, 1]; cbv
  try simp (maxSteps := 2000000) (disch := omega) only [go_sem, seval]
  try repeat ((with_reducible refine And.intro ?_ ?_); focus (first | omega | assumption | exact True.intro | (show anyD _ _ = true; exact rfl) | (simp only [List.length_map, List.length_append, List.length_cons, List.length_nil, List.length_take, List.length_drop]; omega)))
  (first | refine callP.mk (eknown_c a ha (by omega)) rfl ?_ | refine callQ.mk (eknown_c a ha (by omega)) rfl ?_ | refine callO.rd (eknown_c a ha (by omega)) rfl ?_ | refine callO.mk (eknown_c a ha (by omega)) rfl ?_)
  try simp (maxSteps := 2000000) (disch := omega) only [go_sem, seval]
  try repeat ((with_reducible refine And.intro ?_ ?_); focus (first | omega | assumption | exact True.intro | (show anyD _ _ = true; exact rfl) | (simp only [List.length_map, List.length_append, List.length_cons, List.length_nil, List.length_take, List.length_drop]; omega)))
  (first | refine callP.mk (eknown_c b hb (by omega)) rfl ?_ | refine callQ.mk (eknown_c b hb (by omega)) rfl ?_ | refine callO.rd (eknown_c b hb (by omega)) rfl ?_ | refine callO.mk (eknown_c b hb (by omega)) rfl ?_)
  try simp (maxSteps := 2000000) (disch := omega) only [go_sem, seval]
  try repeat ((with_reducible refine And.intro ?_ ?_); focus (first | omega | assumption | exact True.intro | (show anyD _ _ = true; exact rfl) | (simp only [List.length_map, List.length_append, List.length_cons, List.length_nil, List.length_take, List.length_drop]; omega)))
  (first | refine callP.mk (subset_c (kn a) (kn b) (kn_nrm ha) (kn_nrm hb)) rfl ?_ | refine callQ.mk (subset_c (kn a) (kn b) (kn_nrm ha) (kn_nrm hb)) rfl ?_ | refine callO.rd (subset_c (kn a) (kn b) (kn_nrm ha) (kn_nrm hb)) rfl ?_ | refine callO.mk (subset_c (kn a) (kn b) (kn_nrm ha) (kn_nrm hb)) rfl ?_)
  try simp (maxSteps := 2000000) (disch := omega) only [go_sem, seval]
  try repeat ((with_reducible refine And.intro ?_ ?_); focus (first | omega | assumption | exact True.intro | (show anyD _ _ = true; exact rfl) | (simp only [List.length_map, List.length_append, List.length_cons, List.length_nil, List.length_take, List.length_drop]; omega)))
end
theorem jAdd_c (e : En) (c : Nat) (he : RightE e) (hc : c < M64) (le : e.holes.length ≤ 10000) : Cn Tryd.prog 97 [ep e, .v (.int .u64 c)] (ep (addE e c)) := by
  have h1 := below_len c
  refine cn_go Tryd.func97 [] 2 (by kernel_rfl) rfl (by simp [go_sem, seval]) ?_
  conv => arg 4; cbv
  conv => enter [5, 1]; cbv
  try simp (maxSteps := 2000000) (disch := omega) only [go_sem, seval]
  try repeat ((with_reducible refine And.intro ?_ ?_); focus (first | omega | assumption | exact True.intro | (show anyD _ _ = true; exact rfl) | (simp only [List.length_map, List.length_append, List.length_cons, List.length_nil, List.length_take, List.length_drop]; omega)))
  (first | refine callP.mk (below_c c hc) rfl ?_ | refine callQ.mk (below_c c hc) rfl ?_ | refine callO.rd (below_c c hc) rfl ?_ | refine callO.mk (below_c c hc) rfl ?_)
  try simp (maxSteps := 2000000) (disch := omega) only [go_sem, seval]
  try repeat ((with_reducible refine And.intro ?_ ?_); focus (first | omega | assumption | exact True.intro | (show anyD _ _ = true; exact rfl) | (simp only [List.length_map, List.length_append, List.length_cons, List.length_nil, List.length_take, List.length_drop]; omega)))
  (first | refine callP.mk (jUnion_c e (oneE e.rep c) he (oneE_right he.2.2.2 hc) le (by show (below c).length ≤ _; omega)) rfl ?_ | refine callQ.mk (jUnion_c e (oneE e.rep c) he (oneE_right he.2.2.2 hc) le (by show (below c).length ≤ _; omega)) rfl ?_ | refine callO.rd (jUnion_c e (oneE e.rep c) he (oneE_right he.2.2.2 hc) le (by show (below c).length ≤ _; omega)) rfl ?_ | refine callO.mk (jUnion_c e (oneE e.rep c) he (oneE_right he.2.2.2 hc) le (by show (below c).length ≤ _; omega)) rfl ?_)
  try simp (maxSteps := 2000000) (disch := omega) only [go_sem, seval]
  try repeat ((with_reducible refine And.intro ?_ ?_); focus (first | omega | assumption | exact True.intro | (show anyD _ _ = true; exact rfl) | (simp only [List.length_map, List.length_append, List.length_cons, List.length_nil, List.length_take, List.length_drop]; omega)))
  rfl
end Go.Proofs.YtcedofkenfddkaaDoor
