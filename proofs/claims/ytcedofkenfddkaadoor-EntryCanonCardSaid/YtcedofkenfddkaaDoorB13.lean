/- Texts of this claim, bound together: T17. -/
import Derived.Test.YtcedofkenfddkaaDoorB12
/- The laws of chapter 7: they return true. -/
namespace Go.Proofs.YtcedofkenfddkaaDoor
set_option linter.unusedVariables false
set_option linter.unusedSimpArgs false
open Go.RowKit
set_option maxRecDepth 100000
set_option maxHeartbeats 2000000 in
theorem entryChecks_c (e : En) (he : BdE e) : Cn Tryd.prog 7 [ep e] (.v (.bool true)) := by
  have hat := at_c (chkE e).1 (chkE e).2
  have hco := code_c (chkE e).1 (chkE e).2
  rw [chkE_at] at hat
  refine cn_go Tryd.func7 [] 1 (by kernel_rfl) rfl (by simp [go_sem, seval]) ?_
  conv => arg 4; cbv
  conv => enter [5, 1]; cbv
  try simp (maxSteps := 2000000) (disch := omega) only [go_sem, seval]
  try repeat ((with_reducible refine And.intro ?_ ?_); focus (first | omega | assumption | exact True.intro | (show anyD _ _ = true; exact rfl) | (simp only [List.length_map, List.length_append, List.length_cons, List.length_nil, List.length_take, List.length_drop]; omega)))
  (first | refine brP.mk (fun h => ?_) (fun h => ?_) | refine gdP.mkt (fun h => ?_) (fun h => ?_) | refine gdP.mkf (fun h => ?_) (fun h => ?_) | refine pkP.mk (fun h => ?_) (fun h => ?_)) <;> (try simp only [Bool.not_true, Bool.not_false, decide_eq_true_eq, decide_eq_false_iff_not, Bool.and_eq_true, Bool.or_eq_true, Bool.not_eq_true', Bool.not_eq_false', Bool.and_eq_false_iff, Bool.or_eq_false_iff, Nat.not_lt, Int.not_lt, Nat.not_le, Int.not_le, Int.ofNat_lt, Int.ofNat_le, Int.ofNat_inj, Bool.xor_false, Bool.false_xor, Bool.true_xor, Bool.xor_true] at h) <;> (try simp (maxSteps := 2000000) (disch := omega) only [go_sem, seval]) <;> (try repeat ((with_reducible refine And.intro ?_ ?_); focus (first | omega | assumption | exact True.intro | (show anyD _ _ = true; exact rfl) | (simp only [List.length_map, List.length_append, List.length_cons, List.length_nil, List.length_take, List.length_drop]; omega))))
  · (first | refine callP.mk (alive7_c) rfl ?_ | refine callQ.mk (alive7_c) rfl ?_ | refine callO.rd (alive7_c) rfl ?_ | refine callO.mk (alive7_c) rfl ?_)
    try simp (maxSteps := 2000000) (disch := omega) only [go_sem, seval]
    try repeat ((with_reducible refine And.intro ?_ ?_); focus (first | omega | assumption | exact True.intro | (show anyD _ _ = true; exact rfl) | (simp only [List.length_map, List.length_append, List.length_cons, List.length_nil, List.length_take, List.length_drop]; omega)))
  · (first | refine callP.mk (echeck_c e he.1 (by omega) (.inr (codeN_c 2))) rfl ?_ | refine callQ.mk (echeck_c e he.1 (by omega) (.inr (codeN_c 2))) rfl ?_ | refine callO.rd (echeck_c e he.1 (by omega) (.inr (codeN_c 2))) rfl ?_ | refine callO.mk (echeck_c e he.1 (by omega) (.inr (codeN_c 2))) rfl ?_)
    by_cases hz : (chkE e).1 = 0
    · rw [errV_nil hz] at hat hco ⊢
      try simp (maxSteps := 2000000) (disch := omega) only [go_sem, seval]
      try repeat ((with_reducible refine And.intro ?_ ?_); focus (first | omega | assumption | exact True.intro | (show anyD _ _ = true; exact rfl) | (simp only [List.length_map, List.length_append, List.length_cons, List.length_nil, List.length_take, List.length_drop]; omega)))
      (first | refine callP.mk (check7_c e (by omega) he.1) rfl ?_ | refine callQ.mk (check7_c e (by omega) he.1) rfl ?_ | refine callO.rd (check7_c e (by omega) he.1) rfl ?_ | refine callO.mk (check7_c e (by omega) he.1) rfl ?_)
      try simp (maxSteps := 2000000) (disch := omega) only [go_sem, seval]
      try repeat ((with_reducible refine And.intro ?_ ?_); focus (first | omega | assumption | exact True.intro | (show anyD _ _ = true; exact rfl) | (simp only [List.length_map, List.length_append, List.length_cons, List.length_nil, List.length_take, List.length_drop]; omega)))
      (first | refine callP.mk (alive7_c) rfl ?_ | refine callQ.mk (alive7_c) rfl ?_ | refine callO.rd (alive7_c) rfl ?_ | refine callO.mk (alive7_c) rfl ?_)
      try simp (maxSteps := 2000000) (disch := omega) only [go_sem, seval]
      try repeat ((with_reducible refine And.intro ?_ ?_); focus (first | omega | assumption | exact True.intro | (show anyD _ _ = true; exact rfl) | (simp only [List.length_map, List.length_append, List.length_cons, List.length_nil, List.length_take, List.length_drop]; omega)))
      (first | refine callP.mk (hco) rfl ?_ | refine callQ.mk (hco) rfl ?_ | refine callO.rd (hco) rfl ?_ | refine callO.mk (hco) rfl ?_)
      try simp (maxSteps := 2000000) (disch := omega) only [go_sem, seval]
      try repeat ((with_reducible refine And.intro ?_ ?_); focus (first | omega | assumption | exact True.intro | (show anyD _ _ = true; exact rfl) | (simp only [List.length_map, List.length_append, List.length_cons, List.length_nil, List.length_take, List.length_drop]; omega)))
      (first | refine callP.mk (hat) rfl ?_ | refine callQ.mk (hat) rfl ?_ | refine callO.rd (hat) rfl ?_ | refine callO.mk (hat) rfl ?_)
      try simp (maxSteps := 2000000) (disch := omega) only [go_sem, seval]
      try repeat ((with_reducible refine And.intro ?_ ?_); focus (first | omega | assumption | exact True.intro | (show anyD _ _ = true; exact rfl) | (simp only [List.length_map, List.length_append, List.length_cons, List.length_nil, List.length_take, List.length_drop]; omega)))
      (first | refine callP.mk (ecanonical_c e he.1 he.2.1 he.2.2 (by omega) (.inr (codeN_c 2))) rfl ?_ | refine callQ.mk (ecanonical_c e he.1 he.2.1 he.2.2 (by omega) (.inr (codeN_c 2))) rfl ?_ | refine callO.rd (ecanonical_c e he.1 he.2.1 he.2.2 (by omega) (.inr (codeN_c 2))) rfl ?_ | refine callO.mk (ecanonical_c e he.1 he.2.1 he.2.2 (by omega) (.inr (codeN_c 2))) rfl ?_)
      try simp (maxSteps := 2000000) (disch := omega) only [go_sem, seval]
      try repeat ((with_reducible refine And.intro ?_ ?_); focus (first | omega | assumption | exact True.intro | (show anyD _ _ = true; exact rfl) | (simp only [List.length_map, List.length_append, List.length_cons, List.length_nil, List.length_take, List.length_drop]; omega)))
      (first | refine callP.mk (canonical7_c e (by omega) he.1) rfl ?_ | refine callQ.mk (canonical7_c e (by omega) he.1) rfl ?_ | refine callO.rd (canonical7_c e (by omega) he.1) rfl ?_ | refine callO.mk (canonical7_c e (by omega) he.1) rfl ?_)
      try simp (maxSteps := 2000000) (disch := omega) only [go_sem, seval]
      try repeat ((with_reducible refine And.intro ?_ ?_); focus (first | omega | assumption | exact True.intro | (show anyD _ _ = true; exact rfl) | (simp only [List.length_map, List.length_append, List.length_cons, List.length_nil, List.length_take, List.length_drop]; omega)))
    · rw [errV_ifc hz] at hat hco ⊢
      try simp (maxSteps := 2000000) (disch := omega) only [go_sem, seval]
      try repeat ((with_reducible refine And.intro ?_ ?_); focus (first | omega | assumption | exact True.intro | (show anyD _ _ = true; exact rfl) | (simp only [List.length_map, List.length_append, List.length_cons, List.length_nil, List.length_take, List.length_drop]; omega)))
      (first | refine callP.mk (check7_c e (by omega) he.1) rfl ?_ | refine callQ.mk (check7_c e (by omega) he.1) rfl ?_ | refine callO.rd (check7_c e (by omega) he.1) rfl ?_ | refine callO.mk (check7_c e (by omega) he.1) rfl ?_)
      try simp (maxSteps := 2000000) (disch := omega) only [go_sem, seval]
      try repeat ((with_reducible refine And.intro ?_ ?_); focus (first | omega | assumption | exact True.intro | (show anyD _ _ = true; exact rfl) | (simp only [List.length_map, List.length_append, List.length_cons, List.length_nil, List.length_take, List.length_drop]; omega)))
      (first | refine callP.mk (alive7_c) rfl ?_ | refine callQ.mk (alive7_c) rfl ?_ | refine callO.rd (alive7_c) rfl ?_ | refine callO.mk (alive7_c) rfl ?_)
      try simp (maxSteps := 2000000) (disch := omega) only [go_sem, seval]
      try repeat ((with_reducible refine And.intro ?_ ?_); focus (first | omega | assumption | exact True.intro | (show anyD _ _ = true; exact rfl) | (simp only [List.length_map, List.length_append, List.length_cons, List.length_nil, List.length_take, List.length_drop]; omega)))
      (first | refine callP.mk (hco) rfl ?_ | refine callQ.mk (hco) rfl ?_ | refine callO.rd (hco) rfl ?_ | refine callO.mk (hco) rfl ?_)
      try simp (maxSteps := 2000000) (disch := omega) only [go_sem, seval]
      try repeat ((with_reducible refine And.intro ?_ ?_); focus (first | omega | assumption | exact True.intro | (show anyD _ _ = true; exact rfl) | (simp only [List.length_map, List.length_append, List.length_cons, List.length_nil, List.length_take, List.length_drop]; omega)))
      (first | refine callP.mk (hat) rfl ?_ | refine callQ.mk (hat) rfl ?_ | refine callO.rd (hat) rfl ?_ | refine callO.mk (hat) rfl ?_)
      try simp (maxSteps := 2000000) (disch := omega) only [go_sem, seval]
      try repeat ((with_reducible refine And.intro ?_ ?_); focus (first | omega | assumption | exact True.intro | (show anyD _ _ = true; exact rfl) | (simp only [List.length_map, List.length_append, List.length_cons, List.length_nil, List.length_take, List.length_drop]; omega)))
      (first | refine callP.mk (ecanonical_c e he.1 he.2.1 he.2.2 (by omega) (.inr (codeN_c 2))) rfl ?_ | refine callQ.mk (ecanonical_c e he.1 he.2.1 he.2.2 (by omega) (.inr (codeN_c 2))) rfl ?_ | refine callO.rd (ecanonical_c e he.1 he.2.1 he.2.2 (by omega) (.inr (codeN_c 2))) rfl ?_ | refine callO.mk (ecanonical_c e he.1 he.2.1 he.2.2 (by omega) (.inr (codeN_c 2))) rfl ?_)
      try simp (maxSteps := 2000000) (disch := omega) only [go_sem, seval]
      try repeat ((with_reducible refine And.intro ?_ ?_); focus (first | omega | assumption | exact True.intro | (show anyD _ _ = true; exact rfl) | (simp only [List.length_map, List.length_append, List.length_cons, List.length_nil, List.length_take, List.length_drop]; omega)))
      (first | refine callP.mk (canonical7_c e (by omega) he.1) rfl ?_ | refine callQ.mk (canonical7_c e (by omega) he.1) rfl ?_ | refine callO.rd (canonical7_c e (by omega) he.1) rfl ?_ | refine callO.mk (canonical7_c e (by omega) he.1) rfl ?_)
      try simp (maxSteps := 2000000) (disch := omega) only [go_sem, seval]
      try repeat ((with_reducible refine And.intro ?_ ?_); focus (first | omega | assumption | exact True.intro | (show anyD _ _ = true; exact rfl) | (simp only [List.length_map, List.length_append, List.length_cons, List.length_nil, List.length_take, List.length_drop]; omega)))
set_option maxHeartbeats 2000000 in
theorem entryKnows_c (e : En) (c : Nat) (he : BdE e) (hc : c < M64) : Cn Tryd.prog 4 [ep e, .v (.int .u64 c)] (.v (.bool true)) := by
  refine cn_go Tryd.func4 [] 2 (by kernel_rfl) rfl (by simp [go_sem, seval]) ?_
  conv => arg 4; cbv
  conv => enter [5, 1]; cbv
  try simp (maxSteps := 2000000) (disch := omega) only [go_sem, seval]
  try repeat ((with_reducible refine And.intro ?_ ?_); focus (first | omega | assumption | exact True.intro | (show anyD _ _ = true; exact rfl) | (simp only [List.length_map, List.length_append, List.length_cons, List.length_nil, List.length_take, List.length_drop]; omega)))
  (first | refine brP.mk (fun h => ?_) (fun h => ?_) | refine gdP.mkt (fun h => ?_) (fun h => ?_) | refine gdP.mkf (fun h => ?_) (fun h => ?_) | refine pkP.mk (fun h => ?_) (fun h => ?_)) <;> (try simp only [Bool.not_true, Bool.not_false, decide_eq_true_eq, decide_eq_false_iff_not, Bool.and_eq_true, Bool.or_eq_true, Bool.not_eq_true', Bool.not_eq_false', Bool.and_eq_false_iff, Bool.or_eq_false_iff, Nat.not_lt, Int.not_lt, Nat.not_le, Int.not_le, Int.ofNat_lt, Int.ofNat_le, Int.ofNat_inj, Bool.xor_false, Bool.false_xor, Bool.true_xor, Bool.xor_true] at h) <;> (try simp (maxSteps := 2000000) (disch := omega) only [go_sem, seval]) <;> (try repeat ((with_reducible refine And.intro ?_ ?_); focus (first | omega | assumption | exact True.intro | (show anyD _ _ = true; exact rfl) | (simp only [List.length_map, List.length_append, List.length_cons, List.length_nil, List.length_take, List.length_drop]; omega))))
  · (first | refine callP.mk (alive7_c) rfl ?_ | refine callQ.mk (alive7_c) rfl ?_ | refine callO.rd (alive7_c) rfl ?_ | refine callO.mk (alive7_c) rfl ?_)
    try simp (maxSteps := 2000000) (disch := omega) only [go_sem, seval]
    try repeat ((with_reducible refine And.intro ?_ ?_); focus (first | omega | assumption | exact True.intro | (show anyD _ _ = true; exact rfl) | (simp only [List.length_map, List.length_append, List.length_cons, List.length_nil, List.length_take, List.length_drop]; omega)))
  · (first | refine callP.mk (right7_c e (by omega) he.1) rfl ?_ | refine callQ.mk (right7_c e (by omega) he.1) rfl ?_ | refine callO.rd (right7_c e (by omega) he.1) rfl ?_ | refine callO.mk (right7_c e (by omega) he.1) rfl ?_)
    try simp (maxSteps := 2000000) (disch := omega) only [go_sem, seval]
    try repeat ((with_reducible refine And.intro ?_ ?_); focus (first | omega | assumption | exact True.intro | (show anyD _ _ = true; exact rfl) | (simp only [List.length_map, List.length_append, List.length_cons, List.length_nil, List.length_take, List.length_drop]; omega)))
    (first | refine brP.mk (fun hr => ?_) (fun hr => ?_) | refine gdP.mkt (fun hr => ?_) (fun hr => ?_) | refine gdP.mkf (fun hr => ?_) (fun hr => ?_) | refine pkP.mk (fun hr => ?_) (fun hr => ?_)) <;> (try simp only [Bool.not_true, Bool.not_false, decide_eq_true_eq, decide_eq_false_iff_not, Bool.and_eq_true, Bool.or_eq_true, Bool.not_eq_true', Bool.not_eq_false', Bool.and_eq_false_iff, Bool.or_eq_false_iff, Nat.not_lt, Int.not_lt, Nat.not_le, Int.not_le, Int.ofNat_lt, Int.ofNat_le, Int.ofNat_inj, Bool.xor_false, Bool.false_xor, Bool.true_xor, Bool.xor_true] at hr) <;> (try simp (maxSteps := 2000000) (disch := omega) only [go_sem, seval]) <;> (try repeat ((with_reducible refine And.intro ?_ ?_); focus (first | omega | assumption | exact True.intro | (show anyD _ _ = true; exact rfl) | (simp only [List.length_map, List.length_append, List.length_cons, List.length_nil, List.length_take, List.length_drop]; omega))))
    · (first | refine callP.mk (alive7_c) rfl ?_ | refine callQ.mk (alive7_c) rfl ?_ | refine callO.rd (alive7_c) rfl ?_ | refine callO.mk (alive7_c) rfl ?_)
      try simp (maxSteps := 2000000) (disch := omega) only [go_sem, seval]
      try repeat ((with_reducible refine And.intro ?_ ?_); focus (first | omega | assumption | exact True.intro | (show anyD _ _ = true; exact rfl) | (simp only [List.length_map, List.length_append, List.length_cons, List.length_nil, List.length_take, List.length_drop]; omega)))
    · have re := (rightEB_iff he.1 he.2.1 he.2.2).1 hr
      have l1 := kn_length e
      (first | refine callP.mk (eknown_c e re (by omega)) rfl ?_ | refine callQ.mk (eknown_c e re (by omega)) rfl ?_ | refine callO.rd (eknown_c e re (by omega)) rfl ?_ | refine callO.mk (eknown_c e re (by omega)) rfl ?_)
      try simp (maxSteps := 2000000) (disch := omega) only [go_sem, seval]
      try repeat ((with_reducible refine And.intro ?_ ?_); focus (first | omega | assumption | exact True.intro | (show anyD _ _ = true; exact rfl) | (simp only [List.length_map, List.length_append, List.length_cons, List.length_nil, List.length_take, List.length_drop]; omega)))
      (first | refine callP.mk (alive7_c) rfl ?_ | refine callQ.mk (alive7_c) rfl ?_ | refine callO.rd (alive7_c) rfl ?_ | refine callO.mk (alive7_c) rfl ?_)
      try simp (maxSteps := 2000000) (disch := omega) only [go_sem, seval]
      try repeat ((with_reducible refine And.intro ?_ ?_); focus (first | omega | assumption | exact True.intro | (show anyD _ _ = true; exact rfl) | (simp only [List.length_map, List.length_append, List.length_cons, List.length_nil, List.length_take, List.length_drop]; omega)))
      (first | refine callP.mk (ehas_c e c re (by omega)) rfl ?_ | refine callQ.mk (ehas_c e c re (by omega)) rfl ?_ | refine callO.rd (ehas_c e c re (by omega)) rfl ?_ | refine callO.mk (ehas_c e c re (by omega)) rfl ?_)
      try simp (maxSteps := 2000000) (disch := omega) only [go_sem, seval]
      try repeat ((with_reducible refine And.intro ?_ ?_); focus (first | omega | assumption | exact True.intro | (show anyD _ _ = true; exact rfl) | (simp only [List.length_map, List.length_append, List.length_cons, List.length_nil, List.length_take, List.length_drop]; omega)))
      (first | refine callP.mk (has7_c e c (by omega)) rfl ?_ | refine callQ.mk (has7_c e c (by omega)) rfl ?_ | refine callO.rd (has7_c e c (by omega)) rfl ?_ | refine callO.mk (has7_c e c (by omega)) rfl ?_)
      try simp (maxSteps := 2000000) (disch := omega) only [go_sem, seval]
      try repeat ((with_reducible refine And.intro ?_ ?_); focus (first | omega | assumption | exact True.intro | (show anyD _ _ = true; exact rfl) | (simp only [List.length_map, List.length_append, List.length_cons, List.length_nil, List.length_take, List.length_drop]; omega)))
      (first | refine callP.mk (known7_c e re (by omega)) rfl ?_ | refine callQ.mk (known7_c e re (by omega)) rfl ?_ | refine callO.rd (known7_c e re (by omega)) rfl ?_ | refine callO.mk (known7_c e re (by omega)) rfl ?_)
      try simp (maxSteps := 2000000) (disch := omega) only [go_sem, seval]
      try repeat ((with_reducible refine And.intro ?_ ?_); focus (first | omega | assumption | exact True.intro | (show anyD _ _ = true; exact rfl) | (simp only [List.length_map, List.length_append, List.length_cons, List.length_nil, List.length_take, List.length_drop]; omega)))
      (first | refine callP.mk (same4_c (kn e) (kn e) (by omega)) rfl ?_ | refine callQ.mk (same4_c (kn e) (kn e) (by omega)) rfl ?_ | refine callO.rd (same4_c (kn e) (kn e) (by omega)) rfl ?_ | refine callO.mk (same4_c (kn e) (kn e) (by omega)) rfl ?_)
      try simp (maxSteps := 2000000) (disch := omega) only [go_sem, seval]
      try repeat ((with_reducible refine And.intro ?_ ?_); focus (first | omega | assumption | exact True.intro | (show anyD _ _ = true; exact rfl) | (simp only [List.length_map, List.length_append, List.length_cons, List.length_nil, List.length_take, List.length_drop]; omega)))
      (first | refine callP.mk (has4_c (kn e) c (by omega)) rfl ?_ | refine callQ.mk (has4_c (kn e) c (by omega)) rfl ?_ | refine callO.rd (has4_c (kn e) c (by omega)) rfl ?_ | refine callO.mk (has4_c (kn e) c (by omega)) rfl ?_)
      rw [kn_mem re hc]
      try simp (maxSteps := 2000000) (disch := omega) only [go_sem, seval]
      try repeat ((with_reducible refine And.intro ?_ ?_); focus (first | omega | assumption | exact True.intro | (show anyD _ _ = true; exact rfl) | (simp only [List.length_map, List.length_append, List.length_cons, List.length_nil, List.length_take, List.length_drop]; omega)))
      (first | refine callP.mk (has7_c e c (by omega)) rfl ?_ | refine callQ.mk (has7_c e c (by omega)) rfl ?_ | refine callO.rd (has7_c e c (by omega)) rfl ?_ | refine callO.mk (has7_c e c (by omega)) rfl ?_)
      try simp (maxSteps := 2000000) (disch := omega) only [go_sem, seval]
      try repeat ((with_reducible refine And.intro ?_ ?_); focus (first | omega | assumption | exact True.intro | (show anyD _ _ = true; exact rfl) | (simp only [List.length_map, List.length_append, List.length_cons, List.length_nil, List.length_take, List.length_drop]; omega)))
set_option maxHeartbeats 2000000 in
theorem entryOf_c (r : Nat) (l : List Iv) (hr : r < M64) (hb : BdR l) : Cn Tryd.prog 5 [.v (.int .u64 r), rg l] (.v (.bool true)) := by
  refine cn_go Tryd.func5 [] 2 (by kernel_rfl) rfl (by simp [go_sem, seval]) ?_
  conv => arg 4; cbv
  conv => enter [5, 1]; cbv
  try simp (maxSteps := 2000000) (disch := omega) only [go_sem, seval]
  try repeat ((with_reducible refine And.intro ?_ ?_); focus (first | omega | assumption | exact True.intro | (show anyD _ _ = true; exact rfl) | (simp only [List.length_map, List.length_append, List.length_cons, List.length_nil, List.length_take, List.length_drop]; omega)))
  (first | refine brP.mk (fun h => ?_) (fun h => ?_) | refine gdP.mkt (fun h => ?_) (fun h => ?_) | refine gdP.mkf (fun h => ?_) (fun h => ?_) | refine pkP.mk (fun h => ?_) (fun h => ?_)) <;> (try simp only [Bool.not_true, Bool.not_false, decide_eq_true_eq, decide_eq_false_iff_not, Bool.and_eq_true, Bool.or_eq_true, Bool.not_eq_true', Bool.not_eq_false', Bool.and_eq_false_iff, Bool.or_eq_false_iff, Nat.not_lt, Int.not_lt, Nat.not_le, Int.not_le, Int.ofNat_lt, Int.ofNat_le, Int.ofNat_inj, Bool.xor_false, Bool.false_xor, Bool.true_xor, Bool.xor_true] at h) <;> (try simp (maxSteps := 2000000) (disch := omega) only [go_sem, seval]) <;> (try repeat ((with_reducible refine And.intro ?_ ?_); focus (first | omega | assumption | exact True.intro | (show anyD _ _ = true; exact rfl) | (simp only [List.length_map, List.length_append, List.length_cons, List.length_nil, List.length_take, List.length_drop]; omega))))
  · (first | refine callP.mk (alive7_c) rfl ?_ | refine callQ.mk (alive7_c) rfl ?_ | refine callO.rd (alive7_c) rfl ?_ | refine callO.mk (alive7_c) rfl ?_)
    try simp (maxSteps := 2000000) (disch := omega) only [go_sem, seval]
    try repeat ((with_reducible refine And.intro ?_ ?_); focus (first | omega | assumption | exact True.intro | (show anyD _ _ = true; exact rfl) | (simp only [List.length_map, List.length_append, List.length_cons, List.length_nil, List.length_take, List.length_drop]; omega)))
  · (first | refine callP.mk (right4_c l (by omega) hb) rfl ?_ | refine callQ.mk (right4_c l (by omega) hb) rfl ?_ | refine callO.rd (right4_c l (by omega) hb) rfl ?_ | refine callO.mk (right4_c l (by omega) hb) rfl ?_)
    try simp (maxSteps := 2000000) (disch := omega) only [go_sem, seval]
    try repeat ((with_reducible refine And.intro ?_ ?_); focus (first | omega | assumption | exact True.intro | (show anyD _ _ = true; exact rfl) | (simp only [List.length_map, List.length_append, List.length_cons, List.length_nil, List.length_take, List.length_drop]; omega)))
    (first | refine brP.mk (fun hn => ?_) (fun hn => ?_) | refine gdP.mkt (fun hn => ?_) (fun hn => ?_) | refine gdP.mkf (fun hn => ?_) (fun hn => ?_) | refine pkP.mk (fun hn => ?_) (fun hn => ?_)) <;> (try simp only [Bool.not_true, Bool.not_false, decide_eq_true_eq, decide_eq_false_iff_not, Bool.and_eq_true, Bool.or_eq_true, Bool.not_eq_true', Bool.not_eq_false', Bool.and_eq_false_iff, Bool.or_eq_false_iff, Nat.not_lt, Int.not_lt, Nat.not_le, Int.not_le, Int.ofNat_lt, Int.ofNat_le, Int.ofNat_inj, Bool.xor_false, Bool.false_xor, Bool.true_xor, Bool.xor_true] at hn) <;> (try simp (maxSteps := 2000000) (disch := omega) only [go_sem, seval]) <;> (try repeat ((with_reducible refine And.intro ?_ ?_); focus (first | omega | assumption | exact True.intro | (show anyD _ _ = true; exact rfl) | (simp only [List.length_map, List.length_append, List.length_cons, List.length_nil, List.length_take, List.length_drop]; omega))))
    · (first | refine callP.mk (alive7_c) rfl ?_ | refine callQ.mk (alive7_c) rfl ?_ | refine callO.rd (alive7_c) rfl ?_ | refine callO.mk (alive7_c) rfl ?_)
      try simp (maxSteps := 2000000) (disch := omega) only [go_sem, seval]
      try repeat ((with_reducible refine And.intro ?_ ?_); focus (first | omega | assumption | exact True.intro | (show anyD _ _ = true; exact rfl) | (simp only [List.length_map, List.length_append, List.length_cons, List.length_nil, List.length_take, List.length_drop]; omega)))
    · have nl := (rightB_iff fun s hs => (hb s hs).2).1 hn
      have l1 := ofS_length r l
      (first | refine callP.mk (eof_c r l nl (by omega)) rfl ?_ | refine callQ.mk (eof_c r l nl (by omega)) rfl ?_ | refine callO.rd (eof_c r l nl (by omega)) rfl ?_ | refine callO.mk (eof_c r l nl (by omega)) rfl ?_)
      try simp (maxSteps := 2000000) (disch := omega) only [go_sem, seval]
      try repeat ((with_reducible refine And.intro ?_ ?_); focus (first | omega | assumption | exact True.intro | (show anyD _ _ = true; exact rfl) | (simp only [List.length_map, List.length_append, List.length_cons, List.length_nil, List.length_take, List.length_drop]; omega)))
      (first | refine callP.mk (of7_c r l nl (by omega)) rfl ?_ | refine callQ.mk (of7_c r l nl (by omega)) rfl ?_ | refine callO.rd (of7_c r l nl (by omega)) rfl ?_ | refine callO.mk (of7_c r l nl (by omega)) rfl ?_)
      try simp (maxSteps := 2000000) (disch := omega) only [go_sem, seval]
      try repeat ((with_reducible refine And.intro ?_ ?_); focus (first | omega | assumption | exact True.intro | (show anyD _ _ = true; exact rfl) | (simp only [List.length_map, List.length_append, List.length_cons, List.length_nil, List.length_take, List.length_drop]; omega)))
      (first | refine callP.mk (same7_c (ofS r l).1 (ofS r l).1 (by omega)) rfl ?_ | refine callQ.mk (same7_c (ofS r l).1 (ofS r l).1 (by omega)) rfl ?_ | refine callO.rd (same7_c (ofS r l).1 (ofS r l).1 (by omega)) rfl ?_ | refine callO.mk (same7_c (ofS r l).1 (ofS r l).1 (by omega)) rfl ?_)
      try simp (maxSteps := 2000000) (disch := omega) only [go_sem, seval]
      try repeat ((with_reducible refine And.intro ?_ ?_); focus (first | omega | assumption | exact True.intro | (show anyD _ _ = true; exact rfl) | (simp only [List.length_map, List.length_append, List.length_cons, List.length_nil, List.length_take, List.length_drop]; omega)))
      (first | refine callP.mk (alive7_c) rfl ?_ | refine callQ.mk (alive7_c) rfl ?_ | refine callO.rd (alive7_c) rfl ?_ | refine callO.mk (alive7_c) rfl ?_)
      try simp (maxSteps := 2000000) (disch := omega) only [go_sem, seval]
      try repeat ((with_reducible refine And.intro ?_ ?_); focus (first | omega | assumption | exact True.intro | (show anyD _ _ = true; exact rfl) | (simp only [List.length_map, List.length_append, List.length_cons, List.length_nil, List.length_take, List.length_drop]; omega)))
      by_cases hl : l = []
      · subst hl
        rw [ofS_nil]
        try simp (maxSteps := 2000000) (disch := omega) only [go_sem, seval]
        try repeat ((with_reducible refine And.intro ?_ ?_); focus (first | omega | assumption | exact True.intro | (show anyD _ _ = true; exact rfl) | (simp only [List.length_map, List.length_append, List.length_cons, List.length_nil, List.length_take, List.length_drop]; omega)))
      · rw [ofS_2, decide_eq_true (show l ≠ [] from hl)]
        try simp (maxSteps := 2000000) (disch := omega) only [go_sem, seval]
        try repeat ((with_reducible refine And.intro ?_ ?_); focus (first | omega | assumption | exact True.intro | (show anyD _ _ = true; exact rfl) | (simp only [List.length_map, List.length_append, List.length_cons, List.length_nil, List.length_take, List.length_drop]; omega)))
        (first | refine callP.mk (canOk_c (ofS r l).1 (ofS_can hr nl hl) (by omega)) rfl ?_ | refine callQ.mk (canOk_c (ofS r l).1 (ofS_can hr nl hl) (by omega)) rfl ?_ | refine callO.rd (canOk_c (ofS r l).1 (ofS_can hr nl hl) (by omega)) rfl ?_ | refine callO.mk (canOk_c (ofS r l).1 (ofS_can hr nl hl) (by omega)) rfl ?_)
        try simp (maxSteps := 2000000) (disch := omega) only [go_sem, seval]
        try repeat ((with_reducible refine And.intro ?_ ?_); focus (first | omega | assumption | exact True.intro | (show anyD _ _ = true; exact rfl) | (simp only [List.length_map, List.length_append, List.length_cons, List.length_nil, List.length_take, List.length_drop]; omega)))
        (first | refine callP.mk (eknown_c (ofS r l).1 (ofS_right hr nl) (by omega)) rfl ?_ | refine callQ.mk (eknown_c (ofS r l).1 (ofS_right hr nl) (by omega)) rfl ?_ | refine callO.rd (eknown_c (ofS r l).1 (ofS_right hr nl) (by omega)) rfl ?_ | refine callO.mk (eknown_c (ofS r l).1 (ofS_right hr nl) (by omega)) rfl ?_)
        rw [kn_ofS hr nl hl]
        try simp (maxSteps := 2000000) (disch := omega) only [go_sem, seval]
        try repeat ((with_reducible refine And.intro ?_ ?_); focus (first | omega | assumption | exact True.intro | (show anyD _ _ = true; exact rfl) | (simp only [List.length_map, List.length_append, List.length_cons, List.length_nil, List.length_take, List.length_drop]; omega)))
        (first | refine callP.mk (same4_c l l (by omega)) rfl ?_ | refine callQ.mk (same4_c l l (by omega)) rfl ?_ | refine callO.rd (same4_c l l (by omega)) rfl ?_ | refine callO.mk (same4_c l l (by omega)) rfl ?_)
        try simp (maxSteps := 2000000) (disch := omega) only [go_sem, seval]
        try repeat ((with_reducible refine And.intro ?_ ?_); focus (first | omega | assumption | exact True.intro | (show anyD _ _ = true; exact rfl) | (simp only [List.length_map, List.length_append, List.length_cons, List.length_nil, List.length_take, List.length_drop]; omega)))
set_option maxHeartbeats 2000000 in
theorem entrySame_c (a b : En) (ha : BdE a) (hb : BdE b) : Cn Tryd.prog 8 [ep a, ep b] (.v (.bool true)) := by
  refine cn_go Tryd.func8 [] 2 (by kernel_rfl) rfl (by simp [go_sem, seval]) ?_
  conv => arg 4; cbv
  conv => enter [5, 1]; cbv
  try simp (maxSteps := 2000000) (disch := omega) only [go_sem, seval]
  try repeat ((with_reducible refine And.intro ?_ ?_); focus (first | omega | assumption | exact True.intro | (show anyD _ _ = true; exact rfl) | (simp only [List.length_map, List.length_append, List.length_cons, List.length_nil, List.length_take, List.length_drop]; omega)))
  (first | refine brP.mk (fun h => ?_) (fun h => ?_) | refine gdP.mkt (fun h => ?_) (fun h => ?_) | refine gdP.mkf (fun h => ?_) (fun h => ?_) | refine pkP.mk (fun h => ?_) (fun h => ?_)) <;> (try simp only [Bool.not_true, Bool.not_false, decide_eq_true_eq, decide_eq_false_iff_not, Bool.and_eq_true, Bool.or_eq_true, Bool.not_eq_true', Bool.not_eq_false', Bool.and_eq_false_iff, Bool.or_eq_false_iff, Nat.not_lt, Int.not_lt, Nat.not_le, Int.not_le, Int.ofNat_lt, Int.ofNat_le, Int.ofNat_inj, Bool.xor_false, Bool.false_xor, Bool.true_xor, Bool.xor_true] at h) <;> (try simp (maxSteps := 2000000) (disch := omega) only [go_sem, seval]) <;> (try repeat ((with_reducible refine And.intro ?_ ?_); focus (first | omega | assumption | exact True.intro | (show anyD _ _ = true; exact rfl) | (simp only [List.length_map, List.length_append, List.length_cons, List.length_nil, List.length_take, List.length_drop]; omega))))
  · (first | refine callP.mk (alive7_c) rfl ?_ | refine callQ.mk (alive7_c) rfl ?_ | refine callO.rd (alive7_c) rfl ?_ | refine callO.mk (alive7_c) rfl ?_)
    try simp (maxSteps := 2000000) (disch := omega) only [go_sem, seval]
    try repeat ((with_reducible refine And.intro ?_ ?_); focus (first | omega | assumption | exact True.intro | (show anyD _ _ = true; exact rfl) | (simp only [List.length_map, List.length_append, List.length_cons, List.length_nil, List.length_take, List.length_drop]; omega)))
  · (first | refine brP.mk (fun h2 => ?_) (fun h2 => ?_) | refine gdP.mkt (fun h2 => ?_) (fun h2 => ?_) | refine gdP.mkf (fun h2 => ?_) (fun h2 => ?_) | refine pkP.mk (fun h2 => ?_) (fun h2 => ?_)) <;> (try simp only [Bool.not_true, Bool.not_false, decide_eq_true_eq, decide_eq_false_iff_not, Bool.and_eq_true, Bool.or_eq_true, Bool.not_eq_true', Bool.not_eq_false', Bool.and_eq_false_iff, Bool.or_eq_false_iff, Nat.not_lt, Int.not_lt, Nat.not_le, Int.not_le, Int.ofNat_lt, Int.ofNat_le, Int.ofNat_inj, Bool.xor_false, Bool.false_xor, Bool.true_xor, Bool.xor_true] at h2) <;> (try simp (maxSteps := 2000000) (disch := omega) only [go_sem, seval]) <;> (try repeat ((with_reducible refine And.intro ?_ ?_); focus (first | omega | assumption | exact True.intro | (show anyD _ _ = true; exact rfl) | (simp only [List.length_map, List.length_append, List.length_cons, List.length_nil, List.length_take, List.length_drop]; omega))))
    · (first | refine callP.mk (alive7_c) rfl ?_ | refine callQ.mk (alive7_c) rfl ?_ | refine callO.rd (alive7_c) rfl ?_ | refine callO.mk (alive7_c) rfl ?_)
      try simp (maxSteps := 2000000) (disch := omega) only [go_sem, seval]
      try repeat ((with_reducible refine And.intro ?_ ?_); focus (first | omega | assumption | exact True.intro | (show anyD _ _ = true; exact rfl) | (simp only [List.length_map, List.length_append, List.length_cons, List.length_nil, List.length_take, List.length_drop]; omega)))
    · (first | refine callP.mk (alive7_c) rfl ?_ | refine callQ.mk (alive7_c) rfl ?_ | refine callO.rd (alive7_c) rfl ?_ | refine callO.mk (alive7_c) rfl ?_)
      try simp (maxSteps := 2000000) (disch := omega) only [go_sem, seval]
      try repeat ((with_reducible refine And.intro ?_ ?_); focus (first | omega | assumption | exact True.intro | (show anyD _ _ = true; exact rfl) | (simp only [List.length_map, List.length_append, List.length_cons, List.length_nil, List.length_take, List.length_drop]; omega)))
      (first | refine callP.mk (esame_c a b (by omega)) rfl ?_ | refine callQ.mk (esame_c a b (by omega)) rfl ?_ | refine callO.rd (esame_c a b (by omega)) rfl ?_ | refine callO.mk (esame_c a b (by omega)) rfl ?_)
      try simp (maxSteps := 2000000) (disch := omega) only [go_sem, seval]
      try repeat ((with_reducible refine And.intro ?_ ?_); focus (first | omega | assumption | exact True.intro | (show anyD _ _ = true; exact rfl) | (simp only [List.length_map, List.length_append, List.length_cons, List.length_nil, List.length_take, List.length_drop]; omega)))
      (first | refine callP.mk (same7_c a b (by omega)) rfl ?_ | refine callQ.mk (same7_c a b (by omega)) rfl ?_ | refine callO.rd (same7_c a b (by omega)) rfl ?_ | refine callO.mk (same7_c a b (by omega)) rfl ?_)
      try simp (maxSteps := 2000000) (disch := omega) only [go_sem, seval]
      try repeat ((with_reducible refine And.intro ?_ ?_); focus (first | omega | assumption | exact True.intro | (show anyD _ _ = true; exact rfl) | (simp only [List.length_map, List.length_append, List.length_cons, List.length_nil, List.length_take, List.length_drop]; omega)))
      (first | refine callP.mk (esame_c a a (by omega)) rfl ?_ | refine callQ.mk (esame_c a a (by omega)) rfl ?_ | refine callO.rd (esame_c a a (by omega)) rfl ?_ | refine callO.mk (esame_c a a (by omega)) rfl ?_)
      try simp (maxSteps := 2000000) (disch := omega) only [go_sem, seval]
      try repeat ((with_reducible refine And.intro ?_ ?_); focus (first | omega | assumption | exact True.intro | (show anyD _ _ = true; exact rfl) | (simp only [List.length_map, List.length_append, List.length_cons, List.length_nil, List.length_take, List.length_drop]; omega)))
/-- A correct entry is canonical just if its greatest counter is known. -/
theorem can_iff {e : En} (h : RightE e) : CanE e ↔ mem e.holes e.max = false := by
  refine ⟨can_max, fun hm => ⟨h, fun s hs => ?_⟩⟩
  rcases Nat.lt_or_eq_of_le (h.2.1 s hs) with h1 | h1
  · exact h1
  · have h2 := NF.lo_ge h.1 s hs
    have : mem e.holes e.max = true := mem_iff.2 ⟨s, hs, by omega, by omega⟩
    rw [hm] at this; cases this
set_option maxHeartbeats 2000000 in
theorem entryCanon_c (e : En) (he : BdE e) : Cn Tryd.prog 9 [ep e] (.v (.bool true)) := by
  refine cn_go Tryd.func9 [] 1 (by kernel_rfl) rfl (by simp [go_sem, seval]) ?_
  conv => arg 4; cbv
  conv => enter [5, 1]; cbv
  try simp (maxSteps := 2000000) (disch := omega) only [go_sem, seval]
  try repeat ((with_reducible refine And.intro ?_ ?_); focus (first | omega | assumption | exact True.intro | (show anyD _ _ = true; exact rfl) | (simp only [List.length_map, List.length_append, List.length_cons, List.length_nil, List.length_take, List.length_drop]; omega)))
  (first | refine brP.mk (fun h => ?_) (fun h => ?_) | refine gdP.mkt (fun h => ?_) (fun h => ?_) | refine gdP.mkf (fun h => ?_) (fun h => ?_) | refine pkP.mk (fun h => ?_) (fun h => ?_)) <;> (try simp only [Bool.not_true, Bool.not_false, decide_eq_true_eq, decide_eq_false_iff_not, Bool.and_eq_true, Bool.or_eq_true, Bool.not_eq_true', Bool.not_eq_false', Bool.and_eq_false_iff, Bool.or_eq_false_iff, Nat.not_lt, Int.not_lt, Nat.not_le, Int.not_le, Int.ofNat_lt, Int.ofNat_le, Int.ofNat_inj, Bool.xor_false, Bool.false_xor, Bool.true_xor, Bool.xor_true] at h) <;> (try simp (maxSteps := 2000000) (disch := omega) only [go_sem, seval]) <;> (try repeat ((with_reducible refine And.intro ?_ ?_); focus (first | omega | assumption | exact True.intro | (show anyD _ _ = true; exact rfl) | (simp only [List.length_map, List.length_append, List.length_cons, List.length_nil, List.length_take, List.length_drop]; omega))))
  · (first | refine callP.mk (alive7_c) rfl ?_ | refine callQ.mk (alive7_c) rfl ?_ | refine callO.rd (alive7_c) rfl ?_ | refine callO.mk (alive7_c) rfl ?_)
    try simp (maxSteps := 2000000) (disch := omega) only [go_sem, seval]
    try repeat ((with_reducible refine And.intro ?_ ?_); focus (first | omega | assumption | exact True.intro | (show anyD _ _ = true; exact rfl) | (simp only [List.length_map, List.length_append, List.length_cons, List.length_nil, List.length_take, List.length_drop]; omega)))
  · (first | refine callP.mk (right7_c e (by omega) he.1) rfl ?_ | refine callQ.mk (right7_c e (by omega) he.1) rfl ?_ | refine callO.rd (right7_c e (by omega) he.1) rfl ?_ | refine callO.mk (right7_c e (by omega) he.1) rfl ?_)
    try simp (maxSteps := 2000000) (disch := omega) only [go_sem, seval]
    try repeat ((with_reducible refine And.intro ?_ ?_); focus (first | omega | assumption | exact True.intro | (show anyD _ _ = true; exact rfl) | (simp only [List.length_map, List.length_append, List.length_cons, List.length_nil, List.length_take, List.length_drop]; omega)))
    (first | refine brP.mk (fun hr => ?_) (fun hr => ?_) | refine gdP.mkt (fun hr => ?_) (fun hr => ?_) | refine gdP.mkf (fun hr => ?_) (fun hr => ?_) | refine pkP.mk (fun hr => ?_) (fun hr => ?_)) <;> (try simp only [Bool.not_true, Bool.not_false, decide_eq_true_eq, decide_eq_false_iff_not, Bool.and_eq_true, Bool.or_eq_true, Bool.not_eq_true', Bool.not_eq_false', Bool.and_eq_false_iff, Bool.or_eq_false_iff, Nat.not_lt, Int.not_lt, Nat.not_le, Int.not_le, Int.ofNat_lt, Int.ofNat_le, Int.ofNat_inj, Bool.xor_false, Bool.false_xor, Bool.true_xor, Bool.xor_true] at hr) <;> (try simp (maxSteps := 2000000) (disch := omega) only [go_sem, seval]) <;> (try repeat ((with_reducible refine And.intro ?_ ?_); focus (first | omega | assumption | exact True.intro | (show anyD _ _ = true; exact rfl) | (simp only [List.length_map, List.length_append, List.length_cons, List.length_nil, List.length_take, List.length_drop]; omega))))
    · (first | refine callP.mk (alive7_c) rfl ?_ | refine callQ.mk (alive7_c) rfl ?_ | refine callO.rd (alive7_c) rfl ?_ | refine callO.mk (alive7_c) rfl ?_)
      try simp (maxSteps := 2000000) (disch := omega) only [go_sem, seval]
      try repeat ((with_reducible refine And.intro ?_ ?_); focus (first | omega | assumption | exact True.intro | (show anyD _ _ = true; exact rfl) | (simp only [List.length_map, List.length_append, List.length_cons, List.length_nil, List.length_take, List.length_drop]; omega)))
    · have re := (rightEB_iff he.1 he.2.1 he.2.2).1 hr
      have l1 := kn_length e
      have l2 := ofS_length e.rep (kn e)
      have l3 : (canE e).1.holes.length ≤ 10000 := by unfold canE; omega
      (first | refine callP.mk (canon_c e re (by omega)) rfl ?_ | refine callQ.mk (canon_c e re (by omega)) rfl ?_ | refine callO.rd (canon_c e re (by omega)) rfl ?_ | refine callO.mk (canon_c e re (by omega)) rfl ?_)
      try simp (maxSteps := 2000000) (disch := omega) only [go_sem, seval]
      try repeat ((with_reducible refine And.intro ?_ ?_); focus (first | omega | assumption | exact True.intro | (show anyD _ _ = true; exact rfl) | (simp only [List.length_map, List.length_append, List.length_cons, List.length_nil, List.length_take, List.length_drop]; omega)))
      (first | refine callP.mk (canon7_c e re (by omega)) rfl ?_ | refine callQ.mk (canon7_c e re (by omega)) rfl ?_ | refine callO.rd (canon7_c e re (by omega)) rfl ?_ | refine callO.mk (canon7_c e re (by omega)) rfl ?_)
      try simp (maxSteps := 2000000) (disch := omega) only [go_sem, seval]
      try repeat ((with_reducible refine And.intro ?_ ?_); focus (first | omega | assumption | exact True.intro | (show anyD _ _ = true; exact rfl) | (simp only [List.length_map, List.length_append, List.length_cons, List.length_nil, List.length_take, List.length_drop]; omega)))
      (first | refine callP.mk (same7_c (canE e).1 (canE e).1 (by omega)) rfl ?_ | refine callQ.mk (same7_c (canE e).1 (canE e).1 (by omega)) rfl ?_ | refine callO.rd (same7_c (canE e).1 (canE e).1 (by omega)) rfl ?_ | refine callO.mk (same7_c (canE e).1 (canE e).1 (by omega)) rfl ?_)
      try simp (maxSteps := 2000000) (disch := omega) only [go_sem, seval]
      try repeat ((with_reducible refine And.intro ?_ ?_); focus (first | omega | assumption | exact True.intro | (show anyD _ _ = true; exact rfl) | (simp only [List.length_map, List.length_append, List.length_cons, List.length_nil, List.length_take, List.length_drop]; omega)))
      by_cases hk : kn e = []
      · have h2 : (canE e).2 = false := by unfold canE; rw [hk]; rfl
        rw [h2]
        try simp (maxSteps := 2000000) (disch := omega) only [go_sem, seval]
        try repeat ((with_reducible refine And.intro ?_ ?_); focus (first | omega | assumption | exact True.intro | (show anyD _ _ = true; exact rfl) | (simp only [List.length_map, List.length_append, List.length_cons, List.length_nil, List.length_take, List.length_drop]; omega)))
        (first | refine callP.mk (alive7_c) rfl ?_ | refine callQ.mk (alive7_c) rfl ?_ | refine callO.rd (alive7_c) rfl ?_ | refine callO.mk (alive7_c) rfl ?_)
        try simp (maxSteps := 2000000) (disch := omega) only [go_sem, seval]
        try repeat ((with_reducible refine And.intro ?_ ?_); focus (first | omega | assumption | exact True.intro | (show anyD _ _ = true; exact rfl) | (simp only [List.length_map, List.length_append, List.length_cons, List.length_nil, List.length_take, List.length_drop]; omega)))
        (first | refine callP.mk (eknown_c e re (by omega)) rfl ?_ | refine callQ.mk (eknown_c e re (by omega)) rfl ?_ | refine callO.rd (eknown_c e re (by omega)) rfl ?_ | refine callO.mk (eknown_c e re (by omega)) rfl ?_)
        rw [hk]
        try simp (maxSteps := 2000000) (disch := omega) only [go_sem, seval]
        try repeat ((with_reducible refine And.intro ?_ ?_); focus (first | omega | assumption | exact True.intro | (show anyD _ _ = true; exact rfl) | (simp only [List.length_map, List.length_append, List.length_cons, List.length_nil, List.length_take, List.length_drop]; omega)))
      · have h2 : (canE e).2 = true := by unfold canE; rw [ofS_cons hk]
        have hc : CanE (canE e).1 := ofS_can he.2.2 (kn_nrm re) hk
        have hkc : kn (canE e).1 = kn e := kn_ofS he.2.2 (kn_nrm re) hk
        have hrep : (canE e).1.rep = e.rep := by unfold canE; rw [ofS_cons hk]
        have hcc : canE (canE e).1 = ((canE e).1, true) := can_ofS hc
        have hs : decide ((canE e).1 = e) = (rightEB e && !mem e.holes e.max) := by
          rw [hr, Bool.true_and]
          by_cases hm : mem e.holes e.max = false
          · have h3 := (can_iff re).2 hm
            have h4 := can_ofS h3
            have : (canE e).1 = e := by unfold canE; rw [h4]
            rw [hm, decide_eq_true this]; rfl
          · have h3 : ¬ (canE e).1 = e := fun h5 => hm (can_max (h5 ▸ hc))
            rw [decide_eq_false h3]
            simp at hm
            rw [hm]; rfl
        rw [h2]
        try simp (maxSteps := 2000000) (disch := omega) only [go_sem, seval]
        try repeat ((with_reducible refine And.intro ?_ ?_); focus (first | omega | assumption | exact True.intro | (show anyD _ _ = true; exact rfl) | (simp only [List.length_map, List.length_append, List.length_cons, List.length_nil, List.length_take, List.length_drop]; omega)))
        (first | refine callP.mk (canon_c (canE e).1 hc.1 (by omega)) rfl ?_ | refine callQ.mk (canon_c (canE e).1 hc.1 (by omega)) rfl ?_ | refine callO.rd (canon_c (canE e).1 hc.1 (by omega)) rfl ?_ | refine callO.mk (canon_c (canE e).1 hc.1 (by omega)) rfl ?_)
        rw [hcc]
        try simp (maxSteps := 2000000) (disch := omega) only [go_sem, seval]
        try repeat ((with_reducible refine And.intro ?_ ?_); focus (first | omega | assumption | exact True.intro | (show anyD _ _ = true; exact rfl) | (simp only [List.length_map, List.length_append, List.length_cons, List.length_nil, List.length_take, List.length_drop]; omega)))
        (first | refine callP.mk (alive7_c) rfl ?_ | refine callQ.mk (alive7_c) rfl ?_ | refine callO.rd (alive7_c) rfl ?_ | refine callO.mk (alive7_c) rfl ?_)
        try simp (maxSteps := 2000000) (disch := omega) only [go_sem, seval]
        try repeat ((with_reducible refine And.intro ?_ ?_); focus (first | omega | assumption | exact True.intro | (show anyD _ _ = true; exact rfl) | (simp only [List.length_map, List.length_append, List.length_cons, List.length_nil, List.length_take, List.length_drop]; omega)))
        (first | refine callP.mk (same7_c (canE e).1 (canE e).1 (by omega)) rfl ?_ | refine callQ.mk (same7_c (canE e).1 (canE e).1 (by omega)) rfl ?_ | refine callO.rd (same7_c (canE e).1 (canE e).1 (by omega)) rfl ?_ | refine callO.mk (same7_c (canE e).1 (canE e).1 (by omega)) rfl ?_)
        try simp (maxSteps := 2000000) (disch := omega) only [go_sem, seval]
        try repeat ((with_reducible refine And.intro ?_ ?_); focus (first | omega | assumption | exact True.intro | (show anyD _ _ = true; exact rfl) | (simp only [List.length_map, List.length_append, List.length_cons, List.length_nil, List.length_take, List.length_drop]; omega)))
        (first | refine callP.mk (canOk_c (canE e).1 hc (by omega)) rfl ?_ | refine callQ.mk (canOk_c (canE e).1 hc (by omega)) rfl ?_ | refine callO.rd (canOk_c (canE e).1 hc (by omega)) rfl ?_ | refine callO.mk (canOk_c (canE e).1 hc (by omega)) rfl ?_)
        try simp (maxSteps := 2000000) (disch := omega) only [go_sem, seval]
        try repeat ((with_reducible refine And.intro ?_ ?_); focus (first | omega | assumption | exact True.intro | (show anyD _ _ = true; exact rfl) | (simp only [List.length_map, List.length_append, List.length_cons, List.length_nil, List.length_take, List.length_drop]; omega)))
        (first | refine callP.mk (esame_c (canE e).1 e (by omega)) rfl ?_ | refine callQ.mk (esame_c (canE e).1 e (by omega)) rfl ?_ | refine callO.rd (esame_c (canE e).1 e (by omega)) rfl ?_ | refine callO.mk (esame_c (canE e).1 e (by omega)) rfl ?_)
        rw [hs]
        try simp (maxSteps := 2000000) (disch := omega) only [go_sem, seval]
        try repeat ((with_reducible refine And.intro ?_ ?_); focus (first | omega | assumption | exact True.intro | (show anyD _ _ = true; exact rfl) | (simp only [List.length_map, List.length_append, List.length_cons, List.length_nil, List.length_take, List.length_drop]; omega)))
        (first | refine callP.mk (ecanonical_c e he.1 he.2.1 he.2.2 (by omega) (.inr (codeN_c 2))) rfl ?_ | refine callQ.mk (ecanonical_c e he.1 he.2.1 he.2.2 (by omega) (.inr (codeN_c 2))) rfl ?_ | refine callO.rd (ecanonical_c e he.1 he.2.1 he.2.2 (by omega) (.inr (codeN_c 2))) rfl ?_ | refine callO.mk (ecanonical_c e he.1 he.2.1 he.2.2 (by omega) (.inr (codeN_c 2))) rfl ?_)
        try simp (maxSteps := 2000000) (disch := omega) only [go_sem, seval]
        try repeat ((with_reducible refine And.intro ?_ ?_); focus (first | omega | assumption | exact True.intro | (show anyD _ _ = true; exact rfl) | (simp only [List.length_map, List.length_append, List.length_cons, List.length_nil, List.length_take, List.length_drop]; omega)))
end Go.Proofs.YtcedofkenfddkaaDoor
