/- Texts of this claim, bound together: T10 Nuc T11 T12 T13 T14 T15 T16 T17 Q9 Q9n T18. -/
import Derived.Test.YtcedofkenfddkaaDoorB9
/- The contracts of span.Check and Relate, fault.New, ranges.Check. -/
namespace Go.Proofs.YtcedofkenfddkaaDoor
set_option linter.unusedVariables false
set_option linter.unusedSimpArgs false
open Go.RowKit
set_option maxRecDepth 100000
/-- An error as fault.New makes it. -/
def errV (c : Nat) (k : Int) : PV := if c = 0 then .v .nilIface else .ifc 89 (.agg [.v (.int .i64 c), .v (.int .i64 k)])
def errno (c : Nat) : PV := .ifc 50 (.v (.int .i64 c))
theorem errV_sub (c : Nat) (k : Int) : SubP 0 (errV c k) (errV c k) := .eq _ (by unfold errV; split <;> rfl)
theorem fnew_c (c : Nat) (k : Int) : Cn Tryd.prog 77 [.v (.int .i64 c), .v (.int .i64 k)] (errV c k) := by
  refine cn_go Tryd.func77 [] 2 (by kernel_rfl) rfl (by simp [go_sem, seval]) ?_
  conv => arg 4; cbv
  conv => enter [5, 1]; cbv
  try simp (maxSteps := 2000000) (disch := omega) only [go_sem, seval]
  try repeat ((with_reducible refine And.intro ?_ ?_); focus (first | omega | assumption | exact True.intro | (show anyD _ _ = true; exact rfl) | (simp only [List.length_map, List.length_append, List.length_cons, List.length_nil, List.length_take, List.length_drop]; omega)))
  unfold errV
  (first | refine brP.mk (fun h => ?_) (fun h => ?_) | refine gdP.mkt (fun h => ?_) (fun h => ?_) | refine gdP.mkf (fun h => ?_) (fun h => ?_) | refine pkP.mk (fun h => ?_) (fun h => ?_)) <;> (try simp only [Bool.not_true, Bool.not_false, decide_eq_true_eq, decide_eq_false_iff_not, Bool.and_eq_true, Bool.or_eq_true, Bool.not_eq_true', Bool.not_eq_false', Bool.and_eq_false_iff, Bool.or_eq_false_iff, Nat.not_lt, Int.not_lt, Nat.not_le, Int.not_le, Int.ofNat_lt, Int.ofNat_le, Int.ofNat_inj, Bool.xor_false, Bool.false_xor, Bool.true_xor, Bool.xor_true] at h) <;> (try simp (maxSteps := 2000000) (disch := omega) only [go_sem, seval]) <;> (try repeat ((with_reducible refine And.intro ?_ ?_); focus (first | omega | assumption | exact True.intro | (show anyD _ _ = true; exact rfl) | (simp only [List.length_map, List.length_append, List.length_cons, List.length_nil, List.length_take, List.length_drop]; omega))))
  · rw [if_pos (by omega)]
    try simp (maxSteps := 2000000) (disch := omega) only [go_sem, seval]
    try repeat ((with_reducible refine And.intro ?_ ?_); focus (first | omega | assumption | exact True.intro | (show anyD _ _ = true; exact rfl) | (simp only [List.length_map, List.length_append, List.length_cons, List.length_nil, List.length_take, List.length_drop]; omega)))
  · rw [if_neg (by omega)]
    try simp (maxSteps := 2000000) (disch := omega) only [go_sem, seval]
    try repeat ((with_reducible refine And.intro ?_ ?_); focus (first | omega | assumption | exact True.intro | (show anyD _ _ = true; exact rfl) | (simp only [List.length_map, List.length_append, List.length_cons, List.length_nil, List.length_take, List.length_drop]; omega)))
theorem between_c (a b : Nat) (hb : b < M64) : Cn Tryd.prog 105 [.v (.int .u64 a), .v (.int .u64 b)] (.tup [.v (.int .u64 (b - a - 1 : Nat)), .v (.bool (decide (a < b)))]) := by
  have hM := M64_val
  refine cn_go Tryd.func105 [] 2 (by kernel_rfl) rfl (by simp [go_sem, seval]) ?_
  conv => arg 4; cbv
  conv => enter [5, 1]; cbv
  try simp (maxSteps := 2000000) (disch := omega) only [go_sem, seval]
  try repeat ((with_reducible refine And.intro ?_ ?_); focus (first | omega | assumption | exact True.intro | (show anyD _ _ = true; exact rfl) | (simp only [List.length_map, List.length_append, List.length_cons, List.length_nil, List.length_take, List.length_drop]; omega)))
  (first | refine brP.mk (fun h => ?_) (fun h => ?_) | refine gdP.mkt (fun h => ?_) (fun h => ?_) | refine gdP.mkf (fun h => ?_) (fun h => ?_) | refine pkP.mk (fun h => ?_) (fun h => ?_)) <;> (try simp only [Bool.not_true, Bool.not_false, decide_eq_true_eq, decide_eq_false_iff_not, Bool.and_eq_true, Bool.or_eq_true, Bool.not_eq_true', Bool.not_eq_false', Bool.and_eq_false_iff, Bool.or_eq_false_iff, Nat.not_lt, Int.not_lt, Nat.not_le, Int.not_le, Int.ofNat_lt, Int.ofNat_le, Int.ofNat_inj, Bool.xor_false, Bool.false_xor, Bool.true_xor, Bool.xor_true] at h) <;> (try simp (maxSteps := 2000000) (disch := omega) only [go_sem, seval]) <;> (try repeat ((with_reducible refine And.intro ?_ ?_); focus (first | omega | assumption | exact True.intro | (show anyD _ _ = true; exact rfl) | (simp only [List.length_map, List.length_append, List.length_cons, List.length_nil, List.length_take, List.length_drop]; omega))))
  · have h1 : ¬ a < b := by omega
    have h2 : b - a - 1 = 0 := by omega
    simp [h1, h2]
  · simp [h]
theorem scheck_c (s : Iv) : Cn Tryd.prog 76 [ivp s] (if s.lo ≤ s.hi then .v .nilIface else errno 2) := by
  refine cn_go Tryd.func76 [] 1 (by kernel_rfl) rfl (by simp [go_sem, seval]) ?_
  conv => arg 4; cbv
  conv => enter [5, 1]; cbv
  try simp (maxSteps := 2000000) (disch := omega) only [go_sem, seval]
  try repeat ((with_reducible refine And.intro ?_ ?_); focus (first | omega | assumption | exact True.intro | (show anyD _ _ = true; exact rfl) | (simp only [List.length_map, List.length_append, List.length_cons, List.length_nil, List.length_take, List.length_drop]; omega)))
  (first | refine brP.mk (fun h => ?_) (fun h => ?_) | refine gdP.mkt (fun h => ?_) (fun h => ?_) | refine gdP.mkf (fun h => ?_) (fun h => ?_) | refine pkP.mk (fun h => ?_) (fun h => ?_)) <;> (try simp only [Bool.not_true, Bool.not_false, decide_eq_true_eq, decide_eq_false_iff_not, Bool.and_eq_true, Bool.or_eq_true, Bool.not_eq_true', Bool.not_eq_false', Bool.and_eq_false_iff, Bool.or_eq_false_iff, Nat.not_lt, Int.not_lt, Nat.not_le, Int.not_le, Int.ofNat_lt, Int.ofNat_le, Int.ofNat_inj, Bool.xor_false, Bool.false_xor, Bool.true_xor, Bool.xor_true] at h) <;> (try simp (maxSteps := 2000000) (disch := omega) only [go_sem, seval]) <;> (try repeat ((with_reducible refine And.intro ?_ ?_); focus (first | omega | assumption | exact True.intro | (show anyD _ _ = true; exact rfl) | (simp only [List.length_map, List.length_append, List.length_cons, List.length_nil, List.length_take, List.length_drop]; omega))))
  · rw [if_neg (by omega)]
    unfold errno
    try simp (maxSteps := 2000000) (disch := omega) only [go_sem, seval]
    try repeat ((with_reducible refine And.intro ?_ ?_); focus (first | omega | assumption | exact True.intro | (show anyD _ _ = true; exact rfl) | (simp only [List.length_map, List.length_append, List.length_cons, List.length_nil, List.length_take, List.length_drop]; omega)))
  · rw [if_pos h]
    try simp (maxSteps := 2000000) (disch := omega) only [go_sem, seval]
    try repeat ((with_reducible refine And.intro ?_ ?_); focus (first | omega | assumption | exact True.intro | (show anyD _ _ = true; exact rfl) | (simp only [List.length_map, List.length_append, List.length_cons, List.length_nil, List.length_take, List.length_drop]; omega)))
theorem srel_c (s t : Iv) (h1 : s.lo ≤ s.hi) (h2 : t.lo ≤ t.hi) (h3 : s.hi < M64) (h4 : t.hi < M64) : Cn Tryd.prog 78 [ivp s, ivp t] (.v (.int .i64 (relate s t : Nat))) := by
  have hM := M64_val
  refine cn_go Tryd.func78 [] 2 (by kernel_rfl) rfl (by simp [go_sem, seval]) ?_
  conv => arg 4; cbv
  conv => enter [5, 1]; cbv
  try simp (maxSteps := 2000000) (disch := omega) only [go_sem, seval]
  try repeat ((with_reducible refine And.intro ?_ ?_); focus (first | omega | assumption | exact True.intro | (show anyD _ _ = true; exact rfl) | (simp only [List.length_map, List.length_append, List.length_cons, List.length_nil, List.length_take, List.length_drop]; omega)))
  (first | refine callP.mk (between_c s.hi t.lo (by omega)) rfl ?_ | refine callQ.mk (between_c s.hi t.lo (by omega)) rfl ?_ | refine callO.rd (between_c s.hi t.lo (by omega)) rfl ?_ | refine callO.mk (between_c s.hi t.lo (by omega)) rfl ?_)
  try simp (maxSteps := 2000000) (disch := omega) only [go_sem, seval]
  try repeat ((with_reducible refine And.intro ?_ ?_); focus (first | omega | assumption | exact True.intro | (show anyD _ _ = true; exact rfl) | (simp only [List.length_map, List.length_append, List.length_cons, List.length_nil, List.length_take, List.length_drop]; omega)))
  unfold relate
  by_cases k1 : s.hi < t.lo
  · have k2 : ¬ t.hi < s.lo := by omega
    by_cases k3 : s.hi + 1 = t.lo
    · have k4 : t.lo - s.hi - 1 = 0 := by omega
      rw [if_pos k1, if_pos k3, k4, decide_eq_true k1]
      try simp (maxSteps := 2000000) (disch := omega) only [go_sem, seval]
      try repeat ((with_reducible refine And.intro ?_ ?_); focus (first | omega | assumption | exact True.intro | (show anyD _ _ = true; exact rfl) | (simp only [List.length_map, List.length_append, List.length_cons, List.length_nil, List.length_take, List.length_drop]; omega)))
      (first | refine callP.mk (between_c t.hi s.lo (by omega)) rfl ?_ | refine callQ.mk (between_c t.hi s.lo (by omega)) rfl ?_ | refine callO.rd (between_c t.hi s.lo (by omega)) rfl ?_ | refine callO.mk (between_c t.hi s.lo (by omega)) rfl ?_)
      try simp (maxSteps := 2000000) (disch := omega) only [go_sem, seval]
      try repeat ((with_reducible refine And.intro ?_ ?_); focus (first | omega | assumption | exact True.intro | (show anyD _ _ = true; exact rfl) | (simp only [List.length_map, List.length_append, List.length_cons, List.length_nil, List.length_take, List.length_drop]; omega)))
      rw [decide_eq_false k2]
      try simp (maxSteps := 2000000) (disch := omega) only [go_sem, seval]
      try repeat ((with_reducible refine And.intro ?_ ?_); focus (first | omega | assumption | exact True.intro | (show anyD _ _ = true; exact rfl) | (simp only [List.length_map, List.length_append, List.length_cons, List.length_nil, List.length_take, List.length_drop]; omega)))
    · have k4 : 0 < t.lo - s.hi - 1 := by omega
      rw [if_pos k1, if_neg k3, decide_eq_true k1]
      try simp (maxSteps := 2000000) (disch := omega) only [go_sem, seval]
      try repeat ((with_reducible refine And.intro ?_ ?_); focus (first | omega | assumption | exact True.intro | (show anyD _ _ = true; exact rfl) | (simp only [List.length_map, List.length_append, List.length_cons, List.length_nil, List.length_take, List.length_drop]; omega)))
      (first | refine brP.mk (fun k5 => ?_) (fun k5 => ?_) | refine gdP.mkt (fun k5 => ?_) (fun k5 => ?_) | refine gdP.mkf (fun k5 => ?_) (fun k5 => ?_) | refine pkP.mk (fun k5 => ?_) (fun k5 => ?_)) <;> (try simp only [Bool.not_true, Bool.not_false, decide_eq_true_eq, decide_eq_false_iff_not, Bool.and_eq_true, Bool.or_eq_true, Bool.not_eq_true', Bool.not_eq_false', Bool.and_eq_false_iff, Bool.or_eq_false_iff, Nat.not_lt, Int.not_lt, Nat.not_le, Int.not_le, Int.ofNat_lt, Int.ofNat_le, Int.ofNat_inj, Bool.xor_false, Bool.false_xor, Bool.true_xor, Bool.xor_true] at k5) <;> (try simp (maxSteps := 2000000) (disch := omega) only [go_sem, seval]) <;> (try repeat ((with_reducible refine And.intro ?_ ?_); focus (first | omega | assumption | exact True.intro | (show anyD _ _ = true; exact rfl) | (simp only [List.length_map, List.length_append, List.length_cons, List.length_nil, List.length_take, List.length_drop]; omega))))
      · (first | refine callP.mk (between_c t.hi s.lo (by omega)) rfl ?_ | refine callQ.mk (between_c t.hi s.lo (by omega)) rfl ?_ | refine callO.rd (between_c t.hi s.lo (by omega)) rfl ?_ | refine callO.mk (between_c t.hi s.lo (by omega)) rfl ?_)
        try simp (maxSteps := 2000000) (disch := omega) only [go_sem, seval]
        try repeat ((with_reducible refine And.intro ?_ ?_); focus (first | omega | assumption | exact True.intro | (show anyD _ _ = true; exact rfl) | (simp only [List.length_map, List.length_append, List.length_cons, List.length_nil, List.length_take, List.length_drop]; omega)))
        rw [decide_eq_false k2]
        try simp (maxSteps := 2000000) (disch := omega) only [go_sem, seval]
        try repeat ((with_reducible refine And.intro ?_ ?_); focus (first | omega | assumption | exact True.intro | (show anyD _ _ = true; exact rfl) | (simp only [List.length_map, List.length_append, List.length_cons, List.length_nil, List.length_take, List.length_drop]; omega)))
      · exact absurd k4 (by omega)
  · rw [if_neg k1, decide_eq_false k1]
    try simp (maxSteps := 2000000) (disch := omega) only [go_sem, seval]
    try repeat ((with_reducible refine And.intro ?_ ?_); focus (first | omega | assumption | exact True.intro | (show anyD _ _ = true; exact rfl) | (simp only [List.length_map, List.length_append, List.length_cons, List.length_nil, List.length_take, List.length_drop]; omega)))
    (first | refine callP.mk (between_c t.hi s.lo (by omega)) rfl ?_ | refine callQ.mk (between_c t.hi s.lo (by omega)) rfl ?_ | refine callO.rd (between_c t.hi s.lo (by omega)) rfl ?_ | refine callO.mk (between_c t.hi s.lo (by omega)) rfl ?_)
    try simp (maxSteps := 2000000) (disch := omega) only [go_sem, seval]
    try repeat ((with_reducible refine And.intro ?_ ?_); focus (first | omega | assumption | exact True.intro | (show anyD _ _ = true; exact rfl) | (simp only [List.length_map, List.length_append, List.length_cons, List.length_nil, List.length_take, List.length_drop]; omega)))
    by_cases k2 : t.hi < s.lo
    · by_cases k3 : t.hi + 1 = s.lo
      · have k4 : s.lo - t.hi - 1 = 0 := by omega
        rw [if_pos k2, if_pos k3, k4, decide_eq_true k2]
        try simp (maxSteps := 2000000) (disch := omega) only [go_sem, seval]
        try repeat ((with_reducible refine And.intro ?_ ?_); focus (first | omega | assumption | exact True.intro | (show anyD _ _ = true; exact rfl) | (simp only [List.length_map, List.length_append, List.length_cons, List.length_nil, List.length_take, List.length_drop]; omega)))
      · have k4 : 0 < s.lo - t.hi - 1 := by omega
        rw [if_pos k2, if_neg k3, decide_eq_true k2]
        try simp (maxSteps := 2000000) (disch := omega) only [go_sem, seval]
        try repeat ((with_reducible refine And.intro ?_ ?_); focus (first | omega | assumption | exact True.intro | (show anyD _ _ = true; exact rfl) | (simp only [List.length_map, List.length_append, List.length_cons, List.length_nil, List.length_take, List.length_drop]; omega)))
        (first | refine brP.mk (fun k5 => ?_) (fun k5 => ?_) | refine gdP.mkt (fun k5 => ?_) (fun k5 => ?_) | refine gdP.mkf (fun k5 => ?_) (fun k5 => ?_) | refine pkP.mk (fun k5 => ?_) (fun k5 => ?_)) <;> (try simp only [Bool.not_true, Bool.not_false, decide_eq_true_eq, decide_eq_false_iff_not, Bool.and_eq_true, Bool.or_eq_true, Bool.not_eq_true', Bool.not_eq_false', Bool.and_eq_false_iff, Bool.or_eq_false_iff, Nat.not_lt, Int.not_lt, Nat.not_le, Int.not_le, Int.ofNat_lt, Int.ofNat_le, Int.ofNat_inj, Bool.xor_false, Bool.false_xor, Bool.true_xor, Bool.xor_true] at k5) <;> (try simp (maxSteps := 2000000) (disch := omega) only [go_sem, seval]) <;> (try repeat ((with_reducible refine And.intro ?_ ?_); focus (first | omega | assumption | exact True.intro | (show anyD _ _ = true; exact rfl) | (simp only [List.length_map, List.length_append, List.length_cons, List.length_nil, List.length_take, List.length_drop]; omega))))
        exact absurd k4 (by omega)
    · rw [if_neg k2, decide_eq_false k2]
      try simp (maxSteps := 2000000) (disch := omega) only [go_sem, seval]
      try repeat ((with_reducible refine And.intro ?_ ?_); focus (first | omega | assumption | exact True.intro | (show anyD _ _ = true; exact rfl) | (simp only [List.length_map, List.length_append, List.length_cons, List.length_nil, List.length_take, List.length_drop]; omega)))
theorem rcheck_c (l : List Iv) (hb : ∀ s ∈ l, s.lo < M64 ∧ s.hi < M64) (hl : l.length ≤ 1152921504606846976) (hC : (chk l).1 = 0 ∨ Cn Tryd.prog 39 [errno 2] (.v (.int .i64 2))) : Cn Tryd.prog 22 [rg l] (errV (chk l).1 (chk l).2) := by
  refine cn_go Tryd.func22 [] 1 (by kernel_rfl) rfl (by simp [go_sem, seval]) ?_
  conv => arg 4; cbv
  conv => enter [5, 1]; cbv
  try simp (maxSteps := 2000000) (disch := omega) only [go_sem, seval]
  try repeat ((with_reducible refine And.intro ?_ ?_); focus (first | omega | assumption | exact True.intro | (show anyD _ _ = true; exact rfl) | (simp only [List.length_map, List.length_append, List.length_cons, List.length_nil, List.length_take, List.length_drop]; omega)))
  refine pLoop.go (fun k => k ≤ l.length ∧ chk l = chkL (prevC l k) (l.drop k) k ∧ ∀ j (h : j < l.length), j < k → l[j].lo ≤ l[j].hi) (fun k => [(8, .v (.int .i64 (k : Nat)))]) (fun _ => []) (fun k => l.length - k) 0 [8] ?_ ?_ ?_
  · exact ⟨Nat.zero_le _, rfl, fun j _ h => absurd h (by omega)⟩
  · try simp (maxSteps := 2000000) (disch := omega) only [go_sem, seval]
    try repeat ((with_reducible refine And.intro ?_ ?_); focus (first | omega | assumption | exact True.intro | (show anyD _ _ = true; exact rfl) | (simp only [List.length_map, List.length_append, List.length_cons, List.length_nil, List.length_take, List.length_drop]; omega)))
  · rintro k ⟨hk, hm, hv⟩
    try simp (maxSteps := 2000000) (disch := omega) only [go_sem, seval]
    try repeat ((with_reducible refine And.intro ?_ ?_); focus (first | omega | assumption | exact True.intro | (show anyD _ _ = true; exact rfl) | (simp only [List.length_map, List.length_append, List.length_cons, List.length_nil, List.length_take, List.length_drop]; omega)))
    (first | refine brP.mk (fun h => ?_) (fun h => ?_) | refine gdP.mkt (fun h => ?_) (fun h => ?_) | refine gdP.mkf (fun h => ?_) (fun h => ?_) | refine pkP.mk (fun h => ?_) (fun h => ?_)) <;> (try simp only [Bool.not_true, Bool.not_false, decide_eq_true_eq, decide_eq_false_iff_not, Bool.and_eq_true, Bool.or_eq_true, Bool.not_eq_true', Bool.not_eq_false', Bool.and_eq_false_iff, Bool.or_eq_false_iff, Nat.not_lt, Int.not_lt, Nat.not_le, Int.not_le, Int.ofNat_lt, Int.ofNat_le, Int.ofNat_inj, Bool.xor_false, Bool.false_xor, Bool.true_xor, Bool.xor_true] at h) <;> (try simp (maxSteps := 2000000) (disch := omega) only [go_sem, seval]) <;> (try repeat ((with_reducible refine And.intro ?_ ?_); focus (first | omega | assumption | exact True.intro | (show anyD _ _ = true; exact rfl) | (simp only [List.length_map, List.length_append, List.length_cons, List.length_nil, List.length_take, List.length_drop]; omega))))
    · rw [chkL_step h] at hm
      have hbk := hb _ (List.getElem_mem h)
      (first | refine callP.mk (scheck_c l[k]) rfl ?_ | refine callQ.mk (scheck_c l[k]) rfl ?_ | refine callO.rd (scheck_c l[k]) rfl ?_ | refine callO.mk (scheck_c l[k]) rfl ?_)
      by_cases h1 : l[k].lo ≤ l[k].hi
      · rw [if_pos h1] at hm ⊢
        have hs : prevC l (k + 1) = some l[k] := by unfold prevC; rw [if_neg (by omega)]; exact List.getElem?_eq_getElem h
        have hv' : ∀ j (hj : j < l.length), j < k + 1 → l[j].lo ≤ l[j].hi := fun j hj hjk => by
          rcases Nat.lt_or_ge j k with h6 | h6
          · exact hv j hj h6
          · obtain rfl : j = k := by omega
            exact h1
        try simp (maxSteps := 2000000) (disch := omega) only [go_sem, seval]
        try repeat ((with_reducible refine And.intro ?_ ?_); focus (first | omega | assumption | exact True.intro | (show anyD _ _ = true; exact rfl) | (simp only [List.length_map, List.length_append, List.length_cons, List.length_nil, List.length_take, List.length_drop]; omega)))
        (first | refine brP.mk (fun h2 => ?_) (fun h2 => ?_) | refine gdP.mkt (fun h2 => ?_) (fun h2 => ?_) | refine gdP.mkf (fun h2 => ?_) (fun h2 => ?_) | refine pkP.mk (fun h2 => ?_) (fun h2 => ?_)) <;> (try simp only [Bool.not_true, Bool.not_false, decide_eq_true_eq, decide_eq_false_iff_not, Bool.and_eq_true, Bool.or_eq_true, Bool.not_eq_true', Bool.not_eq_false', Bool.and_eq_false_iff, Bool.or_eq_false_iff, Nat.not_lt, Int.not_lt, Nat.not_le, Int.not_le, Int.ofNat_lt, Int.ofNat_le, Int.ofNat_inj, Bool.xor_false, Bool.false_xor, Bool.true_xor, Bool.xor_true] at h2) <;> (try simp (maxSteps := 2000000) (disch := omega) only [go_sem, seval]) <;> (try repeat ((with_reducible refine And.intro ?_ ?_); focus (first | omega | assumption | exact True.intro | (show anyD _ _ = true; exact rfl) | (simp only [List.length_map, List.length_append, List.length_cons, List.length_nil, List.length_take, List.length_drop]; omega))))
        · have hp : prevC l k = some l[k - 1] := by unfold prevC; rw [if_neg (by omega), List.getElem?_eq_getElem]
          rw [hp] at hm
          have hbp := hb _ (List.getElem_mem (show k - 1 < l.length by omega))
          (first | refine callP.mk (srel_c l[k - 1] l[k] (hv (k - 1) (by omega) (by omega)) h1 hbp.2 hbk.2) rfl ?_ | refine callQ.mk (srel_c l[k - 1] l[k] (hv (k - 1) (by omega) (by omega)) h1 hbp.2 hbk.2) rfl ?_ | refine callO.rd (srel_c l[k - 1] l[k] (hv (k - 1) (by omega) (by omega)) h1 hbp.2 hbk.2) rfl ?_ | refine callO.mk (srel_c l[k - 1] l[k] (hv (k - 1) (by omega) (by omega)) h1 hbp.2 hbk.2) rfl ?_)
          try simp (maxSteps := 2000000) (disch := omega) only [go_sem, seval]
          try repeat ((with_reducible refine And.intro ?_ ?_); focus (first | omega | assumption | exact True.intro | (show anyD _ _ = true; exact rfl) | (simp only [List.length_map, List.length_append, List.length_cons, List.length_nil, List.length_take, List.length_drop]; omega)))
          (first | refine brP.mk (fun h3 => ?_) (fun h3 => ?_) | refine gdP.mkt (fun h3 => ?_) (fun h3 => ?_) | refine gdP.mkf (fun h3 => ?_) (fun h3 => ?_) | refine pkP.mk (fun h3 => ?_) (fun h3 => ?_)) <;> (try simp only [Bool.not_true, Bool.not_false, decide_eq_true_eq, decide_eq_false_iff_not, Bool.and_eq_true, Bool.or_eq_true, Bool.not_eq_true', Bool.not_eq_false', Bool.and_eq_false_iff, Bool.or_eq_false_iff, Nat.not_lt, Int.not_lt, Nat.not_le, Int.not_le, Int.ofNat_lt, Int.ofNat_le, Int.ofNat_inj, Bool.xor_false, Bool.false_xor, Bool.true_xor, Bool.xor_true] at h3) <;> (try simp (maxSteps := 2000000) (disch := omega) only [go_sem, seval]) <;> (try repeat ((with_reducible refine And.intro ?_ ?_); focus (first | omega | assumption | exact True.intro | (show anyD _ _ = true; exact rfl) | (simp only [List.length_map, List.length_append, List.length_cons, List.length_nil, List.length_take, List.length_drop]; omega))))
          · rw [if_neg (by omega)] at hm
            rw [hm]
            (first | refine callP.mk (fnew_c 3 (k : Nat)) rfl ?_ | refine callQ.mk (fnew_c 3 (k : Nat)) rfl ?_ | refine callO.rd (fnew_c 3 (k : Nat)) rfl ?_ | refine callO.mk (fnew_c 3 (k : Nat)) rfl ?_)
            try simp (maxSteps := 2000000) (disch := omega) only [go_sem, seval]
            try repeat ((with_reducible refine And.intro ?_ ?_); focus (first | omega | assumption | exact True.intro | (show anyD _ _ = true; exact rfl) | (simp only [List.length_map, List.length_append, List.length_cons, List.length_nil, List.length_take, List.length_drop]; omega)))
            exact errV_sub _ _
          · rw [if_pos (by omega)] at hm
            exact ⟨k + 1, ⟨h, by rw [hs]; exact hm, hv'⟩, by omega, rfl⟩
        · have hp : prevC l k = none := by unfold prevC; rw [if_pos (by omega)]
          rw [hp] at hm
          exact ⟨k + 1, ⟨h, by rw [hs]; exact hm, hv'⟩, by omega, rfl⟩
      · rw [if_neg h1] at hm ⊢
        unfold errno at hC ⊢
        rcases hC with hC | hC
        · rw [hm] at hC
          cases hC
        · try simp (maxSteps := 2000000) (disch := omega) only [go_sem, seval]
          try repeat ((with_reducible refine And.intro ?_ ?_); focus (first | omega | assumption | exact True.intro | (show anyD _ _ = true; exact rfl) | (simp only [List.length_map, List.length_append, List.length_cons, List.length_nil, List.length_take, List.length_drop]; omega)))
          (first | refine callP.mk (hC) rfl ?_ | refine callQ.mk (hC) rfl ?_ | refine callO.rd (hC) rfl ?_ | refine callO.mk (hC) rfl ?_)
          try simp (maxSteps := 2000000) (disch := omega) only [go_sem, seval]
          try repeat ((with_reducible refine And.intro ?_ ?_); focus (first | omega | assumption | exact True.intro | (show anyD _ _ = true; exact rfl) | (simp only [List.length_map, List.length_append, List.length_cons, List.length_nil, List.length_take, List.length_drop]; omega)))
          rw [hm]
          (first | refine callP.mk (fnew_c 2 (k : Nat)) rfl ?_ | refine callQ.mk (fnew_c 2 (k : Nat)) rfl ?_ | refine callO.rd (fnew_c 2 (k : Nat)) rfl ?_ | refine callO.mk (fnew_c 2 (k : Nat)) rfl ?_)
          try simp (maxSteps := 2000000) (disch := omega) only [go_sem, seval]
          try repeat ((with_reducible refine And.intro ?_ ?_); focus (first | omega | assumption | exact True.intro | (show anyD _ _ = true; exact rfl) | (simp only [List.length_map, List.length_append, List.length_cons, List.length_nil, List.length_take, List.length_drop]; omega)))
          exact errV_sub _ _
    · rw [List.drop_of_length_le h] at hm
      rw [hm]
      exact .eq _ rfl
end Go.Proofs.YtcedofkenfddkaaDoor
/- The contract of vector.Numbers, as a contract without memory. -/
namespace Go.Proofs.YtcedofkenfddkaaDoor
set_option linter.unusedVariables false
set_option linter.unusedSimpArgs false
open Go.RowKit
set_option maxRecDepth 100000

def ns (l : List Nat) : PV := .sl (l.map natc) .sh
attribute [go_sem] ns
theorem ownN_dat {D : Nat → Nat → Prop} {base : Nat} {w : World} {v : Value} {l : List Nat} (h : OwnN base w v l) (hD : ∀ b o, base ≤ b → b < w.heap.size → D b o) : Dat D w v (ns l) := by
  unfold ns
  have hlen : (l.map natc).length = l.length := by simp
  rcases id h.2 with ⟨rfl, h0⟩ | ⟨g, cap, cur, rfl, hg, hh, hn, hc, _⟩
  · obtain rfl : l = [] := List.length_eq_zero_iff.1 h0
    exact .sl none 0 1 [] .sh 0 0 (fun _ => undef) (by simp) (fun h => by cases h) (by unfold maxLen; omega) (fun h => absurd rfl h) (fun i e h => by simp at h) (fun j h => by simp at h) (fun i e j p h => by simp at h)
  · rw [← hlen]
    refine .sl _ cap 1 _ .sh g 0 (fun j => .int .u64 (l.getD j 0 : Nat)) (by simpa using hn) (fun h => by cases h) hc (fun _ => rfl) (fun i e h => ?_) (fun j hj => ?_) (fun i e j p he hp => ?_)
    · simp only [List.getElem?_map, Option.map_eq_some_iff] at h
      obtain ⟨s, _, rfl⟩ := h
      rfl
    · simp only [List.length_map, Nat.mul_one] at hj
      refine ⟨hD _ _ hg (Array.getElem?_eq_some_iff.1 hh).1, ?_, rfl⟩
      rw [Nat.zero_add, h.cellAt _ (by simpa using hj)]
      simp [hj]
    · have hi : i < l.length := by have := (List.getElem?_eq_some_iff.1 he).1; simpa using this
      rw [map_at hi] at he
      cases he
      match j, hp with
      | 0, hp => cases hp; simp [hi]; exact .v _
      | j + 1, hp => simp [natc] at hp
theorem arr1' {vs : Array Value} (h : vs.size = 1) : vs = #[vs.getD 0 undef] := by
  obtain ⟨l⟩ := vs
  match l, h with
  | [x], _ => rfl
theorem numbers_c (v : List En) (hb : ∀ e ∈ v, BdE e) (hl : (nums v).length ≤ 1073741824) : Cn Tryd.prog 53 [vp v] (ns (nums v)) := by
  refine cn_mem rfl (enters_of Tryd.func53 (by kernel_rfl) rfl) fun D w vs hD hsz hd => ?_
  rw [arr1' hsz]
  refine (numbers_calls v _ w (dat_rdv (hd 0 _ rfl) hD hb) hl).mono ?_
  rintro e w' ⟨u, rfl, hv, hbl⟩
  exact ⟨u, rfl, hbl, ownN_dat hv fun b o h1 h2 => .inr ⟨h1, h2⟩⟩
end Go.Proofs.YtcedofkenfddkaaDoor
/- The law SetopsDenote returns true. -/
namespace Go.Proofs.YtcedofkenfddkaaDoor
set_option linter.unusedVariables false
set_option linter.unusedSimpArgs false
open Go.RowKit
set_option maxRecDepth 100000
end Go.Proofs.YtcedofkenfddkaaDoor
/- The contracts of entry.Check, Canonical and Same. -/
namespace Go.Proofs.YtcedofkenfddkaaDoor
set_option linter.unusedVariables false
set_option linter.unusedSimpArgs false
open Go.RowKit
set_option maxRecDepth 100000
theorem low1_cp (nb : Nat) (cs : List PV) (o : Nat) : low1 nb (.cp cs o) = true := rfl
attribute [go_sem] low1_cp
theorem echeck2_c (e : En) (hb : ∀ s ∈ e.holes, s.lo < M64 ∧ s.hi < M64) (hl : e.holes.length ≤ 1152921504606846976) (hC : (chk e.holes).1 = 0 ∨ Cn Tryd.prog 39 [errno 2] (.v (.int .i64 2))) : Cn Tryd.prog 86 [.cp (ec e) 0] (errV (chk e.holes).1 (chk e.holes).2) := by
  refine cn_go Tryd.func86 [] 1 (by kernel_rfl) rfl (by simp [go_sem, seval]) ?_
  conv => arg 4; cbv
  conv => enter [5, 1]; cbv
  try simp (maxSteps := 2000000) (disch := omega) only [go_sem, seval]
  try repeat ((with_reducible refine And.intro ?_ ?_); focus (first | omega | assumption | exact True.intro | (show anyD _ _ = true; exact rfl) | (simp only [List.length_map, List.length_append, List.length_cons, List.length_nil, List.length_take, List.length_drop]; omega)))
  (first | refine callP.mk (rcheck_c e.holes hb hl hC) rfl ?_ | refine callQ.mk (rcheck_c e.holes hb hl hC) rfl ?_ | refine callO.rd (rcheck_c e.holes hb hl hC) rfl ?_ | refine callO.mk (rcheck_c e.holes hb hl hC) rfl ?_)
  try simp (maxSteps := 2000000) (disch := omega) only [go_sem, seval]
  try repeat ((with_reducible refine And.intro ?_ ?_); focus (first | omega | assumption | exact True.intro | (show anyD _ _ = true; exact rfl) | (simp only [List.length_map, List.length_append, List.length_cons, List.length_nil, List.length_take, List.length_drop]; omega)))
  exact errV_sub _ _
theorem echeck1_c (e : En) (hl : e.holes.length ≤ 1152921504606846976) : Cn Tryd.prog 85 [.cp (ec e) 0] (errV (hk e.max e.holes 0).1 (hk e.max e.holes 0).2) := by
  refine cn_go Tryd.func85 [] 1 (by kernel_rfl) rfl (by simp [go_sem, seval]) ?_
  conv => arg 4; cbv
  conv => enter [5, 1]; cbv
  try simp (maxSteps := 2000000) (disch := omega) only [go_sem, seval]
  try repeat ((with_reducible refine And.intro ?_ ?_); focus (first | omega | assumption | exact True.intro | (show anyD _ _ = true; exact rfl) | (simp only [List.length_map, List.length_append, List.length_cons, List.length_nil, List.length_take, List.length_drop]; omega)))
  refine pLoop.go (fun k => k ≤ e.holes.length ∧ hk e.max e.holes 0 = hk e.max (e.holes.drop k) k) (fun k => [(7, .v (.int .i64 (k : Nat)))]) (fun _ => []) (fun k => e.holes.length - k) 0 [7] ?_ ?_ ?_
  · exact ⟨Nat.zero_le _, rfl⟩
  · try simp (maxSteps := 2000000) (disch := omega) only [go_sem, seval]
    try repeat ((with_reducible refine And.intro ?_ ?_); focus (first | omega | assumption | exact True.intro | (show anyD _ _ = true; exact rfl) | (simp only [List.length_map, List.length_append, List.length_cons, List.length_nil, List.length_take, List.length_drop]; omega)))
  · rintro k ⟨hk1, hm⟩
    try simp (maxSteps := 2000000) (disch := omega) only [go_sem, seval]
    try repeat ((with_reducible refine And.intro ?_ ?_); focus (first | omega | assumption | exact True.intro | (show anyD _ _ = true; exact rfl) | (simp only [List.length_map, List.length_append, List.length_cons, List.length_nil, List.length_take, List.length_drop]; omega)))
    (first | refine brP.mk (fun h1 => ?_) (fun h1 => ?_) | refine gdP.mkt (fun h1 => ?_) (fun h1 => ?_) | refine gdP.mkf (fun h1 => ?_) (fun h1 => ?_) | refine pkP.mk (fun h1 => ?_) (fun h1 => ?_)) <;> (try simp only [Bool.not_true, Bool.not_false, decide_eq_true_eq, decide_eq_false_iff_not, Bool.and_eq_true, Bool.or_eq_true, Bool.not_eq_true', Bool.not_eq_false', Bool.and_eq_false_iff, Bool.or_eq_false_iff, Nat.not_lt, Int.not_lt, Nat.not_le, Int.not_le, Int.ofNat_lt, Int.ofNat_le, Int.ofNat_inj, Bool.xor_false, Bool.false_xor, Bool.true_xor, Bool.xor_true] at h1) <;> (try simp (maxSteps := 2000000) (disch := omega) only [go_sem, seval]) <;> (try repeat ((with_reducible refine And.intro ?_ ?_); focus (first | omega | assumption | exact True.intro | (show anyD _ _ = true; exact rfl) | (simp only [List.length_map, List.length_append, List.length_cons, List.length_nil, List.length_take, List.length_drop]; omega))))
    · rw [hk_step h1] at hm
      (first | refine brP.mk (fun h2 => ?_) (fun h2 => ?_) | refine gdP.mkt (fun h2 => ?_) (fun h2 => ?_) | refine gdP.mkf (fun h2 => ?_) (fun h2 => ?_) | refine pkP.mk (fun h2 => ?_) (fun h2 => ?_)) <;> (try simp only [Bool.not_true, Bool.not_false, decide_eq_true_eq, decide_eq_false_iff_not, Bool.and_eq_true, Bool.or_eq_true, Bool.not_eq_true', Bool.not_eq_false', Bool.and_eq_false_iff, Bool.or_eq_false_iff, Nat.not_lt, Int.not_lt, Nat.not_le, Int.not_le, Int.ofNat_lt, Int.ofNat_le, Int.ofNat_inj, Bool.xor_false, Bool.false_xor, Bool.true_xor, Bool.xor_true] at h2) <;> (try simp (maxSteps := 2000000) (disch := omega) only [go_sem, seval]) <;> (try repeat ((with_reducible refine And.intro ?_ ?_); focus (first | omega | assumption | exact True.intro | (show anyD _ _ = true; exact rfl) | (simp only [List.length_map, List.length_append, List.length_cons, List.length_nil, List.length_take, List.length_drop]; omega))))
      · rw [hm, if_pos h2]
        (first | refine callP.mk (fnew_c 4 (k : Nat)) rfl ?_ | refine callQ.mk (fnew_c 4 (k : Nat)) rfl ?_ | refine callO.rd (fnew_c 4 (k : Nat)) rfl ?_ | refine callO.mk (fnew_c 4 (k : Nat)) rfl ?_)
        try simp (maxSteps := 2000000) (disch := omega) only [go_sem, seval]
        try repeat ((with_reducible refine And.intro ?_ ?_); focus (first | omega | assumption | exact True.intro | (show anyD _ _ = true; exact rfl) | (simp only [List.length_map, List.length_append, List.length_cons, List.length_nil, List.length_take, List.length_drop]; omega)))
        exact errV_sub _ _
      · rw [if_neg (by omega)] at hm
        exact ⟨k + 1, ⟨h1, hm⟩, by omega, rfl⟩
    · rw [List.drop_of_length_le h1] at hm
      rw [hm]
      exact .eq _ rfl
theorem errV_nil {x : Nat × Int} (h : x.1 = 0) : errV x.1 x.2 = .v .nilIface := if_pos h
theorem errV_ifc {x : Nat × Int} (h : x.1 ≠ 0) : errV x.1 x.2 = .ifc 89 (.agg [.v (.int .i64 x.1), .v (.int .i64 x.2)]) := if_neg h
set_option maxHeartbeats 1000000 in
theorem echeck_c (e : En) (hb : ∀ s ∈ e.holes, s.lo < M64 ∧ s.hi < M64) (hl : e.holes.length ≤ 1152921504606846976) (hC : (chk e.holes).1 = 0 ∨ Cn Tryd.prog 39 [errno 2] (.v (.int .i64 2))) : Cn Tryd.prog 37 [ep e] (errV (chkE e).1 (chkE e).2) := by
  refine cn_go Tryd.func37 [] 1 (by kernel_rfl) rfl (by simp [go_sem, seval]) ?_
  conv => arg 4; cbv
  conv => enter [5, 1]; cbv
  try simp (maxSteps := 2000000) (disch := omega) only [go_sem, seval]
  try repeat ((with_reducible refine And.intro ?_ ?_); focus (first | omega | assumption | exact True.intro | (show anyD _ _ = true; exact rfl) | (simp only [List.length_map, List.length_append, List.length_cons, List.length_nil, List.length_take, List.length_drop]; omega)))
  refine pLoop.go (fun k => k ≤ 2 ∧ (1 ≤ k → (chk e.holes).1 = 0) ∧ (2 ≤ k → (chkE e).1 = 0)) (fun k => [(12, .v (.int .i64 (k : Nat)))]) (fun _ => []) (fun k => 2 - k) 0 [12] ?_ ?_ ?_
  · exact ⟨by omega, fun h => absurd h (by omega), fun h => absurd h (by omega)⟩
  · try simp (maxSteps := 2000000) (disch := omega) only [go_sem, seval]
    try repeat ((with_reducible refine And.intro ?_ ?_); focus (first | omega | assumption | exact True.intro | (show anyD _ _ = true; exact rfl) | (simp only [List.length_map, List.length_append, List.length_cons, List.length_nil, List.length_take, List.length_drop]; omega)))
  · rintro k ⟨hk1, h1, h2⟩
    obtain rfl | rfl | rfl : k = 0 ∨ k = 1 ∨ k = 2 := by omega
    · try simp (maxSteps := 2000000) (disch := omega) only [go_sem, seval]
      try repeat ((with_reducible refine And.intro ?_ ?_); focus (first | omega | assumption | exact True.intro | (show anyD _ _ = true; exact rfl) | (simp only [List.length_map, List.length_append, List.length_cons, List.length_nil, List.length_take, List.length_drop]; omega)))
      (first | refine callP.mk (echeck2_c e hb hl hC) rfl ?_ | refine callQ.mk (echeck2_c e hb hl hC) rfl ?_ | refine callO.rd (echeck2_c e hb hl hC) rfl ?_ | refine callO.mk (echeck2_c e hb hl hC) rfl ?_)
      by_cases hz : (chk e.holes).1 = 0
      · rw [errV_nil hz]
        try simp (maxSteps := 2000000) (disch := omega) only [go_sem, seval]
        try repeat ((with_reducible refine And.intro ?_ ?_); focus (first | omega | assumption | exact True.intro | (show anyD _ _ = true; exact rfl) | (simp only [List.length_map, List.length_append, List.length_cons, List.length_nil, List.length_take, List.length_drop]; omega)))
        exact ⟨1, ⟨by omega, fun _ => hz, fun h => absurd h (by omega)⟩, by omega, rfl⟩
      · have e1 : chkE e = chk e.holes := if_neg hz
        rw [e1, errV_ifc hz]
        try simp (maxSteps := 2000000) (disch := omega) only [go_sem, seval]
        try repeat ((with_reducible refine And.intro ?_ ?_); focus (first | omega | assumption | exact True.intro | (show anyD _ _ = true; exact rfl) | (simp only [List.length_map, List.length_append, List.length_cons, List.length_nil, List.length_take, List.length_drop]; omega)))
    · have hz := h1 (by omega)
      have e1 : chkE e = hk e.max e.holes 0 := if_pos hz
      try simp (maxSteps := 2000000) (disch := omega) only [go_sem, seval]
      try repeat ((with_reducible refine And.intro ?_ ?_); focus (first | omega | assumption | exact True.intro | (show anyD _ _ = true; exact rfl) | (simp only [List.length_map, List.length_append, List.length_cons, List.length_nil, List.length_take, List.length_drop]; omega)))
      (first | refine callP.mk (echeck1_c e hl) rfl ?_ | refine callQ.mk (echeck1_c e hl) rfl ?_ | refine callO.rd (echeck1_c e hl) rfl ?_ | refine callO.mk (echeck1_c e hl) rfl ?_)
      by_cases hy : (hk e.max e.holes 0).1 = 0
      · rw [errV_nil hy]
        try simp (maxSteps := 2000000) (disch := omega) only [go_sem, seval]
        try repeat ((with_reducible refine And.intro ?_ ?_); focus (first | omega | assumption | exact True.intro | (show anyD _ _ = true; exact rfl) | (simp only [List.length_map, List.length_append, List.length_cons, List.length_nil, List.length_take, List.length_drop]; omega)))
        exact ⟨2, ⟨by omega, fun _ => hz, fun _ => by rw [e1]; exact hy⟩, by omega, rfl⟩
      · rw [e1, errV_ifc hy]
        try simp (maxSteps := 2000000) (disch := omega) only [go_sem, seval]
        try repeat ((with_reducible refine And.intro ?_ ?_); focus (first | omega | assumption | exact True.intro | (show anyD _ _ = true; exact rfl) | (simp only [List.length_map, List.length_append, List.length_cons, List.length_nil, List.length_take, List.length_drop]; omega)))
    · have hz := h2 (by omega)
      rw [errV_nil hz]
      try simp (maxSteps := 2000000) (disch := omega) only [go_sem, seval]
      try repeat ((with_reducible refine And.intro ?_ ?_); focus (first | omega | assumption | exact True.intro | (show anyD _ _ = true; exact rfl) | (simp only [List.length_map, List.length_append, List.length_cons, List.length_nil, List.length_take, List.length_drop]; omega)))
theorem ecanonical_c (e : En) (hb : ∀ s ∈ e.holes, s.lo < M64 ∧ s.hi < M64) (h1 : e.max < M64) (h2 : e.rep < M64) (hl : e.holes.length ≤ 1152921504606846976) (hC : (chk e.holes).1 = 0 ∨ Cn Tryd.prog 39 [errno 2] (.v (.int .i64 2))) : Cn Tryd.prog 35 [ep e] (.v (.bool (rightEB e && !mem e.holes e.max))) := by
  have hr := rightEB_iff hb h1 h2
  refine cn_go Tryd.func35 [] 1 (by kernel_rfl) rfl (by simp [go_sem, seval]) ?_
  conv => arg 4; cbv
  conv => enter [5, 1]; cbv
  try simp (maxSteps := 2000000) (disch := omega) only [go_sem, seval]
  try repeat ((with_reducible refine And.intro ?_ ?_); focus (first | omega | assumption | exact True.intro | (show anyD _ _ = true; exact rfl) | (simp only [List.length_map, List.length_append, List.length_cons, List.length_nil, List.length_take, List.length_drop]; omega)))
  (first | refine callP.mk (echeck_c e hb hl hC) rfl ?_ | refine callQ.mk (echeck_c e hb hl hC) rfl ?_ | refine callO.rd (echeck_c e hb hl hC) rfl ?_ | refine callO.mk (echeck_c e hb hl hC) rfl ?_)
  by_cases hz : (chkE e).1 = 0
  · have hz' : rightEB e = true := by unfold rightEB; exact decide_eq_true hz
    rw [errV_nil hz]
    try simp (maxSteps := 2000000) (disch := omega) only [go_sem, seval]
    try repeat ((with_reducible refine And.intro ?_ ?_); focus (first | omega | assumption | exact True.intro | (show anyD _ _ = true; exact rfl) | (simp only [List.length_map, List.length_append, List.length_cons, List.length_nil, List.length_take, List.length_drop]; omega)))
    (first | refine callP.mk (ehas_c e e.max (hr.1 hz') hl) rfl ?_ | refine callQ.mk (ehas_c e e.max (hr.1 hz') hl) rfl ?_ | refine callO.rd (ehas_c e e.max (hr.1 hz') hl) rfl ?_ | refine callO.mk (ehas_c e e.max (hr.1 hz') hl) rfl ?_)
    try simp (maxSteps := 2000000) (disch := omega) only [go_sem, seval]
    try repeat ((with_reducible refine And.intro ?_ ?_); focus (first | omega | assumption | exact True.intro | (show anyD _ _ = true; exact rfl) | (simp only [List.length_map, List.length_append, List.length_cons, List.length_nil, List.length_take, List.length_drop]; omega)))
    simp [hz']
  · have hz' : rightEB e = false := by unfold rightEB; exact decide_eq_false hz
    rw [errV_ifc hz]
    try simp (maxSteps := 2000000) (disch := omega) only [go_sem, seval]
    try repeat ((with_reducible refine And.intro ?_ ?_); focus (first | omega | assumption | exact True.intro | (show anyD _ _ = true; exact rfl) | (simp only [List.length_map, List.length_append, List.length_cons, List.length_nil, List.length_take, List.length_drop]; omega)))
    simp [hz']
end Go.Proofs.YtcedofkenfddkaaDoor
/- The law JoinDenotes returns true. -/
namespace Go.Proofs.YtcedofkenfddkaaDoor
set_option linter.unusedVariables false
set_option linter.unusedSimpArgs false
open Go.RowKit
set_option maxRecDepth 100000
theorem has7_c (e : En) (c : Nat) (hl : e.holes.length ≤ 1152921504606846976) : Cn Tryd.prog 28 [ep e, .v (.int .u64 c)] (.v (.bool (decide (c ≤ e.max) && !mem e.holes c))) := by
  refine cn_go Tryd.func28 [] 2 (by kernel_rfl) rfl (by simp [go_sem, seval]) ?_
  conv => arg 4; cbv
  conv => enter [5, 1]; cbv
  try simp (maxSteps := 2000000) (disch := omega) only [go_sem, seval]
  try repeat ((with_reducible refine And.intro ?_ ?_); focus (first | omega | assumption | exact True.intro | (show anyD _ _ = true; exact rfl) | (simp only [List.length_map, List.length_append, List.length_cons, List.length_nil, List.length_take, List.length_drop]; omega)))
  (first | refine brP.mk (fun h1 => ?_) (fun h1 => ?_) | refine gdP.mkt (fun h1 => ?_) (fun h1 => ?_) | refine gdP.mkf (fun h1 => ?_) (fun h1 => ?_) | refine pkP.mk (fun h1 => ?_) (fun h1 => ?_)) <;> (try simp only [Bool.not_true, Bool.not_false, decide_eq_true_eq, decide_eq_false_iff_not, Bool.and_eq_true, Bool.or_eq_true, Bool.not_eq_true', Bool.not_eq_false', Bool.and_eq_false_iff, Bool.or_eq_false_iff, Nat.not_lt, Int.not_lt, Nat.not_le, Int.not_le, Int.ofNat_lt, Int.ofNat_le, Int.ofNat_inj, Bool.xor_false, Bool.false_xor, Bool.true_xor, Bool.xor_true] at h1) <;> (try simp (maxSteps := 2000000) (disch := omega) only [go_sem, seval]) <;> (try repeat ((with_reducible refine And.intro ?_ ?_); focus (first | omega | assumption | exact True.intro | (show anyD _ _ = true; exact rfl) | (simp only [List.length_map, List.length_append, List.length_cons, List.length_nil, List.length_take, List.length_drop]; omega))))
  · (first | refine callP.mk (has4_c e.holes c hl) rfl ?_ | refine callQ.mk (has4_c e.holes c hl) rfl ?_ | refine callO.rd (has4_c e.holes c hl) rfl ?_ | refine callO.mk (has4_c e.holes c hl) rfl ?_)
    try simp (maxSteps := 2000000) (disch := omega) only [go_sem, seval]
    try repeat ((with_reducible refine And.intro ?_ ?_); focus (first | omega | assumption | exact True.intro | (show anyD _ _ = true; exact rfl) | (simp only [List.length_map, List.length_append, List.length_cons, List.length_nil, List.length_take, List.length_drop]; omega)))
    simp [h1]
  · have h1' : ¬ c ≤ e.max := by omega
    simp [h1']
theorem BdE_of {e : En} (h : RightE e) : BdE e := ⟨h.1.lt, h.2.2.1, h.2.2.2⟩
section
variable (a b : En) (c : Nat) (ha : BdE a) (hb : BdE b) (hc : c < M64)
include ha hb hc
end
end Go.Proofs.YtcedofkenfddkaaDoor
/- The contracts of fault.Code, find and At: at no error, at an api.Errno, at an api.Fault. -/
namespace Go.Proofs.YtcedofkenfddkaaDoor
set_option linter.unusedVariables false
set_option linter.unusedSimpArgs false
open Go.RowKit
set_option maxRecDepth 100000
def HG (w : World) : Prop := w.cell? ⟨0, 0, none⟩ = some (.iface 144 (.agg #[.pointer (some ⟨1, 29, none⟩)]))
theorem HG.of {D : Nat → Nat → Prop} {w : World} (h : GL D w) : HG w := (h _ rfl).2
theorem HG.pos {w : World} (h : HG w) : 0 < w.heap.size := World.block_lt_of_cell? w ⟨0, 0, none⟩ h
theorem HG.alloc {w : World} (h : HG w) (o : Obj) : HG (w.alloc o) := by
  unfold HG
  rw [World.cell?_alloc_lt _ _ ⟨0, 0, none⟩ h.pos]; exact h
theorem cn_memG {f : FuncId} {ps : List PV} {r : PV} (hr : r.own = none) (hent : ∀ args w, (callFunc f args).run Tryd.prog w = .ok (.enter f args) w)
    (h : ∀ (D : Nat → Nat → Prop) (w : World) (vs : Array Value), HG w → (∀ b o, D b o → b < w.heap.size) → vs.size = ps.length → (∀ (i : Nat) p, ps[i]? = some p → Dat D w (vs.getD i undef) p) →
      Calls Tryd.prog f vs w fun e w' => ∃ v, e = .returned v ∧ Below w.heap.size w w' ∧ Dat (fun b o => D b o ∨ (w.heap.size ≤ b ∧ b < w'.heap.size)) w' v r) : Cn Tryd.prog f ps r := by
  refine ⟨hent, fun D w vs hg hD hsz hd => (h D w vs (.of hg) hD hsz hd).mono ?_⟩
  rintro e w' ⟨v, rfl, hb, hv⟩
  exact ⟨v, _, rfl, hb, fun b o h => .inl h, fun b o h => h.imp id And.left, fun b o h => h.elim (fun h => Nat.lt_of_lt_of_le (hD b o h) hb.size) And.right, hv, ownOk_none hr⟩
theorem arr1 {vs : Array Value} (h : vs.size = 1) : vs = #[vs.getD 0 undef] := by
  obtain ⟨l⟩ := vs
  match l, h with
  | [x], _ => rfl
theorem asCode_N (c : Int) (w : World) (hg : HG w) : Calls Tryd.prog 87 #[.iface 50 (.int .i64 c), .iface 87 (.pointer (some ⟨w.heap.size, 0, none⟩))] (w.alloc (.cells #[.int .i64 0] 50))
    fun ev w' => ev = .returned (.bool true) ∧ Below w.heap.size w w' ∧ w'.cell? ⟨w.heap.size, 0, none⟩ = some (.int .i64 c) := by
  refine (As.as_NN c ⟨w.heap.size, 0, none⟩ (.int .i64 0) _ (hg.alloc _) (by simp) (by simp)).mono ?_
  rintro ev w' ⟨rfl, rfl⟩
  refine ⟨rfl, ?_, ?_⟩
  · refine Below.setCell (((((((Below.refl _ w).alloc ?_ _).alloc ?_ _).alloc ?_ _).alloc ?_ _).alloc ?_ _)) ?_ _ <;> simp <;> omega
  · refine World.cell?_setCell_same _ _ _ (u := .int .i64 0) ?_
    rw [World.cell?_alloc_lt _ _ ⟨w.heap.size, 0, none⟩ (by simp; omega), World.cell?_alloc_lt _ _ ⟨w.heap.size, 0, none⟩ (by simp; omega), World.cell?_alloc_lt _ _ ⟨w.heap.size, 0, none⟩ (by simp; omega), World.cell?_alloc_lt _ _ ⟨w.heap.size, 0, none⟩ (by simp)]
    simp
theorem asCode_F (c k : Int) (w : World) (hg : HG w) : Calls Tryd.prog 87 #[.iface 89 (.agg #[.int .i64 c, .int .i64 k]), .iface 87 (.pointer (some ⟨w.heap.size, 0, none⟩))] (w.alloc (.cells #[.int .i64 0] 50))
    fun ev w' => ev = .returned (.bool true) ∧ Below w.heap.size w w' ∧ w'.cell? ⟨w.heap.size, 0, none⟩ = some (.int .i64 c) := by
  refine (As.as_FN c k ⟨w.heap.size, 0, none⟩ (.int .i64 0) _ (hg.alloc _) (by simp) (by simp)).mono ?_
  rintro ev w' ⟨rfl, rfl⟩
  refine ⟨rfl, ?_, ?_⟩
  · refine Below.setCell ((((((((Below.refl _ w).alloc ?_ _).alloc ?_ _).alloc ?_ _).alloc ?_ _).alloc ?_ _).alloc ?_ _)) ?_ _ <;> simp <;> omega
  · refine World.cell?_setCell_same _ _ _ (u := .int .i64 0) ?_
    rw [World.cell?_alloc_lt _ _ ⟨w.heap.size, 0, none⟩ (by simp; omega), World.cell?_alloc_lt _ _ ⟨w.heap.size, 0, none⟩ (by simp; omega), World.cell?_alloc_lt _ _ ⟨w.heap.size, 0, none⟩ (by simp; omega), World.cell?_alloc_lt _ _ ⟨w.heap.size, 0, none⟩ (by simp; omega), World.cell?_alloc_lt _ _ ⟨w.heap.size, 0, none⟩ (by simp)]
    simp
theorem code_nil (w : World) : Calls Tryd.prog 39 #[.nilIface] w fun e w' => e = .returned (.int .i64 0) ∧ Below w.heap.size w w' := by
  go_enter Tryd.func39, Tryd.ntmps39
  go_wp2
  go_ret
  exact ⟨rfl, (Below.refl _ w).alloc (Nat.le_refl _) _⟩
theorem code_N (c : Int) (w : World) (hg : HG w) : Calls Tryd.prog 39 #[.iface 50 (.int .i64 c)] w fun e w' => e = .returned (.int .i64 c) ∧ Below w.heap.size w w' := by
  go_enter Tryd.func39, Tryd.ntmps39
  go_wp2_with (go_at_call 87; refine (asCode_N c w hg).mono ?_; rintro e w1 ⟨rfl, hb, hc⟩)
  go_ret
  exact ⟨rfl, hb⟩
theorem code_F (c k : Int) (w : World) (hg : HG w) : Calls Tryd.prog 39 #[.iface 89 (.agg #[.int .i64 c, .int .i64 k])] w fun e w' => e = .returned (.int .i64 c) ∧ Below w.heap.size w w' := by
  go_enter Tryd.func39, Tryd.ntmps39
  go_wp2_with (go_at_call 87; refine (asCode_F c k w hg).mono ?_; rintro e w1 ⟨rfl, hb, hc⟩)
  go_ret
  exact ⟨rfl, hb⟩
end Go.Proofs.YtcedofkenfddkaaDoor
/- The contracts of fault.find, Code and At without memory. -/
namespace Go.Proofs.YtcedofkenfddkaaDoor
set_option linter.unusedVariables false
set_option linter.unusedSimpArgs false
open Go.RowKit
set_option maxRecDepth 100000
def z2 : Obj := .cells #[.int .i64 0, .int .i64 0] 89
theorem dat_errno {D : Nat → Nat → Prop} {w : World} {v : Value} {c : Int} {t : TypeId} (h : Dat D w v (.ifc t (.v (.int .i64 c)))) : v = .iface t (.int .i64 c) := by
  cases h with
  | ifc t x p h => rw [h.v_inv]
theorem dat_fault {D : Nat → Nat → Prop} {w : World} {v : Value} {c k : Int} {t : TypeId} (h : Dat D w v (.ifc t (.agg [.v (.int .i64 c), .v (.int .i64 k)]))) : v = .iface t (.agg #[.int .i64 c, .int .i64 k]) := by
  cases h with
  | ifc t x p h =>
    generalize hc : [PV.v (.int .i64 c), PV.v (.int .i64 k)] = cs at h
    cases h with
    | agg us cs hs _ h =>
      subst hc
      obtain ⟨l⟩ := us
      match l, hs with
      | [x, y], _ =>
        have e0 := (h 0 _ rfl).v_inv
        have e1 := (h 1 _ rfl).v_inv
        simp at e0 e1
        rw [e0, e1]
/-- fault.Code at what ranges.Check and entry.Check make. -/
theorem codeN_c (c : Nat) : Cn Tryd.prog 39 [errno c] (.v (.int .i64 c)) := by
  refine cn_memG rfl (enters_of Tryd.func39 (by kernel_rfl) rfl) fun D w vs hg hD hsz hd => ?_
  rw [arr1 hsz, dat_errno (hd 0 _ rfl)]
  refine (code_N c w hg).mono ?_
  rintro e w' ⟨rfl, hb⟩
  exact ⟨_, rfl, hb, .v _⟩
theorem code_c (c : Nat) (k : Int) : Cn Tryd.prog 39 [errV c k] (.v (.int .i64 c)) := by
  refine cn_memG rfl (enters_of Tryd.func39 (by kernel_rfl) rfl) fun D w vs hg hD hsz hd => ?_
  have h0 := hd 0 _ rfl
  unfold errV at h0
  rw [arr1 hsz]
  by_cases hc : c = 0
  · rw [if_pos hc] at h0
    subst hc
    rw [h0.v_inv]
    refine (code_nil w).mono ?_
    rintro e w' ⟨rfl, hb⟩
    exact ⟨_, rfl, hb, .v _⟩
  · rw [if_neg hc] at h0
    rw [dat_fault h0]
    refine (code_F c k w hg).mono ?_
    rintro e w' ⟨rfl, hb⟩
    exact ⟨_, rfl, hb, .v _⟩
end Go.Proofs.YtcedofkenfddkaaDoor
/- The contracts of ranges.Same, entry.Same, kenningref07.Canonical, Canon; the example of chapter 7. -/
namespace Go.Proofs.YtcedofkenfddkaaDoor
set_option linter.unusedVariables false
set_option linter.unusedSimpArgs false
open Go.RowKit
set_option maxRecDepth 100000
theorem canon7_c (e : En) (h : RightE e) (hl : e.holes.length ≤ 10000) : Cn Tryd.prog 43 [ep e] (.tup [ep (canE e).1, .v (.bool (canE e).2)]) := by
  have h1 := kn_length e
  refine cn_go Tryd.func43 [] 1 (by kernel_rfl) rfl (by simp [go_sem, seval]) ?_
  conv => arg 4; cbv
  conv => enter [5, 1]; cbv
  try simp (maxSteps := 2000000) (disch := omega) only [go_sem, seval]
  try repeat ((with_reducible refine And.intro ?_ ?_); focus (first | omega | assumption | exact True.intro | (show anyD _ _ = true; exact rfl) | (simp only [List.length_map, List.length_append, List.length_cons, List.length_nil, List.length_take, List.length_drop]; omega)))
  (first | refine callP.mk (known7_c e h (by omega)) rfl ?_ | refine callQ.mk (known7_c e h (by omega)) rfl ?_ | refine callO.rd (known7_c e h (by omega)) rfl ?_ | refine callO.mk (known7_c e h (by omega)) rfl ?_)
  try simp (maxSteps := 2000000) (disch := omega) only [go_sem, seval]
  try repeat ((with_reducible refine And.intro ?_ ?_); focus (first | omega | assumption | exact True.intro | (show anyD _ _ = true; exact rfl) | (simp only [List.length_map, List.length_append, List.length_cons, List.length_nil, List.length_take, List.length_drop]; omega)))
  (first | refine callP.mk (of7_c e.rep (kn e) (kn_nrm h) (by omega)) rfl ?_ | refine callQ.mk (of7_c e.rep (kn e) (kn_nrm h) (by omega)) rfl ?_ | refine callO.rd (of7_c e.rep (kn e) (kn_nrm h) (by omega)) rfl ?_ | refine callO.mk (of7_c e.rep (kn e) (kn_nrm h) (by omega)) rfl ?_)
  try simp (maxSteps := 2000000) (disch := omega) only [go_sem, seval]
  try repeat ((with_reducible refine And.intro ?_ ?_); focus (first | omega | assumption | exact True.intro | (show anyD _ _ = true; exact rfl) | (simp only [List.length_map, List.length_append, List.length_cons, List.length_nil, List.length_take, List.length_drop]; omega)))
  rfl
end Go.Proofs.YtcedofkenfddkaaDoor
/- The laws of chapter 7: they return true. -/
namespace Go.Proofs.YtcedofkenfddkaaDoor
set_option linter.unusedVariables false
set_option linter.unusedSimpArgs false
open Go.RowKit
set_option maxRecDepth 100000
/-- A correct entry is canonical just if its greatest counter is known. -/
theorem can_iff {e : En} (h : RightE e) : CanE e ↔ mem e.holes e.max = false := by
  refine ⟨can_max, fun hm => ⟨h, fun s hs => ?_⟩⟩
  rcases Nat.lt_or_eq_of_le (h.2.1 s hs) with h1 | h1
  · exact h1
  · have h2 := NF.lo_ge h.1 s hs
    have : mem e.holes e.max = true := mem_iff.2 ⟨s, hs, by omega, by omega⟩
    rw [hm] at this; cases this
end Go.Proofs.YtcedofkenfddkaaDoor
/- Plain mathematics of vectors: the check, the search, the order of the numbers. No condition. -/
namespace Go.Proofs.YtcedofkenfddkaaDoor
set_option linter.unusedVariables false
set_option linter.unusedSimpArgs false
open Go.RowKit
def fewB (v : List En) : Bool := v.all (fun e => decide (e.holes.length ≤ 30)) && decide (v.length ≤ 20)
theorem fewB_iff {v : List En} : fewB v = true ↔ (∀ e ∈ v, e.holes.length ≤ 30) ∧ v.length ≤ 20 := by simp [fewB]
def prv (v : List En) (k : Nat) : Nat := match v[k - 1]? with
  | some p => p.rep
  | none => 0
theorem prv_at {v : List En} {k : Nat} (h : k - 1 < v.length) : prv v k = v[k - 1].rep := by simp [prv, List.getElem?_eq_getElem h]
def hkV (v : List En) : Nat → List En → Nat × Int
  | _, [] => (0, -1)
  | k, e :: r => if (chkE e).1 ≠ 0 then ((chkE e).1, (k : Int)) else if 0 < k ∧ e.rep ≤ prv v k then (3, (k : Int)) else hkV v (k + 1) r
def chkV (v : List En) : Nat × Int := hkV v 0 v
theorem hkV_zero (v : List En) : ∀ (k : Nat) (r : List En), r = v.drop k → ((hkV v k r).1 = 0 ↔ (∀ e ∈ r, (chkE e).1 = 0) ∧ ∀ j (h : j < v.length), k ≤ j → 0 < j → v[j - 1].rep < v[j].rep)
  | k, [], h => by
    have hl := congrArg List.length h
    simp at hl
    simp only [hkV, List.not_mem_nil, false_implies, implies_true, true_and, true_iff]
    intro j hj hk
    omega
  | k, e :: r, h => by
    have hl := congrArg List.length h
    simp at hl
    have hk : k < v.length := by omega
    rw [List.drop_eq_getElem_cons hk, List.cons.injEq] at h
    obtain ⟨he, hr⟩ := h
    have ih := hkV_zero v (k + 1) r hr
    unfold hkV
    by_cases h1 : (chkE e).1 ≠ 0
    · rw [if_pos h1]
      constructor
      · intro h; exact absurd h h1
      · rintro ⟨h2, _⟩; exact absurd (h2 e (by simp)) h1
    · rw [if_neg h1]
      have h1' : (chkE e).1 = 0 := by omega
      by_cases h2 : 0 < k ∧ e.rep ≤ prv v k
      · rw [if_pos h2]
        constructor
        · intro h; cases h
        · rintro ⟨_, h3⟩
          have := h3 k hk (Nat.le_refl _) h2.1
          have h22 := h2.2
          have h23 := congrArg En.rep he
          rw [prv_at (by omega)] at h22
          omega
      · rw [if_neg h2, ih]
        constructor
        · rintro ⟨h3, h4⟩
          refine ⟨fun f hf => ?_, fun j hj hkj hj0 => ?_⟩
          · rcases List.mem_cons.1 hf with rfl | hf
            · exact h1'
            · exact h3 f hf
          · rcases Nat.eq_or_lt_of_le hkj with rfl | hlt
            · rw [prv_at (by omega), he] at h2
              omega
            · exact h4 j hj (by omega) hj0
        · rintro ⟨h3, h4⟩
          exact ⟨fun f hf => h3 f (by simp [hf]), fun j hj hkj hj0 => h4 j hj (by omega) hj0⟩
theorem adj_pair {v : List En} (h : ∀ j (h : j < v.length), 0 < j → v[j - 1].rep < v[j].rep) : v.Pairwise fun a b => a.rep < b.rep := by
  rw [List.pairwise_iff_getElem]
  intro i j hi hj hij
  induction j with
  | zero => omega
  | succ j ih =>
    have h1 := h (j + 1) hj (by omega)
    simp only [Nat.add_sub_cancel] at h1
    rcases Nat.eq_or_lt_of_le (Nat.le_of_lt_succ hij) with rfl | h2
    · exact h1
    · have := ih (by omega) h2
      omega
theorem chkV_iff {v : List En} (hb : ∀ e ∈ v, BdE e) : (chkV v).1 = 0 ↔ RightV v := by
  unfold chkV
  rw [hkV_zero v 0 v rfl]
  have hE : ∀ e ∈ v, (chkE e).1 = 0 ↔ RightE e := fun e he => by
    have := rightEB_iff (hb e he).1 (hb e he).2.1 (hb e he).2.2
    unfold rightEB at this
    simpa using this
  constructor
  · rintro ⟨h1, h2⟩
    exact ⟨fun e he => (hE e he).1 (h1 e he), adj_pair fun j hj h0 => h2 j hj (Nat.zero_le _) h0⟩
  · rintro ⟨h1, h2⟩
    refine ⟨fun e he => (hE e he).2 (h1 e he), fun j hj _ h0 => ?_⟩
    exact List.pairwise_iff_getElem.1 h2 (j - 1) j (by omega) hj (by omega)
def canVB (v : List En) : Bool := v.all (fun e => rightEB e && !mem e.holes e.max) && decide ((chkV v).1 = 0)
theorem canEB_iff {e : En} (h : BdE e) : (rightEB e && !mem e.holes e.max) = true ↔ CanE e := by
  rw [Bool.and_eq_true, rightEB_iff h.1 h.2.1 h.2.2]
  constructor
  · rintro ⟨h1, h2⟩; exact (can_iff h1).2 (by simpa using h2)
  · intro h1; exact ⟨h1.1, by rw [(can_iff h1.1).1 h1]; rfl⟩
theorem canVB_iff {v : List En} (hb : ∀ e ∈ v, BdE e) : canVB v = true ↔ CanV v := by
  unfold canVB
  rw [Bool.and_eq_true, decide_eq_true_eq, chkV_iff hb, List.all_eq_true]
  constructor
  · rintro ⟨h1, h2⟩; exact ⟨fun e he => (canEB_iff (hb e he)).1 (h1 e he), h2.2⟩
  · intro h; exact ⟨fun e he => (canEB_iff (hb e he)).2 (h.1 e he), h.right⟩
/-- The first entry of a replica. -/
def fdV (r : Nat) : Nat → List En → Int
  | _, [] => -1
  | k, e :: t => if e.rep = r then (k : Int) else fdV r (k + 1) t
theorem fdV_spec (r : Nat) : ∀ (l : List En) (k : Nat), (fdV r k l = -1 ∧ ∀ e ∈ l, e.rep ≠ r) ∨ ∃ (i : Nat) (h : i < l.length), fdV r k l = ((k + i : Nat) : Int) ∧ l[i].rep = r
  | [], k => .inl ⟨rfl, fun _ h => by cases h⟩
  | e :: t, k => by
    unfold fdV
    by_cases h : e.rep = r
    · rw [if_pos h]
      exact .inr ⟨0, by simp, by simp, h⟩
    · rw [if_neg h]
      rcases fdV_spec r t (k + 1) with ⟨h1, h2⟩ | ⟨i, hi, h1, h2⟩
      · refine .inl ⟨h1, fun f hf => ?_⟩
        rcases List.mem_cons.1 hf with rfl | hf
        · exact h
        · exact h2 f hf
      · exact .inr ⟨i + 1, by simpa using hi, by rw [h1]; omega, by simpa using h2⟩
theorem part_rep {v : List En} (h : RightV v) (r : Nat) : ∃ i, i ≤ v.length ∧ (∀ j, (h : j < v.length) → j < i → v[j].rep < r) ∧ (∀ j, (h : j < v.length) → i ≤ j → r ≤ v[j].rep) := by
  have hp := List.pairwise_iff_getElem.1 h.2
  obtain ⟨i, h1, h2, h3⟩ := ex_part (fun j => ∃ h : j < v.length, v[j].rep < r) v.length fun a b hab hb ⟨h4, h5⟩ => by
    refine ⟨by omega, ?_⟩
    rcases Nat.lt_or_eq_of_le hab with h6 | h6
    · have := hp a b (by omega) hb h6
      omega
    · subst h6; exact h5
  exact ⟨i, h1, fun j hj hji => (h2 j hji).2, fun j hj hij => Nat.le_of_not_lt fun h => h3 j hij hj ⟨hj, h⟩⟩
theorem fdV_part {v : List En} (hr : RightV v) {r i : Nat} (h1 : ∀ j, (h : j < v.length) → j < i → v[j].rep < r) (h2 : ∀ j, (h : j < v.length) → i ≤ j → r ≤ v[j].rep) :
    fdV r 0 v = if h : i < v.length then (if v[i].rep = r then (i : Int) else -1) else -1 := by
  have hp := List.pairwise_iff_getElem.1 hr.2
  rcases fdV_spec r v 0 with ⟨e1, e2⟩ | ⟨j, hj, e1, e2⟩
  · rw [e1]
    split
    · rename_i h
      rw [if_neg (e2 _ (List.getElem_mem h))]
    · rfl
  · have hij : i ≤ j := Nat.le_of_not_lt fun h => by have := h1 j hj h; omega
    have : i = j := by
      rcases Nat.lt_or_eq_of_le hij with h | h
      · have a1 := hp i j (by omega) hj h
        have a2 := h2 i (by omega) (Nat.le_refl _)
        omega
      · exact h
    subst this
    rw [dif_pos hj, if_pos e2, e1, Nat.zero_add]
theorem knV_fd {v : List En} (hr : RightV v) {r i : Nat} (hi : i < v.length) (h : v[i].rep = r) : knV v r = kn v[i] := by
  rw [← h]; exact knV_mem hr.2 (List.getElem_mem hi)
/-- The order of lists of numbers. -/
def cmpL : List Nat → List Nat → Int
  | [], [] => 0
  | [], _ :: _ => -1
  | _ :: _, [] => 1
  | a :: x, b :: y => if a < b then -1 else if b < a then 1 else cmpL x y
end Go.Proofs.YtcedofkenfddkaaDoor
/- The numbers of a vector tell it. No condition. -/
namespace Go.Proofs.YtcedofkenfddkaaDoor
set_option linter.unusedVariables false
set_option linter.unusedSimpArgs false
open Go.RowKit
end Go.Proofs.YtcedofkenfddkaaDoor
/- The contracts of vector (Find, Has, Compare) and of kenningref09 (Few, Find, Has, Numbers, Compare, Same). -/
namespace Go.Proofs.YtcedofkenfddkaaDoor
set_option linter.unusedVariables false
set_option linter.unusedSimpArgs false
open Go.RowKit
set_option maxRecDepth 100000
theorem few_c (v : List En) (hl : v.length ≤ 9223372036854775807) : Cn Tryd.prog 44 [vp v] (.v (.bool (fewB v))) := by
  refine cn_go Tryd.func44 [] 1 (by kernel_rfl) rfl (by simp [go_sem, seval]) ?_
  conv => arg 4; cbv
  conv => enter [5, 1]; cbv
  try simp (maxSteps := 2000000) (disch := omega) only [go_sem, seval]
  try repeat ((with_reducible refine And.intro ?_ ?_); focus (first | omega | assumption | exact True.intro | (show anyD _ _ = true; exact rfl) | (simp only [List.length_map, List.length_append, List.length_cons, List.length_nil, List.length_take, List.length_drop]; omega)))
  refine pLoop.go (fun k => k ≤ v.length ∧ fewB v = ((v.drop k).all (fun e => decide (e.holes.length ≤ 30)) && decide (v.length ≤ 20))) (fun k => [(3, .v (.int .i64 (k : Nat)))]) (fun _ => []) (fun k => v.length - k) 0 [3] ?_ ?_ ?_
  · exact ⟨Nat.zero_le _, rfl⟩
  · try simp (maxSteps := 2000000) (disch := omega) only [go_sem, seval]
    try repeat ((with_reducible refine And.intro ?_ ?_); focus (first | omega | assumption | exact True.intro | (show anyD _ _ = true; exact rfl) | (simp only [List.length_map, List.length_append, List.length_cons, List.length_nil, List.length_take, List.length_drop]; omega)))
  · rintro k ⟨hk, hm⟩
    try simp (maxSteps := 2000000) (disch := omega) only [go_sem, seval]
    try repeat ((with_reducible refine And.intro ?_ ?_); focus (first | omega | assumption | exact True.intro | (show anyD _ _ = true; exact rfl) | (simp only [List.length_map, List.length_append, List.length_cons, List.length_nil, List.length_take, List.length_drop]; omega)))
    (first | refine brP.mk (fun h => ?_) (fun h => ?_) | refine gdP.mkt (fun h => ?_) (fun h => ?_) | refine gdP.mkf (fun h => ?_) (fun h => ?_) | refine pkP.mk (fun h => ?_) (fun h => ?_)) <;> (try simp only [Bool.not_true, Bool.not_false, decide_eq_true_eq, decide_eq_false_iff_not, Bool.and_eq_true, Bool.or_eq_true, Bool.not_eq_true', Bool.not_eq_false', Bool.and_eq_false_iff, Bool.or_eq_false_iff, Nat.not_lt, Int.not_lt, Nat.not_le, Int.not_le, Int.ofNat_lt, Int.ofNat_le, Int.ofNat_inj, Bool.xor_false, Bool.false_xor, Bool.true_xor, Bool.xor_true] at h) <;> (try simp (maxSteps := 2000000) (disch := omega) only [go_sem, seval]) <;> (try repeat ((with_reducible refine And.intro ?_ ?_); focus (first | omega | assumption | exact True.intro | (show anyD _ _ = true; exact rfl) | (simp only [List.length_map, List.length_append, List.length_cons, List.length_nil, List.length_take, List.length_drop]; omega))))
    · rw [List.drop_eq_getElem_cons h, List.all_cons] at hm
      try simp (maxSteps := 2000000) (disch := omega) only [go_sem, seval]
      try repeat ((with_reducible refine And.intro ?_ ?_); focus (first | omega | assumption | exact True.intro | (show anyD _ _ = true; exact rfl) | (simp only [List.length_map, List.length_append, List.length_cons, List.length_nil, List.length_take, List.length_drop]; omega)))
      (first | refine brP.mk (fun h2 => ?_) (fun h2 => ?_) | refine gdP.mkt (fun h2 => ?_) (fun h2 => ?_) | refine gdP.mkf (fun h2 => ?_) (fun h2 => ?_) | refine pkP.mk (fun h2 => ?_) (fun h2 => ?_)) <;> (try simp only [Bool.not_true, Bool.not_false, decide_eq_true_eq, decide_eq_false_iff_not, Bool.and_eq_true, Bool.or_eq_true, Bool.not_eq_true', Bool.not_eq_false', Bool.and_eq_false_iff, Bool.or_eq_false_iff, Nat.not_lt, Int.not_lt, Nat.not_le, Int.not_le, Int.ofNat_lt, Int.ofNat_le, Int.ofNat_inj, Bool.xor_false, Bool.false_xor, Bool.true_xor, Bool.xor_true] at h2) <;> (try simp (maxSteps := 2000000) (disch := omega) only [go_sem, seval]) <;> (try repeat ((with_reducible refine And.intro ?_ ?_); focus (first | omega | assumption | exact True.intro | (show anyD _ _ = true; exact rfl) | (simp only [List.length_map, List.length_append, List.length_cons, List.length_nil, List.length_take, List.length_drop]; omega))))
      · rw [hm, decide_eq_false (by omega)]
        rfl
      · rw [decide_eq_true (by omega), Bool.true_and] at hm
        exact ⟨k + 1, ⟨h, hm⟩, by omega, rfl⟩
    · rw [hm, List.drop_of_length_le (by omega)]
      simp
      omega
theorem nan_c (x : Nat) : Cn Tryd.prog 132 [.v (.int .u64 x)] (.v (.bool false)) := by
  refine cn_go Tryd.func132 [] 1 (by kernel_rfl) rfl (by simp [go_sem, seval]) ?_
  conv => arg 4; cbv
  conv => enter [5, 1]; cbv
  try simp (maxSteps := 2000000) (disch := omega) only [go_sem, seval]
  try repeat ((with_reducible refine And.intro ?_ ?_); focus (first | omega | assumption | exact True.intro | (show anyD _ _ = true; exact rfl) | (simp only [List.length_map, List.length_append, List.length_cons, List.length_nil, List.length_take, List.length_drop]; omega)))
theorem nanI_c (x : Int) : Cn Tryd.prog 133 [.v (.int .i64 x)] (.v (.bool false)) := by
  refine cn_go Tryd.func133 [] 1 (by kernel_rfl) rfl (by simp [go_sem, seval]) ?_
  conv => arg 4; cbv
  conv => enter [5, 1]; cbv
  try simp (maxSteps := 2000000) (disch := omega) only [go_sem, seval]
  try repeat ((with_reducible refine And.intro ?_ ?_); focus (first | omega | assumption | exact True.intro | (show anyD _ _ = true; exact rfl) | (simp only [List.length_map, List.length_append, List.length_cons, List.length_nil, List.length_take, List.length_drop]; omega)))
theorem cmp_c (x y : Nat) : Cn Tryd.prog 115 [.v (.int .u64 x), .v (.int .u64 y)] (.v (.int .i64 (if x < y then -1 else if y < x then 1 else 0))) := by
  refine cn_go Tryd.func115 [] 2 (by kernel_rfl) rfl (by simp [go_sem, seval]) ?_
  conv => arg 4; cbv
  conv => enter [5, 1]; cbv
  try simp (maxSteps := 2000000) (disch := omega) only [go_sem, seval]
  try repeat ((with_reducible refine And.intro ?_ ?_); focus (first | omega | assumption | exact True.intro | (show anyD _ _ = true; exact rfl) | (simp only [List.length_map, List.length_append, List.length_cons, List.length_nil, List.length_take, List.length_drop]; omega)))
  (first | refine callP.mk (nan_c x) rfl ?_ | refine callQ.mk (nan_c x) rfl ?_ | refine callO.rd (nan_c x) rfl ?_ | refine callO.mk (nan_c x) rfl ?_)
  try simp (maxSteps := 2000000) (disch := omega) only [go_sem, seval]
  try repeat ((with_reducible refine And.intro ?_ ?_); focus (first | omega | assumption | exact True.intro | (show anyD _ _ = true; exact rfl) | (simp only [List.length_map, List.length_append, List.length_cons, List.length_nil, List.length_take, List.length_drop]; omega)))
  (first | refine callP.mk (nan_c y) rfl ?_ | refine callQ.mk (nan_c y) rfl ?_ | refine callO.rd (nan_c y) rfl ?_ | refine callO.mk (nan_c y) rfl ?_)
  try simp (maxSteps := 2000000) (disch := omega) only [go_sem, seval]
  try repeat ((with_reducible refine And.intro ?_ ?_); focus (first | omega | assumption | exact True.intro | (show anyD _ _ = true; exact rfl) | (simp only [List.length_map, List.length_append, List.length_cons, List.length_nil, List.length_take, List.length_drop]; omega)))
  (first | refine brP.mk (fun h1 => ?_) (fun h1 => ?_) | refine gdP.mkt (fun h1 => ?_) (fun h1 => ?_) | refine gdP.mkf (fun h1 => ?_) (fun h1 => ?_) | refine pkP.mk (fun h1 => ?_) (fun h1 => ?_)) <;> (try simp only [Bool.not_true, Bool.not_false, decide_eq_true_eq, decide_eq_false_iff_not, Bool.and_eq_true, Bool.or_eq_true, Bool.not_eq_true', Bool.not_eq_false', Bool.and_eq_false_iff, Bool.or_eq_false_iff, Nat.not_lt, Int.not_lt, Nat.not_le, Int.not_le, Int.ofNat_lt, Int.ofNat_le, Int.ofNat_inj, Bool.xor_false, Bool.false_xor, Bool.true_xor, Bool.xor_true] at h1) <;> (try simp (maxSteps := 2000000) (disch := omega) only [go_sem, seval]) <;> (try repeat ((with_reducible refine And.intro ?_ ?_); focus (first | omega | assumption | exact True.intro | (show anyD _ _ = true; exact rfl) | (simp only [List.length_map, List.length_append, List.length_cons, List.length_nil, List.length_take, List.length_drop]; omega))))
  · rw [if_pos h1]
  · rw [if_neg (by omega)]
    (first | refine brP.mk (fun h2 => ?_) (fun h2 => ?_) | refine gdP.mkt (fun h2 => ?_) (fun h2 => ?_) | refine gdP.mkf (fun h2 => ?_) (fun h2 => ?_) | refine pkP.mk (fun h2 => ?_) (fun h2 => ?_)) <;> (try simp only [Bool.not_true, Bool.not_false, decide_eq_true_eq, decide_eq_false_iff_not, Bool.and_eq_true, Bool.or_eq_true, Bool.not_eq_true', Bool.not_eq_false', Bool.and_eq_false_iff, Bool.or_eq_false_iff, Nat.not_lt, Int.not_lt, Nat.not_le, Int.not_le, Int.ofNat_lt, Int.ofNat_le, Int.ofNat_inj, Bool.xor_false, Bool.false_xor, Bool.true_xor, Bool.xor_true] at h2) <;> (try simp (maxSteps := 2000000) (disch := omega) only [go_sem, seval]) <;> (try repeat ((with_reducible refine And.intro ?_ ?_); focus (first | omega | assumption | exact True.intro | (show anyD _ _ = true; exact rfl) | (simp only [List.length_map, List.length_append, List.length_cons, List.length_nil, List.length_take, List.length_drop]; omega))))
    · rw [if_pos h2]
    · rw [if_neg (by omega)]
theorem cmpI_c (x y : Nat) : Cn Tryd.prog 116 [.v (.int .i64 x), .v (.int .i64 y)] (.v (.int .i64 (if x < y then -1 else if y < x then 1 else 0))) := by
  refine cn_go Tryd.func116 [] 2 (by kernel_rfl) rfl (by simp [go_sem, seval]) ?_
  conv => arg 4; cbv
  conv => enter [5, 1]; cbv
  try simp (maxSteps := 2000000) (disch := omega) only [go_sem, seval]
  try repeat ((with_reducible refine And.intro ?_ ?_); focus (first | omega | assumption | exact True.intro | (show anyD _ _ = true; exact rfl) | (simp only [List.length_map, List.length_append, List.length_cons, List.length_nil, List.length_take, List.length_drop]; omega)))
  (first | refine callP.mk (nanI_c x) rfl ?_ | refine callQ.mk (nanI_c x) rfl ?_ | refine callO.rd (nanI_c x) rfl ?_ | refine callO.mk (nanI_c x) rfl ?_)
  try simp (maxSteps := 2000000) (disch := omega) only [go_sem, seval]
  try repeat ((with_reducible refine And.intro ?_ ?_); focus (first | omega | assumption | exact True.intro | (show anyD _ _ = true; exact rfl) | (simp only [List.length_map, List.length_append, List.length_cons, List.length_nil, List.length_take, List.length_drop]; omega)))
  (first | refine callP.mk (nanI_c y) rfl ?_ | refine callQ.mk (nanI_c y) rfl ?_ | refine callO.rd (nanI_c y) rfl ?_ | refine callO.mk (nanI_c y) rfl ?_)
  try simp (maxSteps := 2000000) (disch := omega) only [go_sem, seval]
  try repeat ((with_reducible refine And.intro ?_ ?_); focus (first | omega | assumption | exact True.intro | (show anyD _ _ = true; exact rfl) | (simp only [List.length_map, List.length_append, List.length_cons, List.length_nil, List.length_take, List.length_drop]; omega)))
  (first | refine brP.mk (fun h1 => ?_) (fun h1 => ?_) | refine gdP.mkt (fun h1 => ?_) (fun h1 => ?_) | refine gdP.mkf (fun h1 => ?_) (fun h1 => ?_) | refine pkP.mk (fun h1 => ?_) (fun h1 => ?_)) <;> (try simp only [Bool.not_true, Bool.not_false, decide_eq_true_eq, decide_eq_false_iff_not, Bool.and_eq_true, Bool.or_eq_true, Bool.not_eq_true', Bool.not_eq_false', Bool.and_eq_false_iff, Bool.or_eq_false_iff, Nat.not_lt, Int.not_lt, Nat.not_le, Int.not_le, Int.ofNat_lt, Int.ofNat_le, Int.ofNat_inj, Bool.xor_false, Bool.false_xor, Bool.true_xor, Bool.xor_true] at h1) <;> (try simp (maxSteps := 2000000) (disch := omega) only [go_sem, seval]) <;> (try repeat ((with_reducible refine And.intro ?_ ?_); focus (first | omega | assumption | exact True.intro | (show anyD _ _ = true; exact rfl) | (simp only [List.length_map, List.length_append, List.length_cons, List.length_nil, List.length_take, List.length_drop]; omega))))
  · rw [if_pos h1]
  · rw [if_neg (by omega)]
    (first | refine brP.mk (fun h2 => ?_) (fun h2 => ?_) | refine gdP.mkt (fun h2 => ?_) (fun h2 => ?_) | refine gdP.mkf (fun h2 => ?_) (fun h2 => ?_) | refine pkP.mk (fun h2 => ?_) (fun h2 => ?_)) <;> (try simp only [Bool.not_true, Bool.not_false, decide_eq_true_eq, decide_eq_false_iff_not, Bool.and_eq_true, Bool.or_eq_true, Bool.not_eq_true', Bool.not_eq_false', Bool.and_eq_false_iff, Bool.or_eq_false_iff, Nat.not_lt, Int.not_lt, Nat.not_le, Int.not_le, Int.ofNat_lt, Int.ofNat_le, Int.ofNat_inj, Bool.xor_false, Bool.false_xor, Bool.true_xor, Bool.xor_true] at h2) <;> (try simp (maxSteps := 2000000) (disch := omega) only [go_sem, seval]) <;> (try repeat ((with_reducible refine And.intro ?_ ?_); focus (first | omega | assumption | exact True.intro | (show anyD _ _ = true; exact rfl) | (simp only [List.length_map, List.length_append, List.length_cons, List.length_nil, List.length_take, List.length_drop]; omega))))
    · rw [if_pos h2]
    · rw [if_neg (by omega)]
theorem key_c (r : Nat) (e : En) : Cn Tryd.prog 90 [.v (.int .u64 r), ep e] (.v (.int .i64 (if e.rep < r then -1 else if r < e.rep then 1 else 0))) := by
  refine cn_go Tryd.func90 [] 2 (by kernel_rfl) rfl (by simp [go_sem, seval]) ?_
  conv => arg 4; cbv
  conv => enter [5, 1]; cbv
  try simp (maxSteps := 2000000) (disch := omega) only [go_sem, seval]
  try repeat ((with_reducible refine And.intro ?_ ?_); focus (first | omega | assumption | exact True.intro | (show anyD _ _ = true; exact rfl) | (simp only [List.length_map, List.length_append, List.length_cons, List.length_nil, List.length_take, List.length_drop]; omega)))
  (first | refine callP.mk (cmp_c e.rep r) rfl ?_ | refine callQ.mk (cmp_c e.rep r) rfl ?_ | refine callO.rd (cmp_c e.rep r) rfl ?_ | refine callO.mk (cmp_c e.rep r) rfl ?_)
  try simp (maxSteps := 2000000) (disch := omega) only [go_sem, seval]
  try repeat ((with_reducible refine And.intro ?_ ?_); focus (first | omega | assumption | exact True.intro | (show anyD _ _ = true; exact rfl) | (simp only [List.length_map, List.length_append, List.length_cons, List.length_nil, List.length_take, List.length_drop]; omega)))
theorem order_c (a b : List Nat) (ha : a.length ≤ 1152921504606846976) (hb : b.length ≤ 1152921504606846976) : Cn Tryd.prog 93 [ns a, ns b] (.v (.int .i64 (cmpL a b))) := by
  refine cn_go Tryd.func93 [] 2 (by kernel_rfl) rfl (by simp [go_sem, seval]) ?_
  conv => arg 4; cbv
  conv => enter [5, 1]; cbv
  try simp (maxSteps := 2000000) (disch := omega) only [go_sem, seval]
  try repeat ((with_reducible refine And.intro ?_ ?_); focus (first | omega | assumption | exact True.intro | (show anyD _ _ = true; exact rfl) | (simp only [List.length_map, List.length_append, List.length_cons, List.length_nil, List.length_take, List.length_drop]; omega)))
  obtain ⟨m, e1, h1, h2, h3⟩ : ∃ m : Nat, (if b.length < a.length then (b.length : Int) else (a.length : Int)) = (m : Int) ∧ m ≤ a.length ∧ m ≤ b.length ∧ (m = a.length ∨ m = b.length) := by
    by_cases h : b.length < a.length
    · exact ⟨b.length, if_pos h, by omega, by omega, .inr rfl⟩
    · exact ⟨a.length, if_neg h, by omega, by omega, .inl rfl⟩
  rw [e1]
  refine pLoop.go (fun k => k ≤ m ∧ cmpL a b = cmpL (a.drop k) (b.drop k)) (fun k => [(11, .v (.int .i64 (k : Nat)))]) (fun _ => []) (fun k => m - k) 0 [11] ?_ ?_ ?_
  · exact ⟨Nat.zero_le _, rfl⟩
  · try simp (maxSteps := 2000000) (disch := omega) only [go_sem, seval]
    try repeat ((with_reducible refine And.intro ?_ ?_); focus (first | omega | assumption | exact True.intro | (show anyD _ _ = true; exact rfl) | (simp only [List.length_map, List.length_append, List.length_cons, List.length_nil, List.length_take, List.length_drop]; omega)))
  · rintro k ⟨hk, hm⟩
    try simp (maxSteps := 2000000) (disch := omega) only [go_sem, seval]
    try repeat ((with_reducible refine And.intro ?_ ?_); focus (first | omega | assumption | exact True.intro | (show anyD _ _ = true; exact rfl) | (simp only [List.length_map, List.length_append, List.length_cons, List.length_nil, List.length_take, List.length_drop]; omega)))
    (first | refine brP.mk (fun h => ?_) (fun h => ?_) | refine gdP.mkt (fun h => ?_) (fun h => ?_) | refine gdP.mkf (fun h => ?_) (fun h => ?_) | refine pkP.mk (fun h => ?_) (fun h => ?_)) <;> (try simp only [Bool.not_true, Bool.not_false, decide_eq_true_eq, decide_eq_false_iff_not, Bool.and_eq_true, Bool.or_eq_true, Bool.not_eq_true', Bool.not_eq_false', Bool.and_eq_false_iff, Bool.or_eq_false_iff, Nat.not_lt, Int.not_lt, Nat.not_le, Int.not_le, Int.ofNat_lt, Int.ofNat_le, Int.ofNat_inj, Bool.xor_false, Bool.false_xor, Bool.true_xor, Bool.xor_true] at h) <;> (try simp (maxSteps := 2000000) (disch := omega) only [go_sem, seval]) <;> (try repeat ((with_reducible refine And.intro ?_ ?_); focus (first | omega | assumption | exact True.intro | (show anyD _ _ = true; exact rfl) | (simp only [List.length_map, List.length_append, List.length_cons, List.length_nil, List.length_take, List.length_drop]; omega))))
    · have ha' : k < a.length := by omega
      have hb' : k < b.length := by omega
      rw [List.drop_eq_getElem_cons ha', List.drop_eq_getElem_cons hb', cmpL] at hm
      try simp (maxSteps := 2000000) (disch := omega) only [go_sem, seval]
      try repeat ((with_reducible refine And.intro ?_ ?_); focus (first | omega | assumption | exact True.intro | (show anyD _ _ = true; exact rfl) | (simp only [List.length_map, List.length_append, List.length_cons, List.length_nil, List.length_take, List.length_drop]; omega)))
      (first | refine brP.mk (fun h4 => ?_) (fun h4 => ?_) | refine gdP.mkt (fun h4 => ?_) (fun h4 => ?_) | refine gdP.mkf (fun h4 => ?_) (fun h4 => ?_) | refine pkP.mk (fun h4 => ?_) (fun h4 => ?_)) <;> (try simp only [Bool.not_true, Bool.not_false, decide_eq_true_eq, decide_eq_false_iff_not, Bool.and_eq_true, Bool.or_eq_true, Bool.not_eq_true', Bool.not_eq_false', Bool.and_eq_false_iff, Bool.or_eq_false_iff, Nat.not_lt, Int.not_lt, Nat.not_le, Int.not_le, Int.ofNat_lt, Int.ofNat_le, Int.ofNat_inj, Bool.xor_false, Bool.false_xor, Bool.true_xor, Bool.xor_true] at h4) <;> (try simp (maxSteps := 2000000) (disch := omega) only [go_sem, seval]) <;> (try repeat ((with_reducible refine And.intro ?_ ?_); focus (first | omega | assumption | exact True.intro | (show anyD _ _ = true; exact rfl) | (simp only [List.length_map, List.length_append, List.length_cons, List.length_nil, List.length_take, List.length_drop]; omega))))
      · (first | refine callP.mk (cmp_c a[k] b[k]) rfl ?_ | refine callQ.mk (cmp_c a[k] b[k]) rfl ?_ | refine callO.rd (cmp_c a[k] b[k]) rfl ?_ | refine callO.mk (cmp_c a[k] b[k]) rfl ?_)
        try simp (maxSteps := 2000000) (disch := omega) only [go_sem, seval]
        try repeat ((with_reducible refine And.intro ?_ ?_); focus (first | omega | assumption | exact True.intro | (show anyD _ _ = true; exact rfl) | (simp only [List.length_map, List.length_append, List.length_cons, List.length_nil, List.length_take, List.length_drop]; omega)))
        rw [hm]
        by_cases h5 : a[k] < b[k]
        · rw [if_pos h5, if_pos h5]
        · rw [if_neg h5, if_neg h5, if_pos (by omega), if_pos (by omega)]
      · rw [if_neg (by omega), if_neg (by omega)] at hm
        exact ⟨k + 1, ⟨h, hm⟩, by omega, rfl⟩
    · (first | refine callP.mk (cmpI_c a.length b.length) rfl ?_ | refine callQ.mk (cmpI_c a.length b.length) rfl ?_ | refine callO.rd (cmpI_c a.length b.length) rfl ?_ | refine callO.mk (cmpI_c a.length b.length) rfl ?_)
      try simp (maxSteps := 2000000) (disch := omega) only [go_sem, seval]
      try repeat ((with_reducible refine And.intro ?_ ?_); focus (first | omega | assumption | exact True.intro | (show anyD _ _ = true; exact rfl) | (simp only [List.length_map, List.length_append, List.length_cons, List.length_nil, List.length_take, List.length_drop]; omega)))
      have hx : a.drop k = [] ∨ b.drop k = [] := by
        rcases h3 with h3 | h3
        · exact .inl (List.drop_of_length_le (by omega))
        · exact .inr (List.drop_of_length_le (by omega))
      have la : (a.drop k).length = a.length - k := List.length_drop
      have lb : (b.drop k).length = b.length - k := List.length_drop
      rw [hm]
      generalize a.drop k = x at *
      generalize b.drop k = y at *
      rcases hx with rfl | rfl
      · cases y with
        | nil => simp at la lb; rw [if_neg (by omega), if_neg (by omega)]; rfl
        | cons c y => simp at la lb; rw [if_pos (by omega)]; rfl
      · cases x with
        | nil => simp at la lb; rw [if_neg (by omega), if_neg (by omega)]; rfl
        | cons c y => simp at la lb; rw [if_neg (by omega), if_pos (by omega)]; rfl
theorem eqN_c (a b : List Nat) (ha : a.length ≤ 1152921504606846976) : Cn Tryd.prog 52 [ns a, ns b] (.v (.bool (decide (a = b)))) := by
  refine cn_go Tryd.func52 [] 2 (by kernel_rfl) rfl (by simp [go_sem, seval]) ?_
  conv => arg 4; cbv
  conv => enter [5, 1]; cbv
  try simp (maxSteps := 2000000) (disch := omega) only [go_sem, seval]
  try repeat ((with_reducible refine And.intro ?_ ?_); focus (first | omega | assumption | exact True.intro | (show anyD _ _ = true; exact rfl) | (simp only [List.length_map, List.length_append, List.length_cons, List.length_nil, List.length_take, List.length_drop]; omega)))
  (first | refine brP.mk (fun h0 => ?_) (fun h0 => ?_) | refine gdP.mkt (fun h0 => ?_) (fun h0 => ?_) | refine gdP.mkf (fun h0 => ?_) (fun h0 => ?_) | refine pkP.mk (fun h0 => ?_) (fun h0 => ?_)) <;> (try simp only [Bool.not_true, Bool.not_false, decide_eq_true_eq, decide_eq_false_iff_not, Bool.and_eq_true, Bool.or_eq_true, Bool.not_eq_true', Bool.not_eq_false', Bool.and_eq_false_iff, Bool.or_eq_false_iff, Nat.not_lt, Int.not_lt, Nat.not_le, Int.not_le, Int.ofNat_lt, Int.ofNat_le, Int.ofNat_inj, Bool.xor_false, Bool.false_xor, Bool.true_xor, Bool.xor_true] at h0) <;> (try simp (maxSteps := 2000000) (disch := omega) only [go_sem, seval]) <;> (try repeat ((with_reducible refine And.intro ?_ ?_); focus (first | omega | assumption | exact True.intro | (show anyD _ _ = true; exact rfl) | (simp only [List.length_map, List.length_append, List.length_cons, List.length_nil, List.length_take, List.length_drop]; omega))))
  · symm
    rw [decide_eq_false_iff_not]
    rintro rfl
    exact h0 rfl
  · have h0' : a.length = b.length := by simpa using h0
    clear h0
    refine pLoop.go (fun k => k ≤ a.length ∧ (a = b ↔ a.drop k = b.drop k)) (fun k => [(13, .v (.int .i64 (k : Nat)))]) (fun _ => []) (fun k => a.length - k) 0 [13] ?_ ?_ ?_
    · exact ⟨Nat.zero_le _, Iff.rfl⟩
    · try simp (maxSteps := 2000000) (disch := omega) only [go_sem, seval]
      try repeat ((with_reducible refine And.intro ?_ ?_); focus (first | omega | assumption | exact True.intro | (show anyD _ _ = true; exact rfl) | (simp only [List.length_map, List.length_append, List.length_cons, List.length_nil, List.length_take, List.length_drop]; omega)))
    · rintro k ⟨hk, hm⟩
      try simp (maxSteps := 2000000) (disch := omega) only [go_sem, seval]
      try repeat ((with_reducible refine And.intro ?_ ?_); focus (first | omega | assumption | exact True.intro | (show anyD _ _ = true; exact rfl) | (simp only [List.length_map, List.length_append, List.length_cons, List.length_nil, List.length_take, List.length_drop]; omega)))
      (first | refine brP.mk (fun h => ?_) (fun h => ?_) | refine gdP.mkt (fun h => ?_) (fun h => ?_) | refine gdP.mkf (fun h => ?_) (fun h => ?_) | refine pkP.mk (fun h => ?_) (fun h => ?_)) <;> (try simp only [Bool.not_true, Bool.not_false, decide_eq_true_eq, decide_eq_false_iff_not, Bool.and_eq_true, Bool.or_eq_true, Bool.not_eq_true', Bool.not_eq_false', Bool.and_eq_false_iff, Bool.or_eq_false_iff, Nat.not_lt, Int.not_lt, Nat.not_le, Int.not_le, Int.ofNat_lt, Int.ofNat_le, Int.ofNat_inj, Bool.xor_false, Bool.false_xor, Bool.true_xor, Bool.xor_true] at h) <;> (try simp (maxSteps := 2000000) (disch := omega) only [go_sem, seval]) <;> (try repeat ((with_reducible refine And.intro ?_ ?_); focus (first | omega | assumption | exact True.intro | (show anyD _ _ = true; exact rfl) | (simp only [List.length_map, List.length_append, List.length_cons, List.length_nil, List.length_take, List.length_drop]; omega))))
      · have hk' : k < b.length := by omega
        rw [List.drop_eq_getElem_cons h, List.drop_eq_getElem_cons hk', List.cons.injEq] at hm
        try simp (maxSteps := 2000000) (disch := omega) only [go_sem, seval]
        try repeat ((with_reducible refine And.intro ?_ ?_); focus (first | omega | assumption | exact True.intro | (show anyD _ _ = true; exact rfl) | (simp only [List.length_map, List.length_append, List.length_cons, List.length_nil, List.length_take, List.length_drop]; omega)))
        (first | refine brP.mk (fun e => ?_) (fun e => ?_) | refine gdP.mkt (fun e => ?_) (fun e => ?_) | refine gdP.mkf (fun e => ?_) (fun e => ?_) | refine pkP.mk (fun e => ?_) (fun e => ?_)) <;> (try simp only [Bool.not_true, Bool.not_false, decide_eq_true_eq, decide_eq_false_iff_not, Bool.and_eq_true, Bool.or_eq_true, Bool.not_eq_true', Bool.not_eq_false', Bool.and_eq_false_iff, Bool.or_eq_false_iff, Nat.not_lt, Int.not_lt, Nat.not_le, Int.not_le, Int.ofNat_lt, Int.ofNat_le, Int.ofNat_inj, Bool.xor_false, Bool.false_xor, Bool.true_xor, Bool.xor_true] at e) <;> (try simp (maxSteps := 2000000) (disch := omega) only [go_sem, seval]) <;> (try repeat ((with_reducible refine And.intro ?_ ?_); focus (first | omega | assumption | exact True.intro | (show anyD _ _ = true; exact rfl) | (simp only [List.length_map, List.length_append, List.length_cons, List.length_nil, List.length_take, List.length_drop]; omega))))
        · symm
          rw [decide_eq_false_iff_not]
          intro he
          exact absurd (hm.1 he).1 (by omega)
        · refine ⟨k + 1, ⟨h, ?_⟩, by omega, rfl⟩
          rw [hm]
          have e : a[k] = b[k] := by omega
          exact ⟨fun h => h.2, fun h => ⟨e, h⟩⟩
      · rw [eq_comm, decide_eq_true_eq, hm, List.drop_of_length_le (by omega), List.drop_of_length_le (by omega)]
theorem vcompare_c (a b : List En) (ha : ∀ e ∈ a, BdE e) (hb : ∀ e ∈ b, BdE e) (la : (nums a).length ≤ 1073741824) (lb : (nums b).length ≤ 1073741824) : Cn Tryd.prog 51 [vp a, vp b] (.v (.int .i64 (cmpL (nums a) (nums b)))) := by
  refine cn_go Tryd.func51 [] 2 (by kernel_rfl) rfl (by simp [go_sem, seval]) ?_
  conv => arg 4; cbv
  conv => enter [5, 1]; cbv
  try simp (maxSteps := 2000000) (disch := omega) only [go_sem, seval]
  try repeat ((with_reducible refine And.intro ?_ ?_); focus (first | omega | assumption | exact True.intro | (show anyD _ _ = true; exact rfl) | (simp only [List.length_map, List.length_append, List.length_cons, List.length_nil, List.length_take, List.length_drop]; omega)))
  (first | refine callP.mk (numbers_c a ha la) rfl ?_ | refine callQ.mk (numbers_c a ha la) rfl ?_ | refine callO.rd (numbers_c a ha la) rfl ?_ | refine callO.mk (numbers_c a ha la) rfl ?_)
  try simp (maxSteps := 2000000) (disch := omega) only [go_sem, seval]
  try repeat ((with_reducible refine And.intro ?_ ?_); focus (first | omega | assumption | exact True.intro | (show anyD _ _ = true; exact rfl) | (simp only [List.length_map, List.length_append, List.length_cons, List.length_nil, List.length_take, List.length_drop]; omega)))
  (first | refine callP.mk (numbers_c b hb lb) rfl ?_ | refine callQ.mk (numbers_c b hb lb) rfl ?_ | refine callO.rd (numbers_c b hb lb) rfl ?_ | refine callO.mk (numbers_c b hb lb) rfl ?_)
  try simp (maxSteps := 2000000) (disch := omega) only [go_sem, seval]
  try repeat ((with_reducible refine And.intro ?_ ?_); focus (first | omega | assumption | exact True.intro | (show anyD _ _ = true; exact rfl) | (simp only [List.length_map, List.length_append, List.length_cons, List.length_nil, List.length_take, List.length_drop]; omega)))
  (first | refine callP.mk (order_c (nums a) (nums b) (by omega) (by omega)) rfl ?_ | refine callQ.mk (order_c (nums a) (nums b) (by omega) (by omega)) rfl ?_ | refine callO.rd (order_c (nums a) (nums b) (by omega) (by omega)) rfl ?_ | refine callO.mk (order_c (nums a) (nums b) (by omega) (by omega)) rfl ?_)
  try simp (maxSteps := 2000000) (disch := omega) only [go_sem, seval]
  try repeat ((with_reducible refine And.intro ?_ ?_); focus (first | omega | assumption | exact True.intro | (show anyD _ _ = true; exact rfl) | (simp only [List.length_map, List.length_append, List.length_cons, List.length_nil, List.length_take, List.length_drop]; omega)))
theorem sameV_c (a b : List En) (hl : a.length ≤ 1152921504606846976) (hh : ∀ e ∈ a, e.holes.length ≤ 1152921504606846976) : Cn Tryd.prog 56 [vp a, vp b] (.v (.bool (decide (a = b)))) := by
  refine cn_go Tryd.func56 [] 2 (by kernel_rfl) rfl (by simp [go_sem, seval]) ?_
  conv => arg 4; cbv
  conv => enter [5, 1]; cbv
  try simp (maxSteps := 2000000) (disch := omega) only [go_sem, seval]
  try repeat ((with_reducible refine And.intro ?_ ?_); focus (first | omega | assumption | exact True.intro | (show anyD _ _ = true; exact rfl) | (simp only [List.length_map, List.length_append, List.length_cons, List.length_nil, List.length_take, List.length_drop]; omega)))
  (first | refine brP.mk (fun h0 => ?_) (fun h0 => ?_) | refine gdP.mkt (fun h0 => ?_) (fun h0 => ?_) | refine gdP.mkf (fun h0 => ?_) (fun h0 => ?_) | refine pkP.mk (fun h0 => ?_) (fun h0 => ?_)) <;> (try simp only [Bool.not_true, Bool.not_false, decide_eq_true_eq, decide_eq_false_iff_not, Bool.and_eq_true, Bool.or_eq_true, Bool.not_eq_true', Bool.not_eq_false', Bool.and_eq_false_iff, Bool.or_eq_false_iff, Nat.not_lt, Int.not_lt, Nat.not_le, Int.not_le, Int.ofNat_lt, Int.ofNat_le, Int.ofNat_inj, Bool.xor_false, Bool.false_xor, Bool.true_xor, Bool.xor_true] at h0) <;> (try simp (maxSteps := 2000000) (disch := omega) only [go_sem, seval]) <;> (try repeat ((with_reducible refine And.intro ?_ ?_); focus (first | omega | assumption | exact True.intro | (show anyD _ _ = true; exact rfl) | (simp only [List.length_map, List.length_append, List.length_cons, List.length_nil, List.length_take, List.length_drop]; omega))))
  · symm
    rw [decide_eq_false_iff_not]
    rintro rfl
    exact h0 rfl
  · have h0' : a.length = b.length := by simpa using h0
    clear h0
    refine pLoop.go (fun k => k ≤ a.length ∧ (a = b ↔ a.drop k = b.drop k)) (fun k => [(5, .v (.int .i64 (k : Nat)))]) (fun _ => []) (fun k => a.length - k) 0 [5] ?_ ?_ ?_
    · exact ⟨Nat.zero_le _, Iff.rfl⟩
    · try simp (maxSteps := 2000000) (disch := omega) only [go_sem, seval]
      try repeat ((with_reducible refine And.intro ?_ ?_); focus (first | omega | assumption | exact True.intro | (show anyD _ _ = true; exact rfl) | (simp only [List.length_map, List.length_append, List.length_cons, List.length_nil, List.length_take, List.length_drop]; omega)))
    · rintro k ⟨hk, hm⟩
      try simp (maxSteps := 2000000) (disch := omega) only [go_sem, seval]
      try repeat ((with_reducible refine And.intro ?_ ?_); focus (first | omega | assumption | exact True.intro | (show anyD _ _ = true; exact rfl) | (simp only [List.length_map, List.length_append, List.length_cons, List.length_nil, List.length_take, List.length_drop]; omega)))
      (first | refine brP.mk (fun h => ?_) (fun h => ?_) | refine gdP.mkt (fun h => ?_) (fun h => ?_) | refine gdP.mkf (fun h => ?_) (fun h => ?_) | refine pkP.mk (fun h => ?_) (fun h => ?_)) <;> (try simp only [Bool.not_true, Bool.not_false, decide_eq_true_eq, decide_eq_false_iff_not, Bool.and_eq_true, Bool.or_eq_true, Bool.not_eq_true', Bool.not_eq_false', Bool.and_eq_false_iff, Bool.or_eq_false_iff, Nat.not_lt, Int.not_lt, Nat.not_le, Int.not_le, Int.ofNat_lt, Int.ofNat_le, Int.ofNat_inj, Bool.xor_false, Bool.false_xor, Bool.true_xor, Bool.xor_true] at h) <;> (try simp (maxSteps := 2000000) (disch := omega) only [go_sem, seval]) <;> (try repeat ((with_reducible refine And.intro ?_ ?_); focus (first | omega | assumption | exact True.intro | (show anyD _ _ = true; exact rfl) | (simp only [List.length_map, List.length_append, List.length_cons, List.length_nil, List.length_take, List.length_drop]; omega))))
      · have hk' : k < b.length := by omega
        rw [List.drop_eq_getElem_cons h, List.drop_eq_getElem_cons hk', List.cons.injEq] at hm
        try simp (maxSteps := 2000000) (disch := omega) only [go_sem, seval]
        try repeat ((with_reducible refine And.intro ?_ ?_); focus (first | omega | assumption | exact True.intro | (show anyD _ _ = true; exact rfl) | (simp only [List.length_map, List.length_append, List.length_cons, List.length_nil, List.length_take, List.length_drop]; omega)))
        (first | refine callP.mk (same7_c a[k] b[k] (hh _ (List.getElem_mem h))) rfl ?_ | refine callQ.mk (same7_c a[k] b[k] (hh _ (List.getElem_mem h))) rfl ?_ | refine callO.rd (same7_c a[k] b[k] (hh _ (List.getElem_mem h))) rfl ?_ | refine callO.mk (same7_c a[k] b[k] (hh _ (List.getElem_mem h))) rfl ?_)
        try simp (maxSteps := 2000000) (disch := omega) only [go_sem, seval]
        try repeat ((with_reducible refine And.intro ?_ ?_); focus (first | omega | assumption | exact True.intro | (show anyD _ _ = true; exact rfl) | (simp only [List.length_map, List.length_append, List.length_cons, List.length_nil, List.length_take, List.length_drop]; omega)))
        (first | refine brP.mk (fun e => ?_) (fun e => ?_) | refine gdP.mkt (fun e => ?_) (fun e => ?_) | refine gdP.mkf (fun e => ?_) (fun e => ?_) | refine pkP.mk (fun e => ?_) (fun e => ?_)) <;> (try simp only [Bool.not_true, Bool.not_false, decide_eq_true_eq, decide_eq_false_iff_not, Bool.and_eq_true, Bool.or_eq_true, Bool.not_eq_true', Bool.not_eq_false', Bool.and_eq_false_iff, Bool.or_eq_false_iff, Nat.not_lt, Int.not_lt, Nat.not_le, Int.not_le, Int.ofNat_lt, Int.ofNat_le, Int.ofNat_inj, Bool.xor_false, Bool.false_xor, Bool.true_xor, Bool.xor_true] at e) <;> (try simp (maxSteps := 2000000) (disch := omega) only [go_sem, seval]) <;> (try repeat ((with_reducible refine And.intro ?_ ?_); focus (first | omega | assumption | exact True.intro | (show anyD _ _ = true; exact rfl) | (simp only [List.length_map, List.length_append, List.length_cons, List.length_nil, List.length_take, List.length_drop]; omega))))
        · symm
          rw [decide_eq_false_iff_not]
          intro he
          exact e (hm.1 he).1
        · refine ⟨k + 1, ⟨h, ?_⟩, by omega, rfl⟩
          rw [hm]
          exact ⟨fun h => h.2, fun h => ⟨e, h⟩⟩
      · rw [eq_comm, decide_eq_true_eq, hm, List.drop_of_length_le (by omega), List.drop_of_length_le (by omega)]
theorem refFind_c (v : List En) (r : Nat) (hl : v.length ≤ 1152921504606846976) : Cn Tryd.prog 48 [vp v, .v (.int .u64 r)] (.v (.int .i64 (fdV r 0 v))) := by
  refine cn_go Tryd.func48 [] 2 (by kernel_rfl) rfl (by simp [go_sem, seval]) ?_
  conv => arg 4; cbv
  conv => enter [5, 1]; cbv
  try simp (maxSteps := 2000000) (disch := omega) only [go_sem, seval]
  try repeat ((with_reducible refine And.intro ?_ ?_); focus (first | omega | assumption | exact True.intro | (show anyD _ _ = true; exact rfl) | (simp only [List.length_map, List.length_append, List.length_cons, List.length_nil, List.length_take, List.length_drop]; omega)))
  refine pLoop.go (fun k => k ≤ v.length ∧ fdV r 0 v = fdV r k (v.drop k)) (fun k => [(5, .v (.int .i64 (k : Nat)))]) (fun _ => []) (fun k => v.length - k) 0 [5] ?_ ?_ ?_
  · exact ⟨Nat.zero_le _, rfl⟩
  · try simp (maxSteps := 2000000) (disch := omega) only [go_sem, seval]
    try repeat ((with_reducible refine And.intro ?_ ?_); focus (first | omega | assumption | exact True.intro | (show anyD _ _ = true; exact rfl) | (simp only [List.length_map, List.length_append, List.length_cons, List.length_nil, List.length_take, List.length_drop]; omega)))
  · rintro k ⟨hk, hm⟩
    try simp (maxSteps := 2000000) (disch := omega) only [go_sem, seval]
    try repeat ((with_reducible refine And.intro ?_ ?_); focus (first | omega | assumption | exact True.intro | (show anyD _ _ = true; exact rfl) | (simp only [List.length_map, List.length_append, List.length_cons, List.length_nil, List.length_take, List.length_drop]; omega)))
    (first | refine brP.mk (fun h => ?_) (fun h => ?_) | refine gdP.mkt (fun h => ?_) (fun h => ?_) | refine gdP.mkf (fun h => ?_) (fun h => ?_) | refine pkP.mk (fun h => ?_) (fun h => ?_)) <;> (try simp only [Bool.not_true, Bool.not_false, decide_eq_true_eq, decide_eq_false_iff_not, Bool.and_eq_true, Bool.or_eq_true, Bool.not_eq_true', Bool.not_eq_false', Bool.and_eq_false_iff, Bool.or_eq_false_iff, Nat.not_lt, Int.not_lt, Nat.not_le, Int.not_le, Int.ofNat_lt, Int.ofNat_le, Int.ofNat_inj, Bool.xor_false, Bool.false_xor, Bool.true_xor, Bool.xor_true] at h) <;> (try simp (maxSteps := 2000000) (disch := omega) only [go_sem, seval]) <;> (try repeat ((with_reducible refine And.intro ?_ ?_); focus (first | omega | assumption | exact True.intro | (show anyD _ _ = true; exact rfl) | (simp only [List.length_map, List.length_append, List.length_cons, List.length_nil, List.length_take, List.length_drop]; omega))))
    · rw [List.drop_eq_getElem_cons h, fdV] at hm
      try simp (maxSteps := 2000000) (disch := omega) only [go_sem, seval]
      try repeat ((with_reducible refine And.intro ?_ ?_); focus (first | omega | assumption | exact True.intro | (show anyD _ _ = true; exact rfl) | (simp only [List.length_map, List.length_append, List.length_cons, List.length_nil, List.length_take, List.length_drop]; omega)))
      (first | refine brP.mk (fun h2 => ?_) (fun h2 => ?_) | refine gdP.mkt (fun h2 => ?_) (fun h2 => ?_) | refine gdP.mkf (fun h2 => ?_) (fun h2 => ?_) | refine pkP.mk (fun h2 => ?_) (fun h2 => ?_)) <;> (try simp only [Bool.not_true, Bool.not_false, decide_eq_true_eq, decide_eq_false_iff_not, Bool.and_eq_true, Bool.or_eq_true, Bool.not_eq_true', Bool.not_eq_false', Bool.and_eq_false_iff, Bool.or_eq_false_iff, Nat.not_lt, Int.not_lt, Nat.not_le, Int.not_le, Int.ofNat_lt, Int.ofNat_le, Int.ofNat_inj, Bool.xor_false, Bool.false_xor, Bool.true_xor, Bool.xor_true] at h2) <;> (try simp (maxSteps := 2000000) (disch := omega) only [go_sem, seval]) <;> (try repeat ((with_reducible refine And.intro ?_ ?_); focus (first | omega | assumption | exact True.intro | (show anyD _ _ = true; exact rfl) | (simp only [List.length_map, List.length_append, List.length_cons, List.length_nil, List.length_take, List.length_drop]; omega))))
      · rw [hm, if_pos h2]
      · rw [if_neg h2] at hm
        exact ⟨k + 1, ⟨h, hm⟩, by omega, rfl⟩
    · rw [hm, List.drop_of_length_le (by omega)]
      rfl
end Go.Proofs.YtcedofkenfddkaaDoor
