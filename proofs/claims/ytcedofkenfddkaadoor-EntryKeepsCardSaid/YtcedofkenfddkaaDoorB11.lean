/- Texts of this claim, bound together: T10 T11 T12 T13 T14 T15 T16 T17 Kq. -/
import Derived.Test.YtcedofkenfddkaaDoorB10
/- The contracts of span.Check and Relate, fault.New, ranges.Check. -/
namespace Go.Proofs.YtcedofkenfddkaaDoor
set_option linter.unusedVariables false
set_option linter.unusedSimpArgs false
open Go.RowKit
set_option maxRecDepth 100000
/-- An error as fault.New makes it. -/
def errV (c : Nat) (k : Int) : PV := if c = 0 then .v .nilIface else .ifc 89 (.agg [.v (.int .i64 c), .v (.int .i64 k)])
def errno (c : Nat) : PV := .ifc 50 (.v (.int .i64 c))
theorem errV_sub (c : Nat) (k : Int) : SubP 0 (errV c k) (errV c k) := .eq _ (by unfold errV; split <;> rfl)
theorem fnew_c (c : Nat) (k : Int) : Cn Tryd.prog 77 [.v (.int .i64 c), .v (.int .i64 k)] (errV c k) := by
  refine cn_go Tryd.func77 [] 2 (by kernel_rfl) rfl (by simp [go_sem, seval]) ?_
  conv => arg 4; cbv
  conv => enter [5, 1]; cbv
  try simp (maxSteps := 2000000) (disch := omega) only [go_sem, seval]
  try repeat ((with_reducible refine And.intro ?_ ?_); focus (first | omega | assumption | exact True.intro | (show anyD _ _ = true; exact rfl) | (simp only [List.length_map, List.length_append, List.length_cons, List.length_nil, List.length_take, List.length_drop]; omega)))
  unfold errV
  (first | refine brP.mk (fun h => ?_) (fun h => ?_) | refine gdP.mkt (fun h => ?_) (fun h => ?_) | refine gdP.mkf (fun h => ?_) (fun h => ?_) | refine pkP.mk (fun h => ?_) (fun h => ?_)) <;> (try simp only [Bool.not_true, Bool.not_false, decide_eq_true_eq, decide_eq_false_iff_not, Bool.and_eq_true, Bool.or_eq_true, Bool.not_eq_true', Bool.not_eq_false', Bool.and_eq_false_iff, Bool.or_eq_false_iff, Nat.not_lt, Int.not_lt, Nat.not_le, Int.not_le, Int.ofNat_lt, Int.ofNat_le, Int.ofNat_inj, Bool.xor_false, Bool.false_xor, Bool.true_xor, Bool.xor_true] at h) <;> (try simp (maxSteps := 2000000) (disch := omega) only [go_sem, seval]) <;> (try repeat ((with_reducible refine And.intro ?_ ?_); focus (first | omega | assumption | exact True.intro | (show anyD _ _ = true; exact rfl) | (simp only [List.length_map, List.length_append, List.length_cons, List.length_nil, List.length_take, List.length_drop]; omega))))
  · rw [if_pos (by omega)]
    try simp (maxSteps := 2000000) (disch := omega) only [go_sem, seval]
    try repeat ((with_reducible refine And.intro ?_ ?_); focus (first | omega | assumption | exact True.intro | (show anyD _ _ = true; exact rfl) | (simp only [List.length_map, List.length_append, List.length_cons, List.length_nil, List.length_take, List.length_drop]; omega)))
  · rw [if_neg (by omega)]
    try simp (maxSteps := 2000000) (disch := omega) only [go_sem, seval]
    try repeat ((with_reducible refine And.intro ?_ ?_); focus (first | omega | assumption | exact True.intro | (show anyD _ _ = true; exact rfl) | (simp only [List.length_map, List.length_append, List.length_cons, List.length_nil, List.length_take, List.length_drop]; omega)))
theorem between_c (a b : Nat) (hb : b < M64) : Cn Tryd.prog 105 [.v (.int .u64 a), .v (.int .u64 b)] (.tup [.v (.int .u64 (b - a - 1 : Nat)), .v (.bool (decide (a < b)))]) := by
  have hM := M64_val
  refine cn_go Tryd.func105 [] 2 (by kernel_rfl) rfl (by simp [go_sem, seval]) ?_
  conv => arg 4; cbv
  conv => enter [5, 1]; cbv
  try simp (maxSteps := 2000000) (disch := omega) only [go_sem, seval]
  try repeat ((with_reducible refine And.intro ?_ ?_); focus (first | omega | assumption | exact True.intro | (show anyD _ _ = true; exact rfl) | (simp only [List.length_map, List.length_append, List.length_cons, List.length_nil, List.length_take, List.length_drop]; omega)))
  (first | refine brP.mk (fun h => ?_) (fun h => ?_) | refine gdP.mkt (fun h => ?_) (fun h => ?_) | refine gdP.mkf (fun h => ?_) (fun h => ?_) | refine pkP.mk (fun h => ?_) (fun h => ?_)) <;> (try simp only [Bool.not_true, Bool.not_false, decide_eq_true_eq, decide_eq_false_iff_not, Bool.and_eq_true, Bool.or_eq_true, Bool.not_eq_true', Bool.not_eq_false', Bool.and_eq_false_iff, Bool.or_eq_false_iff, Nat.not_lt, Int.not_lt, Nat.not_le, Int.not_le, Int.ofNat_lt, Int.ofNat_le, Int.ofNat_inj, Bool.xor_false, Bool.false_xor, Bool.true_xor, Bool.xor_true] at h) <;> (try simp (maxSteps := 2000000) (disch := omega) only [go_sem, seval]) <;> (try repeat ((with_reducible refine And.intro ?_ ?_); focus (first | omega | assumption | exact True.intro | (show anyD _ _ = true; exact rfl) | (simp only [List.length_map, List.length_append, List.length_cons, List.length_nil, List.length_take, List.length_drop]; omega))))
  · have h1 : ¬ a < b := by omega
    have h2 : b - a - 1 = 0 := by omega
    simp [h1, h2]
  · simp [h]
theorem scheck_c (s : Iv) : Cn Tryd.prog 76 [ivp s] (if s.lo ≤ s.hi then .v .nilIface else errno 2) := by
  refine cn_go Tryd.func76 [] 1 (by kernel_rfl) rfl (by simp [go_sem, seval]) ?_
  conv => arg 4; cbv
  conv => enter [5, 1]; cbv
  try simp (maxSteps := 2000000) (disch := omega) only [go_sem, seval]
  try repeat ((with_reducible refine And.intro ?_ ?_); focus (first | omega | assumption | exact True.intro | (show anyD _ _ = true; exact rfl) | (simp only [List.length_map, List.length_append, List.length_cons, List.length_nil, List.length_take, List.length_drop]; omega)))
  (first | refine brP.mk (fun h => ?_) (fun h => ?_) | refine gdP.mkt (fun h => ?_) (fun h => ?_) | refine gdP.mkf (fun h => ?_) (fun h => ?_) | refine pkP.mk (fun h => ?_) (fun h => ?_)) <;> (try simp only [Bool.not_true, Bool.not_false, decide_eq_true_eq, decide_eq_false_iff_not, Bool.and_eq_true, Bool.or_eq_true, Bool.not_eq_true', Bool.not_eq_false', Bool.and_eq_false_iff, Bool.or_eq_false_iff, Nat.not_lt, Int.not_lt, Nat.not_le, Int.not_le, Int.ofNat_lt, Int.ofNat_le, Int.ofNat_inj, Bool.xor_false, Bool.false_xor, Bool.true_xor, Bool.xor_true] at h) <;> (try simp (maxSteps := 2000000) (disch := omega) only [go_sem, seval]) <;> (try repeat ((with_reducible refine And.intro ?_ ?_); focus (first | omega | assumption | exact True.intro | (show anyD _ _ = true; exact rfl) | (simp only [List.length_map, List.length_append, List.length_cons, List.length_nil, List.length_take, List.length_drop]; omega))))
  · rw [if_neg (by omega)]
    unfold errno
    try simp (maxSteps := 2000000) (disch := omega) only [go_sem, seval]
    try repeat ((with_reducible refine And.intro ?_ ?_); focus (first | omega | assumption | exact True.intro | (show anyD _ _ = true; exact rfl) | (simp only [List.length_map, List.length_append, List.length_cons, List.length_nil, List.length_take, List.length_drop]; omega)))
  · rw [if_pos h]
    try simp (maxSteps := 2000000) (disch := omega) only [go_sem, seval]
    try repeat ((with_reducible refine And.intro ?_ ?_); focus (first | omega | assumption | exact True.intro | (show anyD _ _ = true; exact rfl) | (simp only [List.length_map, List.length_append, List.length_cons, List.length_nil, List.length_take, List.length_drop]; omega)))
theorem srel_c (s t : Iv) (h1 : s.lo ≤ s.hi) (h2 : t.lo ≤ t.hi) (h3 : s.hi < M64) (h4 : t.hi < M64) : Cn Tryd.prog 78 [ivp s, ivp t] (.v (.int .i64 (relate s t : Nat))) := by
  have hM := M64_val
  refine cn_go Tryd.func78 [] 2 (by kernel_rfl) rfl (by simp [go_sem, seval]) ?_
  conv => arg 4; cbv
  conv => enter [5, 1]; cbv
  try simp (maxSteps := 2000000) (disch := omega) only [go_sem, seval]
  try repeat ((with_reducible refine And.intro ?_ ?_); focus (first | omega | assumption | exact True.intro | (show anyD _ _ = true; exact rfl) | (simp only [List.length_map, List.length_append, List.length_cons, List.length_nil, List.length_take, List.length_drop]; omega)))
  (first | refine callP.mk (between_c s.hi t.lo (by omega)) rfl ?_ | refine callQ.mk (between_c s.hi t.lo (by omega)) rfl ?_ | refine callO.rd (between_c s.hi t.lo (by omega)) rfl ?_ | refine callO.mk (between_c s.hi t.lo (by omega)) rfl ?_)
  try simp (maxSteps := 2000000) (disch := omega) only [go_sem, seval]
  try repeat ((with_reducible refine And.intro ?_ ?_); focus (first | omega | assumption | exact True.intro | (show anyD _ _ = true; exact rfl) | (simp only [List.length_map, List.length_append, List.length_cons, List.length_nil, List.length_take, List.length_drop]; omega)))
  unfold relate
  by_cases k1 : s.hi < t.lo
  · have k2 : ¬ t.hi < s.lo := by omega
    by_cases k3 : s.hi + 1 = t.lo
    · have k4 : t.lo - s.hi - 1 = 0 := by omega
      rw [if_pos k1, if_pos k3, k4, decide_eq_true k1]
      try simp (maxSteps := 2000000) (disch := omega) only [go_sem, seval]
      try repeat ((with_reducible refine And.intro ?_ ?_); focus (first | omega | assumption | exact True.intro | (show anyD _ _ = true; exact rfl) | (simp only [List.length_map, List.length_append, List.length_cons, List.length_nil, List.length_take, List.length_drop]; omega)))
      (first | refine callP.mk (between_c t.hi s.lo (by omega)) rfl ?_ | refine callQ.mk (between_c t.hi s.lo (by omega)) rfl ?_ | refine callO.rd (between_c t.hi s.lo (by omega)) rfl ?_ | refine callO.mk (between_c t.hi s.lo (by omega)) rfl ?_)
      try simp (maxSteps := 2000000) (disch := omega) only [go_sem, seval]
      try repeat ((with_reducible refine And.intro ?_ ?_); focus (first | omega | assumption | exact True.intro | (show anyD _ _ = true; exact rfl) | (simp only [List.length_map, List.length_append, List.length_cons, List.length_nil, List.length_take, List.length_drop]; omega)))
      rw [decide_eq_false k2]
      try simp (maxSteps := 2000000) (disch := omega) only [go_sem, seval]
      try repeat ((with_reducible refine And.intro ?_ ?_); focus (first | omega | assumption | exact True.intro | (show anyD _ _ = true; exact rfl) | (simp only [List.length_map, List.length_append, List.length_cons, List.length_nil, List.length_take, List.length_drop]; omega)))
    · have k4 : 0 < t.lo - s.hi - 1 := by omega
      rw [if_pos k1, if_neg k3, decide_eq_true k1]
      try simp (maxSteps := 2000000) (disch := omega) only [go_sem, seval]
      try repeat ((with_reducible refine And.intro ?_ ?_); focus (first | omega | assumption | exact True.intro | (show anyD _ _ = true; exact rfl) | (simp only [List.length_map, List.length_append, List.length_cons, List.length_nil, List.length_take, List.length_drop]; omega)))
      (first | refine brP.mk (fun k5 => ?_) (fun k5 => ?_) | refine gdP.mkt (fun k5 => ?_) (fun k5 => ?_) | refine gdP.mkf (fun k5 => ?_) (fun k5 => ?_) | refine pkP.mk (fun k5 => ?_) (fun k5 => ?_)) <;> (try simp only [Bool.not_true, Bool.not_false, decide_eq_true_eq, decide_eq_false_iff_not, Bool.and_eq_true, Bool.or_eq_true, Bool.not_eq_true', Bool.not_eq_false', Bool.and_eq_false_iff, Bool.or_eq_false_iff, Nat.not_lt, Int.not_lt, Nat.not_le, Int.not_le, Int.ofNat_lt, Int.ofNat_le, Int.ofNat_inj, Bool.xor_false, Bool.false_xor, Bool.true_xor, Bool.xor_true] at k5) <;> (try simp (maxSteps := 2000000) (disch := omega) only [go_sem, seval]) <;> (try repeat ((with_reducible refine And.intro ?_ ?_); focus (first | omega | assumption | exact True.intro | (show anyD _ _ = true; exact rfl) | (simp only [List.length_map, List.length_append, List.length_cons, List.length_nil, List.length_take, List.length_drop]; omega))))
      · (first | refine callP.mk (between_c t.hi s.lo (by omega)) rfl ?_ | refine callQ.mk (between_c t.hi s.lo (by omega)) rfl ?_ | refine callO.rd (between_c t.hi s.lo (by omega)) rfl ?_ | refine callO.mk (between_c t.hi s.lo (by omega)) rfl ?_)
        try simp (maxSteps := 2000000) (disch := omega) only [go_sem, seval]
        try repeat ((with_reducible refine And.intro ?_ ?_); focus (first | omega | assumption | exact True.intro | (show anyD _ _ = true; exact rfl) | (simp only [List.length_map, List.length_append, List.length_cons, List.length_nil, List.length_take, List.length_drop]; omega)))
        rw [decide_eq_false k2]
        try simp (maxSteps := 2000000) (disch := omega) only [go_sem, seval]
        try repeat ((with_reducible refine And.intro ?_ ?_); focus (first | omega | assumption | exact True.intro | (show anyD _ _ = true; exact rfl) | (simp only [List.length_map, List.length_append, List.length_cons, List.length_nil, List.length_take, List.length_drop]; omega)))
      · exact absurd k4 (by omega)
  · rw [if_neg k1, decide_eq_false k1]
    try simp (maxSteps := 2000000) (disch := omega) only [go_sem, seval]
    try repeat ((with_reducible refine And.intro ?_ ?_); focus (first | omega | assumption | exact True.intro | (show anyD _ _ = true; exact rfl) | (simp only [List.length_map, List.length_append, List.length_cons, List.length_nil, List.length_take, List.length_drop]; omega)))
    (first | refine callP.mk (between_c t.hi s.lo (by omega)) rfl ?_ | refine callQ.mk (between_c t.hi s.lo (by omega)) rfl ?_ | refine callO.rd (between_c t.hi s.lo (by omega)) rfl ?_ | refine callO.mk (between_c t.hi s.lo (by omega)) rfl ?_)
    try simp (maxSteps := 2000000) (disch := omega) only [go_sem, seval]
    try repeat ((with_reducible refine And.intro ?_ ?_); focus (first | omega | assumption | exact True.intro | (show anyD _ _ = true; exact rfl) | (simp only [List.length_map, List.length_append, List.length_cons, List.length_nil, List.length_take, List.length_drop]; omega)))
    by_cases k2 : t.hi < s.lo
    · by_cases k3 : t.hi + 1 = s.lo
      · have k4 : s.lo - t.hi - 1 = 0 := by omega
        rw [if_pos k2, if_pos k3, k4, decide_eq_true k2]
        try simp (maxSteps := 2000000) (disch := omega) only [go_sem, seval]
        try repeat ((with_reducible refine And.intro ?_ ?_); focus (first | omega | assumption | exact True.intro | (show anyD _ _ = true; exact rfl) | (simp only [List.length_map, List.length_append, List.length_cons, List.length_nil, List.length_take, List.length_drop]; omega)))
      · have k4 : 0 < s.lo - t.hi - 1 := by omega
        rw [if_pos k2, if_neg k3, decide_eq_true k2]
        try simp (maxSteps := 2000000) (disch := omega) only [go_sem, seval]
        try repeat ((with_reducible refine And.intro ?_ ?_); focus (first | omega | assumption | exact True.intro | (show anyD _ _ = true; exact rfl) | (simp only [List.length_map, List.length_append, List.length_cons, List.length_nil, List.length_take, List.length_drop]; omega)))
        (first | refine brP.mk (fun k5 => ?_) (fun k5 => ?_) | refine gdP.mkt (fun k5 => ?_) (fun k5 => ?_) | refine gdP.mkf (fun k5 => ?_) (fun k5 => ?_) | refine pkP.mk (fun k5 => ?_) (fun k5 => ?_)) <;> (try simp only [Bool.not_true, Bool.not_false, decide_eq_true_eq, decide_eq_false_iff_not, Bool.and_eq_true, Bool.or_eq_true, Bool.not_eq_true', Bool.not_eq_false', Bool.and_eq_false_iff, Bool.or_eq_false_iff, Nat.not_lt, Int.not_lt, Nat.not_le, Int.not_le, Int.ofNat_lt, Int.ofNat_le, Int.ofNat_inj, Bool.xor_false, Bool.false_xor, Bool.true_xor, Bool.xor_true] at k5) <;> (try simp (maxSteps := 2000000) (disch := omega) only [go_sem, seval]) <;> (try repeat ((with_reducible refine And.intro ?_ ?_); focus (first | omega | assumption | exact True.intro | (show anyD _ _ = true; exact rfl) | (simp only [List.length_map, List.length_append, List.length_cons, List.length_nil, List.length_take, List.length_drop]; omega))))
        exact absurd k4 (by omega)
    · rw [if_neg k2, decide_eq_false k2]
      try simp (maxSteps := 2000000) (disch := omega) only [go_sem, seval]
      try repeat ((with_reducible refine And.intro ?_ ?_); focus (first | omega | assumption | exact True.intro | (show anyD _ _ = true; exact rfl) | (simp only [List.length_map, List.length_append, List.length_cons, List.length_nil, List.length_take, List.length_drop]; omega)))
theorem rcheck_c (l : List Iv) (hb : ∀ s ∈ l, s.lo < M64 ∧ s.hi < M64) (hl : l.length ≤ 1152921504606846976) (hC : (chk l).1 = 0 ∨ Cn Tryd.prog 39 [errno 2] (.v (.int .i64 2))) : Cn Tryd.prog 22 [rg l] (errV (chk l).1 (chk l).2) := by
  refine cn_go Tryd.func22 [] 1 (by kernel_rfl) rfl (by simp [go_sem, seval]) ?_
  conv => arg 4; cbv
  conv => enter [5, 1]; cbv
  try simp (maxSteps := 2000000) (disch := omega) only [go_sem, seval]
  try repeat ((with_reducible refine And.intro ?_ ?_); focus (first | omega | assumption | exact True.intro | (show anyD _ _ = true; exact rfl) | (simp only [List.length_map, List.length_append, List.length_cons, List.length_nil, List.length_take, List.length_drop]; omega)))
  refine pLoop.go (fun k => k ≤ l.length ∧ chk l = chkL (prevC l k) (l.drop k) k ∧ ∀ j (h : j < l.length), j < k → l[j].lo ≤ l[j].hi) (fun k => [(8, .v (.int .i64 (k : Nat)))]) (fun _ => []) (fun k => l.length - k) 0 [8] ?_ ?_ ?_
  · exact ⟨Nat.zero_le _, rfl, fun j _ h => absurd h (by omega)⟩
  · try simp (maxSteps := 2000000) (disch := omega) only [go_sem, seval]
    try repeat ((with_reducible refine And.intro ?_ ?_); focus (first | omega | assumption | exact True.intro | (show anyD _ _ = true; exact rfl) | (simp only [List.length_map, List.length_append, List.length_cons, List.length_nil, List.length_take, List.length_drop]; omega)))
  · rintro k ⟨hk, hm, hv⟩
    try simp (maxSteps := 2000000) (disch := omega) only [go_sem, seval]
    try repeat ((with_reducible refine And.intro ?_ ?_); focus (first | omega | assumption | exact True.intro | (show anyD _ _ = true; exact rfl) | (simp only [List.length_map, List.length_append, List.length_cons, List.length_nil, List.length_take, List.length_drop]; omega)))
    (first | refine brP.mk (fun h => ?_) (fun h => ?_) | refine gdP.mkt (fun h => ?_) (fun h => ?_) | refine gdP.mkf (fun h => ?_) (fun h => ?_) | refine pkP.mk (fun h => ?_) (fun h => ?_)) <;> (try simp only [Bool.not_true, Bool.not_false, decide_eq_true_eq, decide_eq_false_iff_not, Bool.and_eq_true, Bool.or_eq_true, Bool.not_eq_true', Bool.not_eq_false', Bool.and_eq_false_iff, Bool.or_eq_false_iff, Nat.not_lt, Int.not_lt, Nat.not_le, Int.not_le, Int.ofNat_lt, Int.ofNat_le, Int.ofNat_inj, Bool.xor_false, Bool.false_xor, Bool.true_xor, Bool.xor_true] at h) <;> (try simp (maxSteps := 2000000) (disch := omega) only [go_sem, seval]) <;> (try repeat ((with_reducible refine And.intro ?_ ?_); focus (first | omega | assumption | exact True.intro | (show anyD _ _ = true; exact rfl) | (simp only [List.length_map, List.length_append, List.length_cons, List.length_nil, List.length_take, List.length_drop]; omega))))
    · rw [chkL_step h] at hm
      have hbk := hb _ (List.getElem_mem h)
      (first | refine callP.mk (scheck_c l[k]) rfl ?_ | refine callQ.mk (scheck_c l[k]) rfl ?_ | refine callO.rd (scheck_c l[k]) rfl ?_ | refine callO.mk (scheck_c l[k]) rfl ?_)
      by_cases h1 : l[k].lo ≤ l[k].hi
      · rw [if_pos h1] at hm ⊢
        have hs : prevC l (k + 1) = some l[k] := by unfold prevC; rw [if_neg (by omega)]; exact List.getElem?_eq_getElem h
        have hv' : ∀ j (hj : j < l.length), j < k + 1 → l[j].lo ≤ l[j].hi := fun j hj hjk => by
          rcases Nat.lt_or_ge j k with h6 | h6
          · exact hv j hj h6
          · obtain rfl : j = k := by omega
            exact h1
        try simp (maxSteps := 2000000) (disch := omega) only [go_sem, seval]
        try repeat ((with_reducible refine And.intro ?_ ?_); focus (first | omega | assumption | exact True.intro | (show anyD _ _ = true; exact rfl) | (simp only [List.length_map, List.length_append, List.length_cons, List.length_nil, List.length_take, List.length_drop]; omega)))
        (first | refine brP.mk (fun h2 => ?_) (fun h2 => ?_) | refine gdP.mkt (fun h2 => ?_) (fun h2 => ?_) | refine gdP.mkf (fun h2 => ?_) (fun h2 => ?_) | refine pkP.mk (fun h2 => ?_) (fun h2 => ?_)) <;> (try simp only [Bool.not_true, Bool.not_false, decide_eq_true_eq, decide_eq_false_iff_not, Bool.and_eq_true, Bool.or_eq_true, Bool.not_eq_true', Bool.not_eq_false', Bool.and_eq_false_iff, Bool.or_eq_false_iff, Nat.not_lt, Int.not_lt, Nat.not_le, Int.not_le, Int.ofNat_lt, Int.ofNat_le, Int.ofNat_inj, Bool.xor_false, Bool.false_xor, Bool.true_xor, Bool.xor_true] at h2) <;> (try simp (maxSteps := 2000000) (disch := omega) only [go_sem, seval]) <;> (try repeat ((with_reducible refine And.intro ?_ ?_); focus (first | omega | assumption | exact True.intro | (show anyD _ _ = true; exact rfl) | (simp only [List.length_map, List.length_append, List.length_cons, List.length_nil, List.length_take, List.length_drop]; omega))))
        · have hp : prevC l k = some l[k - 1] := by unfold prevC; rw [if_neg (by omega), List.getElem?_eq_getElem]
          rw [hp] at hm
          have hbp := hb _ (List.getElem_mem (show k - 1 < l.length by omega))
          (first | refine callP.mk (srel_c l[k - 1] l[k] (hv (k - 1) (by omega) (by omega)) h1 hbp.2 hbk.2) rfl ?_ | refine callQ.mk (srel_c l[k - 1] l[k] (hv (k - 1) (by omega) (by omega)) h1 hbp.2 hbk.2) rfl ?_ | refine callO.rd (srel_c l[k - 1] l[k] (hv (k - 1) (by omega) (by omega)) h1 hbp.2 hbk.2) rfl ?_ | refine callO.mk (srel_c l[k - 1] l[k] (hv (k - 1) (by omega) (by omega)) h1 hbp.2 hbk.2) rfl ?_)
          try simp (maxSteps := 2000000) (disch := omega) only [go_sem, seval]
          try repeat ((with_reducible refine And.intro ?_ ?_); focus (first | omega | assumption | exact True.intro | (show anyD _ _ = true; exact rfl) | (simp only [List.length_map, List.length_append, List.length_cons, List.length_nil, List.length_take, List.length_drop]; omega)))
          (first | refine brP.mk (fun h3 => ?_) (fun h3 => ?_) | refine gdP.mkt (fun h3 => ?_) (fun h3 => ?_) | refine gdP.mkf (fun h3 => ?_) (fun h3 => ?_) | refine pkP.mk (fun h3 => ?_) (fun h3 => ?_)) <;> (try simp only [Bool.not_true, Bool.not_false, decide_eq_true_eq, decide_eq_false_iff_not, Bool.and_eq_true, Bool.or_eq_true, Bool.not_eq_true', Bool.not_eq_false', Bool.and_eq_false_iff, Bool.or_eq_false_iff, Nat.not_lt, Int.not_lt, Nat.not_le, Int.not_le, Int.ofNat_lt, Int.ofNat_le, Int.ofNat_inj, Bool.xor_false, Bool.false_xor, Bool.true_xor, Bool.xor_true] at h3) <;> (try simp (maxSteps := 2000000) (disch := omega) only [go_sem, seval]) <;> (try repeat ((with_reducible refine And.intro ?_ ?_); focus (first | omega | assumption | exact True.intro | (show anyD _ _ = true; exact rfl) | (simp only [List.length_map, List.length_append, List.length_cons, List.length_nil, List.length_take, List.length_drop]; omega))))
          · rw [if_neg (by omega)] at hm
            rw [hm]
            (first | refine callP.mk (fnew_c 3 (k : Nat)) rfl ?_ | refine callQ.mk (fnew_c 3 (k : Nat)) rfl ?_ | refine callO.rd (fnew_c 3 (k : Nat)) rfl ?_ | refine callO.mk (fnew_c 3 (k : Nat)) rfl ?_)
            try simp (maxSteps := 2000000) (disch := omega) only [go_sem, seval]
            try repeat ((with_reducible refine And.intro ?_ ?_); focus (first | omega | assumption | exact True.intro | (show anyD _ _ = true; exact rfl) | (simp only [List.length_map, List.length_append, List.length_cons, List.length_nil, List.length_take, List.length_drop]; omega)))
            exact errV_sub _ _
          · rw [if_pos (by omega)] at hm
            exact ⟨k + 1, ⟨h, by rw [hs]; exact hm, hv'⟩, by omega, rfl⟩
        · have hp : prevC l k = none := by unfold prevC; rw [if_pos (by omega)]
          rw [hp] at hm
          exact ⟨k + 1, ⟨h, by rw [hs]; exact hm, hv'⟩, by omega, rfl⟩
      · rw [if_neg h1] at hm ⊢
        unfold errno at hC ⊢
        rcases hC with hC | hC
        · rw [hm] at hC
          cases hC
        · try simp (maxSteps := 2000000) (disch := omega) only [go_sem, seval]
          try repeat ((with_reducible refine And.intro ?_ ?_); focus (first | omega | assumption | exact True.intro | (show anyD _ _ = true; exact rfl) | (simp only [List.length_map, List.length_append, List.length_cons, List.length_nil, List.length_take, List.length_drop]; omega)))
          (first | refine callP.mk (hC) rfl ?_ | refine callQ.mk (hC) rfl ?_ | refine callO.rd (hC) rfl ?_ | refine callO.mk (hC) rfl ?_)
          try simp (maxSteps := 2000000) (disch := omega) only [go_sem, seval]
          try repeat ((with_reducible refine And.intro ?_ ?_); focus (first | omega | assumption | exact True.intro | (show anyD _ _ = true; exact rfl) | (simp only [List.length_map, List.length_append, List.length_cons, List.length_nil, List.length_take, List.length_drop]; omega)))
          rw [hm]
          (first | refine callP.mk (fnew_c 2 (k : Nat)) rfl ?_ | refine callQ.mk (fnew_c 2 (k : Nat)) rfl ?_ | refine callO.rd (fnew_c 2 (k : Nat)) rfl ?_ | refine callO.mk (fnew_c 2 (k : Nat)) rfl ?_)
          try simp (maxSteps := 2000000) (disch := omega) only [go_sem, seval]
          try repeat ((with_reducible refine And.intro ?_ ?_); focus (first | omega | assumption | exact True.intro | (show anyD _ _ = true; exact rfl) | (simp only [List.length_map, List.length_append, List.length_cons, List.length_nil, List.length_take, List.length_drop]; omega)))
          exact errV_sub _ _
    · rw [List.drop_of_length_le h] at hm
      rw [hm]
      exact .eq _ rfl
end Go.Proofs.YtcedofkenfddkaaDoor
/- The law SetopsDenote returns true. -/
namespace Go.Proofs.YtcedofkenfddkaaDoor
set_option linter.unusedVariables false
set_option linter.unusedSimpArgs false
open Go.RowKit
set_option maxRecDepth 100000
end Go.Proofs.YtcedofkenfddkaaDoor
/- The contracts of entry.Check, Canonical and Same. -/
namespace Go.Proofs.YtcedofkenfddkaaDoor
set_option linter.unusedVariables false
set_option linter.unusedSimpArgs false
open Go.RowKit
set_option maxRecDepth 100000
theorem low1_cp (nb : Nat) (cs : List PV) (o : Nat) : low1 nb (.cp cs o) = true := rfl
attribute [go_sem] low1_cp
theorem echeck2_c (e : En) (hb : ∀ s ∈ e.holes, s.lo < M64 ∧ s.hi < M64) (hl : e.holes.length ≤ 1152921504606846976) (hC : (chk e.holes).1 = 0 ∨ Cn Tryd.prog 39 [errno 2] (.v (.int .i64 2))) : Cn Tryd.prog 86 [.cp (ec e) 0] (errV (chk e.holes).1 (chk e.holes).2) := by
  refine cn_go Tryd.func86 [] 1 (by kernel_rfl) rfl (by simp [go_sem, seval]) ?_
  conv => arg 4; cbv
  conv => enter [5, 1]; cbv
  try simp (maxSteps := 2000000) (disch := omega) only [go_sem, seval]
  try repeat ((with_reducible refine And.intro ?_ ?_); focus (first | omega | assumption | exact True.intro | (show anyD _ _ = true; exact rfl) | (simp only [List.length_map, List.length_append, List.length_cons, List.length_nil, List.length_take, List.length_drop]; omega)))
  (first | refine callP.mk (rcheck_c e.holes hb hl hC) rfl ?_ | refine callQ.mk (rcheck_c e.holes hb hl hC) rfl ?_ | refine callO.rd (rcheck_c e.holes hb hl hC) rfl ?_ | refine callO.mk (rcheck_c e.holes hb hl hC) rfl ?_)
  try simp (maxSteps := 2000000) (disch := omega) only [go_sem, seval]
  try repeat ((with_reducible refine And.intro ?_ ?_); focus (first | omega | assumption | exact True.intro | (show anyD _ _ = true; exact rfl) | (simp only [List.length_map, List.length_append, List.length_cons, List.length_nil, List.length_take, List.length_drop]; omega)))
  exact errV_sub _ _
theorem echeck1_c (e : En) (hl : e.holes.length ≤ 1152921504606846976) : Cn Tryd.prog 85 [.cp (ec e) 0] (errV (hk e.max e.holes 0).1 (hk e.max e.holes 0).2) := by
  refine cn_go Tryd.func85 [] 1 (by kernel_rfl) rfl (by simp [go_sem, seval]) ?_
  conv => arg 4; cbv
  conv => enter [5, 1]; cbv
  try simp (maxSteps := 2000000) (disch := omega) only [go_sem, seval]
  try repeat ((with_reducible refine And.intro ?_ ?_); focus (first | omega | assumption | exact True.intro | (show anyD _ _ = true; exact rfl) | (simp only [List.length_map, List.length_append, List.length_cons, List.length_nil, List.length_take, List.length_drop]; omega)))
  refine pLoop.go (fun k => k ≤ e.holes.length ∧ hk e.max e.holes 0 = hk e.max (e.holes.drop k) k) (fun k => [(7, .v (.int .i64 (k : Nat)))]) (fun _ => []) (fun k => e.holes.length - k) 0 [7] ?_ ?_ ?_
  · exact ⟨Nat.zero_le _, rfl⟩
  · try simp (maxSteps := 2000000) (disch := omega) only [go_sem, seval]
    try repeat ((with_reducible refine And.intro ?_ ?_); focus (first | omega | assumption | exact True.intro | (show anyD _ _ = true; exact rfl) | (simp only [List.length_map, List.length_append, List.length_cons, List.length_nil, List.length_take, List.length_drop]; omega)))
  · rintro k ⟨hk1, hm⟩
    try simp (maxSteps := 2000000) (disch := omega) only [go_sem, seval]
    try repeat ((with_reducible refine And.intro ?_ ?_); focus (first | omega | assumption | exact True.intro | (show anyD _ _ = true; exact rfl) | (simp only [List.length_map, List.length_append, List.length_cons, List.length_nil, List.length_take, List.length_drop]; omega)))
    (first | refine brP.mk (fun h1 => ?_) (fun h1 => ?_) | refine gdP.mkt (fun h1 => ?_) (fun h1 => ?_) | refine gdP.mkf (fun h1 => ?_) (fun h1 => ?_) | refine pkP.mk (fun h1 => ?_) (fun h1 => ?_)) <;> (try simp only [Bool.not_true, Bool.not_false, decide_eq_true_eq, decide_eq_false_iff_not, Bool.and_eq_true, Bool.or_eq_true, Bool.not_eq_true', Bool.not_eq_false', Bool.and_eq_false_iff, Bool.or_eq_false_iff, Nat.not_lt, Int.not_lt, Nat.not_le, Int.not_le, Int.ofNat_lt, Int.ofNat_le, Int.ofNat_inj, Bool.xor_false, Bool.false_xor, Bool.true_xor, Bool.xor_true] at h1) <;> (try simp (maxSteps := 2000000) (disch := omega) only [go_sem, seval]) <;> (try repeat ((with_reducible refine And.intro ?_ ?_); focus (first | omega | assumption | exact True.intro | (show anyD _ _ = true; exact rfl) | (simp only [List.length_map, List.length_append, List.length_cons, List.length_nil, List.length_take, List.length_drop]; omega))))
    · rw [hk_step h1] at hm
      (first | refine brP.mk (fun h2 => ?_) (fun h2 => ?_) | refine gdP.mkt (fun h2 => ?_) (fun h2 => ?_) | refine gdP.mkf (fun h2 => ?_) (fun h2 => ?_) | refine pkP.mk (fun h2 => ?_) (fun h2 => ?_)) <;> (try simp only [Bool.not_true, Bool.not_false, decide_eq_true_eq, decide_eq_false_iff_not, Bool.and_eq_true, Bool.or_eq_true, Bool.not_eq_true', Bool.not_eq_false', Bool.and_eq_false_iff, Bool.or_eq_false_iff, Nat.not_lt, Int.not_lt, Nat.not_le, Int.not_le, Int.ofNat_lt, Int.ofNat_le, Int.ofNat_inj, Bool.xor_false, Bool.false_xor, Bool.true_xor, Bool.xor_true] at h2) <;> (try simp (maxSteps := 2000000) (disch := omega) only [go_sem, seval]) <;> (try repeat ((with_reducible refine And.intro ?_ ?_); focus (first | omega | assumption | exact True.intro | (show anyD _ _ = true; exact rfl) | (simp only [List.length_map, List.length_append, List.length_cons, List.length_nil, List.length_take, List.length_drop]; omega))))
      · rw [hm, if_pos h2]
        (first | refine callP.mk (fnew_c 4 (k : Nat)) rfl ?_ | refine callQ.mk (fnew_c 4 (k : Nat)) rfl ?_ | refine callO.rd (fnew_c 4 (k : Nat)) rfl ?_ | refine callO.mk (fnew_c 4 (k : Nat)) rfl ?_)
        try simp (maxSteps := 2000000) (disch := omega) only [go_sem, seval]
        try repeat ((with_reducible refine And.intro ?_ ?_); focus (first | omega | assumption | exact True.intro | (show anyD _ _ = true; exact rfl) | (simp only [List.length_map, List.length_append, List.length_cons, List.length_nil, List.length_take, List.length_drop]; omega)))
        exact errV_sub _ _
      · rw [if_neg (by omega)] at hm
        exact ⟨k + 1, ⟨h1, hm⟩, by omega, rfl⟩
    · rw [List.drop_of_length_le h1] at hm
      rw [hm]
      exact .eq _ rfl
theorem errV_nil {x : Nat × Int} (h : x.1 = 0) : errV x.1 x.2 = .v .nilIface := if_pos h
theorem errV_ifc {x : Nat × Int} (h : x.1 ≠ 0) : errV x.1 x.2 = .ifc 89 (.agg [.v (.int .i64 x.1), .v (.int .i64 x.2)]) := if_neg h
set_option maxHeartbeats 1000000 in
theorem echeck_c (e : En) (hb : ∀ s ∈ e.holes, s.lo < M64 ∧ s.hi < M64) (hl : e.holes.length ≤ 1152921504606846976) (hC : (chk e.holes).1 = 0 ∨ Cn Tryd.prog 39 [errno 2] (.v (.int .i64 2))) : Cn Tryd.prog 37 [ep e] (errV (chkE e).1 (chkE e).2) := by
  refine cn_go Tryd.func37 [] 1 (by kernel_rfl) rfl (by simp [go_sem, seval]) ?_
  conv => arg 4; cbv
  conv => enter [5, 1]; cbv
  try simp (maxSteps := 2000000) (disch := omega) only [go_sem, seval]
  try repeat ((with_reducible refine And.intro ?_ ?_); focus (first | omega | assumption | exact True.intro | (show anyD _ _ = true; exact rfl) | (simp only [List.length_map, List.length_append, List.length_cons, List.length_nil, List.length_take, List.length_drop]; omega)))
  refine pLoop.go (fun k => k ≤ 2 ∧ (1 ≤ k → (chk e.holes).1 = 0) ∧ (2 ≤ k → (chkE e).1 = 0)) (fun k => [(12, .v (.int .i64 (k : Nat)))]) (fun _ => []) (fun k => 2 - k) 0 [12] ?_ ?_ ?_
  · exact ⟨by omega, fun h => absurd h (by omega), fun h => absurd h (by omega)⟩
  · try simp (maxSteps := 2000000) (disch := omega) only [go_sem, seval]
    try repeat ((with_reducible refine And.intro ?_ ?_); focus (first | omega | assumption | exact True.intro | (show anyD _ _ = true; exact rfl) | (simp only [List.length_map, List.length_append, List.length_cons, List.length_nil, List.length_take, List.length_drop]; omega)))
  · rintro k ⟨hk1, h1, h2⟩
    obtain rfl | rfl | rfl : k = 0 ∨ k = 1 ∨ k = 2 := by omega
    · try simp (maxSteps := 2000000) (disch := omega) only [go_sem, seval]
      try repeat ((with_reducible refine And.intro ?_ ?_); focus (first | omega | assumption | exact True.intro | (show anyD _ _ = true; exact rfl) | (simp only [List.length_map, List.length_append, List.length_cons, List.length_nil, List.length_take, List.length_drop]; omega)))
      (first | refine callP.mk (echeck2_c e hb hl hC) rfl ?_ | refine callQ.mk (echeck2_c e hb hl hC) rfl ?_ | refine callO.rd (echeck2_c e hb hl hC) rfl ?_ | refine callO.mk (echeck2_c e hb hl hC) rfl ?_)
      by_cases hz : (chk e.holes).1 = 0
      · rw [errV_nil hz]
        try simp (maxSteps := 2000000) (disch := omega) only [go_sem, seval]
        try repeat ((with_reducible refine And.intro ?_ ?_); focus (first | omega | assumption | exact True.intro | (show anyD _ _ = true; exact rfl) | (simp only [List.length_map, List.length_append, List.length_cons, List.length_nil, List.length_take, List.length_drop]; omega)))
        exact ⟨1, ⟨by omega, fun _ => hz, fun h => absurd h (by omega)⟩, by omega, rfl⟩
      · have e1 : chkE e = chk e.holes := if_neg hz
        rw [e1, errV_ifc hz]
        try simp (maxSteps := 2000000) (disch := omega) only [go_sem, seval]
        try repeat ((with_reducible refine And.intro ?_ ?_); focus (first | omega | assumption | exact True.intro | (show anyD _ _ = true; exact rfl) | (simp only [List.length_map, List.length_append, List.length_cons, List.length_nil, List.length_take, List.length_drop]; omega)))
    · have hz := h1 (by omega)
      have e1 : chkE e = hk e.max e.holes 0 := if_pos hz
      try simp (maxSteps := 2000000) (disch := omega) only [go_sem, seval]
      try repeat ((with_reducible refine And.intro ?_ ?_); focus (first | omega | assumption | exact True.intro | (show anyD _ _ = true; exact rfl) | (simp only [List.length_map, List.length_append, List.length_cons, List.length_nil, List.length_take, List.length_drop]; omega)))
      (first | refine callP.mk (echeck1_c e hl) rfl ?_ | refine callQ.mk (echeck1_c e hl) rfl ?_ | refine callO.rd (echeck1_c e hl) rfl ?_ | refine callO.mk (echeck1_c e hl) rfl ?_)
      by_cases hy : (hk e.max e.holes 0).1 = 0
      · rw [errV_nil hy]
        try simp (maxSteps := 2000000) (disch := omega) only [go_sem, seval]
        try repeat ((with_reducible refine And.intro ?_ ?_); focus (first | omega | assumption | exact True.intro | (show anyD _ _ = true; exact rfl) | (simp only [List.length_map, List.length_append, List.length_cons, List.length_nil, List.length_take, List.length_drop]; omega)))
        exact ⟨2, ⟨by omega, fun _ => hz, fun _ => by rw [e1]; exact hy⟩, by omega, rfl⟩
      · rw [e1, errV_ifc hy]
        try simp (maxSteps := 2000000) (disch := omega) only [go_sem, seval]
        try repeat ((with_reducible refine And.intro ?_ ?_); focus (first | omega | assumption | exact True.intro | (show anyD _ _ = true; exact rfl) | (simp only [List.length_map, List.length_append, List.length_cons, List.length_nil, List.length_take, List.length_drop]; omega)))
    · have hz := h2 (by omega)
      rw [errV_nil hz]
      try simp (maxSteps := 2000000) (disch := omega) only [go_sem, seval]
      try repeat ((with_reducible refine And.intro ?_ ?_); focus (first | omega | assumption | exact True.intro | (show anyD _ _ = true; exact rfl) | (simp only [List.length_map, List.length_append, List.length_cons, List.length_nil, List.length_take, List.length_drop]; omega)))
theorem ecanonical_c (e : En) (hb : ∀ s ∈ e.holes, s.lo < M64 ∧ s.hi < M64) (h1 : e.max < M64) (h2 : e.rep < M64) (hl : e.holes.length ≤ 1152921504606846976) (hC : (chk e.holes).1 = 0 ∨ Cn Tryd.prog 39 [errno 2] (.v (.int .i64 2))) : Cn Tryd.prog 35 [ep e] (.v (.bool (rightEB e && !mem e.holes e.max))) := by
  have hr := rightEB_iff hb h1 h2
  refine cn_go Tryd.func35 [] 1 (by kernel_rfl) rfl (by simp [go_sem, seval]) ?_
  conv => arg 4; cbv
  conv => enter [5, 1]; cbv
  try simp (maxSteps := 2000000) (disch := omega) only [go_sem, seval]
  try repeat ((with_reducible refine And.intro ?_ ?_); focus (first | omega | assumption | exact True.intro | (show anyD _ _ = true; exact rfl) | (simp only [List.length_map, List.length_append, List.length_cons, List.length_nil, List.length_take, List.length_drop]; omega)))
  (first | refine callP.mk (echeck_c e hb hl hC) rfl ?_ | refine callQ.mk (echeck_c e hb hl hC) rfl ?_ | refine callO.rd (echeck_c e hb hl hC) rfl ?_ | refine callO.mk (echeck_c e hb hl hC) rfl ?_)
  by_cases hz : (chkE e).1 = 0
  · have hz' : rightEB e = true := by unfold rightEB; exact decide_eq_true hz
    rw [errV_nil hz]
    try simp (maxSteps := 2000000) (disch := omega) only [go_sem, seval]
    try repeat ((with_reducible refine And.intro ?_ ?_); focus (first | omega | assumption | exact True.intro | (show anyD _ _ = true; exact rfl) | (simp only [List.length_map, List.length_append, List.length_cons, List.length_nil, List.length_take, List.length_drop]; omega)))
    (first | refine callP.mk (ehas_c e e.max (hr.1 hz') hl) rfl ?_ | refine callQ.mk (ehas_c e e.max (hr.1 hz') hl) rfl ?_ | refine callO.rd (ehas_c e e.max (hr.1 hz') hl) rfl ?_ | refine callO.mk (ehas_c e e.max (hr.1 hz') hl) rfl ?_)
    try simp (maxSteps := 2000000) (disch := omega) only [go_sem, seval]
    try repeat ((with_reducible refine And.intro ?_ ?_); focus (first | omega | assumption | exact True.intro | (show anyD _ _ = true; exact rfl) | (simp only [List.length_map, List.length_append, List.length_cons, List.length_nil, List.length_take, List.length_drop]; omega)))
    simp [hz']
  · have hz' : rightEB e = false := by unfold rightEB; exact decide_eq_false hz
    rw [errV_ifc hz]
    try simp (maxSteps := 2000000) (disch := omega) only [go_sem, seval]
    try repeat ((with_reducible refine And.intro ?_ ?_); focus (first | omega | assumption | exact True.intro | (show anyD _ _ = true; exact rfl) | (simp only [List.length_map, List.length_append, List.length_cons, List.length_nil, List.length_take, List.length_drop]; omega)))
    simp [hz']
end Go.Proofs.YtcedofkenfddkaaDoor
/- The law JoinDenotes returns true. -/
namespace Go.Proofs.YtcedofkenfddkaaDoor
set_option linter.unusedVariables false
set_option linter.unusedSimpArgs false
open Go.RowKit
set_option maxRecDepth 100000
theorem BdE_of {e : En} (h : RightE e) : BdE e := ⟨h.1.lt, h.2.2.1, h.2.2.2⟩
theorem canOk_c (e : En) (h : CanE e) (hl : e.holes.length ≤ 1152921504606846976) : Cn Tryd.prog 35 [ep e] (.v (.bool true)) := by
  have hb := BdE_of h.1
  have hr := (rightEB_iff hb.1 hb.2.1 hb.2.2).2 h.1
  have hz := (chk_nrm (l := e.holes) fun s hs => (hb.1 s hs).2).2 h.1.1
  have := ecanonical_c e hb.1 hb.2.1 hb.2.2 hl (.inl hz)
  rw [hr, can_max h] at this
  exact this
section
variable (a b : En) (c : Nat) (ha : BdE a) (hb : BdE b) (hc : c < M64)
include ha hb hc
end
end Go.Proofs.YtcedofkenfddkaaDoor
/- The contracts of fault.Code, find and At: at no error, at an api.Errno, at an api.Fault. -/
namespace Go.Proofs.YtcedofkenfddkaaDoor
set_option linter.unusedVariables false
set_option linter.unusedSimpArgs false
open Go.RowKit
set_option maxRecDepth 100000
def HG (w : World) : Prop := w.cell? ⟨0, 0, none⟩ = some (.iface 144 (.agg #[.pointer (some ⟨1, 29, none⟩)]))
theorem HG.of {D : Nat → Nat → Prop} {w : World} (h : GL D w) : HG w := (h _ rfl).2
theorem HG.pos {w : World} (h : HG w) : 0 < w.heap.size := World.block_lt_of_cell? w ⟨0, 0, none⟩ h
theorem HG.alloc {w : World} (h : HG w) (o : Obj) : HG (w.alloc o) := by
  unfold HG
  rw [World.cell?_alloc_lt _ _ ⟨0, 0, none⟩ h.pos]; exact h
theorem cn_memG {f : FuncId} {ps : List PV} {r : PV} (hr : r.own = none) (hent : ∀ args w, (callFunc f args).run Tryd.prog w = .ok (.enter f args) w)
    (h : ∀ (D : Nat → Nat → Prop) (w : World) (vs : Array Value), HG w → (∀ b o, D b o → b < w.heap.size) → vs.size = ps.length → (∀ (i : Nat) p, ps[i]? = some p → Dat D w (vs.getD i undef) p) →
      Calls Tryd.prog f vs w fun e w' => ∃ v, e = .returned v ∧ Below w.heap.size w w' ∧ Dat (fun b o => D b o ∨ (w.heap.size ≤ b ∧ b < w'.heap.size)) w' v r) : Cn Tryd.prog f ps r := by
  refine ⟨hent, fun D w vs hg hD hsz hd => (h D w vs (.of hg) hD hsz hd).mono ?_⟩
  rintro e w' ⟨v, rfl, hb, hv⟩
  exact ⟨v, _, rfl, hb, fun b o h => .inl h, fun b o h => h.imp id And.left, fun b o h => h.elim (fun h => Nat.lt_of_lt_of_le (hD b o h) hb.size) And.right, hv, ownOk_none hr⟩
theorem arr1 {vs : Array Value} (h : vs.size = 1) : vs = #[vs.getD 0 undef] := by
  obtain ⟨l⟩ := vs
  match l, h with
  | [x], _ => rfl
theorem asCode_N (c : Int) (w : World) (hg : HG w) : Calls Tryd.prog 87 #[.iface 50 (.int .i64 c), .iface 87 (.pointer (some ⟨w.heap.size, 0, none⟩))] (w.alloc (.cells #[.int .i64 0] 50))
    fun ev w' => ev = .returned (.bool true) ∧ Below w.heap.size w w' ∧ w'.cell? ⟨w.heap.size, 0, none⟩ = some (.int .i64 c) := by
  refine (As.as_NN c ⟨w.heap.size, 0, none⟩ (.int .i64 0) _ (hg.alloc _) (by simp) (by simp)).mono ?_
  rintro ev w' ⟨rfl, rfl⟩
  refine ⟨rfl, ?_, ?_⟩
  · refine Below.setCell (((((((Below.refl _ w).alloc ?_ _).alloc ?_ _).alloc ?_ _).alloc ?_ _).alloc ?_ _)) ?_ _ <;> simp <;> omega
  · refine World.cell?_setCell_same _ _ _ (u := .int .i64 0) ?_
    rw [World.cell?_alloc_lt _ _ ⟨w.heap.size, 0, none⟩ (by simp; omega), World.cell?_alloc_lt _ _ ⟨w.heap.size, 0, none⟩ (by simp; omega), World.cell?_alloc_lt _ _ ⟨w.heap.size, 0, none⟩ (by simp; omega), World.cell?_alloc_lt _ _ ⟨w.heap.size, 0, none⟩ (by simp)]
    simp
theorem asCode_F (c k : Int) (w : World) (hg : HG w) : Calls Tryd.prog 87 #[.iface 89 (.agg #[.int .i64 c, .int .i64 k]), .iface 87 (.pointer (some ⟨w.heap.size, 0, none⟩))] (w.alloc (.cells #[.int .i64 0] 50))
    fun ev w' => ev = .returned (.bool true) ∧ Below w.heap.size w w' ∧ w'.cell? ⟨w.heap.size, 0, none⟩ = some (.int .i64 c) := by
  refine (As.as_FN c k ⟨w.heap.size, 0, none⟩ (.int .i64 0) _ (hg.alloc _) (by simp) (by simp)).mono ?_
  rintro ev w' ⟨rfl, rfl⟩
  refine ⟨rfl, ?_, ?_⟩
  · refine Below.setCell ((((((((Below.refl _ w).alloc ?_ _).alloc ?_ _).alloc ?_ _).alloc ?_ _).alloc ?_ _).alloc ?_ _)) ?_ _ <;> simp <;> omega
  · refine World.cell?_setCell_same _ _ _ (u := .int .i64 0) ?_
    rw [World.cell?_alloc_lt _ _ ⟨w.heap.size, 0, none⟩ (by simp; omega), World.cell?_alloc_lt _ _ ⟨w.heap.size, 0, none⟩ (by simp; omega), World.cell?_alloc_lt _ _ ⟨w.heap.size, 0, none⟩ (by simp; omega), World.cell?_alloc_lt _ _ ⟨w.heap.size, 0, none⟩ (by simp; omega), World.cell?_alloc_lt _ _ ⟨w.heap.size, 0, none⟩ (by simp)]
    simp
theorem code_nil (w : World) : Calls Tryd.prog 39 #[.nilIface] w fun e w' => e = .returned (.int .i64 0) ∧ Below w.heap.size w w' := by
  go_enter Tryd.func39, Tryd.ntmps39
  go_wp2
  go_ret
  exact ⟨rfl, (Below.refl _ w).alloc (Nat.le_refl _) _⟩
theorem code_N (c : Int) (w : World) (hg : HG w) : Calls Tryd.prog 39 #[.iface 50 (.int .i64 c)] w fun e w' => e = .returned (.int .i64 c) ∧ Below w.heap.size w w' := by
  go_enter Tryd.func39, Tryd.ntmps39
  go_wp2_with (go_at_call 87; refine (asCode_N c w hg).mono ?_; rintro e w1 ⟨rfl, hb, hc⟩)
  go_ret
  exact ⟨rfl, hb⟩
theorem code_F (c k : Int) (w : World) (hg : HG w) : Calls Tryd.prog 39 #[.iface 89 (.agg #[.int .i64 c, .int .i64 k])] w fun e w' => e = .returned (.int .i64 c) ∧ Below w.heap.size w w' := by
  go_enter Tryd.func39, Tryd.ntmps39
  go_wp2_with (go_at_call 87; refine (asCode_F c k w hg).mono ?_; rintro e w1 ⟨rfl, hb, hc⟩)
  go_ret
  exact ⟨rfl, hb⟩
end Go.Proofs.YtcedofkenfddkaaDoor
/- The contracts of fault.find, Code and At without memory. -/
namespace Go.Proofs.YtcedofkenfddkaaDoor
set_option linter.unusedVariables false
set_option linter.unusedSimpArgs false
open Go.RowKit
set_option maxRecDepth 100000
def z2 : Obj := .cells #[.int .i64 0, .int .i64 0] 89
theorem dat_errno {D : Nat → Nat → Prop} {w : World} {v : Value} {c : Int} {t : TypeId} (h : Dat D w v (.ifc t (.v (.int .i64 c)))) : v = .iface t (.int .i64 c) := by
  cases h with
  | ifc t x p h => rw [h.v_inv]
theorem dat_fault {D : Nat → Nat → Prop} {w : World} {v : Value} {c k : Int} {t : TypeId} (h : Dat D w v (.ifc t (.agg [.v (.int .i64 c), .v (.int .i64 k)]))) : v = .iface t (.agg #[.int .i64 c, .int .i64 k]) := by
  cases h with
  | ifc t x p h =>
    generalize hc : [PV.v (.int .i64 c), PV.v (.int .i64 k)] = cs at h
    cases h with
    | agg us cs hs _ h =>
      subst hc
      obtain ⟨l⟩ := us
      match l, hs with
      | [x, y], _ =>
        have e0 := (h 0 _ rfl).v_inv
        have e1 := (h 1 _ rfl).v_inv
        simp at e0 e1
        rw [e0, e1]
/-- fault.Code at what ranges.Check and entry.Check make. -/
theorem codeN_c (c : Nat) : Cn Tryd.prog 39 [errno c] (.v (.int .i64 c)) := by
  refine cn_memG rfl (enters_of Tryd.func39 (by kernel_rfl) rfl) fun D w vs hg hD hsz hd => ?_
  rw [arr1 hsz, dat_errno (hd 0 _ rfl)]
  refine (code_N c w hg).mono ?_
  rintro e w' ⟨rfl, hb⟩
  exact ⟨_, rfl, hb, .v _⟩
theorem code_c (c : Nat) (k : Int) : Cn Tryd.prog 39 [errV c k] (.v (.int .i64 c)) := by
  refine cn_memG rfl (enters_of Tryd.func39 (by kernel_rfl) rfl) fun D w vs hg hD hsz hd => ?_
  have h0 := hd 0 _ rfl
  unfold errV at h0
  rw [arr1 hsz]
  by_cases hc : c = 0
  · rw [if_pos hc] at h0
    subst hc
    rw [h0.v_inv]
    refine (code_nil w).mono ?_
    rintro e w' ⟨rfl, hb⟩
    exact ⟨_, rfl, hb, .v _⟩
  · rw [if_neg hc] at h0
    rw [dat_fault h0]
    refine (code_F c k w hg).mono ?_
    rintro e w' ⟨rfl, hb⟩
    exact ⟨_, rfl, hb, .v _⟩
end Go.Proofs.YtcedofkenfddkaaDoor
/- The contracts of ranges.Same, entry.Same, kenningref07.Canonical, Canon; the example of chapter 7. -/
namespace Go.Proofs.YtcedofkenfddkaaDoor
set_option linter.unusedVariables false
set_option linter.unusedSimpArgs false
open Go.RowKit
set_option maxRecDepth 100000
theorem kn_is {e : En} {l : List Iv} (he : RightE e) (hl : Nrm l) (h : ∀ x, x < M64 → mem l x = (decide (x ≤ e.max) && !mem e.holes x)) : kn e = l :=
  Nrm.unique (kn_nrm he) hl fun x hx => by rw [kn_mem he hx, h x hx]
def f7a : En := ⟨7, 8, [⟨4, 5⟩]⟩
def f7b : En := ⟨0, 5, [⟨4, 5⟩]⟩
def f7c : En := ⟨0, 3, []⟩
def f7d : En := ⟨0, 0, [⟨0, 1⟩]⟩
theorem f7a_r : CanE f7a := ⟨⟨nrm_one (by decide) (by decide), by simp [f7a], by decide, by decide⟩, by simp [f7a]⟩
theorem f7b_r : RightE f7b := ⟨nrm_one (by decide) (by decide), by simp [f7b], by decide, by decide⟩
theorem f7c_r : CanE f7c := ⟨⟨trivial, (fun _ h => by cases h), by decide, by decide⟩, (fun _ h => by cases h)⟩
theorem n7 : Nrm [⟨0, 3⟩, ⟨6, 8⟩] := by simp [Nrm, NF, M64_val]
theorem a7_1 : ofS 7 [⟨0, 3⟩, ⟨6, 8⟩] = (f7a, true) := by
  have : kn f7a = [⟨0, 3⟩, ⟨6, 8⟩] := kn_is f7a_r.1 n7 fun x _ => by
    rw [Bool.eq_iff_iff]; simp only [Bool.and_eq_true, Bool.or_eq_true, decide_eq_true_eq]; simp [f7a, mem]; omega
  rw [← this]
  exact can_ofS f7a_r
theorem a7_2 : canE f7b = (f7c, true) := by
  have h1 : kn f7b = [⟨0, 3⟩] := kn_is f7b_r (nrm_one (by decide) (by decide)) fun x _ => by
    rw [Bool.eq_iff_iff]; simp only [Bool.and_eq_true, Bool.or_eq_true, decide_eq_true_eq]; simp [f7b, mem]; omega
  have h2 : kn f7c = [⟨0, 3⟩] := kn_is f7c_r.1 (nrm_one (by decide) (by decide)) fun x _ => by
    rw [Bool.eq_iff_iff]; simp only [Bool.and_eq_true, Bool.or_eq_true, decide_eq_true_eq]; simp [f7c, mem]
  have := can_ofS f7c_r
  unfold canE
  rw [h1, ← h2]
  exact this
theorem a7_3 : chkE f7d = (4, 0) := by
  have h : (chk f7d.holes).1 = 0 := (chk_nrm (by simp [f7d, M64_val])).2 (nrm_one (by decide) (by decide))
  unfold chkE
  rw [if_pos h]
  rfl
set_option maxHeartbeats 2000000 in
theorem alive7_c : Cn Tryd.prog 25 [] (.v (.bool true)) := by
  have hb := BdE_of f7a_r.1
  have hr := (rightEB_iff hb.1 hb.2.1 hb.2.2).2 f7a_r.1
  have hz : (chkE f7a).1 = 0 := by unfold rightEB at hr; simpa using hr
  refine cn_go Tryd.func25 [] 0 (by kernel_rfl) rfl (by simp [go_sem, seval]) ?_
  conv => arg 4; cbv
  conv => enter [5, 1]; cbv
  try simp (maxSteps := 2000000) (disch := omega) only [go_sem, seval]
  try repeat ((with_reducible refine And.intro ?_ ?_); focus (first | omega | assumption | exact True.intro | (show anyD _ _ = true; exact rfl) | (simp only [List.length_map, List.length_append, List.length_cons, List.length_nil, List.length_take, List.length_drop]; omega)))
  (first | refine callP.mk (eof_c 7 [⟨0, 3⟩, ⟨6, 8⟩] n7 (by decide)) rfl ?_ | refine callQ.mk (eof_c 7 [⟨0, 3⟩, ⟨6, 8⟩] n7 (by decide)) rfl ?_ | refine callO.rd (eof_c 7 [⟨0, 3⟩, ⟨6, 8⟩] n7 (by decide)) rfl ?_ | refine callO.mk (eof_c 7 [⟨0, 3⟩, ⟨6, 8⟩] n7 (by decide)) rfl ?_)
  rw [a7_1]
  try simp (maxSteps := 2000000) (disch := omega) only [go_sem, seval]
  try repeat ((with_reducible refine And.intro ?_ ?_); focus (first | omega | assumption | exact True.intro | (show anyD _ _ = true; exact rfl) | (simp only [List.length_map, List.length_append, List.length_cons, List.length_nil, List.length_take, List.length_drop]; omega)))
  (first | refine callP.mk (canon_c f7b f7b_r (by decide)) rfl ?_ | refine callQ.mk (canon_c f7b f7b_r (by decide)) rfl ?_ | refine callO.rd (canon_c f7b f7b_r (by decide)) rfl ?_ | refine callO.mk (canon_c f7b f7b_r (by decide)) rfl ?_)
  rw [a7_2]
  try simp (maxSteps := 2000000) (disch := omega) only [go_sem, seval]
  try repeat ((with_reducible refine And.intro ?_ ?_); focus (first | omega | assumption | exact True.intro | (show anyD _ _ = true; exact rfl) | (simp only [List.length_map, List.length_append, List.length_cons, List.length_nil, List.length_take, List.length_drop]; omega)))
  (first | refine callP.mk (same7_c f7a f7a (by decide)) rfl ?_ | refine callQ.mk (same7_c f7a f7a (by decide)) rfl ?_ | refine callO.rd (same7_c f7a f7a (by decide)) rfl ?_ | refine callO.mk (same7_c f7a f7a (by decide)) rfl ?_)
  try simp (maxSteps := 2000000) (disch := omega) only [go_sem, seval]
  try repeat ((with_reducible refine And.intro ?_ ?_); focus (first | omega | assumption | exact True.intro | (show anyD _ _ = true; exact rfl) | (simp only [List.length_map, List.length_append, List.length_cons, List.length_nil, List.length_take, List.length_drop]; omega)))
  (first | refine callP.mk (same7_c f7c f7c (by decide)) rfl ?_ | refine callQ.mk (same7_c f7c f7c (by decide)) rfl ?_ | refine callO.rd (same7_c f7c f7c (by decide)) rfl ?_ | refine callO.mk (same7_c f7c f7c (by decide)) rfl ?_)
  try simp (maxSteps := 2000000) (disch := omega) only [go_sem, seval]
  try repeat ((with_reducible refine And.intro ?_ ?_); focus (first | omega | assumption | exact True.intro | (show anyD _ _ = true; exact rfl) | (simp only [List.length_map, List.length_append, List.length_cons, List.length_nil, List.length_take, List.length_drop]; omega)))
  (first | refine callP.mk (echeck_c f7a hb.1 (by decide) (.inr (codeN_c 2))) rfl ?_ | refine callQ.mk (echeck_c f7a hb.1 (by decide) (.inr (codeN_c 2))) rfl ?_ | refine callO.rd (echeck_c f7a hb.1 (by decide) (.inr (codeN_c 2))) rfl ?_ | refine callO.mk (echeck_c f7a hb.1 (by decide) (.inr (codeN_c 2))) rfl ?_)
  rw [errV_nil hz]
  try simp (maxSteps := 2000000) (disch := omega) only [go_sem, seval]
  try repeat ((with_reducible refine And.intro ?_ ?_); focus (first | omega | assumption | exact True.intro | (show anyD _ _ = true; exact rfl) | (simp only [List.length_map, List.length_append, List.length_cons, List.length_nil, List.length_take, List.length_drop]; omega)))
  (first | refine callP.mk (canOk_c f7a f7a_r (by decide)) rfl ?_ | refine callQ.mk (canOk_c f7a f7a_r (by decide)) rfl ?_ | refine callO.rd (canOk_c f7a f7a_r (by decide)) rfl ?_ | refine callO.mk (canOk_c f7a f7a_r (by decide)) rfl ?_)
  try simp (maxSteps := 2000000) (disch := omega) only [go_sem, seval]
  try repeat ((with_reducible refine And.intro ?_ ?_); focus (first | omega | assumption | exact True.intro | (show anyD _ _ = true; exact rfl) | (simp only [List.length_map, List.length_append, List.length_cons, List.length_nil, List.length_take, List.length_drop]; omega)))
  (first | refine callP.mk (ehas_c f7a 3 f7a_r.1 (by decide)) rfl ?_ | refine callQ.mk (ehas_c f7a 3 f7a_r.1 (by decide)) rfl ?_ | refine callO.rd (ehas_c f7a 3 f7a_r.1 (by decide)) rfl ?_ | refine callO.mk (ehas_c f7a 3 f7a_r.1 (by decide)) rfl ?_)
  rw [show (decide (3 ≤ f7a.max) && !mem f7a.holes 3) = true by decide]
  try simp (maxSteps := 2000000) (disch := omega) only [go_sem, seval]
  try repeat ((with_reducible refine And.intro ?_ ?_); focus (first | omega | assumption | exact True.intro | (show anyD _ _ = true; exact rfl) | (simp only [List.length_map, List.length_append, List.length_cons, List.length_nil, List.length_take, List.length_drop]; omega)))
  (first | refine callP.mk (ehas_c f7a 4 f7a_r.1 (by decide)) rfl ?_ | refine callQ.mk (ehas_c f7a 4 f7a_r.1 (by decide)) rfl ?_ | refine callO.rd (ehas_c f7a 4 f7a_r.1 (by decide)) rfl ?_ | refine callO.mk (ehas_c f7a 4 f7a_r.1 (by decide)) rfl ?_)
  rw [show (decide (4 ≤ f7a.max) && !mem f7a.holes 4) = false by decide]
  try simp (maxSteps := 2000000) (disch := omega) only [go_sem, seval]
  try repeat ((with_reducible refine And.intro ?_ ?_); focus (first | omega | assumption | exact True.intro | (show anyD _ _ = true; exact rfl) | (simp only [List.length_map, List.length_append, List.length_cons, List.length_nil, List.length_take, List.length_drop]; omega)))
  (first | refine callP.mk (echeck_c f7d (by simp [f7d, M64_val]) (by decide) (.inr (codeN_c 2))) rfl ?_ | refine callQ.mk (echeck_c f7d (by simp [f7d, M64_val]) (by decide) (.inr (codeN_c 2))) rfl ?_ | refine callO.rd (echeck_c f7d (by simp [f7d, M64_val]) (by decide) (.inr (codeN_c 2))) rfl ?_ | refine callO.mk (echeck_c f7d (by simp [f7d, M64_val]) (by decide) (.inr (codeN_c 2))) rfl ?_)
  rw [a7_3]
  have hc := code_c 4 0
  unfold errV at hc ⊢
  rw [if_neg (by decide)] at hc ⊢
  try simp (maxSteps := 2000000) (disch := omega) only [go_sem, seval]
  try repeat ((with_reducible refine And.intro ?_ ?_); focus (first | omega | assumption | exact True.intro | (show anyD _ _ = true; exact rfl) | (simp only [List.length_map, List.length_append, List.length_cons, List.length_nil, List.length_take, List.length_drop]; omega)))
  (first | refine callP.mk (hc) rfl ?_ | refine callQ.mk (hc) rfl ?_ | refine callO.rd (hc) rfl ?_ | refine callO.mk (hc) rfl ?_)
  try simp (maxSteps := 2000000) (disch := omega) only [go_sem, seval]
  try repeat ((with_reducible refine And.intro ?_ ?_); focus (first | omega | assumption | exact True.intro | (show anyD _ _ = true; exact rfl) | (simp only [List.length_map, List.length_append, List.length_cons, List.length_nil, List.length_take, List.length_drop]; omega)))
end Go.Proofs.YtcedofkenfddkaaDoor
/- The laws of chapter 7: they return true. -/
namespace Go.Proofs.YtcedofkenfddkaaDoor
set_option linter.unusedVariables false
set_option linter.unusedSimpArgs false
open Go.RowKit
set_option maxRecDepth 100000
end Go.Proofs.YtcedofkenfddkaaDoor
/- EntryKeeps: the law's walk. -/
namespace Go.Proofs.YtcedofkenfddkaaDoor
set_option linter.unusedVariables false
set_option linter.unusedSimpArgs false
open Go.RowKit
attribute [-go_sem] nat_succ

theorem cnB {f : FuncId} {p : PV} {x : Bool} (h : Cn Tryd.prog f [p] (.v (.bool x))) {D : Nat → Nat → Prop} {w : World} {v : Value} (hG : GL D w) (hD : ∀ b o, D b o → b < w.heap.size) (hd : Dat D w v p) :
    Calls Tryd.prog f #[v] w fun e w' => e = .returned (.bool x) ∧ Below w.heap.size w w' := by
  refine (h.2 D w #[v] hG hD rfl (fun i p hp => ?_)).mono ?_
  · match i, hp with
    | 0, hp => cases hp; exact hd
    | i + 1, hp => simp at hp
  · rintro e w' ⟨u, D', rfl, hb, _, _, _, hdd, _⟩
    exact ⟨by rw [hdd.v_inv], hb⟩
theorem cnB0 {f : FuncId} {x : Bool} (h : Cn Tryd.prog f [] (.v (.bool x))) {D : Nat → Nat → Prop} {w : World} (hG : GL D w) (hD : ∀ b o, D b o → b < w.heap.size) :
    Calls Tryd.prog f #[] w fun e w' => e = .returned (.bool x) ∧ Below w.heap.size w w' := by
  refine (h.2 D w #[] hG hD rfl (fun i p hp => by simp at hp)).mono ?_
  rintro e w' ⟨u, D', rfl, hb, _, _, _, hdd, _⟩
  exact ⟨by rw [hdd.v_inv], hb⟩
theorem cnB2 {f : FuncId} {p q : PV} {x : Bool} (h : Cn Tryd.prog f [p, q] (.v (.bool x))) {D : Nat → Nat → Prop} {w : World} {v u : Value} (hG : GL D w) (hD : ∀ b o, D b o → b < w.heap.size) (hd : Dat D w v p) (hu : Dat D w u q) :
    Calls Tryd.prog f #[v, u] w fun e w' => e = .returned (.bool x) ∧ Below w.heap.size w w' := by
  refine (h.2 D w #[v, u] hG hD rfl (fun i p hp => ?_)).mono ?_
  · match i, hp with
    | 0, hp => cases hp; exact hd
    | 1, hp => cases hp; exact hu
    | i + 2, hp => simp at hp
  · rintro e w' ⟨u, D', rfl, hb, _, _, _, hdd, _⟩
    exact ⟨by rw [hdd.v_inv], hb⟩
theorem cnR {f : FuncId} {p : PV} {l : List Iv} (h : Cn Tryd.prog f [p] (rg l)) {D : Nat → Nat → Prop} {w : World} {v : Value} (hG : GL D w) (hD : ∀ b o, D b o → b < w.heap.size) (hd : Dat D w v p) :
    Calls Tryd.prog f #[v] w fun e w' => ∃ (u : Value) (D' : Nat → Nat → Prop), e = .returned u ∧ Below w.heap.size w w' ∧ (∀ b o, D b o → D' b o) ∧ (∀ b o, D' b o → b < w'.heap.size) ∧ Dat D' w' u (rg l) := by
  refine (h.2 D w #[v] hG hD rfl (fun i p hp => ?_)).mono ?_
  · match i, hp with
    | 0, hp => cases hp; exact hd
    | i + 1, hp => simp at hp
  · rintro e w' ⟨u, D', rfl, hb, q1, _, q3, hdd, _⟩
    exact ⟨u, D', rfl, hb, q1, q3, hdd⟩
theorem cells3 {w : World} {g : Nat} {x y z : Value} {t : TypeId} (h : w.heap[g]? = some (.cells #[x, y, z] t (0, 0))) : w.cell? ⟨g, 0, none⟩ = some x ∧ w.cell? ⟨g, 1, none⟩ = some y ∧ w.cell? ⟨g, 2, none⟩ = some z := ⟨(cell_of h 0 x rfl).1, (cell_of h 1 y rfl).1, (cell_of h 2 z rfl).1⟩
/-- A fact of an argument's memory, behind a call. -/
theorem gl_below {D : Nat → Nat → Prop} {w w' : World} (hG : GL D w) (hD : ∀ b o, D b o → b < w.heap.size) (hb : Below w.heap.size w w') : GL D w' :=
  hG.mono (fun _ _ h => h) fun b o x hd hx => (hb.cell (p := ⟨b, o, none⟩) (hD b o hd)).trans hx
theorem dat_below {D : Nat → Nat → Prop} {w w' : World} {v : Value} {p : PV} (h : Dat D w v p) (hD : ∀ b o, D b o → b < w.heap.size) (hb : Below w.heap.size w w') : Dat D w' v p :=
  h.mono (fun _ _ h => h) fun b o x hd hx => (hb.cell (p := ⟨b, o, none⟩) (hD b o hd)).trans hx
theorem agg3_own {D : Nat → Nat → Prop} {w : World} {e : En} {vh : Value} (hd : Dat D w vh (rg e.holes)) (h1 : vh.oneCell' = true) : Dat D w (.agg #[.int .u64 e.rep, .int .u64 e.max, vh]) (ep e) := by
  refine .agg _ _ rfl (fun i hi => ?_) fun i p hp => ?_
  · match i, hi with
    | 0, _ => rfl
    | 1, _ => rfl
    | 2, _ => exact h1
  · match i, hp with
    | 0, hp => cases hp; exact .v _
    | 1, hp => cases hp; exact .v _
    | 2, hp => cases hp; exact hd
theorem en_dat {D : Nat → Nat → Prop} {w : World} {x : Value} {e : En} (h : Dat D w x (ep e)) : ∃ ah ch, x = .agg #[.int .u64 e.rep, .int .u64 e.max, .slice ah e.holes.length ch] ∧ Dat D w (.slice ah e.holes.length ch) (rg e.holes) := by
  unfold ep ec at h
  obtain ⟨vs, rfl, hz, _, hd⟩ := (Rel.dat (ρ := fun _ => 0) (nb := 0) h).inv_agg
  obtain ⟨l⟩ := vs
  match l, hz with
  | [x, y, z], _ =>
    have h0 := (hd 0 _ rfl).v_inv
    have h1 := (hd 1 _ rfl).v_inv
    have h2 : Dat D w z (rg e.holes) := hd 2 _ rfl
    obtain ⟨ad, cap, sz, b, off, f, e1, _⟩ := (Rel.dat (ρ := fun _ => 0) (nb := 0) h2).inv_sl
    simp at h0 h1 e1
    subst h0 h1 e1
    exact ⟨ad, cap, rfl, h2⟩
/-- A row that may be written, its block between two bounds. -/
def Lx (n m : Nat) (a : Option Addr) (k cap : Nat) (w : World) : Prop := k ≤ cap ∧ cap ≤ maxLen ∧ (k ≠ 0 → ∃ b, a = some ⟨b, 0, none⟩ ∧ n ≤ b ∧ b < m ∧ (∀ o, w.frozen? ⟨b, o, none⟩ = false) ∧ ∀ j, j < k * 2 → ∃ x, w.cell? ⟨b, j, none⟩ = some (.int .u64 x))
theorem Lax2.lx {n : Nat} {u : Value} {w : World} (h : Lax2 n u w) : ∃ a k cap, u = .slice a k cap ∧ Lx n w.heap.size a k cap w := by
  obtain ⟨a, k, cap, h0, h1, h2, h3⟩ := h
  refine ⟨a, k, cap, h0, h1, h2, fun hk => ?_⟩
  obtain ⟨b, e, hb1, hf, hc⟩ := h3 hk
  obtain ⟨m, hm⟩ := hc 0 (by omega)
  exact ⟨b, e, hb1, World.block_lt_of_cell? _ _ hm, hf, hc⟩
theorem Lx.set {n m : Nat} {a : Option Addr} {k cap : Nat} {w : World} (h : Lx n m a k cap w) (p : Addr) (x : Int) : Lx n m a k cap (w.setCell p (.int .u64 x)) := by
  obtain ⟨h1, h2, h3⟩ := h
  refine ⟨h1, h2, fun hk => ?_⟩
  obtain ⟨b, e, hb, hm, hf, hc⟩ := h3 hk
  exact ⟨b, e, hb, hm, fun o => by rw [World.frozen?_setCell]; exact hf o, fun i hi => someInt_set2 (hc i hi) p x⟩
theorem Lx.below {n m : Nat} {a : Option Addr} {k cap : Nat} {w w' : World} (h : Lx n m a k cap w) (hb : Below m w w') : Lx n m a k cap w' := by
  obtain ⟨h1, h2, h3⟩ := h
  refine ⟨h1, h2, fun hk => ?_⟩
  obtain ⟨b, e, hb1, hm, hf, hc⟩ := h3 hk
  exact ⟨b, e, hb1, hm, fun o => ((bcell hb).2 b o hm).trans (hf o), fun j hj => by obtain ⟨x, hx⟩ := hc j hj; exact ⟨x, ((bcell hb).1 b j hm).trans hx⟩⟩
/-- The blocks of the three results. -/
def S3 (A P4 B6 B7 P8 : Nat) (b : Nat) : Prop := (A ≤ b ∧ b < P4) ∨ (P4 + 1 ≤ b ∧ b < B6) ∨ (B7 ≤ b ∧ b < P8)
/-- What holds through the law's loops. -/
def J3 (Z : World) (A P4 B6 B7 P8 : Nat) (a5 a6 a8 : Option Addr) (l5 c5 l6 c6 l8 c8 : Nat) (wr : World) : Prop :=
  Keep (S3 A P4 B6 B7 P8) Z wr ∧ Lx A P4 a5 l5 c5 wr ∧ Lx (P4 + 1) B6 a6 l6 c6 wr ∧ Lx B7 P8 a8 l8 c8 wr
theorem J3.set {Z wr : World} {A P4 B6 B7 P8 : Nat} {a5 a6 a8 : Option Addr} {l5 c5 l6 c6 l8 c8 : Nat} (h : J3 Z A P4 B6 B7 P8 a5 a6 a8 l5 c5 l6 c6 l8 c8 wr) {b : Nat} (hb : S3 A P4 B6 B7 P8 b) (o : Nat) (x : Int) :
    J3 Z A P4 B6 B7 P8 a5 a6 a8 l5 c5 l6 c6 l8 c8 (wr.setCell ⟨b, o, none⟩ (.int .u64 x)) :=
  ⟨h.1.setCell (p := ⟨b, o, none⟩) (fun _ => hb) _, h.2.1.set _ _, h.2.2.1.set _ _, h.2.2.2.set _ _⟩
theorem Lx.at {n m : Nat} {a : Option Addr} {k cap : Nat} {w : World} (h : Lx n m a k cap w) {j : Nat} (hj : j < k) : k ≤ cap ∧ cap ≤ 2 ^ 63 - 1 ∧ ∃ b x y, a = some ⟨b, 0, none⟩ ∧ n ≤ b ∧ b < m ∧ w.frozen? ⟨b, j * 2, none⟩ = false ∧ w.frozen? ⟨b, j * 2 + 1, none⟩ = false ∧ w.cell? ⟨b, j * 2, none⟩ = some (.int .u64 x) ∧ w.cell? ⟨b, j * 2 + 1, none⟩ = some (.int .u64 y) := by
  obtain ⟨h1, h2, h3⟩ := h
  obtain ⟨b, e, q1, q2, q3, q4⟩ := h3 (by omega)
  obtain ⟨x, hx⟩ := q4 (j * 2) (by omega)
  obtain ⟨y, hy⟩ := q4 (j * 2 + 1) (by omega)
  exact ⟨h1, h2, b, x, y, e, q1, q2, q3 _, q3 _, hx, hy⟩
set_option maxHeartbeats 2000000 in
set_option maxRecDepth 100000 in
theorem entryKeeps_c (e : En) (he : BdE e) : Cn Tryd.prog 6 [ep e] (.v (.bool true)) := by
  refine ⟨enters_of Tryd.func6 (by kernel_rfl) rfl, fun D w vs hG hD hsz hp => ?_⟩
  obtain ⟨ah, ch, hv, hdh⟩ := en_dat (hp 0 _ rfl)
  rw [show vs = #[vs.getD 0 undef] from by obtain ⟨l⟩ := vs; match l, hsz with | [x], _ => rfl, hv]
  suffices h : Calls Tryd.prog 6 #[.agg #[.int .u64 e.rep, .int .u64 e.max, .slice ah e.holes.length ch]] w fun e w' => e = .returned (.bool true) ∧ Below w.heap.size w w' by
    refine h.mono ?_
    rintro e' w' ⟨rfl, hb⟩
    exact ⟨_, D, rfl, hb, fun _ _ h => h, fun _ _ h => .inl h, fun b o h => Nat.lt_of_lt_of_le (hD b o h) hb.size, .v _, trivial⟩
  clear hp hsz hv
  have hR := dat_rdr hdh hD he.1
  go_enter Tryd.func6, Tryd.ntmps6
  have HH := Lib.hid (And.intro hG (And.intro hD (And.intro hdh (And.intro hR he))))
  clear hG hD hdh hR he
  by_cases hlen : 60 < e.holes.length
  · go_wp2_with (
      go_at_call 25
      refine (cnB0 alive7_c (gl_below HH.out.1 HH.out.2.1 ((Below.refl _ w).alloc (Nat.le_refl _) _)) (fun b o h => by have := HH.out.2.1 b o h; simp; omega)).mono ?_
      rintro e' w1 ⟨rfl, hb1⟩)
    go_ret
    exact ⟨rfl, ((Below.refl _ w).alloc (Nat.le_refl _) _).trans (hb1.mono (by simp))⟩
  · have hRt : Calls Tryd.prog 24 #[.agg #[.int .u64 e.rep, .int .u64 e.max, .slice ah e.holes.length ch]] (w.alloc (.cells #[.int .u64 e.rep, .int .u64 e.max, .slice ah e.holes.length ch] 34 (0, 0))) fun e' w' => e' = .returned (.bool (rightEB e)) ∧ Below (w.alloc (.cells #[.int .u64 e.rep, .int .u64 e.max, .slice ah e.holes.length ch] 34 (0, 0))).heap.size (w.alloc (.cells #[.int .u64 e.rep, .int .u64 e.max, .slice ah e.holes.length ch] 34 (0, 0))) w' :=
      cnB (right7_c e (by omega) HH.out.2.2.2.2.1) (gl_below HH.out.1 HH.out.2.1 ((Below.refl _ w).alloc (Nat.le_refl _) _)) (fun b o h => by have := HH.out.2.1 b o h; simp; omega) (agg3_own (dat_below HH.out.2.2.1 HH.out.2.1 ((Below.refl _ w).alloc (Nat.le_refl _) _)) rfl)
    cases hr : rightEB e with
    | false =>
      rw [hr] at hRt
      have HT := Lib.hid hRt
      clear hRt hr
      go_wp2_with (first
        | (go_at_call 24
           refine HT.out.mono ?_
           rintro e' w1 ⟨rfl, hb1⟩)
        | (go_at_call 25
           have b1 : Below w.heap.size w w1 := ((Below.refl _ w).alloc (Nat.le_refl _) _).trans (hb1.mono (by simp))
           refine (cnB0 alive7_c (gl_below HH.out.1 HH.out.2.1 b1) (fun b o h => Nat.lt_of_lt_of_le (HH.out.2.1 b o h) b1.size)).mono ?_
           rintro e' w2 ⟨rfl, hb2⟩))
      go_ret
      exact ⟨rfl, b1.trans (hb2.mono b1.size)⟩
    | true =>
      have hre := (rightEB_iff HH.out.2.2.2.2.1 HH.out.2.2.2.2.2.1 HH.out.2.2.2.2.2.2).1 hr
      rw [hr] at hRt
      have HT := Lib.hid hRt
      clear hRt hr
      go_upto_region 4 with (
        go_at_call 24
        refine HT.out.mono ?_
        rintro e' w1 ⟨rfl, hb1⟩
        have b1 : Below w.heap.size w w1 := ((Below.refl _ w).alloc (Nat.le_refl _) _).trans (hb1.mono (by simp))
        have s1 : w.heap.size < w1.heap.size := by have := hb1.size; simp at this; omega
        have e1 := (hb1.block w.heap.size (by simp)).trans (World.alloc_heap_new w _)
        have a0 := (cell_of e1 0 (.int .u64 e.rep) rfl).1
        have a1 := (cell_of e1 1 (.int .u64 e.max) rfl).1
        have a2 := (cell_of e1 2 (.slice ah e.holes.length ch) rfl).1)
      obtain ⟨i0, hi0, hz0, hz1, hz2⟩ := info_parts Tryd.infoIv
      go_upto_region 5 with (
        at_builtin
        (refine wpList_append_copy rfl _ _ rfl i0 (.agg #[.int .u64 0, .int .u64 0]) 16 hi0 hz0 hz1 hz2 (by decide) rfl (w1.heap.size + 1) rfl (new2 w1 _ _) (w1.heap.size + 1) (Nat.le_refl _) rfl (HH.out.2.2.2.1.keep (Nat.le_refl _) (by simp; omega) fun b _ hb => (Below.heap_alloc _ _ _ (by simp; omega)).trans ((Below.heap_alloc _ _ _ (by omega)).trans (b1.block b hb))) (by omega) ?_)
        intro v1 w2 o1 hb2
        have s2 : w1.heap.size + 2 ≤ w2.heap.size := by have := hb2.size; simpa using this
        have b2 : Below w1.heap.size w1 w2 := (((Below.refl _ w1).alloc (Nat.le_refl _) _).alloc (by simp) _).trans (hb2.mono (by omega))
        have e2 := (b2.block w.heap.size s1).trans e1
        have e3 := (hb2.block w1.heap.size (by omega)).trans ((Below.heap_alloc _ _ _ (by simp)).trans (World.alloc_heap_new w1 _))
        obtain ⟨p1, y1, rfl⟩ := o1.val
        have g2 := (cell_of e3 2 (.slice ah e.holes.length ch) rfl).1
        have g3 := (cell_of e3 2 (.slice ah e.holes.length ch) rfl).2)
      obtain ⟨Y, hY⟩ : ∃ Y, w2.setCell ⟨w1.heap.size, 2, none⟩ (.slice p1 e.holes.length y1) = Y := ⟨_, rfl⟩
      have y1' : Y.heap[w.heap.size]? = some (.cells #[.int .u64 e.rep, .int .u64 e.max, .slice ah e.holes.length ch] 34 (0, 0)) := by rw [← hY, Below.heap_setCell _ _ _ _ (by simp; omega)]; exact e2
      have y2 : Y.heap[w1.heap.size]? = some (.cells #[.int .u64 e.rep, .int .u64 e.max, .slice p1 e.holes.length y1] 34 (0, 0)) := by rw [← hY]; exact heap_set e3 _
      have y3 : OwnR (w1.heap.size + 1) Y (.slice p1 e.holes.length y1) e.holes := by rw [← hY]; exact ⟨ownsRow_setCell_below o1.1 (by simp) _, o1.2⟩
      have y4 : Below w.heap.size w Y := by rw [← hY]; exact (b1.trans (b2.mono (Nat.le_of_lt s1))).setCell (Nat.le_of_lt s1) _
      rw [hY]
      have M1 := s1
      obtain ⟨M, hM⟩ : ∃ M, w1.heap.size = M := ⟨_, rfl⟩
      rw [hM] at y2 y3 M1 ⊢
      clear hY e1 e2 e3 o1 b2 hb2 s2 s1 b1 hb1 a0 a1 a2 g2 g3 HT hM
      have z1 := (cell_of y2 0 (.int .u64 e.rep) rfl).1
      have z2 := (cell_of y2 1 (.int .u64 e.max) rfl).1
      have z3 := (cell_of y2 2 (.slice p1 e.holes.length y1) rfl).1
      go_upto_region 6 with (
        go_at_call 36
        refine (canon_w (y3.rd.keep (Nat.zero_le _) (Nat.le_refl _) fun _ _ _ => rfl) (by omega)).mono ?_
        rintro e' w5 ⟨r5, m5, u5, k5, rfl, hl5, hb5⟩
        obtain ⟨a5, l5, c5, rfl, lx5⟩ := hl5.lx)
      obtain ⟨Y5, hY5⟩ : ∃ Y5, w5.alloc (.cells #[.int .u64 r5, .int .u64 m5, .slice a5 l5 c5] 34 (0, 0)) = Y5 := ⟨_, rfl⟩
      have t5 : Y5.heap[w5.heap.size]? = some (.cells #[.int .u64 r5, .int .u64 m5, .slice a5 l5 c5] 34 (0, 0)) := by rw [← hY5]; exact World.alloc_heap_new _ _
      have lc5 : Lx Y.heap.size w5.heap.size a5 l5 c5 Y5 := by rw [← hY5]; exact lx5.below ((Below.refl _ _).alloc (Nat.le_refl _) _)
      have b5 : Below Y.heap.size Y Y5 := by rw [← hY5]; exact hb5.alloc hb5.size _
      have s5 : Y5.heap.size = w5.heap.size + 1 := by rw [← hY5]; simp
      have n5 : Y.heap.size ≤ w5.heap.size := hb5.size
      rw [hY5]
      obtain ⟨P4, hP4⟩ : ∃ P4, w5.heap.size = P4 := ⟨_, rfl⟩
      rw [hP4] at t5 lc5 s5 n5 ⊢
      clear hY5 hP4 hb5 lx5 hl5 z1 z2 z3
      have M2 : M < Y.heap.size := (Array.getElem?_eq_some_iff.1 y2).1
      have N2 : w.heap.size < Y.heap.size := (Array.getElem?_eq_some_iff.1 y1').1
      have x1 := (b5.block _ N2).trans y1'
      have x2 := (b5.block _ M2).trans y2
      have x3 : RdR 0 Y.heap.size Y5 (.slice p1 e.holes.length y1) e.holes := (y3.rd.keep (Nat.zero_le _) (Nat.le_refl _) fun b _ h => b5.block b h)
      have z1 := (cell_of x2 0 (.int .u64 e.rep) rfl).1
      have z2 := (cell_of x2 1 (.int .u64 e.max) rfl).1
      have z3 := (cell_of x2 2 (.slice p1 e.holes.length y1) rfl).1
      have X3 := Lib.hid (And.intro x3 lc5)
      have hy4 := y4.trans (b5.mono (Nat.le_of_lt N2))
      clear y1' y2 y3 y4 x3 lc5 b5
      have lk := kn_length e
      go_upto_region 7 with (
        go_at_call 26
        refine (known_o (X3.out.1.keep (Nat.le_refl _) (by omega) fun _ _ _ => rfl) hre.1 hre.2.2.1 (by omega)).mono ?_
        rintro e' w6 ⟨v6, rfl, o6, hb6⟩)
      have o6' : OwnR Y5.heap.size w6 v6 (kn e) := o6
      clear o6
      obtain ⟨p6, c6, rfl⟩ := o6'.val
      have n6 : P4 + 1 ≤ w6.heap.size := by have := hb6.size; omega
      go_upto_region 8 with (
        at_builtin
        (refine wpList_append_copy rfl _ _ rfl i0 (.agg #[.int .u64 0, .int .u64 0]) 16 hi0 hz0 hz1 hz2 (by decide) rfl w6.heap.size rfl (World.alloc_heap_new w6 _) w6.heap.size (Nat.le_refl _) rfl (o6'.rd.keep (Nat.zero_le _) (by simp) fun b _ hb => Below.heap_alloc _ _ _ hb) (by omega) ?_)
        intro v7 w7 o7 hb7
        obtain ⟨p7, c7, rfl⟩ := o7.val)
      have b7 : Below w6.heap.size w6 w7 := ((Below.refl _ w6).alloc (Nat.le_refl _) _).trans hb7
      have n7 : w6.heap.size ≤ w7.heap.size := b7.size
      clear hb7
      go_upto_region 9 with (
        go_at_call 32
        (refine (of_o 1 (o7.rd.keep (Nat.zero_le _) (Nat.le_refl _) fun _ _ _ => rfl) (kn_nrm hre) (by omega)).mono ?_)
        rintro e' w8 ⟨r8, m8, u8, k8, rfl, hl8, hb8⟩
        obtain ⟨a8, l8, c8, rfl, lx8⟩ := hl8.lx)
      obtain ⟨Z, hZ⟩ : ∃ Z, w8.alloc (.cells #[.int .u64 r8, .int .u64 m8, .slice a8 l8 c8] 34 (0, 0)) = Z := ⟨_, rfl⟩
      have t8 : Z.heap[w8.heap.size]? = some (.cells #[.int .u64 r8, .int .u64 m8, .slice a8 l8 c8] 34 (0, 0)) := by rw [← hZ]; exact World.alloc_heap_new _ _
      have lz8 : Lx w7.heap.size w8.heap.size a8 l8 c8 Z := by rw [← hZ]; exact lx8.below ((Below.refl _ _).alloc (Nat.le_refl _) _)
      have bz7 : Below w7.heap.size w7 Z := by rw [← hZ]; exact hb8.alloc hb8.size _
      have bz6 : Below w6.heap.size w6 Z := b7.trans (bz7.mono n7)
      have bz5 : Below Y5.heap.size Y5 Z := hb6.trans (bz6.mono hb6.size)
      have sz : Z.heap.size = w8.heap.size + 1 := by rw [← hZ]; simp
      have n8 : w7.heap.size ≤ w8.heap.size := hb8.size
      rw [hZ]
      obtain ⟨A, hA⟩ : ∃ A, Y.heap.size = A := ⟨_, rfl⟩
      obtain ⟨B6, hB6⟩ : ∃ B6, w6.heap.size = B6 := ⟨_, rfl⟩
      obtain ⟨B7, hB7⟩ : ∃ B7, w7.heap.size = B7 := ⟨_, rfl⟩
      obtain ⟨P8, hP8⟩ : ∃ P8, w8.heap.size = P8 := ⟨_, rfl⟩
      have lz5 : Lx A P4 a5 l5 c5 Z := by rw [← hA]; exact X3.out.2.below (bz5.mono (by omega))
      have lz6 : Lx (P4 + 1) B6 p6 (kn e).length c6 Z := by
        have h := (o6'.lax2 (Nat.le_refl _)).lx
        obtain ⟨_, _, _, h0, h1⟩ := h
        cases h0
        rw [s5, hB6] at h1
        exact h1.below (by rw [← hB6]; exact bz6)
      have zx1 := (bz5.block _ (by omega)).trans x1
      have zx2 := (bz5.block _ (by omega)).trans x2
      have zx4 := (bz5.block _ (by omega)).trans t5
      have zR : RdR 0 A Z (.slice p1 e.holes.length y1) e.holes := by rw [← hA]; exact X3.out.1.keep (Nat.le_refl _) (Nat.le_refl _) fun b _ h => bz5.block b (by omega)
      have zK : RdR B6 B7 Z (.slice p7 (kn e).length c7) (kn e) := by rw [← hB6, ← hB7]; exact o7.rd.keep (Nat.le_refl _) (Nat.le_refl _) fun b _ h => bz7.block b h
      have zb : Below w.heap.size w Z := hy4.trans (bz5.mono (by omega))
      rw [hA] at n5 M2 N2
      rw [hB6] at n6 n7
      rw [hB7] at n7 n8 lz8
      rw [hP8] at t8 lz8 sz n8 ⊢
      have HJ := Lib.hid (show J3 Z A P4 B6 B7 P8 a5 p6 a8 l5 c5 (kn e).length c6 l8 c8 Z from ⟨Keep.refl _ _, lz5, lz6, lz8⟩)
      have HZ := Lib.hid (And.intro zx1 (And.intro zx2 (And.intro zx4 (And.intro t8 (And.intro zR (And.intro zK zb))))))
      have g5 := (cell_of zx4 2 (.slice a5 l5 c5) rfl).1
      clear hZ hA hB6 hB7 hP8 zx1 zx2 zx4 zR zK zb lz5 lz6 lz8 t8 bz5 bz6 bz7 b7 hb6 hb8 o6' o7 lx8 hl8 x1 x2 t5 X3 hy4 z1 z2 z3 hi0 hz0 hz1 hz2
      go_wp2_with fail
      clear g5
      go_loopg [47] l5 (fun g x wr => ∃ j : Nat, x = .int .i64 j ∧ j ≤ l5 ∧ g = l5 - j ∧ J3 Z A P4 B6 B7 P8 a5 p6 a8 l5 c5 (kn e).length c6 l8 c8 wr)
      case atStart => exact ⟨0, rfl, Nat.zero_le _, rfl, HJ.out⟩
      case round =>
        clear HJ
        obtain ⟨j, rfl, hj, rfl, hJ⟩ := hrel
        have g4 := (cell_of (hJ.1.obj HZ.out.2.2.1 (by unfold S3; omega)) 2 (.slice a5 l5 c5) rfl).1
        have g8 := (cell_of (hJ.1.obj HZ.out.2.2.2.1 (by unfold S3; omega)) 2 (.slice a8 l8 c8) rfl).1
        have HJ := Lib.hid hJ
        by_cases hjl : j < l5
        · obtain ⟨q1, q2, b, x, y, rfl, hb1, hb2, f1, f2, d1, d2⟩ := hJ.2.1.at hjl
          clear hJ g8
          go_wp2
          go_roundg (l5 - (j + 1))
          case measure => omega
          case rel => exact ⟨j + 1, rfl, by omega, rfl, HJ.out.set (.inl ⟨hb1, hb2⟩) _ _⟩
        · clear hJ
          obtain ⟨wo, hwo⟩ : ∃ wo, wo = wr := ⟨wr, rfl⟩
          subst hwo
          go_wp2_with fail
          clear g4 g8
          go_loopg [62] (kn e).length (fun g x wr => ∃ j : Nat, x = .int .i64 j ∧ j ≤ (kn e).length ∧ g = (kn e).length - j ∧ J3 Z A P4 B6 B7 P8 a5 p6 a8 l5 c5 (kn e).length c6 l8 c8 wr)
          case atStart => exact ⟨0, rfl, Nat.zero_le _, rfl, HJ.out⟩
          case round =>
            clear HJ
            obtain ⟨j2, rfl, hj2, rfl, hJ⟩ := hrel
            have g8 := (cell_of (hJ.1.obj HZ.out.2.2.2.1 (by unfold S3; omega)) 2 (.slice a8 l8 c8) rfl).1
            have HJ := Lib.hid hJ
            by_cases hjl2 : j2 < (kn e).length
            · obtain ⟨q1, q2, b, x, y, rfl, hb1, hb2, f1, f2, d1, d2⟩ := hJ.2.2.1.at hjl2
              clear hJ g8
              go_wp2
              go_roundg ((kn e).length - (j2 + 1))
              case measure => omega
              case rel => exact ⟨j2 + 1, rfl, by omega, rfl, HJ.out.set (.inr (.inl ⟨hb1, hb2⟩)) _ _⟩
            · clear hJ
              obtain ⟨wp, hwp⟩ : ∃ wp, wp = wr := ⟨wr, rfl⟩
              subst hwp
              go_wp2_with fail
              clear g8
              go_loopg [77] l8 (fun g x wr => ∃ j : Nat, x = .int .i64 j ∧ j ≤ l8 ∧ g = l8 - j ∧ J3 Z A P4 B6 B7 P8 a5 p6 a8 l5 c5 (kn e).length c6 l8 c8 wr)
              case atStart => exact ⟨0, rfl, Nat.zero_le _, rfl, HJ.out⟩
              case round =>
                clear HJ
                obtain ⟨j3, rfl, hj3, rfl, hJ⟩ := hrel
                have g8 := (cell_of (hJ.1.obj HZ.out.2.2.2.1 (by unfold S3; omega)) 2 (.slice a8 l8 c8) rfl).1
                have HJ := Lib.hid hJ
                by_cases hjl3 : j3 < l8
                · obtain ⟨q1, q2, b, x, y, rfl, hb1, hb2, f1, f2, d1, d2⟩ := hJ.2.2.2.at hjl3
                  clear hJ
                  go_wp2
                  go_roundg (l8 - (j3 + 1))
                  case measure => omega
                  case rel => exact ⟨j3 + 1, rfl, by omega, rfl, HJ.out.set (.inr (.inr ⟨hb1, hb2⟩)) _ _⟩
                · clear hJ g8
                  obtain ⟨wq, hwq⟩ : ∃ wq, wq = wr := ⟨wr, rfl⟩
                  subst hwq
                  have hk := HJ.out.1
                  have sq : P8 < wq.heap.size := by have := hk.size; omega
                  have x1 := hk.obj HZ.out.1 (by unfold S3; omega)
                  have x2 := hk.obj HZ.out.2.1 (by unfold S3; omega)
                  have bw : Below w.heap.size w wq := HZ.out.2.2.2.2.2.2.trans (hk.below (by omega) fun k hk => by unfold S3; omega)
                  obtain ⟨D9, hD9⟩ : ∃ D9 : Nat → Nat → Prop, D9 = fun b o => D b o ∨ b < A ∨ (B6 ≤ b ∧ b < B7) := ⟨_, rfl⟩
                  have dD : ∀ b o, D9 b o → b < wq.heap.size := fun b o h => by
                    rw [hD9] at h
                    rcases h with h | h | h
                    · have := HH.out.2.1 b o h; omega
                    · omega
                    · omega
                  have gG : GL D9 wq := (gl_below HH.out.1 HH.out.2.1 bw).mono (fun b o h => by rw [hD9]; exact .inl h) fun _ _ _ _ h => h
                  have gE : Dat D9 wq (.slice ah e.holes.length ch) (rg e.holes) := (dat_below HH.out.2.2.1 HH.out.2.1 bw).mono (fun b o h => by rw [hD9]; exact .inl h) fun _ _ _ _ h => h
                  have gO : Dat D9 wq (.slice p1 e.holes.length y1) (rg e.holes) := rdr_dat (HZ.out.2.2.2.2.1.keep (Nat.le_refl _) (Nat.le_refl _) fun b _ h => hk.block b (by omega) (by unfold S3; omega)) fun b o _ h => by rw [hD9]; exact .inr (.inl h)
                  have gK : Dat D9 wq (.slice p7 (kn e).length c7) (rg (kn e)) := rdr_dat (HZ.out.2.2.2.2.2.1.keep (Nat.le_refl _) (Nat.le_refl _) fun b _ h => hk.block b (by omega) (by unfold S3; omega)) fun b o h1 h => by rw [hD9]; exact .inr (.inr ⟨h1, h⟩)
                  clear hk hD9 HJ
                  have c7' : Cn Tryd.prog 34 [ep e, ep e] (.v (.bool true)) := by have := same7_c e e (by omega); simpa using this
                  have c4' : Cn Tryd.prog 29 [rg (kn e), rg (kn e)] (.v (.bool true)) := by have := same4_c (kn e) (kn e) (by omega); simpa using this
                  have ck' : Cn Tryd.prog 30 [ep e] (rg (kn e)) := known7_c e hre (by omega)
                  have CC := Lib.hid (And.intro c7' (And.intro c4' ck'))
                  clear c7' c4' ck'
                  have GG := Lib.hid (And.intro gG (And.intro dD (And.intro gE (And.intro gO gK))))
                  clear gG dD gE gO gK
                  go_wp2_with (first
                    | (go_at_call 25
                       refine (cnB0 alive7_c GG.out.1 GG.out.2.1).mono ?_
                       rintro e' w9 ⟨rfl, hb9⟩
                       have h1 := (hb9.block w.heap.size (by omega)).trans x1
                       have h2 := (hb9.block M (by omega)).trans x2
                       have G9 := Lib.hid (And.intro (gl_below GG.out.1 GG.out.2.1 hb9) (And.intro (show ∀ b o, D9 b o → b < w9.heap.size from fun b o h => Nat.lt_of_lt_of_le (GG.out.2.1 b o h) hb9.size) (And.intro (dat_below GG.out.2.2.1 GG.out.2.1 hb9) (And.intro (dat_below GG.out.2.2.2.1 GG.out.2.1 hb9) (dat_below GG.out.2.2.2.2 GG.out.2.1 hb9)))))
                       have s9 : P8 < w9.heap.size := Nat.lt_of_lt_of_le sq hb9.size
                       obtain ⟨v0, v1, v2⟩ := cells3 h1
                       obtain ⟨v3, v4, v5⟩ := cells3 h2)
                    | (go_at_call 34
                       refine (cnB2 CC.out.1 G9.out.1 G9.out.2.1 (agg3_own G9.out.2.2.2.1 rfl) (agg3_own G9.out.2.2.1 rfl)).mono ?_
                       rintro e' w10 ⟨rfl, hb10⟩
                       have h3 := (hb10.block w.heap.size (by omega)).trans h1
                       have GA := Lib.hid (And.intro (gl_below G9.out.1 G9.out.2.1 hb10) (And.intro (show ∀ b o, D9 b o → b < w10.heap.size from fun b o h => Nat.lt_of_lt_of_le (G9.out.2.1 b o h) hb10.size) (And.intro (dat_below G9.out.2.2.1 G9.out.2.1 hb10) (dat_below G9.out.2.2.2.2 G9.out.2.1 hb10))))
                       obtain ⟨v6, v7, v8⟩ := cells3 h3)
                    | (go_at_call 30
                       refine (cnR CC.out.2.2 GA.out.1 GA.out.2.1 (agg3_own GA.out.2.2.1 rfl)).mono ?_
                       rintro e' w11 ⟨uk, D', rfl, hb11, hDD, hDb, hdv⟩
                       have GB := Lib.hid (And.intro ((gl_below GA.out.1 GA.out.2.1 hb11).mono hDD fun _ _ _ _ h => h) (And.intro hDb (And.intro ((dat_below GA.out.2.2.2 GA.out.2.1 hb11).mono hDD fun _ _ _ _ h => h) hdv))))
                    | (go_at_call 29
                       refine (cnB2 CC.out.2.1 GB.out.1 GB.out.2.1 GB.out.2.2.1 GB.out.2.2.2).mono ?_
                       rintro e' w12 ⟨rfl, hb12⟩))
                  go_ret
                  have bA := bw.trans (hb9.mono bw.size)
                  have bB := bA.trans (hb10.mono bA.size)
                  have bC := bB.trans (hb11.mono bB.size)
                  exact ⟨rfl, bC.trans (hb12.mono bC.size)⟩
end Go.Proofs.YtcedofkenfddkaaDoor
