/- The contracts of entry.Check, Canonical and Same. -/
import Derived.Test.YtcedofkenfddkaaDoorT11
namespace Go.Proofs.YtcedofkenfddkaaDoor
set_option linter.unusedVariables false
set_option linter.unusedSimpArgs false
open Go.RowKit
set_option maxRecDepth 100000
theorem low1_cp (nb : Nat) (cs : List PV) (o : Nat) : low1 nb (.cp cs o) = true := rfl
attribute [go_sem] low1_cp
theorem echeck2_c (e : En) (hb : ∀ s ∈ e.holes, s.lo < M64 ∧ s.hi < M64) (hl : e.holes.length ≤ 1152921504606846976) (hC : (chk e.holes).1 = 0 ∨ Cn Tryd.prog 39 [errno 2] (.v (.int .i64 2))) : Cn Tryd.prog 86 [.cp (ec e) 0] (errV (chk e.holes).1 (chk e.holes).2) := by
  refine cn_go Tryd.func86 [] 1 (by kernel_rfl) rfl (by simp [go_sem, seval]) ?_
  conv => arg 4; cbv
  conv => enter [5, 1]; cbv
  try simp (maxSteps := 2000000) (disch := omega) only [go_sem, seval]
  try repeat ((with_reducible refine And.intro ?_ ?_); focus (first | omega | assumption | exact True.intro | (show anyD _ _ = true; exact rfl) | (simp only [List.length_map, List.length_append, List.length_cons, List.length_nil, List.length_take, List.length_drop]; omega)))
  (first | refine callP.mk (rcheck_c e.holes hb hl hC) rfl ?_ | refine callQ.mk (rcheck_c e.holes hb hl hC) rfl ?_ | refine callO.rd (rcheck_c e.holes hb hl hC) rfl ?_ | refine callO.mk (rcheck_c e.holes hb hl hC) rfl ?_)
  try simp (maxSteps := 2000000) (disch := omega) only [go_sem, seval]
  try repeat ((with_reducible refine And.intro ?_ ?_); focus (first | omega | assumption | exact True.intro | (show anyD _ _ = true; exact rfl) | (simp only [List.length_map, List.length_append, List.length_cons, List.length_nil, List.length_take, List.length_drop]; omega)))
  exact errV_sub _ _
theorem echeck1_c (e : En) (hl : e.holes.length ≤ 1152921504606846976) : Cn Tryd.prog 85 [.cp (ec e) 0] (errV (hk e.max e.holes 0).1 (hk e.max e.holes 0).2) := by
  refine cn_go Tryd.func85 [] 1 (by kernel_rfl) rfl (by simp [go_sem, seval]) ?_
  conv => arg 4; cbv
  conv => enter [5, 1]; cbv
  try simp (maxSteps := 2000000) (disch := omega) only [go_sem, seval]
  try repeat ((with_reducible refine And.intro ?_ ?_); focus (first | omega | assumption | exact True.intro | (show anyD _ _ = true; exact rfl) | (simp only [List.length_map, List.length_append, List.length_cons, List.length_nil, List.length_take, List.length_drop]; omega)))
  refine pLoop.go (fun k => k ≤ e.holes.length ∧ hk e.max e.holes 0 = hk e.max (e.holes.drop k) k) (fun k => [(7, .v (.int .i64 (k : Nat)))]) (fun _ => []) (fun k => e.holes.length - k) 0 [7] ?_ ?_ ?_
  · exact ⟨Nat.zero_le _, rfl⟩
  · try simp (maxSteps := 2000000) (disch := omega) only [go_sem, seval]
    try repeat ((with_reducible refine And.intro ?_ ?_); focus (first | omega | assumption | exact True.intro | (show anyD _ _ = true; exact rfl) | (simp only [List.length_map, List.length_append, List.length_cons, List.length_nil, List.length_take, List.length_drop]; omega)))
  · rintro k ⟨hk1, hm⟩
    try simp (maxSteps := 2000000) (disch := omega) only [go_sem, seval]
    try repeat ((with_reducible refine And.intro ?_ ?_); focus (first | omega | assumption | exact True.intro | (show anyD _ _ = true; exact rfl) | (simp only [List.length_map, List.length_append, List.length_cons, List.length_nil, List.length_take, List.length_drop]; omega)))
    (first | refine brP.mk (fun h1 => ?_) (fun h1 => ?_) | refine gdP.mkt (fun h1 => ?_) (fun h1 => ?_) | refine gdP.mkf (fun h1 => ?_) (fun h1 => ?_) | refine pkP.mk (fun h1 => ?_) (fun h1 => ?_)) <;> (try simp only [Bool.not_true, Bool.not_false, decide_eq_true_eq, decide_eq_false_iff_not, Bool.and_eq_true, Bool.or_eq_true, Bool.not_eq_true', Bool.not_eq_false', Bool.and_eq_false_iff, Bool.or_eq_false_iff, Nat.not_lt, Int.not_lt, Nat.not_le, Int.not_le, Int.ofNat_lt, Int.ofNat_le, Int.ofNat_inj, Bool.xor_false, Bool.false_xor, Bool.true_xor, Bool.xor_true] at h1) <;> (try simp (maxSteps := 2000000) (disch := omega) only [go_sem, seval]) <;> (try repeat ((with_reducible refine And.intro ?_ ?_); focus (first | omega | assumption | exact True.intro | (show anyD _ _ = true; exact rfl) | (simp only [List.length_map, List.length_append, List.length_cons, List.length_nil, List.length_take, List.length_drop]; omega))))
    · rw [hk_step h1] at hm
      (first | refine brP.mk (fun h2 => ?_) (fun h2 => ?_) | refine gdP.mkt (fun h2 => ?_) (fun h2 => ?_) | refine gdP.mkf (fun h2 => ?_) (fun h2 => ?_) | refine pkP.mk (fun h2 => ?_) (fun h2 => ?_)) <;> (try simp only [Bool.not_true, Bool.not_false, decide_eq_true_eq, decide_eq_false_iff_not, Bool.and_eq_true, Bool.or_eq_true, Bool.not_eq_true', Bool.not_eq_false', Bool.and_eq_false_iff, Bool.or_eq_false_iff, Nat.not_lt, Int.not_lt, Nat.not_le, Int.not_le, Int.ofNat_lt, Int.ofNat_le, Int.ofNat_inj, Bool.xor_false, Bool.false_xor, Bool.true_xor, Bool.xor_true] at h2) <;> (try simp (maxSteps := 2000000) (disch := omega) only [go_sem, seval]) <;> (try repeat ((with_reducible refine And.intro ?_ ?_); focus (first | omega | assumption | exact True.intro | (show anyD _ _ = true; exact rfl) | (simp only [List.length_map, List.length_append, List.length_cons, List.length_nil, List.length_take, List.length_drop]; omega))))
      · rw [hm, if_pos h2]
        (first | refine callP.mk (fnew_c 4 (k : Nat)) rfl ?_ | refine callQ.mk (fnew_c 4 (k : Nat)) rfl ?_ | refine callO.rd (fnew_c 4 (k : Nat)) rfl ?_ | refine callO.mk (fnew_c 4 (k : Nat)) rfl ?_)
        try simp (maxSteps := 2000000) (disch := omega) only [go_sem, seval]
        try repeat ((with_reducible refine And.intro ?_ ?_); focus (first | omega | assumption | exact True.intro | (show anyD _ _ = true; exact rfl) | (simp only [List.length_map, List.length_append, List.length_cons, List.length_nil, List.length_take, List.length_drop]; omega)))
        exact errV_sub _ _
      · rw [if_neg (by omega)] at hm
        exact ⟨k + 1, ⟨h1, hm⟩, by omega, rfl⟩
    · rw [List.drop_of_length_le h1] at hm
      rw [hm]
      exact .eq _ rfl
theorem errV_nil {x : Nat × Int} (h : x.1 = 0) : errV x.1 x.2 = .v .nilIface := if_pos h
theorem errV_ifc {x : Nat × Int} (h : x.1 ≠ 0) : errV x.1 x.2 = .ifc 89 (.agg [.v (.int .i64 x.1), .v (.int .i64 x.2)]) := if_neg h
set_option maxHeartbeats 1000000 in
theorem echeck_c (e : En) (hb : ∀ s ∈ e.holes, s.lo < M64 ∧ s.hi < M64) (hl : e.holes.length ≤ 1152921504606846976) (hC : (chk e.holes).1 = 0 ∨ Cn Tryd.prog 39 [errno 2] (.v (.int .i64 2))) : Cn Tryd.prog 37 [ep e] (errV (chkE e).1 (chkE e).2) := by
  refine cn_go Tryd.func37 [] 1 (by kernel_rfl) rfl (by simp [go_sem, seval]) ?_
  conv => arg 4; cbv
  conv => enter [5, 1]; cbv
  try simp (maxSteps := 2000000) (disch := omega) only [go_sem, seval]
  try repeat ((with_reducible refine And.intro ?_ ?_); focus (first | omega | assumption | exact True.intro | (show anyD _ _ = true; exact rfl) | (simp only [List.length_map, List.length_append, List.length_cons, List.length_nil, List.length_take, List.length_drop]; omega)))
  refine pLoop.go (fun k => k ≤ 2 ∧ (1 ≤ k → (chk e.holes).1 = 0) ∧ (2 ≤ k → (chkE e).1 = 0)) (fun k => [(12, .v (.int .i64 (k : Nat)))]) (fun _ => []) (fun k => 2 - k) 0 [12] ?_ ?_ ?_
  · exact ⟨by omega, fun h => absurd h (by omega), fun h => absurd h (by omega)⟩
  · try simp (maxSteps := 2000000) (disch := omega) only [go_sem, seval]
    try repeat ((with_reducible refine And.intro ?_ ?_); focus (first | omega | assumption | exact True.intro | (show anyD _ _ = true; exact rfl) | (simp only [List.length_map, List.length_append, List.length_cons, List.length_nil, List.length_take, List.length_drop]; omega)))
  · rintro k ⟨hk1, h1, h2⟩
    obtain rfl | rfl | rfl : k = 0 ∨ k = 1 ∨ k = 2 := by omega
    · try simp (maxSteps := 2000000) (disch := omega) only [go_sem, seval]
      try repeat ((with_reducible refine And.intro ?_ ?_); focus (first | omega | assumption | exact True.intro | (show anyD _ _ = true; exact rfl) | (simp only [List.length_map, List.length_append, List.length_cons, List.length_nil, List.length_take, List.length_drop]; omega)))
      (first | refine callP.mk (echeck2_c e hb hl hC) rfl ?_ | refine callQ.mk (echeck2_c e hb hl hC) rfl ?_ | refine callO.rd (echeck2_c e hb hl hC) rfl ?_ | refine callO.mk (echeck2_c e hb hl hC) rfl ?_)
      by_cases hz : (chk e.holes).1 = 0
      · rw [errV_nil hz]
        try simp (maxSteps := 2000000) (disch := omega) only [go_sem, seval]
        try repeat ((with_reducible refine And.intro ?_ ?_); focus (first | omega | assumption | exact True.intro | (show anyD _ _ = true; exact rfl) | (simp only [List.length_map, List.length_append, List.length_cons, List.length_nil, List.length_take, List.length_drop]; omega)))
        exact ⟨1, ⟨by omega, fun _ => hz, fun h => absurd h (by omega)⟩, by omega, rfl⟩
      · have e1 : chkE e = chk e.holes := if_neg hz
        rw [e1, errV_ifc hz]
        try simp (maxSteps := 2000000) (disch := omega) only [go_sem, seval]
        try repeat ((with_reducible refine And.intro ?_ ?_); focus (first | omega | assumption | exact True.intro | (show anyD _ _ = true; exact rfl) | (simp only [List.length_map, List.length_append, List.length_cons, List.length_nil, List.length_take, List.length_drop]; omega)))
    · have hz := h1 (by omega)
      have e1 : chkE e = hk e.max e.holes 0 := if_pos hz
      try simp (maxSteps := 2000000) (disch := omega) only [go_sem, seval]
      try repeat ((with_reducible refine And.intro ?_ ?_); focus (first | omega | assumption | exact True.intro | (show anyD _ _ = true; exact rfl) | (simp only [List.length_map, List.length_append, List.length_cons, List.length_nil, List.length_take, List.length_drop]; omega)))
      (first | refine callP.mk (echeck1_c e hl) rfl ?_ | refine callQ.mk (echeck1_c e hl) rfl ?_ | refine callO.rd (echeck1_c e hl) rfl ?_ | refine callO.mk (echeck1_c e hl) rfl ?_)
      by_cases hy : (hk e.max e.holes 0).1 = 0
      · rw [errV_nil hy]
        try simp (maxSteps := 2000000) (disch := omega) only [go_sem, seval]
        try repeat ((with_reducible refine And.intro ?_ ?_); focus (first | omega | assumption | exact True.intro | (show anyD _ _ = true; exact rfl) | (simp only [List.length_map, List.length_append, List.length_cons, List.length_nil, List.length_take, List.length_drop]; omega)))
        exact ⟨2, ⟨by omega, fun _ => hz, fun _ => by rw [e1]; exact hy⟩, by omega, rfl⟩
      · rw [e1, errV_ifc hy]
        try simp (maxSteps := 2000000) (disch := omega) only [go_sem, seval]
        try repeat ((with_reducible refine And.intro ?_ ?_); focus (first | omega | assumption | exact True.intro | (show anyD _ _ = true; exact rfl) | (simp only [List.length_map, List.length_append, List.length_cons, List.length_nil, List.length_take, List.length_drop]; omega)))
    · have hz := h2 (by omega)
      rw [errV_nil hz]
      try simp (maxSteps := 2000000) (disch := omega) only [go_sem, seval]
      try repeat ((with_reducible refine And.intro ?_ ?_); focus (first | omega | assumption | exact True.intro | (show anyD _ _ = true; exact rfl) | (simp only [List.length_map, List.length_append, List.length_cons, List.length_nil, List.length_take, List.length_drop]; omega)))
theorem ecanonical_c (e : En) (hb : ∀ s ∈ e.holes, s.lo < M64 ∧ s.hi < M64) (h1 : e.max < M64) (h2 : e.rep < M64) (hl : e.holes.length ≤ 1152921504606846976) (hC : (chk e.holes).1 = 0 ∨ Cn Tryd.prog 39 [errno 2] (.v (.int .i64 2))) : Cn Tryd.prog 35 [ep e] (.v (.bool (rightEB e && !mem e.holes e.max))) := by
  have hr := rightEB_iff hb h1 h2
  refine cn_go Tryd.func35 [] 1 (by kernel_rfl) rfl (by simp [go_sem, seval]) ?_
  conv => arg 4; cbv
  conv => enter [5, 1]; cbv
  try simp (maxSteps := 2000000) (disch := omega) only [go_sem, seval]
  try repeat ((with_reducible refine And.intro ?_ ?_); focus (first | omega | assumption | exact True.intro | (show anyD _ _ = true; exact rfl) | (simp only [List.length_map, List.length_append, List.length_cons, List.length_nil, List.length_take, List.length_drop]; omega)))
  (first | refine callP.mk (echeck_c e hb hl hC) rfl ?_ | refine callQ.mk (echeck_c e hb hl hC) rfl ?_ | refine callO.rd (echeck_c e hb hl hC) rfl ?_ | refine callO.mk (echeck_c e hb hl hC) rfl ?_)
  by_cases hz : (chkE e).1 = 0
  · have hz' : rightEB e = true := by unfold rightEB; exact decide_eq_true hz
    rw [errV_nil hz]
    try simp (maxSteps := 2000000) (disch := omega) only [go_sem, seval]
    try repeat ((with_reducible refine And.intro ?_ ?_); focus (first | omega | assumption | exact True.intro | (show anyD _ _ = true; exact rfl) | (simp only [List.length_map, List.length_append, List.length_cons, List.length_nil, List.length_take, List.length_drop]; omega)))
    (first | refine callP.mk (ehas_c e e.max (hr.1 hz') hl) rfl ?_ | refine callQ.mk (ehas_c e e.max (hr.1 hz') hl) rfl ?_ | refine callO.rd (ehas_c e e.max (hr.1 hz') hl) rfl ?_ | refine callO.mk (ehas_c e e.max (hr.1 hz') hl) rfl ?_)
    try simp (maxSteps := 2000000) (disch := omega) only [go_sem, seval]
    try repeat ((with_reducible refine And.intro ?_ ?_); focus (first | omega | assumption | exact True.intro | (show anyD _ _ = true; exact rfl) | (simp only [List.length_map, List.length_append, List.length_cons, List.length_nil, List.length_take, List.length_drop]; omega)))
    simp [hz']
  · have hz' : rightEB e = false := by unfold rightEB; exact decide_eq_false hz
    rw [errV_ifc hz]
    try simp (maxSteps := 2000000) (disch := omega) only [go_sem, seval]
    try repeat ((with_reducible refine And.intro ?_ ?_); focus (first | omega | assumption | exact True.intro | (show anyD _ _ = true; exact rfl) | (simp only [List.length_map, List.length_append, List.length_cons, List.length_nil, List.length_take, List.length_drop]; omega)))
    simp [hz']
end Go.Proofs.YtcedofkenfddkaaDoor
