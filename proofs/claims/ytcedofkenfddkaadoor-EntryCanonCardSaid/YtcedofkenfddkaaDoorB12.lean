/- Texts of this claim, bound together: T12 T13 T14 T15 T16. -/
import Derived.Test.YtcedofkenfddkaaDoorB11
/- The contracts of entry.Check, Canonical and Same. -/
namespace Go.Proofs.YtcedofkenfddkaaDoor
set_option linter.unusedVariables false
set_option linter.unusedSimpArgs false
open Go.RowKit
set_option maxRecDepth 100000
theorem low1_cp (nb : Nat) (cs : List PV) (o : Nat) : low1 nb (.cp cs o) = true := rfl
attribute [go_sem] low1_cp
theorem echeck2_c (e : En) (hb : ∀ s ∈ e.holes, s.lo < M64 ∧ s.hi < M64) (hl : e.holes.length ≤ 1152921504606846976) (hC : (chk e.holes).1 = 0 ∨ Cn Tryd.prog 39 [errno 2] (.v (.int .i64 2))) : Cn Tryd.prog 86 [.cp (ec e) 0] (errV (chk e.holes).1 (chk e.holes).2) := by
  refine cn_go Tryd.func86 [] 1 (by kernel_rfl) rfl (by simp [go_sem, seval]) ?_
  conv => arg 4; cbv
  conv => enter [5, 1]; cbv
  try simp (maxSteps := 2000000) (disch := omega) only [go_sem, seval]
  try repeat ((with_reducible refine And.intro ?_ ?_); focus (first | omega | assumption | exact True.intro | (show anyD _ _ = true; exact rfl) | (simp only [List.length_map, List.length_append, List.length_cons, List.length_nil, List.length_take, List.length_drop]; omega)))
  (first | refine callP.mk (rcheck_c e.holes hb hl hC) rfl ?_ | refine callQ.mk (rcheck_c e.holes hb hl hC) rfl ?_ | refine callO.rd (rcheck_c e.holes hb hl hC) rfl ?_ | refine callO.mk (rcheck_c e.holes hb hl hC) rfl ?_)
  try simp (maxSteps := 2000000) (disch := omega) only [go_sem, seval]
  try repeat ((with_reducible refine And.intro ?_ ?_); focus (first | omega | assumption | exact True.intro | (show anyD _ _ = true; exact rfl) | (simp only [List.length_map, List.length_append, List.length_cons, List.length_nil, List.length_take, List.length_drop]; omega)))
  exact errV_sub _ _
theorem echeck1_c (e : En) (hl : e.holes.length ≤ 1152921504606846976) : Cn Tryd.prog 85 [.cp (ec e) 0] (errV (hk e.max e.holes 0).1 (hk e.max e.holes 0).2) := by
  refine cn_go Tryd.func85 [] 1 (by kernel_rfl) rfl (by simp [go_sem, seval]) ?_
  conv => arg 4; cbv
  conv => enter [5, 1]; cbv
  try simp (maxSteps := 2000000) (disch := omega) only [go_sem, seval]
  try repeat ((with_reducible refine And.intro ?_ ?_); focus (first | omega | assumption | exact True.intro | (show anyD _ _ = true; exact rfl) | (simp only [List.length_map, List.length_append, List.length_cons, List.length_nil, List.length_take, List.length_drop]; omega)))
  refine pLoop.go (fun k => k ≤ e.holes.length ∧ hk e.max e.holes 0 = hk e.max (e.holes.drop k) k) (fun k => [(7, .v (.int .i64 (k : Nat)))]) (fun _ => []) (fun k => e.holes.length - k) 0 [7] ?_ ?_ ?_
  · exact ⟨Nat.zero_le _, rfl⟩
  · try simp (maxSteps := 2000000) (disch := omega) only [go_sem, seval]
    try repeat ((with_reducible refine And.intro ?_ ?_); focus (first | omega | assumption | exact True.intro | (show anyD _ _ = true; exact rfl) | (simp only [List.length_map, List.length_append, List.length_cons, List.length_nil, List.length_take, List.length_drop]; omega)))
  · rintro k ⟨hk1, hm⟩
    try simp (maxSteps := 2000000) (disch := omega) only [go_sem, seval]
    try repeat ((with_reducible refine And.intro ?_ ?_); focus (first | omega | assumption | exact True.intro | (show anyD _ _ = true; exact rfl) | (simp only [List.length_map, List.length_append, List.length_cons, List.length_nil, List.length_take, List.length_drop]; omega)))
    (first | refine brP.mk (fun h1 => ?_) (fun h1 => ?_) | refine gdP.mkt (fun h1 => ?_) (fun h1 => ?_) | refine gdP.mkf (fun h1 => ?_) (fun h1 => ?_) | refine pkP.mk (fun h1 => ?_) (fun h1 => ?_)) <;> (try simp only [Bool.not_true, Bool.not_false, decide_eq_true_eq, decide_eq_false_iff_not, Bool.and_eq_true, Bool.or_eq_true, Bool.not_eq_true', Bool.not_eq_false', Bool.and_eq_false_iff, Bool.or_eq_false_iff, Nat.not_lt, Int.not_lt, Nat.not_le, Int.not_le, Int.ofNat_lt, Int.ofNat_le, Int.ofNat_inj, Bool.xor_false, Bool.false_xor, Bool.true_xor, Bool.xor_true] at h1) <;> (try simp (maxSteps := 2000000) (disch := omega) only [go_sem, seval]) <;> (try repeat ((with_reducible refine And.intro ?_ ?_); focus (first | omega | assumption | exact True.intro | (show anyD _ _ = true; exact rfl) | (simp only [List.length_map, List.length_append, List.length_cons, List.length_nil, List.length_take, List.length_drop]; omega))))
    · rw [hk_step h1] at hm
      (first | refine brP.mk (fun h2 => ?_) (fun h2 => ?_) | refine gdP.mkt (fun h2 => ?_) (fun h2 => ?_) | refine gdP.mkf (fun h2 => ?_) (fun h2 => ?_) | refine pkP.mk (fun h2 => ?_) (fun h2 => ?_)) <;> (try simp only [Bool.not_true, Bool.not_false, decide_eq_true_eq, decide_eq_false_iff_not, Bool.and_eq_true, Bool.or_eq_true, Bool.not_eq_true', Bool.not_eq_false', Bool.and_eq_false_iff, Bool.or_eq_false_iff, Nat.not_lt, Int.not_lt, Nat.not_le, Int.not_le, Int.ofNat_lt, Int.ofNat_le, Int.ofNat_inj, Bool.xor_false, Bool.false_xor, Bool.true_xor, Bool.xor_true] at h2) <;> (try simp (maxSteps := 2000000) (disch := omega) only [go_sem, seval]) <;> (try repeat ((with_reducible refine And.intro ?_ ?_); focus (first | omega | assumption | exact True.intro | (show anyD _ _ = true; exact rfl) | (simp only [List.length_map, List.length_append, List.length_cons, List.length_nil, List.length_take, List.length_drop]; omega))))
      · rw [hm, if_pos h2]
        (first | refine callP.mk (fnew_c 4 (k : Nat)) rfl ?_ | refine callQ.mk (fnew_c 4 (k : Nat)) rfl ?_ | refine callO.rd (fnew_c 4 (k : Nat)) rfl ?_ | refine callO.mk (fnew_c 4 (k : Nat)) rfl ?_)
        try simp (maxSteps := 2000000) (disch := omega) only [go_sem, seval]
        try repeat ((with_reducible refine And.intro ?_ ?_); focus (first | omega | assumption | exact True.intro | (show anyD _ _ = true; exact rfl) | (simp only [List.length_map, List.length_append, List.length_cons, List.length_nil, List.length_take, List.length_drop]; omega)))
        exact errV_sub _ _
      · rw [if_neg (by omega)] at hm
        exact ⟨k + 1, ⟨h1, hm⟩, by omega, rfl⟩
    · rw [List.drop_of_length_le h1] at hm
      rw [hm]
      exact .eq _ rfl
theorem errV_nil {x : Nat × Int} (h : x.1 = 0) : errV x.1 x.2 = .v .nilIface := if_pos h
theorem errV_ifc {x : Nat × Int} (h : x.1 ≠ 0) : errV x.1 x.2 = .ifc 89 (.agg [.v (.int .i64 x.1), .v (.int .i64 x.2)]) := if_neg h
set_option maxHeartbeats 1000000 in
theorem echeck_c (e : En) (hb : ∀ s ∈ e.holes, s.lo < M64 ∧ s.hi < M64) (hl : e.holes.length ≤ 1152921504606846976) (hC : (chk e.holes).1 = 0 ∨ Cn Tryd.prog 39 [errno 2] (.v (.int .i64 2))) : Cn Tryd.prog 37 [ep e] (errV (chkE e).1 (chkE e).2) := by
  refine cn_go Tryd.func37 [] 1 (by kernel_rfl) rfl (by simp [go_sem, seval]) ?_
  conv => arg 4; cbv
  conv => enter [5, 1]; cbv
  try simp (maxSteps := 2000000) (disch := omega) only [go_sem, seval]
  try repeat ((with_reducible refine And.intro ?_ ?_); focus (first | omega | assumption | exact True.intro | (show anyD _ _ = true; exact rfl) | (simp only [List.length_map, List.length_append, List.length_cons, List.length_nil, List.length_take, List.length_drop]; omega)))
  refine pLoop.go (fun k => k ≤ 2 ∧ (1 ≤ k → (chk e.holes).1 = 0) ∧ (2 ≤ k → (chkE e).1 = 0)) (fun k => [(12, .v (.int .i64 (k : Nat)))]) (fun _ => []) (fun k => 2 - k) 0 [12] ?_ ?_ ?_
  · exact ⟨by omega, fun h => absurd h (by omega), fun h => absurd h (by omega)⟩
  · try simp (maxSteps := 2000000) (disch := omega) only [go_sem, seval]
    try repeat ((with_reducible refine And.intro ?_ ?_); focus (first | omega | assumption | exact True.intro | (show anyD _ _ = true; exact rfl) | (simp only [List.length_map, List.length_append, List.length_cons, List.length_nil, List.length_take, List.length_drop]; omega)))
  · rintro k ⟨hk1, h1, h2⟩
    obtain rfl | rfl | rfl : k = 0 ∨ k = 1 ∨ k = 2 := by omega
    · try simp (maxSteps := 2000000) (disch := omega) only [go_sem, seval]
      try repeat ((with_reducible refine And.intro ?_ ?_); focus (first | omega | assumption | exact True.intro | (show anyD _ _ = true; exact rfl) | (simp only [List.length_map, List.length_append, List.length_cons, List.length_nil, List.length_take, List.length_drop]; omega)))
      (first | refine callP.mk (echeck2_c e hb hl hC) rfl ?_ | refine callQ.mk (echeck2_c e hb hl hC) rfl ?_ | refine callO.rd (echeck2_c e hb hl hC) rfl ?_ | refine callO.mk (echeck2_c e hb hl hC) rfl ?_)
      by_cases hz : (chk e.holes).1 = 0
      · rw [errV_nil hz]
        try simp (maxSteps := 2000000) (disch := omega) only [go_sem, seval]
        try repeat ((with_reducible refine And.intro ?_ ?_); focus (first | omega | assumption | exact True.intro | (show anyD _ _ = true; exact rfl) | (simp only [List.length_map, List.length_append, List.length_cons, List.length_nil, List.length_take, List.length_drop]; omega)))
        exact ⟨1, ⟨by omega, fun _ => hz, fun h => absurd h (by omega)⟩, by omega, rfl⟩
      · have e1 : chkE e = chk e.holes := if_neg hz
        rw [e1, errV_ifc hz]
        try simp (maxSteps := 2000000) (disch := omega) only [go_sem, seval]
        try repeat ((with_reducible refine And.intro ?_ ?_); focus (first | omega | assumption | exact True.intro | (show anyD _ _ = true; exact rfl) | (simp only [List.length_map, List.length_append, List.length_cons, List.length_nil, List.length_take, List.length_drop]; omega)))
    · have hz := h1 (by omega)
      have e1 : chkE e = hk e.max e.holes 0 := if_pos hz
      try simp (maxSteps := 2000000) (disch := omega) only [go_sem, seval]
      try repeat ((with_reducible refine And.intro ?_ ?_); focus (first | omega | assumption | exact True.intro | (show anyD _ _ = true; exact rfl) | (simp only [List.length_map, List.length_append, List.length_cons, List.length_nil, List.length_take, List.length_drop]; omega)))
      (first | refine callP.mk (echeck1_c e hl) rfl ?_ | refine callQ.mk (echeck1_c e hl) rfl ?_ | refine callO.rd (echeck1_c e hl) rfl ?_ | refine callO.mk (echeck1_c e hl) rfl ?_)
      by_cases hy : (hk e.max e.holes 0).1 = 0
      · rw [errV_nil hy]
        try simp (maxSteps := 2000000) (disch := omega) only [go_sem, seval]
        try repeat ((with_reducible refine And.intro ?_ ?_); focus (first | omega | assumption | exact True.intro | (show anyD _ _ = true; exact rfl) | (simp only [List.length_map, List.length_append, List.length_cons, List.length_nil, List.length_take, List.length_drop]; omega)))
        exact ⟨2, ⟨by omega, fun _ => hz, fun _ => by rw [e1]; exact hy⟩, by omega, rfl⟩
      · rw [e1, errV_ifc hy]
        try simp (maxSteps := 2000000) (disch := omega) only [go_sem, seval]
        try repeat ((with_reducible refine And.intro ?_ ?_); focus (first | omega | assumption | exact True.intro | (show anyD _ _ = true; exact rfl) | (simp only [List.length_map, List.length_append, List.length_cons, List.length_nil, List.length_take, List.length_drop]; omega)))
    · have hz := h2 (by omega)
      rw [errV_nil hz]
      try simp (maxSteps := 2000000) (disch := omega) only [go_sem, seval]
      try repeat ((with_reducible refine And.intro ?_ ?_); focus (first | omega | assumption | exact True.intro | (show anyD _ _ = true; exact rfl) | (simp only [List.length_map, List.length_append, List.length_cons, List.length_nil, List.length_take, List.length_drop]; omega)))
theorem ecanonical_c (e : En) (hb : ∀ s ∈ e.holes, s.lo < M64 ∧ s.hi < M64) (h1 : e.max < M64) (h2 : e.rep < M64) (hl : e.holes.length ≤ 1152921504606846976) (hC : (chk e.holes).1 = 0 ∨ Cn Tryd.prog 39 [errno 2] (.v (.int .i64 2))) : Cn Tryd.prog 35 [ep e] (.v (.bool (rightEB e && !mem e.holes e.max))) := by
  have hr := rightEB_iff hb h1 h2
  refine cn_go Tryd.func35 [] 1 (by kernel_rfl) rfl (by simp [go_sem, seval]) ?_
  conv => arg 4; cbv
  conv => enter [5, 1]; cbv
  try simp (maxSteps := 2000000) (disch := omega) only [go_sem, seval]
  try repeat ((with_reducible refine And.intro ?_ ?_); focus (first | omega | assumption | exact True.intro | (show anyD _ _ = true; exact rfl) | (simp only [List.length_map, List.length_append, List.length_cons, List.length_nil, List.length_take, List.length_drop]; omega)))
  (first | refine callP.mk (echeck_c e hb hl hC) rfl ?_ | refine callQ.mk (echeck_c e hb hl hC) rfl ?_ | refine callO.rd (echeck_c e hb hl hC) rfl ?_ | refine callO.mk (echeck_c e hb hl hC) rfl ?_)
  by_cases hz : (chkE e).1 = 0
  · have hz' : rightEB e = true := by unfold rightEB; exact decide_eq_true hz
    rw [errV_nil hz]
    try simp (maxSteps := 2000000) (disch := omega) only [go_sem, seval]
    try repeat ((with_reducible refine And.intro ?_ ?_); focus (first | omega | assumption | exact True.intro | (show anyD _ _ = true; exact rfl) | (simp only [List.length_map, List.length_append, List.length_cons, List.length_nil, List.length_take, List.length_drop]; omega)))
    (first | refine callP.mk (ehas_c e e.max (hr.1 hz') hl) rfl ?_ | refine callQ.mk (ehas_c e e.max (hr.1 hz') hl) rfl ?_ | refine callO.rd (ehas_c e e.max (hr.1 hz') hl) rfl ?_ | refine callO.mk (ehas_c e e.max (hr.1 hz') hl) rfl ?_)
    try simp (maxSteps := 2000000) (disch := omega) only [go_sem, seval]
    try repeat ((with_reducible refine And.intro ?_ ?_); focus (first | omega | assumption | exact True.intro | (show anyD _ _ = true; exact rfl) | (simp only [List.length_map, List.length_append, List.length_cons, List.length_nil, List.length_take, List.length_drop]; omega)))
    simp [hz']
  · have hz' : rightEB e = false := by unfold rightEB; exact decide_eq_false hz
    rw [errV_ifc hz]
    try simp (maxSteps := 2000000) (disch := omega) only [go_sem, seval]
    try repeat ((with_reducible refine And.intro ?_ ?_); focus (first | omega | assumption | exact True.intro | (show anyD _ _ = true; exact rfl) | (simp only [List.length_map, List.length_append, List.length_cons, List.length_nil, List.length_take, List.length_drop]; omega)))
    simp [hz']
end Go.Proofs.YtcedofkenfddkaaDoor
/- The law JoinDenotes returns true. -/
namespace Go.Proofs.YtcedofkenfddkaaDoor
set_option linter.unusedVariables false
set_option linter.unusedSimpArgs false
open Go.RowKit
set_option maxRecDepth 100000
theorem has7_c (e : En) (c : Nat) (hl : e.holes.length ≤ 1152921504606846976) : Cn Tryd.prog 28 [ep e, .v (.int .u64 c)] (.v (.bool (decide (c ≤ e.max) && !mem e.holes c))) := by
  refine cn_go Tryd.func28 [] 2 (by kernel_rfl) rfl (by simp [go_sem, seval]) ?_
  conv => arg 4; cbv
  conv => enter [5, 1]; cbv
  try simp (maxSteps := 2000000) (disch := omega) only [go_sem, seval]
  try repeat ((with_reducible refine And.intro ?_ ?_); focus (first | omega | assumption | exact True.intro | (show anyD _ _ = true; exact rfl) | (simp only [List.length_map, List.length_append, List.length_cons, List.length_nil, List.length_take, List.length_drop]; omega)))
  (first | refine brP.mk (fun h1 => ?_) (fun h1 => ?_) | refine gdP.mkt (fun h1 => ?_) (fun h1 => ?_) | refine gdP.mkf (fun h1 => ?_) (fun h1 => ?_) | refine pkP.mk (fun h1 => ?_) (fun h1 => ?_)) <;> (try simp only [Bool.not_true, Bool.not_false, decide_eq_true_eq, decide_eq_false_iff_not, Bool.and_eq_true, Bool.or_eq_true, Bool.not_eq_true', Bool.not_eq_false', Bool.and_eq_false_iff, Bool.or_eq_false_iff, Nat.not_lt, Int.not_lt, Nat.not_le, Int.not_le, Int.ofNat_lt, Int.ofNat_le, Int.ofNat_inj, Bool.xor_false, Bool.false_xor, Bool.true_xor, Bool.xor_true] at h1) <;> (try simp (maxSteps := 2000000) (disch := omega) only [go_sem, seval]) <;> (try repeat ((with_reducible refine And.intro ?_ ?_); focus (first | omega | assumption | exact True.intro | (show anyD _ _ = true; exact rfl) | (simp only [List.length_map, List.length_append, List.length_cons, List.length_nil, List.length_take, List.length_drop]; omega))))
  · (first | refine callP.mk (has4_c e.holes c hl) rfl ?_ | refine callQ.mk (has4_c e.holes c hl) rfl ?_ | refine callO.rd (has4_c e.holes c hl) rfl ?_ | refine callO.mk (has4_c e.holes c hl) rfl ?_)
    try simp (maxSteps := 2000000) (disch := omega) only [go_sem, seval]
    try repeat ((with_reducible refine And.intro ?_ ?_); focus (first | omega | assumption | exact True.intro | (show anyD _ _ = true; exact rfl) | (simp only [List.length_map, List.length_append, List.length_cons, List.length_nil, List.length_take, List.length_drop]; omega)))
    simp [h1]
  · have h1' : ¬ c ≤ e.max := by omega
    simp [h1']
theorem has7k_c (e : En) (c : Nat) (he : RightE e) (hc : c < M64) (hl : e.holes.length ≤ 1152921504606846976) : Cn Tryd.prog 28 [ep e, .v (.int .u64 c)] (.v (.bool (mem (kn e) c))) := by
  rw [kn_mem he hc]
  exact has7_c e c hl
theorem BdE_of {e : En} (h : RightE e) : BdE e := ⟨h.1.lt, h.2.2.1, h.2.2.2⟩
theorem canOk_c (e : En) (h : CanE e) (hl : e.holes.length ≤ 1152921504606846976) : Cn Tryd.prog 35 [ep e] (.v (.bool true)) := by
  have hb := BdE_of h.1
  have hr := (rightEB_iff hb.1 hb.2.1 hb.2.2).2 h.1
  have hz := (chk_nrm (l := e.holes) fun s hs => (hb.1 s hs).2).2 h.1.1
  have := ecanonical_c e hb.1 hb.2.1 hb.2.2 hl (.inl hz)
  rw [hr, can_max h] at this
  exact this
section
variable (a b : En) (c : Nat) (ha : BdE a) (hb : BdE b) (hc : c < M64)
include ha hb hc
set_option maxHeartbeats 8000000 in
theorem jdenotes_c : Cn Tryd.prog 14 [ep a, ep b, .v (.int .u64 c)] (.v (.bool true)) := by
  refine cn_go Tryd.func14 [] 3 (by kernel_rfl) rfl (by simp [go_sem, seval]) ?_
  conv => arg 4; cbv
  conv => enter [5, 1]; cbv
  try simp (maxSteps := 2000000) (disch := omega) only [go_sem, seval]
  try repeat ((with_reducible refine And.intro ?_ ?_); focus (first | omega | assumption | exact True.intro | (show anyD _ _ = true; exact rfl) | (simp only [List.length_map, List.length_append, List.length_cons, List.length_nil, List.length_take, List.length_drop]; omega)))
  (first | refine callP.mk (right8_c a [b] (bd8_2 a b ha hb) (by simp)) rfl ?_ | refine callQ.mk (right8_c a [b] (bd8_2 a b ha hb) (by simp)) rfl ?_ | refine callO.rd (right8_c a [b] (bd8_2 a b ha hb) (by simp)) rfl ?_ | refine callO.mk (right8_c a [b] (bd8_2 a b ha hb) (by simp)) rfl ?_)
  try simp (maxSteps := 2000000) (disch := omega) only [go_sem, seval]
  try repeat ((with_reducible refine And.intro ?_ ?_); focus (first | omega | assumption | exact True.intro | (show anyD _ _ = true; exact rfl) | (simp only [List.length_map, List.length_append, List.length_cons, List.length_nil, List.length_take, List.length_drop]; omega)))
  (first | refine brP.mk (fun h => ?_) (fun h => ?_) | refine gdP.mkt (fun h => ?_) (fun h => ?_) | refine gdP.mkf (fun h => ?_) (fun h => ?_) | refine pkP.mk (fun h => ?_) (fun h => ?_)) <;> (try simp only [Bool.not_true, Bool.not_false, decide_eq_true_eq, decide_eq_false_iff_not, Bool.and_eq_true, Bool.or_eq_true, Bool.not_eq_true', Bool.not_eq_false', Bool.and_eq_false_iff, Bool.or_eq_false_iff, Nat.not_lt, Int.not_lt, Nat.not_le, Int.not_le, Int.ofNat_lt, Int.ofNat_le, Int.ofNat_inj, Bool.xor_false, Bool.false_xor, Bool.true_xor, Bool.xor_true] at h) <;> (try simp (maxSteps := 2000000) (disch := omega) only [go_sem, seval]) <;> (try repeat ((with_reducible refine And.intro ?_ ?_); focus (first | omega | assumption | exact True.intro | (show anyD _ _ = true; exact rfl) | (simp only [List.length_map, List.length_append, List.length_cons, List.length_nil, List.length_take, List.length_drop]; omega))))
  · (first | refine callP.mk (alive8_c) rfl ?_ | refine callQ.mk (alive8_c) rfl ?_ | refine callO.rd (alive8_c) rfl ?_ | refine callO.mk (alive8_c) rfl ?_)
    try simp (maxSteps := 2000000) (disch := omega) only [go_sem, seval]
    try repeat ((with_reducible refine And.intro ?_ ?_); focus (first | omega | assumption | exact True.intro | (show anyD _ _ = true; exact rfl) | (simp only [List.length_map, List.length_append, List.length_cons, List.length_nil, List.length_take, List.length_drop]; omega)))
  · obtain ⟨ra, la, _⟩ := right8_get h (by simp) ha
    obtain ⟨rb, lb, _⟩ := right8_get h (by simp) hb
    have l1 := jn_len (f := fUnion) (a := a) (b := b)
    have l2 := jn_len (f := fMeet) (a := a) (b := b)
    have l3 := jn_len (f := fMinus) (a := a) (b := b)
    have na := kn_nrm ra
    have nb := kn_nrm rb
    have no : ∀ f, (jn f a b).2 = false → f (mem (kn a) c) (mem (kn b) c) = false := fun f h => by
      rw [jn_2] at h
      have h' : opS f (kn a) (kn b) = [] := by simpa using h
      rw [← opS_mem (f := f) na nb hc, h']; rfl
    have has : ∀ f, (jn f a b).2 = true → (jn f a b).1.holes.length ≤ 1152921504606846976 → Cn Tryd.prog 28 [ep (jn f a b).1, .v (.int .u64 c)] (.v (.bool (f (mem (kn a) c) (mem (kn b) c)))) := fun f h hl => by
      have := has7k_c (jn f a b).1 c (jn_right ra rb) hc hl
      rw [jn_kn ra rb h, opS_mem na nb hc] at this
      exact this
    have can : ∀ f, (jn f a b).2 = true → (jn f a b).1.holes.length ≤ 1152921504606846976 → Cn Tryd.prog 35 [ep (jn f a b).1] (.v (.bool true)) := fun f h hl => canOk_c _ (jn_can ra rb h) hl
    have u1 := fun h => has fUnion h (by omega)
    have u2 := fun h => has fMeet h (by omega)
    have u3 := fun h => has fMinus h (by omega)
    have c1 := fun h => can fUnion h (by omega)
    have c2 := fun h => can fMeet h (by omega)
    have c3 := fun h => can fMinus h (by omega)
    have n1 := no fUnion
    have n2 := no fMeet
    have n3 := no fMinus
    clear no has can
    have xa := has7k_c a c ra hc (by omega)
    have xb := has7k_c b c rb hc (by omega)
    (first | refine callP.mk (jUnion_c a b ra rb (by omega) (by omega)) rfl ?_ | refine callQ.mk (jUnion_c a b ra rb (by omega) (by omega)) rfl ?_ | refine callO.rd (jUnion_c a b ra rb (by omega) (by omega)) rfl ?_ | refine callO.mk (jUnion_c a b ra rb (by omega) (by omega)) rfl ?_)
    try simp (maxSteps := 2000000) (disch := omega) only [go_sem, seval]
    try repeat ((with_reducible refine And.intro ?_ ?_); focus (first | omega | assumption | exact True.intro | (show anyD _ _ = true; exact rfl) | (simp only [List.length_map, List.length_append, List.length_cons, List.length_nil, List.length_take, List.length_drop]; omega)))
    (first | refine callP.mk (jMeet_c a b ra rb (by omega) (by omega)) rfl ?_ | refine callQ.mk (jMeet_c a b ra rb (by omega) (by omega)) rfl ?_ | refine callO.rd (jMeet_c a b ra rb (by omega) (by omega)) rfl ?_ | refine callO.mk (jMeet_c a b ra rb (by omega) (by omega)) rfl ?_)
    try simp (maxSteps := 2000000) (disch := omega) only [go_sem, seval]
    try repeat ((with_reducible refine And.intro ?_ ?_); focus (first | omega | assumption | exact True.intro | (show anyD _ _ = true; exact rfl) | (simp only [List.length_map, List.length_append, List.length_cons, List.length_nil, List.length_take, List.length_drop]; omega)))
    (first | refine callP.mk (jMinus_c a b ra rb (by omega) (by omega)) rfl ?_ | refine callQ.mk (jMinus_c a b ra rb (by omega) (by omega)) rfl ?_ | refine callO.rd (jMinus_c a b ra rb (by omega) (by omega)) rfl ?_ | refine callO.mk (jMinus_c a b ra rb (by omega) (by omega)) rfl ?_)
    try simp (maxSteps := 2000000) (disch := omega) only [go_sem, seval]
    try repeat ((with_reducible refine And.intro ?_ ?_); focus (first | omega | assumption | exact True.intro | (show anyD _ _ = true; exact rfl) | (simp only [List.length_map, List.length_append, List.length_cons, List.length_nil, List.length_take, List.length_drop]; omega)))
    generalize mem (kn a) c = x at *
    generalize mem (kn b) c = y at *
    generalize jn fUnion a b = ju at *
    generalize jn fMeet a b = jm at *
    generalize jn fMinus a b = jd at *
    simp only [fUnion, fMeet, fMinus] at u1 u2 u3 n1 n2 n3
    cases hp : ju.2 <;> cases hq : jm.2 <;> cases hr : jd.2 <;> cases x <;> cases y <;> (try exact absurd (n1 hp) (by decide)) <;> (try exact absurd (n2 hq) (by decide)) <;> (try exact absurd (n3 hr) (by decide)) <;> (
      clear n1 n2 n3
      simp (maxSteps := 2000000) (disch := omega) only [go_sem, seval]
      try (refine callP.mk (c1 hp) rfl ?_; simp (maxSteps := 2000000) (disch := omega) only [go_sem, seval])
      try (refine callP.mk (c2 hq) rfl ?_; simp (maxSteps := 2000000) (disch := omega) only [go_sem, seval])
      try (refine callP.mk (c3 hr) rfl ?_; simp (maxSteps := 2000000) (disch := omega) only [go_sem, seval])
      refine callQ.mk xa rfl ?_
      simp (maxSteps := 2000000) (disch := omega) only [go_sem, seval]
      refine callQ.mk xb rfl ?_
      simp (maxSteps := 2000000) (disch := omega) only [go_sem, seval]
      refine callP.mk alive8_c rfl ?_
      simp (maxSteps := 2000000) (disch := omega) only [go_sem, seval]
      try (refine callP.mk (u1 hp) rfl ?_; simp (maxSteps := 2000000) (disch := omega) only [go_sem, seval])
      try (refine callP.mk (u2 hq) rfl ?_; simp (maxSteps := 2000000) (disch := omega) only [go_sem, seval])
      try (refine callP.mk (u3 hr) rfl ?_; simp (maxSteps := 2000000) (disch := omega) only [go_sem, seval]))
end
end Go.Proofs.YtcedofkenfddkaaDoor
/- The contracts of fault.Code, find and At: at no error, at an api.Errno, at an api.Fault. -/
namespace Go.Proofs.YtcedofkenfddkaaDoor
set_option linter.unusedVariables false
set_option linter.unusedSimpArgs false
open Go.RowKit
set_option maxRecDepth 100000
def HG (w : World) : Prop := w.cell? ⟨0, 0, none⟩ = some (.iface 144 (.agg #[.pointer (some ⟨1, 29, none⟩)]))
theorem HG.of {D : Nat → Nat → Prop} {w : World} (h : GL D w) : HG w := (h _ rfl).2
theorem HG.pos {w : World} (h : HG w) : 0 < w.heap.size := World.block_lt_of_cell? w ⟨0, 0, none⟩ h
theorem HG.alloc {w : World} (h : HG w) (o : Obj) : HG (w.alloc o) := by
  unfold HG
  rw [World.cell?_alloc_lt _ _ ⟨0, 0, none⟩ h.pos]; exact h
theorem cn_memG {f : FuncId} {ps : List PV} {r : PV} (hr : r.own = none) (hent : ∀ args w, (callFunc f args).run Tryd.prog w = .ok (.enter f args) w)
    (h : ∀ (D : Nat → Nat → Prop) (w : World) (vs : Array Value), HG w → (∀ b o, D b o → b < w.heap.size) → vs.size = ps.length → (∀ (i : Nat) p, ps[i]? = some p → Dat D w (vs.getD i undef) p) →
      Calls Tryd.prog f vs w fun e w' => ∃ v, e = .returned v ∧ Below w.heap.size w w' ∧ Dat (fun b o => D b o ∨ (w.heap.size ≤ b ∧ b < w'.heap.size)) w' v r) : Cn Tryd.prog f ps r := by
  refine ⟨hent, fun D w vs hg hD hsz hd => (h D w vs (.of hg) hD hsz hd).mono ?_⟩
  rintro e w' ⟨v, rfl, hb, hv⟩
  exact ⟨v, _, rfl, hb, fun b o h => .inl h, fun b o h => h.imp id And.left, fun b o h => h.elim (fun h => Nat.lt_of_lt_of_le (hD b o h) hb.size) And.right, hv, ownOk_none hr⟩
theorem arr1 {vs : Array Value} (h : vs.size = 1) : vs = #[vs.getD 0 undef] := by
  obtain ⟨l⟩ := vs
  match l, h with
  | [x], _ => rfl
theorem asCode_N (c : Int) (w : World) (hg : HG w) : Calls Tryd.prog 87 #[.iface 50 (.int .i64 c), .iface 87 (.pointer (some ⟨w.heap.size, 0, none⟩))] (w.alloc (.cells #[.int .i64 0] 50))
    fun ev w' => ev = .returned (.bool true) ∧ Below w.heap.size w w' ∧ w'.cell? ⟨w.heap.size, 0, none⟩ = some (.int .i64 c) := by
  refine (As.as_NN c ⟨w.heap.size, 0, none⟩ (.int .i64 0) _ (hg.alloc _) (by simp) (by simp)).mono ?_
  rintro ev w' ⟨rfl, rfl⟩
  refine ⟨rfl, ?_, ?_⟩
  · refine Below.setCell (((((((Below.refl _ w).alloc ?_ _).alloc ?_ _).alloc ?_ _).alloc ?_ _).alloc ?_ _)) ?_ _ <;> simp <;> omega
  · refine World.cell?_setCell_same _ _ _ (u := .int .i64 0) ?_
    rw [World.cell?_alloc_lt _ _ ⟨w.heap.size, 0, none⟩ (by simp; omega), World.cell?_alloc_lt _ _ ⟨w.heap.size, 0, none⟩ (by simp; omega), World.cell?_alloc_lt _ _ ⟨w.heap.size, 0, none⟩ (by simp; omega), World.cell?_alloc_lt _ _ ⟨w.heap.size, 0, none⟩ (by simp)]
    simp
theorem asCode_F (c k : Int) (w : World) (hg : HG w) : Calls Tryd.prog 87 #[.iface 89 (.agg #[.int .i64 c, .int .i64 k]), .iface 87 (.pointer (some ⟨w.heap.size, 0, none⟩))] (w.alloc (.cells #[.int .i64 0] 50))
    fun ev w' => ev = .returned (.bool true) ∧ Below w.heap.size w w' ∧ w'.cell? ⟨w.heap.size, 0, none⟩ = some (.int .i64 c) := by
  refine (As.as_FN c k ⟨w.heap.size, 0, none⟩ (.int .i64 0) _ (hg.alloc _) (by simp) (by simp)).mono ?_
  rintro ev w' ⟨rfl, rfl⟩
  refine ⟨rfl, ?_, ?_⟩
  · refine Below.setCell ((((((((Below.refl _ w).alloc ?_ _).alloc ?_ _).alloc ?_ _).alloc ?_ _).alloc ?_ _).alloc ?_ _)) ?_ _ <;> simp <;> omega
  · refine World.cell?_setCell_same _ _ _ (u := .int .i64 0) ?_
    rw [World.cell?_alloc_lt _ _ ⟨w.heap.size, 0, none⟩ (by simp; omega), World.cell?_alloc_lt _ _ ⟨w.heap.size, 0, none⟩ (by simp; omega), World.cell?_alloc_lt _ _ ⟨w.heap.size, 0, none⟩ (by simp; omega), World.cell?_alloc_lt _ _ ⟨w.heap.size, 0, none⟩ (by simp; omega), World.cell?_alloc_lt _ _ ⟨w.heap.size, 0, none⟩ (by simp)]
    simp
theorem code_nil (w : World) : Calls Tryd.prog 39 #[.nilIface] w fun e w' => e = .returned (.int .i64 0) ∧ Below w.heap.size w w' := by
  go_enter Tryd.func39, Tryd.ntmps39
  go_wp2
  go_ret
  exact ⟨rfl, (Below.refl _ w).alloc (Nat.le_refl _) _⟩
theorem code_N (c : Int) (w : World) (hg : HG w) : Calls Tryd.prog 39 #[.iface 50 (.int .i64 c)] w fun e w' => e = .returned (.int .i64 c) ∧ Below w.heap.size w w' := by
  go_enter Tryd.func39, Tryd.ntmps39
  go_wp2_with (go_at_call 87; refine (asCode_N c w hg).mono ?_; rintro e w1 ⟨rfl, hb, hc⟩)
  go_ret
  exact ⟨rfl, hb⟩
theorem code_F (c k : Int) (w : World) (hg : HG w) : Calls Tryd.prog 39 #[.iface 89 (.agg #[.int .i64 c, .int .i64 k])] w fun e w' => e = .returned (.int .i64 c) ∧ Below w.heap.size w w' := by
  go_enter Tryd.func39, Tryd.ntmps39
  go_wp2_with (go_at_call 87; refine (asCode_F c k w hg).mono ?_; rintro e w1 ⟨rfl, hb, hc⟩)
  go_ret
  exact ⟨rfl, hb⟩
end Go.Proofs.YtcedofkenfddkaaDoor
/- The contracts of fault.find, Code and At without memory. -/
namespace Go.Proofs.YtcedofkenfddkaaDoor
set_option linter.unusedVariables false
set_option linter.unusedSimpArgs false
open Go.RowKit
set_option maxRecDepth 100000
def z2 : Obj := .cells #[.int .i64 0, .int .i64 0] 89
theorem asFind_F (c k : Int) (w : World) (hg : HG w) : Calls Tryd.prog 87 #[.iface 89 (.agg #[.int .i64 c, .int .i64 k]), .iface 128 (.pointer (some ⟨w.heap.size + 1, 0, none⟩))] ((w.alloc z2).alloc z2)
    fun ev w' => ev = .returned (.bool true) ∧ Below (w.heap.size + 1) (w.alloc z2) w' ∧ w'.cell? ⟨w.heap.size + 1, 0, none⟩ = some (.int .i64 c) ∧ w'.cell? ⟨w.heap.size + 1, 1, none⟩ = some (.int .i64 k) := by
  have hs : ((w.alloc z2).alloc z2).heap.size = w.heap.size + 1 + 1 := by simp
  have c0 : ∀ o, o < 2 → ((w.alloc z2).alloc z2).cell? ⟨w.heap.size + 1, o, none⟩ = some (.int .i64 0) := fun o ho => by
    have : w.heap.size + 1 = (w.alloc z2).heap.size := by simp
    rw [this]
    unfold z2
    match o, ho with
    | 0, _ => simp
    | 1, _ => simp
  have f0 : ∀ o, o < 2 → ((w.alloc z2).alloc z2).frozen? ⟨w.heap.size + 1, o, none⟩ = false := fun o ho => by
    have : w.heap.size + 1 = (w.alloc z2).heap.size := by simp
    rw [this]
    unfold z2
    match o, ho with
    | 0, _ => simp
    | 1, _ => simp
  refine (As.as_FF c k (w.heap.size + 1) _ ((hg.alloc _).alloc _) (by rw [c0 0 (by omega)]; rfl) (by rw [c0 1 (by omega)]; rfl) (f0 0 (by omega)) (f0 1 (by omega))).mono ?_
  rintro ev w' ⟨rfl, rfl⟩
  have cin := World.cell?_setCells_in (w.heap.size + 1) [.int .i64 c, .int .i64 k] 0 (((((((w.alloc z2).alloc z2).alloc (.cells #[.pointer (some ⟨w.heap.size + 1, 0, none⟩)] 128)).alloc (.cells #[.pointer (some ⟨1, 128, none⟩), .pointer (some ⟨((w.alloc z2).alloc z2).heap.size, 0, none⟩), .int .u64 150] 119)).alloc (.cells #[.pointer (some ⟨1, 128, none⟩), .pointer (some ⟨((w.alloc z2).alloc z2).heap.size, 0, none⟩), .int .u64 150] 119)).alloc (.cells #[.int .i64 c, .int .i64 k] 89))) (fun j hj => by
    rw [World.cell?_alloc_lt _ _ ⟨w.heap.size + 1, 0 + j, none⟩ (by first | (simp; omega) | simp), World.cell?_alloc_lt _ _ ⟨w.heap.size + 1, 0 + j, none⟩ (by first | (simp; omega) | simp), World.cell?_alloc_lt _ _ ⟨w.heap.size + 1, 0 + j, none⟩ (by first | (simp; omega) | simp), World.cell?_alloc_lt _ _ ⟨w.heap.size + 1, 0 + j, none⟩ (by first | (simp; omega) | simp), Nat.zero_add, c0 j (by simpa using hj)]
    rfl)
  refine ⟨rfl, ?_, by simpa using cin 0 (by simp), by simpa using cin 1 (by simp)⟩
  unfold World.setCells World.setCells World.setCells
  refine Below.setCell (Below.setCell ((((((Below.refl _ (w.alloc z2)).alloc ?_ _).alloc ?_ _).alloc ?_ _).alloc ?_ _).alloc ?_ _) ?_ _) ?_ _ <;> simp <;> omega
theorem find_nil (w : World) : Calls Tryd.prog 88 #[.nilIface] w fun e w' => e = .returned (.tuple #[.agg #[.int .i64 0, .int .i64 0], .bool false]) ∧ Below w.heap.size w w' := by
  go_enter Tryd.func88, Tryd.ntmps88
  go_wp2_with (go_at_call 87; refine (As.as_nil _ _).mono ?_; rintro e w1 ⟨rfl, rfl⟩)
  refine bodyPost_ret (v := .tuple #[.agg #[.int .i64 0, .int .i64 0], .bool false]) (by simp [results, Tryd.results88, go_sem]) rfl ⟨rfl, ?_⟩
  exact ((Below.refl _ w).alloc (Nat.le_refl _) _).alloc (by simp) _
set_option maxHeartbeats 1000000 in
theorem find_F (c k : Int) (w : World) (hg : HG w) : Calls Tryd.prog 88 #[.iface 89 (.agg #[.int .i64 c, .int .i64 k])] w fun e w' => e = .returned (.tuple #[.agg #[.int .i64 c, .int .i64 k], .bool true]) ∧ Below w.heap.size w w' := by
  go_enter Tryd.func88, Tryd.ntmps88
  go_wp2_with (go_at_call 87; refine (asFind_F c k w hg).mono ?_; rintro e w1 ⟨rfl, hb, hc0, hc1⟩; have hz0 : w1.cell? ⟨w.heap.size, 0, none⟩ = some (.int .i64 0) := (hb.cell (p := ⟨w.heap.size, 0, none⟩) (by simp)).trans (by unfold z2; simp); have hz1 : w1.cell? ⟨w.heap.size, 1, none⟩ = some (.int .i64 0) := (hb.cell (p := ⟨w.heap.size, 1, none⟩) (by simp)).trans (by unfold z2; simp); have hf0 : w1.frozen? ⟨w.heap.size, 0, none⟩ = false := (hb.frozen (p := ⟨w.heap.size, 0, none⟩) (by simp)).trans (by unfold z2; simp); have hf1 : w1.frozen? ⟨w.heap.size, 1, none⟩ = false := (hb.frozen (p := ⟨w.heap.size, 1, none⟩) (by simp)).trans (by unfold z2; simp); have hbb : Below w.heap.size w w1 := ((Below.refl _ w).alloc (Nat.le_refl _) _).trans (hb.mono (by omega)))
  have e0 : (w1.setCell ⟨w.heap.size, 0, none⟩ (.int .i64 c)).cell? ⟨w.heap.size, 0, none⟩ = some (.int .i64 c) := World.cell?_setCell_same _ _ _ hz0
  have e1 : ((w1.setCell ⟨w.heap.size, 0, none⟩ (.int .i64 c)).setCell ⟨w.heap.size, 1, none⟩ (.int .i64 k)).cell? ⟨w.heap.size, 1, none⟩ = some (.int .i64 k) := World.cell?_setCell_same' _ _ _ (by rw [World.cell?_setCell_other _ _ _ _ (by simp), hz1]; rfl)
  refine bodyPost_ret (v := .tuple #[.agg #[.int .i64 c, .int .i64 k], .bool true]) (by simp [results, Tryd.results88, go_sem, e0, e1, Result.andThen]) rfl ⟨rfl, ?_⟩
  exact Below.setCell (Below.setCell hbb (by simp) _) (by simp) _
theorem dat_errno {D : Nat → Nat → Prop} {w : World} {v : Value} {c : Int} {t : TypeId} (h : Dat D w v (.ifc t (.v (.int .i64 c)))) : v = .iface t (.int .i64 c) := by
  cases h with
  | ifc t x p h => rw [h.v_inv]
theorem dat_fault {D : Nat → Nat → Prop} {w : World} {v : Value} {c k : Int} {t : TypeId} (h : Dat D w v (.ifc t (.agg [.v (.int .i64 c), .v (.int .i64 k)]))) : v = .iface t (.agg #[.int .i64 c, .int .i64 k]) := by
  cases h with
  | ifc t x p h =>
    generalize hc : [PV.v (.int .i64 c), PV.v (.int .i64 k)] = cs at h
    cases h with
    | agg us cs hs _ h =>
      subst hc
      obtain ⟨l⟩ := us
      match l, hs with
      | [x, y], _ =>
        have e0 := (h 0 _ rfl).v_inv
        have e1 := (h 1 _ rfl).v_inv
        simp at e0 e1
        rw [e0, e1]
/-- fault.Code at what ranges.Check and entry.Check make. -/
theorem codeN_c (c : Nat) : Cn Tryd.prog 39 [errno c] (.v (.int .i64 c)) := by
  refine cn_memG rfl (enters_of Tryd.func39 (by kernel_rfl) rfl) fun D w vs hg hD hsz hd => ?_
  rw [arr1 hsz, dat_errno (hd 0 _ rfl)]
  refine (code_N c w hg).mono ?_
  rintro e w' ⟨rfl, hb⟩
  exact ⟨_, rfl, hb, .v _⟩
theorem code_c (c : Nat) (k : Int) : Cn Tryd.prog 39 [errV c k] (.v (.int .i64 c)) := by
  refine cn_memG rfl (enters_of Tryd.func39 (by kernel_rfl) rfl) fun D w vs hg hD hsz hd => ?_
  have h0 := hd 0 _ rfl
  unfold errV at h0
  rw [arr1 hsz]
  by_cases hc : c = 0
  · rw [if_pos hc] at h0
    subst hc
    rw [h0.v_inv]
    refine (code_nil w).mono ?_
    rintro e w' ⟨rfl, hb⟩
    exact ⟨_, rfl, hb, .v _⟩
  · rw [if_neg hc] at h0
    rw [dat_fault h0]
    refine (code_F c k w hg).mono ?_
    rintro e w' ⟨rfl, hb⟩
    exact ⟨_, rfl, hb, .v _⟩
theorem find_c (c : Nat) (k : Int) : Cn Tryd.prog 88 [errV c k] (.tup [.agg [.v (.int .i64 c), .v (.int .i64 (if c = 0 then 0 else k))], .v (.bool (decide (c ≠ 0)))]) := by
  refine cn_memG rfl (enters_of Tryd.func88 (by kernel_rfl) rfl) fun D w vs hg hD hsz hd => ?_
  have h0 := hd 0 _ rfl
  unfold errV at h0
  rw [arr1 hsz]
  by_cases hc : c = 0
  · rw [if_pos hc] at h0
    subst hc
    rw [h0.v_inv]
    refine (find_nil w).mono ?_
    rintro e w' ⟨rfl, hb⟩
    refine ⟨_, rfl, hb, .tup _ _ rfl fun i p hp => ?_⟩
    match i, hp with
    | 0, hp => cases hp; exact agg2_dat _ _ (by simp [Value.oneCell']) (by simp [Value.oneCell'])
    | 1, hp => cases hp; exact .v _
  · rw [if_neg hc] at h0
    rw [dat_fault h0, if_neg hc, decide_eq_true hc]
    refine (find_F c k w hg).mono ?_
    rintro e w' ⟨rfl, hb⟩
    refine ⟨_, rfl, hb, .tup _ _ rfl fun i p hp => ?_⟩
    match i, hp with
    | 0, hp => cases hp; exact agg2_dat _ _ (by simp [Value.oneCell']) (by simp [Value.oneCell'])
    | 1, hp => cases hp; exact .v _
theorem at_c (c : Nat) (k : Int) : Cn Tryd.prog 40 [errV c k] (.v (.int .i64 (if c = 0 then -1 else k))) := by
  refine cn_go Tryd.func40 [] 1 (by kernel_rfl) rfl (by intro p hp; simp at hp; subst hp; unfold errV; split <;> rfl) ?_
  conv => arg 4; cbv
  conv => enter [5, 1]; cbv
  by_cases hc : c = 0
  · have e : errV c k = .v .nilIface := if_pos hc
    have hf := find_c c k
    rw [e] at hf ⊢
    try simp (maxSteps := 2000000) (disch := omega) only [go_sem, seval]
    try repeat ((with_reducible refine And.intro ?_ ?_); focus (first | omega | assumption | exact True.intro | (show anyD _ _ = true; exact rfl) | (simp only [List.length_map, List.length_append, List.length_cons, List.length_nil, List.length_take, List.length_drop]; omega)))
    (first | refine callP.mk (hf) rfl ?_ | refine callQ.mk (hf) rfl ?_ | refine callO.rd (hf) rfl ?_ | refine callO.mk (hf) rfl ?_)
    try simp (maxSteps := 2000000) (disch := omega) only [go_sem, seval]
    try repeat ((with_reducible refine And.intro ?_ ?_); focus (first | omega | assumption | exact True.intro | (show anyD _ _ = true; exact rfl) | (simp only [List.length_map, List.length_append, List.length_cons, List.length_nil, List.length_take, List.length_drop]; omega)))
    simp [hc]
    try simp (maxSteps := 2000000) (disch := omega) only [go_sem, seval]
    try repeat ((with_reducible refine And.intro ?_ ?_); focus (first | omega | assumption | exact True.intro | (show anyD _ _ = true; exact rfl) | (simp only [List.length_map, List.length_append, List.length_cons, List.length_nil, List.length_take, List.length_drop]; omega)))
  · have e : errV c k = .ifc 89 (.agg [.v (.int .i64 c), .v (.int .i64 k)]) := if_neg hc
    have hf := find_c c k
    rw [e] at hf ⊢
    try simp (maxSteps := 2000000) (disch := omega) only [go_sem, seval]
    try repeat ((with_reducible refine And.intro ?_ ?_); focus (first | omega | assumption | exact True.intro | (show anyD _ _ = true; exact rfl) | (simp only [List.length_map, List.length_append, List.length_cons, List.length_nil, List.length_take, List.length_drop]; omega)))
    (first | refine callP.mk (hf) rfl ?_ | refine callQ.mk (hf) rfl ?_ | refine callO.rd (hf) rfl ?_ | refine callO.mk (hf) rfl ?_)
    try simp (maxSteps := 2000000) (disch := omega) only [go_sem, seval]
    try repeat ((with_reducible refine And.intro ?_ ?_); focus (first | omega | assumption | exact True.intro | (show anyD _ _ = true; exact rfl) | (simp only [List.length_map, List.length_append, List.length_cons, List.length_nil, List.length_take, List.length_drop]; omega)))
    simp [hc]
    try simp (maxSteps := 2000000) (disch := omega) only [go_sem, seval]
    try repeat ((with_reducible refine And.intro ?_ ?_); focus (first | omega | assumption | exact True.intro | (show anyD _ _ = true; exact rfl) | (simp only [List.length_map, List.length_append, List.length_cons, List.length_nil, List.length_take, List.length_drop]; omega)))
end Go.Proofs.YtcedofkenfddkaaDoor
/- The contracts of ranges.Same, entry.Same, kenningref07.Canonical, Canon; the example of chapter 7. -/
namespace Go.Proofs.YtcedofkenfddkaaDoor
set_option linter.unusedVariables false
set_option linter.unusedSimpArgs false
open Go.RowKit
set_option maxRecDepth 100000
theorem seqR_c (a b : List Iv) (hl : a.length ≤ 1152921504606846976) : Cn Tryd.prog 114 [rg a, rg b] (.v (.bool (decide (a = b)))) := by
  refine cn_go Tryd.func114 [] 2 (by kernel_rfl) rfl (by simp [go_sem, seval]) ?_
  conv => arg 4; cbv
  conv => enter [5, 1]; cbv
  try simp (maxSteps := 2000000) (disch := omega) only [go_sem, seval]
  try repeat ((with_reducible refine And.intro ?_ ?_); focus (first | omega | assumption | exact True.intro | (show anyD _ _ = true; exact rfl) | (simp only [List.length_map, List.length_append, List.length_cons, List.length_nil, List.length_take, List.length_drop]; omega)))
  (first | refine brP.mk (fun h0 => ?_) (fun h0 => ?_) | refine gdP.mkt (fun h0 => ?_) (fun h0 => ?_) | refine gdP.mkf (fun h0 => ?_) (fun h0 => ?_) | refine pkP.mk (fun h0 => ?_) (fun h0 => ?_)) <;> (try simp only [Bool.not_true, Bool.not_false, decide_eq_true_eq, decide_eq_false_iff_not, Bool.and_eq_true, Bool.or_eq_true, Bool.not_eq_true', Bool.not_eq_false', Bool.and_eq_false_iff, Bool.or_eq_false_iff, Nat.not_lt, Int.not_lt, Nat.not_le, Int.not_le, Int.ofNat_lt, Int.ofNat_le, Int.ofNat_inj, Bool.xor_false, Bool.false_xor, Bool.true_xor, Bool.xor_true] at h0) <;> (try simp (maxSteps := 2000000) (disch := omega) only [go_sem, seval]) <;> (try repeat ((with_reducible refine And.intro ?_ ?_); focus (first | omega | assumption | exact True.intro | (show anyD _ _ = true; exact rfl) | (simp only [List.length_map, List.length_append, List.length_cons, List.length_nil, List.length_take, List.length_drop]; omega))))
  · symm
    rw [decide_eq_false_iff_not]
    rintro rfl
    exact h0 rfl
  · have h0' : a.length = b.length := by simpa using h0
    clear h0
    refine pLoop.go (fun k => k ≤ a.length ∧ (a = b ↔ a.drop k = b.drop k)) (fun k => [(13, .v (.int .i64 (k : Nat)))]) (fun _ => []) (fun k => a.length - k) 0 [13] ?_ ?_ ?_
    · exact ⟨Nat.zero_le _, Iff.rfl⟩
    · try simp (maxSteps := 2000000) (disch := omega) only [go_sem, seval]
      try repeat ((with_reducible refine And.intro ?_ ?_); focus (first | omega | assumption | exact True.intro | (show anyD _ _ = true; exact rfl) | (simp only [List.length_map, List.length_append, List.length_cons, List.length_nil, List.length_take, List.length_drop]; omega)))
    · rintro k ⟨hk, hm⟩
      try simp (maxSteps := 2000000) (disch := omega) only [go_sem, seval]
      try repeat ((with_reducible refine And.intro ?_ ?_); focus (first | omega | assumption | exact True.intro | (show anyD _ _ = true; exact rfl) | (simp only [List.length_map, List.length_append, List.length_cons, List.length_nil, List.length_take, List.length_drop]; omega)))
      (first | refine brP.mk (fun h => ?_) (fun h => ?_) | refine gdP.mkt (fun h => ?_) (fun h => ?_) | refine gdP.mkf (fun h => ?_) (fun h => ?_) | refine pkP.mk (fun h => ?_) (fun h => ?_)) <;> (try simp only [Bool.not_true, Bool.not_false, decide_eq_true_eq, decide_eq_false_iff_not, Bool.and_eq_true, Bool.or_eq_true, Bool.not_eq_true', Bool.not_eq_false', Bool.and_eq_false_iff, Bool.or_eq_false_iff, Nat.not_lt, Int.not_lt, Nat.not_le, Int.not_le, Int.ofNat_lt, Int.ofNat_le, Int.ofNat_inj, Bool.xor_false, Bool.false_xor, Bool.true_xor, Bool.xor_true] at h) <;> (try simp (maxSteps := 2000000) (disch := omega) only [go_sem, seval]) <;> (try repeat ((with_reducible refine And.intro ?_ ?_); focus (first | omega | assumption | exact True.intro | (show anyD _ _ = true; exact rfl) | (simp only [List.length_map, List.length_append, List.length_cons, List.length_nil, List.length_take, List.length_drop]; omega))))
      · have hk' : k < b.length := by omega
        rw [List.drop_eq_getElem_cons h, List.drop_eq_getElem_cons hk', List.cons.injEq] at hm
        try simp (maxSteps := 2000000) (disch := omega) only [go_sem, seval]
        try repeat ((with_reducible refine And.intro ?_ ?_); focus (first | omega | assumption | exact True.intro | (show anyD _ _ = true; exact rfl) | (simp only [List.length_map, List.length_append, List.length_cons, List.length_nil, List.length_take, List.length_drop]; omega)))
        (first | refine brP.mk (fun e => ?_) (fun e => ?_) | refine gdP.mkt (fun e => ?_) (fun e => ?_) | refine gdP.mkf (fun e => ?_) (fun e => ?_) | refine pkP.mk (fun e => ?_) (fun e => ?_)) <;> (try simp only [Bool.not_true, Bool.not_false, decide_eq_true_eq, decide_eq_false_iff_not, Bool.and_eq_true, Bool.or_eq_true, Bool.not_eq_true', Bool.not_eq_false', Bool.and_eq_false_iff, Bool.or_eq_false_iff, Nat.not_lt, Int.not_lt, Nat.not_le, Int.not_le, Int.ofNat_lt, Int.ofNat_le, Int.ofNat_inj, Bool.xor_false, Bool.false_xor, Bool.true_xor, Bool.xor_true] at e) <;> (try simp (maxSteps := 2000000) (disch := omega) only [go_sem, seval]) <;> (try repeat ((with_reducible refine And.intro ?_ ?_); focus (first | omega | assumption | exact True.intro | (show anyD _ _ = true; exact rfl) | (simp only [List.length_map, List.length_append, List.length_cons, List.length_nil, List.length_take, List.length_drop]; omega))))
        · symm
          rw [decide_eq_false_iff_not]
          intro he
          have := (hm.1 he).1
          rcases (by simpa using e : ¬ a[k].lo = b[k].lo ∨ ¬ a[k].hi = b[k].hi) with e | e
          · exact e (congrArg Iv.lo this)
          · exact e (congrArg Iv.hi this)
        · refine ⟨k + 1, ⟨h, ?_⟩, by omega, rfl⟩
          rw [hm]
          have e : a[k].lo = b[k].lo ∧ a[k].hi = b[k].hi := by simpa using e
          exact ⟨fun h => h.2, fun h => ⟨Iv.ext' e.1 e.2, h⟩⟩
      · rw [eq_comm, decide_eq_true_eq, hm, List.drop_of_length_le h, List.drop_of_length_le (by omega)]
theorem rsame_c (a b : List Iv) (hl : a.length ≤ 1152921504606846976) : Cn Tryd.prog 89 [rg a, rg b] (.v (.bool (decide (a = b)))) := by
  refine cn_go Tryd.func89 [] 2 (by kernel_rfl) rfl (by simp [go_sem, seval]) ?_
  conv => arg 4; cbv
  conv => enter [5, 1]; cbv
  try simp (maxSteps := 2000000) (disch := omega) only [go_sem, seval]
  try repeat ((with_reducible refine And.intro ?_ ?_); focus (first | omega | assumption | exact True.intro | (show anyD _ _ = true; exact rfl) | (simp only [List.length_map, List.length_append, List.length_cons, List.length_nil, List.length_take, List.length_drop]; omega)))
  (first | refine callP.mk (seqR_c a b hl) rfl ?_ | refine callQ.mk (seqR_c a b hl) rfl ?_ | refine callO.rd (seqR_c a b hl) rfl ?_ | refine callO.mk (seqR_c a b hl) rfl ?_)
  try simp (maxSteps := 2000000) (disch := omega) only [go_sem, seval]
  try repeat ((with_reducible refine And.intro ?_ ?_); focus (first | omega | assumption | exact True.intro | (show anyD _ _ = true; exact rfl) | (simp only [List.length_map, List.length_append, List.length_cons, List.length_nil, List.length_take, List.length_drop]; omega)))
theorem esame_c (a b : En) (hl : a.holes.length ≤ 1152921504606846976) : Cn Tryd.prog 42 [ep a, ep b] (.v (.bool (decide (a = b)))) := by
  refine cn_go Tryd.func42 [] 2 (by kernel_rfl) rfl (by simp [go_sem, seval]) ?_
  conv => arg 4; cbv
  conv => enter [5, 1]; cbv
  try simp (maxSteps := 2000000) (disch := omega) only [go_sem, seval]
  try repeat ((with_reducible refine And.intro ?_ ?_); focus (first | omega | assumption | exact True.intro | (show anyD _ _ = true; exact rfl) | (simp only [List.length_map, List.length_append, List.length_cons, List.length_nil, List.length_take, List.length_drop]; omega)))
  have key : (a = b) ↔ (a.rep = b.rep ∧ a.max = b.max ∧ a.holes = b.holes) := ⟨fun h => by subst h; exact ⟨rfl, rfl, rfl⟩, fun h => En.ext' h.1 h.2.1 h.2.2⟩
  (first | refine brP.mk (fun h1 => ?_) (fun h1 => ?_) | refine gdP.mkt (fun h1 => ?_) (fun h1 => ?_) | refine gdP.mkf (fun h1 => ?_) (fun h1 => ?_) | refine pkP.mk (fun h1 => ?_) (fun h1 => ?_)) <;> (try simp only [Bool.not_true, Bool.not_false, decide_eq_true_eq, decide_eq_false_iff_not, Bool.and_eq_true, Bool.or_eq_true, Bool.not_eq_true', Bool.not_eq_false', Bool.and_eq_false_iff, Bool.or_eq_false_iff, Nat.not_lt, Int.not_lt, Nat.not_le, Int.not_le, Int.ofNat_lt, Int.ofNat_le, Int.ofNat_inj, Bool.xor_false, Bool.false_xor, Bool.true_xor, Bool.xor_true] at h1) <;> (try simp (maxSteps := 2000000) (disch := omega) only [go_sem, seval]) <;> (try repeat ((with_reducible refine And.intro ?_ ?_); focus (first | omega | assumption | exact True.intro | (show anyD _ _ = true; exact rfl) | (simp only [List.length_map, List.length_append, List.length_cons, List.length_nil, List.length_take, List.length_drop]; omega))))
  · (first | refine brP.mk (fun h2 => ?_) (fun h2 => ?_) | refine gdP.mkt (fun h2 => ?_) (fun h2 => ?_) | refine gdP.mkf (fun h2 => ?_) (fun h2 => ?_) | refine pkP.mk (fun h2 => ?_) (fun h2 => ?_)) <;> (try simp only [Bool.not_true, Bool.not_false, decide_eq_true_eq, decide_eq_false_iff_not, Bool.and_eq_true, Bool.or_eq_true, Bool.not_eq_true', Bool.not_eq_false', Bool.and_eq_false_iff, Bool.or_eq_false_iff, Nat.not_lt, Int.not_lt, Nat.not_le, Int.not_le, Int.ofNat_lt, Int.ofNat_le, Int.ofNat_inj, Bool.xor_false, Bool.false_xor, Bool.true_xor, Bool.xor_true] at h2) <;> (try simp (maxSteps := 2000000) (disch := omega) only [go_sem, seval]) <;> (try repeat ((with_reducible refine And.intro ?_ ?_); focus (first | omega | assumption | exact True.intro | (show anyD _ _ = true; exact rfl) | (simp only [List.length_map, List.length_append, List.length_cons, List.length_nil, List.length_take, List.length_drop]; omega))))
    · (first | refine callP.mk (rsame_c a.holes b.holes hl) rfl ?_ | refine callQ.mk (rsame_c a.holes b.holes hl) rfl ?_ | refine callO.rd (rsame_c a.holes b.holes hl) rfl ?_ | refine callO.mk (rsame_c a.holes b.holes hl) rfl ?_)
      try simp (maxSteps := 2000000) (disch := omega) only [go_sem, seval]
      try repeat ((with_reducible refine And.intro ?_ ?_); focus (first | omega | assumption | exact True.intro | (show anyD _ _ = true; exact rfl) | (simp only [List.length_map, List.length_append, List.length_cons, List.length_nil, List.length_take, List.length_drop]; omega)))
      simp [key, h1, h2]
    · simp [key, h2]
  · simp [key, h1]
theorem canonical7_c (e : En) (hl : e.holes.length ≤ 1152921504606846976) (hb : ∀ s ∈ e.holes, s.lo < M64 ∧ s.hi < M64) : Cn Tryd.prog 41 [ep e] (.v (.bool (rightEB e && !mem e.holes e.max))) := by
  refine cn_go Tryd.func41 [] 1 (by kernel_rfl) rfl (by simp [go_sem, seval]) ?_
  conv => arg 4; cbv
  conv => enter [5, 1]; cbv
  try simp (maxSteps := 2000000) (disch := omega) only [go_sem, seval]
  try repeat ((with_reducible refine And.intro ?_ ?_); focus (first | omega | assumption | exact True.intro | (show anyD _ _ = true; exact rfl) | (simp only [List.length_map, List.length_append, List.length_cons, List.length_nil, List.length_take, List.length_drop]; omega)))
  (first | refine callP.mk (right7_c e hl hb) rfl ?_ | refine callQ.mk (right7_c e hl hb) rfl ?_ | refine callO.rd (right7_c e hl hb) rfl ?_ | refine callO.mk (right7_c e hl hb) rfl ?_)
  try simp (maxSteps := 2000000) (disch := omega) only [go_sem, seval]
  try repeat ((with_reducible refine And.intro ?_ ?_); focus (first | omega | assumption | exact True.intro | (show anyD _ _ = true; exact rfl) | (simp only [List.length_map, List.length_append, List.length_cons, List.length_nil, List.length_take, List.length_drop]; omega)))
  (first | refine brP.mk (fun h => ?_) (fun h => ?_) | refine gdP.mkt (fun h => ?_) (fun h => ?_) | refine gdP.mkf (fun h => ?_) (fun h => ?_) | refine pkP.mk (fun h => ?_) (fun h => ?_)) <;> (try simp only [Bool.not_true, Bool.not_false, decide_eq_true_eq, decide_eq_false_iff_not, Bool.and_eq_true, Bool.or_eq_true, Bool.not_eq_true', Bool.not_eq_false', Bool.and_eq_false_iff, Bool.or_eq_false_iff, Nat.not_lt, Int.not_lt, Nat.not_le, Int.not_le, Int.ofNat_lt, Int.ofNat_le, Int.ofNat_inj, Bool.xor_false, Bool.false_xor, Bool.true_xor, Bool.xor_true] at h) <;> (try simp (maxSteps := 2000000) (disch := omega) only [go_sem, seval]) <;> (try repeat ((with_reducible refine And.intro ?_ ?_); focus (first | omega | assumption | exact True.intro | (show anyD _ _ = true; exact rfl) | (simp only [List.length_map, List.length_append, List.length_cons, List.length_nil, List.length_take, List.length_drop]; omega))))
  · (first | refine callP.mk (has4_c e.holes e.max hl) rfl ?_ | refine callQ.mk (has4_c e.holes e.max hl) rfl ?_ | refine callO.rd (has4_c e.holes e.max hl) rfl ?_ | refine callO.mk (has4_c e.holes e.max hl) rfl ?_)
    try simp (maxSteps := 2000000) (disch := omega) only [go_sem, seval]
    try repeat ((with_reducible refine And.intro ?_ ?_); focus (first | omega | assumption | exact True.intro | (show anyD _ _ = true; exact rfl) | (simp only [List.length_map, List.length_append, List.length_cons, List.length_nil, List.length_take, List.length_drop]; omega)))
    simp [h]
  · simp [h]
theorem canon7_c (e : En) (h : RightE e) (hl : e.holes.length ≤ 10000) : Cn Tryd.prog 43 [ep e] (.tup [ep (canE e).1, .v (.bool (canE e).2)]) := by
  have h1 := kn_length e
  refine cn_go Tryd.func43 [] 1 (by kernel_rfl) rfl (by simp [go_sem, seval]) ?_
  conv => arg 4; cbv
  conv => enter [5, 1]; cbv
  try simp (maxSteps := 2000000) (disch := omega) only [go_sem, seval]
  try repeat ((with_reducible refine And.intro ?_ ?_); focus (first | omega | assumption | exact True.intro | (show anyD _ _ = true; exact rfl) | (simp only [List.length_map, List.length_append, List.length_cons, List.length_nil, List.length_take, List.length_drop]; omega)))
  (first | refine callP.mk (known7_c e h (by omega)) rfl ?_ | refine callQ.mk (known7_c e h (by omega)) rfl ?_ | refine callO.rd (known7_c e h (by omega)) rfl ?_ | refine callO.mk (known7_c e h (by omega)) rfl ?_)
  try simp (maxSteps := 2000000) (disch := omega) only [go_sem, seval]
  try repeat ((with_reducible refine And.intro ?_ ?_); focus (first | omega | assumption | exact True.intro | (show anyD _ _ = true; exact rfl) | (simp only [List.length_map, List.length_append, List.length_cons, List.length_nil, List.length_take, List.length_drop]; omega)))
  (first | refine callP.mk (of7_c e.rep (kn e) (kn_nrm h) (by omega)) rfl ?_ | refine callQ.mk (of7_c e.rep (kn e) (kn_nrm h) (by omega)) rfl ?_ | refine callO.rd (of7_c e.rep (kn e) (kn_nrm h) (by omega)) rfl ?_ | refine callO.mk (of7_c e.rep (kn e) (kn_nrm h) (by omega)) rfl ?_)
  try simp (maxSteps := 2000000) (disch := omega) only [go_sem, seval]
  try repeat ((with_reducible refine And.intro ?_ ?_); focus (first | omega | assumption | exact True.intro | (show anyD _ _ = true; exact rfl) | (simp only [List.length_map, List.length_append, List.length_cons, List.length_nil, List.length_take, List.length_drop]; omega)))
  rfl
theorem hk_at (m : Nat) : ∀ (l : List Iv) (i : Nat), (hk m l i).1 = 0 → (hk m l i).2 = -1
  | [], i, _ => rfl
  | s :: r, i, h => by
    unfold hk at h ⊢
    split at h
    · cases h
    · rename_i hn; rw [if_neg hn]; exact hk_at m r (i + 1) h
theorem chkE_at {e : En} : (if (chkE e).1 = 0 then -1 else (chkE e).2) = (chkE e).2 := by
  by_cases h : (chkE e).1 = 0
  · rw [if_pos h]
    unfold chkE at h ⊢
    split at h
    · rename_i h'; rw [if_pos h']; exact (hk_at _ _ _ h).symm
    · exact absurd h (by assumption)
  · rw [if_neg h]
theorem kn_is {e : En} {l : List Iv} (he : RightE e) (hl : Nrm l) (h : ∀ x, x < M64 → mem l x = (decide (x ≤ e.max) && !mem e.holes x)) : kn e = l :=
  Nrm.unique (kn_nrm he) hl fun x hx => by rw [kn_mem he hx, h x hx]
def f7a : En := ⟨7, 8, [⟨4, 5⟩]⟩
def f7b : En := ⟨0, 5, [⟨4, 5⟩]⟩
def f7c : En := ⟨0, 3, []⟩
def f7d : En := ⟨0, 0, [⟨0, 1⟩]⟩
theorem f7a_r : CanE f7a := ⟨⟨nrm_one (by decide) (by decide), by simp [f7a], by decide, by decide⟩, by simp [f7a]⟩
theorem f7b_r : RightE f7b := ⟨nrm_one (by decide) (by decide), by simp [f7b], by decide, by decide⟩
theorem f7c_r : CanE f7c := ⟨⟨trivial, (fun _ h => by cases h), by decide, by decide⟩, (fun _ h => by cases h)⟩
theorem n7 : Nrm [⟨0, 3⟩, ⟨6, 8⟩] := by simp [Nrm, NF, M64_val]
theorem a7_1 : ofS 7 [⟨0, 3⟩, ⟨6, 8⟩] = (f7a, true) := by
  have : kn f7a = [⟨0, 3⟩, ⟨6, 8⟩] := kn_is f7a_r.1 n7 fun x _ => by
    rw [Bool.eq_iff_iff]; simp only [Bool.and_eq_true, Bool.or_eq_true, decide_eq_true_eq]; simp [f7a, mem]; omega
  rw [← this]
  exact can_ofS f7a_r
theorem a7_2 : canE f7b = (f7c, true) := by
  have h1 : kn f7b = [⟨0, 3⟩] := kn_is f7b_r (nrm_one (by decide) (by decide)) fun x _ => by
    rw [Bool.eq_iff_iff]; simp only [Bool.and_eq_true, Bool.or_eq_true, decide_eq_true_eq]; simp [f7b, mem]; omega
  have h2 : kn f7c = [⟨0, 3⟩] := kn_is f7c_r.1 (nrm_one (by decide) (by decide)) fun x _ => by
    rw [Bool.eq_iff_iff]; simp only [Bool.and_eq_true, Bool.or_eq_true, decide_eq_true_eq]; simp [f7c, mem]
  have := can_ofS f7c_r
  unfold canE
  rw [h1, ← h2]
  exact this
theorem a7_3 : chkE f7d = (4, 0) := by
  have h : (chk f7d.holes).1 = 0 := (chk_nrm (by simp [f7d, M64_val])).2 (nrm_one (by decide) (by decide))
  unfold chkE
  rw [if_pos h]
  rfl
set_option maxHeartbeats 2000000 in
theorem alive7_c : Cn Tryd.prog 25 [] (.v (.bool true)) := by
  have hb := BdE_of f7a_r.1
  have hr := (rightEB_iff hb.1 hb.2.1 hb.2.2).2 f7a_r.1
  have hz : (chkE f7a).1 = 0 := by unfold rightEB at hr; simpa using hr
  refine cn_go Tryd.func25 [] 0 (by kernel_rfl) rfl (by simp [go_sem, seval]) ?_
  conv => arg 4; cbv
  conv => enter [5, 1]; cbv
  try simp (maxSteps := 2000000) (disch := omega) only [go_sem, seval]
  try repeat ((with_reducible refine And.intro ?_ ?_); focus (first | omega | assumption | exact True.intro | (show anyD _ _ = true; exact rfl) | (simp only [List.length_map, List.length_append, List.length_cons, List.length_nil, List.length_take, List.length_drop]; omega)))
  (first | refine callP.mk (eof_c 7 [⟨0, 3⟩, ⟨6, 8⟩] n7 (by decide)) rfl ?_ | refine callQ.mk (eof_c 7 [⟨0, 3⟩, ⟨6, 8⟩] n7 (by decide)) rfl ?_ | refine callO.rd (eof_c 7 [⟨0, 3⟩, ⟨6, 8⟩] n7 (by decide)) rfl ?_ | refine callO.mk (eof_c 7 [⟨0, 3⟩, ⟨6, 8⟩] n7 (by decide)) rfl ?_)
  rw [a7_1]
  try simp (maxSteps := 2000000) (disch := omega) only [go_sem, seval]
  try repeat ((with_reducible refine And.intro ?_ ?_); focus (first | omega | assumption | exact True.intro | (show anyD _ _ = true; exact rfl) | (simp only [List.length_map, List.length_append, List.length_cons, List.length_nil, List.length_take, List.length_drop]; omega)))
  (first | refine callP.mk (canon_c f7b f7b_r (by decide)) rfl ?_ | refine callQ.mk (canon_c f7b f7b_r (by decide)) rfl ?_ | refine callO.rd (canon_c f7b f7b_r (by decide)) rfl ?_ | refine callO.mk (canon_c f7b f7b_r (by decide)) rfl ?_)
  rw [a7_2]
  try simp (maxSteps := 2000000) (disch := omega) only [go_sem, seval]
  try repeat ((with_reducible refine And.intro ?_ ?_); focus (first | omega | assumption | exact True.intro | (show anyD _ _ = true; exact rfl) | (simp only [List.length_map, List.length_append, List.length_cons, List.length_nil, List.length_take, List.length_drop]; omega)))
  (first | refine callP.mk (same7_c f7a f7a (by decide)) rfl ?_ | refine callQ.mk (same7_c f7a f7a (by decide)) rfl ?_ | refine callO.rd (same7_c f7a f7a (by decide)) rfl ?_ | refine callO.mk (same7_c f7a f7a (by decide)) rfl ?_)
  try simp (maxSteps := 2000000) (disch := omega) only [go_sem, seval]
  try repeat ((with_reducible refine And.intro ?_ ?_); focus (first | omega | assumption | exact True.intro | (show anyD _ _ = true; exact rfl) | (simp only [List.length_map, List.length_append, List.length_cons, List.length_nil, List.length_take, List.length_drop]; omega)))
  (first | refine callP.mk (same7_c f7c f7c (by decide)) rfl ?_ | refine callQ.mk (same7_c f7c f7c (by decide)) rfl ?_ | refine callO.rd (same7_c f7c f7c (by decide)) rfl ?_ | refine callO.mk (same7_c f7c f7c (by decide)) rfl ?_)
  try simp (maxSteps := 2000000) (disch := omega) only [go_sem, seval]
  try repeat ((with_reducible refine And.intro ?_ ?_); focus (first | omega | assumption | exact True.intro | (show anyD _ _ = true; exact rfl) | (simp only [List.length_map, List.length_append, List.length_cons, List.length_nil, List.length_take, List.length_drop]; omega)))
  (first | refine callP.mk (echeck_c f7a hb.1 (by decide) (.inr (codeN_c 2))) rfl ?_ | refine callQ.mk (echeck_c f7a hb.1 (by decide) (.inr (codeN_c 2))) rfl ?_ | refine callO.rd (echeck_c f7a hb.1 (by decide) (.inr (codeN_c 2))) rfl ?_ | refine callO.mk (echeck_c f7a hb.1 (by decide) (.inr (codeN_c 2))) rfl ?_)
  rw [errV_nil hz]
  try simp (maxSteps := 2000000) (disch := omega) only [go_sem, seval]
  try repeat ((with_reducible refine And.intro ?_ ?_); focus (first | omega | assumption | exact True.intro | (show anyD _ _ = true; exact rfl) | (simp only [List.length_map, List.length_append, List.length_cons, List.length_nil, List.length_take, List.length_drop]; omega)))
  (first | refine callP.mk (canOk_c f7a f7a_r (by decide)) rfl ?_ | refine callQ.mk (canOk_c f7a f7a_r (by decide)) rfl ?_ | refine callO.rd (canOk_c f7a f7a_r (by decide)) rfl ?_ | refine callO.mk (canOk_c f7a f7a_r (by decide)) rfl ?_)
  try simp (maxSteps := 2000000) (disch := omega) only [go_sem, seval]
  try repeat ((with_reducible refine And.intro ?_ ?_); focus (first | omega | assumption | exact True.intro | (show anyD _ _ = true; exact rfl) | (simp only [List.length_map, List.length_append, List.length_cons, List.length_nil, List.length_take, List.length_drop]; omega)))
  (first | refine callP.mk (ehas_c f7a 3 f7a_r.1 (by decide)) rfl ?_ | refine callQ.mk (ehas_c f7a 3 f7a_r.1 (by decide)) rfl ?_ | refine callO.rd (ehas_c f7a 3 f7a_r.1 (by decide)) rfl ?_ | refine callO.mk (ehas_c f7a 3 f7a_r.1 (by decide)) rfl ?_)
  rw [show (decide (3 ≤ f7a.max) && !mem f7a.holes 3) = true by decide]
  try simp (maxSteps := 2000000) (disch := omega) only [go_sem, seval]
  try repeat ((with_reducible refine And.intro ?_ ?_); focus (first | omega | assumption | exact True.intro | (show anyD _ _ = true; exact rfl) | (simp only [List.length_map, List.length_append, List.length_cons, List.length_nil, List.length_take, List.length_drop]; omega)))
  (first | refine callP.mk (ehas_c f7a 4 f7a_r.1 (by decide)) rfl ?_ | refine callQ.mk (ehas_c f7a 4 f7a_r.1 (by decide)) rfl ?_ | refine callO.rd (ehas_c f7a 4 f7a_r.1 (by decide)) rfl ?_ | refine callO.mk (ehas_c f7a 4 f7a_r.1 (by decide)) rfl ?_)
  rw [show (decide (4 ≤ f7a.max) && !mem f7a.holes 4) = false by decide]
  try simp (maxSteps := 2000000) (disch := omega) only [go_sem, seval]
  try repeat ((with_reducible refine And.intro ?_ ?_); focus (first | omega | assumption | exact True.intro | (show anyD _ _ = true; exact rfl) | (simp only [List.length_map, List.length_append, List.length_cons, List.length_nil, List.length_take, List.length_drop]; omega)))
  (first | refine callP.mk (echeck_c f7d (by simp [f7d, M64_val]) (by decide) (.inr (codeN_c 2))) rfl ?_ | refine callQ.mk (echeck_c f7d (by simp [f7d, M64_val]) (by decide) (.inr (codeN_c 2))) rfl ?_ | refine callO.rd (echeck_c f7d (by simp [f7d, M64_val]) (by decide) (.inr (codeN_c 2))) rfl ?_ | refine callO.mk (echeck_c f7d (by simp [f7d, M64_val]) (by decide) (.inr (codeN_c 2))) rfl ?_)
  rw [a7_3]
  have hc := code_c 4 0
  unfold errV at hc ⊢
  rw [if_neg (by decide)] at hc ⊢
  try simp (maxSteps := 2000000) (disch := omega) only [go_sem, seval]
  try repeat ((with_reducible refine And.intro ?_ ?_); focus (first | omega | assumption | exact True.intro | (show anyD _ _ = true; exact rfl) | (simp only [List.length_map, List.length_append, List.length_cons, List.length_nil, List.length_take, List.length_drop]; omega)))
  (first | refine callP.mk (hc) rfl ?_ | refine callQ.mk (hc) rfl ?_ | refine callO.rd (hc) rfl ?_ | refine callO.mk (hc) rfl ?_)
  try simp (maxSteps := 2000000) (disch := omega) only [go_sem, seval]
  try repeat ((with_reducible refine And.intro ?_ ?_); focus (first | omega | assumption | exact True.intro | (show anyD _ _ = true; exact rfl) | (simp only [List.length_map, List.length_append, List.length_cons, List.length_nil, List.length_take, List.length_drop]; omega)))
end Go.Proofs.YtcedofkenfddkaaDoor
