/- The contracts of entry.Canon, join.Next, entry.Has, and of the searches that they call. -/
import Derived.Test.YtcedofkenfddkaaDoorT7
namespace Go.Proofs.YtcedofkenfddkaaDoor
set_option linter.unusedVariables false
set_option linter.unusedSimpArgs false
open Go.RowKit
set_option maxRecDepth 100000
theorem last_split {l : List Iv} (h : 0 < l.length) : l = l.take (l.length - 1) ++ [l[l.length - 1]] := by
  conv => lhs; rw [← List.take_append_drop (l.length - 1) l]
  congr 1
  rw [List.drop_eq_getElem_cons (by omega), List.drop_of_length_le (by omega)]
set_option maxHeartbeats 1000000 in
theorem canon_c (e : En) (h : RightE e) (hl : e.holes.length ≤ 10000) : Cn Tryd.prog 36 [ep e] (.tup [ep (canE e).1, .v (.bool (canE e).2)]) := by
  have hM := M64_val
  refine cn_go Tryd.func36 [] 1 (by kernel_rfl) rfl (by simp [go_sem, seval]) ?_
  conv => arg 4; cbv
  conv => enter [5, 1]; cbv
  try simp (maxSteps := 2000000) (disch := omega) only [go_sem, seval]
  try repeat ((with_reducible refine And.intro ?_ ?_); focus (first | omega | assumption | exact True.intro | (show anyD _ _ = true; exact rfl) | (simp only [List.length_map, List.length_append, List.length_cons, List.length_nil, List.length_take, List.length_drop]; omega)))
  refine pLoop.go (fun f : En => RightE f ∧ f.rep = e.rep ∧ kn f = kn e ∧ f.holes.length ≤ e.holes.length) (fun _ => []) (fun f => [ec f, [.v (.int .u64 0), .v (.int .u64 0), .sl [] .sh]]) (fun f => f.holes.length) e [] ?_ ?_ ?_
  · exact ⟨h, rfl, rfl, Nat.le_refl _⟩
  · try simp (maxSteps := 2000000) (disch := omega) only [go_sem, seval]
    try repeat ((with_reducible refine And.intro ?_ ?_); focus (first | omega | assumption | exact True.intro | (show anyD _ _ = true; exact rfl) | (simp only [List.length_map, List.length_append, List.length_cons, List.length_nil, List.length_take, List.length_drop]; omega)))
  · rintro f ⟨hf, h1, h2, h3⟩
    have hc : CanE f → ofS e.rep (kn e) = (f, true) := fun hc => by rw [← h1, ← h2]; exact can_ofS hc
    unfold canE
    try simp (maxSteps := 2000000) (disch := omega) only [go_sem, seval]
    try repeat ((with_reducible refine And.intro ?_ ?_); focus (first | omega | assumption | exact True.intro | (show anyD _ _ = true; exact rfl) | (simp only [List.length_map, List.length_append, List.length_cons, List.length_nil, List.length_take, List.length_drop]; omega)))
    (first | refine brP.mk (fun h4 => ?_) (fun h4 => ?_) | refine gdP.mkt (fun h4 => ?_) (fun h4 => ?_) | refine gdP.mkf (fun h4 => ?_) (fun h4 => ?_) | refine pkP.mk (fun h4 => ?_) (fun h4 => ?_)) <;> (try simp only [Bool.not_true, Bool.not_false, decide_eq_true_eq, decide_eq_false_iff_not, Bool.and_eq_true, Bool.or_eq_true, Bool.not_eq_true', Bool.not_eq_false', Bool.and_eq_false_iff, Bool.or_eq_false_iff, Nat.not_lt, Int.not_lt, Nat.not_le, Int.not_le, Int.ofNat_lt, Int.ofNat_le, Int.ofNat_inj, Bool.xor_false, Bool.false_xor, Bool.true_xor, Bool.xor_true] at h4) <;> (try simp (maxSteps := 2000000) (disch := omega) only [go_sem, seval]) <;> (try repeat ((with_reducible refine And.intro ?_ ?_); focus (first | omega | assumption | exact True.intro | (show anyD _ _ = true; exact rfl) | (simp only [List.length_map, List.length_append, List.length_cons, List.length_nil, List.length_take, List.length_drop]; omega))))
    · have hs := last_split h4
      have hb := NF.lo_ge hf.1 _ (List.getElem_mem (show f.holes.length - 1 < f.holes.length by omega))
      have hmx := hf.2.2.1
      try simp (maxSteps := 2000000) (disch := omega) only [go_sem, seval]
      try repeat ((with_reducible refine And.intro ?_ ?_); focus (first | omega | assumption | exact True.intro | (show anyD _ _ = true; exact rfl) | (simp only [List.length_map, List.length_append, List.length_cons, List.length_nil, List.length_take, List.length_drop]; omega)))
      (first | refine brP.mk (fun h5 => ?_) (fun h5 => ?_) | refine gdP.mkt (fun h5 => ?_) (fun h5 => ?_) | refine gdP.mkf (fun h5 => ?_) (fun h5 => ?_) | refine pkP.mk (fun h5 => ?_) (fun h5 => ?_)) <;> (try simp only [Bool.not_true, Bool.not_false, decide_eq_true_eq, decide_eq_false_iff_not, Bool.and_eq_true, Bool.or_eq_true, Bool.not_eq_true', Bool.not_eq_false', Bool.and_eq_false_iff, Bool.or_eq_false_iff, Nat.not_lt, Int.not_lt, Nat.not_le, Int.not_le, Int.ofNat_lt, Int.ofNat_le, Int.ofNat_inj, Bool.xor_false, Bool.false_xor, Bool.true_xor, Bool.xor_true] at h5) <;> (try simp (maxSteps := 2000000) (disch := omega) only [go_sem, seval]) <;> (try repeat ((with_reducible refine And.intro ?_ ?_); focus (first | omega | assumption | exact True.intro | (show anyD _ _ = true; exact rfl) | (simp only [List.length_map, List.length_append, List.length_cons, List.length_nil, List.length_take, List.length_drop]; omega))))
      · rw [hc (can_last hf hs h5)]
      · (first | refine callP.mk (wprev_c (f.holes[f.holes.length - 1]).lo (by omega)) rfl ?_ | refine callQ.mk (wprev_c (f.holes[f.holes.length - 1]).lo (by omega)) rfl ?_ | refine callO.rd (wprev_c (f.holes[f.holes.length - 1]).lo (by omega)) rfl ?_ | refine callO.mk (wprev_c (f.holes[f.holes.length - 1]).lo (by omega)) rfl ?_)
        try simp (maxSteps := 2000000) (disch := omega) only [go_sem, seval]
        try repeat ((with_reducible refine And.intro ?_ ?_); focus (first | omega | assumption | exact True.intro | (show anyD _ _ = true; exact rfl) | (simp only [List.length_map, List.length_append, List.length_cons, List.length_nil, List.length_take, List.length_drop]; omega)))
        (first | refine brP.mk (fun h6 => ?_) (fun h6 => ?_) | refine gdP.mkt (fun h6 => ?_) (fun h6 => ?_) | refine gdP.mkf (fun h6 => ?_) (fun h6 => ?_) | refine pkP.mk (fun h6 => ?_) (fun h6 => ?_)) <;> (try simp only [Bool.not_true, Bool.not_false, decide_eq_true_eq, decide_eq_false_iff_not, Bool.and_eq_true, Bool.or_eq_true, Bool.not_eq_true', Bool.not_eq_false', Bool.and_eq_false_iff, Bool.or_eq_false_iff, Nat.not_lt, Int.not_lt, Nat.not_le, Int.not_le, Int.ofNat_lt, Int.ofNat_le, Int.ofNat_inj, Bool.xor_false, Bool.false_xor, Bool.true_xor, Bool.xor_true] at h6) <;> (try simp (maxSteps := 2000000) (disch := omega) only [go_sem, seval]) <;> (try repeat ((with_reducible refine And.intro ?_ ?_); focus (first | omega | assumption | exact True.intro | (show anyD _ _ = true; exact rfl) | (simp only [List.length_map, List.length_append, List.length_cons, List.length_nil, List.length_take, List.length_drop]; omega))))
        · rw [← h2, canon_none hf hs h5 (by simpa using h6)]
          rfl
        · obtain ⟨q1, q2⟩ := canon_step hf hs h5 (by first | omega | (simp at h6; omega))
          refine ⟨⟨f.rep, f.holes[f.holes.length - 1].lo - 1, f.holes.take (f.holes.length - 1)⟩, ⟨q1, h1, q2.trans h2, by simp; omega⟩, by simp; omega, ?_⟩
          try simp (maxSteps := 2000000) (disch := omega) only [go_sem, seval]
          try repeat ((with_reducible refine And.intro ?_ ?_); focus (first | omega | assumption | exact True.intro | (show anyD _ _ = true; exact rfl) | (simp only [List.length_map, List.length_append, List.length_cons, List.length_nil, List.length_take, List.length_drop]; omega)))
    · rw [hc (kn_holes_nil hf (List.eq_nil_of_length_eq_zero (by omega)))]
theorem wrap_i {n : Int} (h : -9223372036854775808 ≤ n ∧ n < 9223372036854775808) : IntKind.i64.wrap n = n := by
  simp only [IntKind.wrap, IntKind.bits, IntKind.signed]
  simp
  omega
theorem jnext_c (e : En) (h : RightE e) (hl : e.holes.length ≤ 10000) : Cn Tryd.prog 98 [ep e] (.tup [.v (.int .u64 (nextE e).1), .v (.bool (nextE e).2)]) := by
  have hM := M64_val
  refine cn_go Tryd.func98 [] 1 (by kernel_rfl) rfl (by simp [go_sem, seval]) ?_
  conv => arg 4; cbv
  conv => enter [5, 1]; cbv
  try simp (maxSteps := 2000000) (disch := omega) only [go_sem, seval]
  try repeat ((with_reducible refine And.intro ?_ ?_); focus (first | omega | assumption | exact True.intro | (show anyD _ _ = true; exact rfl) | (simp only [List.length_map, List.length_append, List.length_cons, List.length_nil, List.length_take, List.length_drop]; omega)))
  (first | refine callP.mk (canon_c e h hl) rfl ?_ | refine callQ.mk (canon_c e h hl) rfl ?_ | refine callO.rd (canon_c e h hl) rfl ?_ | refine callO.mk (canon_c e h hl) rfl ?_)
  try simp (maxSteps := 2000000) (disch := omega) only [go_sem, seval]
  try repeat ((with_reducible refine And.intro ?_ ?_); focus (first | omega | assumption | exact True.intro | (show anyD _ _ = true; exact rfl) | (simp only [List.length_map, List.length_append, List.length_cons, List.length_nil, List.length_take, List.length_drop]; omega)))
  unfold nextE canE
  by_cases h1 : kn e = []
  · rw [h1]
    try simp (maxSteps := 2000000) (disch := omega) only [go_sem, seval]
    try repeat ((with_reducible refine And.intro ?_ ?_); focus (first | omega | assumption | exact True.intro | (show anyD _ _ = true; exact rfl) | (simp only [List.length_map, List.length_append, List.length_cons, List.length_nil, List.length_take, List.length_drop]; omega)))
    simp [ofS]
    try simp (maxSteps := 2000000) (disch := omega) only [go_sem, seval]
    try repeat ((with_reducible refine And.intro ?_ ?_); focus (first | omega | assumption | exact True.intro | (show anyD _ _ = true; exact rfl) | (simp only [List.length_map, List.length_append, List.length_cons, List.length_nil, List.length_take, List.length_drop]; omega)))
  · have ht := top_mem (kn_nrm h) h1
    rw [if_neg h1, ofS_cons h1]
    try simp (maxSteps := 2000000) (disch := omega) only [go_sem, seval]
    try repeat ((with_reducible refine And.intro ?_ ?_); focus (first | omega | assumption | exact True.intro | (show anyD _ _ = true; exact rfl) | (simp only [List.length_map, List.length_append, List.length_cons, List.length_nil, List.length_take, List.length_drop]; omega)))
    (first | refine callP.mk (wnext_c (top (kn e)) ht.2) rfl ?_ | refine callQ.mk (wnext_c (top (kn e)) ht.2) rfl ?_ | refine callO.rd (wnext_c (top (kn e)) ht.2) rfl ?_ | refine callO.mk (wnext_c (top (kn e)) ht.2) rfl ?_)
    try simp (maxSteps := 2000000) (disch := omega) only [go_sem, seval]
    try repeat ((with_reducible refine And.intro ?_ ?_); focus (first | omega | assumption | exact True.intro | (show anyD _ _ = true; exact rfl) | (simp only [List.length_map, List.length_append, List.length_cons, List.length_nil, List.length_take, List.length_drop]; omega)))
    by_cases h2 : top (kn e) = M64 - 1
    · rw [if_pos h2, if_pos h2]
      simp [h2]
    · rw [if_neg h2, if_neg h2]
      simp [h2]
/-- Where a test turns. -/
theorem ex_part (p : Nat → Prop) [DecidablePred p] : ∀ n, (∀ i j, i ≤ j → j < n → p j → p i) → ∃ i, i ≤ n ∧ (∀ j, j < i → p j) ∧ ∀ j, i ≤ j → j < n → ¬ p j
  | 0, _ => ⟨0, Nat.le_refl _, fun j h => absurd h (by omega), fun j h1 h2 => absurd h2 (by omega)⟩
  | n + 1, h => by
    by_cases hp : p n
    · exact ⟨n + 1, Nat.le_refl _, fun j hj => h j n (by omega) (by omega) hp, fun j h1 h2 => absurd h2 (by omega)⟩
    · obtain ⟨i, h1, h2, h3⟩ := ex_part p n fun i j hij hj => h i j hij (by omega)
      refine ⟨i, by omega, h2, fun j h4 h5 => ?_⟩
      rcases Nat.lt_or_ge j n with h6 | h6
      · exact h3 j h4 h6
      · obtain rfl : j = n := by omega
        exact hp
attribute [go_sem] wrap_i
theorem bsfR_c (l : List Iv) (x : Nat) (g : FuncId) (c : Nat → Int) (i : Nat) (hi : i ≤ l.length) (h1 : ∀ j, j < i → c j < 0) (h2 : ∀ j, i ≤ j → j < l.length → 0 ≤ c j) (hl : l.length ≤ 1152921504606846976)
    (hg : ∀ k (h : k < l.length), Cn Tryd.prog g [ivp l[k], .v (.int .u64 x)] (.v (.int .i64 (c k)))) : Cn Tryd.prog 123 [rg l, .v (.int .u64 x), .fn (.func g) [] []] (.tup [.v (.int .i64 i), .v (.bool (decide (i < l.length) && decide (c i = 0)))]) := by
  refine cn_go Tryd.func123 [] 3 (by kernel_rfl) rfl (by simp [go_sem, seval]) ?_
  conv => arg 4; cbv
  conv => enter [5, 1]; cbv
  try simp (maxSteps := 2000000) (disch := omega) only [go_sem, seval]
  try repeat ((with_reducible refine And.intro ?_ ?_); focus (first | omega | assumption | exact True.intro | (show anyD _ _ = true; exact rfl) | (simp only [List.length_map, List.length_append, List.length_cons, List.length_nil, List.length_take, List.length_drop]; omega)))
  refine pLoop.go (fun p : Nat × Nat => p.1 ≤ i ∧ i ≤ p.2 ∧ p.2 ≤ l.length) (fun p => [(9, .v (.int .i64 (p.1 : Nat))), (10, .v (.int .i64 (p.2 : Nat)))]) (fun _ => []) (fun p => p.2 - p.1) (0, l.length) [9, 10] ?_ ?_ ?_
  · exact ⟨Nat.zero_le _, hi, Nat.le_refl _⟩
  · try simp (maxSteps := 2000000) (disch := omega) only [go_sem, seval]
    try repeat ((with_reducible refine And.intro ?_ ?_); focus (first | omega | assumption | exact True.intro | (show anyD _ _ = true; exact rfl) | (simp only [List.length_map, List.length_append, List.length_cons, List.length_nil, List.length_take, List.length_drop]; omega)))
  · rintro ⟨p, q⟩ ⟨k1, k2, k3⟩
    simp only at k1 k2 k3
    try simp (maxSteps := 2000000) (disch := omega) only [go_sem, seval]
    try repeat ((with_reducible refine And.intro ?_ ?_); focus (first | omega | assumption | exact True.intro | (show anyD _ _ = true; exact rfl) | (simp only [List.length_map, List.length_append, List.length_cons, List.length_nil, List.length_take, List.length_drop]; omega)))
    (first | refine brP.mk (fun h => ?_) (fun h => ?_) | refine gdP.mkt (fun h => ?_) (fun h => ?_) | refine gdP.mkf (fun h => ?_) (fun h => ?_) | refine pkP.mk (fun h => ?_) (fun h => ?_)) <;> (try simp only [Bool.not_true, Bool.not_false, decide_eq_true_eq, decide_eq_false_iff_not, Bool.and_eq_true, Bool.or_eq_true, Bool.not_eq_true', Bool.not_eq_false', Bool.and_eq_false_iff, Bool.or_eq_false_iff, Nat.not_lt, Int.not_lt, Nat.not_le, Int.not_le, Int.ofNat_lt, Int.ofNat_le, Int.ofNat_inj, Bool.xor_false, Bool.false_xor, Bool.true_xor, Bool.xor_true] at h) <;> (try simp (maxSteps := 2000000) (disch := omega) only [go_sem, seval]) <;> (try repeat ((with_reducible refine And.intro ?_ ?_); focus (first | omega | assumption | exact True.intro | (show anyD _ _ = true; exact rfl) | (simp only [List.length_map, List.length_append, List.length_cons, List.length_nil, List.length_take, List.length_drop]; omega))))
    · have hm : (p + q) / 2 < l.length := by omega
      try simp (maxSteps := 2000000) (disch := omega) only [go_sem, seval]
      try repeat ((with_reducible refine And.intro ?_ ?_); focus (first | omega | assumption | exact True.intro | (show anyD _ _ = true; exact rfl) | (simp only [List.length_map, List.length_append, List.length_cons, List.length_nil, List.length_take, List.length_drop]; omega)))
      (first | refine callP.mk (hg ((p + q) / 2) hm) rfl ?_ | refine callQ.mk (hg ((p + q) / 2) hm) rfl ?_ | refine callO.rd (hg ((p + q) / 2) hm) rfl ?_ | refine callO.mk (hg ((p + q) / 2) hm) rfl ?_)
      try simp (maxSteps := 2000000) (disch := omega) only [go_sem, seval]
      try repeat ((with_reducible refine And.intro ?_ ?_); focus (first | omega | assumption | exact True.intro | (show anyD _ _ = true; exact rfl) | (simp only [List.length_map, List.length_append, List.length_cons, List.length_nil, List.length_take, List.length_drop]; omega)))
      (first | refine brP.mk (fun h4 => ?_) (fun h4 => ?_) | refine gdP.mkt (fun h4 => ?_) (fun h4 => ?_) | refine gdP.mkf (fun h4 => ?_) (fun h4 => ?_) | refine pkP.mk (fun h4 => ?_) (fun h4 => ?_)) <;> (try simp only [Bool.not_true, Bool.not_false, decide_eq_true_eq, decide_eq_false_iff_not, Bool.and_eq_true, Bool.or_eq_true, Bool.not_eq_true', Bool.not_eq_false', Bool.and_eq_false_iff, Bool.or_eq_false_iff, Nat.not_lt, Int.not_lt, Nat.not_le, Int.not_le, Int.ofNat_lt, Int.ofNat_le, Int.ofNat_inj, Bool.xor_false, Bool.false_xor, Bool.true_xor, Bool.xor_true] at h4) <;> (try simp (maxSteps := 2000000) (disch := omega) only [go_sem, seval]) <;> (try repeat ((with_reducible refine And.intro ?_ ?_); focus (first | omega | assumption | exact True.intro | (show anyD _ _ = true; exact rfl) | (simp only [List.length_map, List.length_append, List.length_cons, List.length_nil, List.length_take, List.length_drop]; omega))))
      · refine ⟨((p + q) / 2 + 1, q), ⟨?_, k2, k3⟩, by simp only; omega, rfl, rfl⟩
        simp only
        refine Nat.lt_of_not_le fun h5 => ?_
        have := h2 _ h5 hm
        omega
      · refine ⟨(p, (p + q) / 2), ⟨k1, ?_, by simp only; omega⟩, by simp only; omega, rfl, rfl⟩
        simp only
        refine Nat.le_of_not_lt fun h5 => ?_
        have := h1 _ h5
        omega
    · obtain rfl : p = i := by omega
      obtain rfl : q = p := by omega
      (first | refine brP.mk (fun h4 => ?_) (fun h4 => ?_) | refine gdP.mkt (fun h4 => ?_) (fun h4 => ?_) | refine gdP.mkf (fun h4 => ?_) (fun h4 => ?_) | refine pkP.mk (fun h4 => ?_) (fun h4 => ?_)) <;> (try simp only [Bool.not_true, Bool.not_false, decide_eq_true_eq, decide_eq_false_iff_not, Bool.and_eq_true, Bool.or_eq_true, Bool.not_eq_true', Bool.not_eq_false', Bool.and_eq_false_iff, Bool.or_eq_false_iff, Nat.not_lt, Int.not_lt, Nat.not_le, Int.not_le, Int.ofNat_lt, Int.ofNat_le, Int.ofNat_inj, Bool.xor_false, Bool.false_xor, Bool.true_xor, Bool.xor_true] at h4) <;> (try simp (maxSteps := 2000000) (disch := omega) only [go_sem, seval]) <;> (try repeat ((with_reducible refine And.intro ?_ ?_); focus (first | omega | assumption | exact True.intro | (show anyD _ _ = true; exact rfl) | (simp only [List.length_map, List.length_append, List.length_cons, List.length_nil, List.length_take, List.length_drop]; omega))))
      · (first | refine callP.mk (hg q h4) rfl ?_ | refine callQ.mk (hg q h4) rfl ?_ | refine callO.rd (hg q h4) rfl ?_ | refine callO.mk (hg q h4) rfl ?_)
        try simp (maxSteps := 2000000) (disch := omega) only [go_sem, seval]
        try repeat ((with_reducible refine And.intro ?_ ?_); focus (first | omega | assumption | exact True.intro | (show anyD _ _ = true; exact rfl) | (simp only [List.length_map, List.length_append, List.length_cons, List.length_nil, List.length_take, List.length_drop]; omega)))
        simp [h4]
      · have h4' : ¬ q < l.length := by omega
        simp [h4']
theorem rfind1_c (s : Iv) (x : Nat) : Cn Tryd.prog 124 [ivp s, .v (.int .u64 x)] (.v (.int .i64 (if s.hi < x then -1 else if x < s.lo then 1 else 0))) := by
  refine cn_go Tryd.func124 [] 2 (by kernel_rfl) rfl (by simp [go_sem, seval]) ?_
  conv => arg 4; cbv
  conv => enter [5, 1]; cbv
  try simp (maxSteps := 2000000) (disch := omega) only [go_sem, seval]
  try repeat ((with_reducible refine And.intro ?_ ?_); focus (first | omega | assumption | exact True.intro | (show anyD _ _ = true; exact rfl) | (simp only [List.length_map, List.length_append, List.length_cons, List.length_nil, List.length_take, List.length_drop]; omega)))
  (first | refine brP.mk (fun h1 => ?_) (fun h1 => ?_) | refine gdP.mkt (fun h1 => ?_) (fun h1 => ?_) | refine gdP.mkf (fun h1 => ?_) (fun h1 => ?_) | refine pkP.mk (fun h1 => ?_) (fun h1 => ?_)) <;> (try simp only [Bool.not_true, Bool.not_false, decide_eq_true_eq, decide_eq_false_iff_not, Bool.and_eq_true, Bool.or_eq_true, Bool.not_eq_true', Bool.not_eq_false', Bool.and_eq_false_iff, Bool.or_eq_false_iff, Nat.not_lt, Int.not_lt, Nat.not_le, Int.not_le, Int.ofNat_lt, Int.ofNat_le, Int.ofNat_inj, Bool.xor_false, Bool.false_xor, Bool.true_xor, Bool.xor_true] at h1) <;> (try simp (maxSteps := 2000000) (disch := omega) only [go_sem, seval]) <;> (try repeat ((with_reducible refine And.intro ?_ ?_); focus (first | omega | assumption | exact True.intro | (show anyD _ _ = true; exact rfl) | (simp only [List.length_map, List.length_append, List.length_cons, List.length_nil, List.length_take, List.length_drop]; omega))))
  · rw [if_pos h1]
  · rw [if_neg (by omega)]
    (first | refine brP.mk (fun h2 => ?_) (fun h2 => ?_) | refine gdP.mkt (fun h2 => ?_) (fun h2 => ?_) | refine gdP.mkf (fun h2 => ?_) (fun h2 => ?_) | refine pkP.mk (fun h2 => ?_) (fun h2 => ?_)) <;> (try simp only [Bool.not_true, Bool.not_false, decide_eq_true_eq, decide_eq_false_iff_not, Bool.and_eq_true, Bool.or_eq_true, Bool.not_eq_true', Bool.not_eq_false', Bool.and_eq_false_iff, Bool.or_eq_false_iff, Nat.not_lt, Int.not_lt, Nat.not_le, Int.not_le, Int.ofNat_lt, Int.ofNat_le, Int.ofNat_inj, Bool.xor_false, Bool.false_xor, Bool.true_xor, Bool.xor_true] at h2) <;> (try simp (maxSteps := 2000000) (disch := omega) only [go_sem, seval]) <;> (try repeat ((with_reducible refine And.intro ?_ ?_); focus (first | omega | assumption | exact True.intro | (show anyD _ _ = true; exact rfl) | (simp only [List.length_map, List.length_append, List.length_cons, List.length_nil, List.length_take, List.length_drop]; omega))))
    · rw [if_pos h2]
    · rw [if_neg (by omega)]
/-- Where a number is looked for. -/
theorem part_mem {l : List Iv} (hl : Nrm l) (x : Nat) : ∃ i, i ≤ l.length ∧ (∀ j, (h : j < l.length) → j < i → l[j].hi < x) ∧ (∀ j, (h : j < l.length) → i ≤ j → x ≤ l[j].hi) ∧ (mem l x = true ↔ ∃ h : i < l.length, l[i].lo ≤ x) := by
  have mono : ∀ {n : Nat} {l : List Iv}, NF n l → ∀ i j, (hij : i < j) → (hj : j < l.length) → l[i].hi < l[j].lo := by
    intro n l
    induction l generalizing n with
    | nil => intro _ i j _ hj; simp at hj
    | cons s l ih =>
      intro h i j hij hj
      obtain ⟨j', rfl⟩ : ∃ j', j = j' + 1 := ⟨j - 1, by omega⟩
      cases i with
      | zero =>
        have := NF.lo_ge h.2.2.2 (l[j']'(by simpa using hj)) (List.getElem_mem _)
        simp only [List.getElem_cons_zero, List.getElem_cons_succ]
        omega
      | succ i => exact ih h.2.2.2 i j' (by omega) (by simpa using hj)
  obtain ⟨i, h1, h2, h3⟩ := ex_part (fun j => ∃ h : j < l.length, l[j].hi < x) l.length fun a b hab hb ⟨h4, h5⟩ => by
    refine ⟨by omega, ?_⟩
    rcases Nat.lt_or_eq_of_le hab with h6 | h6
    · have := mono hl a b h6 hb
      have := NF.lo_ge hl l[b] (List.getElem_mem _)
      omega
    · subst h6; exact h5
  have h3' : ∀ j, (h : j < l.length) → i ≤ j → x ≤ l[j].hi := fun j hj hij => by
    have := h3 j hij hj
    exact Nat.le_of_not_lt fun h => this ⟨hj, h⟩
  refine ⟨i, h1, fun j hj hji => (h2 j hji).2, h3', ?_⟩
  rw [mem_iff]
  constructor
  · rintro ⟨s, hs, h4, h5⟩
    obtain ⟨j, hj, rfl⟩ := List.getElem_of_mem hs
    have hij : i ≤ j := Nat.le_of_not_lt fun h => by have := (h2 j h).2; omega
    refine ⟨by omega, ?_⟩
    rcases Nat.lt_or_eq_of_le hij with h6 | h6
    · have := mono hl i j h6 hj
      have := NF.lo_ge hl (l[i]'(by omega)) (List.getElem_mem _)
      omega
    · subst h6; exact h4
  · rintro ⟨h, h4⟩
    exact ⟨l[i], List.getElem_mem _, h4, h3' i h (Nat.le_refl _)⟩
def cmpI (x : Nat) (s : Iv) : Int := if s.hi < x then -1 else if x < s.lo then 1 else 0
theorem rhas_c (l : List Iv) (x : Nat) (hl : Nrm l) (hn : l.length ≤ 1152921504606846976) : Cn Tryd.prog 81 [rg l, .v (.int .u64 x)] (.v (.bool (mem l x))) := by
  obtain ⟨i, h1, h2, h3, h4⟩ := part_mem hl x
  have hF : Cn Tryd.prog 106 [rg l, .v (.int .u64 x)] (.v (.int .i64 (if mem l x then (i : Int) else -1))) := by
    refine cn_go Tryd.func106 [] 2 (by kernel_rfl) rfl (by simp [go_sem, seval]) ?_
    conv => arg 4; cbv
    conv => enter [5, 1]; cbv
    try simp (maxSteps := 2000000) (disch := omega) only [go_sem, seval]
    try repeat ((with_reducible refine And.intro ?_ ?_); focus (first | omega | assumption | exact True.intro | (show anyD _ _ = true; exact rfl) | (simp only [List.length_map, List.length_append, List.length_cons, List.length_nil, List.length_take, List.length_drop]; omega)))
    (first | refine callP.mk (bsfR_c l x 124 (fun k => if h : k < l.length then cmpI x l[k] else 0) i h1 (fun j hj => by rw [dif_pos (show j < l.length by omega)]; unfold cmpI; rw [if_pos (h2 j (by omega) hj)]; decide) (fun j hj hjl => by rw [dif_pos hjl]; unfold cmpI; rw [if_neg (by have := h3 j hjl hj; omega)]; split <;> decide) hn (fun k h => by rw [dif_pos h]; exact rfind1_c l[k] x)) rfl ?_ | refine callQ.mk (bsfR_c l x 124 (fun k => if h : k < l.length then cmpI x l[k] else 0) i h1 (fun j hj => by rw [dif_pos (show j < l.length by omega)]; unfold cmpI; rw [if_pos (h2 j (by omega) hj)]; decide) (fun j hj hjl => by rw [dif_pos hjl]; unfold cmpI; rw [if_neg (by have := h3 j hjl hj; omega)]; split <;> decide) hn (fun k h => by rw [dif_pos h]; exact rfind1_c l[k] x)) rfl ?_ | refine callO.rd (bsfR_c l x 124 (fun k => if h : k < l.length then cmpI x l[k] else 0) i h1 (fun j hj => by rw [dif_pos (show j < l.length by omega)]; unfold cmpI; rw [if_pos (h2 j (by omega) hj)]; decide) (fun j hj hjl => by rw [dif_pos hjl]; unfold cmpI; rw [if_neg (by have := h3 j hjl hj; omega)]; split <;> decide) hn (fun k h => by rw [dif_pos h]; exact rfind1_c l[k] x)) rfl ?_ | refine callO.mk (bsfR_c l x 124 (fun k => if h : k < l.length then cmpI x l[k] else 0) i h1 (fun j hj => by rw [dif_pos (show j < l.length by omega)]; unfold cmpI; rw [if_pos (h2 j (by omega) hj)]; decide) (fun j hj hjl => by rw [dif_pos hjl]; unfold cmpI; rw [if_neg (by have := h3 j hjl hj; omega)]; split <;> decide) hn (fun k h => by rw [dif_pos h]; exact rfind1_c l[k] x)) rfl ?_)
    try simp (maxSteps := 2000000) (disch := omega) only [go_sem, seval]
    try repeat ((with_reducible refine And.intro ?_ ?_); focus (first | omega | assumption | exact True.intro | (show anyD _ _ = true; exact rfl) | (simp only [List.length_map, List.length_append, List.length_cons, List.length_nil, List.length_take, List.length_drop]; omega)))
    have e : (decide (i < l.length) && decide ((if h : i < l.length then cmpI x l[i] else 0) = 0)) = mem l x := by
      rw [Bool.eq_iff_iff, h4]
      simp only [Bool.and_eq_true, decide_eq_true_eq]
      constructor
      · rintro ⟨k1, k2⟩
        refine ⟨k1, ?_⟩
        rw [dif_pos k1] at k2
        unfold cmpI at k2
        split at k2
        · cases k2
        · split at k2
          · cases k2
          · omega
      · rintro ⟨k1, k2⟩
        refine ⟨k1, ?_⟩
        rw [dif_pos k1]
        unfold cmpI
        rw [if_neg (by have := h3 i k1 (Nat.le_refl _); omega), if_neg (by omega)]
    rw [e]
    (first | refine brP.mk (fun h5 => ?_) (fun h5 => ?_) | refine gdP.mkt (fun h5 => ?_) (fun h5 => ?_) | refine gdP.mkf (fun h5 => ?_) (fun h5 => ?_) | refine pkP.mk (fun h5 => ?_) (fun h5 => ?_)) <;> (try simp only [Bool.not_true, Bool.not_false, decide_eq_true_eq, decide_eq_false_iff_not, Bool.and_eq_true, Bool.or_eq_true, Bool.not_eq_true', Bool.not_eq_false', Bool.and_eq_false_iff, Bool.or_eq_false_iff, Nat.not_lt, Int.not_lt, Nat.not_le, Int.not_le, Int.ofNat_lt, Int.ofNat_le, Int.ofNat_inj, Bool.xor_false, Bool.false_xor, Bool.true_xor, Bool.xor_true] at h5) <;> (try simp (maxSteps := 2000000) (disch := omega) only [go_sem, seval]) <;> (try repeat ((with_reducible refine And.intro ?_ ?_); focus (first | omega | assumption | exact True.intro | (show anyD _ _ = true; exact rfl) | (simp only [List.length_map, List.length_append, List.length_cons, List.length_nil, List.length_take, List.length_drop]; omega))))
    · rw [h5]; rfl
    · rw [h5]; rfl
  refine cn_go Tryd.func81 [] 2 (by kernel_rfl) rfl (by simp [go_sem, seval]) ?_
  conv => arg 4; cbv
  conv => enter [5, 1]; cbv
  try simp (maxSteps := 2000000) (disch := omega) only [go_sem, seval]
  try repeat ((with_reducible refine And.intro ?_ ?_); focus (first | omega | assumption | exact True.intro | (show anyD _ _ = true; exact rfl) | (simp only [List.length_map, List.length_append, List.length_cons, List.length_nil, List.length_take, List.length_drop]; omega)))
  (first | refine callP.mk (hF) rfl ?_ | refine callQ.mk (hF) rfl ?_ | refine callO.rd (hF) rfl ?_ | refine callO.mk (hF) rfl ?_)
  try simp (maxSteps := 2000000) (disch := omega) only [go_sem, seval]
  try repeat ((with_reducible refine And.intro ?_ ?_); focus (first | omega | assumption | exact True.intro | (show anyD _ _ = true; exact rfl) | (simp only [List.length_map, List.length_append, List.length_cons, List.length_nil, List.length_take, List.length_drop]; omega)))
  cases mem l x <;> simp
theorem ehas_c (e : En) (c : Nat) (h : RightE e) (hn : e.holes.length ≤ 1152921504606846976) : Cn Tryd.prog 27 [ep e, .v (.int .u64 c)] (.v (.bool (decide (c ≤ e.max) && !mem e.holes c))) := by
  refine cn_go Tryd.func27 [] 2 (by kernel_rfl) rfl (by simp [go_sem, seval]) ?_
  conv => arg 4; cbv
  conv => enter [5, 1]; cbv
  try simp (maxSteps := 2000000) (disch := omega) only [go_sem, seval]
  try repeat ((with_reducible refine And.intro ?_ ?_); focus (first | omega | assumption | exact True.intro | (show anyD _ _ = true; exact rfl) | (simp only [List.length_map, List.length_append, List.length_cons, List.length_nil, List.length_take, List.length_drop]; omega)))
  (first | refine brP.mk (fun h1 => ?_) (fun h1 => ?_) | refine gdP.mkt (fun h1 => ?_) (fun h1 => ?_) | refine gdP.mkf (fun h1 => ?_) (fun h1 => ?_) | refine pkP.mk (fun h1 => ?_) (fun h1 => ?_)) <;> (try simp only [Bool.not_true, Bool.not_false, decide_eq_true_eq, decide_eq_false_iff_not, Bool.and_eq_true, Bool.or_eq_true, Bool.not_eq_true', Bool.not_eq_false', Bool.and_eq_false_iff, Bool.or_eq_false_iff, Nat.not_lt, Int.not_lt, Nat.not_le, Int.not_le, Int.ofNat_lt, Int.ofNat_le, Int.ofNat_inj, Bool.xor_false, Bool.false_xor, Bool.true_xor, Bool.xor_true] at h1) <;> (try simp (maxSteps := 2000000) (disch := omega) only [go_sem, seval]) <;> (try repeat ((with_reducible refine And.intro ?_ ?_); focus (first | omega | assumption | exact True.intro | (show anyD _ _ = true; exact rfl) | (simp only [List.length_map, List.length_append, List.length_cons, List.length_nil, List.length_take, List.length_drop]; omega))))
  · (first | refine callP.mk (rhas_c e.holes c h.1 hn) rfl ?_ | refine callQ.mk (rhas_c e.holes c h.1 hn) rfl ?_ | refine callO.rd (rhas_c e.holes c h.1 hn) rfl ?_ | refine callO.mk (rhas_c e.holes c h.1 hn) rfl ?_)
    try simp (maxSteps := 2000000) (disch := omega) only [go_sem, seval]
    try repeat ((with_reducible refine And.intro ?_ ?_); focus (first | omega | assumption | exact True.intro | (show anyD _ _ = true; exact rfl) | (simp only [List.length_map, List.length_append, List.length_cons, List.length_nil, List.length_take, List.length_drop]; omega)))
    simp [h1]
  · have h1' : ¬ c ≤ e.max := by omega
    simp [h1']
end Go.Proofs.YtcedofkenfddkaaDoor
