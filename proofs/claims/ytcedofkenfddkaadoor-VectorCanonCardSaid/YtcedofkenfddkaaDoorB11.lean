/- Texts of this claim, bound together: T19 T20 T21 Opv. -/
import Derived.Test.YtcedofkenfddkaaDoorB10
/- The contracts of vector.Find, Has, Check, Canonical, Canon and of kenningref09.Has, Check, Canonical, Canon, Numbers, Compare. -/
namespace Go.Proofs.YtcedofkenfddkaaDoor
set_option linter.unusedVariables false
set_option linter.unusedSimpArgs false
open Go.RowKit
set_option maxRecDepth 100000
def kfn : PV := .cp [.fn (.func 90) [] []] 0
attribute [go_sem] kfn
theorem vfind1_c (e : En) (r : Nat) : Cn Tryd.prog 92 [ep e, .v (.int .u64 r), kfn] (.v (.int .i64 (if e.rep < r then -1 else if r < e.rep then 1 else 0))) := by
  refine cn_go Tryd.func92 [] 3 (by kernel_rfl) rfl (by simp [go_sem, seval]) ?_
  conv => arg 4; cbv
  conv => enter [5, 1]; cbv
  try simp (maxSteps := 2000000) (disch := omega) only [go_sem, seval]
  try repeat ((with_reducible refine And.intro ?_ ?_); focus (first | omega | assumption | exact True.intro | (show anyD _ _ = true; exact rfl) | (simp only [List.length_map, List.length_append, List.length_cons, List.length_nil, List.length_take, List.length_drop]; omega)))
  (first | refine callP.mk (key_c r e) rfl ?_ | refine callQ.mk (key_c r e) rfl ?_ | refine callO.rd (key_c r e) rfl ?_ | refine callO.mk (key_c r e) rfl ?_)
  try simp (maxSteps := 2000000) (disch := omega) only [go_sem, seval]
  try repeat ((with_reducible refine And.intro ?_ ?_); focus (first | omega | assumption | exact True.intro | (show anyD _ _ = true; exact rfl) | (simp only [List.length_map, List.length_append, List.length_cons, List.length_nil, List.length_take, List.length_drop]; omega)))
theorem bsfV_c (v : List En) (r : Nat) (i : Nat) (hi : i ≤ v.length) (h1 : ∀ j, (h : j < v.length) → j < i → v[j].rep < r) (h2 : ∀ j, (h : j < v.length) → i ≤ j → r ≤ v[j].rep) (hl : v.length ≤ 1152921504606846976) :
    Cn Tryd.prog 91 [vp v, .v (.int .u64 r), .fn (.func 92) [] [kfn]] (.tup [.v (.int .i64 i), .v (.bool (if h : i < v.length then decide (v[i].rep = r) else false))]) := by
  refine cn_go Tryd.func91 [] 3 (by kernel_rfl) rfl (by simp [go_sem, seval]) ?_
  conv => arg 4; cbv
  conv => enter [5, 1]; cbv
  try simp (maxSteps := 2000000) (disch := omega) only [go_sem, seval]
  try repeat ((with_reducible refine And.intro ?_ ?_); focus (first | omega | assumption | exact True.intro | (show anyD _ _ = true; exact rfl) | (simp only [List.length_map, List.length_append, List.length_cons, List.length_nil, List.length_take, List.length_drop]; omega)))
  refine pLoop.go (fun p : Nat × Nat => p.1 ≤ i ∧ i ≤ p.2 ∧ p.2 ≤ v.length) (fun p => [(9, .v (.int .i64 (p.1 : Nat))), (10, .v (.int .i64 (p.2 : Nat)))]) (fun _ => []) (fun p => p.2 - p.1) (0, v.length) [9, 10] ?_ ?_ ?_
  · exact ⟨Nat.zero_le _, hi, Nat.le_refl _⟩
  · try simp (maxSteps := 2000000) (disch := omega) only [go_sem, seval]
    try repeat ((with_reducible refine And.intro ?_ ?_); focus (first | omega | assumption | exact True.intro | (show anyD _ _ = true; exact rfl) | (simp only [List.length_map, List.length_append, List.length_cons, List.length_nil, List.length_take, List.length_drop]; omega)))
  · rintro ⟨p, q⟩ ⟨k1, k2, k3⟩
    simp only at k1 k2 k3
    try simp (maxSteps := 2000000) (disch := omega) only [go_sem, seval]
    try repeat ((with_reducible refine And.intro ?_ ?_); focus (first | omega | assumption | exact True.intro | (show anyD _ _ = true; exact rfl) | (simp only [List.length_map, List.length_append, List.length_cons, List.length_nil, List.length_take, List.length_drop]; omega)))
    (first | refine brP.mk (fun h => ?_) (fun h => ?_) | refine gdP.mkt (fun h => ?_) (fun h => ?_) | refine gdP.mkf (fun h => ?_) (fun h => ?_) | refine pkP.mk (fun h => ?_) (fun h => ?_)) <;> (try simp only [Bool.not_true, Bool.not_false, decide_eq_true_eq, decide_eq_false_iff_not, Bool.and_eq_true, Bool.or_eq_true, Bool.not_eq_true', Bool.not_eq_false', Bool.and_eq_false_iff, Bool.or_eq_false_iff, Nat.not_lt, Int.not_lt, Nat.not_le, Int.not_le, Int.ofNat_lt, Int.ofNat_le, Int.ofNat_inj, Bool.xor_false, Bool.false_xor, Bool.true_xor, Bool.xor_true] at h) <;> (try simp (maxSteps := 2000000) (disch := omega) only [go_sem, seval]) <;> (try repeat ((with_reducible refine And.intro ?_ ?_); focus (first | omega | assumption | exact True.intro | (show anyD _ _ = true; exact rfl) | (simp only [List.length_map, List.length_append, List.length_cons, List.length_nil, List.length_take, List.length_drop]; omega))))
    · have hm : (p + q) / 2 < v.length := by omega
      have a1 := h1 _ hm
      have a2 := h2 _ hm
      try simp (maxSteps := 2000000) (disch := omega) only [go_sem, seval]
      try repeat ((with_reducible refine And.intro ?_ ?_); focus (first | omega | assumption | exact True.intro | (show anyD _ _ = true; exact rfl) | (simp only [List.length_map, List.length_append, List.length_cons, List.length_nil, List.length_take, List.length_drop]; omega)))
      (first | refine callP.mk (vfind1_c v[(p + q) / 2] r) rfl ?_ | refine callQ.mk (vfind1_c v[(p + q) / 2] r) rfl ?_ | refine callO.rd (vfind1_c v[(p + q) / 2] r) rfl ?_ | refine callO.mk (vfind1_c v[(p + q) / 2] r) rfl ?_)
      try simp (maxSteps := 2000000) (disch := omega) only [go_sem, seval]
      try repeat ((with_reducible refine And.intro ?_ ?_); focus (first | omega | assumption | exact True.intro | (show anyD _ _ = true; exact rfl) | (simp only [List.length_map, List.length_append, List.length_cons, List.length_nil, List.length_take, List.length_drop]; omega)))
      (first | refine brP.mk (fun h4 => ?_) (fun h4 => ?_) | refine gdP.mkt (fun h4 => ?_) (fun h4 => ?_) | refine gdP.mkf (fun h4 => ?_) (fun h4 => ?_) | refine pkP.mk (fun h4 => ?_) (fun h4 => ?_)) <;> (try simp only [Bool.not_true, Bool.not_false, decide_eq_true_eq, decide_eq_false_iff_not, Bool.and_eq_true, Bool.or_eq_true, Bool.not_eq_true', Bool.not_eq_false', Bool.and_eq_false_iff, Bool.or_eq_false_iff, Nat.not_lt, Int.not_lt, Nat.not_le, Int.not_le, Int.ofNat_lt, Int.ofNat_le, Int.ofNat_inj, Bool.xor_false, Bool.false_xor, Bool.true_xor, Bool.xor_true] at h4) <;> (try simp (maxSteps := 2000000) (disch := omega) only [go_sem, seval]) <;> (try repeat ((with_reducible refine And.intro ?_ ?_); focus (first | omega | assumption | exact True.intro | (show anyD _ _ = true; exact rfl) | (simp only [List.length_map, List.length_append, List.length_cons, List.length_nil, List.length_take, List.length_drop]; omega))))
      · refine ⟨((p + q) / 2 + 1, q), ⟨?_, k2, k3⟩, by simp only; omega, rfl, rfl⟩
        simp only
        refine Nat.lt_of_not_le fun h5 => ?_
        have := a2 h5
        rw [if_neg (by omega)] at h4
        split at h4 <;> omega
      · refine ⟨(p, (p + q) / 2), ⟨k1, ?_, by simp only; omega⟩, by simp only; omega, rfl, rfl⟩
        simp only
        refine Nat.le_of_not_lt fun h5 => ?_
        have := a1 h5
        rw [if_pos this] at h4
        omega
    · obtain rfl : p = i := by omega
      obtain rfl : q = p := by omega
      (first | refine brP.mk (fun h4 => ?_) (fun h4 => ?_) | refine gdP.mkt (fun h4 => ?_) (fun h4 => ?_) | refine gdP.mkf (fun h4 => ?_) (fun h4 => ?_) | refine pkP.mk (fun h4 => ?_) (fun h4 => ?_)) <;> (try simp only [Bool.not_true, Bool.not_false, decide_eq_true_eq, decide_eq_false_iff_not, Bool.and_eq_true, Bool.or_eq_true, Bool.not_eq_true', Bool.not_eq_false', Bool.and_eq_false_iff, Bool.or_eq_false_iff, Nat.not_lt, Int.not_lt, Nat.not_le, Int.not_le, Int.ofNat_lt, Int.ofNat_le, Int.ofNat_inj, Bool.xor_false, Bool.false_xor, Bool.true_xor, Bool.xor_true] at h4) <;> (try simp (maxSteps := 2000000) (disch := omega) only [go_sem, seval]) <;> (try repeat ((with_reducible refine And.intro ?_ ?_); focus (first | omega | assumption | exact True.intro | (show anyD _ _ = true; exact rfl) | (simp only [List.length_map, List.length_append, List.length_cons, List.length_nil, List.length_take, List.length_drop]; omega))))
      · (first | refine callP.mk (vfind1_c v[q] r) rfl ?_ | refine callQ.mk (vfind1_c v[q] r) rfl ?_ | refine callO.rd (vfind1_c v[q] r) rfl ?_ | refine callO.mk (vfind1_c v[q] r) rfl ?_)
        try simp (maxSteps := 2000000) (disch := omega) only [go_sem, seval]
        try repeat ((with_reducible refine And.intro ?_ ?_); focus (first | omega | assumption | exact True.intro | (show anyD _ _ = true; exact rfl) | (simp only [List.length_map, List.length_append, List.length_cons, List.length_nil, List.length_take, List.length_drop]; omega)))
        have a2 := h2 _ h4 (Nat.le_refl _)
        rw [dif_pos h4, if_neg (by omega)]
        by_cases h5 : v[q].rep = r
        · rw [if_neg (by omega), decide_eq_true h5]
          simp
        · rw [if_pos (by omega), decide_eq_false h5]
          simp
      · rw [dif_neg (by omega)]
theorem vfind_c (v : List En) (r : Nat) (hr : RightV v) (hl : v.length ≤ 1152921504606846976) : Cn Tryd.prog 47 [vp v, .v (.int .u64 r)] (.v (.int .i64 (fdV r 0 v))) := by
  obtain ⟨i, hi, h1, h2⟩ := part_rep hr r
  rw [fdV_part hr h1 h2]
  refine cn_go Tryd.func47 [] 2 (by kernel_rfl) rfl (by simp [go_sem, seval]) ?_
  conv => arg 4; cbv
  conv => enter [5, 1]; cbv
  try simp (maxSteps := 2000000) (disch := omega) only [go_sem, seval]
  try repeat ((with_reducible refine And.intro ?_ ?_); focus (first | omega | assumption | exact True.intro | (show anyD _ _ = true; exact rfl) | (simp only [List.length_map, List.length_append, List.length_cons, List.length_nil, List.length_take, List.length_drop]; omega)))
  (first | refine callP.mk (bsfV_c v r i hi h1 h2 hl) rfl ?_ | refine callQ.mk (bsfV_c v r i hi h1 h2 hl) rfl ?_ | refine callO.rd (bsfV_c v r i hi h1 h2 hl) rfl ?_ | refine callO.mk (bsfV_c v r i hi h1 h2 hl) rfl ?_)
  try simp (maxSteps := 2000000) (disch := omega) only [go_sem, seval]
  try repeat ((with_reducible refine And.intro ?_ ?_); focus (first | omega | assumption | exact True.intro | (show anyD _ _ = true; exact rfl) | (simp only [List.length_map, List.length_append, List.length_cons, List.length_nil, List.length_take, List.length_drop]; omega)))
  by_cases h : i < v.length
  · rw [dif_pos h, dif_pos h]
    (first | refine brP.mk (fun h3 => ?_) (fun h3 => ?_) | refine gdP.mkt (fun h3 => ?_) (fun h3 => ?_) | refine gdP.mkf (fun h3 => ?_) (fun h3 => ?_) | refine pkP.mk (fun h3 => ?_) (fun h3 => ?_)) <;> (try simp only [Bool.not_true, Bool.not_false, decide_eq_true_eq, decide_eq_false_iff_not, Bool.and_eq_true, Bool.or_eq_true, Bool.not_eq_true', Bool.not_eq_false', Bool.and_eq_false_iff, Bool.or_eq_false_iff, Nat.not_lt, Int.not_lt, Nat.not_le, Int.not_le, Int.ofNat_lt, Int.ofNat_le, Int.ofNat_inj, Bool.xor_false, Bool.false_xor, Bool.true_xor, Bool.xor_true] at h3) <;> (try simp (maxSteps := 2000000) (disch := omega) only [go_sem, seval]) <;> (try repeat ((with_reducible refine And.intro ?_ ?_); focus (first | omega | assumption | exact True.intro | (show anyD _ _ = true; exact rfl) | (simp only [List.length_map, List.length_append, List.length_cons, List.length_nil, List.length_take, List.length_drop]; omega))))
    · rw [if_neg h3]
    · rw [if_pos h3]
  · rw [dif_neg h, dif_neg h]
    try simp (maxSteps := 2000000) (disch := omega) only [go_sem, seval]
    try repeat ((with_reducible refine And.intro ?_ ?_); focus (first | omega | assumption | exact True.intro | (show anyD _ _ = true; exact rfl) | (simp only [List.length_map, List.length_append, List.length_cons, List.length_nil, List.length_take, List.length_drop]; omega)))
theorem vhas_c (v : List En) (r c : Nat) (hr : RightV v) (hc : c < M64) (hl : v.length ≤ 1152921504606846976) (hh : ∀ e ∈ v, e.holes.length ≤ 1152921504606846976) : Cn Tryd.prog 49 [vp v, .v (.int .u64 r), .v (.int .u64 c)] (.v (.bool (mem (knV v r) c))) := by
  refine cn_go Tryd.func49 [] 3 (by kernel_rfl) rfl (by simp [go_sem, seval]) ?_
  conv => arg 4; cbv
  conv => enter [5, 1]; cbv
  try simp (maxSteps := 2000000) (disch := omega) only [go_sem, seval]
  try repeat ((with_reducible refine And.intro ?_ ?_); focus (first | omega | assumption | exact True.intro | (show anyD _ _ = true; exact rfl) | (simp only [List.length_map, List.length_append, List.length_cons, List.length_nil, List.length_take, List.length_drop]; omega)))
  (first | refine callP.mk (vfind_c v r hr hl) rfl ?_ | refine callQ.mk (vfind_c v r hr hl) rfl ?_ | refine callO.rd (vfind_c v r hr hl) rfl ?_ | refine callO.mk (vfind_c v r hr hl) rfl ?_)
  rcases fdV_spec r v 0 with ⟨e1, e2⟩ | ⟨i, hi, e1, e2⟩
  · rw [e1, knV_none e2]
    try simp (maxSteps := 2000000) (disch := omega) only [go_sem, seval]
    try repeat ((with_reducible refine And.intro ?_ ?_); focus (first | omega | assumption | exact True.intro | (show anyD _ _ = true; exact rfl) | (simp only [List.length_map, List.length_append, List.length_cons, List.length_nil, List.length_take, List.length_drop]; omega)))
    rfl
  · rw [e1, knV_fd hr hi e2, kn_mem (hr.1 _ (List.getElem_mem hi)) hc, Nat.zero_add]
    try simp (maxSteps := 2000000) (disch := omega) only [go_sem, seval]
    try repeat ((with_reducible refine And.intro ?_ ?_); focus (first | omega | assumption | exact True.intro | (show anyD _ _ = true; exact rfl) | (simp only [List.length_map, List.length_append, List.length_cons, List.length_nil, List.length_take, List.length_drop]; omega)))
    (first | refine callP.mk (ehas_c v[i] c (hr.1 _ (List.getElem_mem hi)) (hh _ (List.getElem_mem hi))) rfl ?_ | refine callQ.mk (ehas_c v[i] c (hr.1 _ (List.getElem_mem hi)) (hh _ (List.getElem_mem hi))) rfl ?_ | refine callO.rd (ehas_c v[i] c (hr.1 _ (List.getElem_mem hi)) (hh _ (List.getElem_mem hi))) rfl ?_ | refine callO.mk (ehas_c v[i] c (hr.1 _ (List.getElem_mem hi)) (hh _ (List.getElem_mem hi))) rfl ?_)
    try simp (maxSteps := 2000000) (disch := omega) only [go_sem, seval]
    try repeat ((with_reducible refine And.intro ?_ ?_); focus (first | omega | assumption | exact True.intro | (show anyD _ _ = true; exact rfl) | (simp only [List.length_map, List.length_append, List.length_cons, List.length_nil, List.length_take, List.length_drop]; omega)))
theorem refHas_c (v : List En) (r c : Nat) (hr : RightV v) (hc : c < M64) (hl : v.length ≤ 1152921504606846976) (hh : ∀ e ∈ v, e.holes.length ≤ 1152921504606846976) : Cn Tryd.prog 50 [vp v, .v (.int .u64 r), .v (.int .u64 c)] (.v (.bool (mem (knV v r) c))) := by
  refine cn_go Tryd.func50 [] 3 (by kernel_rfl) rfl (by simp [go_sem, seval]) ?_
  conv => arg 4; cbv
  conv => enter [5, 1]; cbv
  try simp (maxSteps := 2000000) (disch := omega) only [go_sem, seval]
  try repeat ((with_reducible refine And.intro ?_ ?_); focus (first | omega | assumption | exact True.intro | (show anyD _ _ = true; exact rfl) | (simp only [List.length_map, List.length_append, List.length_cons, List.length_nil, List.length_take, List.length_drop]; omega)))
  (first | refine callP.mk (refFind_c v r hl) rfl ?_ | refine callQ.mk (refFind_c v r hl) rfl ?_ | refine callO.rd (refFind_c v r hl) rfl ?_ | refine callO.mk (refFind_c v r hl) rfl ?_)
  rcases fdV_spec r v 0 with ⟨e1, e2⟩ | ⟨i, hi, e1, e2⟩
  · rw [e1, knV_none e2]
    try simp (maxSteps := 2000000) (disch := omega) only [go_sem, seval]
    try repeat ((with_reducible refine And.intro ?_ ?_); focus (first | omega | assumption | exact True.intro | (show anyD _ _ = true; exact rfl) | (simp only [List.length_map, List.length_append, List.length_cons, List.length_nil, List.length_take, List.length_drop]; omega)))
    rfl
  · rw [e1, knV_fd hr hi e2, kn_mem (hr.1 _ (List.getElem_mem hi)) hc, Nat.zero_add]
    try simp (maxSteps := 2000000) (disch := omega) only [go_sem, seval]
    try repeat ((with_reducible refine And.intro ?_ ?_); focus (first | omega | assumption | exact True.intro | (show anyD _ _ = true; exact rfl) | (simp only [List.length_map, List.length_append, List.length_cons, List.length_nil, List.length_take, List.length_drop]; omega)))
    (first | refine callP.mk (has7_c v[i] c (hh _ (List.getElem_mem hi))) rfl ?_ | refine callQ.mk (has7_c v[i] c (hh _ (List.getElem_mem hi))) rfl ?_ | refine callO.rd (has7_c v[i] c (hh _ (List.getElem_mem hi))) rfl ?_ | refine callO.mk (has7_c v[i] c (hh _ (List.getElem_mem hi))) rfl ?_)
    try simp (maxSteps := 2000000) (disch := omega) only [go_sem, seval]
    try repeat ((with_reducible refine And.intro ?_ ?_); focus (first | omega | assumption | exact True.intro | (show anyD _ _ = true; exact rfl) | (simp only [List.length_map, List.length_append, List.length_cons, List.length_nil, List.length_take, List.length_drop]; omega)))
theorem refCheck_c (v : List En) (hb : ∀ e ∈ v, BdE e) (hl : v.length ≤ 1152921504606846976) (hh : ∀ e ∈ v, e.holes.length ≤ 1152921504606846976) : Cn Tryd.prog 58 [vp v] (.tup [.v (.int .i64 (chkV v).1), .v (.int .i64 (chkV v).2)]) := by
  refine cn_go Tryd.func58 [] 1 (by kernel_rfl) rfl (by simp [go_sem, seval]) ?_
  conv => arg 4; cbv
  conv => enter [5, 1]; cbv
  try simp (maxSteps := 2000000) (disch := omega) only [go_sem, seval]
  try repeat ((with_reducible refine And.intro ?_ ?_); focus (first | omega | assumption | exact True.intro | (show anyD _ _ = true; exact rfl) | (simp only [List.length_map, List.length_append, List.length_cons, List.length_nil, List.length_take, List.length_drop]; omega)))
  refine pLoop.go (fun k => k ≤ v.length ∧ chkV v = hkV v k (v.drop k)) (fun k => [(4, .v (.int .i64 (k : Nat)))]) (fun _ => []) (fun k => v.length - k) 0 [4] ?_ ?_ ?_
  · exact ⟨Nat.zero_le _, rfl⟩
  · try simp (maxSteps := 2000000) (disch := omega) only [go_sem, seval]
    try repeat ((with_reducible refine And.intro ?_ ?_); focus (first | omega | assumption | exact True.intro | (show anyD _ _ = true; exact rfl) | (simp only [List.length_map, List.length_append, List.length_cons, List.length_nil, List.length_take, List.length_drop]; omega)))
  · rintro k ⟨hk, hm⟩
    try simp (maxSteps := 2000000) (disch := omega) only [go_sem, seval]
    try repeat ((with_reducible refine And.intro ?_ ?_); focus (first | omega | assumption | exact True.intro | (show anyD _ _ = true; exact rfl) | (simp only [List.length_map, List.length_append, List.length_cons, List.length_nil, List.length_take, List.length_drop]; omega)))
    (first | refine brP.mk (fun h => ?_) (fun h => ?_) | refine gdP.mkt (fun h => ?_) (fun h => ?_) | refine gdP.mkf (fun h => ?_) (fun h => ?_) | refine pkP.mk (fun h => ?_) (fun h => ?_)) <;> (try simp only [Bool.not_true, Bool.not_false, decide_eq_true_eq, decide_eq_false_iff_not, Bool.and_eq_true, Bool.or_eq_true, Bool.not_eq_true', Bool.not_eq_false', Bool.and_eq_false_iff, Bool.or_eq_false_iff, Nat.not_lt, Int.not_lt, Nat.not_le, Int.not_le, Int.ofNat_lt, Int.ofNat_le, Int.ofNat_inj, Bool.xor_false, Bool.false_xor, Bool.true_xor, Bool.xor_true] at h) <;> (try simp (maxSteps := 2000000) (disch := omega) only [go_sem, seval]) <;> (try repeat ((with_reducible refine And.intro ?_ ?_); focus (first | omega | assumption | exact True.intro | (show anyD _ _ = true; exact rfl) | (simp only [List.length_map, List.length_append, List.length_cons, List.length_nil, List.length_take, List.length_drop]; omega))))
    · rw [List.drop_eq_getElem_cons h, hkV] at hm
      try simp (maxSteps := 2000000) (disch := omega) only [go_sem, seval]
      try repeat ((with_reducible refine And.intro ?_ ?_); focus (first | omega | assumption | exact True.intro | (show anyD _ _ = true; exact rfl) | (simp only [List.length_map, List.length_append, List.length_cons, List.length_nil, List.length_take, List.length_drop]; omega)))
      (first | refine callP.mk (check7_c v[k] (hh _ (List.getElem_mem h)) (hb _ (List.getElem_mem h)).1) rfl ?_ | refine callQ.mk (check7_c v[k] (hh _ (List.getElem_mem h)) (hb _ (List.getElem_mem h)).1) rfl ?_ | refine callO.rd (check7_c v[k] (hh _ (List.getElem_mem h)) (hb _ (List.getElem_mem h)).1) rfl ?_ | refine callO.mk (check7_c v[k] (hh _ (List.getElem_mem h)) (hb _ (List.getElem_mem h)).1) rfl ?_)
      try simp (maxSteps := 2000000) (disch := omega) only [go_sem, seval]
      try repeat ((with_reducible refine And.intro ?_ ?_); focus (first | omega | assumption | exact True.intro | (show anyD _ _ = true; exact rfl) | (simp only [List.length_map, List.length_append, List.length_cons, List.length_nil, List.length_take, List.length_drop]; omega)))
      (first | refine brP.mk (fun h2 => ?_) (fun h2 => ?_) | refine gdP.mkt (fun h2 => ?_) (fun h2 => ?_) | refine gdP.mkf (fun h2 => ?_) (fun h2 => ?_) | refine pkP.mk (fun h2 => ?_) (fun h2 => ?_)) <;> (try simp only [Bool.not_true, Bool.not_false, decide_eq_true_eq, decide_eq_false_iff_not, Bool.and_eq_true, Bool.or_eq_true, Bool.not_eq_true', Bool.not_eq_false', Bool.and_eq_false_iff, Bool.or_eq_false_iff, Nat.not_lt, Int.not_lt, Nat.not_le, Int.not_le, Int.ofNat_lt, Int.ofNat_le, Int.ofNat_inj, Bool.xor_false, Bool.false_xor, Bool.true_xor, Bool.xor_true] at h2) <;> (try simp (maxSteps := 2000000) (disch := omega) only [go_sem, seval]) <;> (try repeat ((with_reducible refine And.intro ?_ ?_); focus (first | omega | assumption | exact True.intro | (show anyD _ _ = true; exact rfl) | (simp only [List.length_map, List.length_append, List.length_cons, List.length_nil, List.length_take, List.length_drop]; omega))))
      · rw [if_pos (by omega)] at hm
        rw [hm]
      · rw [if_neg (by omega)] at hm
        (first | refine brP.mk (fun h3 => ?_) (fun h3 => ?_) | refine gdP.mkt (fun h3 => ?_) (fun h3 => ?_) | refine gdP.mkf (fun h3 => ?_) (fun h3 => ?_) | refine pkP.mk (fun h3 => ?_) (fun h3 => ?_)) <;> (try simp only [Bool.not_true, Bool.not_false, decide_eq_true_eq, decide_eq_false_iff_not, Bool.and_eq_true, Bool.or_eq_true, Bool.not_eq_true', Bool.not_eq_false', Bool.and_eq_false_iff, Bool.or_eq_false_iff, Nat.not_lt, Int.not_lt, Nat.not_le, Int.not_le, Int.ofNat_lt, Int.ofNat_le, Int.ofNat_inj, Bool.xor_false, Bool.false_xor, Bool.true_xor, Bool.xor_true] at h3) <;> (try simp (maxSteps := 2000000) (disch := omega) only [go_sem, seval]) <;> (try repeat ((with_reducible refine And.intro ?_ ?_); focus (first | omega | assumption | exact True.intro | (show anyD _ _ = true; exact rfl) | (simp only [List.length_map, List.length_append, List.length_cons, List.length_nil, List.length_take, List.length_drop]; omega))))
        · have hp := prv_at (v := v) (k := k) (by omega)
          rw [hp] at hm
          try simp (maxSteps := 2000000) (disch := omega) only [go_sem, seval]
          try repeat ((with_reducible refine And.intro ?_ ?_); focus (first | omega | assumption | exact True.intro | (show anyD _ _ = true; exact rfl) | (simp only [List.length_map, List.length_append, List.length_cons, List.length_nil, List.length_take, List.length_drop]; omega)))
          (first | refine brP.mk (fun h4 => ?_) (fun h4 => ?_) | refine gdP.mkt (fun h4 => ?_) (fun h4 => ?_) | refine gdP.mkf (fun h4 => ?_) (fun h4 => ?_) | refine pkP.mk (fun h4 => ?_) (fun h4 => ?_)) <;> (try simp only [Bool.not_true, Bool.not_false, decide_eq_true_eq, decide_eq_false_iff_not, Bool.and_eq_true, Bool.or_eq_true, Bool.not_eq_true', Bool.not_eq_false', Bool.and_eq_false_iff, Bool.or_eq_false_iff, Nat.not_lt, Int.not_lt, Nat.not_le, Int.not_le, Int.ofNat_lt, Int.ofNat_le, Int.ofNat_inj, Bool.xor_false, Bool.false_xor, Bool.true_xor, Bool.xor_true] at h4) <;> (try simp (maxSteps := 2000000) (disch := omega) only [go_sem, seval]) <;> (try repeat ((with_reducible refine And.intro ?_ ?_); focus (first | omega | assumption | exact True.intro | (show anyD _ _ = true; exact rfl) | (simp only [List.length_map, List.length_append, List.length_cons, List.length_nil, List.length_take, List.length_drop]; omega))))
          · rw [if_pos ⟨h3, h4⟩] at hm
            rw [hm]
            rfl
          · rw [if_neg (fun h => by omega)] at hm
            exact ⟨k + 1, ⟨h, hm⟩, by omega, rfl⟩
        · rw [if_neg (fun h => by omega)] at hm
          exact ⟨k + 1, ⟨h, hm⟩, by omega, rfl⟩
    · rw [hm, List.drop_of_length_le (by omega)]
      rfl
theorem rightV_c (v : List En) (hb : ∀ e ∈ v, BdE e) (hl : v.length ≤ 1152921504606846976) (hh : ∀ e ∈ v, e.holes.length ≤ 1152921504606846976) : Cn Tryd.prog 45 [vp v] (.v (.bool (decide ((chkV v).1 = 0)))) := by
  refine cn_go Tryd.func45 [] 1 (by kernel_rfl) rfl (by simp [go_sem, seval]) ?_
  conv => arg 4; cbv
  conv => enter [5, 1]; cbv
  try simp (maxSteps := 2000000) (disch := omega) only [go_sem, seval]
  try repeat ((with_reducible refine And.intro ?_ ?_); focus (first | omega | assumption | exact True.intro | (show anyD _ _ = true; exact rfl) | (simp only [List.length_map, List.length_append, List.length_cons, List.length_nil, List.length_take, List.length_drop]; omega)))
  (first | refine callP.mk (refCheck_c v hb hl hh) rfl ?_ | refine callQ.mk (refCheck_c v hb hl hh) rfl ?_ | refine callO.rd (refCheck_c v hb hl hh) rfl ?_ | refine callO.mk (refCheck_c v hb hl hh) rfl ?_)
  try simp (maxSteps := 2000000) (disch := omega) only [go_sem, seval]
  try repeat ((with_reducible refine And.intro ?_ ?_); focus (first | omega | assumption | exact True.intro | (show anyD _ _ = true; exact rfl) | (simp only [List.length_map, List.length_append, List.length_cons, List.length_nil, List.length_take, List.length_drop]; omega)))
theorem vcheck_c (v : List En) (hb : ∀ e ∈ v, BdE e) (hl : v.length ≤ 1152921504606846976) (hh : ∀ e ∈ v, e.holes.length ≤ 1152921504606846976) : Cn Tryd.prog 57 [vp v] (errV (chkV v).1 (chkV v).2) := by
  refine cn_go Tryd.func57 [] 1 (by kernel_rfl) rfl (by simp [go_sem, seval]) ?_
  conv => arg 4; cbv
  conv => enter [5, 1]; cbv
  try simp (maxSteps := 2000000) (disch := omega) only [go_sem, seval]
  try repeat ((with_reducible refine And.intro ?_ ?_); focus (first | omega | assumption | exact True.intro | (show anyD _ _ = true; exact rfl) | (simp only [List.length_map, List.length_append, List.length_cons, List.length_nil, List.length_take, List.length_drop]; omega)))
  refine pLoop.go (fun k => k ≤ v.length ∧ chkV v = hkV v k (v.drop k)) (fun k => [(8, .v (.int .i64 (k : Nat)))]) (fun _ => []) (fun k => v.length - k) 0 [8] ?_ ?_ ?_
  · exact ⟨Nat.zero_le _, rfl⟩
  · try simp (maxSteps := 2000000) (disch := omega) only [go_sem, seval]
    try repeat ((with_reducible refine And.intro ?_ ?_); focus (first | omega | assumption | exact True.intro | (show anyD _ _ = true; exact rfl) | (simp only [List.length_map, List.length_append, List.length_cons, List.length_nil, List.length_take, List.length_drop]; omega)))
  · rintro k ⟨hk, hm⟩
    try simp (maxSteps := 2000000) (disch := omega) only [go_sem, seval]
    try repeat ((with_reducible refine And.intro ?_ ?_); focus (first | omega | assumption | exact True.intro | (show anyD _ _ = true; exact rfl) | (simp only [List.length_map, List.length_append, List.length_cons, List.length_nil, List.length_take, List.length_drop]; omega)))
    (first | refine brP.mk (fun h => ?_) (fun h => ?_) | refine gdP.mkt (fun h => ?_) (fun h => ?_) | refine gdP.mkf (fun h => ?_) (fun h => ?_) | refine pkP.mk (fun h => ?_) (fun h => ?_)) <;> (try simp only [Bool.not_true, Bool.not_false, decide_eq_true_eq, decide_eq_false_iff_not, Bool.and_eq_true, Bool.or_eq_true, Bool.not_eq_true', Bool.not_eq_false', Bool.and_eq_false_iff, Bool.or_eq_false_iff, Nat.not_lt, Int.not_lt, Nat.not_le, Int.not_le, Int.ofNat_lt, Int.ofNat_le, Int.ofNat_inj, Bool.xor_false, Bool.false_xor, Bool.true_xor, Bool.xor_true] at h) <;> (try simp (maxSteps := 2000000) (disch := omega) only [go_sem, seval]) <;> (try repeat ((with_reducible refine And.intro ?_ ?_); focus (first | omega | assumption | exact True.intro | (show anyD _ _ = true; exact rfl) | (simp only [List.length_map, List.length_append, List.length_cons, List.length_nil, List.length_take, List.length_drop]; omega))))
    · rw [List.drop_eq_getElem_cons h, hkV] at hm
      have hbk := hb _ (List.getElem_mem h)
      have hhk := hh _ (List.getElem_mem h)
      have hco := code_c (chkE v[k]).1 (chkE v[k]).2
      try simp (maxSteps := 2000000) (disch := omega) only [go_sem, seval]
      try repeat ((with_reducible refine And.intro ?_ ?_); focus (first | omega | assumption | exact True.intro | (show anyD _ _ = true; exact rfl) | (simp only [List.length_map, List.length_append, List.length_cons, List.length_nil, List.length_take, List.length_drop]; omega)))
      (first | refine callP.mk (echeck_c v[k] hbk.1 hhk (.inr (codeN_c 2))) rfl ?_ | refine callQ.mk (echeck_c v[k] hbk.1 hhk (.inr (codeN_c 2))) rfl ?_ | refine callO.rd (echeck_c v[k] hbk.1 hhk (.inr (codeN_c 2))) rfl ?_ | refine callO.mk (echeck_c v[k] hbk.1 hhk (.inr (codeN_c 2))) rfl ?_)
      by_cases hz : (chkE v[k]).1 = 0
      · rw [errV_nil hz]
        rw [if_neg (by omega)] at hm
        try simp (maxSteps := 2000000) (disch := omega) only [go_sem, seval]
        try repeat ((with_reducible refine And.intro ?_ ?_); focus (first | omega | assumption | exact True.intro | (show anyD _ _ = true; exact rfl) | (simp only [List.length_map, List.length_append, List.length_cons, List.length_nil, List.length_take, List.length_drop]; omega)))
        (first | refine brP.mk (fun h3 => ?_) (fun h3 => ?_) | refine gdP.mkt (fun h3 => ?_) (fun h3 => ?_) | refine gdP.mkf (fun h3 => ?_) (fun h3 => ?_) | refine pkP.mk (fun h3 => ?_) (fun h3 => ?_)) <;> (try simp only [Bool.not_true, Bool.not_false, decide_eq_true_eq, decide_eq_false_iff_not, Bool.and_eq_true, Bool.or_eq_true, Bool.not_eq_true', Bool.not_eq_false', Bool.and_eq_false_iff, Bool.or_eq_false_iff, Nat.not_lt, Int.not_lt, Nat.not_le, Int.not_le, Int.ofNat_lt, Int.ofNat_le, Int.ofNat_inj, Bool.xor_false, Bool.false_xor, Bool.true_xor, Bool.xor_true] at h3) <;> (try simp (maxSteps := 2000000) (disch := omega) only [go_sem, seval]) <;> (try repeat ((with_reducible refine And.intro ?_ ?_); focus (first | omega | assumption | exact True.intro | (show anyD _ _ = true; exact rfl) | (simp only [List.length_map, List.length_append, List.length_cons, List.length_nil, List.length_take, List.length_drop]; omega))))
        · have hp := prv_at (v := v) (k := k) (by omega)
          rw [hp] at hm
          try simp (maxSteps := 2000000) (disch := omega) only [go_sem, seval]
          try repeat ((with_reducible refine And.intro ?_ ?_); focus (first | omega | assumption | exact True.intro | (show anyD _ _ = true; exact rfl) | (simp only [List.length_map, List.length_append, List.length_cons, List.length_nil, List.length_take, List.length_drop]; omega)))
          (first | refine callP.mk (key_c v[k - 1].rep v[k]) rfl ?_ | refine callQ.mk (key_c v[k - 1].rep v[k]) rfl ?_ | refine callO.rd (key_c v[k - 1].rep v[k]) rfl ?_ | refine callO.mk (key_c v[k - 1].rep v[k]) rfl ?_)
          try simp (maxSteps := 2000000) (disch := omega) only [go_sem, seval]
          try repeat ((with_reducible refine And.intro ?_ ?_); focus (first | omega | assumption | exact True.intro | (show anyD _ _ = true; exact rfl) | (simp only [List.length_map, List.length_append, List.length_cons, List.length_nil, List.length_take, List.length_drop]; omega)))
          (first | refine brP.mk (fun h4 => ?_) (fun h4 => ?_) | refine gdP.mkt (fun h4 => ?_) (fun h4 => ?_) | refine gdP.mkf (fun h4 => ?_) (fun h4 => ?_) | refine pkP.mk (fun h4 => ?_) (fun h4 => ?_)) <;> (try simp only [Bool.not_true, Bool.not_false, decide_eq_true_eq, decide_eq_false_iff_not, Bool.and_eq_true, Bool.or_eq_true, Bool.not_eq_true', Bool.not_eq_false', Bool.and_eq_false_iff, Bool.or_eq_false_iff, Nat.not_lt, Int.not_lt, Nat.not_le, Int.not_le, Int.ofNat_lt, Int.ofNat_le, Int.ofNat_inj, Bool.xor_false, Bool.false_xor, Bool.true_xor, Bool.xor_true] at h4) <;> (try simp (maxSteps := 2000000) (disch := omega) only [go_sem, seval]) <;> (try repeat ((with_reducible refine And.intro ?_ ?_); focus (first | omega | assumption | exact True.intro | (show anyD _ _ = true; exact rfl) | (simp only [List.length_map, List.length_append, List.length_cons, List.length_nil, List.length_take, List.length_drop]; omega))))
          · have h5 : v[k].rep ≤ v[k - 1].rep := by split at h4 <;> (try split at h4) <;> omega
            rw [if_pos ⟨h3, h5⟩] at hm
            rw [hm]
            (first | refine callP.mk (fnew_c 3 k) rfl ?_ | refine callQ.mk (fnew_c 3 k) rfl ?_ | refine callO.rd (fnew_c 3 k) rfl ?_ | refine callO.mk (fnew_c 3 k) rfl ?_)
            try simp (maxSteps := 2000000) (disch := omega) only [go_sem, seval]
            try repeat ((with_reducible refine And.intro ?_ ?_); focus (first | omega | assumption | exact True.intro | (show anyD _ _ = true; exact rfl) | (simp only [List.length_map, List.length_append, List.length_cons, List.length_nil, List.length_take, List.length_drop]; omega)))
            exact errV_sub _ _
          · have h5 : ¬ v[k].rep ≤ v[k - 1].rep := by split at h4 <;> (try split at h4) <;> omega
            rw [if_neg (fun h => by omega)] at hm
            exact ⟨k + 1, ⟨h, hm⟩, by omega, rfl⟩
        · rw [if_neg (fun h => by omega)] at hm
          exact ⟨k + 1, ⟨h, hm⟩, by omega, rfl⟩
      · rw [if_pos hz] at hm
        rw [hm]
        rw [errV_ifc hz] at hco ⊢
        try simp (maxSteps := 2000000) (disch := omega) only [go_sem, seval]
        try repeat ((with_reducible refine And.intro ?_ ?_); focus (first | omega | assumption | exact True.intro | (show anyD _ _ = true; exact rfl) | (simp only [List.length_map, List.length_append, List.length_cons, List.length_nil, List.length_take, List.length_drop]; omega)))
        (first | refine callP.mk (hco) rfl ?_ | refine callQ.mk (hco) rfl ?_ | refine callO.rd (hco) rfl ?_ | refine callO.mk (hco) rfl ?_)
        try simp (maxSteps := 2000000) (disch := omega) only [go_sem, seval]
        try repeat ((with_reducible refine And.intro ?_ ?_); focus (first | omega | assumption | exact True.intro | (show anyD _ _ = true; exact rfl) | (simp only [List.length_map, List.length_append, List.length_cons, List.length_nil, List.length_take, List.length_drop]; omega)))
        (first | refine callP.mk (fnew_c (chkE v[k]).1 k) rfl ?_ | refine callQ.mk (fnew_c (chkE v[k]).1 k) rfl ?_ | refine callO.rd (fnew_c (chkE v[k]).1 k) rfl ?_ | refine callO.mk (fnew_c (chkE v[k]).1 k) rfl ?_)
        try simp (maxSteps := 2000000) (disch := omega) only [go_sem, seval]
        try repeat ((with_reducible refine And.intro ?_ ?_); focus (first | omega | assumption | exact True.intro | (show anyD _ _ = true; exact rfl) | (simp only [List.length_map, List.length_append, List.length_cons, List.length_nil, List.length_take, List.length_drop]; omega)))
        exact errV_sub _ _
    · rw [hm, List.drop_of_length_le (by omega)]
      exact .eq _ rfl
theorem vcan1_c (e : En) (hb : BdE e) (hl : e.holes.length ≤ 1152921504606846976) : Cn Tryd.prog 96 [ep e] (.v (.bool (!(rightEB e && !mem e.holes e.max)))) := by
  refine cn_go Tryd.func96 [] 1 (by kernel_rfl) rfl (by simp [go_sem, seval]) ?_
  conv => arg 4; cbv
  conv => enter [5, 1]; cbv
  try simp (maxSteps := 2000000) (disch := omega) only [go_sem, seval]
  try repeat ((with_reducible refine And.intro ?_ ?_); focus (first | omega | assumption | exact True.intro | (show anyD _ _ = true; exact rfl) | (simp only [List.length_map, List.length_append, List.length_cons, List.length_nil, List.length_take, List.length_drop]; omega)))
  (first | refine callP.mk (ecanonical_c e hb.1 hb.2.1 hb.2.2 hl (.inr (codeN_c 2))) rfl ?_ | refine callQ.mk (ecanonical_c e hb.1 hb.2.1 hb.2.2 hl (.inr (codeN_c 2))) rfl ?_ | refine callO.rd (ecanonical_c e hb.1 hb.2.1 hb.2.2 hl (.inr (codeN_c 2))) rfl ?_ | refine callO.mk (ecanonical_c e hb.1 hb.2.1 hb.2.2 hl (.inr (codeN_c 2))) rfl ?_)
  try simp (maxSteps := 2000000) (disch := omega) only [go_sem, seval]
  try repeat ((with_reducible refine And.intro ?_ ?_); focus (first | omega | assumption | exact True.intro | (show anyD _ _ = true; exact rfl) | (simp only [List.length_map, List.length_append, List.length_cons, List.length_nil, List.length_take, List.length_drop]; omega)))
def ixV : Nat → List En → Int
  | _, [] => -1
  | k, e :: r => if (rightEB e && !mem e.holes e.max) = true then ixV (k + 1) r else (k : Int)
theorem ixV_iff : ∀ (l : List En) (k : Nat), 0 ≤ ixV k l ↔ ¬ l.all (fun e => rightEB e && !mem e.holes e.max) = true
  | [], _ => by simp [ixV]
  | e :: r, k => by
    unfold ixV
    rw [List.all_cons]
    by_cases h : (rightEB e && !mem e.holes e.max) = true
    · rw [if_pos h, ixV_iff r (k + 1), h, Bool.true_and]
    · rw [if_neg h]
      simp only [Bool.not_eq_true] at h
      rw [h]
      simp
theorem vindex_c (v : List En) (hb : ∀ e ∈ v, BdE e) (hl : v.length ≤ 1152921504606846976) (hh : ∀ e ∈ v, e.holes.length ≤ 1152921504606846976) : Cn Tryd.prog 118 [vp v, .fn (.func 96) [] []] (.v (.int .i64 (ixV 0 v))) := by
  refine cn_go Tryd.func118 [] 2 (by kernel_rfl) rfl (by simp [go_sem, seval]) ?_
  conv => arg 4; cbv
  conv => enter [5, 1]; cbv
  try simp (maxSteps := 2000000) (disch := omega) only [go_sem, seval]
  try repeat ((with_reducible refine And.intro ?_ ?_); focus (first | omega | assumption | exact True.intro | (show anyD _ _ = true; exact rfl) | (simp only [List.length_map, List.length_append, List.length_cons, List.length_nil, List.length_take, List.length_drop]; omega)))
  refine pLoop.go (fun k => k ≤ v.length ∧ ixV 0 v = ixV k (v.drop k)) (fun k => [(8, .v (.int .i64 (k : Nat)))]) (fun _ => []) (fun k => v.length - k) 0 [8] ?_ ?_ ?_
  · exact ⟨Nat.zero_le _, rfl⟩
  · try simp (maxSteps := 2000000) (disch := omega) only [go_sem, seval]
    try repeat ((with_reducible refine And.intro ?_ ?_); focus (first | omega | assumption | exact True.intro | (show anyD _ _ = true; exact rfl) | (simp only [List.length_map, List.length_append, List.length_cons, List.length_nil, List.length_take, List.length_drop]; omega)))
  · rintro k ⟨hk, hm⟩
    try simp (maxSteps := 2000000) (disch := omega) only [go_sem, seval]
    try repeat ((with_reducible refine And.intro ?_ ?_); focus (first | omega | assumption | exact True.intro | (show anyD _ _ = true; exact rfl) | (simp only [List.length_map, List.length_append, List.length_cons, List.length_nil, List.length_take, List.length_drop]; omega)))
    (first | refine brP.mk (fun h => ?_) (fun h => ?_) | refine gdP.mkt (fun h => ?_) (fun h => ?_) | refine gdP.mkf (fun h => ?_) (fun h => ?_) | refine pkP.mk (fun h => ?_) (fun h => ?_)) <;> (try simp only [Bool.not_true, Bool.not_false, decide_eq_true_eq, decide_eq_false_iff_not, Bool.and_eq_true, Bool.or_eq_true, Bool.not_eq_true', Bool.not_eq_false', Bool.and_eq_false_iff, Bool.or_eq_false_iff, Nat.not_lt, Int.not_lt, Nat.not_le, Int.not_le, Int.ofNat_lt, Int.ofNat_le, Int.ofNat_inj, Bool.xor_false, Bool.false_xor, Bool.true_xor, Bool.xor_true] at h) <;> (try simp (maxSteps := 2000000) (disch := omega) only [go_sem, seval]) <;> (try repeat ((with_reducible refine And.intro ?_ ?_); focus (first | omega | assumption | exact True.intro | (show anyD _ _ = true; exact rfl) | (simp only [List.length_map, List.length_append, List.length_cons, List.length_nil, List.length_take, List.length_drop]; omega))))
    · rw [List.drop_eq_getElem_cons h, ixV] at hm
      try simp (maxSteps := 2000000) (disch := omega) only [go_sem, seval]
      try repeat ((with_reducible refine And.intro ?_ ?_); focus (first | omega | assumption | exact True.intro | (show anyD _ _ = true; exact rfl) | (simp only [List.length_map, List.length_append, List.length_cons, List.length_nil, List.length_take, List.length_drop]; omega)))
      (first | refine callP.mk (vcan1_c v[k] (hb _ (List.getElem_mem h)) (hh _ (List.getElem_mem h))) rfl ?_ | refine callQ.mk (vcan1_c v[k] (hb _ (List.getElem_mem h)) (hh _ (List.getElem_mem h))) rfl ?_ | refine callO.rd (vcan1_c v[k] (hb _ (List.getElem_mem h)) (hh _ (List.getElem_mem h))) rfl ?_ | refine callO.mk (vcan1_c v[k] (hb _ (List.getElem_mem h)) (hh _ (List.getElem_mem h))) rfl ?_)
      by_cases h2 : (rightEB v[k] && !mem v[k].holes v[k].max) = true
      · rw [if_pos h2] at hm
        rw [h2]
        try simp (maxSteps := 2000000) (disch := omega) only [go_sem, seval]
        try repeat ((with_reducible refine And.intro ?_ ?_); focus (first | omega | assumption | exact True.intro | (show anyD _ _ = true; exact rfl) | (simp only [List.length_map, List.length_append, List.length_cons, List.length_nil, List.length_take, List.length_drop]; omega)))
        exact ⟨k + 1, ⟨h, hm⟩, by omega, rfl⟩
      · rw [if_neg h2] at hm
        simp only [Bool.not_eq_true] at h2
        rw [h2, hm]
        try simp (maxSteps := 2000000) (disch := omega) only [go_sem, seval]
        try repeat ((with_reducible refine And.intro ?_ ?_); focus (first | omega | assumption | exact True.intro | (show anyD _ _ = true; exact rfl) | (simp only [List.length_map, List.length_append, List.length_cons, List.length_nil, List.length_take, List.length_drop]; omega)))
    · rw [hm, List.drop_of_length_le (by omega)]
      rfl
theorem vcontains_c (v : List En) (hb : ∀ e ∈ v, BdE e) (hl : v.length ≤ 1152921504606846976) (hh : ∀ e ∈ v, e.holes.length ≤ 1152921504606846976) : Cn Tryd.prog 95 [vp v, .fn (.func 96) [] []] (.v (.bool (!v.all (fun e => rightEB e && !mem e.holes e.max)))) := by
  refine cn_go Tryd.func95 [] 2 (by kernel_rfl) rfl (by simp [go_sem, seval]) ?_
  conv => arg 4; cbv
  conv => enter [5, 1]; cbv
  try simp (maxSteps := 2000000) (disch := omega) only [go_sem, seval]
  try repeat ((with_reducible refine And.intro ?_ ?_); focus (first | omega | assumption | exact True.intro | (show anyD _ _ = true; exact rfl) | (simp only [List.length_map, List.length_append, List.length_cons, List.length_nil, List.length_take, List.length_drop]; omega)))
  (first | refine callP.mk (vindex_c v hb hl hh) rfl ?_ | refine callQ.mk (vindex_c v hb hl hh) rfl ?_ | refine callO.rd (vindex_c v hb hl hh) rfl ?_ | refine callO.mk (vindex_c v hb hl hh) rfl ?_)
  try simp (maxSteps := 2000000) (disch := omega) only [go_sem, seval]
  try repeat ((with_reducible refine And.intro ?_ ?_); focus (first | omega | assumption | exact True.intro | (show anyD _ _ = true; exact rfl) | (simp only [List.length_map, List.length_append, List.length_cons, List.length_nil, List.length_take, List.length_drop]; omega)))
  rw [Bool.eq_iff_iff, decide_eq_true_eq, ixV_iff]
  simp
theorem vcanonical_c (v : List En) (hb : ∀ e ∈ v, BdE e) (hl : v.length ≤ 1152921504606846976) (hh : ∀ e ∈ v, e.holes.length ≤ 1152921504606846976) : Cn Tryd.prog 59 [vp v] (.v (.bool (canVB v))) := by
  unfold canVB
  refine cn_go Tryd.func59 [] 1 (by kernel_rfl) rfl (by simp [go_sem, seval]) ?_
  conv => arg 4; cbv
  conv => enter [5, 1]; cbv
  try simp (maxSteps := 2000000) (disch := omega) only [go_sem, seval]
  try repeat ((with_reducible refine And.intro ?_ ?_); focus (first | omega | assumption | exact True.intro | (show anyD _ _ = true; exact rfl) | (simp only [List.length_map, List.length_append, List.length_cons, List.length_nil, List.length_take, List.length_drop]; omega)))
  (first | refine callP.mk (vcheck_c v hb hl hh) rfl ?_ | refine callQ.mk (vcheck_c v hb hl hh) rfl ?_ | refine callO.rd (vcheck_c v hb hl hh) rfl ?_ | refine callO.mk (vcheck_c v hb hl hh) rfl ?_)
  by_cases hz : (chkV v).1 = 0
  · rw [errV_nil hz]
    try simp (maxSteps := 2000000) (disch := omega) only [go_sem, seval]
    try repeat ((with_reducible refine And.intro ?_ ?_); focus (first | omega | assumption | exact True.intro | (show anyD _ _ = true; exact rfl) | (simp only [List.length_map, List.length_append, List.length_cons, List.length_nil, List.length_take, List.length_drop]; omega)))
    (first | refine callP.mk (vcontains_c v hb hl hh) rfl ?_ | refine callQ.mk (vcontains_c v hb hl hh) rfl ?_ | refine callO.rd (vcontains_c v hb hl hh) rfl ?_ | refine callO.mk (vcontains_c v hb hl hh) rfl ?_)
    try simp (maxSteps := 2000000) (disch := omega) only [go_sem, seval]
    try repeat ((with_reducible refine And.intro ?_ ?_); focus (first | omega | assumption | exact True.intro | (show anyD _ _ = true; exact rfl) | (simp only [List.length_map, List.length_append, List.length_cons, List.length_nil, List.length_take, List.length_drop]; omega)))
    simp [hz]
  · rw [errV_ifc hz]
    try simp (maxSteps := 2000000) (disch := omega) only [go_sem, seval]
    try repeat ((with_reducible refine And.intro ?_ ?_); focus (first | omega | assumption | exact True.intro | (show anyD _ _ = true; exact rfl) | (simp only [List.length_map, List.length_append, List.length_cons, List.length_nil, List.length_take, List.length_drop]; omega)))
    simp [hz]
theorem canVec_step {v : List En} {k : Nat} (h : k < v.length) : canVec (v.take (k + 1)) = if (canE v[k]).2 then canVec (v.take k) ++ [(canE v[k]).1] else canVec (v.take k) := by
  unfold canVec
  rw [List.take_succ_eq_append_getElem h, List.filterMap_append]
  simp only [List.filterMap_cons, List.filterMap_nil, canO]
  split
  · rename_i h1; split at h1
    · cases h1
    · rename_i h2; rw [if_neg h2, List.append_nil]
  · rename_i h1; split at h1
    · rename_i h2; cases h1; rw [if_pos h2]
    · cases h1
theorem canVec_len (v : List En) (k : Nat) : (canVec (v.take k)).length ≤ k := by
  have := List.length_filterMap_le canO (v.take k)
  have h2 : (v.take k).length ≤ k := List.length_take_le _ _
  unfold canVec
  omega
theorem vcanon_c (v : List En) (hr : RightV v) (hl : v.length ≤ 1048576) (hh : ∀ e ∈ v, e.holes.length ≤ 10000) : Cn Tryd.prog 66 [vp v] (vp (canVec v)) := by
  refine cn_go Tryd.func66 [] 1 (by kernel_rfl) rfl (by simp [go_sem, seval]) ?_
  conv => arg 4; cbv
  conv => enter [5, 1]; cbv
  try simp (maxSteps := 2000000) (disch := omega) only [go_sem, seval]
  try repeat ((with_reducible refine And.intro ?_ ?_); focus (first | omega | assumption | exact True.intro | (show anyD _ _ = true; exact rfl) | (simp only [List.length_map, List.length_append, List.length_cons, List.length_nil, List.length_take, List.length_drop]; omega)))
  refine pLoop.go (fun k => k ≤ v.length) (fun k => [(3, .sl ((canVec (v.take k)).map ec) (.r 23 3)), (10, .v (.int .i64 (k : Nat)))]) (fun _ => []) (fun k => v.length - k) 0 [3, 10] ?_ ?_ ?_
  · exact Nat.zero_le _
  · try simp (maxSteps := 2000000) (disch := omega) only [go_sem, seval]
    try repeat ((with_reducible refine And.intro ?_ ?_); focus (first | omega | assumption | exact True.intro | (show anyD _ _ = true; exact rfl) | (simp only [List.length_map, List.length_append, List.length_cons, List.length_nil, List.length_take, List.length_drop]; omega)))
    rfl
  · rintro k hk
    have hlen := canVec_len v k
    try simp (maxSteps := 2000000) (disch := omega) only [go_sem, seval]
    try repeat ((with_reducible refine And.intro ?_ ?_); focus (first | omega | assumption | exact True.intro | (show anyD _ _ = true; exact rfl) | (simp only [List.length_map, List.length_append, List.length_cons, List.length_nil, List.length_take, List.length_drop]; omega)))
    (first | refine brP.mk (fun h => ?_) (fun h => ?_) | refine gdP.mkt (fun h => ?_) (fun h => ?_) | refine gdP.mkf (fun h => ?_) (fun h => ?_) | refine pkP.mk (fun h => ?_) (fun h => ?_)) <;> (try simp only [Bool.not_true, Bool.not_false, decide_eq_true_eq, decide_eq_false_iff_not, Bool.and_eq_true, Bool.or_eq_true, Bool.not_eq_true', Bool.not_eq_false', Bool.and_eq_false_iff, Bool.or_eq_false_iff, Nat.not_lt, Int.not_lt, Nat.not_le, Int.not_le, Int.ofNat_lt, Int.ofNat_le, Int.ofNat_inj, Bool.xor_false, Bool.false_xor, Bool.true_xor, Bool.xor_true] at h) <;> (try simp (maxSteps := 2000000) (disch := omega) only [go_sem, seval]) <;> (try repeat ((with_reducible refine And.intro ?_ ?_); focus (first | omega | assumption | exact True.intro | (show anyD _ _ = true; exact rfl) | (simp only [List.length_map, List.length_append, List.length_cons, List.length_nil, List.length_take, List.length_drop]; omega))))
    · (first | refine callP.mk (canon_c v[k] (hr.1 _ (List.getElem_mem h)) (hh _ (List.getElem_mem h))) rfl ?_ | refine callQ.mk (canon_c v[k] (hr.1 _ (List.getElem_mem h)) (hh _ (List.getElem_mem h))) rfl ?_ | refine callO.rd (canon_c v[k] (hr.1 _ (List.getElem_mem h)) (hh _ (List.getElem_mem h))) rfl ?_ | refine callO.mk (canon_c v[k] (hr.1 _ (List.getElem_mem h)) (hh _ (List.getElem_mem h))) rfl ?_)
      try simp (maxSteps := 2000000) (disch := omega) only [go_sem, seval]
      try repeat ((with_reducible refine And.intro ?_ ?_); focus (first | omega | assumption | exact True.intro | (show anyD _ _ = true; exact rfl) | (simp only [List.length_map, List.length_append, List.length_cons, List.length_nil, List.length_take, List.length_drop]; omega)))
      (first | refine brP.mk (fun h2 => ?_) (fun h2 => ?_) | refine gdP.mkt (fun h2 => ?_) (fun h2 => ?_) | refine gdP.mkf (fun h2 => ?_) (fun h2 => ?_) | refine pkP.mk (fun h2 => ?_) (fun h2 => ?_)) <;> (try simp only [Bool.not_true, Bool.not_false, decide_eq_true_eq, decide_eq_false_iff_not, Bool.and_eq_true, Bool.or_eq_true, Bool.not_eq_true', Bool.not_eq_false', Bool.and_eq_false_iff, Bool.or_eq_false_iff, Nat.not_lt, Int.not_lt, Nat.not_le, Int.not_le, Int.ofNat_lt, Int.ofNat_le, Int.ofNat_inj, Bool.xor_false, Bool.false_xor, Bool.true_xor, Bool.xor_true] at h2) <;> (try simp (maxSteps := 2000000) (disch := omega) only [go_sem, seval]) <;> (try repeat ((with_reducible refine And.intro ?_ ?_); focus (first | omega | assumption | exact True.intro | (show anyD _ _ = true; exact rfl) | (simp only [List.length_map, List.length_append, List.length_cons, List.length_nil, List.length_take, List.length_drop]; omega))))
      · refine ⟨k + 1, h, by omega, ?_, rfl⟩
        rw [canVec_step h, if_pos h2]
        simp
        rfl
      · refine ⟨k + 1, h, by omega, ?_, rfl⟩
        rw [canVec_step h, if_neg (by simpa using h2)]
    · rw [List.take_of_length_le (by omega)]
theorem refCanon_c (v : List En) (hr : RightV v) (hl : v.length ≤ 1048576) (hh : ∀ e ∈ v, e.holes.length ≤ 10000) : Cn Tryd.prog 67 [vp v] (vp (canVec v)) := by
  refine cn_go Tryd.func67 [] 1 (by kernel_rfl) rfl (by simp [go_sem, seval]) ?_
  conv => arg 4; cbv
  conv => enter [5, 1]; cbv
  try simp (maxSteps := 2000000) (disch := omega) only [go_sem, seval]
  try repeat ((with_reducible refine And.intro ?_ ?_); focus (first | omega | assumption | exact True.intro | (show anyD _ _ = true; exact rfl) | (simp only [List.length_map, List.length_append, List.length_cons, List.length_nil, List.length_take, List.length_drop]; omega)))
  refine pLoop.go (fun k => k ≤ v.length) (fun k => [(3, .sl ((canVec (v.take k)).map ec) (.r 25 3)), (4, .v (.int .i64 (k : Nat)))]) (fun _ => []) (fun k => v.length - k) 0 [3, 4] ?_ ?_ ?_
  · exact Nat.zero_le _
  · try simp (maxSteps := 2000000) (disch := omega) only [go_sem, seval]
    try repeat ((with_reducible refine And.intro ?_ ?_); focus (first | omega | assumption | exact True.intro | (show anyD _ _ = true; exact rfl) | (simp only [List.length_map, List.length_append, List.length_cons, List.length_nil, List.length_take, List.length_drop]; omega)))
    rfl
  · rintro k hk
    have hlen := canVec_len v k
    try simp (maxSteps := 2000000) (disch := omega) only [go_sem, seval]
    try repeat ((with_reducible refine And.intro ?_ ?_); focus (first | omega | assumption | exact True.intro | (show anyD _ _ = true; exact rfl) | (simp only [List.length_map, List.length_append, List.length_cons, List.length_nil, List.length_take, List.length_drop]; omega)))
    (first | refine brP.mk (fun h => ?_) (fun h => ?_) | refine gdP.mkt (fun h => ?_) (fun h => ?_) | refine gdP.mkf (fun h => ?_) (fun h => ?_) | refine pkP.mk (fun h => ?_) (fun h => ?_)) <;> (try simp only [Bool.not_true, Bool.not_false, decide_eq_true_eq, decide_eq_false_iff_not, Bool.and_eq_true, Bool.or_eq_true, Bool.not_eq_true', Bool.not_eq_false', Bool.and_eq_false_iff, Bool.or_eq_false_iff, Nat.not_lt, Int.not_lt, Nat.not_le, Int.not_le, Int.ofNat_lt, Int.ofNat_le, Int.ofNat_inj, Bool.xor_false, Bool.false_xor, Bool.true_xor, Bool.xor_true] at h) <;> (try simp (maxSteps := 2000000) (disch := omega) only [go_sem, seval]) <;> (try repeat ((with_reducible refine And.intro ?_ ?_); focus (first | omega | assumption | exact True.intro | (show anyD _ _ = true; exact rfl) | (simp only [List.length_map, List.length_append, List.length_cons, List.length_nil, List.length_take, List.length_drop]; omega))))
    · (first | refine callP.mk (canon7_c v[k] (hr.1 _ (List.getElem_mem h)) (hh _ (List.getElem_mem h))) rfl ?_ | refine callQ.mk (canon7_c v[k] (hr.1 _ (List.getElem_mem h)) (hh _ (List.getElem_mem h))) rfl ?_ | refine callO.rd (canon7_c v[k] (hr.1 _ (List.getElem_mem h)) (hh _ (List.getElem_mem h))) rfl ?_ | refine callO.mk (canon7_c v[k] (hr.1 _ (List.getElem_mem h)) (hh _ (List.getElem_mem h))) rfl ?_)
      try simp (maxSteps := 2000000) (disch := omega) only [go_sem, seval]
      try repeat ((with_reducible refine And.intro ?_ ?_); focus (first | omega | assumption | exact True.intro | (show anyD _ _ = true; exact rfl) | (simp only [List.length_map, List.length_append, List.length_cons, List.length_nil, List.length_take, List.length_drop]; omega)))
      (first | refine brP.mk (fun h2 => ?_) (fun h2 => ?_) | refine gdP.mkt (fun h2 => ?_) (fun h2 => ?_) | refine gdP.mkf (fun h2 => ?_) (fun h2 => ?_) | refine pkP.mk (fun h2 => ?_) (fun h2 => ?_)) <;> (try simp only [Bool.not_true, Bool.not_false, decide_eq_true_eq, decide_eq_false_iff_not, Bool.and_eq_true, Bool.or_eq_true, Bool.not_eq_true', Bool.not_eq_false', Bool.and_eq_false_iff, Bool.or_eq_false_iff, Nat.not_lt, Int.not_lt, Nat.not_le, Int.not_le, Int.ofNat_lt, Int.ofNat_le, Int.ofNat_inj, Bool.xor_false, Bool.false_xor, Bool.true_xor, Bool.xor_true] at h2) <;> (try simp (maxSteps := 2000000) (disch := omega) only [go_sem, seval]) <;> (try repeat ((with_reducible refine And.intro ?_ ?_); focus (first | omega | assumption | exact True.intro | (show anyD _ _ = true; exact rfl) | (simp only [List.length_map, List.length_append, List.length_cons, List.length_nil, List.length_take, List.length_drop]; omega))))
      · refine ⟨k + 1, h, by omega, ?_, rfl⟩
        rw [canVec_step h, if_pos h2]
        simp
        rfl
      · refine ⟨k + 1, h, by omega, ?_, rfl⟩
        rw [canVec_step h, if_neg (by simpa using h2)]
    · rw [List.take_of_length_le (by omega)]
end Go.Proofs.YtcedofkenfddkaaDoor
/- The contracts of kenningref09.Numbers, Compare; the example of chapter 9; its laws: they return true. -/
namespace Go.Proofs.YtcedofkenfddkaaDoor
set_option linter.unusedVariables false
set_option linter.unusedSimpArgs false
open Go.RowKit
set_option maxRecDepth 100000
def v9 : List En := [⟨7, 5, [⟨2, 3⟩]⟩]
def v9b : List En := [⟨1, 0, []⟩, ⟨1, 0, []⟩]
set_option maxHeartbeats 2000000 in
theorem alive9_c : Cn Tryd.prog 46 [] (.v (.bool true)) := by
  have hb : ∀ e ∈ v9, BdE e := by simp [v9, BdE, M64_val]
  have hb0 : ∀ e ∈ ([] : List En), BdE e := by simp
  have hb2 : ∀ e ∈ v9b, BdE e := by simp [v9b, BdE, M64_val]
  have hr : CanV v9 := ⟨by simp [v9, CanE, RightE, M64_val, Nrm, NF], by simp [v9]⟩
  have hz : (chkV v9).1 = 0 := (chkV_iff hb).2 hr.right
  have hc : canVB v9 = true := (canVB_iff hb).2 hr
  have hk : knV v9 7 = kn ⟨7, 5, [⟨2, 3⟩]⟩ := rfl
  have h4 : mem (knV v9 7) 4 = true := by rw [hk, kn_mem (hr.1 _ (by simp [v9])).1 (by rw [M64_val]; omega)]; decide
  have h3 : mem (knV v9 7) 3 = false := by rw [hk, kn_mem (hr.1 _ (by simp [v9])).1 (by rw [M64_val]; omega)]; decide
  have hco := code_c (chkV v9b).1 (chkV v9b).2
  have hx : chkV v9b = (3, 1) := by decide
  refine cn_go Tryd.func46 [] 0 (by kernel_rfl) rfl (by simp [go_sem, seval]) ?_
  conv => arg 4; cbv
  conv => enter [5, 1]; cbv
  try simp (maxSteps := 2000000) (disch := omega) only [go_sem, seval]
  try repeat ((with_reducible refine And.intro ?_ ?_); focus (first | omega | assumption | exact True.intro | (show anyD _ _ = true; exact rfl) | (simp only [List.length_map, List.length_append, List.length_cons, List.length_nil, List.length_take, List.length_drop]; omega)))
  (first | refine callP.mk (numbers_c v9 hb (by decide)) rfl ?_ | refine callQ.mk (numbers_c v9 hb (by decide)) rfl ?_ | refine callO.rd (numbers_c v9 hb (by decide)) rfl ?_ | refine callO.mk (numbers_c v9 hb (by decide)) rfl ?_)
  try simp (maxSteps := 2000000) (disch := omega) only [go_sem, seval]
  try repeat ((with_reducible refine And.intro ?_ ?_); focus (first | omega | assumption | exact True.intro | (show anyD _ _ = true; exact rfl) | (simp only [List.length_map, List.length_append, List.length_cons, List.length_nil, List.length_take, List.length_drop]; omega)))
  (first | refine callP.mk (eqN_c (nums v9) [1, 7, 5, 1, 2, 3] (by decide)) rfl ?_ | refine callQ.mk (eqN_c (nums v9) [1, 7, 5, 1, 2, 3] (by decide)) rfl ?_ | refine callO.rd (eqN_c (nums v9) [1, 7, 5, 1, 2, 3] (by decide)) rfl ?_ | refine callO.mk (eqN_c (nums v9) [1, 7, 5, 1, 2, 3] (by decide)) rfl ?_)
  rw [show decide (nums v9 = [1, 7, 5, 1, 2, 3]) = true by decide]
  try simp (maxSteps := 2000000) (disch := omega) only [go_sem, seval]
  try repeat ((with_reducible refine And.intro ?_ ?_); focus (first | omega | assumption | exact True.intro | (show anyD _ _ = true; exact rfl) | (simp only [List.length_map, List.length_append, List.length_cons, List.length_nil, List.length_take, List.length_drop]; omega)))
  (first | refine callP.mk (vcheck_c v9 hb (by decide) (by simp [v9])) rfl ?_ | refine callQ.mk (vcheck_c v9 hb (by decide) (by simp [v9])) rfl ?_ | refine callO.rd (vcheck_c v9 hb (by decide) (by simp [v9])) rfl ?_ | refine callO.mk (vcheck_c v9 hb (by decide) (by simp [v9])) rfl ?_)
  rw [errV_nil hz]
  try simp (maxSteps := 2000000) (disch := omega) only [go_sem, seval]
  try repeat ((with_reducible refine And.intro ?_ ?_); focus (first | omega | assumption | exact True.intro | (show anyD _ _ = true; exact rfl) | (simp only [List.length_map, List.length_append, List.length_cons, List.length_nil, List.length_take, List.length_drop]; omega)))
  (first | refine callP.mk (vcanonical_c v9 hb (by decide) (by simp [v9])) rfl ?_ | refine callQ.mk (vcanonical_c v9 hb (by decide) (by simp [v9])) rfl ?_ | refine callO.rd (vcanonical_c v9 hb (by decide) (by simp [v9])) rfl ?_ | refine callO.mk (vcanonical_c v9 hb (by decide) (by simp [v9])) rfl ?_)
  rw [hc]
  try simp (maxSteps := 2000000) (disch := omega) only [go_sem, seval]
  try repeat ((with_reducible refine And.intro ?_ ?_); focus (first | omega | assumption | exact True.intro | (show anyD _ _ = true; exact rfl) | (simp only [List.length_map, List.length_append, List.length_cons, List.length_nil, List.length_take, List.length_drop]; omega)))
  (first | refine callP.mk (vhas_c v9 7 4 hr.right (by decide) (by decide) (by simp [v9])) rfl ?_ | refine callQ.mk (vhas_c v9 7 4 hr.right (by decide) (by decide) (by simp [v9])) rfl ?_ | refine callO.rd (vhas_c v9 7 4 hr.right (by decide) (by decide) (by simp [v9])) rfl ?_ | refine callO.mk (vhas_c v9 7 4 hr.right (by decide) (by decide) (by simp [v9])) rfl ?_)
  rw [h4]
  try simp (maxSteps := 2000000) (disch := omega) only [go_sem, seval]
  try repeat ((with_reducible refine And.intro ?_ ?_); focus (first | omega | assumption | exact True.intro | (show anyD _ _ = true; exact rfl) | (simp only [List.length_map, List.length_append, List.length_cons, List.length_nil, List.length_take, List.length_drop]; omega)))
  (first | refine callP.mk (vhas_c v9 7 3 hr.right (by decide) (by decide) (by simp [v9])) rfl ?_ | refine callQ.mk (vhas_c v9 7 3 hr.right (by decide) (by decide) (by simp [v9])) rfl ?_ | refine callO.rd (vhas_c v9 7 3 hr.right (by decide) (by decide) (by simp [v9])) rfl ?_ | refine callO.mk (vhas_c v9 7 3 hr.right (by decide) (by decide) (by simp [v9])) rfl ?_)
  rw [h3]
  try simp (maxSteps := 2000000) (disch := omega) only [go_sem, seval]
  try repeat ((with_reducible refine And.intro ?_ ?_); focus (first | omega | assumption | exact True.intro | (show anyD _ _ = true; exact rfl) | (simp only [List.length_map, List.length_append, List.length_cons, List.length_nil, List.length_take, List.length_drop]; omega)))
  (first | refine callP.mk (vfind_c v9 8 hr.right (by decide)) rfl ?_ | refine callQ.mk (vfind_c v9 8 hr.right (by decide)) rfl ?_ | refine callO.rd (vfind_c v9 8 hr.right (by decide)) rfl ?_ | refine callO.mk (vfind_c v9 8 hr.right (by decide)) rfl ?_)
  rw [show fdV 8 0 v9 = -1 by decide]
  try simp (maxSteps := 2000000) (disch := omega) only [go_sem, seval]
  try repeat ((with_reducible refine And.intro ?_ ?_); focus (first | omega | assumption | exact True.intro | (show anyD _ _ = true; exact rfl) | (simp only [List.length_map, List.length_append, List.length_cons, List.length_nil, List.length_take, List.length_drop]; omega)))
  (first | refine callP.mk (vcompare_c [] v9 hb0 hb (by decide) (by decide)) rfl ?_ | refine callQ.mk (vcompare_c [] v9 hb0 hb (by decide) (by decide)) rfl ?_ | refine callO.rd (vcompare_c [] v9 hb0 hb (by decide) (by decide)) rfl ?_ | refine callO.mk (vcompare_c [] v9 hb0 hb (by decide) (by decide)) rfl ?_)
  rw [show cmpL (nums []) (nums v9) = -1 by decide]
  try simp (maxSteps := 2000000) (disch := omega) only [go_sem, seval]
  try repeat ((with_reducible refine And.intro ?_ ?_); focus (first | omega | assumption | exact True.intro | (show anyD _ _ = true; exact rfl) | (simp only [List.length_map, List.length_append, List.length_cons, List.length_nil, List.length_take, List.length_drop]; omega)))
  (first | refine callP.mk (vcheck_c v9b hb2 (by decide) (by simp [v9b])) rfl ?_ | refine callQ.mk (vcheck_c v9b hb2 (by decide) (by simp [v9b])) rfl ?_ | refine callO.rd (vcheck_c v9b hb2 (by decide) (by simp [v9b])) rfl ?_ | refine callO.mk (vcheck_c v9b hb2 (by decide) (by simp [v9b])) rfl ?_)
  rw [hx] at hco ⊢
  try simp (maxSteps := 2000000) (disch := omega) only [go_sem, seval]
  try repeat ((with_reducible refine And.intro ?_ ?_); focus (first | omega | assumption | exact True.intro | (show anyD _ _ = true; exact rfl) | (simp only [List.length_map, List.length_append, List.length_cons, List.length_nil, List.length_take, List.length_drop]; omega)))
  (first | refine callP.mk (hco) rfl ?_ | refine callQ.mk (hco) rfl ?_ | refine callO.rd (hco) rfl ?_ | refine callO.mk (hco) rfl ?_)
  try simp (maxSteps := 2000000) (disch := omega) only [go_sem, seval]
  try repeat ((with_reducible refine And.intro ?_ ?_); focus (first | omega | assumption | exact True.intro | (show anyD _ _ = true; exact rfl) | (simp only [List.length_map, List.length_append, List.length_cons, List.length_nil, List.length_take, List.length_drop]; omega)))
end Go.Proofs.YtcedofkenfddkaaDoor
/- The laws of chapter 9: they return true. -/
namespace Go.Proofs.YtcedofkenfddkaaDoor
set_option linter.unusedVariables false
set_option linter.unusedSimpArgs false
open Go.RowKit
set_option maxRecDepth 100000
/-- What is asked of a vector that the laws are called with. -/
def BdV (v : List En) : Prop := (∀ e ∈ v, BdE e) ∧ v.length ≤ 9223372036854775807
theorem few_bd {v : List En} (h : fewB v = true) : v.length ≤ 1152921504606846976 ∧ ∀ e ∈ v, e.holes.length ≤ 1152921504606846976 := by
  have g := fewB_iff.1 h
  exact ⟨by omega, fun e he => by have := g.1 e he; omega⟩
theorem canVec_bd {v : List En} (h : ∀ e ∈ v, e.holes.length ≤ 30) : ∀ f ∈ canVec v, f.holes.length ≤ 10000 := fun f hf => by
  obtain ⟨e, he, hc⟩ := List.mem_filterMap.1 hf
  obtain ⟨_, rfl, _⟩ := canO_some hc
  have l1 := kn_length e
  have l2 := ofS_length e.rep (kn e)
  have l4 := h e he
  unfold canE
  omega
theorem canVec_le (v : List En) : (canVec v).length ≤ v.length := List.length_filterMap_le _ _
theorem canVec_id {v : List En} (h : CanV v) : canVec v = v := canV_unique (canVec_can h.right) h fun r => canVec_kn h.right r
theorem CanV.bd {v : List En} (h : CanV v) : ∀ e ∈ v, BdE e := fun e he => BdE_of (h.1 e he).1
set_option maxHeartbeats 2000000 in
theorem vectorCanon_c (v : List En) (r c : Nat) (hv : BdV v) (_ : r < M64) (hc : c < M64) : Cn Tryd.prog 15 [vp v, .v (.int .u64 r), .v (.int .u64 c)] (.v (.bool true)) := by
  obtain ⟨hb, hl0⟩ := hv
  refine cn_go Tryd.func15 [] 3 (by kernel_rfl) rfl (by simp [go_sem, seval]) ?_
  conv => arg 4; cbv
  conv => enter [5, 1]; cbv
  try simp (maxSteps := 2000000) (disch := omega) only [go_sem, seval]
  try repeat ((with_reducible refine And.intro ?_ ?_); focus (first | omega | assumption | exact True.intro | (show anyD _ _ = true; exact rfl) | (simp only [List.length_map, List.length_append, List.length_cons, List.length_nil, List.length_take, List.length_drop]; omega)))
  (first | refine callP.mk (few_c v hl0) rfl ?_ | refine callQ.mk (few_c v hl0) rfl ?_ | refine callO.rd (few_c v hl0) rfl ?_ | refine callO.mk (few_c v hl0) rfl ?_)
  try simp (maxSteps := 2000000) (disch := omega) only [go_sem, seval]
  try repeat ((with_reducible refine And.intro ?_ ?_); focus (first | omega | assumption | exact True.intro | (show anyD _ _ = true; exact rfl) | (simp only [List.length_map, List.length_append, List.length_cons, List.length_nil, List.length_take, List.length_drop]; omega)))
  (first | refine brP.mk (fun h1 => ?_) (fun h1 => ?_) | refine gdP.mkt (fun h1 => ?_) (fun h1 => ?_) | refine gdP.mkf (fun h1 => ?_) (fun h1 => ?_) | refine pkP.mk (fun h1 => ?_) (fun h1 => ?_)) <;> (try simp only [Bool.not_true, Bool.not_false, decide_eq_true_eq, decide_eq_false_iff_not, Bool.and_eq_true, Bool.or_eq_true, Bool.not_eq_true', Bool.not_eq_false', Bool.and_eq_false_iff, Bool.or_eq_false_iff, Nat.not_lt, Int.not_lt, Nat.not_le, Int.not_le, Int.ofNat_lt, Int.ofNat_le, Int.ofNat_inj, Bool.xor_false, Bool.false_xor, Bool.true_xor, Bool.xor_true] at h1) <;> (try simp (maxSteps := 2000000) (disch := omega) only [go_sem, seval]) <;> (try repeat ((with_reducible refine And.intro ?_ ?_); focus (first | omega | assumption | exact True.intro | (show anyD _ _ = true; exact rfl) | (simp only [List.length_map, List.length_append, List.length_cons, List.length_nil, List.length_take, List.length_drop]; omega))))
  · (first | refine callP.mk (alive9_c) rfl ?_ | refine callQ.mk (alive9_c) rfl ?_ | refine callO.rd (alive9_c) rfl ?_ | refine callO.mk (alive9_c) rfl ?_)
    try simp (maxSteps := 2000000) (disch := omega) only [go_sem, seval]
    try repeat ((with_reducible refine And.intro ?_ ?_); focus (first | omega | assumption | exact True.intro | (show anyD _ _ = true; exact rfl) | (simp only [List.length_map, List.length_append, List.length_cons, List.length_nil, List.length_take, List.length_drop]; omega)))
  · obtain ⟨hl, hh⟩ := few_bd (by first | exact h | exact h1)
    (first | refine callP.mk (rightV_c v hb hl hh) rfl ?_ | refine callQ.mk (rightV_c v hb hl hh) rfl ?_ | refine callO.rd (rightV_c v hb hl hh) rfl ?_ | refine callO.mk (rightV_c v hb hl hh) rfl ?_)
    try simp (maxSteps := 2000000) (disch := omega) only [go_sem, seval]
    try repeat ((with_reducible refine And.intro ?_ ?_); focus (first | omega | assumption | exact True.intro | (show anyD _ _ = true; exact rfl) | (simp only [List.length_map, List.length_append, List.length_cons, List.length_nil, List.length_take, List.length_drop]; omega)))
    (first | refine brP.mk (fun h2 => ?_) (fun h2 => ?_) | refine gdP.mkt (fun h2 => ?_) (fun h2 => ?_) | refine gdP.mkf (fun h2 => ?_) (fun h2 => ?_) | refine pkP.mk (fun h2 => ?_) (fun h2 => ?_)) <;> (try simp only [Bool.not_true, Bool.not_false, decide_eq_true_eq, decide_eq_false_iff_not, Bool.and_eq_true, Bool.or_eq_true, Bool.not_eq_true', Bool.not_eq_false', Bool.and_eq_false_iff, Bool.or_eq_false_iff, Nat.not_lt, Int.not_lt, Nat.not_le, Int.not_le, Int.ofNat_lt, Int.ofNat_le, Int.ofNat_inj, Bool.xor_false, Bool.false_xor, Bool.true_xor, Bool.xor_true] at h2) <;> (try simp (maxSteps := 2000000) (disch := omega) only [go_sem, seval]) <;> (try repeat ((with_reducible refine And.intro ?_ ?_); focus (first | omega | assumption | exact True.intro | (show anyD _ _ = true; exact rfl) | (simp only [List.length_map, List.length_append, List.length_cons, List.length_nil, List.length_take, List.length_drop]; omega))))
    · (first | refine callP.mk (alive9_c) rfl ?_ | refine callQ.mk (alive9_c) rfl ?_ | refine callO.rd (alive9_c) rfl ?_ | refine callO.mk (alive9_c) rfl ?_)
      try simp (maxSteps := 2000000) (disch := omega) only [go_sem, seval]
      try repeat ((with_reducible refine And.intro ?_ ?_); focus (first | omega | assumption | exact True.intro | (show anyD _ _ = true; exact rfl) | (simp only [List.length_map, List.length_append, List.length_cons, List.length_nil, List.length_take, List.length_drop]; omega)))
    · have hr := (chkV_iff hb).1 h2
      have g1 := fewB_iff.1 h1
      have g2 : ∀ e ∈ v, e.holes.length ≤ 10000 := fun e he => by have := g1.1 e he; omega
      have hk := canVec_can hr
      have l1 := canVec_bd g1.1
      have l2 := canVec_le v
      have l3 : ∀ e ∈ canVec v, e.holes.length ≤ 1152921504606846976 := fun e he => by have := l1 e he; omega
      have e1 := canVec_id hk
      have e2 := canVec_kn hr r
      have e3 := (canVB_iff hk.bd).2 hk
      have e4 : decide (canVec v = v) = canVB v := by
        rw [Bool.eq_iff_iff, decide_eq_true_eq, canVB_iff hb]
        exact ⟨fun h => h ▸ hk, canVec_id⟩
      (first | refine callP.mk (vcanon_c v hr (by omega) g2) rfl ?_ | refine callQ.mk (vcanon_c v hr (by omega) g2) rfl ?_ | refine callO.rd (vcanon_c v hr (by omega) g2) rfl ?_ | refine callO.mk (vcanon_c v hr (by omega) g2) rfl ?_)
      try simp (maxSteps := 2000000) (disch := omega) only [go_sem, seval]
      try repeat ((with_reducible refine And.intro ?_ ?_); focus (first | omega | assumption | exact True.intro | (show anyD _ _ = true; exact rfl) | (simp only [List.length_map, List.length_append, List.length_cons, List.length_nil, List.length_take, List.length_drop]; omega)))
      (first | refine callP.mk (refCanon_c v hr (by omega) g2) rfl ?_ | refine callQ.mk (refCanon_c v hr (by omega) g2) rfl ?_ | refine callO.rd (refCanon_c v hr (by omega) g2) rfl ?_ | refine callO.mk (refCanon_c v hr (by omega) g2) rfl ?_)
      try simp (maxSteps := 2000000) (disch := omega) only [go_sem, seval]
      try repeat ((with_reducible refine And.intro ?_ ?_); focus (first | omega | assumption | exact True.intro | (show anyD _ _ = true; exact rfl) | (simp only [List.length_map, List.length_append, List.length_cons, List.length_nil, List.length_take, List.length_drop]; omega)))
      generalize canVec v = x at *
      (first | refine callP.mk (sameV_c x x (by omega) l3) rfl ?_ | refine callQ.mk (sameV_c x x (by omega) l3) rfl ?_ | refine callO.rd (sameV_c x x (by omega) l3) rfl ?_ | refine callO.mk (sameV_c x x (by omega) l3) rfl ?_)
      try simp (maxSteps := 2000000) (disch := omega) only [go_sem, seval]
      try repeat ((with_reducible refine And.intro ?_ ?_); focus (first | omega | assumption | exact True.intro | (show anyD _ _ = true; exact rfl) | (simp only [List.length_map, List.length_append, List.length_cons, List.length_nil, List.length_take, List.length_drop]; omega)))
      (first | refine callP.mk (vcanonical_c x hk.bd (by omega) l3) rfl ?_ | refine callQ.mk (vcanonical_c x hk.bd (by omega) l3) rfl ?_ | refine callO.rd (vcanonical_c x hk.bd (by omega) l3) rfl ?_ | refine callO.mk (vcanonical_c x hk.bd (by omega) l3) rfl ?_)
      rw [e3]
      try simp (maxSteps := 2000000) (disch := omega) only [go_sem, seval]
      try repeat ((with_reducible refine And.intro ?_ ?_); focus (first | omega | assumption | exact True.intro | (show anyD _ _ = true; exact rfl) | (simp only [List.length_map, List.length_append, List.length_cons, List.length_nil, List.length_take, List.length_drop]; omega)))
      (first | refine callP.mk (vhas_c x r c hk.right hc (by omega) l3) rfl ?_ | refine callQ.mk (vhas_c x r c hk.right hc (by omega) l3) rfl ?_ | refine callO.rd (vhas_c x r c hk.right hc (by omega) l3) rfl ?_ | refine callO.mk (vhas_c x r c hk.right hc (by omega) l3) rfl ?_)
      try simp (maxSteps := 2000000) (disch := omega) only [go_sem, seval]
      try repeat ((with_reducible refine And.intro ?_ ?_); focus (first | omega | assumption | exact True.intro | (show anyD _ _ = true; exact rfl) | (simp only [List.length_map, List.length_append, List.length_cons, List.length_nil, List.length_take, List.length_drop]; omega)))
      (first | refine callP.mk (refHas_c v r c hr hc hl hh) rfl ?_ | refine callQ.mk (refHas_c v r c hr hc hl hh) rfl ?_ | refine callO.rd (refHas_c v r c hr hc hl hh) rfl ?_ | refine callO.mk (refHas_c v r c hr hc hl hh) rfl ?_)
      try simp (maxSteps := 2000000) (disch := omega) only [go_sem, seval]
      try repeat ((with_reducible refine And.intro ?_ ?_); focus (first | omega | assumption | exact True.intro | (show anyD _ _ = true; exact rfl) | (simp only [List.length_map, List.length_append, List.length_cons, List.length_nil, List.length_take, List.length_drop]; omega)))
      rw [e2, show (!(mem (knV v r) c == mem (knV v r) c)) = false by simp]
      try simp (maxSteps := 2000000) (disch := omega) only [go_sem, seval]
      try repeat ((with_reducible refine And.intro ?_ ?_); focus (first | omega | assumption | exact True.intro | (show anyD _ _ = true; exact rfl) | (simp only [List.length_map, List.length_append, List.length_cons, List.length_nil, List.length_take, List.length_drop]; omega)))
      (first | refine callP.mk (alive9_c) rfl ?_ | refine callQ.mk (alive9_c) rfl ?_ | refine callO.rd (alive9_c) rfl ?_ | refine callO.mk (alive9_c) rfl ?_)
      try simp (maxSteps := 2000000) (disch := omega) only [go_sem, seval]
      try repeat ((with_reducible refine And.intro ?_ ?_); focus (first | omega | assumption | exact True.intro | (show anyD _ _ = true; exact rfl) | (simp only [List.length_map, List.length_append, List.length_cons, List.length_nil, List.length_take, List.length_drop]; omega)))
      (first | refine callP.mk (vcanon_c x hk.right (by omega) l1) rfl ?_ | refine callQ.mk (vcanon_c x hk.right (by omega) l1) rfl ?_ | refine callO.rd (vcanon_c x hk.right (by omega) l1) rfl ?_ | refine callO.mk (vcanon_c x hk.right (by omega) l1) rfl ?_)
      rw [e1]
      try simp (maxSteps := 2000000) (disch := omega) only [go_sem, seval]
      try repeat ((with_reducible refine And.intro ?_ ?_); focus (first | omega | assumption | exact True.intro | (show anyD _ _ = true; exact rfl) | (simp only [List.length_map, List.length_append, List.length_cons, List.length_nil, List.length_take, List.length_drop]; omega)))
      (first | refine callP.mk (sameV_c x x (by omega) l3) rfl ?_ | refine callQ.mk (sameV_c x x (by omega) l3) rfl ?_ | refine callO.rd (sameV_c x x (by omega) l3) rfl ?_ | refine callO.mk (sameV_c x x (by omega) l3) rfl ?_)
      try simp (maxSteps := 2000000) (disch := omega) only [go_sem, seval]
      try repeat ((with_reducible refine And.intro ?_ ?_); focus (first | omega | assumption | exact True.intro | (show anyD _ _ = true; exact rfl) | (simp only [List.length_map, List.length_append, List.length_cons, List.length_nil, List.length_take, List.length_drop]; omega)))
      (first | refine callP.mk (sameV_c x v (by omega) l3) rfl ?_ | refine callQ.mk (sameV_c x v (by omega) l3) rfl ?_ | refine callO.rd (sameV_c x v (by omega) l3) rfl ?_ | refine callO.mk (sameV_c x v (by omega) l3) rfl ?_)
      rw [e4]
      try simp (maxSteps := 2000000) (disch := omega) only [go_sem, seval]
      try repeat ((with_reducible refine And.intro ?_ ?_); focus (first | omega | assumption | exact True.intro | (show anyD _ _ = true; exact rfl) | (simp only [List.length_map, List.length_append, List.length_cons, List.length_nil, List.length_take, List.length_drop]; omega)))
      (first | refine callP.mk (vcanonical_c v hb hl hh) rfl ?_ | refine callQ.mk (vcanonical_c v hb hl hh) rfl ?_ | refine callO.rd (vcanonical_c v hb hl hh) rfl ?_ | refine callO.mk (vcanonical_c v hb hl hh) rfl ?_)
      try simp (maxSteps := 2000000) (disch := omega) only [go_sem, seval]
      try repeat ((with_reducible refine And.intro ?_ ?_); focus (first | omega | assumption | exact True.intro | (show anyD _ _ = true; exact rfl) | (simp only [List.length_map, List.length_append, List.length_cons, List.length_nil, List.length_take, List.length_drop]; omega)))
end Go.Proofs.YtcedofkenfddkaaDoor
/- From the data of an argument of a type of slices of structs to its pure value: vectors. No condition. -/
namespace Go.Proofs.YtcedofkenfddkaaDoor
set_option linter.unusedVariables false
set_option linter.unusedSimpArgs false
open Go.ChangeShapes Go.WideShapes Go.ChangeAt Go.RowKit Go.Deep
set_option maxRecDepth 100000
section
variable {H : Type} {enc : TypeId × Value → H} {w : World} {base : Nat} {spare : Nat → Bool} {held : Bool}
/-- The cells from a place on read as these pure values. -/
def CellsY (w : World) (b o : Nat) (ps : List PV) : Prop := ∀ (j : Nat) (p : PV), ps[j]? = some p → ∃ u, w.cell? ⟨b, o + j, none⟩ = some u ∧ u.oneCell' = true ∧ Dat (Lies w) w u p
def rdC {α : Type} (cv : α → List PV) (bd : α → Prop) (w : World) (b o : Nat) (x : α) : Prop := CellsY w b o (cv x) ∧ bd x
theorem rdsl_dat {α : Type} {cv : α → List PV} {bd : α → Prop} {sz : Nat} {v : Value} {l : List α} (hsz : ∀ x, (cv x).length = sz) (h : RdSl sz (rdC cv bd) 0 w.heap.size w v l) : Dat (Lies w) w v (.sl (l.map cv) .sh) ∧ (∀ x ∈ l, bd x) ∧ l.length ≤ 9223372036854775807 := by
  obtain ⟨a, cap, rfl, h1, h2, h3⟩ := h
  have hlm : l.length ≤ 9223372036854775807 := by unfold maxLen at h2; omega
  suffices hs : Dat (Lies w) w (.slice a (l.map cv).length cap) (.sl (l.map cv) .sh) ∧ ∀ x ∈ l, bd x from ⟨by rw [List.length_map] at hs; exact hs.1, hs.2, hlm⟩
  by_cases hne : l = []
  · subst hne
    exact ⟨.sl a cap sz [] .sh 0 0 (fun _ => undef) (by simp) (fun h => by cases h) h2 (fun h => absurd rfl h) (fun i e h => by simp at h) (fun j h => by simp at h) (fun i e j p h => by simp at h), fun _ h => by cases h⟩
  obtain ⟨b, off, rfl, hb1, hb2, hc⟩ := h3 hne
  have key : ∀ j, j < l.length * sz → ∃ u, w.cell? ⟨b, off + j, none⟩ = some u ∧ u.oneCell' = true ∧ ∀ (i k : Nat) (hi : i < l.length) (p : PV), j = i * sz + k → (cv l[i])[k]? = some p → Dat (Lies w) w u p := fun j hj => by
    have hp : 0 < sz := by
      rcases Nat.eq_zero_or_pos sz with h0 | h0
      · subst h0; simp at hj
      · exact h0
    have hi : j / sz < l.length := Nat.div_lt_of_lt_mul (by rw [Nat.mul_comm]; exact hj)
    have hk : j % sz < (cv l[j / sz]).length := by rw [hsz]; exact Nat.mod_lt _ hp
    obtain ⟨u, u1, u2, u3⟩ := (hc _ hi).1 (j % sz) _ (List.getElem?_eq_getElem hk)
    have e : off + j / sz * sz + j % sz = off + j := by have := Nat.div_add_mod j sz; rw [Nat.mul_comm] at this; omega
    rw [e] at u1
    refine ⟨u, u1, u2, fun i k hi2 p hjk hp2 => ?_⟩
    have hk2 : k < sz := by have := (List.getElem?_eq_some_iff.1 hp2).1; rwa [hsz] at this
    have q1 : j / sz = i := by rw [hjk]; rw [Nat.mul_comm, Nat.mul_add_div hp, Nat.div_eq_of_lt hk2]; omega
    have q2 : j % sz = k := by rw [hjk]; rw [Nat.mul_comm, Nat.mul_add_mod, Nat.mod_eq_of_lt hk2]
    subst q1
    subst q2
    rw [List.getElem?_eq_getElem hk] at hp2
    cases hp2
    exact u3
  obtain ⟨f, hf⟩ : ∃ f : Nat → Value, ∀ j, j < l.length * sz → w.cell? ⟨b, off + j, none⟩ = some (f j) ∧ (f j).oneCell' = true ∧ ∀ (i k : Nat) (hi : i < l.length) (p : PV), j = i * sz + k → (cv l[i])[k]? = some p → Dat (Lies w) w (f j) p := by
    refine ⟨fun j => if h : j < l.length * sz then (key j h).choose else undef, fun j hj => ?_⟩
    simp only [dif_pos hj]
    exact (key j hj).choose_spec
  refine ⟨.sl _ cap sz _ .sh b off f (by simpa using h1) (fun h => by cases h) h2 (fun _ => rfl) (fun i e h => ?_) (fun j hj => ?_) (fun i e j p he hp => ?_), fun x hx => ?_⟩
  · simp only [List.getElem?_map, Option.map_eq_some_iff] at h
    obtain ⟨s, _, rfl⟩ := h
    exact hsz s
  · obtain ⟨f1, f2, _⟩ := hf j (by simpa using hj)
    exact ⟨hb2, f1, f2⟩
  · have hi : i < l.length := by have := (List.getElem?_eq_some_iff.1 he).1; simpa using this
    rw [map_at hi] at he
    cases he
    have hj : j < sz := by have := (List.getElem?_eq_some_iff.1 hp).1; rwa [hsz] at this
    have : i * sz + j < l.length * sz := by
      have := Nat.mul_le_mul_right sz (show i + 1 ≤ l.length from hi)
      rw [Nat.add_mul] at this; omega
    exact (hf _ this).2.2 i j hi p rfl hp
  · obtain ⟨i, hi, rfl⟩ := List.getElem_of_mem hx
    exact (hc i hi).2
/-- A struct of three fields of one cell each. -/
theorem triple_open {P : Program} {e : TypeId} {f0 f1 f2 : Field} {n : Nat} {a : Addr} {cs : List Value} {y : DataW H × List MemPlace} (he : P.underlying e = some (.struct #[f0, f1, f2])) (o0 : f0.offset = 0) (o1 : f1.offset = 1) (o2 : f2.offset = 2) (c0 : P.cellsOf f0.type = 1) (c1 : P.cellsOf f1.type = 1) (c2 : P.cellsOf f2.type = 1)
    (h1 : w.cells? base a 3 = some cs) (h2 : DataW.trod enc P w base spare held n e cs = some y) :
    ∃ v0 v1 v2 k y0 y1 y2, w.cell? a = some v0 ∧ w.cell? (a.add 1) = some v1 ∧ w.cell? (a.add 2) = some v2 ∧ DataW.trod enc P w base spare held k f0.type [v0] = some y0 ∧ DataW.trod enc P w base spare held k f1.type [v1] = some y1 ∧ DataW.trod enc P w base spare held k f2.type [v2] = some y2 := by
  obtain ⟨_, hlen, hcell⟩ := World.cells?_some h1
  obtain ⟨xs, k, _, _, _, hxl, hf⟩ := DataW.trod_struct he h2
  match xs, hxl, cs, hlen with
  | [y0, y1, y2], _, [v0, v1, v2], _ =>
    have g0 := hf 0 f0 rfl
    have g1 := hf 1 f1 rfl
    have g2 := hf 2 f2 rfl
    simp [o0, o1, o2, c0, c1, c2] at g0 g1 g2
    have e0 := hcell 0 (by omega)
    have e1 := hcell 1 (by omega)
    have e2 := hcell 2 (by omega)
    exact ⟨v0, v1, v2, k, y0, y1, y2, by simpa [Addr.add] using e0, by simpa using e1, by simpa using e2, g0, g1, g2⟩
instance : Inhabited En := ⟨⟨0, 0, []⟩⟩
theorem en_open {n : Nat} {a : Addr} {cs : List Value} {y : DataW H × List MemPlace} (h1 : w.cells? base a 3 = some cs) (h2 : DataW.trod enc Tryd.prog w base spare held n 34 cs = some y) : a.spot = none ∧ a.block < w.heap.size ∧ ∃ e, rdC ec BdE w a.block a.off e := by
  obtain ⟨v0, v1, v2, k, y0, y1, y2, e0, e1, e2, g0, g1, g2⟩ := triple_open Tryd.underlying34 rfl rfl rfl (by kernel_rfl) (by kernel_rfl) (by kernel_rfl) h1 h2
  obtain ⟨m0, q0, hm0⟩ := trod_u64 Tryd.underlying24 g0
  obtain ⟨m1, q1, hm1⟩ := trod_u64 Tryd.underlying24 g1
  obtain ⟨v2', l, q2, hl⟩ := ranges_open g2
  obtain rfl : v0 = _ := by simpa using q0
  obtain rfl : v1 = _ := by simpa using q1
  obtain rfl : v2 = v2' := by simpa using q2
  obtain ⟨b, off, spot⟩ := a
  obtain rfl : spot = none := World.cell?_spot e0
  refine ⟨rfl, World.block_lt_of_cell? _ _ e0, ⟨m0, m1, l⟩, fun j p hp => ?_, hl.bound, hm1, hm0⟩
  have hd : Dat (Lies w) w v2 (rg l) := rdr_dat hl fun _ _ _ h => h
  obtain ⟨aa, c, rfl, _⟩ := hl
  match j, hp with
  | 0, hp => cases hp; exact ⟨_, e0, rfl, .v _⟩
  | 1, hp => cases hp; exact ⟨_, by simpa [Addr.add] using e1, rfl, .v _⟩
  | 2, hp => cases hp; exact ⟨_, by simpa [Addr.add] using e2, rfl, hd⟩
theorem vec_open {fuel : Nat} {cs : List Value} {x : DataW H × List MemPlace} (h : DataW.trod enc Tryd.prog w base spare held fuel 54 cs = some x) : ∃ v l, cs = [v] ∧ RdSl 3 (rdC ec BdE) 0 w.heap.size w v l :=
  rdsl_open (rdC ec BdE) Tryd.underlying54 (by kernel_rfl) (fun _ _ _ _ h1 h2 => en_open h1 h2) h
theorem opc_v {r : Reach} {b0 : Nat} {v : Value} {d : DataW H} {ps : List MemPlace} (hval : Value.okWide Tryd.prog w r b0 54 v) (h : DataW.Trod enc Tryd.prog w base spare held 54 v d ps) : ∃ l, Dat (Lies w) w v (vp l) ∧ BdV l := by
  obtain ⟨a, len, cap, rfl⟩ := okWide_slice Tryd.underlying54 hval
  obtain ⟨fuel, hf⟩ := h
  obtain ⟨v, l, hv, hl⟩ := vec_open hf
  simp [Value.cells] at hv
  rw [← hv] at hl
  obtain ⟨h1, h2, h3⟩ := rdsl_dat (cv := ec) (bd := BdE) (fun _ => rfl) hl
  exact ⟨l, h1, h2, h3⟩
end
end Go.Proofs.YtcedofkenfddkaaDoor
