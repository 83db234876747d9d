/- The laws of chapter 8: they return true. -/
import Derived.Test.YtcedofkenfddkaaDoorT8
namespace Go.Proofs.YtcedofkenfddkaaDoor
set_option linter.unusedVariables false
set_option linter.unusedSimpArgs false
open Go.RowKit
set_option maxRecDepth 100000
/-- A list of entries. -/
def vp (v : List En) : PV := .sl (v.map ec) .sh
attribute [go_sem] vp
def BdE (e : En) : Prop := (∀ s ∈ e.holes, s.lo < M64 ∧ s.hi < M64) ∧ e.max < M64 ∧ e.rep < M64
def right8B (r : Nat) (v : List En) : Bool := v.all fun e => decide (e.holes.length ≤ 60) && rightEB e && decide (e.rep = r)
theorem right8B_drop {r : Nat} {v : List En} {k : Nat} (h : k < v.length) : right8B r (v.drop k) = (decide (v[k].holes.length ≤ 60) && rightEB v[k] && decide (v[k].rep = r) && right8B r (v.drop (k + 1))) := by
  rw [List.drop_eq_getElem_cons h]; rfl
set_option maxHeartbeats 1000000 in
theorem right8_c (e : En) (v : List En) (hb : ∀ f ∈ e :: v, BdE f) (hl : v.length ≤ 1048576) : Cn Tryd.prog 61 [vp (e :: v)] (.v (.bool (right8B e.rep (e :: v)))) := by
  obtain ⟨w, hw⟩ : ∃ w, e :: v = w := ⟨_, rfl⟩
  have h0 : 0 < w.length := by rw [← hw]; simp
  have hwl : w.length ≤ 1048577 := by rw [← hw]; simp; omega
  have e0 : w[0].rep = e.rep := by subst hw; rfl
  rw [hw] at hb ⊢
  rw [← e0]
  refine cn_go Tryd.func61 [] 1 (by kernel_rfl) rfl (by simp [go_sem, seval]) ?_
  conv => arg 4; cbv
  conv => enter [5, 1]; cbv
  try simp (maxSteps := 2000000) (disch := omega) only [go_sem, seval]
  try repeat ((with_reducible refine And.intro ?_ ?_); focus (first | omega | assumption | exact True.intro | (show anyD _ _ = true; exact rfl) | (simp only [List.length_map, List.length_append, List.length_cons, List.length_nil, List.length_take, List.length_drop]; omega)))
  refine pLoop.go (fun k => k ≤ w.length ∧ right8B w[0].rep w = right8B w[0].rep (w.drop k)) (fun k => [(7, .v (.int .i64 (k : Nat)))]) (fun _ => []) (fun k => w.length - k) 0 [7] ?_ ?_ ?_
  · exact ⟨Nat.zero_le _, rfl⟩
  · try simp (maxSteps := 2000000) (disch := omega) only [go_sem, seval]
    try repeat ((with_reducible refine And.intro ?_ ?_); focus (first | omega | assumption | exact True.intro | (show anyD _ _ = true; exact rfl) | (simp only [List.length_map, List.length_append, List.length_cons, List.length_nil, List.length_take, List.length_drop]; omega)))
  · rintro k ⟨hk, hm⟩
    try simp (maxSteps := 2000000) (disch := omega) only [go_sem, seval]
    try repeat ((with_reducible refine And.intro ?_ ?_); focus (first | omega | assumption | exact True.intro | (show anyD _ _ = true; exact rfl) | (simp only [List.length_map, List.length_append, List.length_cons, List.length_nil, List.length_take, List.length_drop]; omega)))
    (first | refine brP.mk (fun h => ?_) (fun h => ?_) | refine gdP.mkt (fun h => ?_) (fun h => ?_) | refine gdP.mkf (fun h => ?_) (fun h => ?_) | refine pkP.mk (fun h => ?_) (fun h => ?_)) <;> (try simp only [Bool.not_true, Bool.not_false, decide_eq_true_eq, decide_eq_false_iff_not, Bool.and_eq_true, Bool.or_eq_true, Bool.not_eq_true', Bool.not_eq_false', Bool.and_eq_false_iff, Bool.or_eq_false_iff, Nat.not_lt, Int.not_lt, Nat.not_le, Int.not_le, Int.ofNat_lt, Int.ofNat_le, Int.ofNat_inj, Bool.xor_false, Bool.false_xor, Bool.true_xor, Bool.xor_true] at h) <;> (try simp (maxSteps := 2000000) (disch := omega) only [go_sem, seval]) <;> (try repeat ((with_reducible refine And.intro ?_ ?_); focus (first | omega | assumption | exact True.intro | (show anyD _ _ = true; exact rfl) | (simp only [List.length_map, List.length_append, List.length_cons, List.length_nil, List.length_take, List.length_drop]; omega))))
    · rw [right8B_drop h] at hm
      obtain ⟨b1, b2, b3⟩ := hb _ (List.getElem_mem h)
      try simp (maxSteps := 2000000) (disch := omega) only [go_sem, seval]
      try repeat ((with_reducible refine And.intro ?_ ?_); focus (first | omega | assumption | exact True.intro | (show anyD _ _ = true; exact rfl) | (simp only [List.length_map, List.length_append, List.length_cons, List.length_nil, List.length_take, List.length_drop]; omega)))
      (first | refine brP.mk (fun h2 => ?_) (fun h2 => ?_) | refine gdP.mkt (fun h2 => ?_) (fun h2 => ?_) | refine gdP.mkf (fun h2 => ?_) (fun h2 => ?_) | refine pkP.mk (fun h2 => ?_) (fun h2 => ?_)) <;> (try simp only [Bool.not_true, Bool.not_false, decide_eq_true_eq, decide_eq_false_iff_not, Bool.and_eq_true, Bool.or_eq_true, Bool.not_eq_true', Bool.not_eq_false', Bool.and_eq_false_iff, Bool.or_eq_false_iff, Nat.not_lt, Int.not_lt, Nat.not_le, Int.not_le, Int.ofNat_lt, Int.ofNat_le, Int.ofNat_inj, Bool.xor_false, Bool.false_xor, Bool.true_xor, Bool.xor_true] at h2) <;> (try simp (maxSteps := 2000000) (disch := omega) only [go_sem, seval]) <;> (try repeat ((with_reducible refine And.intro ?_ ?_); focus (first | omega | assumption | exact True.intro | (show anyD _ _ = true; exact rfl) | (simp only [List.length_map, List.length_append, List.length_cons, List.length_nil, List.length_take, List.length_drop]; omega))))
      · rw [hm]
        simp
        omega
      · (first | refine callP.mk (right7_c w[k] (by omega) b1) rfl ?_ | refine callQ.mk (right7_c w[k] (by omega) b1) rfl ?_ | refine callO.rd (right7_c w[k] (by omega) b1) rfl ?_ | refine callO.mk (right7_c w[k] (by omega) b1) rfl ?_)
        try simp (maxSteps := 2000000) (disch := omega) only [go_sem, seval]
        try repeat ((with_reducible refine And.intro ?_ ?_); focus (first | omega | assumption | exact True.intro | (show anyD _ _ = true; exact rfl) | (simp only [List.length_map, List.length_append, List.length_cons, List.length_nil, List.length_take, List.length_drop]; omega)))
        (first | refine brP.mk (fun h3 => ?_) (fun h3 => ?_) | refine gdP.mkt (fun h3 => ?_) (fun h3 => ?_) | refine gdP.mkf (fun h3 => ?_) (fun h3 => ?_) | refine pkP.mk (fun h3 => ?_) (fun h3 => ?_)) <;> (try simp only [Bool.not_true, Bool.not_false, decide_eq_true_eq, decide_eq_false_iff_not, Bool.and_eq_true, Bool.or_eq_true, Bool.not_eq_true', Bool.not_eq_false', Bool.and_eq_false_iff, Bool.or_eq_false_iff, Nat.not_lt, Int.not_lt, Nat.not_le, Int.not_le, Int.ofNat_lt, Int.ofNat_le, Int.ofNat_inj, Bool.xor_false, Bool.false_xor, Bool.true_xor, Bool.xor_true] at h3) <;> (try simp (maxSteps := 2000000) (disch := omega) only [go_sem, seval]) <;> (try repeat ((with_reducible refine And.intro ?_ ?_); focus (first | omega | assumption | exact True.intro | (show anyD _ _ = true; exact rfl) | (simp only [List.length_map, List.length_append, List.length_cons, List.length_nil, List.length_take, List.length_drop]; omega))))
        · rw [hm, h3]
          simp
        · rw [h3] at hm
          try simp (maxSteps := 2000000) (disch := omega) only [go_sem, seval]
          try repeat ((with_reducible refine And.intro ?_ ?_); focus (first | omega | assumption | exact True.intro | (show anyD _ _ = true; exact rfl) | (simp only [List.length_map, List.length_append, List.length_cons, List.length_nil, List.length_take, List.length_drop]; omega)))
          (first | refine brP.mk (fun h4 => ?_) (fun h4 => ?_) | refine gdP.mkt (fun h4 => ?_) (fun h4 => ?_) | refine gdP.mkf (fun h4 => ?_) (fun h4 => ?_) | refine pkP.mk (fun h4 => ?_) (fun h4 => ?_)) <;> (try simp only [Bool.not_true, Bool.not_false, decide_eq_true_eq, decide_eq_false_iff_not, Bool.and_eq_true, Bool.or_eq_true, Bool.not_eq_true', Bool.not_eq_false', Bool.and_eq_false_iff, Bool.or_eq_false_iff, Nat.not_lt, Int.not_lt, Nat.not_le, Int.not_le, Int.ofNat_lt, Int.ofNat_le, Int.ofNat_inj, Bool.xor_false, Bool.false_xor, Bool.true_xor, Bool.xor_true] at h4) <;> (try simp (maxSteps := 2000000) (disch := omega) only [go_sem, seval]) <;> (try repeat ((with_reducible refine And.intro ?_ ?_); focus (first | omega | assumption | exact True.intro | (show anyD _ _ = true; exact rfl) | (simp only [List.length_map, List.length_append, List.length_cons, List.length_nil, List.length_take, List.length_drop]; omega))))
          · rw [hm]
            simp [h4]
          · refine ⟨k + 1, ⟨h, ?_⟩, by omega, rfl⟩
            rw [hm, h4]
            simp
            omega
    · rw [List.drop_of_length_le h] at hm
      rw [hm]
      rfl
theorem right8_get {r : Nat} {v : List En} (h : right8B r v = true) {e : En} (he : e ∈ v) (hb : BdE e) : RightE e ∧ e.holes.length ≤ 60 ∧ e.rep = r := by
  have := List.all_eq_true.1 h e he
  simp only [Bool.and_eq_true, decide_eq_true_eq] at this
  exact ⟨(rightEB_iff hb.1 hb.2.1 hb.2.2).1 this.1.2, this.1.1, this.2⟩
theorem addE_is {e r : En} {c : Nat} (he : RightE e) (hc : c < M64) (hr : CanE r) (hrep : r.rep = e.rep) (hk : ∀ x, x < M64 → (decide (x ≤ r.max) && !mem r.holes x) = ((decide (x ≤ e.max) && !mem e.holes x) || (decide (c ≤ x) && decide (x ≤ c)))) : addE e c = r := by
  rw [addE_eq he hc]
  have : opS fUnion (kn e) [⟨c, c⟩] = kn r := opS_eq (kn_nrm he) (nrm_one (Nat.le_refl _) hc) (kn_nrm hr.1) fun x hx => by
    rw [kn_mem hr.1 hx, kn_mem he hx, mem_one]
    exact hk x hx
  rw [this, ← hrep, can_ofS hr]
def ea : En := ⟨1, 2, []⟩
def eb : En := ⟨1, 5, [⟨3, 4⟩]⟩
def ecc : En := ⟨1, 5, [⟨4, 4⟩]⟩
def ed : En := ⟨1, 5, []⟩
theorem ea_r : RightE ea := ⟨trivial, (fun _ h => by cases h), by decide, by decide⟩
theorem eb_r : CanE eb := ⟨⟨nrm_one (by decide) (by decide), by simp [eb], by decide, by decide⟩, by simp [eb]⟩
theorem ecc_r : CanE ecc := ⟨⟨nrm_one (by decide) (by decide), by simp [ecc], by decide, by decide⟩, by simp [ecc]⟩
theorem ed_r : CanE ed := ⟨⟨trivial, (fun _ h => by cases h), by decide, by decide⟩, (fun _ h => by cases h)⟩
theorem a8_1 : addE ea 5 = eb := addE_is ea_r (by decide) eb_r rfl fun x _ => by rw [Bool.eq_iff_iff]; simp only [Bool.and_eq_true, Bool.or_eq_true, decide_eq_true_eq]; simp [ea, eb, mem]; omega
theorem a8_2 : addE eb 3 = ecc := addE_is eb_r.1 (by decide) ecc_r rfl fun x _ => by rw [Bool.eq_iff_iff]; simp only [Bool.and_eq_true, Bool.or_eq_true, decide_eq_true_eq]; simp [eb, ecc, mem]; omega
theorem a8_3 : addE ecc 4 = ed := addE_is ecc_r.1 (by decide) ed_r rfl fun x _ => by rw [Bool.eq_iff_iff]; simp only [Bool.and_eq_true, Bool.or_eq_true, decide_eq_true_eq]; simp [ecc, ed, mem]; omega
theorem a8_4 : nextE eb = (6, true) := by
  have := can_kn eb_r
  unfold nextE
  rw [if_neg this.1, this.2, if_neg (by decide)]
  rfl
theorem a8_5 : opS fMinus (kn eb) (kn ed) = [] := opS_eq (kn_nrm eb_r.1) (kn_nrm ed_r.1) trivial fun x hx => by
  rw [kn_mem eb_r.1 hx, kn_mem ed_r.1 hx, Bool.eq_iff_iff]; simp only [fMinus, Bool.and_eq_true, Bool.or_eq_true, Bool.not_eq_true', Bool.and_eq_false_iff, Bool.not_eq_false', decide_eq_true_eq, decide_eq_false_iff_not]; simp [eb, ed, mem]; omega
theorem a8_6 : opS fMinus (kn ed) (kn eb) ≠ [] := ops_ne (n := 3) (kn_nrm ed_r.1) (kn_nrm eb_r.1) (by decide) (by
  rw [kn_mem ed_r.1 (by decide), kn_mem eb_r.1 (by decide)]; decide)
set_option maxHeartbeats 1000000 in
theorem alive8_c : Cn Tryd.prog 62 [] (.v (.bool true)) := by
  refine cn_go Tryd.func62 [] 0 (by kernel_rfl) rfl (by simp [go_sem, seval]) ?_
  conv => arg 4; cbv
  conv => enter [5, 1]; cbv
  try simp (maxSteps := 2000000) (disch := omega) only [go_sem, seval]
  try repeat ((with_reducible refine And.intro ?_ ?_); focus (first | omega | assumption | exact True.intro | (show anyD _ _ = true; exact rfl) | (simp only [List.length_map, List.length_append, List.length_cons, List.length_nil, List.length_take, List.length_drop]; omega)))
  (first | refine callP.mk (jAdd_c ea 5 ea_r (by decide) (by decide)) rfl ?_ | refine callQ.mk (jAdd_c ea 5 ea_r (by decide) (by decide)) rfl ?_ | refine callO.rd (jAdd_c ea 5 ea_r (by decide) (by decide)) rfl ?_ | refine callO.mk (jAdd_c ea 5 ea_r (by decide) (by decide)) rfl ?_)
  rw [a8_1]
  try simp (maxSteps := 2000000) (disch := omega) only [go_sem, seval]
  try repeat ((with_reducible refine And.intro ?_ ?_); focus (first | omega | assumption | exact True.intro | (show anyD _ _ = true; exact rfl) | (simp only [List.length_map, List.length_append, List.length_cons, List.length_nil, List.length_take, List.length_drop]; omega)))
  (first | refine callP.mk (jAdd_c eb 3 eb_r.1 (by decide) (by decide)) rfl ?_ | refine callQ.mk (jAdd_c eb 3 eb_r.1 (by decide) (by decide)) rfl ?_ | refine callO.rd (jAdd_c eb 3 eb_r.1 (by decide) (by decide)) rfl ?_ | refine callO.mk (jAdd_c eb 3 eb_r.1 (by decide) (by decide)) rfl ?_)
  rw [a8_2]
  try simp (maxSteps := 2000000) (disch := omega) only [go_sem, seval]
  try repeat ((with_reducible refine And.intro ?_ ?_); focus (first | omega | assumption | exact True.intro | (show anyD _ _ = true; exact rfl) | (simp only [List.length_map, List.length_append, List.length_cons, List.length_nil, List.length_take, List.length_drop]; omega)))
  (first | refine callP.mk (jAdd_c ecc 4 ecc_r.1 (by decide) (by decide)) rfl ?_ | refine callQ.mk (jAdd_c ecc 4 ecc_r.1 (by decide) (by decide)) rfl ?_ | refine callO.rd (jAdd_c ecc 4 ecc_r.1 (by decide) (by decide)) rfl ?_ | refine callO.mk (jAdd_c ecc 4 ecc_r.1 (by decide) (by decide)) rfl ?_)
  rw [a8_3]
  try simp (maxSteps := 2000000) (disch := omega) only [go_sem, seval]
  try repeat ((with_reducible refine And.intro ?_ ?_); focus (first | omega | assumption | exact True.intro | (show anyD _ _ = true; exact rfl) | (simp only [List.length_map, List.length_append, List.length_cons, List.length_nil, List.length_take, List.length_drop]; omega)))
  (first | refine callP.mk (jnext_c eb eb_r.1 (by decide)) rfl ?_ | refine callQ.mk (jnext_c eb eb_r.1 (by decide)) rfl ?_ | refine callO.rd (jnext_c eb eb_r.1 (by decide)) rfl ?_ | refine callO.mk (jnext_c eb eb_r.1 (by decide)) rfl ?_)
  rw [a8_4]
  try simp (maxSteps := 2000000) (disch := omega) only [go_sem, seval]
  try repeat ((with_reducible refine And.intro ?_ ?_); focus (first | omega | assumption | exact True.intro | (show anyD _ _ = true; exact rfl) | (simp only [List.length_map, List.length_append, List.length_cons, List.length_nil, List.length_take, List.length_drop]; omega)))
  (first | refine callP.mk (same7_c eb eb (by decide)) rfl ?_ | refine callQ.mk (same7_c eb eb (by decide)) rfl ?_ | refine callO.rd (same7_c eb eb (by decide)) rfl ?_ | refine callO.mk (same7_c eb eb (by decide)) rfl ?_)
  try simp (maxSteps := 2000000) (disch := omega) only [go_sem, seval]
  try repeat ((with_reducible refine And.intro ?_ ?_); focus (first | omega | assumption | exact True.intro | (show anyD _ _ = true; exact rfl) | (simp only [List.length_map, List.length_append, List.length_cons, List.length_nil, List.length_take, List.length_drop]; omega)))
  (first | refine callP.mk (same7_c ed ed (by decide)) rfl ?_ | refine callQ.mk (same7_c ed ed (by decide)) rfl ?_ | refine callO.rd (same7_c ed ed (by decide)) rfl ?_ | refine callO.mk (same7_c ed ed (by decide)) rfl ?_)
  try simp (maxSteps := 2000000) (disch := omega) only [go_sem, seval]
  try repeat ((with_reducible refine And.intro ?_ ?_); focus (first | omega | assumption | exact True.intro | (show anyD _ _ = true; exact rfl) | (simp only [List.length_map, List.length_append, List.length_cons, List.length_nil, List.length_take, List.length_drop]; omega)))
  (first | refine callP.mk (jSubset_c eb ed eb_r.1 ed_r.1 (by decide) (by decide)) rfl ?_ | refine callQ.mk (jSubset_c eb ed eb_r.1 ed_r.1 (by decide) (by decide)) rfl ?_ | refine callO.rd (jSubset_c eb ed eb_r.1 ed_r.1 (by decide) (by decide)) rfl ?_ | refine callO.mk (jSubset_c eb ed eb_r.1 ed_r.1 (by decide) (by decide)) rfl ?_)
  rw [a8_5]
  try simp (maxSteps := 2000000) (disch := omega) only [go_sem, seval]
  try repeat ((with_reducible refine And.intro ?_ ?_); focus (first | omega | assumption | exact True.intro | (show anyD _ _ = true; exact rfl) | (simp only [List.length_map, List.length_append, List.length_cons, List.length_nil, List.length_take, List.length_drop]; omega)))
  (first | refine callP.mk (jSubset_c ed eb ed_r.1 eb_r.1 (by decide) (by decide)) rfl ?_ | refine callQ.mk (jSubset_c ed eb ed_r.1 eb_r.1 (by decide) (by decide)) rfl ?_ | refine callO.rd (jSubset_c ed eb ed_r.1 eb_r.1 (by decide) (by decide)) rfl ?_ | refine callO.mk (jSubset_c ed eb ed_r.1 eb_r.1 (by decide) (by decide)) rfl ?_)
  rw [decide_eq_false a8_6]
  try simp (maxSteps := 2000000) (disch := omega) only [go_sem, seval]
  try repeat ((with_reducible refine And.intro ?_ ?_); focus (first | omega | assumption | exact True.intro | (show anyD _ _ = true; exact rfl) | (simp only [List.length_map, List.length_append, List.length_cons, List.length_nil, List.length_take, List.length_drop]; omega)))
theorem dec_ne (p : Prop) [Decidable p] : (decide p == !decide (¬ p)) = true := by by_cases h : p <;> simp [h]
section
variable (a b : En) (ha : BdE a) (hb : BdE b)
include ha hb
theorem bd8_2 : ∀ f ∈ [a, b], BdE f := by
  intro f hf
  simp at hf
  rcases hf with rfl | rfl <;> assumption
end
theorem bd8_1 {e : En} (he : BdE e) : ∀ f ∈ [e], BdE f := by simpa using he
theorem bd8_3 {a b c : En} (ha : BdE a) (hb : BdE b) (hc : BdE c) : ∀ f ∈ [a, b, c], BdE f := by
  intro f hf
  simp at hf
  rcases hf with rfl | rfl | rfl <;> assumption
end Go.Proofs.YtcedofkenfddkaaDoor
