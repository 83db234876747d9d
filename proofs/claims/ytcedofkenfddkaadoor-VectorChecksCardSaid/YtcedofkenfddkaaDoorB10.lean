/- Texts of this claim, bound together: Q9 Q9n T18 T19 T20 T21. -/
import Derived.Test.YtcedofkenfddkaaDoorB9
/- Plain mathematics of vectors: the check, the search, the order of the numbers. No condition. -/
namespace Go.Proofs.YtcedofkenfddkaaDoor
set_option linter.unusedVariables false
set_option linter.unusedSimpArgs false
open Go.RowKit
def fewB (v : List En) : Bool := v.all (fun e => decide (e.holes.length ≤ 30)) && decide (v.length ≤ 20)
theorem fewB_iff {v : List En} : fewB v = true ↔ (∀ e ∈ v, e.holes.length ≤ 30) ∧ v.length ≤ 20 := by simp [fewB]
def prv (v : List En) (k : Nat) : Nat := match v[k - 1]? with
  | some p => p.rep
  | none => 0
theorem prv_at {v : List En} {k : Nat} (h : k - 1 < v.length) : prv v k = v[k - 1].rep := by simp [prv, List.getElem?_eq_getElem h]
def hkV (v : List En) : Nat → List En → Nat × Int
  | _, [] => (0, -1)
  | k, e :: r => if (chkE e).1 ≠ 0 then ((chkE e).1, (k : Int)) else if 0 < k ∧ e.rep ≤ prv v k then (3, (k : Int)) else hkV v (k + 1) r
def chkV (v : List En) : Nat × Int := hkV v 0 v
theorem hkV_zero (v : List En) : ∀ (k : Nat) (r : List En), r = v.drop k → ((hkV v k r).1 = 0 ↔ (∀ e ∈ r, (chkE e).1 = 0) ∧ ∀ j (h : j < v.length), k ≤ j → 0 < j → v[j - 1].rep < v[j].rep)
  | k, [], h => by
    have hl := congrArg List.length h
    simp at hl
    simp only [hkV, List.not_mem_nil, false_implies, implies_true, true_and, true_iff]
    intro j hj hk
    omega
  | k, e :: r, h => by
    have hl := congrArg List.length h
    simp at hl
    have hk : k < v.length := by omega
    rw [List.drop_eq_getElem_cons hk, List.cons.injEq] at h
    obtain ⟨he, hr⟩ := h
    have ih := hkV_zero v (k + 1) r hr
    unfold hkV
    by_cases h1 : (chkE e).1 ≠ 0
    · rw [if_pos h1]
      constructor
      · intro h; exact absurd h h1
      · rintro ⟨h2, _⟩; exact absurd (h2 e (by simp)) h1
    · rw [if_neg h1]
      have h1' : (chkE e).1 = 0 := by omega
      by_cases h2 : 0 < k ∧ e.rep ≤ prv v k
      · rw [if_pos h2]
        constructor
        · intro h; cases h
        · rintro ⟨_, h3⟩
          have := h3 k hk (Nat.le_refl _) h2.1
          have h22 := h2.2
          have h23 := congrArg En.rep he
          rw [prv_at (by omega)] at h22
          omega
      · rw [if_neg h2, ih]
        constructor
        · rintro ⟨h3, h4⟩
          refine ⟨fun f hf => ?_, fun j hj hkj hj0 => ?_⟩
          · rcases List.mem_cons.1 hf with rfl | hf
            · exact h1'
            · exact h3 f hf
          · rcases Nat.eq_or_lt_of_le hkj with rfl | hlt
            · rw [prv_at (by omega), he] at h2
              omega
            · exact h4 j hj (by omega) hj0
        · rintro ⟨h3, h4⟩
          exact ⟨fun f hf => h3 f (by simp [hf]), fun j hj hkj hj0 => h4 j hj (by omega) hj0⟩
theorem adj_pair {v : List En} (h : ∀ j (h : j < v.length), 0 < j → v[j - 1].rep < v[j].rep) : v.Pairwise fun a b => a.rep < b.rep := by
  rw [List.pairwise_iff_getElem]
  intro i j hi hj hij
  induction j with
  | zero => omega
  | succ j ih =>
    have h1 := h (j + 1) hj (by omega)
    simp only [Nat.add_sub_cancel] at h1
    rcases Nat.eq_or_lt_of_le (Nat.le_of_lt_succ hij) with rfl | h2
    · exact h1
    · have := ih (by omega) h2
      omega
theorem chkV_iff {v : List En} (hb : ∀ e ∈ v, BdE e) : (chkV v).1 = 0 ↔ RightV v := by
  unfold chkV
  rw [hkV_zero v 0 v rfl]
  have hE : ∀ e ∈ v, (chkE e).1 = 0 ↔ RightE e := fun e he => by
    have := rightEB_iff (hb e he).1 (hb e he).2.1 (hb e he).2.2
    unfold rightEB at this
    simpa using this
  constructor
  · rintro ⟨h1, h2⟩
    exact ⟨fun e he => (hE e he).1 (h1 e he), adj_pair fun j hj h0 => h2 j hj (Nat.zero_le _) h0⟩
  · rintro ⟨h1, h2⟩
    refine ⟨fun e he => (hE e he).2 (h1 e he), fun j hj _ h0 => ?_⟩
    exact List.pairwise_iff_getElem.1 h2 (j - 1) j (by omega) hj (by omega)
def canVB (v : List En) : Bool := v.all (fun e => rightEB e && !mem e.holes e.max) && decide ((chkV v).1 = 0)
theorem canEB_iff {e : En} (h : BdE e) : (rightEB e && !mem e.holes e.max) = true ↔ CanE e := by
  rw [Bool.and_eq_true, rightEB_iff h.1 h.2.1 h.2.2]
  constructor
  · rintro ⟨h1, h2⟩; exact (can_iff h1).2 (by simpa using h2)
  · intro h1; exact ⟨h1.1, by rw [(can_iff h1.1).1 h1]; rfl⟩
theorem canVB_iff {v : List En} (hb : ∀ e ∈ v, BdE e) : canVB v = true ↔ CanV v := by
  unfold canVB
  rw [Bool.and_eq_true, decide_eq_true_eq, chkV_iff hb, List.all_eq_true]
  constructor
  · rintro ⟨h1, h2⟩; exact ⟨fun e he => (canEB_iff (hb e he)).1 (h1 e he), h2.2⟩
  · intro h; exact ⟨fun e he => (canEB_iff (hb e he)).2 (h.1 e he), h.right⟩
/-- The first entry of a replica. -/
def fdV (r : Nat) : Nat → List En → Int
  | _, [] => -1
  | k, e :: t => if e.rep = r then (k : Int) else fdV r (k + 1) t
theorem fdV_spec (r : Nat) : ∀ (l : List En) (k : Nat), (fdV r k l = -1 ∧ ∀ e ∈ l, e.rep ≠ r) ∨ ∃ (i : Nat) (h : i < l.length), fdV r k l = ((k + i : Nat) : Int) ∧ l[i].rep = r
  | [], k => .inl ⟨rfl, fun _ h => by cases h⟩
  | e :: t, k => by
    unfold fdV
    by_cases h : e.rep = r
    · rw [if_pos h]
      exact .inr ⟨0, by simp, by simp, h⟩
    · rw [if_neg h]
      rcases fdV_spec r t (k + 1) with ⟨h1, h2⟩ | ⟨i, hi, h1, h2⟩
      · refine .inl ⟨h1, fun f hf => ?_⟩
        rcases List.mem_cons.1 hf with rfl | hf
        · exact h
        · exact h2 f hf
      · exact .inr ⟨i + 1, by simpa using hi, by rw [h1]; omega, by simpa using h2⟩
theorem part_rep {v : List En} (h : RightV v) (r : Nat) : ∃ i, i ≤ v.length ∧ (∀ j, (h : j < v.length) → j < i → v[j].rep < r) ∧ (∀ j, (h : j < v.length) → i ≤ j → r ≤ v[j].rep) := by
  have hp := List.pairwise_iff_getElem.1 h.2
  obtain ⟨i, h1, h2, h3⟩ := ex_part (fun j => ∃ h : j < v.length, v[j].rep < r) v.length fun a b hab hb ⟨h4, h5⟩ => by
    refine ⟨by omega, ?_⟩
    rcases Nat.lt_or_eq_of_le hab with h6 | h6
    · have := hp a b (by omega) hb h6
      omega
    · subst h6; exact h5
  exact ⟨i, h1, fun j hj hji => (h2 j hji).2, fun j hj hij => Nat.le_of_not_lt fun h => h3 j hij hj ⟨hj, h⟩⟩
theorem fdV_part {v : List En} (hr : RightV v) {r i : Nat} (h1 : ∀ j, (h : j < v.length) → j < i → v[j].rep < r) (h2 : ∀ j, (h : j < v.length) → i ≤ j → r ≤ v[j].rep) :
    fdV r 0 v = if h : i < v.length then (if v[i].rep = r then (i : Int) else -1) else -1 := by
  have hp := List.pairwise_iff_getElem.1 hr.2
  rcases fdV_spec r v 0 with ⟨e1, e2⟩ | ⟨j, hj, e1, e2⟩
  · rw [e1]
    split
    · rename_i h
      rw [if_neg (e2 _ (List.getElem_mem h))]
    · rfl
  · have hij : i ≤ j := Nat.le_of_not_lt fun h => by have := h1 j hj h; omega
    have : i = j := by
      rcases Nat.lt_or_eq_of_le hij with h | h
      · have a1 := hp i j (by omega) hj h
        have a2 := h2 i (by omega) (Nat.le_refl _)
        omega
      · exact h
    subst this
    rw [dif_pos hj, if_pos e2, e1, Nat.zero_add]
theorem knV_fd {v : List En} (hr : RightV v) {r i : Nat} (hi : i < v.length) (h : v[i].rep = r) : knV v r = kn v[i] := by
  rw [← h]; exact knV_mem hr.2 (List.getElem_mem hi)
/-- The order of lists of numbers. -/
def cmpL : List Nat → List Nat → Int
  | [], [] => 0
  | [], _ :: _ => -1
  | _ :: _, [] => 1
  | a :: x, b :: y => if a < b then -1 else if b < a then 1 else cmpL x y
end Go.Proofs.YtcedofkenfddkaaDoor
/- The numbers of a vector tell it. No condition. -/
namespace Go.Proofs.YtcedofkenfddkaaDoor
set_option linter.unusedVariables false
set_option linter.unusedSimpArgs false
open Go.RowKit
end Go.Proofs.YtcedofkenfddkaaDoor
/- The contracts of vector (Find, Has, Compare) and of kenningref09 (Few, Find, Has, Numbers, Compare, Same). -/
namespace Go.Proofs.YtcedofkenfddkaaDoor
set_option linter.unusedVariables false
set_option linter.unusedSimpArgs false
open Go.RowKit
set_option maxRecDepth 100000
theorem few_c (v : List En) (hl : v.length ≤ 9223372036854775807) : Cn Tryd.prog 44 [vp v] (.v (.bool (fewB v))) := by
  refine cn_go Tryd.func44 [] 1 (by kernel_rfl) rfl (by simp [go_sem, seval]) ?_
  conv => arg 4; cbv
  conv => enter [5, 1]; cbv
  try simp (maxSteps := 2000000) (disch := omega) only [go_sem, seval]
  try repeat ((with_reducible refine And.intro ?_ ?_); focus (first | omega | assumption | exact True.intro | (show anyD _ _ = true; exact rfl) | (simp only [List.length_map, List.length_append, List.length_cons, List.length_nil, List.length_take, List.length_drop]; omega)))
  refine pLoop.go (fun k => k ≤ v.length ∧ fewB v = ((v.drop k).all (fun e => decide (e.holes.length ≤ 30)) && decide (v.length ≤ 20))) (fun k => [(3, .v (.int .i64 (k : Nat)))]) (fun _ => []) (fun k => v.length - k) 0 [3] ?_ ?_ ?_
  · exact ⟨Nat.zero_le _, rfl⟩
  · try simp (maxSteps := 2000000) (disch := omega) only [go_sem, seval]
    try repeat ((with_reducible refine And.intro ?_ ?_); focus (first | omega | assumption | exact True.intro | (show anyD _ _ = true; exact rfl) | (simp only [List.length_map, List.length_append, List.length_cons, List.length_nil, List.length_take, List.length_drop]; omega)))
  · rintro k ⟨hk, hm⟩
    try simp (maxSteps := 2000000) (disch := omega) only [go_sem, seval]
    try repeat ((with_reducible refine And.intro ?_ ?_); focus (first | omega | assumption | exact True.intro | (show anyD _ _ = true; exact rfl) | (simp only [List.length_map, List.length_append, List.length_cons, List.length_nil, List.length_take, List.length_drop]; omega)))
    (first | refine brP.mk (fun h => ?_) (fun h => ?_) | refine gdP.mkt (fun h => ?_) (fun h => ?_) | refine gdP.mkf (fun h => ?_) (fun h => ?_) | refine pkP.mk (fun h => ?_) (fun h => ?_)) <;> (try simp only [Bool.not_true, Bool.not_false, decide_eq_true_eq, decide_eq_false_iff_not, Bool.and_eq_true, Bool.or_eq_true, Bool.not_eq_true', Bool.not_eq_false', Bool.and_eq_false_iff, Bool.or_eq_false_iff, Nat.not_lt, Int.not_lt, Nat.not_le, Int.not_le, Int.ofNat_lt, Int.ofNat_le, Int.ofNat_inj, Bool.xor_false, Bool.false_xor, Bool.true_xor, Bool.xor_true] at h) <;> (try simp (maxSteps := 2000000) (disch := omega) only [go_sem, seval]) <;> (try repeat ((with_reducible refine And.intro ?_ ?_); focus (first | omega | assumption | exact True.intro | (show anyD _ _ = true; exact rfl) | (simp only [List.length_map, List.length_append, List.length_cons, List.length_nil, List.length_take, List.length_drop]; omega))))
    · rw [List.drop_eq_getElem_cons h, List.all_cons] at hm
      try simp (maxSteps := 2000000) (disch := omega) only [go_sem, seval]
      try repeat ((with_reducible refine And.intro ?_ ?_); focus (first | omega | assumption | exact True.intro | (show anyD _ _ = true; exact rfl) | (simp only [List.length_map, List.length_append, List.length_cons, List.length_nil, List.length_take, List.length_drop]; omega)))
      (first | refine brP.mk (fun h2 => ?_) (fun h2 => ?_) | refine gdP.mkt (fun h2 => ?_) (fun h2 => ?_) | refine gdP.mkf (fun h2 => ?_) (fun h2 => ?_) | refine pkP.mk (fun h2 => ?_) (fun h2 => ?_)) <;> (try simp only [Bool.not_true, Bool.not_false, decide_eq_true_eq, decide_eq_false_iff_not, Bool.and_eq_true, Bool.or_eq_true, Bool.not_eq_true', Bool.not_eq_false', Bool.and_eq_false_iff, Bool.or_eq_false_iff, Nat.not_lt, Int.not_lt, Nat.not_le, Int.not_le, Int.ofNat_lt, Int.ofNat_le, Int.ofNat_inj, Bool.xor_false, Bool.false_xor, Bool.true_xor, Bool.xor_true] at h2) <;> (try simp (maxSteps := 2000000) (disch := omega) only [go_sem, seval]) <;> (try repeat ((with_reducible refine And.intro ?_ ?_); focus (first | omega | assumption | exact True.intro | (show anyD _ _ = true; exact rfl) | (simp only [List.length_map, List.length_append, List.length_cons, List.length_nil, List.length_take, List.length_drop]; omega))))
      · rw [hm, decide_eq_false (by omega)]
        rfl
      · rw [decide_eq_true (by omega), Bool.true_and] at hm
        exact ⟨k + 1, ⟨h, hm⟩, by omega, rfl⟩
    · rw [hm, List.drop_of_length_le (by omega)]
      simp
      omega
theorem nan_c (x : Nat) : Cn Tryd.prog 132 [.v (.int .u64 x)] (.v (.bool false)) := by
  refine cn_go Tryd.func132 [] 1 (by kernel_rfl) rfl (by simp [go_sem, seval]) ?_
  conv => arg 4; cbv
  conv => enter [5, 1]; cbv
  try simp (maxSteps := 2000000) (disch := omega) only [go_sem, seval]
  try repeat ((with_reducible refine And.intro ?_ ?_); focus (first | omega | assumption | exact True.intro | (show anyD _ _ = true; exact rfl) | (simp only [List.length_map, List.length_append, List.length_cons, List.length_nil, List.length_take, List.length_drop]; omega)))
theorem nanI_c (x : Int) : Cn Tryd.prog 133 [.v (.int .i64 x)] (.v (.bool false)) := by
  refine cn_go Tryd.func133 [] 1 (by kernel_rfl) rfl (by simp [go_sem, seval]) ?_
  conv => arg 4; cbv
  conv => enter [5, 1]; cbv
  try simp (maxSteps := 2000000) (disch := omega) only [go_sem, seval]
  try repeat ((with_reducible refine And.intro ?_ ?_); focus (first | omega | assumption | exact True.intro | (show anyD _ _ = true; exact rfl) | (simp only [List.length_map, List.length_append, List.length_cons, List.length_nil, List.length_take, List.length_drop]; omega)))
theorem cmp_c (x y : Nat) : Cn Tryd.prog 115 [.v (.int .u64 x), .v (.int .u64 y)] (.v (.int .i64 (if x < y then -1 else if y < x then 1 else 0))) := by
  refine cn_go Tryd.func115 [] 2 (by kernel_rfl) rfl (by simp [go_sem, seval]) ?_
  conv => arg 4; cbv
  conv => enter [5, 1]; cbv
  try simp (maxSteps := 2000000) (disch := omega) only [go_sem, seval]
  try repeat ((with_reducible refine And.intro ?_ ?_); focus (first | omega | assumption | exact True.intro | (show anyD _ _ = true; exact rfl) | (simp only [List.length_map, List.length_append, List.length_cons, List.length_nil, List.length_take, List.length_drop]; omega)))
  (first | refine callP.mk (nan_c x) rfl ?_ | refine callQ.mk (nan_c x) rfl ?_ | refine callO.rd (nan_c x) rfl ?_ | refine callO.mk (nan_c x) rfl ?_)
  try simp (maxSteps := 2000000) (disch := omega) only [go_sem, seval]
  try repeat ((with_reducible refine And.intro ?_ ?_); focus (first | omega | assumption | exact True.intro | (show anyD _ _ = true; exact rfl) | (simp only [List.length_map, List.length_append, List.length_cons, List.length_nil, List.length_take, List.length_drop]; omega)))
  (first | refine callP.mk (nan_c y) rfl ?_ | refine callQ.mk (nan_c y) rfl ?_ | refine callO.rd (nan_c y) rfl ?_ | refine callO.mk (nan_c y) rfl ?_)
  try simp (maxSteps := 2000000) (disch := omega) only [go_sem, seval]
  try repeat ((with_reducible refine And.intro ?_ ?_); focus (first | omega | assumption | exact True.intro | (show anyD _ _ = true; exact rfl) | (simp only [List.length_map, List.length_append, List.length_cons, List.length_nil, List.length_take, List.length_drop]; omega)))
  (first | refine brP.mk (fun h1 => ?_) (fun h1 => ?_) | refine gdP.mkt (fun h1 => ?_) (fun h1 => ?_) | refine gdP.mkf (fun h1 => ?_) (fun h1 => ?_) | refine pkP.mk (fun h1 => ?_) (fun h1 => ?_)) <;> (try simp only [Bool.not_true, Bool.not_false, decide_eq_true_eq, decide_eq_false_iff_not, Bool.and_eq_true, Bool.or_eq_true, Bool.not_eq_true', Bool.not_eq_false', Bool.and_eq_false_iff, Bool.or_eq_false_iff, Nat.not_lt, Int.not_lt, Nat.not_le, Int.not_le, Int.ofNat_lt, Int.ofNat_le, Int.ofNat_inj, Bool.xor_false, Bool.false_xor, Bool.true_xor, Bool.xor_true] at h1) <;> (try simp (maxSteps := 2000000) (disch := omega) only [go_sem, seval]) <;> (try repeat ((with_reducible refine And.intro ?_ ?_); focus (first | omega | assumption | exact True.intro | (show anyD _ _ = true; exact rfl) | (simp only [List.length_map, List.length_append, List.length_cons, List.length_nil, List.length_take, List.length_drop]; omega))))
  · rw [if_pos h1]
  · rw [if_neg (by omega)]
    (first | refine brP.mk (fun h2 => ?_) (fun h2 => ?_) | refine gdP.mkt (fun h2 => ?_) (fun h2 => ?_) | refine gdP.mkf (fun h2 => ?_) (fun h2 => ?_) | refine pkP.mk (fun h2 => ?_) (fun h2 => ?_)) <;> (try simp only [Bool.not_true, Bool.not_false, decide_eq_true_eq, decide_eq_false_iff_not, Bool.and_eq_true, Bool.or_eq_true, Bool.not_eq_true', Bool.not_eq_false', Bool.and_eq_false_iff, Bool.or_eq_false_iff, Nat.not_lt, Int.not_lt, Nat.not_le, Int.not_le, Int.ofNat_lt, Int.ofNat_le, Int.ofNat_inj, Bool.xor_false, Bool.false_xor, Bool.true_xor, Bool.xor_true] at h2) <;> (try simp (maxSteps := 2000000) (disch := omega) only [go_sem, seval]) <;> (try repeat ((with_reducible refine And.intro ?_ ?_); focus (first | omega | assumption | exact True.intro | (show anyD _ _ = true; exact rfl) | (simp only [List.length_map, List.length_append, List.length_cons, List.length_nil, List.length_take, List.length_drop]; omega))))
    · rw [if_pos h2]
    · rw [if_neg (by omega)]
theorem cmpI_c (x y : Nat) : Cn Tryd.prog 116 [.v (.int .i64 x), .v (.int .i64 y)] (.v (.int .i64 (if x < y then -1 else if y < x then 1 else 0))) := by
  refine cn_go Tryd.func116 [] 2 (by kernel_rfl) rfl (by simp [go_sem, seval]) ?_
  conv => arg 4; cbv
  conv => enter [5, 1]; cbv
  try simp (maxSteps := 2000000) (disch := omega) only [go_sem, seval]
  try repeat ((with_reducible refine And.intro ?_ ?_); focus (first | omega | assumption | exact True.intro | (show anyD _ _ = true; exact rfl) | (simp only [List.length_map, List.length_append, List.length_cons, List.length_nil, List.length_take, List.length_drop]; omega)))
  (first | refine callP.mk (nanI_c x) rfl ?_ | refine callQ.mk (nanI_c x) rfl ?_ | refine callO.rd (nanI_c x) rfl ?_ | refine callO.mk (nanI_c x) rfl ?_)
  try simp (maxSteps := 2000000) (disch := omega) only [go_sem, seval]
  try repeat ((with_reducible refine And.intro ?_ ?_); focus (first | omega | assumption | exact True.intro | (show anyD _ _ = true; exact rfl) | (simp only [List.length_map, List.length_append, List.length_cons, List.length_nil, List.length_take, List.length_drop]; omega)))
  (first | refine callP.mk (nanI_c y) rfl ?_ | refine callQ.mk (nanI_c y) rfl ?_ | refine callO.rd (nanI_c y) rfl ?_ | refine callO.mk (nanI_c y) rfl ?_)
  try simp (maxSteps := 2000000) (disch := omega) only [go_sem, seval]
  try repeat ((with_reducible refine And.intro ?_ ?_); focus (first | omega | assumption | exact True.intro | (show anyD _ _ = true; exact rfl) | (simp only [List.length_map, List.length_append, List.length_cons, List.length_nil, List.length_take, List.length_drop]; omega)))
  (first | refine brP.mk (fun h1 => ?_) (fun h1 => ?_) | refine gdP.mkt (fun h1 => ?_) (fun h1 => ?_) | refine gdP.mkf (fun h1 => ?_) (fun h1 => ?_) | refine pkP.mk (fun h1 => ?_) (fun h1 => ?_)) <;> (try simp only [Bool.not_true, Bool.not_false, decide_eq_true_eq, decide_eq_false_iff_not, Bool.and_eq_true, Bool.or_eq_true, Bool.not_eq_true', Bool.not_eq_false', Bool.and_eq_false_iff, Bool.or_eq_false_iff, Nat.not_lt, Int.not_lt, Nat.not_le, Int.not_le, Int.ofNat_lt, Int.ofNat_le, Int.ofNat_inj, Bool.xor_false, Bool.false_xor, Bool.true_xor, Bool.xor_true] at h1) <;> (try simp (maxSteps := 2000000) (disch := omega) only [go_sem, seval]) <;> (try repeat ((with_reducible refine And.intro ?_ ?_); focus (first | omega | assumption | exact True.intro | (show anyD _ _ = true; exact rfl) | (simp only [List.length_map, List.length_append, List.length_cons, List.length_nil, List.length_take, List.length_drop]; omega))))
  · rw [if_pos h1]
  · rw [if_neg (by omega)]
    (first | refine brP.mk (fun h2 => ?_) (fun h2 => ?_) | refine gdP.mkt (fun h2 => ?_) (fun h2 => ?_) | refine gdP.mkf (fun h2 => ?_) (fun h2 => ?_) | refine pkP.mk (fun h2 => ?_) (fun h2 => ?_)) <;> (try simp only [Bool.not_true, Bool.not_false, decide_eq_true_eq, decide_eq_false_iff_not, Bool.and_eq_true, Bool.or_eq_true, Bool.not_eq_true', Bool.not_eq_false', Bool.and_eq_false_iff, Bool.or_eq_false_iff, Nat.not_lt, Int.not_lt, Nat.not_le, Int.not_le, Int.ofNat_lt, Int.ofNat_le, Int.ofNat_inj, Bool.xor_false, Bool.false_xor, Bool.true_xor, Bool.xor_true] at h2) <;> (try simp (maxSteps := 2000000) (disch := omega) only [go_sem, seval]) <;> (try repeat ((with_reducible refine And.intro ?_ ?_); focus (first | omega | assumption | exact True.intro | (show anyD _ _ = true; exact rfl) | (simp only [List.length_map, List.length_append, List.length_cons, List.length_nil, List.length_take, List.length_drop]; omega))))
    · rw [if_pos h2]
    · rw [if_neg (by omega)]
theorem key_c (r : Nat) (e : En) : Cn Tryd.prog 90 [.v (.int .u64 r), ep e] (.v (.int .i64 (if e.rep < r then -1 else if r < e.rep then 1 else 0))) := by
  refine cn_go Tryd.func90 [] 2 (by kernel_rfl) rfl (by simp [go_sem, seval]) ?_
  conv => arg 4; cbv
  conv => enter [5, 1]; cbv
  try simp (maxSteps := 2000000) (disch := omega) only [go_sem, seval]
  try repeat ((with_reducible refine And.intro ?_ ?_); focus (first | omega | assumption | exact True.intro | (show anyD _ _ = true; exact rfl) | (simp only [List.length_map, List.length_append, List.length_cons, List.length_nil, List.length_take, List.length_drop]; omega)))
  (first | refine callP.mk (cmp_c e.rep r) rfl ?_ | refine callQ.mk (cmp_c e.rep r) rfl ?_ | refine callO.rd (cmp_c e.rep r) rfl ?_ | refine callO.mk (cmp_c e.rep r) rfl ?_)
  try simp (maxSteps := 2000000) (disch := omega) only [go_sem, seval]
  try repeat ((with_reducible refine And.intro ?_ ?_); focus (first | omega | assumption | exact True.intro | (show anyD _ _ = true; exact rfl) | (simp only [List.length_map, List.length_append, List.length_cons, List.length_nil, List.length_take, List.length_drop]; omega)))
theorem order_c (a b : List Nat) (ha : a.length ≤ 1152921504606846976) (hb : b.length ≤ 1152921504606846976) : Cn Tryd.prog 93 [ns a, ns b] (.v (.int .i64 (cmpL a b))) := by
  refine cn_go Tryd.func93 [] 2 (by kernel_rfl) rfl (by simp [go_sem, seval]) ?_
  conv => arg 4; cbv
  conv => enter [5, 1]; cbv
  try simp (maxSteps := 2000000) (disch := omega) only [go_sem, seval]
  try repeat ((with_reducible refine And.intro ?_ ?_); focus (first | omega | assumption | exact True.intro | (show anyD _ _ = true; exact rfl) | (simp only [List.length_map, List.length_append, List.length_cons, List.length_nil, List.length_take, List.length_drop]; omega)))
  obtain ⟨m, e1, h1, h2, h3⟩ : ∃ m : Nat, (if b.length < a.length then (b.length : Int) else (a.length : Int)) = (m : Int) ∧ m ≤ a.length ∧ m ≤ b.length ∧ (m = a.length ∨ m = b.length) := by
    by_cases h : b.length < a.length
    · exact ⟨b.length, if_pos h, by omega, by omega, .inr rfl⟩
    · exact ⟨a.length, if_neg h, by omega, by omega, .inl rfl⟩
  rw [e1]
  refine pLoop.go (fun k => k ≤ m ∧ cmpL a b = cmpL (a.drop k) (b.drop k)) (fun k => [(11, .v (.int .i64 (k : Nat)))]) (fun _ => []) (fun k => m - k) 0 [11] ?_ ?_ ?_
  · exact ⟨Nat.zero_le _, rfl⟩
  · try simp (maxSteps := 2000000) (disch := omega) only [go_sem, seval]
    try repeat ((with_reducible refine And.intro ?_ ?_); focus (first | omega | assumption | exact True.intro | (show anyD _ _ = true; exact rfl) | (simp only [List.length_map, List.length_append, List.length_cons, List.length_nil, List.length_take, List.length_drop]; omega)))
  · rintro k ⟨hk, hm⟩
    try simp (maxSteps := 2000000) (disch := omega) only [go_sem, seval]
    try repeat ((with_reducible refine And.intro ?_ ?_); focus (first | omega | assumption | exact True.intro | (show anyD _ _ = true; exact rfl) | (simp only [List.length_map, List.length_append, List.length_cons, List.length_nil, List.length_take, List.length_drop]; omega)))
    (first | refine brP.mk (fun h => ?_) (fun h => ?_) | refine gdP.mkt (fun h => ?_) (fun h => ?_) | refine gdP.mkf (fun h => ?_) (fun h => ?_) | refine pkP.mk (fun h => ?_) (fun h => ?_)) <;> (try simp only [Bool.not_true, Bool.not_false, decide_eq_true_eq, decide_eq_false_iff_not, Bool.and_eq_true, Bool.or_eq_true, Bool.not_eq_true', Bool.not_eq_false', Bool.and_eq_false_iff, Bool.or_eq_false_iff, Nat.not_lt, Int.not_lt, Nat.not_le, Int.not_le, Int.ofNat_lt, Int.ofNat_le, Int.ofNat_inj, Bool.xor_false, Bool.false_xor, Bool.true_xor, Bool.xor_true] at h) <;> (try simp (maxSteps := 2000000) (disch := omega) only [go_sem, seval]) <;> (try repeat ((with_reducible refine And.intro ?_ ?_); focus (first | omega | assumption | exact True.intro | (show anyD _ _ = true; exact rfl) | (simp only [List.length_map, List.length_append, List.length_cons, List.length_nil, List.length_take, List.length_drop]; omega))))
    · have ha' : k < a.length := by omega
      have hb' : k < b.length := by omega
      rw [List.drop_eq_getElem_cons ha', List.drop_eq_getElem_cons hb', cmpL] at hm
      try simp (maxSteps := 2000000) (disch := omega) only [go_sem, seval]
      try repeat ((with_reducible refine And.intro ?_ ?_); focus (first | omega | assumption | exact True.intro | (show anyD _ _ = true; exact rfl) | (simp only [List.length_map, List.length_append, List.length_cons, List.length_nil, List.length_take, List.length_drop]; omega)))
      (first | refine brP.mk (fun h4 => ?_) (fun h4 => ?_) | refine gdP.mkt (fun h4 => ?_) (fun h4 => ?_) | refine gdP.mkf (fun h4 => ?_) (fun h4 => ?_) | refine pkP.mk (fun h4 => ?_) (fun h4 => ?_)) <;> (try simp only [Bool.not_true, Bool.not_false, decide_eq_true_eq, decide_eq_false_iff_not, Bool.and_eq_true, Bool.or_eq_true, Bool.not_eq_true', Bool.not_eq_false', Bool.and_eq_false_iff, Bool.or_eq_false_iff, Nat.not_lt, Int.not_lt, Nat.not_le, Int.not_le, Int.ofNat_lt, Int.ofNat_le, Int.ofNat_inj, Bool.xor_false, Bool.false_xor, Bool.true_xor, Bool.xor_true] at h4) <;> (try simp (maxSteps := 2000000) (disch := omega) only [go_sem, seval]) <;> (try repeat ((with_reducible refine And.intro ?_ ?_); focus (first | omega | assumption | exact True.intro | (show anyD _ _ = true; exact rfl) | (simp only [List.length_map, List.length_append, List.length_cons, List.length_nil, List.length_take, List.length_drop]; omega))))
      · (first | refine callP.mk (cmp_c a[k] b[k]) rfl ?_ | refine callQ.mk (cmp_c a[k] b[k]) rfl ?_ | refine callO.rd (cmp_c a[k] b[k]) rfl ?_ | refine callO.mk (cmp_c a[k] b[k]) rfl ?_)
        try simp (maxSteps := 2000000) (disch := omega) only [go_sem, seval]
        try repeat ((with_reducible refine And.intro ?_ ?_); focus (first | omega | assumption | exact True.intro | (show anyD _ _ = true; exact rfl) | (simp only [List.length_map, List.length_append, List.length_cons, List.length_nil, List.length_take, List.length_drop]; omega)))
        rw [hm]
        by_cases h5 : a[k] < b[k]
        · rw [if_pos h5, if_pos h5]
        · rw [if_neg h5, if_neg h5, if_pos (by omega), if_pos (by omega)]
      · rw [if_neg (by omega), if_neg (by omega)] at hm
        exact ⟨k + 1, ⟨h, hm⟩, by omega, rfl⟩
    · (first | refine callP.mk (cmpI_c a.length b.length) rfl ?_ | refine callQ.mk (cmpI_c a.length b.length) rfl ?_ | refine callO.rd (cmpI_c a.length b.length) rfl ?_ | refine callO.mk (cmpI_c a.length b.length) rfl ?_)
      try simp (maxSteps := 2000000) (disch := omega) only [go_sem, seval]
      try repeat ((with_reducible refine And.intro ?_ ?_); focus (first | omega | assumption | exact True.intro | (show anyD _ _ = true; exact rfl) | (simp only [List.length_map, List.length_append, List.length_cons, List.length_nil, List.length_take, List.length_drop]; omega)))
      have hx : a.drop k = [] ∨ b.drop k = [] := by
        rcases h3 with h3 | h3
        · exact .inl (List.drop_of_length_le (by omega))
        · exact .inr (List.drop_of_length_le (by omega))
      have la : (a.drop k).length = a.length - k := List.length_drop
      have lb : (b.drop k).length = b.length - k := List.length_drop
      rw [hm]
      generalize a.drop k = x at *
      generalize b.drop k = y at *
      rcases hx with rfl | rfl
      · cases y with
        | nil => simp at la lb; rw [if_neg (by omega), if_neg (by omega)]; rfl
        | cons c y => simp at la lb; rw [if_pos (by omega)]; rfl
      · cases x with
        | nil => simp at la lb; rw [if_neg (by omega), if_neg (by omega)]; rfl
        | cons c y => simp at la lb; rw [if_neg (by omega), if_pos (by omega)]; rfl
theorem eqN_c (a b : List Nat) (ha : a.length ≤ 1152921504606846976) : Cn Tryd.prog 52 [ns a, ns b] (.v (.bool (decide (a = b)))) := by
  refine cn_go Tryd.func52 [] 2 (by kernel_rfl) rfl (by simp [go_sem, seval]) ?_
  conv => arg 4; cbv
  conv => enter [5, 1]; cbv
  try simp (maxSteps := 2000000) (disch := omega) only [go_sem, seval]
  try repeat ((with_reducible refine And.intro ?_ ?_); focus (first | omega | assumption | exact True.intro | (show anyD _ _ = true; exact rfl) | (simp only [List.length_map, List.length_append, List.length_cons, List.length_nil, List.length_take, List.length_drop]; omega)))
  (first | refine brP.mk (fun h0 => ?_) (fun h0 => ?_) | refine gdP.mkt (fun h0 => ?_) (fun h0 => ?_) | refine gdP.mkf (fun h0 => ?_) (fun h0 => ?_) | refine pkP.mk (fun h0 => ?_) (fun h0 => ?_)) <;> (try simp only [Bool.not_true, Bool.not_false, decide_eq_true_eq, decide_eq_false_iff_not, Bool.and_eq_true, Bool.or_eq_true, Bool.not_eq_true', Bool.not_eq_false', Bool.and_eq_false_iff, Bool.or_eq_false_iff, Nat.not_lt, Int.not_lt, Nat.not_le, Int.not_le, Int.ofNat_lt, Int.ofNat_le, Int.ofNat_inj, Bool.xor_false, Bool.false_xor, Bool.true_xor, Bool.xor_true] at h0) <;> (try simp (maxSteps := 2000000) (disch := omega) only [go_sem, seval]) <;> (try repeat ((with_reducible refine And.intro ?_ ?_); focus (first | omega | assumption | exact True.intro | (show anyD _ _ = true; exact rfl) | (simp only [List.length_map, List.length_append, List.length_cons, List.length_nil, List.length_take, List.length_drop]; omega))))
  · symm
    rw [decide_eq_false_iff_not]
    rintro rfl
    exact h0 rfl
  · have h0' : a.length = b.length := by simpa using h0
    clear h0
    refine pLoop.go (fun k => k ≤ a.length ∧ (a = b ↔ a.drop k = b.drop k)) (fun k => [(13, .v (.int .i64 (k : Nat)))]) (fun _ => []) (fun k => a.length - k) 0 [13] ?_ ?_ ?_
    · exact ⟨Nat.zero_le _, Iff.rfl⟩
    · try simp (maxSteps := 2000000) (disch := omega) only [go_sem, seval]
      try repeat ((with_reducible refine And.intro ?_ ?_); focus (first | omega | assumption | exact True.intro | (show anyD _ _ = true; exact rfl) | (simp only [List.length_map, List.length_append, List.length_cons, List.length_nil, List.length_take, List.length_drop]; omega)))
    · rintro k ⟨hk, hm⟩
      try simp (maxSteps := 2000000) (disch := omega) only [go_sem, seval]
      try repeat ((with_reducible refine And.intro ?_ ?_); focus (first | omega | assumption | exact True.intro | (show anyD _ _ = true; exact rfl) | (simp only [List.length_map, List.length_append, List.length_cons, List.length_nil, List.length_take, List.length_drop]; omega)))
      (first | refine brP.mk (fun h => ?_) (fun h => ?_) | refine gdP.mkt (fun h => ?_) (fun h => ?_) | refine gdP.mkf (fun h => ?_) (fun h => ?_) | refine pkP.mk (fun h => ?_) (fun h => ?_)) <;> (try simp only [Bool.not_true, Bool.not_false, decide_eq_true_eq, decide_eq_false_iff_not, Bool.and_eq_true, Bool.or_eq_true, Bool.not_eq_true', Bool.not_eq_false', Bool.and_eq_false_iff, Bool.or_eq_false_iff, Nat.not_lt, Int.not_lt, Nat.not_le, Int.not_le, Int.ofNat_lt, Int.ofNat_le, Int.ofNat_inj, Bool.xor_false, Bool.false_xor, Bool.true_xor, Bool.xor_true] at h) <;> (try simp (maxSteps := 2000000) (disch := omega) only [go_sem, seval]) <;> (try repeat ((with_reducible refine And.intro ?_ ?_); focus (first | omega | assumption | exact True.intro | (show anyD _ _ = true; exact rfl) | (simp only [List.length_map, List.length_append, List.length_cons, List.length_nil, List.length_take, List.length_drop]; omega))))
      · have hk' : k < b.length := by omega
        rw [List.drop_eq_getElem_cons h, List.drop_eq_getElem_cons hk', List.cons.injEq] at hm
        try simp (maxSteps := 2000000) (disch := omega) only [go_sem, seval]
        try repeat ((with_reducible refine And.intro ?_ ?_); focus (first | omega | assumption | exact True.intro | (show anyD _ _ = true; exact rfl) | (simp only [List.length_map, List.length_append, List.length_cons, List.length_nil, List.length_take, List.length_drop]; omega)))
        (first | refine brP.mk (fun e => ?_) (fun e => ?_) | refine gdP.mkt (fun e => ?_) (fun e => ?_) | refine gdP.mkf (fun e => ?_) (fun e => ?_) | refine pkP.mk (fun e => ?_) (fun e => ?_)) <;> (try simp only [Bool.not_true, Bool.not_false, decide_eq_true_eq, decide_eq_false_iff_not, Bool.and_eq_true, Bool.or_eq_true, Bool.not_eq_true', Bool.not_eq_false', Bool.and_eq_false_iff, Bool.or_eq_false_iff, Nat.not_lt, Int.not_lt, Nat.not_le, Int.not_le, Int.ofNat_lt, Int.ofNat_le, Int.ofNat_inj, Bool.xor_false, Bool.false_xor, Bool.true_xor, Bool.xor_true] at e) <;> (try simp (maxSteps := 2000000) (disch := omega) only [go_sem, seval]) <;> (try repeat ((with_reducible refine And.intro ?_ ?_); focus (first | omega | assumption | exact True.intro | (show anyD _ _ = true; exact rfl) | (simp only [List.length_map, List.length_append, List.length_cons, List.length_nil, List.length_take, List.length_drop]; omega))))
        · symm
          rw [decide_eq_false_iff_not]
          intro he
          exact absurd (hm.1 he).1 (by omega)
        · refine ⟨k + 1, ⟨h, ?_⟩, by omega, rfl⟩
          rw [hm]
          have e : a[k] = b[k] := by omega
          exact ⟨fun h => h.2, fun h => ⟨e, h⟩⟩
      · rw [eq_comm, decide_eq_true_eq, hm, List.drop_of_length_le (by omega), List.drop_of_length_le (by omega)]
theorem vcompare_c (a b : List En) (ha : ∀ e ∈ a, BdE e) (hb : ∀ e ∈ b, BdE e) (la : (nums a).length ≤ 1073741824) (lb : (nums b).length ≤ 1073741824) : Cn Tryd.prog 51 [vp a, vp b] (.v (.int .i64 (cmpL (nums a) (nums b)))) := by
  refine cn_go Tryd.func51 [] 2 (by kernel_rfl) rfl (by simp [go_sem, seval]) ?_
  conv => arg 4; cbv
  conv => enter [5, 1]; cbv
  try simp (maxSteps := 2000000) (disch := omega) only [go_sem, seval]
  try repeat ((with_reducible refine And.intro ?_ ?_); focus (first | omega | assumption | exact True.intro | (show anyD _ _ = true; exact rfl) | (simp only [List.length_map, List.length_append, List.length_cons, List.length_nil, List.length_take, List.length_drop]; omega)))
  (first | refine callP.mk (numbers_c a ha la) rfl ?_ | refine callQ.mk (numbers_c a ha la) rfl ?_ | refine callO.rd (numbers_c a ha la) rfl ?_ | refine callO.mk (numbers_c a ha la) rfl ?_)
  try simp (maxSteps := 2000000) (disch := omega) only [go_sem, seval]
  try repeat ((with_reducible refine And.intro ?_ ?_); focus (first | omega | assumption | exact True.intro | (show anyD _ _ = true; exact rfl) | (simp only [List.length_map, List.length_append, List.length_cons, List.length_nil, List.length_take, List.length_drop]; omega)))
  (first | refine callP.mk (numbers_c b hb lb) rfl ?_ | refine callQ.mk (numbers_c b hb lb) rfl ?_ | refine callO.rd (numbers_c b hb lb) rfl ?_ | refine callO.mk (numbers_c b hb lb) rfl ?_)
  try simp (maxSteps := 2000000) (disch := omega) only [go_sem, seval]
  try repeat ((with_reducible refine And.intro ?_ ?_); focus (first | omega | assumption | exact True.intro | (show anyD _ _ = true; exact rfl) | (simp only [List.length_map, List.length_append, List.length_cons, List.length_nil, List.length_take, List.length_drop]; omega)))
  (first | refine callP.mk (order_c (nums a) (nums b) (by omega) (by omega)) rfl ?_ | refine callQ.mk (order_c (nums a) (nums b) (by omega) (by omega)) rfl ?_ | refine callO.rd (order_c (nums a) (nums b) (by omega) (by omega)) rfl ?_ | refine callO.mk (order_c (nums a) (nums b) (by omega) (by omega)) rfl ?_)
  try simp (maxSteps := 2000000) (disch := omega) only [go_sem, seval]
  try repeat ((with_reducible refine And.intro ?_ ?_); focus (first | omega | assumption | exact True.intro | (show anyD _ _ = true; exact rfl) | (simp only [List.length_map, List.length_append, List.length_cons, List.length_nil, List.length_take, List.length_drop]; omega)))
end Go.Proofs.YtcedofkenfddkaaDoor
/- The contracts of vector.Find, Has, Check, Canonical, Canon and of kenningref09.Has, Check, Canonical, Canon, Numbers, Compare. -/
namespace Go.Proofs.YtcedofkenfddkaaDoor
set_option linter.unusedVariables false
set_option linter.unusedSimpArgs false
open Go.RowKit
set_option maxRecDepth 100000
def kfn : PV := .cp [.fn (.func 90) [] []] 0
attribute [go_sem] kfn
theorem vfind1_c (e : En) (r : Nat) : Cn Tryd.prog 92 [ep e, .v (.int .u64 r), kfn] (.v (.int .i64 (if e.rep < r then -1 else if r < e.rep then 1 else 0))) := by
  refine cn_go Tryd.func92 [] 3 (by kernel_rfl) rfl (by simp [go_sem, seval]) ?_
  conv => arg 4; cbv
  conv => enter [5, 1]; cbv
  try simp (maxSteps := 2000000) (disch := omega) only [go_sem, seval]
  try repeat ((with_reducible refine And.intro ?_ ?_); focus (first | omega | assumption | exact True.intro | (show anyD _ _ = true; exact rfl) | (simp only [List.length_map, List.length_append, List.length_cons, List.length_nil, List.length_take, List.length_drop]; omega)))
  (first | refine callP.mk (key_c r e) rfl ?_ | refine callQ.mk (key_c r e) rfl ?_ | refine callO.rd (key_c r e) rfl ?_ | refine callO.mk (key_c r e) rfl ?_)
  try simp (maxSteps := 2000000) (disch := omega) only [go_sem, seval]
  try repeat ((with_reducible refine And.intro ?_ ?_); focus (first | omega | assumption | exact True.intro | (show anyD _ _ = true; exact rfl) | (simp only [List.length_map, List.length_append, List.length_cons, List.length_nil, List.length_take, List.length_drop]; omega)))
theorem bsfV_c (v : List En) (r : Nat) (i : Nat) (hi : i ≤ v.length) (h1 : ∀ j, (h : j < v.length) → j < i → v[j].rep < r) (h2 : ∀ j, (h : j < v.length) → i ≤ j → r ≤ v[j].rep) (hl : v.length ≤ 1152921504606846976) :
    Cn Tryd.prog 91 [vp v, .v (.int .u64 r), .fn (.func 92) [] [kfn]] (.tup [.v (.int .i64 i), .v (.bool (if h : i < v.length then decide (v[i].rep = r) else false))]) := by
  refine cn_go Tryd.func91 [] 3 (by kernel_rfl) rfl (by simp [go_sem, seval]) ?_
  conv => arg 4; cbv
  conv => enter [5, 1]; cbv
  try simp (maxSteps := 2000000) (disch := omega) only [go_sem, seval]
  try repeat ((with_reducible refine And.intro ?_ ?_); focus (first | omega | assumption | exact True.intro | (show anyD _ _ = true; exact rfl) | (simp only [List.length_map, List.length_append, List.length_cons, List.length_nil, List.length_take, List.length_drop]; omega)))
  refine pLoop.go (fun p : Nat × Nat => p.1 ≤ i ∧ i ≤ p.2 ∧ p.2 ≤ v.length) (fun p => [(9, .v (.int .i64 (p.1 : Nat))), (10, .v (.int .i64 (p.2 : Nat)))]) (fun _ => []) (fun p => p.2 - p.1) (0, v.length) [9, 10] ?_ ?_ ?_
  · exact ⟨Nat.zero_le _, hi, Nat.le_refl _⟩
  · try simp (maxSteps := 2000000) (disch := omega) only [go_sem, seval]
    try repeat ((with_reducible refine And.intro ?_ ?_); focus (first | omega | assumption | exact True.intro | (show anyD _ _ = true; exact rfl) | (simp only [List.length_map, List.length_append, List.length_cons, List.length_nil, List.length_take, List.length_drop]; omega)))
  · rintro ⟨p, q⟩ ⟨k1, k2, k3⟩
    simp only at k1 k2 k3
    try simp (maxSteps := 2000000) (disch := omega) only [go_sem, seval]
    try repeat ((with_reducible refine And.intro ?_ ?_); focus (first | omega | assumption | exact True.intro | (show anyD _ _ = true; exact rfl) | (simp only [List.length_map, List.length_append, List.length_cons, List.length_nil, List.length_take, List.length_drop]; omega)))
    (first | refine brP.mk (fun h => ?_) (fun h => ?_) | refine gdP.mkt (fun h => ?_) (fun h => ?_) | refine gdP.mkf (fun h => ?_) (fun h => ?_) | refine pkP.mk (fun h => ?_) (fun h => ?_)) <;> (try simp only [Bool.not_true, Bool.not_false, decide_eq_true_eq, decide_eq_false_iff_not, Bool.and_eq_true, Bool.or_eq_true, Bool.not_eq_true', Bool.not_eq_false', Bool.and_eq_false_iff, Bool.or_eq_false_iff, Nat.not_lt, Int.not_lt, Nat.not_le, Int.not_le, Int.ofNat_lt, Int.ofNat_le, Int.ofNat_inj, Bool.xor_false, Bool.false_xor, Bool.true_xor, Bool.xor_true] at h) <;> (try simp (maxSteps := 2000000) (disch := omega) only [go_sem, seval]) <;> (try repeat ((with_reducible refine And.intro ?_ ?_); focus (first | omega | assumption | exact True.intro | (show anyD _ _ = true; exact rfl) | (simp only [List.length_map, List.length_append, List.length_cons, List.length_nil, List.length_take, List.length_drop]; omega))))
    · have hm : (p + q) / 2 < v.length := by omega
      have a1 := h1 _ hm
      have a2 := h2 _ hm
      try simp (maxSteps := 2000000) (disch := omega) only [go_sem, seval]
      try repeat ((with_reducible refine And.intro ?_ ?_); focus (first | omega | assumption | exact True.intro | (show anyD _ _ = true; exact rfl) | (simp only [List.length_map, List.length_append, List.length_cons, List.length_nil, List.length_take, List.length_drop]; omega)))
      (first | refine callP.mk (vfind1_c v[(p + q) / 2] r) rfl ?_ | refine callQ.mk (vfind1_c v[(p + q) / 2] r) rfl ?_ | refine callO.rd (vfind1_c v[(p + q) / 2] r) rfl ?_ | refine callO.mk (vfind1_c v[(p + q) / 2] r) rfl ?_)
      try simp (maxSteps := 2000000) (disch := omega) only [go_sem, seval]
      try repeat ((with_reducible refine And.intro ?_ ?_); focus (first | omega | assumption | exact True.intro | (show anyD _ _ = true; exact rfl) | (simp only [List.length_map, List.length_append, List.length_cons, List.length_nil, List.length_take, List.length_drop]; omega)))
      (first | refine brP.mk (fun h4 => ?_) (fun h4 => ?_) | refine gdP.mkt (fun h4 => ?_) (fun h4 => ?_) | refine gdP.mkf (fun h4 => ?_) (fun h4 => ?_) | refine pkP.mk (fun h4 => ?_) (fun h4 => ?_)) <;> (try simp only [Bool.not_true, Bool.not_false, decide_eq_true_eq, decide_eq_false_iff_not, Bool.and_eq_true, Bool.or_eq_true, Bool.not_eq_true', Bool.not_eq_false', Bool.and_eq_false_iff, Bool.or_eq_false_iff, Nat.not_lt, Int.not_lt, Nat.not_le, Int.not_le, Int.ofNat_lt, Int.ofNat_le, Int.ofNat_inj, Bool.xor_false, Bool.false_xor, Bool.true_xor, Bool.xor_true] at h4) <;> (try simp (maxSteps := 2000000) (disch := omega) only [go_sem, seval]) <;> (try repeat ((with_reducible refine And.intro ?_ ?_); focus (first | omega | assumption | exact True.intro | (show anyD _ _ = true; exact rfl) | (simp only [List.length_map, List.length_append, List.length_cons, List.length_nil, List.length_take, List.length_drop]; omega))))
      · refine ⟨((p + q) / 2 + 1, q), ⟨?_, k2, k3⟩, by simp only; omega, rfl, rfl⟩
        simp only
        refine Nat.lt_of_not_le fun h5 => ?_
        have := a2 h5
        rw [if_neg (by omega)] at h4
        split at h4 <;> omega
      · refine ⟨(p, (p + q) / 2), ⟨k1, ?_, by simp only; omega⟩, by simp only; omega, rfl, rfl⟩
        simp only
        refine Nat.le_of_not_lt fun h5 => ?_
        have := a1 h5
        rw [if_pos this] at h4
        omega
    · obtain rfl : p = i := by omega
      obtain rfl : q = p := by omega
      (first | refine brP.mk (fun h4 => ?_) (fun h4 => ?_) | refine gdP.mkt (fun h4 => ?_) (fun h4 => ?_) | refine gdP.mkf (fun h4 => ?_) (fun h4 => ?_) | refine pkP.mk (fun h4 => ?_) (fun h4 => ?_)) <;> (try simp only [Bool.not_true, Bool.not_false, decide_eq_true_eq, decide_eq_false_iff_not, Bool.and_eq_true, Bool.or_eq_true, Bool.not_eq_true', Bool.not_eq_false', Bool.and_eq_false_iff, Bool.or_eq_false_iff, Nat.not_lt, Int.not_lt, Nat.not_le, Int.not_le, Int.ofNat_lt, Int.ofNat_le, Int.ofNat_inj, Bool.xor_false, Bool.false_xor, Bool.true_xor, Bool.xor_true] at h4) <;> (try simp (maxSteps := 2000000) (disch := omega) only [go_sem, seval]) <;> (try repeat ((with_reducible refine And.intro ?_ ?_); focus (first | omega | assumption | exact True.intro | (show anyD _ _ = true; exact rfl) | (simp only [List.length_map, List.length_append, List.length_cons, List.length_nil, List.length_take, List.length_drop]; omega))))
      · (first | refine callP.mk (vfind1_c v[q] r) rfl ?_ | refine callQ.mk (vfind1_c v[q] r) rfl ?_ | refine callO.rd (vfind1_c v[q] r) rfl ?_ | refine callO.mk (vfind1_c v[q] r) rfl ?_)
        try simp (maxSteps := 2000000) (disch := omega) only [go_sem, seval]
        try repeat ((with_reducible refine And.intro ?_ ?_); focus (first | omega | assumption | exact True.intro | (show anyD _ _ = true; exact rfl) | (simp only [List.length_map, List.length_append, List.length_cons, List.length_nil, List.length_take, List.length_drop]; omega)))
        have a2 := h2 _ h4 (Nat.le_refl _)
        rw [dif_pos h4, if_neg (by omega)]
        by_cases h5 : v[q].rep = r
        · rw [if_neg (by omega), decide_eq_true h5]
          simp
        · rw [if_pos (by omega), decide_eq_false h5]
          simp
      · rw [dif_neg (by omega)]
theorem vfind_c (v : List En) (r : Nat) (hr : RightV v) (hl : v.length ≤ 1152921504606846976) : Cn Tryd.prog 47 [vp v, .v (.int .u64 r)] (.v (.int .i64 (fdV r 0 v))) := by
  obtain ⟨i, hi, h1, h2⟩ := part_rep hr r
  rw [fdV_part hr h1 h2]
  refine cn_go Tryd.func47 [] 2 (by kernel_rfl) rfl (by simp [go_sem, seval]) ?_
  conv => arg 4; cbv
  conv => enter [5, 1]; cbv
  try simp (maxSteps := 2000000) (disch := omega) only [go_sem, seval]
  try repeat ((with_reducible refine And.intro ?_ ?_); focus (first | omega | assumption | exact True.intro | (show anyD _ _ = true; exact rfl) | (simp only [List.length_map, List.length_append, List.length_cons, List.length_nil, List.length_take, List.length_drop]; omega)))
  (first | refine callP.mk (bsfV_c v r i hi h1 h2 hl) rfl ?_ | refine callQ.mk (bsfV_c v r i hi h1 h2 hl) rfl ?_ | refine callO.rd (bsfV_c v r i hi h1 h2 hl) rfl ?_ | refine callO.mk (bsfV_c v r i hi h1 h2 hl) rfl ?_)
  try simp (maxSteps := 2000000) (disch := omega) only [go_sem, seval]
  try repeat ((with_reducible refine And.intro ?_ ?_); focus (first | omega | assumption | exact True.intro | (show anyD _ _ = true; exact rfl) | (simp only [List.length_map, List.length_append, List.length_cons, List.length_nil, List.length_take, List.length_drop]; omega)))
  by_cases h : i < v.length
  · rw [dif_pos h, dif_pos h]
    (first | refine brP.mk (fun h3 => ?_) (fun h3 => ?_) | refine gdP.mkt (fun h3 => ?_) (fun h3 => ?_) | refine gdP.mkf (fun h3 => ?_) (fun h3 => ?_) | refine pkP.mk (fun h3 => ?_) (fun h3 => ?_)) <;> (try simp only [Bool.not_true, Bool.not_false, decide_eq_true_eq, decide_eq_false_iff_not, Bool.and_eq_true, Bool.or_eq_true, Bool.not_eq_true', Bool.not_eq_false', Bool.and_eq_false_iff, Bool.or_eq_false_iff, Nat.not_lt, Int.not_lt, Nat.not_le, Int.not_le, Int.ofNat_lt, Int.ofNat_le, Int.ofNat_inj, Bool.xor_false, Bool.false_xor, Bool.true_xor, Bool.xor_true] at h3) <;> (try simp (maxSteps := 2000000) (disch := omega) only [go_sem, seval]) <;> (try repeat ((with_reducible refine And.intro ?_ ?_); focus (first | omega | assumption | exact True.intro | (show anyD _ _ = true; exact rfl) | (simp only [List.length_map, List.length_append, List.length_cons, List.length_nil, List.length_take, List.length_drop]; omega))))
    · rw [if_neg h3]
    · rw [if_pos h3]
  · rw [dif_neg h, dif_neg h]
    try simp (maxSteps := 2000000) (disch := omega) only [go_sem, seval]
    try repeat ((with_reducible refine And.intro ?_ ?_); focus (first | omega | assumption | exact True.intro | (show anyD _ _ = true; exact rfl) | (simp only [List.length_map, List.length_append, List.length_cons, List.length_nil, List.length_take, List.length_drop]; omega)))
theorem vhas_c (v : List En) (r c : Nat) (hr : RightV v) (hc : c < M64) (hl : v.length ≤ 1152921504606846976) (hh : ∀ e ∈ v, e.holes.length ≤ 1152921504606846976) : Cn Tryd.prog 49 [vp v, .v (.int .u64 r), .v (.int .u64 c)] (.v (.bool (mem (knV v r) c))) := by
  refine cn_go Tryd.func49 [] 3 (by kernel_rfl) rfl (by simp [go_sem, seval]) ?_
  conv => arg 4; cbv
  conv => enter [5, 1]; cbv
  try simp (maxSteps := 2000000) (disch := omega) only [go_sem, seval]
  try repeat ((with_reducible refine And.intro ?_ ?_); focus (first | omega | assumption | exact True.intro | (show anyD _ _ = true; exact rfl) | (simp only [List.length_map, List.length_append, List.length_cons, List.length_nil, List.length_take, List.length_drop]; omega)))
  (first | refine callP.mk (vfind_c v r hr hl) rfl ?_ | refine callQ.mk (vfind_c v r hr hl) rfl ?_ | refine callO.rd (vfind_c v r hr hl) rfl ?_ | refine callO.mk (vfind_c v r hr hl) rfl ?_)
  rcases fdV_spec r v 0 with ⟨e1, e2⟩ | ⟨i, hi, e1, e2⟩
  · rw [e1, knV_none e2]
    try simp (maxSteps := 2000000) (disch := omega) only [go_sem, seval]
    try repeat ((with_reducible refine And.intro ?_ ?_); focus (first | omega | assumption | exact True.intro | (show anyD _ _ = true; exact rfl) | (simp only [List.length_map, List.length_append, List.length_cons, List.length_nil, List.length_take, List.length_drop]; omega)))
    rfl
  · rw [e1, knV_fd hr hi e2, kn_mem (hr.1 _ (List.getElem_mem hi)) hc, Nat.zero_add]
    try simp (maxSteps := 2000000) (disch := omega) only [go_sem, seval]
    try repeat ((with_reducible refine And.intro ?_ ?_); focus (first | omega | assumption | exact True.intro | (show anyD _ _ = true; exact rfl) | (simp only [List.length_map, List.length_append, List.length_cons, List.length_nil, List.length_take, List.length_drop]; omega)))
    (first | refine callP.mk (ehas_c v[i] c (hr.1 _ (List.getElem_mem hi)) (hh _ (List.getElem_mem hi))) rfl ?_ | refine callQ.mk (ehas_c v[i] c (hr.1 _ (List.getElem_mem hi)) (hh _ (List.getElem_mem hi))) rfl ?_ | refine callO.rd (ehas_c v[i] c (hr.1 _ (List.getElem_mem hi)) (hh _ (List.getElem_mem hi))) rfl ?_ | refine callO.mk (ehas_c v[i] c (hr.1 _ (List.getElem_mem hi)) (hh _ (List.getElem_mem hi))) rfl ?_)
    try simp (maxSteps := 2000000) (disch := omega) only [go_sem, seval]
    try repeat ((with_reducible refine And.intro ?_ ?_); focus (first | omega | assumption | exact True.intro | (show anyD _ _ = true; exact rfl) | (simp only [List.length_map, List.length_append, List.length_cons, List.length_nil, List.length_take, List.length_drop]; omega)))
theorem refCheck_c (v : List En) (hb : ∀ e ∈ v, BdE e) (hl : v.length ≤ 1152921504606846976) (hh : ∀ e ∈ v, e.holes.length ≤ 1152921504606846976) : Cn Tryd.prog 58 [vp v] (.tup [.v (.int .i64 (chkV v).1), .v (.int .i64 (chkV v).2)]) := by
  refine cn_go Tryd.func58 [] 1 (by kernel_rfl) rfl (by simp [go_sem, seval]) ?_
  conv => arg 4; cbv
  conv => enter [5, 1]; cbv
  try simp (maxSteps := 2000000) (disch := omega) only [go_sem, seval]
  try repeat ((with_reducible refine And.intro ?_ ?_); focus (first | omega | assumption | exact True.intro | (show anyD _ _ = true; exact rfl) | (simp only [List.length_map, List.length_append, List.length_cons, List.length_nil, List.length_take, List.length_drop]; omega)))
  refine pLoop.go (fun k => k ≤ v.length ∧ chkV v = hkV v k (v.drop k)) (fun k => [(4, .v (.int .i64 (k : Nat)))]) (fun _ => []) (fun k => v.length - k) 0 [4] ?_ ?_ ?_
  · exact ⟨Nat.zero_le _, rfl⟩
  · try simp (maxSteps := 2000000) (disch := omega) only [go_sem, seval]
    try repeat ((with_reducible refine And.intro ?_ ?_); focus (first | omega | assumption | exact True.intro | (show anyD _ _ = true; exact rfl) | (simp only [List.length_map, List.length_append, List.length_cons, List.length_nil, List.length_take, List.length_drop]; omega)))
  · rintro k ⟨hk, hm⟩
    try simp (maxSteps := 2000000) (disch := omega) only [go_sem, seval]
    try repeat ((with_reducible refine And.intro ?_ ?_); focus (first | omega | assumption | exact True.intro | (show anyD _ _ = true; exact rfl) | (simp only [List.length_map, List.length_append, List.length_cons, List.length_nil, List.length_take, List.length_drop]; omega)))
    (first | refine brP.mk (fun h => ?_) (fun h => ?_) | refine gdP.mkt (fun h => ?_) (fun h => ?_) | refine gdP.mkf (fun h => ?_) (fun h => ?_) | refine pkP.mk (fun h => ?_) (fun h => ?_)) <;> (try simp only [Bool.not_true, Bool.not_false, decide_eq_true_eq, decide_eq_false_iff_not, Bool.and_eq_true, Bool.or_eq_true, Bool.not_eq_true', Bool.not_eq_false', Bool.and_eq_false_iff, Bool.or_eq_false_iff, Nat.not_lt, Int.not_lt, Nat.not_le, Int.not_le, Int.ofNat_lt, Int.ofNat_le, Int.ofNat_inj, Bool.xor_false, Bool.false_xor, Bool.true_xor, Bool.xor_true] at h) <;> (try simp (maxSteps := 2000000) (disch := omega) only [go_sem, seval]) <;> (try repeat ((with_reducible refine And.intro ?_ ?_); focus (first | omega | assumption | exact True.intro | (show anyD _ _ = true; exact rfl) | (simp only [List.length_map, List.length_append, List.length_cons, List.length_nil, List.length_take, List.length_drop]; omega))))
    · rw [List.drop_eq_getElem_cons h, hkV] at hm
      try simp (maxSteps := 2000000) (disch := omega) only [go_sem, seval]
      try repeat ((with_reducible refine And.intro ?_ ?_); focus (first | omega | assumption | exact True.intro | (show anyD _ _ = true; exact rfl) | (simp only [List.length_map, List.length_append, List.length_cons, List.length_nil, List.length_take, List.length_drop]; omega)))
      (first | refine callP.mk (check7_c v[k] (hh _ (List.getElem_mem h)) (hb _ (List.getElem_mem h)).1) rfl ?_ | refine callQ.mk (check7_c v[k] (hh _ (List.getElem_mem h)) (hb _ (List.getElem_mem h)).1) rfl ?_ | refine callO.rd (check7_c v[k] (hh _ (List.getElem_mem h)) (hb _ (List.getElem_mem h)).1) rfl ?_ | refine callO.mk (check7_c v[k] (hh _ (List.getElem_mem h)) (hb _ (List.getElem_mem h)).1) rfl ?_)
      try simp (maxSteps := 2000000) (disch := omega) only [go_sem, seval]
      try repeat ((with_reducible refine And.intro ?_ ?_); focus (first | omega | assumption | exact True.intro | (show anyD _ _ = true; exact rfl) | (simp only [List.length_map, List.length_append, List.length_cons, List.length_nil, List.length_take, List.length_drop]; omega)))
      (first | refine brP.mk (fun h2 => ?_) (fun h2 => ?_) | refine gdP.mkt (fun h2 => ?_) (fun h2 => ?_) | refine gdP.mkf (fun h2 => ?_) (fun h2 => ?_) | refine pkP.mk (fun h2 => ?_) (fun h2 => ?_)) <;> (try simp only [Bool.not_true, Bool.not_false, decide_eq_true_eq, decide_eq_false_iff_not, Bool.and_eq_true, Bool.or_eq_true, Bool.not_eq_true', Bool.not_eq_false', Bool.and_eq_false_iff, Bool.or_eq_false_iff, Nat.not_lt, Int.not_lt, Nat.not_le, Int.not_le, Int.ofNat_lt, Int.ofNat_le, Int.ofNat_inj, Bool.xor_false, Bool.false_xor, Bool.true_xor, Bool.xor_true] at h2) <;> (try simp (maxSteps := 2000000) (disch := omega) only [go_sem, seval]) <;> (try repeat ((with_reducible refine And.intro ?_ ?_); focus (first | omega | assumption | exact True.intro | (show anyD _ _ = true; exact rfl) | (simp only [List.length_map, List.length_append, List.length_cons, List.length_nil, List.length_take, List.length_drop]; omega))))
      · rw [if_pos (by omega)] at hm
        rw [hm]
      · rw [if_neg (by omega)] at hm
        (first | refine brP.mk (fun h3 => ?_) (fun h3 => ?_) | refine gdP.mkt (fun h3 => ?_) (fun h3 => ?_) | refine gdP.mkf (fun h3 => ?_) (fun h3 => ?_) | refine pkP.mk (fun h3 => ?_) (fun h3 => ?_)) <;> (try simp only [Bool.not_true, Bool.not_false, decide_eq_true_eq, decide_eq_false_iff_not, Bool.and_eq_true, Bool.or_eq_true, Bool.not_eq_true', Bool.not_eq_false', Bool.and_eq_false_iff, Bool.or_eq_false_iff, Nat.not_lt, Int.not_lt, Nat.not_le, Int.not_le, Int.ofNat_lt, Int.ofNat_le, Int.ofNat_inj, Bool.xor_false, Bool.false_xor, Bool.true_xor, Bool.xor_true] at h3) <;> (try simp (maxSteps := 2000000) (disch := omega) only [go_sem, seval]) <;> (try repeat ((with_reducible refine And.intro ?_ ?_); focus (first | omega | assumption | exact True.intro | (show anyD _ _ = true; exact rfl) | (simp only [List.length_map, List.length_append, List.length_cons, List.length_nil, List.length_take, List.length_drop]; omega))))
        · have hp := prv_at (v := v) (k := k) (by omega)
          rw [hp] at hm
          try simp (maxSteps := 2000000) (disch := omega) only [go_sem, seval]
          try repeat ((with_reducible refine And.intro ?_ ?_); focus (first | omega | assumption | exact True.intro | (show anyD _ _ = true; exact rfl) | (simp only [List.length_map, List.length_append, List.length_cons, List.length_nil, List.length_take, List.length_drop]; omega)))
          (first | refine brP.mk (fun h4 => ?_) (fun h4 => ?_) | refine gdP.mkt (fun h4 => ?_) (fun h4 => ?_) | refine gdP.mkf (fun h4 => ?_) (fun h4 => ?_) | refine pkP.mk (fun h4 => ?_) (fun h4 => ?_)) <;> (try simp only [Bool.not_true, Bool.not_false, decide_eq_true_eq, decide_eq_false_iff_not, Bool.and_eq_true, Bool.or_eq_true, Bool.not_eq_true', Bool.not_eq_false', Bool.and_eq_false_iff, Bool.or_eq_false_iff, Nat.not_lt, Int.not_lt, Nat.not_le, Int.not_le, Int.ofNat_lt, Int.ofNat_le, Int.ofNat_inj, Bool.xor_false, Bool.false_xor, Bool.true_xor, Bool.xor_true] at h4) <;> (try simp (maxSteps := 2000000) (disch := omega) only [go_sem, seval]) <;> (try repeat ((with_reducible refine And.intro ?_ ?_); focus (first | omega | assumption | exact True.intro | (show anyD _ _ = true; exact rfl) | (simp only [List.length_map, List.length_append, List.length_cons, List.length_nil, List.length_take, List.length_drop]; omega))))
          · rw [if_pos ⟨h3, h4⟩] at hm
            rw [hm]
            rfl
          · rw [if_neg (fun h => by omega)] at hm
            exact ⟨k + 1, ⟨h, hm⟩, by omega, rfl⟩
        · rw [if_neg (fun h => by omega)] at hm
          exact ⟨k + 1, ⟨h, hm⟩, by omega, rfl⟩
    · rw [hm, List.drop_of_length_le (by omega)]
      rfl
theorem rightV_c (v : List En) (hb : ∀ e ∈ v, BdE e) (hl : v.length ≤ 1152921504606846976) (hh : ∀ e ∈ v, e.holes.length ≤ 1152921504606846976) : Cn Tryd.prog 45 [vp v] (.v (.bool (decide ((chkV v).1 = 0)))) := by
  refine cn_go Tryd.func45 [] 1 (by kernel_rfl) rfl (by simp [go_sem, seval]) ?_
  conv => arg 4; cbv
  conv => enter [5, 1]; cbv
  try simp (maxSteps := 2000000) (disch := omega) only [go_sem, seval]
  try repeat ((with_reducible refine And.intro ?_ ?_); focus (first | omega | assumption | exact True.intro | (show anyD _ _ = true; exact rfl) | (simp only [List.length_map, List.length_append, List.length_cons, List.length_nil, List.length_take, List.length_drop]; omega)))
  (first | refine callP.mk (refCheck_c v hb hl hh) rfl ?_ | refine callQ.mk (refCheck_c v hb hl hh) rfl ?_ | refine callO.rd (refCheck_c v hb hl hh) rfl ?_ | refine callO.mk (refCheck_c v hb hl hh) rfl ?_)
  try simp (maxSteps := 2000000) (disch := omega) only [go_sem, seval]
  try repeat ((with_reducible refine And.intro ?_ ?_); focus (first | omega | assumption | exact True.intro | (show anyD _ _ = true; exact rfl) | (simp only [List.length_map, List.length_append, List.length_cons, List.length_nil, List.length_take, List.length_drop]; omega)))
theorem refCanonical_c (v : List En) (hb : ∀ e ∈ v, BdE e) (hl : v.length ≤ 1152921504606846976) (hh : ∀ e ∈ v, e.holes.length ≤ 1152921504606846976) : Cn Tryd.prog 60 [vp v] (.v (.bool (canVB v))) := by
  refine cn_go Tryd.func60 [] 1 (by kernel_rfl) rfl (by simp [go_sem, seval]) ?_
  conv => arg 4; cbv
  conv => enter [5, 1]; cbv
  try simp (maxSteps := 2000000) (disch := omega) only [go_sem, seval]
  try repeat ((with_reducible refine And.intro ?_ ?_); focus (first | omega | assumption | exact True.intro | (show anyD _ _ = true; exact rfl) | (simp only [List.length_map, List.length_append, List.length_cons, List.length_nil, List.length_take, List.length_drop]; omega)))
  refine pLoop.go (fun k => k ≤ v.length ∧ canVB v = ((v.drop k).all (fun e => rightEB e && !mem e.holes e.max) && decide ((chkV v).1 = 0))) (fun k => [(3, .v (.int .i64 (k : Nat)))]) (fun _ => []) (fun k => v.length - k) 0 [3] ?_ ?_ ?_
  · exact ⟨Nat.zero_le _, rfl⟩
  · try simp (maxSteps := 2000000) (disch := omega) only [go_sem, seval]
    try repeat ((with_reducible refine And.intro ?_ ?_); focus (first | omega | assumption | exact True.intro | (show anyD _ _ = true; exact rfl) | (simp only [List.length_map, List.length_append, List.length_cons, List.length_nil, List.length_take, List.length_drop]; omega)))
  · rintro k ⟨hk, hm⟩
    try simp (maxSteps := 2000000) (disch := omega) only [go_sem, seval]
    try repeat ((with_reducible refine And.intro ?_ ?_); focus (first | omega | assumption | exact True.intro | (show anyD _ _ = true; exact rfl) | (simp only [List.length_map, List.length_append, List.length_cons, List.length_nil, List.length_take, List.length_drop]; omega)))
    (first | refine brP.mk (fun h => ?_) (fun h => ?_) | refine gdP.mkt (fun h => ?_) (fun h => ?_) | refine gdP.mkf (fun h => ?_) (fun h => ?_) | refine pkP.mk (fun h => ?_) (fun h => ?_)) <;> (try simp only [Bool.not_true, Bool.not_false, decide_eq_true_eq, decide_eq_false_iff_not, Bool.and_eq_true, Bool.or_eq_true, Bool.not_eq_true', Bool.not_eq_false', Bool.and_eq_false_iff, Bool.or_eq_false_iff, Nat.not_lt, Int.not_lt, Nat.not_le, Int.not_le, Int.ofNat_lt, Int.ofNat_le, Int.ofNat_inj, Bool.xor_false, Bool.false_xor, Bool.true_xor, Bool.xor_true] at h) <;> (try simp (maxSteps := 2000000) (disch := omega) only [go_sem, seval]) <;> (try repeat ((with_reducible refine And.intro ?_ ?_); focus (first | omega | assumption | exact True.intro | (show anyD _ _ = true; exact rfl) | (simp only [List.length_map, List.length_append, List.length_cons, List.length_nil, List.length_take, List.length_drop]; omega))))
    · rw [List.drop_eq_getElem_cons h, List.all_cons] at hm
      try simp (maxSteps := 2000000) (disch := omega) only [go_sem, seval]
      try repeat ((with_reducible refine And.intro ?_ ?_); focus (first | omega | assumption | exact True.intro | (show anyD _ _ = true; exact rfl) | (simp only [List.length_map, List.length_append, List.length_cons, List.length_nil, List.length_take, List.length_drop]; omega)))
      (first | refine callP.mk (canonical7_c v[k] (hh _ (List.getElem_mem h)) (hb _ (List.getElem_mem h)).1) rfl ?_ | refine callQ.mk (canonical7_c v[k] (hh _ (List.getElem_mem h)) (hb _ (List.getElem_mem h)).1) rfl ?_ | refine callO.rd (canonical7_c v[k] (hh _ (List.getElem_mem h)) (hb _ (List.getElem_mem h)).1) rfl ?_ | refine callO.mk (canonical7_c v[k] (hh _ (List.getElem_mem h)) (hb _ (List.getElem_mem h)).1) rfl ?_)
      try simp (maxSteps := 2000000) (disch := omega) only [go_sem, seval]
      try repeat ((with_reducible refine And.intro ?_ ?_); focus (first | omega | assumption | exact True.intro | (show anyD _ _ = true; exact rfl) | (simp only [List.length_map, List.length_append, List.length_cons, List.length_nil, List.length_take, List.length_drop]; omega)))
      (first | refine brP.mk (fun h2 => ?_) (fun h2 => ?_) | refine gdP.mkt (fun h2 => ?_) (fun h2 => ?_) | refine gdP.mkf (fun h2 => ?_) (fun h2 => ?_) | refine pkP.mk (fun h2 => ?_) (fun h2 => ?_)) <;> (try simp only [Bool.not_true, Bool.not_false, decide_eq_true_eq, decide_eq_false_iff_not, Bool.and_eq_true, Bool.or_eq_true, Bool.not_eq_true', Bool.not_eq_false', Bool.and_eq_false_iff, Bool.or_eq_false_iff, Nat.not_lt, Int.not_lt, Nat.not_le, Int.not_le, Int.ofNat_lt, Int.ofNat_le, Int.ofNat_inj, Bool.xor_false, Bool.false_xor, Bool.true_xor, Bool.xor_true] at h2) <;> (try simp (maxSteps := 2000000) (disch := omega) only [go_sem, seval]) <;> (try repeat ((with_reducible refine And.intro ?_ ?_); focus (first | omega | assumption | exact True.intro | (show anyD _ _ = true; exact rfl) | (simp only [List.length_map, List.length_append, List.length_cons, List.length_nil, List.length_take, List.length_drop]; omega))))
      · rw [hm]
        rcases h2 with h2 | h2 <;> rw [h2] <;> simp
      · rw [h2.1, h2.2] at hm
        exact ⟨k + 1, ⟨h, by simpa using hm⟩, by omega, rfl⟩
    · (first | refine callP.mk (rightV_c v hb hl hh) rfl ?_ | refine callQ.mk (rightV_c v hb hl hh) rfl ?_ | refine callO.rd (rightV_c v hb hl hh) rfl ?_ | refine callO.mk (rightV_c v hb hl hh) rfl ?_)
      try simp (maxSteps := 2000000) (disch := omega) only [go_sem, seval]
      try repeat ((with_reducible refine And.intro ?_ ?_); focus (first | omega | assumption | exact True.intro | (show anyD _ _ = true; exact rfl) | (simp only [List.length_map, List.length_append, List.length_cons, List.length_nil, List.length_take, List.length_drop]; omega)))
      rw [hm, List.drop_of_length_le (by omega)]
      rfl
theorem vcheck_c (v : List En) (hb : ∀ e ∈ v, BdE e) (hl : v.length ≤ 1152921504606846976) (hh : ∀ e ∈ v, e.holes.length ≤ 1152921504606846976) : Cn Tryd.prog 57 [vp v] (errV (chkV v).1 (chkV v).2) := by
  refine cn_go Tryd.func57 [] 1 (by kernel_rfl) rfl (by simp [go_sem, seval]) ?_
  conv => arg 4; cbv
  conv => enter [5, 1]; cbv
  try simp (maxSteps := 2000000) (disch := omega) only [go_sem, seval]
  try repeat ((with_reducible refine And.intro ?_ ?_); focus (first | omega | assumption | exact True.intro | (show anyD _ _ = true; exact rfl) | (simp only [List.length_map, List.length_append, List.length_cons, List.length_nil, List.length_take, List.length_drop]; omega)))
  refine pLoop.go (fun k => k ≤ v.length ∧ chkV v = hkV v k (v.drop k)) (fun k => [(8, .v (.int .i64 (k : Nat)))]) (fun _ => []) (fun k => v.length - k) 0 [8] ?_ ?_ ?_
  · exact ⟨Nat.zero_le _, rfl⟩
  · try simp (maxSteps := 2000000) (disch := omega) only [go_sem, seval]
    try repeat ((with_reducible refine And.intro ?_ ?_); focus (first | omega | assumption | exact True.intro | (show anyD _ _ = true; exact rfl) | (simp only [List.length_map, List.length_append, List.length_cons, List.length_nil, List.length_take, List.length_drop]; omega)))
  · rintro k ⟨hk, hm⟩
    try simp (maxSteps := 2000000) (disch := omega) only [go_sem, seval]
    try repeat ((with_reducible refine And.intro ?_ ?_); focus (first | omega | assumption | exact True.intro | (show anyD _ _ = true; exact rfl) | (simp only [List.length_map, List.length_append, List.length_cons, List.length_nil, List.length_take, List.length_drop]; omega)))
    (first | refine brP.mk (fun h => ?_) (fun h => ?_) | refine gdP.mkt (fun h => ?_) (fun h => ?_) | refine gdP.mkf (fun h => ?_) (fun h => ?_) | refine pkP.mk (fun h => ?_) (fun h => ?_)) <;> (try simp only [Bool.not_true, Bool.not_false, decide_eq_true_eq, decide_eq_false_iff_not, Bool.and_eq_true, Bool.or_eq_true, Bool.not_eq_true', Bool.not_eq_false', Bool.and_eq_false_iff, Bool.or_eq_false_iff, Nat.not_lt, Int.not_lt, Nat.not_le, Int.not_le, Int.ofNat_lt, Int.ofNat_le, Int.ofNat_inj, Bool.xor_false, Bool.false_xor, Bool.true_xor, Bool.xor_true] at h) <;> (try simp (maxSteps := 2000000) (disch := omega) only [go_sem, seval]) <;> (try repeat ((with_reducible refine And.intro ?_ ?_); focus (first | omega | assumption | exact True.intro | (show anyD _ _ = true; exact rfl) | (simp only [List.length_map, List.length_append, List.length_cons, List.length_nil, List.length_take, List.length_drop]; omega))))
    · rw [List.drop_eq_getElem_cons h, hkV] at hm
      have hbk := hb _ (List.getElem_mem h)
      have hhk := hh _ (List.getElem_mem h)
      have hco := code_c (chkE v[k]).1 (chkE v[k]).2
      try simp (maxSteps := 2000000) (disch := omega) only [go_sem, seval]
      try repeat ((with_reducible refine And.intro ?_ ?_); focus (first | omega | assumption | exact True.intro | (show anyD _ _ = true; exact rfl) | (simp only [List.length_map, List.length_append, List.length_cons, List.length_nil, List.length_take, List.length_drop]; omega)))
      (first | refine callP.mk (echeck_c v[k] hbk.1 hhk (.inr (codeN_c 2))) rfl ?_ | refine callQ.mk (echeck_c v[k] hbk.1 hhk (.inr (codeN_c 2))) rfl ?_ | refine callO.rd (echeck_c v[k] hbk.1 hhk (.inr (codeN_c 2))) rfl ?_ | refine callO.mk (echeck_c v[k] hbk.1 hhk (.inr (codeN_c 2))) rfl ?_)
      by_cases hz : (chkE v[k]).1 = 0
      · rw [errV_nil hz]
        rw [if_neg (by omega)] at hm
        try simp (maxSteps := 2000000) (disch := omega) only [go_sem, seval]
        try repeat ((with_reducible refine And.intro ?_ ?_); focus (first | omega | assumption | exact True.intro | (show anyD _ _ = true; exact rfl) | (simp only [List.length_map, List.length_append, List.length_cons, List.length_nil, List.length_take, List.length_drop]; omega)))
        (first | refine brP.mk (fun h3 => ?_) (fun h3 => ?_) | refine gdP.mkt (fun h3 => ?_) (fun h3 => ?_) | refine gdP.mkf (fun h3 => ?_) (fun h3 => ?_) | refine pkP.mk (fun h3 => ?_) (fun h3 => ?_)) <;> (try simp only [Bool.not_true, Bool.not_false, decide_eq_true_eq, decide_eq_false_iff_not, Bool.and_eq_true, Bool.or_eq_true, Bool.not_eq_true', Bool.not_eq_false', Bool.and_eq_false_iff, Bool.or_eq_false_iff, Nat.not_lt, Int.not_lt, Nat.not_le, Int.not_le, Int.ofNat_lt, Int.ofNat_le, Int.ofNat_inj, Bool.xor_false, Bool.false_xor, Bool.true_xor, Bool.xor_true] at h3) <;> (try simp (maxSteps := 2000000) (disch := omega) only [go_sem, seval]) <;> (try repeat ((with_reducible refine And.intro ?_ ?_); focus (first | omega | assumption | exact True.intro | (show anyD _ _ = true; exact rfl) | (simp only [List.length_map, List.length_append, List.length_cons, List.length_nil, List.length_take, List.length_drop]; omega))))
        · have hp := prv_at (v := v) (k := k) (by omega)
          rw [hp] at hm
          try simp (maxSteps := 2000000) (disch := omega) only [go_sem, seval]
          try repeat ((with_reducible refine And.intro ?_ ?_); focus (first | omega | assumption | exact True.intro | (show anyD _ _ = true; exact rfl) | (simp only [List.length_map, List.length_append, List.length_cons, List.length_nil, List.length_take, List.length_drop]; omega)))
          (first | refine callP.mk (key_c v[k - 1].rep v[k]) rfl ?_ | refine callQ.mk (key_c v[k - 1].rep v[k]) rfl ?_ | refine callO.rd (key_c v[k - 1].rep v[k]) rfl ?_ | refine callO.mk (key_c v[k - 1].rep v[k]) rfl ?_)
          try simp (maxSteps := 2000000) (disch := omega) only [go_sem, seval]
          try repeat ((with_reducible refine And.intro ?_ ?_); focus (first | omega | assumption | exact True.intro | (show anyD _ _ = true; exact rfl) | (simp only [List.length_map, List.length_append, List.length_cons, List.length_nil, List.length_take, List.length_drop]; omega)))
          (first | refine brP.mk (fun h4 => ?_) (fun h4 => ?_) | refine gdP.mkt (fun h4 => ?_) (fun h4 => ?_) | refine gdP.mkf (fun h4 => ?_) (fun h4 => ?_) | refine pkP.mk (fun h4 => ?_) (fun h4 => ?_)) <;> (try simp only [Bool.not_true, Bool.not_false, decide_eq_true_eq, decide_eq_false_iff_not, Bool.and_eq_true, Bool.or_eq_true, Bool.not_eq_true', Bool.not_eq_false', Bool.and_eq_false_iff, Bool.or_eq_false_iff, Nat.not_lt, Int.not_lt, Nat.not_le, Int.not_le, Int.ofNat_lt, Int.ofNat_le, Int.ofNat_inj, Bool.xor_false, Bool.false_xor, Bool.true_xor, Bool.xor_true] at h4) <;> (try simp (maxSteps := 2000000) (disch := omega) only [go_sem, seval]) <;> (try repeat ((with_reducible refine And.intro ?_ ?_); focus (first | omega | assumption | exact True.intro | (show anyD _ _ = true; exact rfl) | (simp only [List.length_map, List.length_append, List.length_cons, List.length_nil, List.length_take, List.length_drop]; omega))))
          · have h5 : v[k].rep ≤ v[k - 1].rep := by split at h4 <;> (try split at h4) <;> omega
            rw [if_pos ⟨h3, h5⟩] at hm
            rw [hm]
            (first | refine callP.mk (fnew_c 3 k) rfl ?_ | refine callQ.mk (fnew_c 3 k) rfl ?_ | refine callO.rd (fnew_c 3 k) rfl ?_ | refine callO.mk (fnew_c 3 k) rfl ?_)
            try simp (maxSteps := 2000000) (disch := omega) only [go_sem, seval]
            try repeat ((with_reducible refine And.intro ?_ ?_); focus (first | omega | assumption | exact True.intro | (show anyD _ _ = true; exact rfl) | (simp only [List.length_map, List.length_append, List.length_cons, List.length_nil, List.length_take, List.length_drop]; omega)))
            exact errV_sub _ _
          · have h5 : ¬ v[k].rep ≤ v[k - 1].rep := by split at h4 <;> (try split at h4) <;> omega
            rw [if_neg (fun h => by omega)] at hm
            exact ⟨k + 1, ⟨h, hm⟩, by omega, rfl⟩
        · rw [if_neg (fun h => by omega)] at hm
          exact ⟨k + 1, ⟨h, hm⟩, by omega, rfl⟩
      · rw [if_pos hz] at hm
        rw [hm]
        rw [errV_ifc hz] at hco ⊢
        try simp (maxSteps := 2000000) (disch := omega) only [go_sem, seval]
        try repeat ((with_reducible refine And.intro ?_ ?_); focus (first | omega | assumption | exact True.intro | (show anyD _ _ = true; exact rfl) | (simp only [List.length_map, List.length_append, List.length_cons, List.length_nil, List.length_take, List.length_drop]; omega)))
        (first | refine callP.mk (hco) rfl ?_ | refine callQ.mk (hco) rfl ?_ | refine callO.rd (hco) rfl ?_ | refine callO.mk (hco) rfl ?_)
        try simp (maxSteps := 2000000) (disch := omega) only [go_sem, seval]
        try repeat ((with_reducible refine And.intro ?_ ?_); focus (first | omega | assumption | exact True.intro | (show anyD _ _ = true; exact rfl) | (simp only [List.length_map, List.length_append, List.length_cons, List.length_nil, List.length_take, List.length_drop]; omega)))
        (first | refine callP.mk (fnew_c (chkE v[k]).1 k) rfl ?_ | refine callQ.mk (fnew_c (chkE v[k]).1 k) rfl ?_ | refine callO.rd (fnew_c (chkE v[k]).1 k) rfl ?_ | refine callO.mk (fnew_c (chkE v[k]).1 k) rfl ?_)
        try simp (maxSteps := 2000000) (disch := omega) only [go_sem, seval]
        try repeat ((with_reducible refine And.intro ?_ ?_); focus (first | omega | assumption | exact True.intro | (show anyD _ _ = true; exact rfl) | (simp only [List.length_map, List.length_append, List.length_cons, List.length_nil, List.length_take, List.length_drop]; omega)))
        exact errV_sub _ _
    · rw [hm, List.drop_of_length_le (by omega)]
      exact .eq _ rfl
theorem vcan1_c (e : En) (hb : BdE e) (hl : e.holes.length ≤ 1152921504606846976) : Cn Tryd.prog 96 [ep e] (.v (.bool (!(rightEB e && !mem e.holes e.max)))) := by
  refine cn_go Tryd.func96 [] 1 (by kernel_rfl) rfl (by simp [go_sem, seval]) ?_
  conv => arg 4; cbv
  conv => enter [5, 1]; cbv
  try simp (maxSteps := 2000000) (disch := omega) only [go_sem, seval]
  try repeat ((with_reducible refine And.intro ?_ ?_); focus (first | omega | assumption | exact True.intro | (show anyD _ _ = true; exact rfl) | (simp only [List.length_map, List.length_append, List.length_cons, List.length_nil, List.length_take, List.length_drop]; omega)))
  (first | refine callP.mk (ecanonical_c e hb.1 hb.2.1 hb.2.2 hl (.inr (codeN_c 2))) rfl ?_ | refine callQ.mk (ecanonical_c e hb.1 hb.2.1 hb.2.2 hl (.inr (codeN_c 2))) rfl ?_ | refine callO.rd (ecanonical_c e hb.1 hb.2.1 hb.2.2 hl (.inr (codeN_c 2))) rfl ?_ | refine callO.mk (ecanonical_c e hb.1 hb.2.1 hb.2.2 hl (.inr (codeN_c 2))) rfl ?_)
  try simp (maxSteps := 2000000) (disch := omega) only [go_sem, seval]
  try repeat ((with_reducible refine And.intro ?_ ?_); focus (first | omega | assumption | exact True.intro | (show anyD _ _ = true; exact rfl) | (simp only [List.length_map, List.length_append, List.length_cons, List.length_nil, List.length_take, List.length_drop]; omega)))
def ixV : Nat → List En → Int
  | _, [] => -1
  | k, e :: r => if (rightEB e && !mem e.holes e.max) = true then ixV (k + 1) r else (k : Int)
theorem ixV_iff : ∀ (l : List En) (k : Nat), 0 ≤ ixV k l ↔ ¬ l.all (fun e => rightEB e && !mem e.holes e.max) = true
  | [], _ => by simp [ixV]
  | e :: r, k => by
    unfold ixV
    rw [List.all_cons]
    by_cases h : (rightEB e && !mem e.holes e.max) = true
    · rw [if_pos h, ixV_iff r (k + 1), h, Bool.true_and]
    · rw [if_neg h]
      simp only [Bool.not_eq_true] at h
      rw [h]
      simp
theorem vindex_c (v : List En) (hb : ∀ e ∈ v, BdE e) (hl : v.length ≤ 1152921504606846976) (hh : ∀ e ∈ v, e.holes.length ≤ 1152921504606846976) : Cn Tryd.prog 118 [vp v, .fn (.func 96) [] []] (.v (.int .i64 (ixV 0 v))) := by
  refine cn_go Tryd.func118 [] 2 (by kernel_rfl) rfl (by simp [go_sem, seval]) ?_
  conv => arg 4; cbv
  conv => enter [5, 1]; cbv
  try simp (maxSteps := 2000000) (disch := omega) only [go_sem, seval]
  try repeat ((with_reducible refine And.intro ?_ ?_); focus (first | omega | assumption | exact True.intro | (show anyD _ _ = true; exact rfl) | (simp only [List.length_map, List.length_append, List.length_cons, List.length_nil, List.length_take, List.length_drop]; omega)))
  refine pLoop.go (fun k => k ≤ v.length ∧ ixV 0 v = ixV k (v.drop k)) (fun k => [(8, .v (.int .i64 (k : Nat)))]) (fun _ => []) (fun k => v.length - k) 0 [8] ?_ ?_ ?_
  · exact ⟨Nat.zero_le _, rfl⟩
  · try simp (maxSteps := 2000000) (disch := omega) only [go_sem, seval]
    try repeat ((with_reducible refine And.intro ?_ ?_); focus (first | omega | assumption | exact True.intro | (show anyD _ _ = true; exact rfl) | (simp only [List.length_map, List.length_append, List.length_cons, List.length_nil, List.length_take, List.length_drop]; omega)))
  · rintro k ⟨hk, hm⟩
    try simp (maxSteps := 2000000) (disch := omega) only [go_sem, seval]
    try repeat ((with_reducible refine And.intro ?_ ?_); focus (first | omega | assumption | exact True.intro | (show anyD _ _ = true; exact rfl) | (simp only [List.length_map, List.length_append, List.length_cons, List.length_nil, List.length_take, List.length_drop]; omega)))
    (first | refine brP.mk (fun h => ?_) (fun h => ?_) | refine gdP.mkt (fun h => ?_) (fun h => ?_) | refine gdP.mkf (fun h => ?_) (fun h => ?_) | refine pkP.mk (fun h => ?_) (fun h => ?_)) <;> (try simp only [Bool.not_true, Bool.not_false, decide_eq_true_eq, decide_eq_false_iff_not, Bool.and_eq_true, Bool.or_eq_true, Bool.not_eq_true', Bool.not_eq_false', Bool.and_eq_false_iff, Bool.or_eq_false_iff, Nat.not_lt, Int.not_lt, Nat.not_le, Int.not_le, Int.ofNat_lt, Int.ofNat_le, Int.ofNat_inj, Bool.xor_false, Bool.false_xor, Bool.true_xor, Bool.xor_true] at h) <;> (try simp (maxSteps := 2000000) (disch := omega) only [go_sem, seval]) <;> (try repeat ((with_reducible refine And.intro ?_ ?_); focus (first | omega | assumption | exact True.intro | (show anyD _ _ = true; exact rfl) | (simp only [List.length_map, List.length_append, List.length_cons, List.length_nil, List.length_take, List.length_drop]; omega))))
    · rw [List.drop_eq_getElem_cons h, ixV] at hm
      try simp (maxSteps := 2000000) (disch := omega) only [go_sem, seval]
      try repeat ((with_reducible refine And.intro ?_ ?_); focus (first | omega | assumption | exact True.intro | (show anyD _ _ = true; exact rfl) | (simp only [List.length_map, List.length_append, List.length_cons, List.length_nil, List.length_take, List.length_drop]; omega)))
      (first | refine callP.mk (vcan1_c v[k] (hb _ (List.getElem_mem h)) (hh _ (List.getElem_mem h))) rfl ?_ | refine callQ.mk (vcan1_c v[k] (hb _ (List.getElem_mem h)) (hh _ (List.getElem_mem h))) rfl ?_ | refine callO.rd (vcan1_c v[k] (hb _ (List.getElem_mem h)) (hh _ (List.getElem_mem h))) rfl ?_ | refine callO.mk (vcan1_c v[k] (hb _ (List.getElem_mem h)) (hh _ (List.getElem_mem h))) rfl ?_)
      by_cases h2 : (rightEB v[k] && !mem v[k].holes v[k].max) = true
      · rw [if_pos h2] at hm
        rw [h2]
        try simp (maxSteps := 2000000) (disch := omega) only [go_sem, seval]
        try repeat ((with_reducible refine And.intro ?_ ?_); focus (first | omega | assumption | exact True.intro | (show anyD _ _ = true; exact rfl) | (simp only [List.length_map, List.length_append, List.length_cons, List.length_nil, List.length_take, List.length_drop]; omega)))
        exact ⟨k + 1, ⟨h, hm⟩, by omega, rfl⟩
      · rw [if_neg h2] at hm
        simp only [Bool.not_eq_true] at h2
        rw [h2, hm]
        try simp (maxSteps := 2000000) (disch := omega) only [go_sem, seval]
        try repeat ((with_reducible refine And.intro ?_ ?_); focus (first | omega | assumption | exact True.intro | (show anyD _ _ = true; exact rfl) | (simp only [List.length_map, List.length_append, List.length_cons, List.length_nil, List.length_take, List.length_drop]; omega)))
    · rw [hm, List.drop_of_length_le (by omega)]
      rfl
theorem vcontains_c (v : List En) (hb : ∀ e ∈ v, BdE e) (hl : v.length ≤ 1152921504606846976) (hh : ∀ e ∈ v, e.holes.length ≤ 1152921504606846976) : Cn Tryd.prog 95 [vp v, .fn (.func 96) [] []] (.v (.bool (!v.all (fun e => rightEB e && !mem e.holes e.max)))) := by
  refine cn_go Tryd.func95 [] 2 (by kernel_rfl) rfl (by simp [go_sem, seval]) ?_
  conv => arg 4; cbv
  conv => enter [5, 1]; cbv
  try simp (maxSteps := 2000000) (disch := omega) only [go_sem, seval]
  try repeat ((with_reducible refine And.intro ?_ ?_); focus (first | omega | assumption | exact True.intro | (show anyD _ _ = true; exact rfl) | (simp only [List.length_map, List.length_append, List.length_cons, List.length_nil, List.length_take, List.length_drop]; omega)))
  (first | refine callP.mk (vindex_c v hb hl hh) rfl ?_ | refine callQ.mk (vindex_c v hb hl hh) rfl ?_ | refine callO.rd (vindex_c v hb hl hh) rfl ?_ | refine callO.mk (vindex_c v hb hl hh) rfl ?_)
  try simp (maxSteps := 2000000) (disch := omega) only [go_sem, seval]
  try repeat ((with_reducible refine And.intro ?_ ?_); focus (first | omega | assumption | exact True.intro | (show anyD _ _ = true; exact rfl) | (simp only [List.length_map, List.length_append, List.length_cons, List.length_nil, List.length_take, List.length_drop]; omega)))
  rw [Bool.eq_iff_iff, decide_eq_true_eq, ixV_iff]
  simp
theorem vcanonical_c (v : List En) (hb : ∀ e ∈ v, BdE e) (hl : v.length ≤ 1152921504606846976) (hh : ∀ e ∈ v, e.holes.length ≤ 1152921504606846976) : Cn Tryd.prog 59 [vp v] (.v (.bool (canVB v))) := by
  unfold canVB
  refine cn_go Tryd.func59 [] 1 (by kernel_rfl) rfl (by simp [go_sem, seval]) ?_
  conv => arg 4; cbv
  conv => enter [5, 1]; cbv
  try simp (maxSteps := 2000000) (disch := omega) only [go_sem, seval]
  try repeat ((with_reducible refine And.intro ?_ ?_); focus (first | omega | assumption | exact True.intro | (show anyD _ _ = true; exact rfl) | (simp only [List.length_map, List.length_append, List.length_cons, List.length_nil, List.length_take, List.length_drop]; omega)))
  (first | refine callP.mk (vcheck_c v hb hl hh) rfl ?_ | refine callQ.mk (vcheck_c v hb hl hh) rfl ?_ | refine callO.rd (vcheck_c v hb hl hh) rfl ?_ | refine callO.mk (vcheck_c v hb hl hh) rfl ?_)
  by_cases hz : (chkV v).1 = 0
  · rw [errV_nil hz]
    try simp (maxSteps := 2000000) (disch := omega) only [go_sem, seval]
    try repeat ((with_reducible refine And.intro ?_ ?_); focus (first | omega | assumption | exact True.intro | (show anyD _ _ = true; exact rfl) | (simp only [List.length_map, List.length_append, List.length_cons, List.length_nil, List.length_take, List.length_drop]; omega)))
    (first | refine callP.mk (vcontains_c v hb hl hh) rfl ?_ | refine callQ.mk (vcontains_c v hb hl hh) rfl ?_ | refine callO.rd (vcontains_c v hb hl hh) rfl ?_ | refine callO.mk (vcontains_c v hb hl hh) rfl ?_)
    try simp (maxSteps := 2000000) (disch := omega) only [go_sem, seval]
    try repeat ((with_reducible refine And.intro ?_ ?_); focus (first | omega | assumption | exact True.intro | (show anyD _ _ = true; exact rfl) | (simp only [List.length_map, List.length_append, List.length_cons, List.length_nil, List.length_take, List.length_drop]; omega)))
    simp [hz]
  · rw [errV_ifc hz]
    try simp (maxSteps := 2000000) (disch := omega) only [go_sem, seval]
    try repeat ((with_reducible refine And.intro ?_ ?_); focus (first | omega | assumption | exact True.intro | (show anyD _ _ = true; exact rfl) | (simp only [List.length_map, List.length_append, List.length_cons, List.length_nil, List.length_take, List.length_drop]; omega)))
    simp [hz]
end Go.Proofs.YtcedofkenfddkaaDoor
/- The contracts of kenningref09.Numbers, Compare; the example of chapter 9; its laws: they return true. -/
namespace Go.Proofs.YtcedofkenfddkaaDoor
set_option linter.unusedVariables false
set_option linter.unusedSimpArgs false
open Go.RowKit
set_option maxRecDepth 100000
def v9 : List En := [⟨7, 5, [⟨2, 3⟩]⟩]
def v9b : List En := [⟨1, 0, []⟩, ⟨1, 0, []⟩]
set_option maxHeartbeats 2000000 in
theorem alive9_c : Cn Tryd.prog 46 [] (.v (.bool true)) := by
  have hb : ∀ e ∈ v9, BdE e := by simp [v9, BdE, M64_val]
  have hb0 : ∀ e ∈ ([] : List En), BdE e := by simp
  have hb2 : ∀ e ∈ v9b, BdE e := by simp [v9b, BdE, M64_val]
  have hr : CanV v9 := ⟨by simp [v9, CanE, RightE, M64_val, Nrm, NF], by simp [v9]⟩
  have hz : (chkV v9).1 = 0 := (chkV_iff hb).2 hr.right
  have hc : canVB v9 = true := (canVB_iff hb).2 hr
  have hk : knV v9 7 = kn ⟨7, 5, [⟨2, 3⟩]⟩ := rfl
  have h4 : mem (knV v9 7) 4 = true := by rw [hk, kn_mem (hr.1 _ (by simp [v9])).1 (by rw [M64_val]; omega)]; decide
  have h3 : mem (knV v9 7) 3 = false := by rw [hk, kn_mem (hr.1 _ (by simp [v9])).1 (by rw [M64_val]; omega)]; decide
  have hco := code_c (chkV v9b).1 (chkV v9b).2
  have hx : chkV v9b = (3, 1) := by decide
  refine cn_go Tryd.func46 [] 0 (by kernel_rfl) rfl (by simp [go_sem, seval]) ?_
  conv => arg 4; cbv
  conv => enter [5, 1]; cbv
  try simp (maxSteps := 2000000) (disch := omega) only [go_sem, seval]
  try repeat ((with_reducible refine And.intro ?_ ?_); focus (first | omega | assumption | exact True.intro | (show anyD _ _ = true; exact rfl) | (simp only [List.length_map, List.length_append, List.length_cons, List.length_nil, List.length_take, List.length_drop]; omega)))
  (first | refine callP.mk (numbers_c v9 hb (by decide)) rfl ?_ | refine callQ.mk (numbers_c v9 hb (by decide)) rfl ?_ | refine callO.rd (numbers_c v9 hb (by decide)) rfl ?_ | refine callO.mk (numbers_c v9 hb (by decide)) rfl ?_)
  try simp (maxSteps := 2000000) (disch := omega) only [go_sem, seval]
  try repeat ((with_reducible refine And.intro ?_ ?_); focus (first | omega | assumption | exact True.intro | (show anyD _ _ = true; exact rfl) | (simp only [List.length_map, List.length_append, List.length_cons, List.length_nil, List.length_take, List.length_drop]; omega)))
  (first | refine callP.mk (eqN_c (nums v9) [1, 7, 5, 1, 2, 3] (by decide)) rfl ?_ | refine callQ.mk (eqN_c (nums v9) [1, 7, 5, 1, 2, 3] (by decide)) rfl ?_ | refine callO.rd (eqN_c (nums v9) [1, 7, 5, 1, 2, 3] (by decide)) rfl ?_ | refine callO.mk (eqN_c (nums v9) [1, 7, 5, 1, 2, 3] (by decide)) rfl ?_)
  rw [show decide (nums v9 = [1, 7, 5, 1, 2, 3]) = true by decide]
  try simp (maxSteps := 2000000) (disch := omega) only [go_sem, seval]
  try repeat ((with_reducible refine And.intro ?_ ?_); focus (first | omega | assumption | exact True.intro | (show anyD _ _ = true; exact rfl) | (simp only [List.length_map, List.length_append, List.length_cons, List.length_nil, List.length_take, List.length_drop]; omega)))
  (first | refine callP.mk (vcheck_c v9 hb (by decide) (by simp [v9])) rfl ?_ | refine callQ.mk (vcheck_c v9 hb (by decide) (by simp [v9])) rfl ?_ | refine callO.rd (vcheck_c v9 hb (by decide) (by simp [v9])) rfl ?_ | refine callO.mk (vcheck_c v9 hb (by decide) (by simp [v9])) rfl ?_)
  rw [errV_nil hz]
  try simp (maxSteps := 2000000) (disch := omega) only [go_sem, seval]
  try repeat ((with_reducible refine And.intro ?_ ?_); focus (first | omega | assumption | exact True.intro | (show anyD _ _ = true; exact rfl) | (simp only [List.length_map, List.length_append, List.length_cons, List.length_nil, List.length_take, List.length_drop]; omega)))
  (first | refine callP.mk (vcanonical_c v9 hb (by decide) (by simp [v9])) rfl ?_ | refine callQ.mk (vcanonical_c v9 hb (by decide) (by simp [v9])) rfl ?_ | refine callO.rd (vcanonical_c v9 hb (by decide) (by simp [v9])) rfl ?_ | refine callO.mk (vcanonical_c v9 hb (by decide) (by simp [v9])) rfl ?_)
  rw [hc]
  try simp (maxSteps := 2000000) (disch := omega) only [go_sem, seval]
  try repeat ((with_reducible refine And.intro ?_ ?_); focus (first | omega | assumption | exact True.intro | (show anyD _ _ = true; exact rfl) | (simp only [List.length_map, List.length_append, List.length_cons, List.length_nil, List.length_take, List.length_drop]; omega)))
  (first | refine callP.mk (vhas_c v9 7 4 hr.right (by decide) (by decide) (by simp [v9])) rfl ?_ | refine callQ.mk (vhas_c v9 7 4 hr.right (by decide) (by decide) (by simp [v9])) rfl ?_ | refine callO.rd (vhas_c v9 7 4 hr.right (by decide) (by decide) (by simp [v9])) rfl ?_ | refine callO.mk (vhas_c v9 7 4 hr.right (by decide) (by decide) (by simp [v9])) rfl ?_)
  rw [h4]
  try simp (maxSteps := 2000000) (disch := omega) only [go_sem, seval]
  try repeat ((with_reducible refine And.intro ?_ ?_); focus (first | omega | assumption | exact True.intro | (show anyD _ _ = true; exact rfl) | (simp only [List.length_map, List.length_append, List.length_cons, List.length_nil, List.length_take, List.length_drop]; omega)))
  (first | refine callP.mk (vhas_c v9 7 3 hr.right (by decide) (by decide) (by simp [v9])) rfl ?_ | refine callQ.mk (vhas_c v9 7 3 hr.right (by decide) (by decide) (by simp [v9])) rfl ?_ | refine callO.rd (vhas_c v9 7 3 hr.right (by decide) (by decide) (by simp [v9])) rfl ?_ | refine callO.mk (vhas_c v9 7 3 hr.right (by decide) (by decide) (by simp [v9])) rfl ?_)
  rw [h3]
  try simp (maxSteps := 2000000) (disch := omega) only [go_sem, seval]
  try repeat ((with_reducible refine And.intro ?_ ?_); focus (first | omega | assumption | exact True.intro | (show anyD _ _ = true; exact rfl) | (simp only [List.length_map, List.length_append, List.length_cons, List.length_nil, List.length_take, List.length_drop]; omega)))
  (first | refine callP.mk (vfind_c v9 8 hr.right (by decide)) rfl ?_ | refine callQ.mk (vfind_c v9 8 hr.right (by decide)) rfl ?_ | refine callO.rd (vfind_c v9 8 hr.right (by decide)) rfl ?_ | refine callO.mk (vfind_c v9 8 hr.right (by decide)) rfl ?_)
  rw [show fdV 8 0 v9 = -1 by decide]
  try simp (maxSteps := 2000000) (disch := omega) only [go_sem, seval]
  try repeat ((with_reducible refine And.intro ?_ ?_); focus (first | omega | assumption | exact True.intro | (show anyD _ _ = true; exact rfl) | (simp only [List.length_map, List.length_append, List.length_cons, List.length_nil, List.length_take, List.length_drop]; omega)))
  (first | refine callP.mk (vcompare_c [] v9 hb0 hb (by decide) (by decide)) rfl ?_ | refine callQ.mk (vcompare_c [] v9 hb0 hb (by decide) (by decide)) rfl ?_ | refine callO.rd (vcompare_c [] v9 hb0 hb (by decide) (by decide)) rfl ?_ | refine callO.mk (vcompare_c [] v9 hb0 hb (by decide) (by decide)) rfl ?_)
  rw [show cmpL (nums []) (nums v9) = -1 by decide]
  try simp (maxSteps := 2000000) (disch := omega) only [go_sem, seval]
  try repeat ((with_reducible refine And.intro ?_ ?_); focus (first | omega | assumption | exact True.intro | (show anyD _ _ = true; exact rfl) | (simp only [List.length_map, List.length_append, List.length_cons, List.length_nil, List.length_take, List.length_drop]; omega)))
  (first | refine callP.mk (vcheck_c v9b hb2 (by decide) (by simp [v9b])) rfl ?_ | refine callQ.mk (vcheck_c v9b hb2 (by decide) (by simp [v9b])) rfl ?_ | refine callO.rd (vcheck_c v9b hb2 (by decide) (by simp [v9b])) rfl ?_ | refine callO.mk (vcheck_c v9b hb2 (by decide) (by simp [v9b])) rfl ?_)
  rw [hx] at hco ⊢
  try simp (maxSteps := 2000000) (disch := omega) only [go_sem, seval]
  try repeat ((with_reducible refine And.intro ?_ ?_); focus (first | omega | assumption | exact True.intro | (show anyD _ _ = true; exact rfl) | (simp only [List.length_map, List.length_append, List.length_cons, List.length_nil, List.length_take, List.length_drop]; omega)))
  (first | refine callP.mk (hco) rfl ?_ | refine callQ.mk (hco) rfl ?_ | refine callO.rd (hco) rfl ?_ | refine callO.mk (hco) rfl ?_)
  try simp (maxSteps := 2000000) (disch := omega) only [go_sem, seval]
  try repeat ((with_reducible refine And.intro ?_ ?_); focus (first | omega | assumption | exact True.intro | (show anyD _ _ = true; exact rfl) | (simp only [List.length_map, List.length_append, List.length_cons, List.length_nil, List.length_take, List.length_drop]; omega)))
end Go.Proofs.YtcedofkenfddkaaDoor
/- The laws of chapter 9: they return true. -/
namespace Go.Proofs.YtcedofkenfddkaaDoor
set_option linter.unusedVariables false
set_option linter.unusedSimpArgs false
open Go.RowKit
set_option maxRecDepth 100000
/-- What is asked of a vector that the laws are called with. -/
def BdV (v : List En) : Prop := (∀ e ∈ v, BdE e) ∧ v.length ≤ 9223372036854775807
theorem few_bd {v : List En} (h : fewB v = true) : v.length ≤ 1152921504606846976 ∧ ∀ e ∈ v, e.holes.length ≤ 1152921504606846976 := by
  have g := fewB_iff.1 h
  exact ⟨by omega, fun e he => by have := g.1 e he; omega⟩
theorem chkV_at {v : List En} : (if (chkV v).1 = 0 then -1 else (chkV v).2) = (chkV v).2 := by
  have key : ∀ (r : List En) (k : Nat), (hkV v k r).1 = 0 → (hkV v k r).2 = -1 := by
    intro r
    induction r with
    | nil => intro k _; rfl
    | cons e r ih =>
      intro k h
      unfold hkV at h ⊢
      split at h
      · exact absurd h (by assumption)
      · split at h
        · cases h
        · rename_i h1 h2
          rw [if_neg h1, if_neg h2]
          exact ih _ h
  split
  · rename_i h; exact (key v 0 h).symm
  · rfl
theorem CanV.bd {v : List En} (h : CanV v) : ∀ e ∈ v, BdE e := fun e he => BdE_of (h.1 e he).1
set_option maxHeartbeats 2000000 in
theorem vectorChecks_c (v : List En) (hv : BdV v) : Cn Tryd.prog 13 [vp v] (.v (.bool true)) := by
  obtain ⟨hb, hl0⟩ := hv
  have hat := at_c (chkV v).1 (chkV v).2
  have hco := code_c (chkV v).1 (chkV v).2
  rw [chkV_at] at hat
  refine cn_go Tryd.func13 [] 1 (by kernel_rfl) rfl (by simp [go_sem, seval]) ?_
  conv => arg 4; cbv
  conv => enter [5, 1]; cbv
  try simp (maxSteps := 2000000) (disch := omega) only [go_sem, seval]
  try repeat ((with_reducible refine And.intro ?_ ?_); focus (first | omega | assumption | exact True.intro | (show anyD _ _ = true; exact rfl) | (simp only [List.length_map, List.length_append, List.length_cons, List.length_nil, List.length_take, List.length_drop]; omega)))
  (first | refine callP.mk (few_c v hl0) rfl ?_ | refine callQ.mk (few_c v hl0) rfl ?_ | refine callO.rd (few_c v hl0) rfl ?_ | refine callO.mk (few_c v hl0) rfl ?_)
  try simp (maxSteps := 2000000) (disch := omega) only [go_sem, seval]
  try repeat ((with_reducible refine And.intro ?_ ?_); focus (first | omega | assumption | exact True.intro | (show anyD _ _ = true; exact rfl) | (simp only [List.length_map, List.length_append, List.length_cons, List.length_nil, List.length_take, List.length_drop]; omega)))
  (first | refine brP.mk (fun h => ?_) (fun h => ?_) | refine gdP.mkt (fun h => ?_) (fun h => ?_) | refine gdP.mkf (fun h => ?_) (fun h => ?_) | refine pkP.mk (fun h => ?_) (fun h => ?_)) <;> (try simp only [Bool.not_true, Bool.not_false, decide_eq_true_eq, decide_eq_false_iff_not, Bool.and_eq_true, Bool.or_eq_true, Bool.not_eq_true', Bool.not_eq_false', Bool.and_eq_false_iff, Bool.or_eq_false_iff, Nat.not_lt, Int.not_lt, Nat.not_le, Int.not_le, Int.ofNat_lt, Int.ofNat_le, Int.ofNat_inj, Bool.xor_false, Bool.false_xor, Bool.true_xor, Bool.xor_true] at h) <;> (try simp (maxSteps := 2000000) (disch := omega) only [go_sem, seval]) <;> (try repeat ((with_reducible refine And.intro ?_ ?_); focus (first | omega | assumption | exact True.intro | (show anyD _ _ = true; exact rfl) | (simp only [List.length_map, List.length_append, List.length_cons, List.length_nil, List.length_take, List.length_drop]; omega))))
  · (first | refine callP.mk (alive9_c) rfl ?_ | refine callQ.mk (alive9_c) rfl ?_ | refine callO.rd (alive9_c) rfl ?_ | refine callO.mk (alive9_c) rfl ?_)
    try simp (maxSteps := 2000000) (disch := omega) only [go_sem, seval]
    try repeat ((with_reducible refine And.intro ?_ ?_); focus (first | omega | assumption | exact True.intro | (show anyD _ _ = true; exact rfl) | (simp only [List.length_map, List.length_append, List.length_cons, List.length_nil, List.length_take, List.length_drop]; omega)))
  · obtain ⟨hl, hh⟩ := few_bd h
    (first | refine callP.mk (vcheck_c v hb hl hh) rfl ?_ | refine callQ.mk (vcheck_c v hb hl hh) rfl ?_ | refine callO.rd (vcheck_c v hb hl hh) rfl ?_ | refine callO.mk (vcheck_c v hb hl hh) rfl ?_)
    by_cases hz : (chkV v).1 = 0
    · rw [errV_nil hz] at hat hco ⊢
      try simp (maxSteps := 2000000) (disch := omega) only [go_sem, seval]
      try repeat ((with_reducible refine And.intro ?_ ?_); focus (first | omega | assumption | exact True.intro | (show anyD _ _ = true; exact rfl) | (simp only [List.length_map, List.length_append, List.length_cons, List.length_nil, List.length_take, List.length_drop]; omega)))
      (first | refine callP.mk (refCheck_c v hb hl hh) rfl ?_ | refine callQ.mk (refCheck_c v hb hl hh) rfl ?_ | refine callO.rd (refCheck_c v hb hl hh) rfl ?_ | refine callO.mk (refCheck_c v hb hl hh) rfl ?_)
      try simp (maxSteps := 2000000) (disch := omega) only [go_sem, seval]
      try repeat ((with_reducible refine And.intro ?_ ?_); focus (first | omega | assumption | exact True.intro | (show anyD _ _ = true; exact rfl) | (simp only [List.length_map, List.length_append, List.length_cons, List.length_nil, List.length_take, List.length_drop]; omega)))
      (first | refine callP.mk (alive9_c) rfl ?_ | refine callQ.mk (alive9_c) rfl ?_ | refine callO.rd (alive9_c) rfl ?_ | refine callO.mk (alive9_c) rfl ?_)
      try simp (maxSteps := 2000000) (disch := omega) only [go_sem, seval]
      try repeat ((with_reducible refine And.intro ?_ ?_); focus (first | omega | assumption | exact True.intro | (show anyD _ _ = true; exact rfl) | (simp only [List.length_map, List.length_append, List.length_cons, List.length_nil, List.length_take, List.length_drop]; omega)))
      (first | refine callP.mk (hco) rfl ?_ | refine callQ.mk (hco) rfl ?_ | refine callO.rd (hco) rfl ?_ | refine callO.mk (hco) rfl ?_)
      try simp (maxSteps := 2000000) (disch := omega) only [go_sem, seval]
      try repeat ((with_reducible refine And.intro ?_ ?_); focus (first | omega | assumption | exact True.intro | (show anyD _ _ = true; exact rfl) | (simp only [List.length_map, List.length_append, List.length_cons, List.length_nil, List.length_take, List.length_drop]; omega)))
      (first | refine callP.mk (hat) rfl ?_ | refine callQ.mk (hat) rfl ?_ | refine callO.rd (hat) rfl ?_ | refine callO.mk (hat) rfl ?_)
      try simp (maxSteps := 2000000) (disch := omega) only [go_sem, seval]
      try repeat ((with_reducible refine And.intro ?_ ?_); focus (first | omega | assumption | exact True.intro | (show anyD _ _ = true; exact rfl) | (simp only [List.length_map, List.length_append, List.length_cons, List.length_nil, List.length_take, List.length_drop]; omega)))
      (first | refine callP.mk (vcanonical_c v hb hl hh) rfl ?_ | refine callQ.mk (vcanonical_c v hb hl hh) rfl ?_ | refine callO.rd (vcanonical_c v hb hl hh) rfl ?_ | refine callO.mk (vcanonical_c v hb hl hh) rfl ?_)
      try simp (maxSteps := 2000000) (disch := omega) only [go_sem, seval]
      try repeat ((with_reducible refine And.intro ?_ ?_); focus (first | omega | assumption | exact True.intro | (show anyD _ _ = true; exact rfl) | (simp only [List.length_map, List.length_append, List.length_cons, List.length_nil, List.length_take, List.length_drop]; omega)))
      (first | refine callP.mk (refCanonical_c v hb hl hh) rfl ?_ | refine callQ.mk (refCanonical_c v hb hl hh) rfl ?_ | refine callO.rd (refCanonical_c v hb hl hh) rfl ?_ | refine callO.mk (refCanonical_c v hb hl hh) rfl ?_)
      try simp (maxSteps := 2000000) (disch := omega) only [go_sem, seval]
      try repeat ((with_reducible refine And.intro ?_ ?_); focus (first | omega | assumption | exact True.intro | (show anyD _ _ = true; exact rfl) | (simp only [List.length_map, List.length_append, List.length_cons, List.length_nil, List.length_take, List.length_drop]; omega)))
    · rw [errV_ifc hz] at hat hco ⊢
      try simp (maxSteps := 2000000) (disch := omega) only [go_sem, seval]
      try repeat ((with_reducible refine And.intro ?_ ?_); focus (first | omega | assumption | exact True.intro | (show anyD _ _ = true; exact rfl) | (simp only [List.length_map, List.length_append, List.length_cons, List.length_nil, List.length_take, List.length_drop]; omega)))
      (first | refine callP.mk (refCheck_c v hb hl hh) rfl ?_ | refine callQ.mk (refCheck_c v hb hl hh) rfl ?_ | refine callO.rd (refCheck_c v hb hl hh) rfl ?_ | refine callO.mk (refCheck_c v hb hl hh) rfl ?_)
      try simp (maxSteps := 2000000) (disch := omega) only [go_sem, seval]
      try repeat ((with_reducible refine And.intro ?_ ?_); focus (first | omega | assumption | exact True.intro | (show anyD _ _ = true; exact rfl) | (simp only [List.length_map, List.length_append, List.length_cons, List.length_nil, List.length_take, List.length_drop]; omega)))
      (first | refine callP.mk (alive9_c) rfl ?_ | refine callQ.mk (alive9_c) rfl ?_ | refine callO.rd (alive9_c) rfl ?_ | refine callO.mk (alive9_c) rfl ?_)
      try simp (maxSteps := 2000000) (disch := omega) only [go_sem, seval]
      try repeat ((with_reducible refine And.intro ?_ ?_); focus (first | omega | assumption | exact True.intro | (show anyD _ _ = true; exact rfl) | (simp only [List.length_map, List.length_append, List.length_cons, List.length_nil, List.length_take, List.length_drop]; omega)))
      (first | refine callP.mk (hco) rfl ?_ | refine callQ.mk (hco) rfl ?_ | refine callO.rd (hco) rfl ?_ | refine callO.mk (hco) rfl ?_)
      try simp (maxSteps := 2000000) (disch := omega) only [go_sem, seval]
      try repeat ((with_reducible refine And.intro ?_ ?_); focus (first | omega | assumption | exact True.intro | (show anyD _ _ = true; exact rfl) | (simp only [List.length_map, List.length_append, List.length_cons, List.length_nil, List.length_take, List.length_drop]; omega)))
      (first | refine callP.mk (hat) rfl ?_ | refine callQ.mk (hat) rfl ?_ | refine callO.rd (hat) rfl ?_ | refine callO.mk (hat) rfl ?_)
      try simp (maxSteps := 2000000) (disch := omega) only [go_sem, seval]
      try repeat ((with_reducible refine And.intro ?_ ?_); focus (first | omega | assumption | exact True.intro | (show anyD _ _ = true; exact rfl) | (simp only [List.length_map, List.length_append, List.length_cons, List.length_nil, List.length_take, List.length_drop]; omega)))
      (first | refine callP.mk (vcanonical_c v hb hl hh) rfl ?_ | refine callQ.mk (vcanonical_c v hb hl hh) rfl ?_ | refine callO.rd (vcanonical_c v hb hl hh) rfl ?_ | refine callO.mk (vcanonical_c v hb hl hh) rfl ?_)
      try simp (maxSteps := 2000000) (disch := omega) only [go_sem, seval]
      try repeat ((with_reducible refine And.intro ?_ ?_); focus (first | omega | assumption | exact True.intro | (show anyD _ _ = true; exact rfl) | (simp only [List.length_map, List.length_append, List.length_cons, List.length_nil, List.length_take, List.length_drop]; omega)))
      (first | refine callP.mk (refCanonical_c v hb hl hh) rfl ?_ | refine callQ.mk (refCanonical_c v hb hl hh) rfl ?_ | refine callO.rd (refCanonical_c v hb hl hh) rfl ?_ | refine callO.mk (refCanonical_c v hb hl hh) rfl ?_)
      try simp (maxSteps := 2000000) (disch := omega) only [go_sem, seval]
      try repeat ((with_reducible refine And.intro ?_ ?_); focus (first | omega | assumption | exact True.intro | (show anyD _ _ = true; exact rfl) | (simp only [List.length_map, List.length_append, List.length_cons, List.length_nil, List.length_take, List.length_drop]; omega)))
end Go.Proofs.YtcedofkenfddkaaDoor
