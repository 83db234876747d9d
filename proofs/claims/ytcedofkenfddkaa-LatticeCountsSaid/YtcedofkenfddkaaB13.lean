/- Texts of this claim, bound together: T23. -/
import Derived.Test.YtcedofkenfddkaaB12
/- The laws of chapter 10: they return true. -/
namespace Go.Proofs.Ytcedofkenfddkaa
set_option linter.unusedVariables false
set_option linter.unusedSimpArgs false
open Go.RowKit
set_option maxRecDepth 100000
theorem opS_r0 {x : List Iv} (hx : Nrm x) : opS fUnion x [] = x := opS_eq hx trivial hx fun t _ => by simp [fUnion]
theorem opS_0u {x : List Iv} (hx : Nrm x) : opS fUnion [] x = x := opS_eq (a := []) trivial hx hx fun t _ => by simp [fUnion]
theorem opS_m0 {x : List Iv} (hx : Nrm x) : opS fMeet x [] = [] := opS_eq hx trivial trivial fun t _ => by simp [fMeet]
theorem opS_0m {x : List Iv} (hx : Nrm x) : opS fMeet [] x = [] := opS_eq (a := []) trivial hx trivial fun t _ => by simp [fMeet]
theorem opS_d0 {x : List Iv} (hx : Nrm x) : opS fMinus x [] = x := opS_eq hx trivial hx fun t _ => by simp [fMinus]
theorem opS_dd {x : List Iv} (hx : Nrm x) : opS fMinus x x = [] := opS_eq hx hx trivial fun t _ => by simp [fMinus]
theorem kn0 (r m : Nat) (hm : m < M64) : kn ⟨r, m, []⟩ = [⟨0, m⟩] := opS_d0 (nrm_one (Nat.zero_le _) hm)
def a10 : List En := [⟨1, 4, []⟩]
def b10 : List En := [⟨2, 3, []⟩]
def u10 : List En := [⟨1, 4, []⟩, ⟨2, 3, []⟩]
def c10 : List En := [⟨3, 0, []⟩]
theorem a10_can : CanV a10 := ⟨by simp [a10, CanE, RightE, M64_val, Nrm, NF], by simp [a10]⟩
theorem b10_can : CanV b10 := ⟨by simp [b10, CanE, RightE, M64_val, Nrm, NF], by simp [b10]⟩
theorem u10_can : CanV u10 := ⟨by simp [u10, CanE, RightE, M64_val, Nrm, NF], by simp [u10]⟩
theorem c10_can : CanV c10 := ⟨by simp [c10, CanE, RightE, M64_val, Nrm, NF], by simp [c10]⟩
theorem n04 : Nrm [⟨0, 4⟩] := nrm_one (Nat.zero_le _) (by rw [M64_val]; omega)
theorem n03 : Nrm [⟨0, 3⟩] := nrm_one (Nat.zero_le _) (by rw [M64_val]; omega)
theorem kn1 (r : Nat) : kn ⟨r, 4, []⟩ = [⟨0, 4⟩] := kn0 _ _ (by rw [M64_val]; omega)
theorem kn2 (r : Nat) : kn ⟨r, 3, []⟩ = [⟨0, 3⟩] := kn0 _ _ (by rw [M64_val]; omega)
theorem kva (r : Nat) : knV a10 r = if 1 = r then [⟨0, 4⟩] else [] := by simp only [a10, knV_cons, kn1, knV_nil]
theorem kvb (r : Nat) : knV b10 r = if 2 = r then [⟨0, 3⟩] else [] := by simp only [b10, knV_cons, kn2, knV_nil]
theorem kvu (r : Nat) : knV u10 r = if 1 = r then [⟨0, 4⟩] else if 2 = r then [⟨0, 3⟩] else [] := by simp only [u10, knV_cons, kn1, kn2, knV_nil]
theorem l10u : lat fUnion a10 b10 = u10 := lat_eq fU0 a10_can.right b10_can.right u10_can fun r => by
  rw [kva, kvb, kvu]
  by_cases h1 : 1 = r
  · rw [if_pos h1, if_pos h1, if_neg (by omega), opS_r0 n04]
  · rw [if_neg h1, if_neg h1]
    by_cases h2 : 2 = r
    · rw [if_pos h2, opS_0u n03]
    · rw [if_neg h2, opS_none fU0]
theorem l10m : lat fMeet a10 b10 = [] := lat_eq fI0 a10_can.right b10_can.right ⟨fun e h => (by cases h), List.Pairwise.nil⟩ fun r => by
  rw [kva, kvb, knV_nil]
  by_cases h1 : 1 = r
  · rw [if_pos h1, if_neg (by omega), opS_m0 n04]
  · rw [if_neg h1]
    by_cases h2 : 2 = r
    · rw [if_pos h2, opS_0m n03]
    · rw [if_neg h2, opS_none fI0]
theorem l10d : lat fMinus u10 a10 = b10 := lat_eq fM0 u10_can.right a10_can.right b10_can fun r => by
  rw [kva, kvb, kvu]
  by_cases h1 : 1 = r
  · rw [if_pos h1, if_pos h1, if_neg (by omega), opS_dd n04]
  · rw [if_neg h1, if_neg h1]
    by_cases h2 : 2 = r
    · rw [if_pos h2, opS_d0 n03]
    · rw [if_neg h2, opS_none fM0]
theorem l10s : lat fMinus a10 u10 = [] := by rw [← l10u]; exact sub_union a10_can.right b10_can.right
theorem one30 : oneV 3 0 = c10 := by
  have h := opS_dd (x := [⟨0, 0⟩]) (nrm_one (Nat.zero_le _) M64_pos)
  unfold oneV
  rw [ofS_cons (by simp), show top [⟨0, 0⟩] = 0 from rfl, h]
  rfl
theorem nil_can : CanV [] := ⟨fun e h => (by cases h), List.Pairwise.nil⟩
theorem l10c : lat fUnion [] (oneV 3 0) = c10 := by
  rw [one30]
  exact lat_eq fU0 nil_can.right c10_can.right c10_can fun r => by rw [knV_nil, opS_0u (knV_nrm c10_can.right r)]
theorem nil_sm : SmV [] := ⟨nil_can.right, by simp, by simp⟩
theorem sm_of {v : List En} (h : CanV v) (h1 : v.length ≤ 1048576) (h2 : ∀ e ∈ v, e.holes.length ≤ 10000) : SmV v := ⟨h.right, h1, h2⟩
theorem a10_sm : SmV a10 := sm_of a10_can (by decide) (by simp [a10])
theorem b10_sm : SmV b10 := sm_of b10_can (by decide) (by simp [b10])
theorem u10_sm : SmV u10 := sm_of u10_can (by decide) (by simp [u10])
theorem card10 : cardV u10 = 9 := by simp [u10, cardV, kn1, kn2, card]
set_option maxHeartbeats 2000000 in
theorem alive10_c : Cn Try.prog 50 [] (.v (.bool true)) := by
  have hM := M64_val
  refine cn_go Try.func50 [] 0 (by kernel_rfl) rfl (by simp [go_sem, seval]) ?_
  conv => arg 4; cbv
  conv => enter [5, 1]; cbv
  try simp (maxSteps := 2000000) (disch := omega) only [go_sem, seval]
  try repeat ((with_reducible refine And.intro ?_ ?_); focus (first | omega | assumption | exact True.intro | (show anyD _ _ = true; exact rfl) | (simp only [List.length_map, List.length_append, List.length_cons, List.length_nil, List.length_take, List.length_drop]; omega)))
  (first | refine callP.mk (lUnion_c a10 b10 a10_sm b10_sm) rfl ?_ | refine callQ.mk (lUnion_c a10 b10 a10_sm b10_sm) rfl ?_ | refine callO.rd (lUnion_c a10 b10 a10_sm b10_sm) rfl ?_ | refine callO.mk (lUnion_c a10 b10 a10_sm b10_sm) rfl ?_)
  rw [l10u]
  try simp (maxSteps := 2000000) (disch := omega) only [go_sem, seval]
  try repeat ((with_reducible refine And.intro ?_ ?_); focus (first | omega | assumption | exact True.intro | (show anyD _ _ = true; exact rfl) | (simp only [List.length_map, List.length_append, List.length_cons, List.length_nil, List.length_take, List.length_drop]; omega)))
  (first | refine callP.mk (sameV_c u10 u10 (by decide) (by simp [u10])) rfl ?_ | refine callQ.mk (sameV_c u10 u10 (by decide) (by simp [u10])) rfl ?_ | refine callO.rd (sameV_c u10 u10 (by decide) (by simp [u10])) rfl ?_ | refine callO.mk (sameV_c u10 u10 (by decide) (by simp [u10])) rfl ?_)
  try simp (maxSteps := 2000000) (disch := omega) only [go_sem, seval]
  try repeat ((with_reducible refine And.intro ?_ ?_); focus (first | omega | assumption | exact True.intro | (show anyD _ _ = true; exact rfl) | (simp only [List.length_map, List.length_append, List.length_cons, List.length_nil, List.length_take, List.length_drop]; omega)))
  (first | refine callP.mk (lMeet_c a10 b10 a10_sm b10_sm) rfl ?_ | refine callQ.mk (lMeet_c a10 b10 a10_sm b10_sm) rfl ?_ | refine callO.rd (lMeet_c a10 b10 a10_sm b10_sm) rfl ?_ | refine callO.mk (lMeet_c a10 b10 a10_sm b10_sm) rfl ?_)
  rw [l10m]
  try simp (maxSteps := 2000000) (disch := omega) only [go_sem, seval]
  try repeat ((with_reducible refine And.intro ?_ ?_); focus (first | omega | assumption | exact True.intro | (show anyD _ _ = true; exact rfl) | (simp only [List.length_map, List.length_append, List.length_cons, List.length_nil, List.length_take, List.length_drop]; omega)))
  (first | refine callP.mk (lMinus_c u10 a10 u10_sm a10_sm) rfl ?_ | refine callQ.mk (lMinus_c u10 a10 u10_sm a10_sm) rfl ?_ | refine callO.rd (lMinus_c u10 a10 u10_sm a10_sm) rfl ?_ | refine callO.mk (lMinus_c u10 a10 u10_sm a10_sm) rfl ?_)
  rw [l10d]
  try simp (maxSteps := 2000000) (disch := omega) only [go_sem, seval]
  try repeat ((with_reducible refine And.intro ?_ ?_); focus (first | omega | assumption | exact True.intro | (show anyD _ _ = true; exact rfl) | (simp only [List.length_map, List.length_append, List.length_cons, List.length_nil, List.length_take, List.length_drop]; omega)))
  (first | refine callP.mk (sameV_c b10 b10 (by decide) (by simp [b10])) rfl ?_ | refine callQ.mk (sameV_c b10 b10 (by decide) (by simp [b10])) rfl ?_ | refine callO.rd (sameV_c b10 b10 (by decide) (by simp [b10])) rfl ?_ | refine callO.mk (sameV_c b10 b10 (by decide) (by simp [b10])) rfl ?_)
  try simp (maxSteps := 2000000) (disch := omega) only [go_sem, seval]
  try repeat ((with_reducible refine And.intro ?_ ?_); focus (first | omega | assumption | exact True.intro | (show anyD _ _ = true; exact rfl) | (simp only [List.length_map, List.length_append, List.length_cons, List.length_nil, List.length_take, List.length_drop]; omega)))
  (first | refine callP.mk (lSubset_c a10 u10 a10_sm u10_sm) rfl ?_ | refine callQ.mk (lSubset_c a10 u10 a10_sm u10_sm) rfl ?_ | refine callO.rd (lSubset_c a10 u10 a10_sm u10_sm) rfl ?_ | refine callO.mk (lSubset_c a10 u10 a10_sm u10_sm) rfl ?_)
  rw [l10s]
  try simp (maxSteps := 2000000) (disch := omega) only [go_sem, seval]
  try repeat ((with_reducible refine And.intro ?_ ?_); focus (first | omega | assumption | exact True.intro | (show anyD _ _ = true; exact rfl) | (simp only [List.length_map, List.length_append, List.length_cons, List.length_nil, List.length_take, List.length_drop]; omega)))
  (first | refine callP.mk (lSubset_c u10 a10 u10_sm a10_sm) rfl ?_ | refine callQ.mk (lSubset_c u10 a10 u10_sm a10_sm) rfl ?_ | refine callO.rd (lSubset_c u10 a10 u10_sm a10_sm) rfl ?_ | refine callO.mk (lSubset_c u10 a10 u10_sm a10_sm) rfl ?_)
  rw [l10d, show decide (b10 = []) = false by decide]
  try simp (maxSteps := 2000000) (disch := omega) only [go_sem, seval]
  try repeat ((with_reducible refine And.intro ?_ ?_); focus (first | omega | assumption | exact True.intro | (show anyD _ _ = true; exact rfl) | (simp only [List.length_map, List.length_append, List.length_cons, List.length_nil, List.length_take, List.length_drop]; omega)))
  (first | refine callP.mk (lcount_c u10 u10_sm) rfl ?_ | refine callQ.mk (lcount_c u10 u10_sm) rfl ?_ | refine callO.rd (lcount_c u10 u10_sm) rfl ?_ | refine callO.mk (lcount_c u10 u10_sm) rfl ?_)
  rw [card10, show cw 9 = cp2 0 9 by simp [cw, M64_val]]
  try simp (maxSteps := 2000000) (disch := omega) only [go_sem, seval]
  try repeat ((with_reducible refine And.intro ?_ ?_); focus (first | omega | assumption | exact True.intro | (show anyD _ _ = true; exact rfl) | (simp only [List.length_map, List.length_append, List.length_cons, List.length_nil, List.length_take, List.length_drop]; omega)))
  (first | refine callP.mk (lAdd_c [] 3 0 nil_sm (by omega) (by omega)) rfl ?_ | refine callQ.mk (lAdd_c [] 3 0 nil_sm (by omega) (by omega)) rfl ?_ | refine callO.rd (lAdd_c [] 3 0 nil_sm (by omega) (by omega)) rfl ?_ | refine callO.mk (lAdd_c [] 3 0 nil_sm (by omega) (by omega)) rfl ?_)
  rw [l10c]
  try simp (maxSteps := 2000000) (disch := omega) only [go_sem, seval]
  try repeat ((with_reducible refine And.intro ?_ ?_); focus (first | omega | assumption | exact True.intro | (show anyD _ _ = true; exact rfl) | (simp only [List.length_map, List.length_append, List.length_cons, List.length_nil, List.length_take, List.length_drop]; omega)))
  (first | refine callP.mk (sameV_c c10 c10 (by decide) (by simp [c10])) rfl ?_ | refine callQ.mk (sameV_c c10 c10 (by decide) (by simp [c10])) rfl ?_ | refine callO.rd (sameV_c c10 c10 (by decide) (by simp [c10])) rfl ?_ | refine callO.mk (sameV_c c10 c10 (by decide) (by simp [c10])) rfl ?_)
  try simp (maxSteps := 2000000) (disch := omega) only [go_sem, seval]
  try repeat ((with_reducible refine And.intro ?_ ?_); focus (first | omega | assumption | exact True.intro | (show anyD _ _ = true; exact rfl) | (simp only [List.length_map, List.length_append, List.length_cons, List.length_nil, List.length_take, List.length_drop]; omega)))
/-- What a law knows of a vector. -/
theorem okV_get {v : List En} (h : okV v = true) (hb : BdV v) : BV 20 30 v := by
  unfold okV at h
  simp only [Bool.and_eq_true, decide_eq_true_eq] at h
  have g := fewB_iff.1 h.1
  exact ⟨(chkV_iff hb.1).1 h.2, g.2, g.1⟩
theorem BV.sm {n h : Nat} {v : List En} (hv : BV n h v) (h1 : n ≤ 1048576) (h2 : h ≤ 10000) : SmV v := ⟨hv.1, by have := hv.2.1; omega, fun e he => by have := hv.2.2 e he; omega⟩
theorem all2 {a b : List En} (ha : BdV a) (hb : BdV b) : ∀ v ∈ [a, b], BdV v := by
  intro v hv
  simp at hv
  rcases hv with rfl | rfl <;> assumption
set_option maxHeartbeats 2000000 in
theorem latCounts_c (a b : List En) (ha : BdV a) (hb : BdV b) : Cn Try.prog 15 [vp a, vp b] (.v (.bool true)) := by
  refine cn_go Try.func15 [] 2 (by kernel_rfl) rfl (by simp [go_sem, seval]) ?_
  conv => arg 4; cbv
  conv => enter [5, 1]; cbv
  try simp (maxSteps := 2000000) (disch := omega) only [go_sem, seval]
  try repeat ((with_reducible refine And.intro ?_ ?_); focus (first | omega | assumption | exact True.intro | (show anyD _ _ = true; exact rfl) | (simp only [List.length_map, List.length_append, List.length_cons, List.length_nil, List.length_take, List.length_drop]; omega)))
  (first | refine callP.mk (right10_c [a, b] (by simp) (all2 ha hb)) rfl ?_ | refine callQ.mk (right10_c [a, b] (by simp) (all2 ha hb)) rfl ?_ | refine callO.rd (right10_c [a, b] (by simp) (all2 ha hb)) rfl ?_ | refine callO.mk (right10_c [a, b] (by simp) (all2 ha hb)) rfl ?_)
  try simp (maxSteps := 2000000) (disch := omega) only [go_sem, seval]
  try repeat ((with_reducible refine And.intro ?_ ?_); focus (first | omega | assumption | exact True.intro | (show anyD _ _ = true; exact rfl) | (simp only [List.length_map, List.length_append, List.length_cons, List.length_nil, List.length_take, List.length_drop]; omega)))
  (first | refine brP.mk (fun h => ?_) (fun h => ?_) | refine gdP.mkt (fun h => ?_) (fun h => ?_) | refine gdP.mkf (fun h => ?_) (fun h => ?_) | refine pkP.mk (fun h => ?_) (fun h => ?_)) <;> (try simp only [Bool.not_true, Bool.not_false, decide_eq_true_eq, decide_eq_false_iff_not, Bool.and_eq_true, Bool.or_eq_true, Bool.not_eq_true', Bool.not_eq_false', Bool.and_eq_false_iff, Bool.or_eq_false_iff, Nat.not_lt, Int.not_lt, Nat.not_le, Int.not_le, Int.ofNat_lt, Int.ofNat_le, Int.ofNat_inj, Bool.xor_false, Bool.false_xor, Bool.true_xor, Bool.xor_true] at h) <;> (try simp (maxSteps := 2000000) (disch := omega) only [go_sem, seval]) <;> (try repeat ((with_reducible refine And.intro ?_ ?_); focus (first | omega | assumption | exact True.intro | (show anyD _ _ = true; exact rfl) | (simp only [List.length_map, List.length_append, List.length_cons, List.length_nil, List.length_take, List.length_drop]; omega))))
  · (first | refine callP.mk (alive10_c) rfl ?_ | refine callQ.mk (alive10_c) rfl ?_ | refine callO.rd (alive10_c) rfl ?_ | refine callO.mk (alive10_c) rfl ?_)
    try simp (maxSteps := 2000000) (disch := omega) only [go_sem, seval]
    try repeat ((with_reducible refine And.intro ?_ ?_); focus (first | omega | assumption | exact True.intro | (show anyD _ _ = true; exact rfl) | (simp only [List.length_map, List.length_append, List.length_cons, List.length_nil, List.length_take, List.length_drop]; omega)))
  · have h : okV a = true ∧ okV b = true := by simpa using h
    have va := okV_get h.1 ha
    have vb := okV_get h.2 hb
    have sa := va.sm (by omega) (by omega)
    have sb := vb.sm (by omega) (by omega)
    have vu := lat_bv (f := fUnion) va vb
    have vm := lat_bv (f := fMeet) va vb
    have e1 := cardV_lat va.1 vb.1
    have su := vu.sm (by omega) (by omega)
    have sm := vm.sm (by omega) (by omega)
    have qa := cardV_sm sa a.length
    have qb := cardV_sm sb b.length
    have qu := cardV_sm su (lat fUnion a b).length
    have qm := cardV_sm sm (lat fMeet a b).length
    rw [List.take_length] at qa qb qu qm
    (first | refine callP.mk (refCount10_c a sa) rfl ?_ | refine callQ.mk (refCount10_c a sa) rfl ?_ | refine callO.rd (refCount10_c a sa) rfl ?_ | refine callO.mk (refCount10_c a sa) rfl ?_)
    try simp (maxSteps := 2000000) (disch := omega) only [go_sem, seval]
    try repeat ((with_reducible refine And.intro ?_ ?_); focus (first | omega | assumption | exact True.intro | (show anyD _ _ = true; exact rfl) | (simp only [List.length_map, List.length_append, List.length_cons, List.length_nil, List.length_take, List.length_drop]; omega)))
    (first | refine callP.mk (lcount_c a sa) rfl ?_ | refine callQ.mk (lcount_c a sa) rfl ?_ | refine callO.rd (lcount_c a sa) rfl ?_ | refine callO.mk (lcount_c a sa) rfl ?_)
    try simp (maxSteps := 2000000) (disch := omega) only [go_sem, seval]
    try repeat ((with_reducible refine And.intro ?_ ?_); focus (first | omega | assumption | exact True.intro | (show anyD _ _ = true; exact rfl) | (simp only [List.length_map, List.length_append, List.length_cons, List.length_nil, List.length_take, List.length_drop]; omega)))
    (first | refine callP.mk (lcount_c b sb) rfl ?_ | refine callQ.mk (lcount_c b sb) rfl ?_ | refine callO.rd (lcount_c b sb) rfl ?_ | refine callO.mk (lcount_c b sb) rfl ?_)
    try simp (maxSteps := 2000000) (disch := omega) only [go_sem, seval]
    try repeat ((with_reducible refine And.intro ?_ ?_); focus (first | omega | assumption | exact True.intro | (show anyD _ _ = true; exact rfl) | (simp only [List.length_map, List.length_append, List.length_cons, List.length_nil, List.length_take, List.length_drop]; omega)))
    (first | refine callP.mk (plus_c (cardV a) (cardV b) qa qb) rfl ?_ | refine callQ.mk (plus_c (cardV a) (cardV b) qa qb) rfl ?_ | refine callO.rd (plus_c (cardV a) (cardV b) qa qb) rfl ?_ | refine callO.mk (plus_c (cardV a) (cardV b) qa qb) rfl ?_)
    try simp (maxSteps := 2000000) (disch := omega) only [go_sem, seval]
    try repeat ((with_reducible refine And.intro ?_ ?_); focus (first | omega | assumption | exact True.intro | (show anyD _ _ = true; exact rfl) | (simp only [List.length_map, List.length_append, List.length_cons, List.length_nil, List.length_take, List.length_drop]; omega)))
    (first | refine callP.mk (lUnion_c a b sa sb) rfl ?_ | refine callQ.mk (lUnion_c a b sa sb) rfl ?_ | refine callO.rd (lUnion_c a b sa sb) rfl ?_ | refine callO.mk (lUnion_c a b sa sb) rfl ?_)
    try simp (maxSteps := 2000000) (disch := omega) only [go_sem, seval]
    try repeat ((with_reducible refine And.intro ?_ ?_); focus (first | omega | assumption | exact True.intro | (show anyD _ _ = true; exact rfl) | (simp only [List.length_map, List.length_append, List.length_cons, List.length_nil, List.length_take, List.length_drop]; omega)))
    (first | refine callP.mk (lcount_c (lat fUnion a b) su) rfl ?_ | refine callQ.mk (lcount_c (lat fUnion a b) su) rfl ?_ | refine callO.rd (lcount_c (lat fUnion a b) su) rfl ?_ | refine callO.mk (lcount_c (lat fUnion a b) su) rfl ?_)
    try simp (maxSteps := 2000000) (disch := omega) only [go_sem, seval]
    try repeat ((with_reducible refine And.intro ?_ ?_); focus (first | omega | assumption | exact True.intro | (show anyD _ _ = true; exact rfl) | (simp only [List.length_map, List.length_append, List.length_cons, List.length_nil, List.length_take, List.length_drop]; omega)))
    (first | refine callP.mk (lMeet_c a b sa sb) rfl ?_ | refine callQ.mk (lMeet_c a b sa sb) rfl ?_ | refine callO.rd (lMeet_c a b sa sb) rfl ?_ | refine callO.mk (lMeet_c a b sa sb) rfl ?_)
    try simp (maxSteps := 2000000) (disch := omega) only [go_sem, seval]
    try repeat ((with_reducible refine And.intro ?_ ?_); focus (first | omega | assumption | exact True.intro | (show anyD _ _ = true; exact rfl) | (simp only [List.length_map, List.length_append, List.length_cons, List.length_nil, List.length_take, List.length_drop]; omega)))
    (first | refine callP.mk (lcount_c (lat fMeet a b) sm) rfl ?_ | refine callQ.mk (lcount_c (lat fMeet a b) sm) rfl ?_ | refine callO.rd (lcount_c (lat fMeet a b) sm) rfl ?_ | refine callO.mk (lcount_c (lat fMeet a b) sm) rfl ?_)
    try simp (maxSteps := 2000000) (disch := omega) only [go_sem, seval]
    try repeat ((with_reducible refine And.intro ?_ ?_); focus (first | omega | assumption | exact True.intro | (show anyD _ _ = true; exact rfl) | (simp only [List.length_map, List.length_append, List.length_cons, List.length_nil, List.length_take, List.length_drop]; omega)))
    (first | refine callP.mk (plus_c (cardV (lat fUnion a b)) (cardV (lat fMeet a b)) qu qm) rfl ?_ | refine callQ.mk (plus_c (cardV (lat fUnion a b)) (cardV (lat fMeet a b)) qu qm) rfl ?_ | refine callO.rd (plus_c (cardV (lat fUnion a b)) (cardV (lat fMeet a b)) qu qm) rfl ?_ | refine callO.mk (plus_c (cardV (lat fUnion a b)) (cardV (lat fMeet a b)) qu qm) rfl ?_)
    try simp (maxSteps := 2000000) (disch := omega) only [go_sem, seval]
    try repeat ((with_reducible refine And.intro ?_ ?_); focus (first | omega | assumption | exact True.intro | (show anyD _ _ = true; exact rfl) | (simp only [List.length_map, List.length_append, List.length_cons, List.length_nil, List.length_take, List.length_drop]; omega)))
    (first | refine callP.mk (alive10_c) rfl ?_ | refine callQ.mk (alive10_c) rfl ?_ | refine callO.rd (alive10_c) rfl ?_ | refine callO.mk (alive10_c) rfl ?_)
    try simp (maxSteps := 2000000) (disch := omega) only [go_sem, seval]
    try repeat ((with_reducible refine And.intro ?_ ?_); focus (first | omega | assumption | exact True.intro | (show anyD _ _ = true; exact rfl) | (simp only [List.length_map, List.length_append, List.length_cons, List.length_nil, List.length_take, List.length_drop]; omega)))
    (first | refine callP.mk (lcount_c a sa) rfl ?_ | refine callQ.mk (lcount_c a sa) rfl ?_ | refine callO.rd (lcount_c a sa) rfl ?_ | refine callO.mk (lcount_c a sa) rfl ?_)
    try simp (maxSteps := 2000000) (disch := omega) only [go_sem, seval]
    try repeat ((with_reducible refine And.intro ?_ ?_); focus (first | omega | assumption | exact True.intro | (show anyD _ _ = true; exact rfl) | (simp only [List.length_map, List.length_append, List.length_cons, List.length_nil, List.length_take, List.length_drop]; omega)))
    rw [e1]
    simp
end Go.Proofs.Ytcedofkenfddkaa
