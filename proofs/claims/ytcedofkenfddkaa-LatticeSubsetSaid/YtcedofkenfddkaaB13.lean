/- Texts of this claim, bound together: T23 T25. -/
import Derived.Test.YtcedofkenfddkaaB12
/- The laws of chapter 10: they return true. -/
namespace Go.Proofs.Ytcedofkenfddkaa
set_option linter.unusedVariables false
set_option linter.unusedSimpArgs false
open Go.RowKit
set_option maxRecDepth 100000
theorem opS_r0 {x : List Iv} (hx : Nrm x) : opS fUnion x [] = x := opS_eq hx trivial hx fun t _ => by simp [fUnion]
theorem opS_0u {x : List Iv} (hx : Nrm x) : opS fUnion [] x = x := opS_eq (a := []) trivial hx hx fun t _ => by simp [fUnion]
theorem opS_m0 {x : List Iv} (hx : Nrm x) : opS fMeet x [] = [] := opS_eq hx trivial trivial fun t _ => by simp [fMeet]
theorem opS_0m {x : List Iv} (hx : Nrm x) : opS fMeet [] x = [] := opS_eq (a := []) trivial hx trivial fun t _ => by simp [fMeet]
theorem opS_d0 {x : List Iv} (hx : Nrm x) : opS fMinus x [] = x := opS_eq hx trivial hx fun t _ => by simp [fMinus]
theorem opS_dd {x : List Iv} (hx : Nrm x) : opS fMinus x x = [] := opS_eq hx hx trivial fun t _ => by simp [fMinus]
theorem kn0 (r m : Nat) (hm : m < M64) : kn ⟨r, m, []⟩ = [⟨0, m⟩] := opS_d0 (nrm_one (Nat.zero_le _) hm)
def a10 : List En := [⟨1, 4, []⟩]
def b10 : List En := [⟨2, 3, []⟩]
def u10 : List En := [⟨1, 4, []⟩, ⟨2, 3, []⟩]
def c10 : List En := [⟨3, 0, []⟩]
theorem a10_can : CanV a10 := ⟨by simp [a10, CanE, RightE, M64_val, Nrm, NF], by simp [a10]⟩
theorem b10_can : CanV b10 := ⟨by simp [b10, CanE, RightE, M64_val, Nrm, NF], by simp [b10]⟩
theorem u10_can : CanV u10 := ⟨by simp [u10, CanE, RightE, M64_val, Nrm, NF], by simp [u10]⟩
theorem c10_can : CanV c10 := ⟨by simp [c10, CanE, RightE, M64_val, Nrm, NF], by simp [c10]⟩
theorem n04 : Nrm [⟨0, 4⟩] := nrm_one (Nat.zero_le _) (by rw [M64_val]; omega)
theorem n03 : Nrm [⟨0, 3⟩] := nrm_one (Nat.zero_le _) (by rw [M64_val]; omega)
theorem kn1 (r : Nat) : kn ⟨r, 4, []⟩ = [⟨0, 4⟩] := kn0 _ _ (by rw [M64_val]; omega)
theorem kn2 (r : Nat) : kn ⟨r, 3, []⟩ = [⟨0, 3⟩] := kn0 _ _ (by rw [M64_val]; omega)
theorem kva (r : Nat) : knV a10 r = if 1 = r then [⟨0, 4⟩] else [] := by simp only [a10, knV_cons, kn1, knV_nil]
theorem kvb (r : Nat) : knV b10 r = if 2 = r then [⟨0, 3⟩] else [] := by simp only [b10, knV_cons, kn2, knV_nil]
theorem kvu (r : Nat) : knV u10 r = if 1 = r then [⟨0, 4⟩] else if 2 = r then [⟨0, 3⟩] else [] := by simp only [u10, knV_cons, kn1, kn2, knV_nil]
theorem l10u : lat fUnion a10 b10 = u10 := lat_eq fU0 a10_can.right b10_can.right u10_can fun r => by
  rw [kva, kvb, kvu]
  by_cases h1 : 1 = r
  · rw [if_pos h1, if_pos h1, if_neg (by omega), opS_r0 n04]
  · rw [if_neg h1, if_neg h1]
    by_cases h2 : 2 = r
    · rw [if_pos h2, opS_0u n03]
    · rw [if_neg h2, opS_none fU0]
theorem l10m : lat fMeet a10 b10 = [] := lat_eq fI0 a10_can.right b10_can.right ⟨fun e h => (by cases h), List.Pairwise.nil⟩ fun r => by
  rw [kva, kvb, knV_nil]
  by_cases h1 : 1 = r
  · rw [if_pos h1, if_neg (by omega), opS_m0 n04]
  · rw [if_neg h1]
    by_cases h2 : 2 = r
    · rw [if_pos h2, opS_0m n03]
    · rw [if_neg h2, opS_none fI0]
theorem l10d : lat fMinus u10 a10 = b10 := lat_eq fM0 u10_can.right a10_can.right b10_can fun r => by
  rw [kva, kvb, kvu]
  by_cases h1 : 1 = r
  · rw [if_pos h1, if_pos h1, if_neg (by omega), opS_dd n04]
  · rw [if_neg h1, if_neg h1]
    by_cases h2 : 2 = r
    · rw [if_pos h2, opS_d0 n03]
    · rw [if_neg h2, opS_none fM0]
theorem l10s : lat fMinus a10 u10 = [] := by rw [← l10u]; exact sub_union a10_can.right b10_can.right
theorem one30 : oneV 3 0 = c10 := by
  have h := opS_dd (x := [⟨0, 0⟩]) (nrm_one (Nat.zero_le _) M64_pos)
  unfold oneV
  rw [ofS_cons (by simp), show top [⟨0, 0⟩] = 0 from rfl, h]
  rfl
theorem nil_can : CanV [] := ⟨fun e h => (by cases h), List.Pairwise.nil⟩
theorem l10c : lat fUnion [] (oneV 3 0) = c10 := by
  rw [one30]
  exact lat_eq fU0 nil_can.right c10_can.right c10_can fun r => by rw [knV_nil, opS_0u (knV_nrm c10_can.right r)]
theorem nil_sm : SmV [] := ⟨nil_can.right, by simp, by simp⟩
theorem sm_of {v : List En} (h : CanV v) (h1 : v.length ≤ 1048576) (h2 : ∀ e ∈ v, e.holes.length ≤ 10000) : SmV v := ⟨h.right, h1, h2⟩
theorem a10_sm : SmV a10 := sm_of a10_can (by decide) (by simp [a10])
theorem b10_sm : SmV b10 := sm_of b10_can (by decide) (by simp [b10])
theorem u10_sm : SmV u10 := sm_of u10_can (by decide) (by simp [u10])
theorem card10 : cardV u10 = 9 := by simp [u10, cardV, kn1, kn2, card]
set_option maxHeartbeats 2000000 in
theorem alive10_c : Cn Try.prog 50 [] (.v (.bool true)) := by
  have hM := M64_val
  refine cn_go Try.func50 [] 0 (by kernel_rfl) rfl (by simp [go_sem, seval]) ?_
  conv => arg 4; cbv
  conv => enter [5, 1]; cbv
  try simp (maxSteps := 2000000) (disch := omega) only [go_sem, seval]
  try repeat ((with_reducible refine And.intro ?_ ?_); focus (first | omega | assumption | exact True.intro | (show anyD _ _ = true; exact rfl) | (simp only [List.length_map, List.length_append, List.length_cons, List.length_nil, List.length_take, List.length_drop]; omega)))
  (first | refine callP.mk (lUnion_c a10 b10 a10_sm b10_sm) rfl ?_ | refine callQ.mk (lUnion_c a10 b10 a10_sm b10_sm) rfl ?_ | refine callO.rd (lUnion_c a10 b10 a10_sm b10_sm) rfl ?_ | refine callO.mk (lUnion_c a10 b10 a10_sm b10_sm) rfl ?_)
  rw [l10u]
  try simp (maxSteps := 2000000) (disch := omega) only [go_sem, seval]
  try repeat ((with_reducible refine And.intro ?_ ?_); focus (first | omega | assumption | exact True.intro | (show anyD _ _ = true; exact rfl) | (simp only [List.length_map, List.length_append, List.length_cons, List.length_nil, List.length_take, List.length_drop]; omega)))
  (first | refine callP.mk (sameV_c u10 u10 (by decide) (by simp [u10])) rfl ?_ | refine callQ.mk (sameV_c u10 u10 (by decide) (by simp [u10])) rfl ?_ | refine callO.rd (sameV_c u10 u10 (by decide) (by simp [u10])) rfl ?_ | refine callO.mk (sameV_c u10 u10 (by decide) (by simp [u10])) rfl ?_)
  try simp (maxSteps := 2000000) (disch := omega) only [go_sem, seval]
  try repeat ((with_reducible refine And.intro ?_ ?_); focus (first | omega | assumption | exact True.intro | (show anyD _ _ = true; exact rfl) | (simp only [List.length_map, List.length_append, List.length_cons, List.length_nil, List.length_take, List.length_drop]; omega)))
  (first | refine callP.mk (lMeet_c a10 b10 a10_sm b10_sm) rfl ?_ | refine callQ.mk (lMeet_c a10 b10 a10_sm b10_sm) rfl ?_ | refine callO.rd (lMeet_c a10 b10 a10_sm b10_sm) rfl ?_ | refine callO.mk (lMeet_c a10 b10 a10_sm b10_sm) rfl ?_)
  rw [l10m]
  try simp (maxSteps := 2000000) (disch := omega) only [go_sem, seval]
  try repeat ((with_reducible refine And.intro ?_ ?_); focus (first | omega | assumption | exact True.intro | (show anyD _ _ = true; exact rfl) | (simp only [List.length_map, List.length_append, List.length_cons, List.length_nil, List.length_take, List.length_drop]; omega)))
  (first | refine callP.mk (lMinus_c u10 a10 u10_sm a10_sm) rfl ?_ | refine callQ.mk (lMinus_c u10 a10 u10_sm a10_sm) rfl ?_ | refine callO.rd (lMinus_c u10 a10 u10_sm a10_sm) rfl ?_ | refine callO.mk (lMinus_c u10 a10 u10_sm a10_sm) rfl ?_)
  rw [l10d]
  try simp (maxSteps := 2000000) (disch := omega) only [go_sem, seval]
  try repeat ((with_reducible refine And.intro ?_ ?_); focus (first | omega | assumption | exact True.intro | (show anyD _ _ = true; exact rfl) | (simp only [List.length_map, List.length_append, List.length_cons, List.length_nil, List.length_take, List.length_drop]; omega)))
  (first | refine callP.mk (sameV_c b10 b10 (by decide) (by simp [b10])) rfl ?_ | refine callQ.mk (sameV_c b10 b10 (by decide) (by simp [b10])) rfl ?_ | refine callO.rd (sameV_c b10 b10 (by decide) (by simp [b10])) rfl ?_ | refine callO.mk (sameV_c b10 b10 (by decide) (by simp [b10])) rfl ?_)
  try simp (maxSteps := 2000000) (disch := omega) only [go_sem, seval]
  try repeat ((with_reducible refine And.intro ?_ ?_); focus (first | omega | assumption | exact True.intro | (show anyD _ _ = true; exact rfl) | (simp only [List.length_map, List.length_append, List.length_cons, List.length_nil, List.length_take, List.length_drop]; omega)))
  (first | refine callP.mk (lSubset_c a10 u10 a10_sm u10_sm) rfl ?_ | refine callQ.mk (lSubset_c a10 u10 a10_sm u10_sm) rfl ?_ | refine callO.rd (lSubset_c a10 u10 a10_sm u10_sm) rfl ?_ | refine callO.mk (lSubset_c a10 u10 a10_sm u10_sm) rfl ?_)
  rw [l10s]
  try simp (maxSteps := 2000000) (disch := omega) only [go_sem, seval]
  try repeat ((with_reducible refine And.intro ?_ ?_); focus (first | omega | assumption | exact True.intro | (show anyD _ _ = true; exact rfl) | (simp only [List.length_map, List.length_append, List.length_cons, List.length_nil, List.length_take, List.length_drop]; omega)))
  (first | refine callP.mk (lSubset_c u10 a10 u10_sm a10_sm) rfl ?_ | refine callQ.mk (lSubset_c u10 a10 u10_sm a10_sm) rfl ?_ | refine callO.rd (lSubset_c u10 a10 u10_sm a10_sm) rfl ?_ | refine callO.mk (lSubset_c u10 a10 u10_sm a10_sm) rfl ?_)
  rw [l10d, show decide (b10 = []) = false by decide]
  try simp (maxSteps := 2000000) (disch := omega) only [go_sem, seval]
  try repeat ((with_reducible refine And.intro ?_ ?_); focus (first | omega | assumption | exact True.intro | (show anyD _ _ = true; exact rfl) | (simp only [List.length_map, List.length_append, List.length_cons, List.length_nil, List.length_take, List.length_drop]; omega)))
  (first | refine callP.mk (lcount_c u10 u10_sm) rfl ?_ | refine callQ.mk (lcount_c u10 u10_sm) rfl ?_ | refine callO.rd (lcount_c u10 u10_sm) rfl ?_ | refine callO.mk (lcount_c u10 u10_sm) rfl ?_)
  rw [card10, show cw 9 = cp2 0 9 by simp [cw, M64_val]]
  try simp (maxSteps := 2000000) (disch := omega) only [go_sem, seval]
  try repeat ((with_reducible refine And.intro ?_ ?_); focus (first | omega | assumption | exact True.intro | (show anyD _ _ = true; exact rfl) | (simp only [List.length_map, List.length_append, List.length_cons, List.length_nil, List.length_take, List.length_drop]; omega)))
  (first | refine callP.mk (lAdd_c [] 3 0 nil_sm (by omega) (by omega)) rfl ?_ | refine callQ.mk (lAdd_c [] 3 0 nil_sm (by omega) (by omega)) rfl ?_ | refine callO.rd (lAdd_c [] 3 0 nil_sm (by omega) (by omega)) rfl ?_ | refine callO.mk (lAdd_c [] 3 0 nil_sm (by omega) (by omega)) rfl ?_)
  rw [l10c]
  try simp (maxSteps := 2000000) (disch := omega) only [go_sem, seval]
  try repeat ((with_reducible refine And.intro ?_ ?_); focus (first | omega | assumption | exact True.intro | (show anyD _ _ = true; exact rfl) | (simp only [List.length_map, List.length_append, List.length_cons, List.length_nil, List.length_take, List.length_drop]; omega)))
  (first | refine callP.mk (sameV_c c10 c10 (by decide) (by simp [c10])) rfl ?_ | refine callQ.mk (sameV_c c10 c10 (by decide) (by simp [c10])) rfl ?_ | refine callO.rd (sameV_c c10 c10 (by decide) (by simp [c10])) rfl ?_ | refine callO.mk (sameV_c c10 c10 (by decide) (by simp [c10])) rfl ?_)
  try simp (maxSteps := 2000000) (disch := omega) only [go_sem, seval]
  try repeat ((with_reducible refine And.intro ?_ ?_); focus (first | omega | assumption | exact True.intro | (show anyD _ _ = true; exact rfl) | (simp only [List.length_map, List.length_append, List.length_cons, List.length_nil, List.length_take, List.length_drop]; omega)))
/-- What a law knows of a vector. -/
theorem okV_get {v : List En} (h : okV v = true) (hb : BdV v) : BV 20 30 v := by
  unfold okV at h
  simp only [Bool.and_eq_true, decide_eq_true_eq] at h
  have g := fewB_iff.1 h.1
  exact ⟨(chkV_iff hb.1).1 h.2, g.2, g.1⟩
theorem BV.sm {n h : Nat} {v : List En} (hv : BV n h v) (h1 : n ≤ 1048576) (h2 : h ≤ 10000) : SmV v := ⟨hv.1, by have := hv.2.1; omega, fun e he => by have := hv.2.2 e he; omega⟩
theorem all2 {a b : List En} (ha : BdV a) (hb : BdV b) : ∀ v ∈ [a, b], BdV v := by
  intro v hv
  simp at hv
  rcases hv with rfl | rfl <;> assumption
end Go.Proofs.Ytcedofkenfddkaa
/- kenningref10: put, Do, One; the laws LatticeMatches, LatticeSubset, LatticeAdds. -/
namespace Go.Proofs.Ytcedofkenfddkaa
set_option linter.unusedVariables false
set_option linter.unusedSimpArgs false
open Go.RowKit
set_option maxRecDepth 100000
theorem put10_c (xs : List Nat) (x : Nat) (hl : (srt xs).length ≤ 4194304) : Cn Try.prog 85 [ns (srt xs), .v (.int .u64 x)] (ns (srt (xs ++ [x]))) := by
  refine cn_memL rfl (enters_of Try.func85 (by kernel_rfl) rfl) fun D w vs hG hD hsz hd => ?_
  rw [arr2 hsz, (hd 1 _ rfl).v_inv]
  refine (put_calls D xs x _ w hl (hd 0 _ rfl) hD).mono ?_
  rintro e w' ⟨v, rfl, hb, hv⟩
  exact ⟨v, rfl, hb, hv⟩
theorem srt_len2 {v : List En} {xs : List Nat} {k : Nat} (hv : v.length ≤ 1048576) (hx : xs.length ≤ 1048576) : (srt (xs ++ reps (v.take k))).length ≤ 4194304 := by
  have h1 := srt_len (xs ++ reps (v.take k))
  have h2 : (v.take k).length ≤ 1048576 := Nat.le_trans (List.length_take_le' _ _) hv
  simp only [reps, List.length_append, List.length_map] at h1 h2
  simp only [reps]
  omega
theorem reps_take {v : List En} {k : Nat} (h : k < v.length) : reps (v.take (k + 1)) = reps (v.take k) ++ [v[k].rep] := by
  unfold reps
  rw [List.take_succ_eq_append_getElem h, List.map_append]
  rfl
set_option maxHeartbeats 2000000 in
theorem do10_c (a b : List En) (op : Nat) (ho : op < 3) (ha : SmV a) (hb : SmV b) : Cn Try.prog 53 [vp a, vp b, .v (.int .i64 op)] (vp (lat (opb op) a b)) := by
  have la := ha.2.1
  have lb := hb.2.1
  have h0 : opb op false false = false := by
    match op, ho with
    | 0, _ => rfl
    | 1, _ => rfl
    | 2, _ => rfl
  refine cn_goT Try.func53 [] 3 (by kernel_rfl) rfl (by simp [go_sem, seval]) 14 (.dr [⟨(some 47), none, (.mv (.t 7))⟩, ⟨(some 48), none, (.mv (.t 11))⟩, ⟨(some 49), none, (.ia (.t 47) (.t 48) 1)⟩, ⟨(some 50), none, (.ld (.t 49) false 1)⟩, ⟨(some 51), none, (.mv (.t 0))⟩, ⟨(some 52), none, (.mv (.t 7))⟩, ⟨(some 53), none, (.mv (.t 11))⟩, ⟨(some 54), none, (.ia (.t 52) (.t 53) 1)⟩, ⟨(some 55), none, (.ld (.t 54) false 1)⟩, ⟨(some 56), none, (.ca 86 [(.t 51), (.t 55)])⟩, ⟨(some 57), none, (.mv (.t 1))⟩, ⟨(some 58), none, (.mv (.t 7))⟩, ⟨(some 59), none, (.mv (.t 11))⟩, ⟨(some 60), none, (.ia (.t 58) (.t 59) 1)⟩, ⟨(some 61), none, (.ld (.t 60) false 1)⟩, ⟨(some 62), none, (.ca 86 [(.t 57), (.t 61)])⟩, ⟨(some 63), none, (.mv (.t 2))⟩, ⟨(some 64), none, (.ca 67 [(.t 56), (.t 62), (.t 63)])⟩, ⟨(some 65), none, (.ca 79 [(.t 50), (.t 64)])⟩, ⟨(some 46), none, (.mv (.t 65))⟩, ⟨(some 66), none, (.ex (.t 46) 0)⟩, ⟨(some 67), none, (.ex (.t 46) 1)⟩] [⟨(some 12), none, (.al [(.v (.int .u64 0)), (.v (.int .u64 0)), (.sl [] .sh)])⟩, ⟨none, none, (.st (.t 12) (.t 66) 3)⟩, ⟨(some 13), none, (.mv (.t 67))⟩]) rfl (by kernel_rfl) ?_
  conv => enter [4, 6]; (unfold codeOf; simp only [Try.f53])
  simp only [pcT, Nat.reduceEqDiff, if_false, if_true, reduceIte]
  repeat (conv in (leafC _ _ _ _ _ _) => cbv)
  repeat (conv in (leafP _) => cbv)
  conv => enter [5, 1]; cbv
  try simp (maxSteps := 2000000) (disch := omega) only [go_sem, seval]
  try repeat ((with_reducible refine And.intro ?_ ?_); focus (first | omega | assumption | exact True.intro | (show anyD _ _ = true; exact rfl) | (simp only [List.length_map, List.length_append, List.length_cons, List.length_nil, List.length_take, List.length_drop]; omega)))
  refine pLoop.go (fun k => k ≤ a.length) (fun k => [(7, ns (srt ([] ++ reps (a.take k)))), (8, .v (.int .i64 (k : Nat)))]) (fun _ => []) (fun k => a.length - k) 0 [7, 8] ?_ ?_ ?_
  · exact Nat.zero_le _
  · simp only [List.take_zero, reps, List.map_nil, List.append_nil, srt_nil]
    try simp (maxSteps := 2000000) (disch := omega) only [go_sem, seval]
    try repeat ((with_reducible refine And.intro ?_ ?_); focus (first | omega | assumption | exact True.intro | (show anyD _ _ = true; exact rfl) | (simp only [List.length_map, List.length_append, List.length_cons, List.length_nil, List.length_take, List.length_drop]; omega)))
  · rintro k hk
    try simp (maxSteps := 2000000) (disch := omega) only [go_sem, seval]
    try repeat ((with_reducible refine And.intro ?_ ?_); focus (first | omega | assumption | exact True.intro | (show anyD _ _ = true; exact rfl) | (simp only [List.length_map, List.length_append, List.length_cons, List.length_nil, List.length_take, List.length_drop]; omega)))
    (first | refine brP.mk (fun h => ?_) (fun h => ?_) | refine gdP.mkt (fun h => ?_) (fun h => ?_) | refine gdP.mkf (fun h => ?_) (fun h => ?_) | refine pkP.mk (fun h => ?_) (fun h => ?_)) <;> (try simp only [Bool.not_true, Bool.not_false, decide_eq_true_eq, decide_eq_false_iff_not, Bool.and_eq_true, Bool.or_eq_true, Bool.not_eq_true', Bool.not_eq_false', Bool.and_eq_false_iff, Bool.or_eq_false_iff, Nat.not_lt, Int.not_lt, Nat.not_le, Int.not_le, Int.ofNat_lt, Int.ofNat_le, Int.ofNat_inj, Bool.xor_false, Bool.false_xor, Bool.true_xor, Bool.xor_true] at h) <;> (try simp (maxSteps := 2000000) (disch := omega) only [go_sem, seval]) <;> (try repeat ((with_reducible refine And.intro ?_ ?_); focus (first | omega | assumption | exact True.intro | (show anyD _ _ = true; exact rfl) | (simp only [List.length_map, List.length_append, List.length_cons, List.length_nil, List.length_take, List.length_drop]; omega))))
    · (first | refine callP.mk (put10_c ([] ++ reps (a.take k)) a[k].rep (srt_len2 (xs := []) la (by simp))) rfl ?_ | refine callQ.mk (put10_c ([] ++ reps (a.take k)) a[k].rep (srt_len2 (xs := []) la (by simp))) rfl ?_ | refine callO.rd (put10_c ([] ++ reps (a.take k)) a[k].rep (srt_len2 (xs := []) la (by simp))) rfl ?_ | refine callO.mk (put10_c ([] ++ reps (a.take k)) a[k].rep (srt_len2 (xs := []) la (by simp))) rfl ?_)
      try simp (maxSteps := 2000000) (disch := omega) only [go_sem, seval]
      try repeat ((with_reducible refine And.intro ?_ ?_); focus (first | omega | assumption | exact True.intro | (show anyD _ _ = true; exact rfl) | (simp only [List.length_map, List.length_append, List.length_cons, List.length_nil, List.length_take, List.length_drop]; omega)))
      refine ⟨k + 1, h, by omega, ?_, rfl⟩
      rw [reps_take h]
    · rw [show k = a.length by omega, List.take_length]
      refine pLoop.go (fun k => k ≤ b.length) (fun k => [(7, ns (srt (reps a ++ reps (b.take k)))), (9, .v (.int .i64 (k : Nat)))]) (fun _ => []) (fun k => b.length - k) 0 [7, 9] ?_ ?_ ?_
      · exact Nat.zero_le _
      · simp only [List.take_zero, reps, List.map_nil, List.append_nil]
        try simp (maxSteps := 2000000) (disch := omega) only [go_sem, seval]
        try repeat ((with_reducible refine And.intro ?_ ?_); focus (first | omega | assumption | exact True.intro | (show anyD _ _ = true; exact rfl) | (simp only [List.length_map, List.length_append, List.length_cons, List.length_nil, List.length_take, List.length_drop]; omega)))
      · rintro k hk
        try simp (maxSteps := 2000000) (disch := omega) only [go_sem, seval]
        try repeat ((with_reducible refine And.intro ?_ ?_); focus (first | omega | assumption | exact True.intro | (show anyD _ _ = true; exact rfl) | (simp only [List.length_map, List.length_append, List.length_cons, List.length_nil, List.length_take, List.length_drop]; omega)))
        (first | refine brP.mk (fun h2 => ?_) (fun h2 => ?_) | refine gdP.mkt (fun h2 => ?_) (fun h2 => ?_) | refine gdP.mkf (fun h2 => ?_) (fun h2 => ?_) | refine pkP.mk (fun h2 => ?_) (fun h2 => ?_)) <;> (try simp only [Bool.not_true, Bool.not_false, decide_eq_true_eq, decide_eq_false_iff_not, Bool.and_eq_true, Bool.or_eq_true, Bool.not_eq_true', Bool.not_eq_false', Bool.and_eq_false_iff, Bool.or_eq_false_iff, Nat.not_lt, Int.not_lt, Nat.not_le, Int.not_le, Int.ofNat_lt, Int.ofNat_le, Int.ofNat_inj, Bool.xor_false, Bool.false_xor, Bool.true_xor, Bool.xor_true] at h2) <;> (try simp (maxSteps := 2000000) (disch := omega) only [go_sem, seval]) <;> (try repeat ((with_reducible refine And.intro ?_ ?_); focus (first | omega | assumption | exact True.intro | (show anyD _ _ = true; exact rfl) | (simp only [List.length_map, List.length_append, List.length_cons, List.length_nil, List.length_take, List.length_drop]; omega))))
        · (first | refine callP.mk (put10_c (reps a ++ reps (b.take k)) b[k].rep (srt_len2 (xs := reps a) lb (by simp [reps]; omega))) rfl ?_ | refine callQ.mk (put10_c (reps a ++ reps (b.take k)) b[k].rep (srt_len2 (xs := reps a) lb (by simp [reps]; omega))) rfl ?_ | refine callO.rd (put10_c (reps a ++ reps (b.take k)) b[k].rep (srt_len2 (xs := reps a) lb (by simp [reps]; omega))) rfl ?_ | refine callO.mk (put10_c (reps a ++ reps (b.take k)) b[k].rep (srt_len2 (xs := reps a) lb (by simp [reps]; omega))) rfl ?_)
          try simp (maxSteps := 2000000) (disch := omega) only [go_sem, seval]
          try repeat ((with_reducible refine And.intro ?_ ?_); focus (first | omega | assumption | exact True.intro | (show anyD _ _ = true; exact rfl) | (simp only [List.length_map, List.length_append, List.length_cons, List.length_nil, List.length_take, List.length_drop]; omega)))
          refine ⟨k + 1, h2, by omega, ?_, rfl⟩
          rw [reps_take h2, List.append_assoc]
        · rw [show k = b.length by omega, List.take_length]
          obtain ⟨L, hL⟩ : ∃ L, L = srt (reps a ++ reps b) := ⟨_, rfl⟩
          have hll : L.length ≤ 2097152 := by
            have h1 := srt_len (reps a ++ reps b)
            simp only [reps, List.length_append, List.length_map] at h1
            rw [hL]
            simp only [reps]
            omega
          have hlm : ∀ r ∈ L, r < M64 := by rw [hL]; exact rep_lt ha.1 hb.1
          have hlat : lat (opb op) a b = L.filterMap (latO (opb op) a b) := by rw [hL]; rfl
          rw [← hL, hlat]
          clear hlat hL
          refine pLoop.go (fun k => k ≤ L.length) (fun k => [(10, .sl (((L.take k).filterMap (latO (opb op) a b)).map ec) (.r 72 3)), (11, .v (.int .i64 (k : Nat)))]) (fun _ => []) (fun k => L.length - k) 0 [10, 11, 72] ?_ ?_ ?_
          · exact Nat.zero_le _
          · simp only [List.take_zero, List.filterMap_nil, List.map_nil]
            try simp (maxSteps := 2000000) (disch := omega) only [go_sem, seval]
            try repeat ((with_reducible refine And.intro ?_ ?_); focus (first | omega | assumption | exact True.intro | (show anyD _ _ = true; exact rfl) | (simp only [List.length_map, List.length_append, List.length_cons, List.length_nil, List.length_take, List.length_drop]; omega)))
          · rintro k hk
            have hfl : ((L.take k).filterMap (latO (opb op) a b)).length ≤ k := Nat.le_trans (List.length_filterMap_le _ _) (by simp; omega)
            try simp (maxSteps := 2000000) (disch := omega) only [go_sem, seval]
            try repeat ((with_reducible refine And.intro ?_ ?_); focus (first | omega | assumption | exact True.intro | (show anyD _ _ = true; exact rfl) | (simp only [List.length_map, List.length_append, List.length_cons, List.length_nil, List.length_take, List.length_drop]; omega)))
            (first | refine brP.mk (fun h3 => ?_) (fun h3 => ?_) | refine gdP.mkt (fun h3 => ?_) (fun h3 => ?_) | refine gdP.mkf (fun h3 => ?_) (fun h3 => ?_) | refine pkP.mk (fun h3 => ?_) (fun h3 => ?_)) <;> (try simp only [Bool.not_true, Bool.not_false, decide_eq_true_eq, decide_eq_false_iff_not, Bool.and_eq_true, Bool.or_eq_true, Bool.not_eq_true', Bool.not_eq_false', Bool.and_eq_false_iff, Bool.or_eq_false_iff, Nat.not_lt, Int.not_lt, Nat.not_le, Int.not_le, Int.ofNat_lt, Int.ofNat_le, Int.ofNat_inj, Bool.xor_false, Bool.false_xor, Bool.true_xor, Bool.xor_true] at h3) <;> (try simp (maxSteps := 2000000) (disch := omega) only [go_sem, seval]) <;> (try repeat ((with_reducible refine And.intro ?_ ?_); focus (first | omega | assumption | exact True.intro | (show anyD _ _ = true; exact rfl) | (simp only [List.length_map, List.length_append, List.length_cons, List.length_nil, List.length_take, List.length_drop]; omega))))
            · have ka := knV_sm ha L[k]
              have kb := knV_sm hb L[k]
              have hol : (opS (opb op) (knV a L[k]) (knV b L[k])).length ≤ 80100 := by
                have h1 := opS_length (opb op) (knV a L[k]) (knV b L[k])
                omega
              have hof := of7_c L[k] (opS (opb op) (knV a L[k]) (knV b L[k])) (opS_nrm ka.1 kb.1) (by omega)
              have hst := fm_step (f := opb op) (a := a) (b := b) h3
              obtain ⟨e, ok, hE⟩ : ∃ e ok, ofS L[k] (opS (opb op) (knV a L[k]) (knV b L[k])) = (e, ok) := ⟨_, _, rfl⟩
              rw [latO_eq hE] at hst
              rw [hE] at hof
              (first | refine callP.mk (refKnown10_c a L[k] ha) rfl ?_ | refine callQ.mk (refKnown10_c a L[k] ha) rfl ?_ | refine callO.rd (refKnown10_c a L[k] ha) rfl ?_ | refine callO.mk (refKnown10_c a L[k] ha) rfl ?_)
              try simp (maxSteps := 2000000) (disch := omega) only [go_sem, seval]
              try repeat ((with_reducible refine And.intro ?_ ?_); focus (first | omega | assumption | exact True.intro | (show anyD _ _ = true; exact rfl) | (simp only [List.length_map, List.length_append, List.length_cons, List.length_nil, List.length_take, List.length_drop]; omega)))
              (first | refine callP.mk (refKnown10_c b L[k] hb) rfl ?_ | refine callQ.mk (refKnown10_c b L[k] hb) rfl ?_ | refine callO.rd (refKnown10_c b L[k] hb) rfl ?_ | refine callO.mk (refKnown10_c b L[k] hb) rfl ?_)
              try simp (maxSteps := 2000000) (disch := omega) only [go_sem, seval]
              try repeat ((with_reducible refine And.intro ?_ ?_); focus (first | omega | assumption | exact True.intro | (show anyD _ _ = true; exact rfl) | (simp only [List.length_map, List.length_append, List.length_cons, List.length_nil, List.length_take, List.length_drop]; omega)))
              (first | refine callP.mk (do_c (knV a L[k]) (knV b L[k]) op ka.1 kb.1 ho (by omega) (by omega)) rfl ?_ | refine callQ.mk (do_c (knV a L[k]) (knV b L[k]) op ka.1 kb.1 ho (by omega) (by omega)) rfl ?_ | refine callO.rd (do_c (knV a L[k]) (knV b L[k]) op ka.1 kb.1 ho (by omega) (by omega)) rfl ?_ | refine callO.mk (do_c (knV a L[k]) (knV b L[k]) op ka.1 kb.1 ho (by omega) (by omega)) rfl ?_)
              try simp (maxSteps := 2000000) (disch := omega) only [go_sem, seval]
              try repeat ((with_reducible refine And.intro ?_ ?_); focus (first | omega | assumption | exact True.intro | (show anyD _ _ = true; exact rfl) | (simp only [List.length_map, List.length_append, List.length_cons, List.length_nil, List.length_take, List.length_drop]; omega)))
              cases ok with
              | true =>
                (first | refine callP.mk (hof) rfl ?_ | refine callQ.mk (hof) rfl ?_ | refine callO.rd (hof) rfl ?_ | refine callO.mk (hof) rfl ?_)
                try simp (maxSteps := 2000000) (disch := omega) only [go_sem, seval]
                try repeat ((with_reducible refine And.intro ?_ ?_); focus (first | omega | assumption | exact True.intro | (show anyD _ _ = true; exact rfl) | (simp only [List.length_map, List.length_append, List.length_cons, List.length_nil, List.length_take, List.length_drop]; omega)))
                refine ⟨k + 1, h3, by omega, ?_, rfl⟩
                rw [hst]
                simp
                rfl
              | false =>
                (first | refine callP.mk (hof) rfl ?_ | refine callQ.mk (hof) rfl ?_ | refine callO.rd (hof) rfl ?_ | refine callO.mk (hof) rfl ?_)
                try simp (maxSteps := 2000000) (disch := omega) only [go_sem, seval]
                try repeat ((with_reducible refine And.intro ?_ ?_); focus (first | omega | assumption | exact True.intro | (show anyD _ _ = true; exact rfl) | (simp only [List.length_map, List.length_append, List.length_cons, List.length_nil, List.length_take, List.length_drop]; omega)))
                refine ⟨k + 1, h3, by omega, ?_, rfl⟩
                rw [hst]
                simp
            · rw [show k = L.length by omega, List.take_length]
theorem SmV.g {v : List En} (h : SmV v) : v.length ≤ 1152921504606846976 ∧ ∀ e ∈ v, e.holes.length ≤ 1152921504606846976 := ⟨by have := h.2.1; omega, fun e he => by have := h.2.2 e he; omega⟩
set_option maxHeartbeats 2000000 in
theorem latSubset_c (a b : List En) (ha : BdV a) (hb : BdV b) : Cn Try.prog 14 [vp a, vp b] (.v (.bool true)) := by
  refine cn_go Try.func14 [] 2 (by kernel_rfl) rfl (by simp [go_sem, seval]) ?_
  conv => arg 4; cbv
  conv => enter [5, 1]; cbv
  try simp (maxSteps := 2000000) (disch := omega) only [go_sem, seval]
  try repeat ((with_reducible refine And.intro ?_ ?_); focus (first | omega | assumption | exact True.intro | (show anyD _ _ = true; exact rfl) | (simp only [List.length_map, List.length_append, List.length_cons, List.length_nil, List.length_take, List.length_drop]; omega)))
  (first | refine callP.mk (right10_c [a, b] (by simp) (all2 ha hb)) rfl ?_ | refine callQ.mk (right10_c [a, b] (by simp) (all2 ha hb)) rfl ?_ | refine callO.rd (right10_c [a, b] (by simp) (all2 ha hb)) rfl ?_ | refine callO.mk (right10_c [a, b] (by simp) (all2 ha hb)) rfl ?_)
  try simp (maxSteps := 2000000) (disch := omega) only [go_sem, seval]
  try repeat ((with_reducible refine And.intro ?_ ?_); focus (first | omega | assumption | exact True.intro | (show anyD _ _ = true; exact rfl) | (simp only [List.length_map, List.length_append, List.length_cons, List.length_nil, List.length_take, List.length_drop]; omega)))
  (first | refine brP.mk (fun h => ?_) (fun h => ?_) | refine gdP.mkt (fun h => ?_) (fun h => ?_) | refine gdP.mkf (fun h => ?_) (fun h => ?_) | refine pkP.mk (fun h => ?_) (fun h => ?_)) <;> (try simp only [Bool.not_true, Bool.not_false, decide_eq_true_eq, decide_eq_false_iff_not, Bool.and_eq_true, Bool.or_eq_true, Bool.not_eq_true', Bool.not_eq_false', Bool.and_eq_false_iff, Bool.or_eq_false_iff, Nat.not_lt, Int.not_lt, Nat.not_le, Int.not_le, Int.ofNat_lt, Int.ofNat_le, Int.ofNat_inj, Bool.xor_false, Bool.false_xor, Bool.true_xor, Bool.xor_true] at h) <;> (try simp (maxSteps := 2000000) (disch := omega) only [go_sem, seval]) <;> (try repeat ((with_reducible refine And.intro ?_ ?_); focus (first | omega | assumption | exact True.intro | (show anyD _ _ = true; exact rfl) | (simp only [List.length_map, List.length_append, List.length_cons, List.length_nil, List.length_take, List.length_drop]; omega))))
  · (first | refine callP.mk (alive10_c) rfl ?_ | refine callQ.mk (alive10_c) rfl ?_ | refine callO.rd (alive10_c) rfl ?_ | refine callO.mk (alive10_c) rfl ?_)
    try simp (maxSteps := 2000000) (disch := omega) only [go_sem, seval]
    try repeat ((with_reducible refine And.intro ?_ ?_); focus (first | omega | assumption | exact True.intro | (show anyD _ _ = true; exact rfl) | (simp only [List.length_map, List.length_append, List.length_cons, List.length_nil, List.length_take, List.length_drop]; omega)))
  · have h : okV a = true ∧ okV b = true := by simpa using h
    have va := okV_get h.1 ha
    have vb := okV_get h.2 hb
    have sa := va.sm (by omega) (by omega)
    have sb := vb.sm (by omega) (by omega)
    have su := (lat_bv (f := fUnion) va vb).sm (by omega) (by omega)
    have sm := (lat_bv (f := fMeet) va vb).sm (by omega) (by omega)
    (first | refine callP.mk (lSubset_c a b sa sb) rfl ?_ | refine callQ.mk (lSubset_c a b sa sb) rfl ?_ | refine callO.rd (lSubset_c a b sa sb) rfl ?_ | refine callO.mk (lSubset_c a b sa sb) rfl ?_)
    try simp (maxSteps := 2000000) (disch := omega) only [go_sem, seval]
    try repeat ((with_reducible refine And.intro ?_ ?_); focus (first | omega | assumption | exact True.intro | (show anyD _ _ = true; exact rfl) | (simp only [List.length_map, List.length_append, List.length_cons, List.length_nil, List.length_take, List.length_drop]; omega)))
    (first | refine callP.mk (alive10_c) rfl ?_ | refine callQ.mk (alive10_c) rfl ?_ | refine callO.rd (alive10_c) rfl ?_ | refine callO.mk (alive10_c) rfl ?_)
    try simp (maxSteps := 2000000) (disch := omega) only [go_sem, seval]
    try repeat ((with_reducible refine And.intro ?_ ?_); focus (first | omega | assumption | exact True.intro | (show anyD _ _ = true; exact rfl) | (simp only [List.length_map, List.length_append, List.length_cons, List.length_nil, List.length_take, List.length_drop]; omega)))
    (first | refine callP.mk (do10_c a b 2 (by omega) sa sb) rfl ?_ | refine callQ.mk (do10_c a b 2 (by omega) sa sb) rfl ?_ | refine callO.rd (do10_c a b 2 (by omega) sa sb) rfl ?_ | refine callO.mk (do10_c a b 2 (by omega) sa sb) rfl ?_)
    try simp (maxSteps := 2000000) (disch := omega) only [go_sem, seval]
    try repeat ((with_reducible refine And.intro ?_ ?_); focus (first | omega | assumption | exact True.intro | (show anyD _ _ = true; exact rfl) | (simp only [List.length_map, List.length_append, List.length_cons, List.length_nil, List.length_take, List.length_drop]; omega)))
    rw [opb2, beq_self_eq_true]
    try simp (maxSteps := 2000000) (disch := omega) only [go_sem, seval]
    try repeat ((with_reducible refine And.intro ?_ ?_); focus (first | omega | assumption | exact True.intro | (show anyD _ _ = true; exact rfl) | (simp only [List.length_map, List.length_append, List.length_cons, List.length_nil, List.length_take, List.length_drop]; omega)))
    (first | refine callP.mk (lMinus_c a b sa sb) rfl ?_ | refine callQ.mk (lMinus_c a b sa sb) rfl ?_ | refine callO.rd (lMinus_c a b sa sb) rfl ?_ | refine callO.mk (lMinus_c a b sa sb) rfl ?_)
    simp (maxSteps := 2000000) (disch := omega) only [go_sem, seval]
    try rw [beq_self_eq_true]
    try simp (maxSteps := 2000000) (disch := omega) only [go_sem, seval]
    try repeat ((with_reducible refine And.intro ?_ ?_); focus (first | omega | assumption | exact True.intro | (show anyD _ _ = true; exact rfl) | (simp only [List.length_map, List.length_append, List.length_cons, List.length_nil, List.length_take, List.length_drop]; omega)))
    (first | refine callP.mk (lUnion_c a b sa sb) rfl ?_ | refine callQ.mk (lUnion_c a b sa sb) rfl ?_ | refine callO.rd (lUnion_c a b sa sb) rfl ?_ | refine callO.mk (lUnion_c a b sa sb) rfl ?_)
    try simp (maxSteps := 2000000) (disch := omega) only [go_sem, seval]
    try repeat ((with_reducible refine And.intro ?_ ?_); focus (first | omega | assumption | exact True.intro | (show anyD _ _ = true; exact rfl) | (simp only [List.length_map, List.length_append, List.length_cons, List.length_nil, List.length_take, List.length_drop]; omega)))
    (first | refine callP.mk (lSubset_c a (lat fUnion a b) sa su) rfl ?_ | refine callQ.mk (lSubset_c a (lat fUnion a b) sa su) rfl ?_ | refine callO.rd (lSubset_c a (lat fUnion a b) sa su) rfl ?_ | refine callO.mk (lSubset_c a (lat fUnion a b) sa su) rfl ?_)
    rw [sub_union va.1 vb.1]
    try simp (maxSteps := 2000000) (disch := omega) only [go_sem, seval]
    try repeat ((with_reducible refine And.intro ?_ ?_); focus (first | omega | assumption | exact True.intro | (show anyD _ _ = true; exact rfl) | (simp only [List.length_map, List.length_append, List.length_cons, List.length_nil, List.length_take, List.length_drop]; omega)))
    (first | refine callP.mk (lMeet_c a b sa sb) rfl ?_ | refine callQ.mk (lMeet_c a b sa sb) rfl ?_ | refine callO.rd (lMeet_c a b sa sb) rfl ?_ | refine callO.mk (lMeet_c a b sa sb) rfl ?_)
    try simp (maxSteps := 2000000) (disch := omega) only [go_sem, seval]
    try repeat ((with_reducible refine And.intro ?_ ?_); focus (first | omega | assumption | exact True.intro | (show anyD _ _ = true; exact rfl) | (simp only [List.length_map, List.length_append, List.length_cons, List.length_nil, List.length_take, List.length_drop]; omega)))
    (first | refine callP.mk (lSubset_c (lat fMeet a b) a sm sa) rfl ?_ | refine callQ.mk (lSubset_c (lat fMeet a b) a sm sa) rfl ?_ | refine callO.rd (lSubset_c (lat fMeet a b) a sm sa) rfl ?_ | refine callO.mk (lSubset_c (lat fMeet a b) a sm sa) rfl ?_)
    rw [meet_sub va.1 vb.1]
    try simp (maxSteps := 2000000) (disch := omega) only [go_sem, seval]
    try repeat ((with_reducible refine And.intro ?_ ?_); focus (first | omega | assumption | exact True.intro | (show anyD _ _ = true; exact rfl) | (simp only [List.length_map, List.length_append, List.length_cons, List.length_nil, List.length_take, List.length_drop]; omega)))
end Go.Proofs.Ytcedofkenfddkaa
