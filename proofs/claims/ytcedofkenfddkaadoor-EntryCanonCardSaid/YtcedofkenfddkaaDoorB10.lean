/- Texts of this claim, bound together: T1 Cdo T2 T3 T4 T5 T6. -/
import Derived.Test.YtcedofkenfddkaaDoorProg
import Derived.Test.YtcedofkenfddkaaDoorRows
import Derived.ChangeSame
import Derived.ChangeVars
import Derived.JoinedOf
import Derived.RowKit
import Derived.RowKitTokens
import Derived.LaidLaws
import Derived.LaidHandle
import Derived.Stop.Joined
import Derived.Test.YtcedofkenfddkaaDoorB9
/- The contracts of the references of the layers 2 to 5. -/
namespace Go.Proofs.YtcedofkenfddkaaDoor
set_option linter.unusedVariables false
set_option linter.unusedSimpArgs false
open Go.RowKit
set_option maxRecDepth 100000
theorem has3_c (s : Iv) (x : Nat) : Cn Tryd.prog 79 [ivp s, .v (.int .u64 x)] (.v (.bool (decide (s.lo ≤ x) && decide (x ≤ s.hi)))) := by
  refine cn_go Tryd.func79 [] 2 (by kernel_rfl) rfl (by simp [go_sem, seval]) ?_
  conv => arg 4; cbv
  conv => enter [5, 1]; cbv
  try simp (maxSteps := 2000000) (disch := omega) only [go_sem, seval]
  try repeat ((with_reducible refine And.intro ?_ ?_); focus (first | omega | assumption | exact True.intro | (show anyD _ _ = true; exact rfl) | (simp only [List.length_map, List.length_append, List.length_cons, List.length_nil, List.length_take, List.length_drop]; omega)))
  (first | refine brP.mk (fun h => ?_) (fun h => ?_) | refine gdP.mkt (fun h => ?_) (fun h => ?_) | refine gdP.mkf (fun h => ?_) (fun h => ?_) | refine pkP.mk (fun h => ?_) (fun h => ?_)) <;> (try simp only [Bool.not_true, Bool.not_false, decide_eq_true_eq, decide_eq_false_iff_not, Bool.and_eq_true, Bool.or_eq_true, Bool.not_eq_true', Bool.not_eq_false', Bool.and_eq_false_iff, Bool.or_eq_false_iff, Nat.not_lt, Int.not_lt, Nat.not_le, Int.not_le, Int.ofNat_lt, Int.ofNat_le, Int.ofNat_inj, Bool.xor_false, Bool.false_xor, Bool.true_xor, Bool.xor_true] at h) <;> (try simp (maxSteps := 2000000) (disch := omega) only [go_sem, seval]) <;> (try repeat ((with_reducible refine And.intro ?_ ?_); focus (first | omega | assumption | exact True.intro | (show anyD _ _ = true; exact rfl) | (simp only [List.length_map, List.length_append, List.length_cons, List.length_nil, List.length_take, List.length_drop]; omega))))
  · simp [h]
  · simp; omega
theorem mem_drop {l : List Iv} {k x : Nat} (h : k < l.length) : mem (l.drop k) x = ((decide (l[k].lo ≤ x) && decide (x ≤ l[k].hi)) || mem (l.drop (k + 1)) x) := by
  rw [List.drop_eq_getElem_cons h]; rfl
theorem has4_c (l : List Iv) (x : Nat) (hl : l.length ≤ 1152921504606846976) : Cn Tryd.prog 23 [rg l, .v (.int .u64 x)] (.v (.bool (mem l x))) := by
  refine cn_go Tryd.func23 [] 2 (by kernel_rfl) rfl (by simp [go_sem, seval]) ?_
  conv => arg 4; cbv
  conv => enter [5, 1]; cbv
  try simp (maxSteps := 2000000) (disch := omega) only [go_sem, seval]
  try repeat ((with_reducible refine And.intro ?_ ?_); focus (first | omega | assumption | exact True.intro | (show anyD _ _ = true; exact rfl) | (simp only [List.length_map, List.length_append, List.length_cons, List.length_nil, List.length_take, List.length_drop]; omega)))
  refine pLoop.go (fun k => k ≤ l.length ∧ mem l x = mem (l.drop k) x) (fun k => [(5, .v (.int .i64 (k : Nat)))]) (fun _ => []) (fun k => l.length - k) 0 [5] ?_ ?_ ?_
  · exact ⟨Nat.zero_le _, rfl⟩
  · try simp (maxSteps := 2000000) (disch := omega) only [go_sem, seval]
    try repeat ((with_reducible refine And.intro ?_ ?_); focus (first | omega | assumption | exact True.intro | (show anyD _ _ = true; exact rfl) | (simp only [List.length_map, List.length_append, List.length_cons, List.length_nil, List.length_take, List.length_drop]; omega)))
  · rintro k ⟨hk, hm⟩
    try simp (maxSteps := 2000000) (disch := omega) only [go_sem, seval]
    try repeat ((with_reducible refine And.intro ?_ ?_); focus (first | omega | assumption | exact True.intro | (show anyD _ _ = true; exact rfl) | (simp only [List.length_map, List.length_append, List.length_cons, List.length_nil, List.length_take, List.length_drop]; omega)))
    (first | refine brP.mk (fun h => ?_) (fun h => ?_) | refine gdP.mkt (fun h => ?_) (fun h => ?_) | refine gdP.mkf (fun h => ?_) (fun h => ?_) | refine pkP.mk (fun h => ?_) (fun h => ?_)) <;> (try simp only [Bool.not_true, Bool.not_false, decide_eq_true_eq, decide_eq_false_iff_not, Bool.and_eq_true, Bool.or_eq_true, Bool.not_eq_true', Bool.not_eq_false', Bool.and_eq_false_iff, Bool.or_eq_false_iff, Nat.not_lt, Int.not_lt, Nat.not_le, Int.not_le, Int.ofNat_lt, Int.ofNat_le, Int.ofNat_inj, Bool.xor_false, Bool.false_xor, Bool.true_xor, Bool.xor_true] at h) <;> (try simp (maxSteps := 2000000) (disch := omega) only [go_sem, seval]) <;> (try repeat ((with_reducible refine And.intro ?_ ?_); focus (first | omega | assumption | exact True.intro | (show anyD _ _ = true; exact rfl) | (simp only [List.length_map, List.length_append, List.length_cons, List.length_nil, List.length_take, List.length_drop]; omega))))
    · refine callP.mk (has3_c l[k] x) rfl ?_
      try simp (maxSteps := 2000000) (disch := omega) only [go_sem, seval]
      try repeat ((with_reducible refine And.intro ?_ ?_); focus (first | omega | assumption | exact True.intro | (show anyD _ _ = true; exact rfl) | (simp only [List.length_map, List.length_append, List.length_cons, List.length_nil, List.length_take, List.length_drop]; omega)))
      have hd := mem_drop (x := x) h
      (first | refine brP.mk (fun e => ?_) (fun e => ?_) | refine gdP.mkt (fun e => ?_) (fun e => ?_) | refine gdP.mkf (fun e => ?_) (fun e => ?_) | refine pkP.mk (fun e => ?_) (fun e => ?_)) <;> (try simp only [Bool.not_true, Bool.not_false, decide_eq_true_eq, decide_eq_false_iff_not, Bool.and_eq_true, Bool.or_eq_true, Bool.not_eq_true', Bool.not_eq_false', Bool.and_eq_false_iff, Bool.or_eq_false_iff, Nat.not_lt, Int.not_lt, Nat.not_le, Int.not_le, Int.ofNat_lt, Int.ofNat_le, Int.ofNat_inj, Bool.xor_false, Bool.false_xor, Bool.true_xor, Bool.xor_true] at e) <;> (try simp (maxSteps := 2000000) (disch := omega) only [go_sem, seval]) <;> (try repeat ((with_reducible refine And.intro ?_ ?_); focus (first | omega | assumption | exact True.intro | (show anyD _ _ = true; exact rfl) | (simp only [List.length_map, List.length_append, List.length_cons, List.length_nil, List.length_take, List.length_drop]; omega))))
      · rw [hm, hd, ← Bool.decide_and]; simp [e]
      · refine ⟨k + 1, ⟨h, ?_⟩, by omega, rfl⟩
        rw [hm, hd, ← Bool.decide_and]; simp [e]; omega
    · rw [hm, List.drop_of_length_le (by omega)]; rfl
theorem max_c : Cn Tryd.prog 134 [] (.v (.int .u64 18446744073709551615)) := by
  refine cn_go Tryd.func134 [] 0 (by kernel_rfl) rfl (by simp [go_sem, seval]) ?_
  conv => arg 4; cbv
  conv => enter [5, 1]; cbv
  try simp (maxSteps := 2000000) (disch := omega) only [go_sem, seval]
  try repeat ((with_reducible refine And.intro ?_ ?_); focus (first | omega | assumption | exact True.intro | (show anyD _ _ = true; exact rfl) | (simp only [List.length_map, List.length_append, List.length_cons, List.length_nil, List.length_take, List.length_drop]; omega)))
theorem rel3_c (s t : Iv) (h1 : s.lo < M64) (h2 : t.lo < M64) : Cn Tryd.prog 109 [ivp s, ivp t] (.v (.int .i64 (relate s t : Nat))) := by
  refine cn_go Tryd.func109 [] 2 (by kernel_rfl) rfl (by simp [go_sem, seval]) ?_
  conv => arg 4; cbv
  conv => enter [5, 1]; cbv
  try simp (maxSteps := 2000000) (disch := omega) only [go_sem, seval]
  try repeat ((with_reducible refine And.intro ?_ ?_); focus (first | omega | assumption | exact True.intro | (show anyD _ _ = true; exact rfl) | (simp only [List.length_map, List.length_append, List.length_cons, List.length_nil, List.length_take, List.length_drop]; omega)))
  have hM := M64_val
  unfold relate
  (first | refine brP.mk (fun h => ?_) (fun h => ?_) | refine gdP.mkt (fun h => ?_) (fun h => ?_) | refine gdP.mkf (fun h => ?_) (fun h => ?_) | refine pkP.mk (fun h => ?_) (fun h => ?_)) <;> (try simp only [Bool.not_true, Bool.not_false, decide_eq_true_eq, decide_eq_false_iff_not, Bool.and_eq_true, Bool.or_eq_true, Bool.not_eq_true', Bool.not_eq_false', Bool.and_eq_false_iff, Bool.or_eq_false_iff, Nat.not_lt, Int.not_lt, Nat.not_le, Int.not_le, Int.ofNat_lt, Int.ofNat_le, Int.ofNat_inj, Bool.xor_false, Bool.false_xor, Bool.true_xor, Bool.xor_true] at h) <;> (try simp (maxSteps := 2000000) (disch := omega) only [go_sem, seval]) <;> (try repeat ((with_reducible refine And.intro ?_ ?_); focus (first | omega | assumption | exact True.intro | (show anyD _ _ = true; exact rfl) | (simp only [List.length_map, List.length_append, List.length_cons, List.length_nil, List.length_take, List.length_drop]; omega))))
  · (first | refine brP.mk (fun h' => ?_) (fun h' => ?_) | refine gdP.mkt (fun h' => ?_) (fun h' => ?_) | refine gdP.mkf (fun h' => ?_) (fun h' => ?_) | refine pkP.mk (fun h' => ?_) (fun h' => ?_)) <;> (try simp only [Bool.not_true, Bool.not_false, decide_eq_true_eq, decide_eq_false_iff_not, Bool.and_eq_true, Bool.or_eq_true, Bool.not_eq_true', Bool.not_eq_false', Bool.and_eq_false_iff, Bool.or_eq_false_iff, Nat.not_lt, Int.not_lt, Nat.not_le, Int.not_le, Int.ofNat_lt, Int.ofNat_le, Int.ofNat_inj, Bool.xor_false, Bool.false_xor, Bool.true_xor, Bool.xor_true] at h') <;> (try simp (maxSteps := 2000000) (disch := omega) only [go_sem, seval]) <;> (try repeat ((with_reducible refine And.intro ?_ ?_); focus (first | omega | assumption | exact True.intro | (show anyD _ _ = true; exact rfl) | (simp only [List.length_map, List.length_append, List.length_cons, List.length_nil, List.length_take, List.length_drop]; omega))))
    · rw [if_pos h, if_pos (by omega)]; rfl
    · rw [if_pos h, if_neg (by omega)]; rfl
  · (first | refine brP.mk (fun h' => ?_) (fun h' => ?_) | refine gdP.mkt (fun h' => ?_) (fun h' => ?_) | refine gdP.mkf (fun h' => ?_) (fun h' => ?_) | refine pkP.mk (fun h' => ?_) (fun h' => ?_)) <;> (try simp only [Bool.not_true, Bool.not_false, decide_eq_true_eq, decide_eq_false_iff_not, Bool.and_eq_true, Bool.or_eq_true, Bool.not_eq_true', Bool.not_eq_false', Bool.and_eq_false_iff, Bool.or_eq_false_iff, Nat.not_lt, Int.not_lt, Nat.not_le, Int.not_le, Int.ofNat_lt, Int.ofNat_le, Int.ofNat_inj, Bool.xor_false, Bool.false_xor, Bool.true_xor, Bool.xor_true] at h') <;> (try simp (maxSteps := 2000000) (disch := omega) only [go_sem, seval]) <;> (try repeat ((with_reducible refine And.intro ?_ ?_); focus (first | omega | assumption | exact True.intro | (show anyD _ _ = true; exact rfl) | (simp only [List.length_map, List.length_append, List.length_cons, List.length_nil, List.length_take, List.length_drop]; omega))))
    · (first | refine brP.mk (fun h3 => ?_) (fun h3 => ?_) | refine gdP.mkt (fun h3 => ?_) (fun h3 => ?_) | refine gdP.mkf (fun h3 => ?_) (fun h3 => ?_) | refine pkP.mk (fun h3 => ?_) (fun h3 => ?_)) <;> (try simp only [Bool.not_true, Bool.not_false, decide_eq_true_eq, decide_eq_false_iff_not, Bool.and_eq_true, Bool.or_eq_true, Bool.not_eq_true', Bool.not_eq_false', Bool.and_eq_false_iff, Bool.or_eq_false_iff, Nat.not_lt, Int.not_lt, Nat.not_le, Int.not_le, Int.ofNat_lt, Int.ofNat_le, Int.ofNat_inj, Bool.xor_false, Bool.false_xor, Bool.true_xor, Bool.xor_true] at h3) <;> (try simp (maxSteps := 2000000) (disch := omega) only [go_sem, seval]) <;> (try repeat ((with_reducible refine And.intro ?_ ?_); focus (first | omega | assumption | exact True.intro | (show anyD _ _ = true; exact rfl) | (simp only [List.length_map, List.length_append, List.length_cons, List.length_nil, List.length_take, List.length_drop]; omega))))
      · rw [if_neg (by omega), if_pos h', if_pos (by omega)]; rfl
      · rw [if_neg (by omega), if_pos h', if_neg (by omega)]; rfl
    · rw [if_neg (by omega), if_neg (by omega)]; rfl
theorem take_c (a b : Bool) (op : Nat) (ho : op < 3) : Cn Tryd.prog 126 [.v (.bool a), .v (.bool b), .v (.int .i64 op)] (.v (.bool (opb op a b))) := by
  refine cn_go Tryd.func126 [] 3 (by kernel_rfl) rfl (by simp [go_sem, seval]) ?_
  conv => arg 4; cbv
  conv => enter [5, 1]; cbv
  obtain rfl | rfl | rfl : op = 0 ∨ op = 1 ∨ op = 2 := by omega
  all_goals (cases a <;> cases b <;> simp (maxSteps := 2000000) (disch := omega) only [go_sem, seval] <;> rfl)
theorem piece_c (l : List Nat) (k : Nat) (hk : k < l.length) (hl : l.length ≤ 1152921504606846976) (hs : ∀ h : k + 1 < l.length, 1 ≤ l[k + 1] ∧ l[k + 1] < M64) : Cn Tryd.prog 128 [.sl (l.map fun x => [.v (.int .u64 (x : Nat))]) .sh, .v (.int .i64 k)] (ivp ⟨l[k], if h : k + 1 < l.length then l[k+1] - 1 else M64 - 1⟩) := by
  have hM := M64_val
  refine cn_go Tryd.func128 [] 2 (by kernel_rfl) rfl (by simp [go_sem, seval]) ?_
  conv => arg 4; cbv
  conv => enter [5, 1]; cbv
  try simp (maxSteps := 2000000) (disch := omega) only [go_sem, seval]
  try repeat ((with_reducible refine And.intro ?_ ?_); focus (first | omega | assumption | exact True.intro | (show anyD _ _ = true; exact rfl) | (simp only [List.length_map, List.length_append, List.length_cons, List.length_nil, List.length_take, List.length_drop]; omega)))
  (first | refine brP.mk (fun h => ?_) (fun h => ?_) | refine gdP.mkt (fun h => ?_) (fun h => ?_) | refine gdP.mkf (fun h => ?_) (fun h => ?_) | refine pkP.mk (fun h => ?_) (fun h => ?_)) <;> (try simp only [Bool.not_true, Bool.not_false, decide_eq_true_eq, decide_eq_false_iff_not, Bool.and_eq_true, Bool.or_eq_true, Bool.not_eq_true', Bool.not_eq_false', Bool.and_eq_false_iff, Bool.or_eq_false_iff, Nat.not_lt, Int.not_lt, Nat.not_le, Int.not_le, Int.ofNat_lt, Int.ofNat_le, Int.ofNat_inj, Bool.xor_false, Bool.false_xor, Bool.true_xor, Bool.xor_true] at h) <;> (try simp (maxSteps := 2000000) (disch := omega) only [go_sem, seval]) <;> (try repeat ((with_reducible refine And.intro ?_ ?_); focus (first | omega | assumption | exact True.intro | (show anyD _ _ = true; exact rfl) | (simp only [List.length_map, List.length_append, List.length_cons, List.length_nil, List.length_take, List.length_drop]; omega))))
  · obtain ⟨h1, h2⟩ := hs h
    rw [dif_pos h]
    try simp (maxSteps := 2000000) (disch := omega) only [go_sem, seval]
    try repeat ((with_reducible refine And.intro ?_ ?_); focus (first | omega | assumption | exact True.intro | (show anyD _ _ = true; exact rfl) | (simp only [List.length_map, List.length_append, List.length_cons, List.length_nil, List.length_take, List.length_drop]; omega)))
  · refine callQ.mk max_c rfl ?_
    rw [dif_neg (by omega)]
    try simp (maxSteps := 2000000) (disch := omega) only [go_sem, seval]
    try repeat ((with_reducible refine And.intro ?_ ?_); focus (first | omega | assumption | exact True.intro | (show anyD _ _ = true; exact rfl) | (simp only [List.length_map, List.length_append, List.length_cons, List.length_nil, List.length_take, List.length_drop]; omega)))
    rfl
theorem put_last {l : List Iv} (h : 0 < l.length) (s : Iv) : put l s = if l[l.length - 1].hi + 1 = s.lo then l.take (l.length - 1) ++ [⟨l[l.length - 1].lo, s.hi⟩] else l ++ [s] := by
  unfold put
  rw [List.getLast?_eq_getElem?, List.getElem?_eq_getElem (by omega), List.dropLast_eq_take]
theorem put_nil {l : List Iv} (h : l.length ≤ 0) (s : Iv) : put l s = l ++ [s] := by
  have : l = [] := List.eq_nil_of_length_eq_zero (by omega)
  subst this; rfl
theorem put_o (l : List Iv) (s : Iv) (hs : s.lo < M64) (hb : ∀ t ∈ l, t.lo < M64 ∧ t.hi < s.lo) (hl : l.length < 1099511627776) : OCn Tryd.prog 127 (l.map ivc) 2 [ivp s] ((put l s).map ivc) := by
  refine ocn_go Tryd.func127 [] 2 4 (by kernel_rfl) (by kernel_rfl) rfl (by simp [go_sem, seval]) ?_
  conv => arg 4; cbv
  try simp (maxSteps := 2000000) (disch := omega) only [go_sem, seval]
  try repeat ((with_reducible refine And.intro ?_ ?_); focus (first | omega | assumption | exact True.intro | (show anyD _ _ = true; exact rfl) | (simp only [List.length_map, List.length_append, List.length_cons, List.length_nil, List.length_take, List.length_drop]; omega)))
  (first | refine brP.mk (fun h0 => ?_) (fun h0 => ?_) | refine gdP.mkt (fun h0 => ?_) (fun h0 => ?_) | refine gdP.mkf (fun h0 => ?_) (fun h0 => ?_) | refine pkP.mk (fun h0 => ?_) (fun h0 => ?_)) <;> (try simp only [Bool.not_true, Bool.not_false, decide_eq_true_eq, decide_eq_false_iff_not, Bool.and_eq_true, Bool.or_eq_true, Bool.not_eq_true', Bool.not_eq_false', Bool.and_eq_false_iff, Bool.or_eq_false_iff, Nat.not_lt, Int.not_lt, Nat.not_le, Int.not_le, Int.ofNat_lt, Int.ofNat_le, Int.ofNat_inj, Bool.xor_false, Bool.false_xor, Bool.true_xor, Bool.xor_true] at h0) <;> (try simp (maxSteps := 2000000) (disch := omega) only [go_sem, seval]) <;> (try repeat ((with_reducible refine And.intro ?_ ?_); focus (first | omega | assumption | exact True.intro | (show anyD _ _ = true; exact rfl) | (simp only [List.length_map, List.length_append, List.length_cons, List.length_nil, List.length_take, List.length_drop]; omega))))
  · refine callQ.mk (rel3_c l[l.length - 1] s (hb _ (List.getElem_mem _)).1 hs) rfl ?_
    have h1 := (hb _ (List.getElem_mem (show l.length - 1 < l.length by omega))).2
    try simp (maxSteps := 2000000) (disch := omega) only [go_sem, seval]
    try repeat ((with_reducible refine And.intro ?_ ?_); focus (first | omega | assumption | exact True.intro | (show anyD _ _ = true; exact rfl) | (simp only [List.length_map, List.length_append, List.length_cons, List.length_nil, List.length_take, List.length_drop]; omega)))
    rw [put_last h0]
    unfold relate
    rw [if_pos h1]
    (first | refine brP.mk (fun h => ?_) (fun h => ?_) | refine gdP.mkt (fun h => ?_) (fun h => ?_) | refine gdP.mkf (fun h => ?_) (fun h => ?_) | refine pkP.mk (fun h => ?_) (fun h => ?_)) <;> (try simp only [Bool.not_true, Bool.not_false, decide_eq_true_eq, decide_eq_false_iff_not, Bool.and_eq_true, Bool.or_eq_true, Bool.not_eq_true', Bool.not_eq_false', Bool.and_eq_false_iff, Bool.or_eq_false_iff, Nat.not_lt, Int.not_lt, Nat.not_le, Int.not_le, Int.ofNat_lt, Int.ofNat_le, Int.ofNat_inj, Bool.xor_false, Bool.false_xor, Bool.true_xor, Bool.xor_true] at h) <;> (try simp (maxSteps := 2000000) (disch := omega) only [go_sem, seval]) <;> (try repeat ((with_reducible refine And.intro ?_ ?_); focus (first | omega | assumption | exact True.intro | (show anyD _ _ = true; exact rfl) | (simp only [List.length_map, List.length_append, List.length_cons, List.length_nil, List.length_take, List.length_drop]; omega))))
    · rw [if_pos (by split at h <;> first | assumption | cases h)]
      simp [ivc]
    · rw [if_neg (by split at h <;> first | assumption | exact absurd rfl h)]
      simp [ivc]
  · rw [put_nil h0]
    simp [ivc]
end Go.Proofs.YtcedofkenfddkaaDoor
/- What the tied rows have in common: the library's variable, as the row lists it, is the one that the walks read. No condition. -/
namespace Go.Proofs.YtcedofkenfddkaaDoor
set_option linter.unusedVariables false
set_option linter.unusedSimpArgs false
open Go.ChangeShapes Go.WideShapes Go.RowKit
set_option maxRecDepth 100000
theorem own : ownKnob Tryd.prog.godebug = none := by kernel_rfl
theorem laidOut : laidOutB Tryd.prog = true := by kernel_rfl
theorem et : Tryd.prog.globalNamed "errors.errorType" = some 0 := by kernel_rfl
theorem rt : (Tryd.prog.cutTypes.find? (·.1 == "internal/reflectlite.rtype")).map (·.2) = some 144 := by kernel_rfl
theorem oneRow : ((List.range 188).filter fun t => Tryd.prog.rowNamed t [101, 114, 114, 111, 114]) = [29] := by kernel_rfl
theorem tsize : Tryd.prog.types.size = 188 := by kernel_rfl
/-- The rows' list of variables. -/
def laidL {H : Type} : List (String × DataW H) := [("errors.errorType", Rows.laid_errors_errorType)]
theorem handle_of_laid {W : World} (h : laidMetH Tryd.prog laidL W) : W.cell? ⟨0, 0, none⟩ = some (.iface 144 (.agg #[.pointer (some ⟨1, 29, none⟩)])) := by
  have h' : laidMet Tryd.prog [] W ∧ handlesMet Tryd.prog laidL W := h
  obtain ⟨name, u, ty, e1, e2, e3, e4, e5⟩ := h'.2 _ (List.mem_singleton.2 rfl)
  have en : name = [101, 114, 114, 111, 114] := (Option.some.inj e1).symm
  subst en
  obtain rfl := Option.some.inj (rt.symm.trans e2)
  have hm : ty ∈ (List.range 188).filter fun t => Tryd.prog.rowNamed t [101, 114, 114, 111, 114] := List.mem_filter.2 ⟨List.mem_range.2 (by rw [← tsize]; exact e3), e4⟩
  rw [oneRow] at hm
  obtain rfl := List.mem_singleton.1 hm
  have hh : typeHandle Tryd.prog 29 = .pointer (some ⟨1, 29, none⟩) := by kernel_rfl
  rw [hh] at e5
  simpa using World.var?_cell et e5 0
theorem gl_of_laid {W : World} (h : laidMetH Tryd.prog laidL W) : GL (Lies W) W := fun x hx => by
  have hc := handle_of_laid h
  obtain rfl : _ = x := Option.some.inj hx
  exact ⟨World.block_lt_of_cell? W ⟨0, 0, none⟩ hc, hc⟩
/-- A world that meets the condition: the settled one, the variable's cell laid. -/
noncomputable def laidWorld (os : Os) : World :=
  let w0 := World.holding Tryd.prog os ⟨#[], #[], []⟩
  { w0 with heap := w0.heap.modify 0 fun
      | .cells _ t frozen => .cells #[.iface 144 (.agg #[.pointer (some ⟨1, 29, none⟩)])] t frozen
      | o => o }
theorem laidWorld_met (os : Os) (args : Array Value) : laidMetH Tryd.prog laidL ((laidWorld os).forCall (fun _ _ => 0) ⟨#[], args, []⟩).memory :=
  laidMetH_of_parts (laidMet_nil _ _) (by kernel_rfl)
end Go.Proofs.YtcedofkenfddkaaDoor
/- The contracts of kenningref04.Same, Starts and of kenningref05. -/
namespace Go.Proofs.YtcedofkenfddkaaDoor
set_option linter.unusedVariables false
set_option linter.unusedSimpArgs false
open Go.RowKit
set_option maxRecDepth 100000
theorem same4_c (a b : List Iv) (hl : a.length ≤ 1152921504606846976) : Cn Tryd.prog 29 [rg a, rg b] (.v (.bool (decide (a = b)))) := by
  refine cn_go Tryd.func29 [] 2 (by kernel_rfl) rfl (by simp [go_sem, seval]) ?_
  conv => arg 4; cbv
  conv => enter [5, 1]; cbv
  try simp (maxSteps := 2000000) (disch := omega) only [go_sem, seval]
  try repeat ((with_reducible refine And.intro ?_ ?_); focus (first | omega | assumption | exact True.intro | (show anyD _ _ = true; exact rfl) | (simp only [List.length_map, List.length_append, List.length_cons, List.length_nil, List.length_take, List.length_drop]; omega)))
  (first | refine brP.mk (fun h0 => ?_) (fun h0 => ?_) | refine gdP.mkt (fun h0 => ?_) (fun h0 => ?_) | refine gdP.mkf (fun h0 => ?_) (fun h0 => ?_) | refine pkP.mk (fun h0 => ?_) (fun h0 => ?_)) <;> (try simp only [Bool.not_true, Bool.not_false, decide_eq_true_eq, decide_eq_false_iff_not, Bool.and_eq_true, Bool.or_eq_true, Bool.not_eq_true', Bool.not_eq_false', Bool.and_eq_false_iff, Bool.or_eq_false_iff, Nat.not_lt, Int.not_lt, Nat.not_le, Int.not_le, Int.ofNat_lt, Int.ofNat_le, Int.ofNat_inj, Bool.xor_false, Bool.false_xor, Bool.true_xor, Bool.xor_true] at h0) <;> (try simp (maxSteps := 2000000) (disch := omega) only [go_sem, seval]) <;> (try repeat ((with_reducible refine And.intro ?_ ?_); focus (first | omega | assumption | exact True.intro | (show anyD _ _ = true; exact rfl) | (simp only [List.length_map, List.length_append, List.length_cons, List.length_nil, List.length_take, List.length_drop]; omega))))
  · symm
    rw [decide_eq_false_iff_not]
    rintro rfl
    exact h0 rfl
  · have h0' : a.length = b.length := by simpa using h0
    clear h0
    refine pLoop.go (fun k => k ≤ a.length ∧ (a = b ↔ a.drop k = b.drop k)) (fun k => [(5, .v (.int .i64 (k : Nat)))]) (fun _ => []) (fun k => a.length - k) 0 [5] ?_ ?_ ?_
    · exact ⟨Nat.zero_le _, Iff.rfl⟩
    · try simp (maxSteps := 2000000) (disch := omega) only [go_sem, seval]
      try repeat ((with_reducible refine And.intro ?_ ?_); focus (first | omega | assumption | exact True.intro | (show anyD _ _ = true; exact rfl) | (simp only [List.length_map, List.length_append, List.length_cons, List.length_nil, List.length_take, List.length_drop]; omega)))
    · rintro k ⟨hk, hm⟩
      try simp (maxSteps := 2000000) (disch := omega) only [go_sem, seval]
      try repeat ((with_reducible refine And.intro ?_ ?_); focus (first | omega | assumption | exact True.intro | (show anyD _ _ = true; exact rfl) | (simp only [List.length_map, List.length_append, List.length_cons, List.length_nil, List.length_take, List.length_drop]; omega)))
      (first | refine brP.mk (fun h => ?_) (fun h => ?_) | refine gdP.mkt (fun h => ?_) (fun h => ?_) | refine gdP.mkf (fun h => ?_) (fun h => ?_) | refine pkP.mk (fun h => ?_) (fun h => ?_)) <;> (try simp only [Bool.not_true, Bool.not_false, decide_eq_true_eq, decide_eq_false_iff_not, Bool.and_eq_true, Bool.or_eq_true, Bool.not_eq_true', Bool.not_eq_false', Bool.and_eq_false_iff, Bool.or_eq_false_iff, Nat.not_lt, Int.not_lt, Nat.not_le, Int.not_le, Int.ofNat_lt, Int.ofNat_le, Int.ofNat_inj, Bool.xor_false, Bool.false_xor, Bool.true_xor, Bool.xor_true] at h) <;> (try simp (maxSteps := 2000000) (disch := omega) only [go_sem, seval]) <;> (try repeat ((with_reducible refine And.intro ?_ ?_); focus (first | omega | assumption | exact True.intro | (show anyD _ _ = true; exact rfl) | (simp only [List.length_map, List.length_append, List.length_cons, List.length_nil, List.length_take, List.length_drop]; omega))))
      · have hk' : k < b.length := by omega
        rw [List.drop_eq_getElem_cons h, List.drop_eq_getElem_cons hk', List.cons.injEq] at hm
        try simp (maxSteps := 2000000) (disch := omega) only [go_sem, seval]
        try repeat ((with_reducible refine And.intro ?_ ?_); focus (first | omega | assumption | exact True.intro | (show anyD _ _ = true; exact rfl) | (simp only [List.length_map, List.length_append, List.length_cons, List.length_nil, List.length_take, List.length_drop]; omega)))
        (first | refine brP.mk (fun e => ?_) (fun e => ?_) | refine gdP.mkt (fun e => ?_) (fun e => ?_) | refine gdP.mkf (fun e => ?_) (fun e => ?_) | refine pkP.mk (fun e => ?_) (fun e => ?_)) <;> (try simp only [Bool.not_true, Bool.not_false, decide_eq_true_eq, decide_eq_false_iff_not, Bool.and_eq_true, Bool.or_eq_true, Bool.not_eq_true', Bool.not_eq_false', Bool.and_eq_false_iff, Bool.or_eq_false_iff, Nat.not_lt, Int.not_lt, Nat.not_le, Int.not_le, Int.ofNat_lt, Int.ofNat_le, Int.ofNat_inj, Bool.xor_false, Bool.false_xor, Bool.true_xor, Bool.xor_true] at e) <;> (try simp (maxSteps := 2000000) (disch := omega) only [go_sem, seval]) <;> (try repeat ((with_reducible refine And.intro ?_ ?_); focus (first | omega | assumption | exact True.intro | (show anyD _ _ = true; exact rfl) | (simp only [List.length_map, List.length_append, List.length_cons, List.length_nil, List.length_take, List.length_drop]; omega))))
        · symm
          rw [decide_eq_false_iff_not]
          intro he
          have := (hm.1 he).1
          rcases (by simpa using e : ¬ a[k].lo = b[k].lo ∨ ¬ a[k].hi = b[k].hi) with e | e
          · exact e (congrArg Iv.lo this)
          · exact e (congrArg Iv.hi this)
        · refine ⟨k + 1, ⟨h, ?_⟩, by omega, rfl⟩
          rw [hm]
          have e : a[k].lo = b[k].lo ∧ a[k].hi = b[k].hi := by simpa using e
          exact ⟨fun h => h.2, fun h => ⟨Iv.ext' e.1 e.2, h⟩⟩
      · rw [eq_comm, decide_eq_true_eq, hm, List.drop_of_length_le h, List.drop_of_length_le (by omega)]
set_option maxHeartbeats 4000000 in
theorem starts_c (ls : List (List Iv)) (h1 : ls.length ≤ 1048576) (h2 : ∀ l ∈ ls, l.length ≤ 1048576) (h3 : (allS ls).length ≤ 1048576) (hv : ∀ l ∈ ls, ∀ s ∈ l, s.lo < M64 ∧ s.hi < M64) : Cn Tryd.prog 125 [rgs ls] (.sl ((starts ls).map natc) .sh) := by
  have hM := M64_val
  refine cn_go Tryd.func125 [] 1 (by kernel_rfl) rfl (by simp [go_sem, seval]) ?_
  conv => arg 4; cbv
  conv => enter [5, 1]; cbv
  try simp (maxSteps := 2000000) (disch := omega) only [go_sem, seval]
  try repeat ((with_reducible refine And.intro ?_ ?_); focus (first | omega | assumption | exact True.intro | (show anyD _ _ = true; exact rfl) | (simp only [List.length_map, List.length_append, List.length_cons, List.length_nil, List.length_take, List.length_drop]; omega)))
  refine pLoop.go (fun i => i ≤ ls.length) (fun i => [(3, .sl ((preS ls i 0).map natc) (.r 9 1)), (4, .v (.int .i64 (i : Nat)))]) (fun _ => []) (fun i => ls.length - i) 0 [3, 4, 9] ?_ ?_ ?_
  · exact Nat.zero_le _
  · rw [preS_00]
    try simp (maxSteps := 2000000) (disch := omega) only [go_sem, seval]
    try repeat ((with_reducible refine And.intro ?_ ?_); focus (first | omega | assumption | exact True.intro | (show anyD _ _ = true; exact rfl) | (simp only [List.length_map, List.length_append, List.length_cons, List.length_nil, List.length_take, List.length_drop]; omega)))
  · rintro i hi
    try simp (maxSteps := 2000000) (disch := omega) only [go_sem, seval]
    try repeat ((with_reducible refine And.intro ?_ ?_); focus (first | omega | assumption | exact True.intro | (show anyD _ _ = true; exact rfl) | (simp only [List.length_map, List.length_append, List.length_cons, List.length_nil, List.length_take, List.length_drop]; omega)))
    (first | refine brP.mk (fun h => ?_) (fun h => ?_) | refine gdP.mkt (fun h => ?_) (fun h => ?_) | refine gdP.mkf (fun h => ?_) (fun h => ?_) | refine pkP.mk (fun h => ?_) (fun h => ?_)) <;> (try simp only [Bool.not_true, Bool.not_false, decide_eq_true_eq, decide_eq_false_iff_not, Bool.and_eq_true, Bool.or_eq_true, Bool.not_eq_true', Bool.not_eq_false', Bool.and_eq_false_iff, Bool.or_eq_false_iff, Nat.not_lt, Int.not_lt, Nat.not_le, Int.not_le, Int.ofNat_lt, Int.ofNat_le, Int.ofNat_inj, Bool.xor_false, Bool.false_xor, Bool.true_xor, Bool.xor_true] at h) <;> (try simp (maxSteps := 2000000) (disch := omega) only [go_sem, seval]) <;> (try repeat ((with_reducible refine And.intro ?_ ?_); focus (first | omega | assumption | exact True.intro | (show anyD _ _ = true; exact rfl) | (simp only [List.length_map, List.length_append, List.length_cons, List.length_nil, List.length_take, List.length_drop]; omega))))
    · have hj := h2 _ (List.getElem_mem h)
      refine pLoop.go (fun j => j ≤ ls[i].length) (fun j => [(3, .sl ((preS ls i j).map natc) (.r 9 1)), (5, .v (.int .i64 (j : Nat)))]) (fun _ => []) (fun j => ls[i].length - j) 0 [3, 5, 9] ?_ ?_ ?_
      · exact Nat.zero_le _
      · try simp (maxSteps := 2000000) (disch := omega) only [go_sem, seval]
        try repeat ((with_reducible refine And.intro ?_ ?_); focus (first | omega | assumption | exact True.intro | (show anyD _ _ = true; exact rfl) | (simp only [List.length_map, List.length_append, List.length_cons, List.length_nil, List.length_take, List.length_drop]; omega)))
      · rintro j hj'
        have hlen := preS_len j h
        try simp (maxSteps := 2000000) (disch := omega) only [go_sem, seval]
        try repeat ((with_reducible refine And.intro ?_ ?_); focus (first | omega | assumption | exact True.intro | (show anyD _ _ = true; exact rfl) | (simp only [List.length_map, List.length_append, List.length_cons, List.length_nil, List.length_take, List.length_drop]; omega)))
        (first | refine brP.mk (fun hc => ?_) (fun hc => ?_) | refine gdP.mkt (fun hc => ?_) (fun hc => ?_) | refine gdP.mkf (fun hc => ?_) (fun hc => ?_) | refine pkP.mk (fun hc => ?_) (fun hc => ?_)) <;> (try simp only [Bool.not_true, Bool.not_false, decide_eq_true_eq, decide_eq_false_iff_not, Bool.and_eq_true, Bool.or_eq_true, Bool.not_eq_true', Bool.not_eq_false', Bool.and_eq_false_iff, Bool.or_eq_false_iff, Nat.not_lt, Int.not_lt, Nat.not_le, Int.not_le, Int.ofNat_lt, Int.ofNat_le, Int.ofNat_inj, Bool.xor_false, Bool.false_xor, Bool.true_xor, Bool.xor_true] at hc) <;> (try simp (maxSteps := 2000000) (disch := omega) only [go_sem, seval]) <;> (try repeat ((with_reducible refine And.intro ?_ ?_); focus (first | omega | assumption | exact True.intro | (show anyD _ _ = true; exact rfl) | (simp only [List.length_map, List.length_append, List.length_cons, List.length_nil, List.length_take, List.length_drop]; omega))))
        · have hb := hv _ (List.getElem_mem h) _ (List.getElem_mem hc)
          refine callQ.mk max_c rfl ?_
          try simp (maxSteps := 2000000) (disch := omega) only [go_sem, seval]
          try repeat ((with_reducible refine And.intro ?_ ?_); focus (first | omega | assumption | exact True.intro | (show anyD _ _ = true; exact rfl) | (simp only [List.length_map, List.length_append, List.length_cons, List.length_nil, List.length_take, List.length_drop]; omega)))
          (first | refine brP.mk (fun hd => ?_) (fun hd => ?_) | refine gdP.mkt (fun hd => ?_) (fun hd => ?_) | refine gdP.mkf (fun hd => ?_) (fun hd => ?_) | refine pkP.mk (fun hd => ?_) (fun hd => ?_)) <;> (try simp only [Bool.not_true, Bool.not_false, decide_eq_true_eq, decide_eq_false_iff_not, Bool.and_eq_true, Bool.or_eq_true, Bool.not_eq_true', Bool.not_eq_false', Bool.and_eq_false_iff, Bool.or_eq_false_iff, Nat.not_lt, Int.not_lt, Nat.not_le, Int.not_le, Int.ofNat_lt, Int.ofNat_le, Int.ofNat_inj, Bool.xor_false, Bool.false_xor, Bool.true_xor, Bool.xor_true] at hd) <;> (try simp (maxSteps := 2000000) (disch := omega) only [go_sem, seval]) <;> (try repeat ((with_reducible refine And.intro ?_ ?_); focus (first | omega | assumption | exact True.intro | (show anyD _ _ = true; exact rfl) | (simp only [List.length_map, List.length_append, List.length_cons, List.length_nil, List.length_take, List.length_drop]; omega))))
          · refine ⟨j + 1, hc, by omega, ?_, rfl⟩
            rw [preS_step h hc, cut1, if_pos (by omega)]
            simp [natc]
          · refine ⟨j + 1, hc, by omega, ?_, rfl⟩
            rw [preS_step h hc, cut1, if_neg (by omega)]
            simp [natc]
        · refine ⟨i + 1, h, by omega, ?_, rfl⟩
          rw [preS_next h hc]
    · rw [preS_end h]
      generalize hxs : allS ls = xs at h3 ⊢
      have hst : starts ls = srt xs := by rw [← hxs]; rfl
      rw [hst]
      refine pLoop.mk (fun k => k ≤ xs.length) (fun k => ⟨[(3, .sl (xs.map natc) (.r 9 1)), (6, .sl ((srt (xs.take k)).map natc) (.r 108 1)), (7, .v (.int .i64 (k : Nat)))], []⟩) (fun k => xs.length - k) 0 ?_ ?_ ?_
      · exact Nat.zero_le _
      · rw [List.take_zero, srt_nil]
        try simp (maxSteps := 2000000) (disch := omega) only [go_sem, seval]
        try repeat ((with_reducible refine And.intro ?_ ?_); focus (first | omega | assumption | exact True.intro | (show anyD _ _ = true; exact rfl) | (simp only [List.length_map, List.length_append, List.length_cons, List.length_nil, List.length_take, List.length_drop]; omega)))
      · rintro k hk
        have hlen := srt_len (xs.take k)
        have hlen2 : (xs.take k).length ≤ k := List.length_take_le _ _
        try simp (maxSteps := 2000000) (disch := omega) only [go_sem, seval]
        try repeat ((with_reducible refine And.intro ?_ ?_); focus (first | omega | assumption | exact True.intro | (show anyD _ _ = true; exact rfl) | (simp only [List.length_map, List.length_append, List.length_cons, List.length_nil, List.length_take, List.length_drop]; omega)))
        (first | refine brP.mk (fun h5 => ?_) (fun h5 => ?_) | refine gdP.mkt (fun h5 => ?_) (fun h5 => ?_) | refine gdP.mkf (fun h5 => ?_) (fun h5 => ?_) | refine pkP.mk (fun h5 => ?_) (fun h5 => ?_)) <;> (try simp only [Bool.not_true, Bool.not_false, decide_eq_true_eq, decide_eq_false_iff_not, Bool.and_eq_true, Bool.or_eq_true, Bool.not_eq_true', Bool.not_eq_false', Bool.and_eq_false_iff, Bool.or_eq_false_iff, Nat.not_lt, Int.not_lt, Nat.not_le, Int.not_le, Int.ofNat_lt, Int.ofNat_le, Int.ofNat_inj, Bool.xor_false, Bool.false_xor, Bool.true_xor, Bool.xor_true] at h5) <;> (try simp (maxSteps := 2000000) (disch := omega) only [go_sem, seval]) <;> (try repeat ((with_reducible refine And.intro ?_ ?_); focus (first | omega | assumption | exact True.intro | (show anyD _ _ = true; exact rfl) | (simp only [List.length_map, List.length_append, List.length_cons, List.length_nil, List.length_take, List.length_drop]; omega))))
        · refine pLoop.go (fun a => a ≤ (srt (xs.take k)).length ∧ ∀ m (h : m < (srt (xs.take k)).length), a ≤ m → xs[k] < (srt (xs.take k))[m]) (fun a => [(8, .v (.int .i64 (a : Nat)))]) (fun _ => []) (fun a => a) (srt (xs.take k)).length [8] ?_ ?_ ?_
          · exact ⟨Nat.le_refl _, fun m h1 h2 => absurd h1 (by omega)⟩
          · try simp (maxSteps := 2000000) (disch := omega) only [go_sem, seval]
            try repeat ((with_reducible refine And.intro ?_ ?_); focus (first | omega | assumption | exact True.intro | (show anyD _ _ = true; exact rfl) | (simp only [List.length_map, List.length_append, List.length_cons, List.length_nil, List.length_take, List.length_drop]; omega)))
          · rintro at_ ⟨ha, hb⟩
            try simp (maxSteps := 2000000) (disch := omega) only [go_sem, seval]
            try repeat ((with_reducible refine And.intro ?_ ?_); focus (first | omega | assumption | exact True.intro | (show anyD _ _ = true; exact rfl) | (simp only [List.length_map, List.length_append, List.length_cons, List.length_nil, List.length_take, List.length_drop]; omega)))
            (first | refine brP.mk (fun h6 => ?_) (fun h6 => ?_) | refine gdP.mkt (fun h6 => ?_) (fun h6 => ?_) | refine gdP.mkf (fun h6 => ?_) (fun h6 => ?_) | refine pkP.mk (fun h6 => ?_) (fun h6 => ?_)) <;> (try simp only [Bool.not_true, Bool.not_false, decide_eq_true_eq, decide_eq_false_iff_not, Bool.and_eq_true, Bool.or_eq_true, Bool.not_eq_true', Bool.not_eq_false', Bool.and_eq_false_iff, Bool.or_eq_false_iff, Nat.not_lt, Int.not_lt, Nat.not_le, Int.not_le, Int.ofNat_lt, Int.ofNat_le, Int.ofNat_inj, Bool.xor_false, Bool.false_xor, Bool.true_xor, Bool.xor_true] at h6) <;> (try simp (maxSteps := 2000000) (disch := omega) only [go_sem, seval]) <;> (try repeat ((with_reducible refine And.intro ?_ ?_); focus (first | omega | assumption | exact True.intro | (show anyD _ _ = true; exact rfl) | (simp only [List.length_map, List.length_append, List.length_cons, List.length_nil, List.length_take, List.length_drop]; omega))))
            · (first | refine brP.mk (fun h7 => ?_) (fun h7 => ?_) | refine gdP.mkt (fun h7 => ?_) (fun h7 => ?_) | refine gdP.mkf (fun h7 => ?_) (fun h7 => ?_) | refine pkP.mk (fun h7 => ?_) (fun h7 => ?_)) <;> (try simp only [Bool.not_true, Bool.not_false, decide_eq_true_eq, decide_eq_false_iff_not, Bool.and_eq_true, Bool.or_eq_true, Bool.not_eq_true', Bool.not_eq_false', Bool.and_eq_false_iff, Bool.or_eq_false_iff, Nat.not_lt, Int.not_lt, Nat.not_le, Int.not_le, Int.ofNat_lt, Int.ofNat_le, Int.ofNat_inj, Bool.xor_false, Bool.false_xor, Bool.true_xor, Bool.xor_true] at h7) <;> (try simp (maxSteps := 2000000) (disch := omega) only [go_sem, seval]) <;> (try repeat ((with_reducible refine And.intro ?_ ?_); focus (first | omega | assumption | exact True.intro | (show anyD _ _ = true; exact rfl) | (simp only [List.length_map, List.length_append, List.length_cons, List.length_nil, List.length_take, List.length_drop]; omega))))
              · refine ⟨at_ - 1, ⟨by omega, fun m hm h8 => ?_⟩, by omega, rfl⟩
                rcases Nat.eq_or_lt_of_le h8 with h9 | h9
                · subst h9; exact h7
                · exact hb m hm (by omega)
              · (first | refine brP.mk (fun h8 => ?_) (fun h8 => ?_) | refine gdP.mkt (fun h8 => ?_) (fun h8 => ?_) | refine gdP.mkf (fun h8 => ?_) (fun h8 => ?_) | refine pkP.mk (fun h8 => ?_) (fun h8 => ?_)) <;> (try simp only [Bool.not_true, Bool.not_false, decide_eq_true_eq, decide_eq_false_iff_not, Bool.and_eq_true, Bool.or_eq_true, Bool.not_eq_true', Bool.not_eq_false', Bool.and_eq_false_iff, Bool.or_eq_false_iff, Nat.not_lt, Int.not_lt, Nat.not_le, Int.not_le, Int.ofNat_lt, Int.ofNat_le, Int.ofNat_inj, Bool.xor_false, Bool.false_xor, Bool.true_xor, Bool.xor_true] at h8) <;> (try simp (maxSteps := 2000000) (disch := omega) only [go_sem, seval]) <;> (try repeat ((with_reducible refine And.intro ?_ ?_); focus (first | omega | assumption | exact True.intro | (show anyD _ _ = true; exact rfl) | (simp only [List.length_map, List.length_append, List.length_cons, List.length_nil, List.length_take, List.length_drop]; omega))))
                · exact absurd h8 (by omega)
                · (first | refine brP.mk (fun h9 => ?_) (fun h9 => ?_) | refine gdP.mkt (fun h9 => ?_) (fun h9 => ?_) | refine gdP.mkf (fun h9 => ?_) (fun h9 => ?_) | refine pkP.mk (fun h9 => ?_) (fun h9 => ?_)) <;> (try simp only [Bool.not_true, Bool.not_false, decide_eq_true_eq, decide_eq_false_iff_not, Bool.and_eq_true, Bool.or_eq_true, Bool.not_eq_true', Bool.not_eq_false', Bool.and_eq_false_iff, Bool.or_eq_false_iff, Nat.not_lt, Int.not_lt, Nat.not_le, Int.not_le, Int.ofNat_lt, Int.ofNat_le, Int.ofNat_inj, Bool.xor_false, Bool.false_xor, Bool.true_xor, Bool.xor_true] at h9) <;> (try simp (maxSteps := 2000000) (disch := omega) only [go_sem, seval]) <;> (try repeat ((with_reducible refine And.intro ?_ ?_); focus (first | omega | assumption | exact True.intro | (show anyD _ _ = true; exact rfl) | (simp only [List.length_map, List.length_append, List.length_cons, List.length_nil, List.length_take, List.length_drop]; omega))))
                  · refine cutP.mk [3, 7] (keepOk.mk2 rfl rfl ?_ ?_ ?_) ?_
                    · try simp (maxSteps := 2000000) (disch := omega) only [go_sem, seval]
                      try repeat ((with_reducible refine And.intro ?_ ?_); focus (first | omega | assumption | exact True.intro | (show anyD _ _ = true; exact rfl) | (simp only [List.length_map, List.length_append, List.length_cons, List.length_nil, List.length_take, List.length_drop]; omega)))
                    · try simp (maxSteps := 2000000) (disch := omega) only [go_sem, seval]
                      try repeat ((with_reducible refine And.intro ?_ ?_); focus (first | omega | assumption | exact True.intro | (show anyD _ _ = true; exact rfl) | (simp only [List.length_map, List.length_append, List.length_cons, List.length_nil, List.length_take, List.length_drop]; omega)))
                    · right
                      try simp (maxSteps := 2000000) (disch := omega) only [go_sem, seval]
                      try repeat ((with_reducible refine And.intro ?_ ?_); focus (first | omega | assumption | exact True.intro | (show anyD _ _ = true; exact rfl) | (simp only [List.length_map, List.length_append, List.length_cons, List.length_nil, List.length_take, List.length_drop]; omega)))
                    · try simp (maxSteps := 2000000) (disch := omega) only [go_sem, seval]
                      try repeat ((with_reducible refine And.intro ?_ ?_); focus (first | omega | assumption | exact True.intro | (show anyD _ _ = true; exact rfl) | (simp only [List.length_map, List.length_append, List.length_cons, List.length_nil, List.length_take, List.length_drop]; omega)))
                      refine ⟨k + 1, h5, by omega, ?_, rfl⟩
                      rw [List.take_succ_eq_append_getElem h5, srt_ins ha hb (.inr ⟨by omega, by omega⟩)]
                      simp [natc]
                  · refine ⟨k + 1, h5, by omega, ?_, rfl⟩
                    rw [List.take_succ_eq_append_getElem h5, srt_has (by rw [← h9]; exact List.getElem_mem _)]
            · obtain rfl : at_ = 0 := by omega
              have hz := srt_ins ha hb (.inl rfl)
              rw [← List.take_succ_eq_append_getElem h5] at hz
              try simp (maxSteps := 2000000) (disch := omega) only [go_sem, seval]
              try repeat ((with_reducible refine And.intro ?_ ?_); focus (first | omega | assumption | exact True.intro | (show anyD _ _ = true; exact rfl) | (simp only [List.length_map, List.length_append, List.length_cons, List.length_nil, List.length_take, List.length_drop]; omega)))
              refine cutP.mk [3, 7] (keepOk.mk2 rfl rfl ?_ ?_ ?_) ?_
              · try simp (maxSteps := 2000000) (disch := omega) only [go_sem, seval]
                try repeat ((with_reducible refine And.intro ?_ ?_); focus (first | omega | assumption | exact True.intro | (show anyD _ _ = true; exact rfl) | (simp only [List.length_map, List.length_append, List.length_cons, List.length_nil, List.length_take, List.length_drop]; omega)))
              · try simp (maxSteps := 2000000) (disch := omega) only [go_sem, seval]
                try repeat ((with_reducible refine And.intro ?_ ?_); focus (first | omega | assumption | exact True.intro | (show anyD _ _ = true; exact rfl) | (simp only [List.length_map, List.length_append, List.length_cons, List.length_nil, List.length_take, List.length_drop]; omega)))
              · right
                try simp (maxSteps := 2000000) (disch := omega) only [go_sem, seval]
                try repeat ((with_reducible refine And.intro ?_ ?_); focus (first | omega | assumption | exact True.intro | (show anyD _ _ = true; exact rfl) | (simp only [List.length_map, List.length_append, List.length_cons, List.length_nil, List.length_take, List.length_drop]; omega)))
              · try simp (maxSteps := 2000000) (disch := omega) only [go_sem, seval]
                try repeat ((with_reducible refine And.intro ?_ ?_); focus (first | omega | assumption | exact True.intro | (show anyD _ _ = true; exact rfl) | (simp only [List.length_map, List.length_append, List.length_cons, List.length_nil, List.length_take, List.length_drop]; omega)))
                refine ⟨k + 1, h5, by omega, ?_, rfl⟩
                rw [hz]
                simp [natc]
        · rw [List.take_of_length_le h5]
end Go.Proofs.YtcedofkenfddkaaDoor
/- The contracts of kenningref05. -/
namespace Go.Proofs.YtcedofkenfddkaaDoor
set_option linter.unusedVariables false
set_option linter.unusedSimpArgs false
open Go.RowKit
set_option maxRecDepth 100000
theorem starts_len {ls : List (List Iv)} : (starts ls).length ≤ (allS ls).length := srt_len _
theorem allS2 (a b : List Iv) : (allS [a, b]).length ≤ 1 + 2 * a.length + 2 * b.length := by
  have := cuts_len a
  have := cuts_len b
  simp [allS]; omega
theorem do_c (a b : List Iv) (op : Nat) (ha : Nrm a) (hb : Nrm b) (ho : op < 3) (h1 : a.length ≤ 131072) (h2 : b.length ≤ 131072) : Cn Tryd.prog 107 [rg a, rg b, .v (.int .i64 op)] (rg (opS (opb op) a b)) := by
  have hM := M64_val
  have hall := allS2 a b
  have hst := starts_len (ls := [a, b])
  have hcut : ∀ c, c ∈ cuts a ∨ c ∈ cuts b → c ∈ starts [a, b] := fun c hc => srt_mem.2 (by simp [allS]; exact .inr hc)
  have hslt : ∀ x ∈ starts [a, b], x < M64 := starts_lt (by simp; exact ⟨fun s hs => (ha.lt s hs).1, fun s hs => (hb.lt s hs).1⟩)
  refine cn_go Tryd.func107 [] 3 (by kernel_rfl) rfl (by simp [go_sem, seval]) ?_
  conv => arg 4; cbv
  conv => enter [5, 1]; cbv
  try simp (maxSteps := 2000000) (disch := omega) only [go_sem, seval]
  try repeat ((with_reducible refine And.intro ?_ ?_); focus (first | omega | assumption | exact True.intro | (show anyD _ _ = true; exact rfl) | (simp only [List.length_map, List.length_append, List.length_cons, List.length_nil, List.length_take, List.length_drop]; omega)))
  refine callO.rd (starts_c [a, b] (by simp) (by simp; omega) (by omega) (by simp; exact ⟨ha.lt, hb.lt⟩)) rfl ?_
  try simp (maxSteps := 2000000) (disch := omega) only [go_sem, seval]
  try repeat ((with_reducible refine And.intro ?_ ?_); focus (first | omega | assumption | exact True.intro | (show anyD _ _ = true; exact rfl) | (simp only [List.length_map, List.length_append, List.length_cons, List.length_nil, List.length_take, List.length_drop]; omega)))
  refine pLoop.go (fun p : Nat × List Iv => p.1 ≤ (starts [a, b]).length ∧ DoInv (opb op) a b (starts [a, b]) p.1 p.2) (fun p => [(8, .sl (p.2.map ivc) (.r 38 2)), (9, .v (.int .i64 (p.1 : Nat)))]) (fun _ => []) (fun p => (starts [a, b]).length - p.1) (0, []) [8, 9] ?_ ?_ ?_
  · exact ⟨Nat.zero_le _, DoInv.zero _⟩
  · try simp (maxSteps := 2000000) (disch := omega) only [go_sem, seval]
    try repeat ((with_reducible refine And.intro ?_ ?_); focus (first | omega | assumption | exact True.intro | (show anyD _ _ = true; exact rfl) | (simp only [List.length_map, List.length_append, List.length_cons, List.length_nil, List.length_take, List.length_drop]; omega)))
  · rintro ⟨i, out⟩ ⟨hi, hd⟩
    simp only at hi hd
    have hol := hd.len
    try simp (maxSteps := 2000000) (disch := omega) only [go_sem, seval]
    try repeat ((with_reducible refine And.intro ?_ ?_); focus (first | omega | assumption | exact True.intro | (show anyD _ _ = true; exact rfl) | (simp only [List.length_map, List.length_append, List.length_cons, List.length_nil, List.length_take, List.length_drop]; omega)))
    (first | refine brP.mk (fun h => ?_) (fun h => ?_) | refine gdP.mkt (fun h => ?_) (fun h => ?_) | refine gdP.mkf (fun h => ?_) (fun h => ?_) | refine pkP.mk (fun h => ?_) (fun h => ?_)) <;> (try simp only [Bool.not_true, Bool.not_false, decide_eq_true_eq, decide_eq_false_iff_not, Bool.and_eq_true, Bool.or_eq_true, Bool.not_eq_true', Bool.not_eq_false', Bool.and_eq_false_iff, Bool.or_eq_false_iff, Nat.not_lt, Int.not_lt, Nat.not_le, Int.not_le, Int.ofNat_lt, Int.ofNat_le, Int.ofNat_inj, Bool.xor_false, Bool.false_xor, Bool.true_xor, Bool.xor_true] at h) <;> (try simp (maxSteps := 2000000) (disch := omega) only [go_sem, seval]) <;> (try repeat ((with_reducible refine And.intro ?_ ?_); focus (first | omega | assumption | exact True.intro | (show anyD _ _ = true; exact rfl) | (simp only [List.length_map, List.length_append, List.length_cons, List.length_nil, List.length_take, List.length_drop]; omega))))
    · refine callQ.mk (has4_c a _ (by omega)) rfl ?_
      try simp (maxSteps := 2000000) (disch := omega) only [go_sem, seval]
      try repeat ((with_reducible refine And.intro ?_ ?_); focus (first | omega | assumption | exact True.intro | (show anyD _ _ = true; exact rfl) | (simp only [List.length_map, List.length_append, List.length_cons, List.length_nil, List.length_take, List.length_drop]; omega)))
      refine callQ.mk (has4_c b _ (by omega)) rfl ?_
      try simp (maxSteps := 2000000) (disch := omega) only [go_sem, seval]
      try repeat ((with_reducible refine And.intro ?_ ?_); focus (first | omega | assumption | exact True.intro | (show anyD _ _ = true; exact rfl) | (simp only [List.length_map, List.length_append, List.length_cons, List.length_nil, List.length_take, List.length_drop]; omega)))
      refine callQ.mk (take_c _ _ op ho) rfl ?_
      obtain ⟨s1, s2⟩ := hd.step ha hb (starts_asc _) hslt hcut h
      try simp (maxSteps := 2000000) (disch := omega) only [go_sem, seval]
      try repeat ((with_reducible refine And.intro ?_ ?_); focus (first | omega | assumption | exact True.intro | (show anyD _ _ = true; exact rfl) | (simp only [List.length_map, List.length_append, List.length_cons, List.length_nil, List.length_take, List.length_drop]; omega)))
      (first | refine brP.mk (fun h5 => ?_) (fun h5 => ?_) | refine gdP.mkt (fun h5 => ?_) (fun h5 => ?_) | refine gdP.mkf (fun h5 => ?_) (fun h5 => ?_) | refine pkP.mk (fun h5 => ?_) (fun h5 => ?_)) <;> (try simp only [Bool.not_true, Bool.not_false, decide_eq_true_eq, decide_eq_false_iff_not, Bool.and_eq_true, Bool.or_eq_true, Bool.not_eq_true', Bool.not_eq_false', Bool.and_eq_false_iff, Bool.or_eq_false_iff, Nat.not_lt, Int.not_lt, Nat.not_le, Int.not_le, Int.ofNat_lt, Int.ofNat_le, Int.ofNat_inj, Bool.xor_false, Bool.false_xor, Bool.true_xor, Bool.xor_true] at h5) <;> (try simp (maxSteps := 2000000) (disch := omega) only [go_sem, seval]) <;> (try repeat ((with_reducible refine And.intro ?_ ?_); focus (first | omega | assumption | exact True.intro | (show anyD _ _ = true; exact rfl) | (simp only [List.length_map, List.length_append, List.length_cons, List.length_nil, List.length_take, List.length_drop]; omega))))
      · refine callP.mk (piece_c _ i h (by omega) fun h' => ?_) rfl ?_
        · have := asc_lt (starts_asc [a, b]) h' (Nat.lt_succ_self i)
          have := hslt _ (List.getElem_mem h')
          omega
        have s3 := s1 h5
        have hlo := hslt _ (List.getElem_mem h)
        try simp (maxSteps := 2000000) (disch := omega) only [go_sem, seval]
        try repeat ((with_reducible refine And.intro ?_ ?_); focus (first | omega | assumption | exact True.intro | (show anyD _ _ = true; exact rfl) | (simp only [List.length_map, List.length_append, List.length_cons, List.length_nil, List.length_take, List.length_drop]; omega)))
        refine callO.mk (put_o out ⟨(starts [a, b])[i], if h : i + 1 < (starts [a, b]).length then (starts [a, b])[i + 1] - 1 else M64 - 1⟩ hlo (fun t ht => ?_) (by omega)) rfl ?_
        · have e : bdS (starts [a, b]) i = (starts [a, b])[i] := dif_pos h
          have := hd.lt t ht
          have := hd.nrm.lt t ht
          show _ ∧ t.hi < (starts [a, b])[i]
          omega
        try simp (maxSteps := 2000000) (disch := omega) only [go_sem, seval]
        try repeat ((with_reducible refine And.intro ?_ ?_); focus (first | omega | assumption | exact True.intro | (show anyD _ _ = true; exact rfl) | (simp only [List.length_map, List.length_append, List.length_cons, List.length_nil, List.length_take, List.length_drop]; omega)))
        exact ⟨(i + 1, _), ⟨h, s3⟩, by omega, rfl, rfl⟩
      · exact ⟨(i + 1, out), ⟨h, s2 h5⟩, by omega, rfl, rfl⟩
    · obtain rfl : i = (starts [a, b]).length := by omega
      rw [hd.done ha hb]
theorem opb0 : opb 0 = fUnion := rfl
theorem opb1 : opb 1 = fMeet := rfl
theorem opb2 : opb 2 = fMinus := rfl
theorem refMinus_c (a b : List Iv) (ha : Nrm a) (hb : Nrm b) (h1 : a.length ≤ 131072) (h2 : b.length ≤ 131072) : Cn Tryd.prog 82 [rg a, rg b] (rg (opS fMinus a b)) := by
  refine cn_go Tryd.func82 [] 2 (by kernel_rfl) rfl (by simp [go_sem, seval]) ?_
  conv => arg 4; cbv
  conv => enter [5, 1]; cbv
  try simp (maxSteps := 2000000) (disch := omega) only [go_sem, seval]
  try repeat ((with_reducible refine And.intro ?_ ?_); focus (first | omega | assumption | exact True.intro | (show anyD _ _ = true; exact rfl) | (simp only [List.length_map, List.length_append, List.length_cons, List.length_nil, List.length_take, List.length_drop]; omega)))
  refine callP.mk (do_c a b 2 ha hb (by omega) h1 h2) rfl ?_
  try simp (maxSteps := 2000000) (disch := omega) only [go_sem, seval]
  try repeat ((with_reducible refine And.intro ?_ ?_); focus (first | omega | assumption | exact True.intro | (show anyD _ _ = true; exact rfl) | (simp only [List.length_map, List.length_append, List.length_cons, List.length_nil, List.length_take, List.length_drop]; omega)))
  rfl
theorem one_nrm {s : Iv} (h : s.lo ≤ s.hi) (h' : s.hi < M64) : Nrm [s] := ⟨Nat.zero_le _, h, h', trivial⟩
end Go.Proofs.YtcedofkenfddkaaDoor
/- The contracts of kenningref04.Check and Right, of kenninglaw05.right and alive. -/
namespace Go.Proofs.YtcedofkenfddkaaDoor
set_option linter.unusedVariables false
set_option linter.unusedSimpArgs false
open Go.RowKit
set_option maxRecDepth 100000
theorem right3_c (s : Iv) : Cn Tryd.prog 108 [ivp s] (.v (.bool (decide (s.lo ≤ s.hi)))) := by
  refine cn_go Tryd.func108 [] 1 (by kernel_rfl) rfl (by simp [go_sem, seval]) ?_
  conv => arg 4; cbv
  conv => enter [5, 1]; cbv
  try simp (maxSteps := 2000000) (disch := omega) only [go_sem, seval]
  try repeat ((with_reducible refine And.intro ?_ ?_); focus (first | omega | assumption | exact True.intro | (show anyD _ _ = true; exact rfl) | (simp only [List.length_map, List.length_append, List.length_cons, List.length_nil, List.length_take, List.length_drop]; omega)))
def prevC (l : List Iv) (k : Nat) : Option Iv := if k = 0 then none else l[k - 1]?
theorem check4_c (l : List Iv) (hl : l.length ≤ 1152921504606846976) (hb : ∀ s ∈ l, s.lo < M64 ∧ s.hi < M64) : Cn Tryd.prog 83 [rg l] (.tup [.v (.int .i64 (chk l).1), .v (.int .i64 (chk l).2)]) := by
  refine cn_go Tryd.func83 [] 1 (by kernel_rfl) rfl (by simp [go_sem, seval]) ?_
  conv => arg 4; cbv
  conv => enter [5, 1]; cbv
  try simp (maxSteps := 2000000) (disch := omega) only [go_sem, seval]
  try repeat ((with_reducible refine And.intro ?_ ?_); focus (first | omega | assumption | exact True.intro | (show anyD _ _ = true; exact rfl) | (simp only [List.length_map, List.length_append, List.length_cons, List.length_nil, List.length_take, List.length_drop]; omega)))
  refine pLoop.go (fun k => k ≤ l.length ∧ chk l = chkL (prevC l k) (l.drop k) k) (fun k => [(4, .v (.int .i64 (k : Nat)))]) (fun _ => []) (fun k => l.length - k) 0 [4] ?_ ?_ ?_
  · exact ⟨Nat.zero_le _, rfl⟩
  · try simp (maxSteps := 2000000) (disch := omega) only [go_sem, seval]
    try repeat ((with_reducible refine And.intro ?_ ?_); focus (first | omega | assumption | exact True.intro | (show anyD _ _ = true; exact rfl) | (simp only [List.length_map, List.length_append, List.length_cons, List.length_nil, List.length_take, List.length_drop]; omega)))
  · rintro k ⟨hk, hm⟩
    try simp (maxSteps := 2000000) (disch := omega) only [go_sem, seval]
    try repeat ((with_reducible refine And.intro ?_ ?_); focus (first | omega | assumption | exact True.intro | (show anyD _ _ = true; exact rfl) | (simp only [List.length_map, List.length_append, List.length_cons, List.length_nil, List.length_take, List.length_drop]; omega)))
    (first | refine brP.mk (fun h => ?_) (fun h => ?_) | refine gdP.mkt (fun h => ?_) (fun h => ?_) | refine gdP.mkf (fun h => ?_) (fun h => ?_) | refine pkP.mk (fun h => ?_) (fun h => ?_)) <;> (try simp only [Bool.not_true, Bool.not_false, decide_eq_true_eq, decide_eq_false_iff_not, Bool.and_eq_true, Bool.or_eq_true, Bool.not_eq_true', Bool.not_eq_false', Bool.and_eq_false_iff, Bool.or_eq_false_iff, Nat.not_lt, Int.not_lt, Nat.not_le, Int.not_le, Int.ofNat_lt, Int.ofNat_le, Int.ofNat_inj, Bool.xor_false, Bool.false_xor, Bool.true_xor, Bool.xor_true] at h) <;> (try simp (maxSteps := 2000000) (disch := omega) only [go_sem, seval]) <;> (try repeat ((with_reducible refine And.intro ?_ ?_); focus (first | omega | assumption | exact True.intro | (show anyD _ _ = true; exact rfl) | (simp only [List.length_map, List.length_append, List.length_cons, List.length_nil, List.length_take, List.length_drop]; omega))))
    · refine callP.mk (right3_c l[k]) rfl ?_
      rw [chkL_step h] at hm
      try simp (maxSteps := 2000000) (disch := omega) only [go_sem, seval]
      try repeat ((with_reducible refine And.intro ?_ ?_); focus (first | omega | assumption | exact True.intro | (show anyD _ _ = true; exact rfl) | (simp only [List.length_map, List.length_append, List.length_cons, List.length_nil, List.length_take, List.length_drop]; omega)))
      (first | refine brP.mk (fun h1 => ?_) (fun h1 => ?_) | refine gdP.mkt (fun h1 => ?_) (fun h1 => ?_) | refine gdP.mkf (fun h1 => ?_) (fun h1 => ?_) | refine pkP.mk (fun h1 => ?_) (fun h1 => ?_)) <;> (try simp only [Bool.not_true, Bool.not_false, decide_eq_true_eq, decide_eq_false_iff_not, Bool.and_eq_true, Bool.or_eq_true, Bool.not_eq_true', Bool.not_eq_false', Bool.and_eq_false_iff, Bool.or_eq_false_iff, Nat.not_lt, Int.not_lt, Nat.not_le, Int.not_le, Int.ofNat_lt, Int.ofNat_le, Int.ofNat_inj, Bool.xor_false, Bool.false_xor, Bool.true_xor, Bool.xor_true] at h1) <;> (try simp (maxSteps := 2000000) (disch := omega) only [go_sem, seval]) <;> (try repeat ((with_reducible refine And.intro ?_ ?_); focus (first | omega | assumption | exact True.intro | (show anyD _ _ = true; exact rfl) | (simp only [List.length_map, List.length_append, List.length_cons, List.length_nil, List.length_take, List.length_drop]; omega))))
      · rw [if_neg (by omega)] at hm
        rw [hm]
        rfl
      · rw [if_pos h1] at hm
        have hs : prevC l (k + 1) = some l[k] := by unfold prevC; rw [if_neg (by omega)]; exact List.getElem?_eq_getElem h
        (first | refine brP.mk (fun h2 => ?_) (fun h2 => ?_) | refine gdP.mkt (fun h2 => ?_) (fun h2 => ?_) | refine gdP.mkf (fun h2 => ?_) (fun h2 => ?_) | refine pkP.mk (fun h2 => ?_) (fun h2 => ?_)) <;> (try simp only [Bool.not_true, Bool.not_false, decide_eq_true_eq, decide_eq_false_iff_not, Bool.and_eq_true, Bool.or_eq_true, Bool.not_eq_true', Bool.not_eq_false', Bool.and_eq_false_iff, Bool.or_eq_false_iff, Nat.not_lt, Int.not_lt, Nat.not_le, Int.not_le, Int.ofNat_lt, Int.ofNat_le, Int.ofNat_inj, Bool.xor_false, Bool.false_xor, Bool.true_xor, Bool.xor_true] at h2) <;> (try simp (maxSteps := 2000000) (disch := omega) only [go_sem, seval]) <;> (try repeat ((with_reducible refine And.intro ?_ ?_); focus (first | omega | assumption | exact True.intro | (show anyD _ _ = true; exact rfl) | (simp only [List.length_map, List.length_append, List.length_cons, List.length_nil, List.length_take, List.length_drop]; omega))))
        · have hp : prevC l k = some l[k - 1] := by unfold prevC; rw [if_neg (by omega), List.getElem?_eq_getElem]
          rw [hp] at hm
          refine callQ.mk (rel3_c l[k - 1] l[k] (hb _ (List.getElem_mem _)).1 (hb _ (List.getElem_mem _)).1) rfl ?_
          try simp (maxSteps := 2000000) (disch := omega) only [go_sem, seval]
          try repeat ((with_reducible refine And.intro ?_ ?_); focus (first | omega | assumption | exact True.intro | (show anyD _ _ = true; exact rfl) | (simp only [List.length_map, List.length_append, List.length_cons, List.length_nil, List.length_take, List.length_drop]; omega)))
          (first | refine brP.mk (fun h3 => ?_) (fun h3 => ?_) | refine gdP.mkt (fun h3 => ?_) (fun h3 => ?_) | refine gdP.mkf (fun h3 => ?_) (fun h3 => ?_) | refine pkP.mk (fun h3 => ?_) (fun h3 => ?_)) <;> (try simp only [Bool.not_true, Bool.not_false, decide_eq_true_eq, decide_eq_false_iff_not, Bool.and_eq_true, Bool.or_eq_true, Bool.not_eq_true', Bool.not_eq_false', Bool.and_eq_false_iff, Bool.or_eq_false_iff, Nat.not_lt, Int.not_lt, Nat.not_le, Int.not_le, Int.ofNat_lt, Int.ofNat_le, Int.ofNat_inj, Bool.xor_false, Bool.false_xor, Bool.true_xor, Bool.xor_true] at h3) <;> (try simp (maxSteps := 2000000) (disch := omega) only [go_sem, seval]) <;> (try repeat ((with_reducible refine And.intro ?_ ?_); focus (first | omega | assumption | exact True.intro | (show anyD _ _ = true; exact rfl) | (simp only [List.length_map, List.length_append, List.length_cons, List.length_nil, List.length_take, List.length_drop]; omega))))
          · rw [if_neg (by simpa using h3)] at hm
            rw [hm]
            rfl
          · rw [if_pos (by simpa using h3)] at hm
            exact ⟨k + 1, ⟨h, by rw [hs]; exact hm⟩, by omega, rfl⟩
        · have hp : prevC l k = none := by unfold prevC; rw [if_pos (by omega)]
          rw [hp] at hm
          exact ⟨k + 1, ⟨h, by rw [hs]; exact hm⟩, by omega, rfl⟩
    · rw [List.drop_of_length_le h] at hm
      rw [hm]
      rfl
def rightB (l : List Iv) : Bool := decide ((chk l).1 = 0)
theorem rightB_iff {l : List Iv} (h : ∀ s ∈ l, s.hi < M64) : rightB l = true ↔ Nrm l := by
  rw [← chk_nrm h]; unfold rightB; simp
theorem right4_c (l : List Iv) (hl : l.length ≤ 1152921504606846976) (hb : ∀ s ∈ l, s.lo < M64 ∧ s.hi < M64) : Cn Tryd.prog 31 [rg l] (.v (.bool (rightB l))) := by
  refine cn_go Tryd.func31 [] 1 (by kernel_rfl) rfl (by simp [go_sem, seval]) ?_
  conv => arg 4; cbv
  conv => enter [5, 1]; cbv
  try simp (maxSteps := 2000000) (disch := omega) only [go_sem, seval]
  try repeat ((with_reducible refine And.intro ?_ ?_); focus (first | omega | assumption | exact True.intro | (show anyD _ _ = true; exact rfl) | (simp only [List.length_map, List.length_append, List.length_cons, List.length_nil, List.length_take, List.length_drop]; omega)))
  refine callP.mk (check4_c l hl hb) rfl ?_
  try simp (maxSteps := 2000000) (disch := omega) only [go_sem, seval]
  try repeat ((with_reducible refine And.intro ?_ ?_); focus (first | omega | assumption | exact True.intro | (show anyD _ _ = true; exact rfl) | (simp only [List.length_map, List.length_append, List.length_cons, List.length_nil, List.length_take, List.length_drop]; omega)))
  rfl
def rightsB (ls : List (List Iv)) : Bool := ls.all fun l => decide (l.length ≤ 60) && rightB l
theorem rightsB_drop {ls : List (List Iv)} {k : Nat} (h : k < ls.length) : rightsB (ls.drop k) = (decide (ls[k].length ≤ 60) && rightB ls[k] && rightsB (ls.drop (k + 1))) := by
  rw [List.drop_eq_getElem_cons h]; rfl
theorem right5_c (ls : List (List Iv)) (h1 : ls.length ≤ 1048576) (hb : ∀ l ∈ ls, ∀ s ∈ l, s.lo < M64 ∧ s.hi < M64) : Cn Tryd.prog 17 [rgs ls] (.v (.bool (rightsB ls))) := by
  refine cn_go Tryd.func17 [] 1 (by kernel_rfl) rfl (by simp [go_sem, seval]) ?_
  conv => arg 4; cbv
  conv => enter [5, 1]; cbv
  try simp (maxSteps := 2000000) (disch := omega) only [go_sem, seval]
  try repeat ((with_reducible refine And.intro ?_ ?_); focus (first | omega | assumption | exact True.intro | (show anyD _ _ = true; exact rfl) | (simp only [List.length_map, List.length_append, List.length_cons, List.length_nil, List.length_take, List.length_drop]; omega)))
  refine pLoop.go (fun k => k ≤ ls.length ∧ rightsB ls = rightsB (ls.drop k)) (fun k => [(7, .v (.int .i64 (k : Nat)))]) (fun _ => []) (fun k => ls.length - k) 0 [7] ?_ ?_ ?_
  · exact ⟨Nat.zero_le _, rfl⟩
  · try simp (maxSteps := 2000000) (disch := omega) only [go_sem, seval]
    try repeat ((with_reducible refine And.intro ?_ ?_); focus (first | omega | assumption | exact True.intro | (show anyD _ _ = true; exact rfl) | (simp only [List.length_map, List.length_append, List.length_cons, List.length_nil, List.length_take, List.length_drop]; omega)))
  · rintro k ⟨hk, hm⟩
    try simp (maxSteps := 2000000) (disch := omega) only [go_sem, seval]
    try repeat ((with_reducible refine And.intro ?_ ?_); focus (first | omega | assumption | exact True.intro | (show anyD _ _ = true; exact rfl) | (simp only [List.length_map, List.length_append, List.length_cons, List.length_nil, List.length_take, List.length_drop]; omega)))
    (first | refine brP.mk (fun h => ?_) (fun h => ?_) | refine gdP.mkt (fun h => ?_) (fun h => ?_) | refine gdP.mkf (fun h => ?_) (fun h => ?_) | refine pkP.mk (fun h => ?_) (fun h => ?_)) <;> (try simp only [Bool.not_true, Bool.not_false, decide_eq_true_eq, decide_eq_false_iff_not, Bool.and_eq_true, Bool.or_eq_true, Bool.not_eq_true', Bool.not_eq_false', Bool.and_eq_false_iff, Bool.or_eq_false_iff, Nat.not_lt, Int.not_lt, Nat.not_le, Int.not_le, Int.ofNat_lt, Int.ofNat_le, Int.ofNat_inj, Bool.xor_false, Bool.false_xor, Bool.true_xor, Bool.xor_true] at h) <;> (try simp (maxSteps := 2000000) (disch := omega) only [go_sem, seval]) <;> (try repeat ((with_reducible refine And.intro ?_ ?_); focus (first | omega | assumption | exact True.intro | (show anyD _ _ = true; exact rfl) | (simp only [List.length_map, List.length_append, List.length_cons, List.length_nil, List.length_take, List.length_drop]; omega))))
    · rw [rightsB_drop h] at hm
      (first | refine brP.mk (fun h2 => ?_) (fun h2 => ?_) | refine gdP.mkt (fun h2 => ?_) (fun h2 => ?_) | refine gdP.mkf (fun h2 => ?_) (fun h2 => ?_) | refine pkP.mk (fun h2 => ?_) (fun h2 => ?_)) <;> (try simp only [Bool.not_true, Bool.not_false, decide_eq_true_eq, decide_eq_false_iff_not, Bool.and_eq_true, Bool.or_eq_true, Bool.not_eq_true', Bool.not_eq_false', Bool.and_eq_false_iff, Bool.or_eq_false_iff, Nat.not_lt, Int.not_lt, Nat.not_le, Int.not_le, Int.ofNat_lt, Int.ofNat_le, Int.ofNat_inj, Bool.xor_false, Bool.false_xor, Bool.true_xor, Bool.xor_true] at h2) <;> (try simp (maxSteps := 2000000) (disch := omega) only [go_sem, seval]) <;> (try repeat ((with_reducible refine And.intro ?_ ?_); focus (first | omega | assumption | exact True.intro | (show anyD _ _ = true; exact rfl) | (simp only [List.length_map, List.length_append, List.length_cons, List.length_nil, List.length_take, List.length_drop]; omega))))
      · rw [hm]
        simp
        omega
      · refine callP.mk (right4_c _ (by omega) (hb _ (List.getElem_mem h))) rfl ?_
        try simp (maxSteps := 2000000) (disch := omega) only [go_sem, seval]
        try repeat ((with_reducible refine And.intro ?_ ?_); focus (first | omega | assumption | exact True.intro | (show anyD _ _ = true; exact rfl) | (simp only [List.length_map, List.length_append, List.length_cons, List.length_nil, List.length_take, List.length_drop]; omega)))
        (first | refine brP.mk (fun h3 => ?_) (fun h3 => ?_) | refine gdP.mkt (fun h3 => ?_) (fun h3 => ?_) | refine gdP.mkf (fun h3 => ?_) (fun h3 => ?_) | refine pkP.mk (fun h3 => ?_) (fun h3 => ?_)) <;> (try simp only [Bool.not_true, Bool.not_false, decide_eq_true_eq, decide_eq_false_iff_not, Bool.and_eq_true, Bool.or_eq_true, Bool.not_eq_true', Bool.not_eq_false', Bool.and_eq_false_iff, Bool.or_eq_false_iff, Nat.not_lt, Int.not_lt, Nat.not_le, Int.not_le, Int.ofNat_lt, Int.ofNat_le, Int.ofNat_inj, Bool.xor_false, Bool.false_xor, Bool.true_xor, Bool.xor_true] at h3) <;> (try simp (maxSteps := 2000000) (disch := omega) only [go_sem, seval]) <;> (try repeat ((with_reducible refine And.intro ?_ ?_); focus (first | omega | assumption | exact True.intro | (show anyD _ _ = true; exact rfl) | (simp only [List.length_map, List.length_append, List.length_cons, List.length_nil, List.length_take, List.length_drop]; omega))))
        · rw [hm, h3]
          simp
        · refine ⟨k + 1, ⟨h, ?_⟩, by omega, rfl⟩
          rw [hm, h3]
          simp
          omega
    · rw [List.drop_of_length_le h] at hm
      rw [hm]
      rfl
theorem rightsB_get {ls : List (List Iv)} (h : rightsB ls = true) {l : List Iv} (hl : l ∈ ls) (hb : ∀ s ∈ l, s.hi < M64) : Nrm l ∧ l.length ≤ 60 := by
  have := List.all_eq_true.1 h l hl
  simp only [Bool.and_eq_true, decide_eq_true_eq] at this
  exact ⟨(rightB_iff hb).1 this.2, this.1⟩
theorem n23 : Nrm [⟨2, 3⟩, ⟨9, 9⟩] := by simp [Nrm, NF, M64_val]
theorem n01 : Nrm [⟨0, 1⟩, ⟨4, 8⟩] := by simp [Nrm, NF, M64_val]
theorem n09 : Nrm [⟨0, 9⟩] := by simp [Nrm, NF, M64_val]
theorem e1 : opS fMinus [⟨0, 9⟩] [⟨2, 3⟩, ⟨9, 9⟩] = [⟨0, 1⟩, ⟨4, 8⟩] := opS_eq n09 n23 n01 fun x _ => by rw [Bool.eq_iff_iff]; simp [mem, fMinus]; omega
theorem e2 : opS fUnion [⟨2, 3⟩, ⟨9, 9⟩] [⟨0, 1⟩, ⟨4, 8⟩] = [⟨0, 9⟩] := opS_eq n23 n01 n09 fun x _ => by rw [Bool.eq_iff_iff]; simp [mem, fUnion]; omega
theorem e4 : opS fMinus [⟨2, 3⟩, ⟨9, 9⟩] [⟨0, 1⟩, ⟨4, 8⟩] = [⟨2, 3⟩, ⟨9, 9⟩] := opS_eq n23 n01 n23 fun x _ => by rw [Bool.eq_iff_iff]; simp [mem, fMinus]; omega
theorem e5 : opS fMeet [⟨2, 3⟩, ⟨9, 9⟩] [⟨0, 1⟩, ⟨4, 8⟩] = [] := opS_eq n23 n01 trivial fun x _ => by rw [Bool.eq_iff_iff]; simp [mem, fMeet]; omega
theorem e6 : opS fMinus [⟨2, 3⟩, ⟨9, 9⟩] [⟨0, 1⟩, ⟨4, 8⟩] = [⟨2, 3⟩, ⟨9, 9⟩] := opS_eq n23 n01 n23 fun x _ => by rw [Bool.eq_iff_iff]; simp [mem, fMinus]; omega
set_option maxHeartbeats 1000000 in
theorem alive5_c : Cn Tryd.prog 18 [] (.v (.bool true)) := by
  refine cn_go Tryd.func18 [] 0 (by kernel_rfl) rfl (by simp [go_sem, seval]) ?_
  conv => arg 4; cbv
  conv => enter [5, 1]; cbv
  try simp (maxSteps := 2000000) (disch := omega) only [go_sem, seval]
  try repeat ((with_reducible refine And.intro ?_ ?_); focus (first | omega | assumption | exact True.intro | (show anyD _ _ = true; exact rfl) | (simp only [List.length_map, List.length_append, List.length_cons, List.length_nil, List.length_take, List.length_drop]; omega)))
  (first | refine callP.mk (not_c [⟨2, 3⟩, ⟨9, 9⟩] ⟨0, 9⟩ n23 (by decide) (by decide) (by decide)) rfl ?_ | refine callQ.mk (not_c [⟨2, 3⟩, ⟨9, 9⟩] ⟨0, 9⟩ n23 (by decide) (by decide) (by decide)) rfl ?_ | refine callO.rd (not_c [⟨2, 3⟩, ⟨9, 9⟩] ⟨0, 9⟩ n23 (by decide) (by decide) (by decide)) rfl ?_ | refine callO.mk (not_c [⟨2, 3⟩, ⟨9, 9⟩] ⟨0, 9⟩ n23 (by decide) (by decide) (by decide)) rfl ?_)
  rw [e1]
  try simp (maxSteps := 2000000) (disch := omega) only [go_sem, seval]
  try repeat ((with_reducible refine And.intro ?_ ?_); focus (first | omega | assumption | exact True.intro | (show anyD _ _ = true; exact rfl) | (simp only [List.length_map, List.length_append, List.length_cons, List.length_nil, List.length_take, List.length_drop]; omega)))
  (first | refine callP.mk (same4_c [⟨0, 1⟩, ⟨4, 8⟩] [⟨0, 1⟩, ⟨4, 8⟩] (by decide)) rfl ?_ | refine callQ.mk (same4_c [⟨0, 1⟩, ⟨4, 8⟩] [⟨0, 1⟩, ⟨4, 8⟩] (by decide)) rfl ?_ | refine callO.rd (same4_c [⟨0, 1⟩, ⟨4, 8⟩] [⟨0, 1⟩, ⟨4, 8⟩] (by decide)) rfl ?_ | refine callO.mk (same4_c [⟨0, 1⟩, ⟨4, 8⟩] [⟨0, 1⟩, ⟨4, 8⟩] (by decide)) rfl ?_)
  try simp (maxSteps := 2000000) (disch := omega) only [go_sem, seval]
  try repeat ((with_reducible refine And.intro ?_ ?_); focus (first | omega | assumption | exact True.intro | (show anyD _ _ = true; exact rfl) | (simp only [List.length_map, List.length_append, List.length_cons, List.length_nil, List.length_take, List.length_drop]; omega)))
  (first | refine callP.mk (union_c [⟨2, 3⟩, ⟨9, 9⟩] [⟨0, 1⟩, ⟨4, 8⟩] n23 n01 (by decide)) rfl ?_ | refine callQ.mk (union_c [⟨2, 3⟩, ⟨9, 9⟩] [⟨0, 1⟩, ⟨4, 8⟩] n23 n01 (by decide)) rfl ?_ | refine callO.rd (union_c [⟨2, 3⟩, ⟨9, 9⟩] [⟨0, 1⟩, ⟨4, 8⟩] n23 n01 (by decide)) rfl ?_ | refine callO.mk (union_c [⟨2, 3⟩, ⟨9, 9⟩] [⟨0, 1⟩, ⟨4, 8⟩] n23 n01 (by decide)) rfl ?_)
  rw [e2]
  try simp (maxSteps := 2000000) (disch := omega) only [go_sem, seval]
  try repeat ((with_reducible refine And.intro ?_ ?_); focus (first | omega | assumption | exact True.intro | (show anyD _ _ = true; exact rfl) | (simp only [List.length_map, List.length_append, List.length_cons, List.length_nil, List.length_take, List.length_drop]; omega)))
  (first | refine callP.mk (same4_c [⟨0, 9⟩] [⟨0, 9⟩] (by decide)) rfl ?_ | refine callQ.mk (same4_c [⟨0, 9⟩] [⟨0, 9⟩] (by decide)) rfl ?_ | refine callO.rd (same4_c [⟨0, 9⟩] [⟨0, 9⟩] (by decide)) rfl ?_ | refine callO.mk (same4_c [⟨0, 9⟩] [⟨0, 9⟩] (by decide)) rfl ?_)
  try simp (maxSteps := 2000000) (disch := omega) only [go_sem, seval]
  try repeat ((with_reducible refine And.intro ?_ ?_); focus (first | omega | assumption | exact True.intro | (show anyD _ _ = true; exact rfl) | (simp only [List.length_map, List.length_append, List.length_cons, List.length_nil, List.length_take, List.length_drop]; omega)))
  (first | refine callP.mk (disjoint_c [⟨2, 3⟩, ⟨9, 9⟩] [⟨0, 1⟩, ⟨4, 8⟩] n23 n01) rfl ?_ | refine callQ.mk (disjoint_c [⟨2, 3⟩, ⟨9, 9⟩] [⟨0, 1⟩, ⟨4, 8⟩] n23 n01) rfl ?_ | refine callO.rd (disjoint_c [⟨2, 3⟩, ⟨9, 9⟩] [⟨0, 1⟩, ⟨4, 8⟩] n23 n01) rfl ?_ | refine callO.mk (disjoint_c [⟨2, 3⟩, ⟨9, 9⟩] [⟨0, 1⟩, ⟨4, 8⟩] n23 n01) rfl ?_)
  rw [e5]
  try simp (maxSteps := 2000000) (disch := omega) only [go_sem, seval]
  try repeat ((with_reducible refine And.intro ?_ ?_); focus (first | omega | assumption | exact True.intro | (show anyD _ _ = true; exact rfl) | (simp only [List.length_map, List.length_append, List.length_cons, List.length_nil, List.length_take, List.length_drop]; omega)))
  (first | refine callP.mk (subset_c [⟨2, 3⟩, ⟨9, 9⟩] [⟨0, 1⟩, ⟨4, 8⟩] n23 n01) rfl ?_ | refine callQ.mk (subset_c [⟨2, 3⟩, ⟨9, 9⟩] [⟨0, 1⟩, ⟨4, 8⟩] n23 n01) rfl ?_ | refine callO.rd (subset_c [⟨2, 3⟩, ⟨9, 9⟩] [⟨0, 1⟩, ⟨4, 8⟩] n23 n01) rfl ?_ | refine callO.mk (subset_c [⟨2, 3⟩, ⟨9, 9⟩] [⟨0, 1⟩, ⟨4, 8⟩] n23 n01) rfl ?_)
  rw [e4]
  try simp (maxSteps := 2000000) (disch := omega) only [go_sem, seval]
  try repeat ((with_reducible refine And.intro ?_ ?_); focus (first | omega | assumption | exact True.intro | (show anyD _ _ = true; exact rfl) | (simp only [List.length_map, List.length_append, List.length_cons, List.length_nil, List.length_take, List.length_drop]; omega)))
  (first | refine callP.mk (meet_c [⟨2, 3⟩, ⟨9, 9⟩] [⟨0, 1⟩, ⟨4, 8⟩] n23 n01 (by decide)) rfl ?_ | refine callQ.mk (meet_c [⟨2, 3⟩, ⟨9, 9⟩] [⟨0, 1⟩, ⟨4, 8⟩] n23 n01 (by decide)) rfl ?_ | refine callO.rd (meet_c [⟨2, 3⟩, ⟨9, 9⟩] [⟨0, 1⟩, ⟨4, 8⟩] n23 n01 (by decide)) rfl ?_ | refine callO.mk (meet_c [⟨2, 3⟩, ⟨9, 9⟩] [⟨0, 1⟩, ⟨4, 8⟩] n23 n01 (by decide)) rfl ?_)
  rw [e5]
  try simp (maxSteps := 2000000) (disch := omega) only [go_sem, seval]
  try repeat ((with_reducible refine And.intro ?_ ?_); focus (first | omega | assumption | exact True.intro | (show anyD _ _ = true; exact rfl) | (simp only [List.length_map, List.length_append, List.length_cons, List.length_nil, List.length_take, List.length_drop]; omega)))
  (first | refine callP.mk (minus_c [⟨2, 3⟩, ⟨9, 9⟩] [⟨0, 1⟩, ⟨4, 8⟩] n23 n01 (by decide)) rfl ?_ | refine callQ.mk (minus_c [⟨2, 3⟩, ⟨9, 9⟩] [⟨0, 1⟩, ⟨4, 8⟩] n23 n01 (by decide)) rfl ?_ | refine callO.rd (minus_c [⟨2, 3⟩, ⟨9, 9⟩] [⟨0, 1⟩, ⟨4, 8⟩] n23 n01 (by decide)) rfl ?_ | refine callO.mk (minus_c [⟨2, 3⟩, ⟨9, 9⟩] [⟨0, 1⟩, ⟨4, 8⟩] n23 n01 (by decide)) rfl ?_)
  rw [e6]
  try simp (maxSteps := 2000000) (disch := omega) only [go_sem, seval]
  try repeat ((with_reducible refine And.intro ?_ ?_); focus (first | omega | assumption | exact True.intro | (show anyD _ _ = true; exact rfl) | (simp only [List.length_map, List.length_append, List.length_cons, List.length_nil, List.length_take, List.length_drop]; omega)))
  (first | refine callP.mk (same4_c [⟨2, 3⟩, ⟨9, 9⟩] [⟨2, 3⟩, ⟨9, 9⟩] (by decide)) rfl ?_ | refine callQ.mk (same4_c [⟨2, 3⟩, ⟨9, 9⟩] [⟨2, 3⟩, ⟨9, 9⟩] (by decide)) rfl ?_ | refine callO.rd (same4_c [⟨2, 3⟩, ⟨9, 9⟩] [⟨2, 3⟩, ⟨9, 9⟩] (by decide)) rfl ?_ | refine callO.mk (same4_c [⟨2, 3⟩, ⟨9, 9⟩] [⟨2, 3⟩, ⟨9, 9⟩] (by decide)) rfl ?_)
  try simp (maxSteps := 2000000) (disch := omega) only [go_sem, seval]
  try repeat ((with_reducible refine And.intro ?_ ?_); focus (first | omega | assumption | exact True.intro | (show anyD _ _ = true; exact rfl) | (simp only [List.length_map, List.length_append, List.length_cons, List.length_nil, List.length_take, List.length_drop]; omega)))
end Go.Proofs.YtcedofkenfddkaaDoor
/- SetopsMatch, SetopsNot and SetopsRelate return true. -/
namespace Go.Proofs.YtcedofkenfddkaaDoor
set_option linter.unusedVariables false
set_option linter.unusedSimpArgs false
open Go.RowKit
set_option maxRecDepth 100000
def BdR (l : List Iv) : Prop := ∀ s ∈ l, s.lo < M64 ∧ s.hi < M64
theorem bd_all2 {a b : List Iv} (ha : BdR a) (hb : BdR b) : ∀ l ∈ [a, b], ∀ s ∈ l, s.lo < M64 ∧ s.hi < M64 := by
  intro l hl
  simp at hl
  rcases hl with rfl | rfl <;> assumption
theorem rights2 {a b : List Iv} (h : rightsB [a, b] = true) (ha : BdR a) (hb : BdR b) : (Nrm a ∧ a.length ≤ 60) ∧ Nrm b ∧ b.length ≤ 60 :=
  ⟨rightsB_get h (by simp) fun s hs => (ha s hs).2, rightsB_get h (by simp) fun s hs => (hb s hs).2⟩
theorem rights1 {a : List Iv} (h : rightsB [a] = true) (ha : BdR a) : Nrm a ∧ a.length ≤ 60 := rightsB_get h (by simp) fun s hs => (ha s hs).2
end Go.Proofs.YtcedofkenfddkaaDoor
/- The contracts of the references of the layers 7 and 8. -/
namespace Go.Proofs.YtcedofkenfddkaaDoor
set_option linter.unusedVariables false
set_option linter.unusedSimpArgs false
open Go.RowKit
set_option maxRecDepth 100000
/-- An entry's cells. -/
def ec (e : En) : List PV := [.v (.int .u64 e.rep), .v (.int .u64 e.max), rg e.holes]
def ep (e : En) : PV := .agg (ec e)
attribute [go_sem] ep ec
theorem same7_c (a b : En) (hl : a.holes.length ≤ 1152921504606846976) : Cn Tryd.prog 34 [ep a, ep b] (.v (.bool (decide (a = b)))) := by
  refine cn_go Tryd.func34 [] 2 (by kernel_rfl) rfl (by simp [go_sem, seval]) ?_
  conv => arg 4; cbv
  conv => enter [5, 1]; cbv
  try simp (maxSteps := 2000000) (disch := omega) only [go_sem, seval]
  try repeat ((with_reducible refine And.intro ?_ ?_); focus (first | omega | assumption | exact True.intro | (show anyD _ _ = true; exact rfl) | (simp only [List.length_map, List.length_append, List.length_cons, List.length_nil, List.length_take, List.length_drop]; omega)))
  have key : (a = b) ↔ (a.rep = b.rep ∧ a.max = b.max ∧ a.holes = b.holes) := ⟨fun h => by subst h; exact ⟨rfl, rfl, rfl⟩, fun h => En.ext' h.1 h.2.1 h.2.2⟩
  (first | refine brP.mk (fun h1 => ?_) (fun h1 => ?_) | refine gdP.mkt (fun h1 => ?_) (fun h1 => ?_) | refine gdP.mkf (fun h1 => ?_) (fun h1 => ?_) | refine pkP.mk (fun h1 => ?_) (fun h1 => ?_)) <;> (try simp only [Bool.not_true, Bool.not_false, decide_eq_true_eq, decide_eq_false_iff_not, Bool.and_eq_true, Bool.or_eq_true, Bool.not_eq_true', Bool.not_eq_false', Bool.and_eq_false_iff, Bool.or_eq_false_iff, Nat.not_lt, Int.not_lt, Nat.not_le, Int.not_le, Int.ofNat_lt, Int.ofNat_le, Int.ofNat_inj, Bool.xor_false, Bool.false_xor, Bool.true_xor, Bool.xor_true] at h1) <;> (try simp (maxSteps := 2000000) (disch := omega) only [go_sem, seval]) <;> (try repeat ((with_reducible refine And.intro ?_ ?_); focus (first | omega | assumption | exact True.intro | (show anyD _ _ = true; exact rfl) | (simp only [List.length_map, List.length_append, List.length_cons, List.length_nil, List.length_take, List.length_drop]; omega))))
  · (first | refine brP.mk (fun h2 => ?_) (fun h2 => ?_) | refine gdP.mkt (fun h2 => ?_) (fun h2 => ?_) | refine gdP.mkf (fun h2 => ?_) (fun h2 => ?_) | refine pkP.mk (fun h2 => ?_) (fun h2 => ?_)) <;> (try simp only [Bool.not_true, Bool.not_false, decide_eq_true_eq, decide_eq_false_iff_not, Bool.and_eq_true, Bool.or_eq_true, Bool.not_eq_true', Bool.not_eq_false', Bool.and_eq_false_iff, Bool.or_eq_false_iff, Nat.not_lt, Int.not_lt, Nat.not_le, Int.not_le, Int.ofNat_lt, Int.ofNat_le, Int.ofNat_inj, Bool.xor_false, Bool.false_xor, Bool.true_xor, Bool.xor_true] at h2) <;> (try simp (maxSteps := 2000000) (disch := omega) only [go_sem, seval]) <;> (try repeat ((with_reducible refine And.intro ?_ ?_); focus (first | omega | assumption | exact True.intro | (show anyD _ _ = true; exact rfl) | (simp only [List.length_map, List.length_append, List.length_cons, List.length_nil, List.length_take, List.length_drop]; omega))))
    · (first | refine callP.mk (same4_c a.holes b.holes hl) rfl ?_ | refine callQ.mk (same4_c a.holes b.holes hl) rfl ?_ | refine callO.rd (same4_c a.holes b.holes hl) rfl ?_ | refine callO.mk (same4_c a.holes b.holes hl) rfl ?_)
      try simp (maxSteps := 2000000) (disch := omega) only [go_sem, seval]
      try repeat ((with_reducible refine And.intro ?_ ?_); focus (first | omega | assumption | exact True.intro | (show anyD _ _ = true; exact rfl) | (simp only [List.length_map, List.length_append, List.length_cons, List.length_nil, List.length_take, List.length_drop]; omega)))
      simp [key, h1, h2]
    · simp [key, h2]
  · simp [key, h1]
def hk (m : Nat) : List Iv → Nat → Nat × Int
  | [], _ => (0, -1)
  | s :: r, i => if m < s.hi then (4, (i : Int)) else hk m r (i + 1)
/-- The error of an entry, and its index. -/
def chkE (e : En) : Nat × Int := if (chk e.holes).1 = 0 then hk e.max e.holes 0 else chk e.holes
theorem hk_zero (m : Nat) : ∀ (l : List Iv) (i : Nat), (hk m l i).1 = 0 ↔ ∀ s ∈ l, s.hi ≤ m
  | [], i => by simp [hk]
  | s :: r, i => by
    have := hk_zero m r (i + 1)
    unfold hk
    split
    · simp; omega
    · rw [this]; simp; omega
theorem hk_step {m : Nat} {l : List Iv} {k : Nat} (h : k < l.length) : hk m (l.drop k) k = if m < l[k].hi then (4, (k : Int)) else hk m (l.drop (k + 1)) (k + 1) := by
  rw [List.drop_eq_getElem_cons h]; rfl
def rightEB (e : En) : Bool := decide ((chkE e).1 = 0)
theorem rightEB_iff {e : En} (h : ∀ s ∈ e.holes, s.lo < M64 ∧ s.hi < M64) (h1 : e.max < M64) (h2 : e.rep < M64) : rightEB e = true ↔ RightE e := by
  have hn := chk_nrm (l := e.holes) fun s hs => (h s hs).2
  have hz := hk_zero e.max e.holes 0
  unfold rightEB chkE RightE
  rw [decide_eq_true_eq]
  by_cases h' : (chk e.holes).1 = 0
  · rw [if_pos h', hz]
    exact ⟨fun g => ⟨hn.1 h', g, h1, h2⟩, fun g => g.2.1⟩
  · rw [if_neg h']
    exact ⟨fun g => absurd g h', fun g => absurd (hn.2 g.1) h'⟩
theorem check7_c (e : En) (hl : e.holes.length ≤ 1152921504606846976) (hb : ∀ s ∈ e.holes, s.lo < M64 ∧ s.hi < M64) : Cn Tryd.prog 38 [ep e] (.tup [.v (.int .i64 (chkE e).1), .v (.int .i64 (chkE e).2)]) := by
  refine cn_go Tryd.func38 [] 1 (by kernel_rfl) rfl (by simp [go_sem, seval]) ?_
  conv => arg 4; cbv
  conv => enter [5, 1]; cbv
  try simp (maxSteps := 2000000) (disch := omega) only [go_sem, seval]
  try repeat ((with_reducible refine And.intro ?_ ?_); focus (first | omega | assumption | exact True.intro | (show anyD _ _ = true; exact rfl) | (simp only [List.length_map, List.length_append, List.length_cons, List.length_nil, List.length_take, List.length_drop]; omega)))
  (first | refine callP.mk (check4_c e.holes hl hb) rfl ?_ | refine callQ.mk (check4_c e.holes hl hb) rfl ?_ | refine callO.rd (check4_c e.holes hl hb) rfl ?_ | refine callO.mk (check4_c e.holes hl hb) rfl ?_)
  try simp (maxSteps := 2000000) (disch := omega) only [go_sem, seval]
  try repeat ((with_reducible refine And.intro ?_ ?_); focus (first | omega | assumption | exact True.intro | (show anyD _ _ = true; exact rfl) | (simp only [List.length_map, List.length_append, List.length_cons, List.length_nil, List.length_take, List.length_drop]; omega)))
  (first | refine brP.mk (fun h => ?_) (fun h => ?_) | refine gdP.mkt (fun h => ?_) (fun h => ?_) | refine gdP.mkf (fun h => ?_) (fun h => ?_) | refine pkP.mk (fun h => ?_) (fun h => ?_)) <;> (try simp only [Bool.not_true, Bool.not_false, decide_eq_true_eq, decide_eq_false_iff_not, Bool.and_eq_true, Bool.or_eq_true, Bool.not_eq_true', Bool.not_eq_false', Bool.and_eq_false_iff, Bool.or_eq_false_iff, Nat.not_lt, Int.not_lt, Nat.not_le, Int.not_le, Int.ofNat_lt, Int.ofNat_le, Int.ofNat_inj, Bool.xor_false, Bool.false_xor, Bool.true_xor, Bool.xor_true] at h) <;> (try simp (maxSteps := 2000000) (disch := omega) only [go_sem, seval]) <;> (try repeat ((with_reducible refine And.intro ?_ ?_); focus (first | omega | assumption | exact True.intro | (show anyD _ _ = true; exact rfl) | (simp only [List.length_map, List.length_append, List.length_cons, List.length_nil, List.length_take, List.length_drop]; omega))))
  · unfold chkE
    rw [if_neg (by omega)]
  · refine pLoop.go (fun k => k ≤ e.holes.length ∧ chkE e = hk e.max (e.holes.drop k) k) (fun k => [(6, .v (.int .i64 (k : Nat)))]) (fun _ => [ec e]) (fun k => e.holes.length - k) 0 [6] ?_ ?_ ?_
    · refine ⟨Nat.zero_le _, ?_⟩
      unfold chkE
      rw [if_pos (by omega)]; rfl
    · try simp (maxSteps := 2000000) (disch := omega) only [go_sem, seval]
      try repeat ((with_reducible refine And.intro ?_ ?_); focus (first | omega | assumption | exact True.intro | (show anyD _ _ = true; exact rfl) | (simp only [List.length_map, List.length_append, List.length_cons, List.length_nil, List.length_take, List.length_drop]; omega)))
    · rintro k ⟨hk1, hm⟩
      try simp (maxSteps := 2000000) (disch := omega) only [go_sem, seval]
      try repeat ((with_reducible refine And.intro ?_ ?_); focus (first | omega | assumption | exact True.intro | (show anyD _ _ = true; exact rfl) | (simp only [List.length_map, List.length_append, List.length_cons, List.length_nil, List.length_take, List.length_drop]; omega)))
      (first | refine brP.mk (fun h1 => ?_) (fun h1 => ?_) | refine gdP.mkt (fun h1 => ?_) (fun h1 => ?_) | refine gdP.mkf (fun h1 => ?_) (fun h1 => ?_) | refine pkP.mk (fun h1 => ?_) (fun h1 => ?_)) <;> (try simp only [Bool.not_true, Bool.not_false, decide_eq_true_eq, decide_eq_false_iff_not, Bool.and_eq_true, Bool.or_eq_true, Bool.not_eq_true', Bool.not_eq_false', Bool.and_eq_false_iff, Bool.or_eq_false_iff, Nat.not_lt, Int.not_lt, Nat.not_le, Int.not_le, Int.ofNat_lt, Int.ofNat_le, Int.ofNat_inj, Bool.xor_false, Bool.false_xor, Bool.true_xor, Bool.xor_true] at h1) <;> (try simp (maxSteps := 2000000) (disch := omega) only [go_sem, seval]) <;> (try repeat ((with_reducible refine And.intro ?_ ?_); focus (first | omega | assumption | exact True.intro | (show anyD _ _ = true; exact rfl) | (simp only [List.length_map, List.length_append, List.length_cons, List.length_nil, List.length_take, List.length_drop]; omega))))
      · rw [hk_step h1] at hm
        (first | refine brP.mk (fun h2 => ?_) (fun h2 => ?_) | refine gdP.mkt (fun h2 => ?_) (fun h2 => ?_) | refine gdP.mkf (fun h2 => ?_) (fun h2 => ?_) | refine pkP.mk (fun h2 => ?_) (fun h2 => ?_)) <;> (try simp only [Bool.not_true, Bool.not_false, decide_eq_true_eq, decide_eq_false_iff_not, Bool.and_eq_true, Bool.or_eq_true, Bool.not_eq_true', Bool.not_eq_false', Bool.and_eq_false_iff, Bool.or_eq_false_iff, Nat.not_lt, Int.not_lt, Nat.not_le, Int.not_le, Int.ofNat_lt, Int.ofNat_le, Int.ofNat_inj, Bool.xor_false, Bool.false_xor, Bool.true_xor, Bool.xor_true] at h2) <;> (try simp (maxSteps := 2000000) (disch := omega) only [go_sem, seval]) <;> (try repeat ((with_reducible refine And.intro ?_ ?_); focus (first | omega | assumption | exact True.intro | (show anyD _ _ = true; exact rfl) | (simp only [List.length_map, List.length_append, List.length_cons, List.length_nil, List.length_take, List.length_drop]; omega))))
        · rw [hm, if_pos h2]
          simp
        · rw [if_neg (by omega)] at hm
          exact ⟨k + 1, ⟨h1, hm⟩, by omega, rfl⟩
      · rw [List.drop_of_length_le h1] at hm
        rw [hm]
        simp [hk]
theorem right7_c (e : En) (hl : e.holes.length ≤ 1152921504606846976) (hb : ∀ s ∈ e.holes, s.lo < M64 ∧ s.hi < M64) : Cn Tryd.prog 24 [ep e] (.v (.bool (rightEB e))) := by
  refine cn_go Tryd.func24 [] 1 (by kernel_rfl) rfl (by simp [go_sem, seval]) ?_
  conv => arg 4; cbv
  conv => enter [5, 1]; cbv
  try simp (maxSteps := 2000000) (disch := omega) only [go_sem, seval]
  try repeat ((with_reducible refine And.intro ?_ ?_); focus (first | omega | assumption | exact True.intro | (show anyD _ _ = true; exact rfl) | (simp only [List.length_map, List.length_append, List.length_cons, List.length_nil, List.length_take, List.length_drop]; omega)))
  (first | refine callP.mk (check7_c e hl hb) rfl ?_ | refine callQ.mk (check7_c e hl hb) rfl ?_ | refine callO.rd (check7_c e hl hb) rfl ?_ | refine callO.mk (check7_c e hl hb) rfl ?_)
  try simp (maxSteps := 2000000) (disch := omega) only [go_sem, seval]
  try repeat ((with_reducible refine And.intro ?_ ?_); focus (first | omega | assumption | exact True.intro | (show anyD _ _ = true; exact rfl) | (simp only [List.length_map, List.length_append, List.length_cons, List.length_nil, List.length_take, List.length_drop]; omega)))
  rfl
theorem known7_c (e : En) (h : RightE e) (hl : e.holes.length ≤ 131072) : Cn Tryd.prog 30 [ep e] (rg (kn e)) := by
  refine cn_go Tryd.func30 [] 1 (by kernel_rfl) rfl (by simp [go_sem, seval]) ?_
  conv => arg 4; cbv
  conv => enter [5, 1]; cbv
  try simp (maxSteps := 2000000) (disch := omega) only [go_sem, seval]
  try repeat ((with_reducible refine And.intro ?_ ?_); focus (first | omega | assumption | exact True.intro | (show anyD _ _ = true; exact rfl) | (simp only [List.length_map, List.length_append, List.length_cons, List.length_nil, List.length_take, List.length_drop]; omega)))
  (first | refine callP.mk (refMinus_c [⟨0, e.max⟩] e.holes (nrm_one (Nat.zero_le _) h.2.2.1) h.1 (by simp) hl) rfl ?_ | refine callQ.mk (refMinus_c [⟨0, e.max⟩] e.holes (nrm_one (Nat.zero_le _) h.2.2.1) h.1 (by simp) hl) rfl ?_ | refine callO.rd (refMinus_c [⟨0, e.max⟩] e.holes (nrm_one (Nat.zero_le _) h.2.2.1) h.1 (by simp) hl) rfl ?_ | refine callO.mk (refMinus_c [⟨0, e.max⟩] e.holes (nrm_one (Nat.zero_le _) h.2.2.1) h.1 (by simp) hl) rfl ?_)
  try simp (maxSteps := 2000000) (disch := omega) only [go_sem, seval]
  try repeat ((with_reducible refine And.intro ?_ ?_); focus (first | omega | assumption | exact True.intro | (show anyD _ _ = true; exact rfl) | (simp only [List.length_map, List.length_append, List.length_cons, List.length_nil, List.length_take, List.length_drop]; omega)))
  rfl
theorem of7_c (r : Nat) (l : List Iv) (hl : Nrm l) (h1 : l.length ≤ 131072) : Cn Tryd.prog 33 [.v (.int .u64 r), rg l] (.tup [ep (ofS r l).1, .v (.bool (ofS r l).2)]) := by
  refine cn_go Tryd.func33 [] 2 (by kernel_rfl) rfl (by simp [go_sem, seval]) ?_
  conv => arg 4; cbv
  conv => enter [5, 1]; cbv
  try simp (maxSteps := 2000000) (disch := omega) only [go_sem, seval]
  try repeat ((with_reducible refine And.intro ?_ ?_); focus (first | omega | assumption | exact True.intro | (show anyD _ _ = true; exact rfl) | (simp only [List.length_map, List.length_append, List.length_cons, List.length_nil, List.length_take, List.length_drop]; omega)))
  (first | refine brP.mk (fun h => ?_) (fun h => ?_) | refine gdP.mkt (fun h => ?_) (fun h => ?_) | refine gdP.mkf (fun h => ?_) (fun h => ?_) | refine pkP.mk (fun h => ?_) (fun h => ?_)) <;> (try simp only [Bool.not_true, Bool.not_false, decide_eq_true_eq, decide_eq_false_iff_not, Bool.and_eq_true, Bool.or_eq_true, Bool.not_eq_true', Bool.not_eq_false', Bool.and_eq_false_iff, Bool.or_eq_false_iff, Nat.not_lt, Int.not_lt, Nat.not_le, Int.not_le, Int.ofNat_lt, Int.ofNat_le, Int.ofNat_inj, Bool.xor_false, Bool.false_xor, Bool.true_xor, Bool.xor_true] at h) <;> (try simp (maxSteps := 2000000) (disch := omega) only [go_sem, seval]) <;> (try repeat ((with_reducible refine And.intro ?_ ?_); focus (first | omega | assumption | exact True.intro | (show anyD _ _ = true; exact rfl) | (simp only [List.length_map, List.length_append, List.length_cons, List.length_nil, List.length_take, List.length_drop]; omega))))
  · subst h
    rfl
  · have hp : 0 < l.length := List.length_pos_iff.2 (by simpa using h)
    have ht := top_at hp
    have hM := (top_mem hl (by simpa using h)).2
    try simp (maxSteps := 2000000) (disch := omega) only [go_sem, seval, ht]
    try repeat ((with_reducible refine And.intro ?_ ?_); focus (first | omega | assumption | exact True.intro | (show anyD _ _ = true; exact rfl) | (simp only [List.length_map, List.length_append, List.length_cons, List.length_nil, List.length_take, List.length_drop]; omega)))
    (first | refine callP.mk (refMinus_c [⟨0, top l⟩] l (nrm_one (Nat.zero_le _) hM) hl (by simp) h1) rfl ?_ | refine callQ.mk (refMinus_c [⟨0, top l⟩] l (nrm_one (Nat.zero_le _) hM) hl (by simp) h1) rfl ?_ | refine callO.rd (refMinus_c [⟨0, top l⟩] l (nrm_one (Nat.zero_le _) hM) hl (by simp) h1) rfl ?_ | refine callO.mk (refMinus_c [⟨0, top l⟩] l (nrm_one (Nat.zero_le _) hM) hl (by simp) h1) rfl ?_)
    try simp (maxSteps := 2000000) (disch := omega) only [go_sem, seval]
    try repeat ((with_reducible refine And.intro ?_ ?_); focus (first | omega | assumption | exact True.intro | (show anyD _ _ = true; exact rfl) | (simp only [List.length_map, List.length_append, List.length_cons, List.length_nil, List.length_take, List.length_drop]; omega)))
    rw [ofS_cons (by simpa using h)]
end Go.Proofs.YtcedofkenfddkaaDoor
