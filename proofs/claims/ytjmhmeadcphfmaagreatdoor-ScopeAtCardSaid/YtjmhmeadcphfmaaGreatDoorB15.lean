import Derived.Test.YtjmhmeadcphfmaaGreatDoorProg
import Derived.Test.YtjmhmeadcphfmaaGreatDoorRows
import Derived.ChangeSame
import Derived.ChangeVars
import Derived.JoinedOf
import Derived.RowKit
import Derived.RowKitTokens
import Derived.LaidLaws
import Derived.LaidHandle
import Derived.Stop.Joined
import Derived.Test.YtjmhmeadcphfmaaGreatDoorB14
namespace Go.Proofs.YtjmhmeadcphfmaaGreatDoor
set_option linter.unusedVariables false
set_option linter.unusedSimpArgs false
open Go.RowKit
set_option maxRecDepth 100000
theorem has3_c (s : Iv) (x : Nat) : Cn Tryz.prog 84 [ivp s, .v (.int .u64 x)] (.v (.bool (decide (s.lo ≤ x) && decide (x ≤ s.hi)))) := by
  refine cn_go Tryz.func84 [] 2 (by kernel_rfl) rfl (by simp [go_sem, seval]) ?_
  conv => arg 4; cbv
  conv => enter [5, 1]; cbv
  try simp (maxSteps := 2000000) (disch := omega) only [go_sem, seval]
  try repeat ((with_reducible refine And.intro ?_ ?_); focus (first | omega | assumption | exact True.intro | (show anyD _ _ = true; exact rfl) | (simp only [List.length_map, List.length_append, List.length_cons, List.length_nil, List.length_take, List.length_drop]; omega)))
  (first | refine brP.mk (fun h => ?_) (fun h => ?_) | refine gdP.mkt (fun h => ?_) (fun h => ?_) | refine gdP.mkf (fun h => ?_) (fun h => ?_) | refine pkP.mk (fun h => ?_) (fun h => ?_)) <;> (try simp only [Bool.not_true, Bool.not_false, decide_eq_true_eq, decide_eq_false_iff_not, Bool.and_eq_true, Bool.or_eq_true, Bool.not_eq_true', Bool.not_eq_false', Bool.and_eq_false_iff, Bool.or_eq_false_iff, Nat.not_lt, Int.not_lt, Nat.not_le, Int.not_le, Int.ofNat_lt, Int.ofNat_le, Int.ofNat_inj, Bool.xor_false, Bool.false_xor, Bool.true_xor, Bool.xor_true] at h) <;> (try simp (maxSteps := 2000000) (disch := omega) only [go_sem, seval]) <;> (try repeat ((with_reducible refine And.intro ?_ ?_); focus (first | omega | assumption | exact True.intro | (show anyD _ _ = true; exact rfl) | (simp only [List.length_map, List.length_append, List.length_cons, List.length_nil, List.length_take, List.length_drop]; omega))))
  · simp [h]
  · simp; omega
theorem mem_drop {l : List Iv} {k x : Nat} (h : k < l.length) : mem (l.drop k) x = ((decide (l[k].lo ≤ x) && decide (x ≤ l[k].hi)) || mem (l.drop (k + 1)) x) := by
  rw [List.drop_eq_getElem_cons h]; rfl
theorem has4_c (l : List Iv) (x : Nat) (hl : l.length ≤ 1152921504606846976) : Cn Tryz.prog 32 [rg l, .v (.int .u64 x)] (.v (.bool (mem l x))) := by
  refine cn_go Tryz.func32 [] 2 (by kernel_rfl) rfl (by simp [go_sem, seval]) ?_
  conv => arg 4; cbv
  conv => enter [5, 1]; cbv
  try simp (maxSteps := 2000000) (disch := omega) only [go_sem, seval]
  try repeat ((with_reducible refine And.intro ?_ ?_); focus (first | omega | assumption | exact True.intro | (show anyD _ _ = true; exact rfl) | (simp only [List.length_map, List.length_append, List.length_cons, List.length_nil, List.length_take, List.length_drop]; omega)))
  refine pLoop.go (fun k => k ≤ l.length ∧ mem l x = mem (l.drop k) x) (fun k => [(5, .v (.int .i64 (k : Nat)))]) (fun _ => []) (fun k => l.length - k) 0 [5] ?_ ?_ ?_
  · exact ⟨Nat.zero_le _, rfl⟩
  · try simp (maxSteps := 2000000) (disch := omega) only [go_sem, seval]
    try repeat ((with_reducible refine And.intro ?_ ?_); focus (first | omega | assumption | exact True.intro | (show anyD _ _ = true; exact rfl) | (simp only [List.length_map, List.length_append, List.length_cons, List.length_nil, List.length_take, List.length_drop]; omega)))
  · rintro k ⟨hk, hm⟩
    try simp (maxSteps := 2000000) (disch := omega) only [go_sem, seval]
    try repeat ((with_reducible refine And.intro ?_ ?_); focus (first | omega | assumption | exact True.intro | (show anyD _ _ = true; exact rfl) | (simp only [List.length_map, List.length_append, List.length_cons, List.length_nil, List.length_take, List.length_drop]; omega)))
    (first | refine brP.mk (fun h => ?_) (fun h => ?_) | refine gdP.mkt (fun h => ?_) (fun h => ?_) | refine gdP.mkf (fun h => ?_) (fun h => ?_) | refine pkP.mk (fun h => ?_) (fun h => ?_)) <;> (try simp only [Bool.not_true, Bool.not_false, decide_eq_true_eq, decide_eq_false_iff_not, Bool.and_eq_true, Bool.or_eq_true, Bool.not_eq_true', Bool.not_eq_false', Bool.and_eq_false_iff, Bool.or_eq_false_iff, Nat.not_lt, Int.not_lt, Nat.not_le, Int.not_le, Int.ofNat_lt, Int.ofNat_le, Int.ofNat_inj, Bool.xor_false, Bool.false_xor, Bool.true_xor, Bool.xor_true] at h) <;> (try simp (maxSteps := 2000000) (disch := omega) only [go_sem, seval]) <;> (try repeat ((with_reducible refine And.intro ?_ ?_); focus (first | omega | assumption | exact True.intro | (show anyD _ _ = true; exact rfl) | (simp only [List.length_map, List.length_append, List.length_cons, List.length_nil, List.length_take, List.length_drop]; omega))))
    · refine callP.mk (has3_c l[k] x) rfl ?_
      try simp (maxSteps := 2000000) (disch := omega) only [go_sem, seval]
      try repeat ((with_reducible refine And.intro ?_ ?_); focus (first | omega | assumption | exact True.intro | (show anyD _ _ = true; exact rfl) | (simp only [List.length_map, List.length_append, List.length_cons, List.length_nil, List.length_take, List.length_drop]; omega)))
      have hd := mem_drop (x := x) h
      (first | refine brP.mk (fun e => ?_) (fun e => ?_) | refine gdP.mkt (fun e => ?_) (fun e => ?_) | refine gdP.mkf (fun e => ?_) (fun e => ?_) | refine pkP.mk (fun e => ?_) (fun e => ?_)) <;> (try simp only [Bool.not_true, Bool.not_false, decide_eq_true_eq, decide_eq_false_iff_not, Bool.and_eq_true, Bool.or_eq_true, Bool.not_eq_true', Bool.not_eq_false', Bool.and_eq_false_iff, Bool.or_eq_false_iff, Nat.not_lt, Int.not_lt, Nat.not_le, Int.not_le, Int.ofNat_lt, Int.ofNat_le, Int.ofNat_inj, Bool.xor_false, Bool.false_xor, Bool.true_xor, Bool.xor_true] at e) <;> (try simp (maxSteps := 2000000) (disch := omega) only [go_sem, seval]) <;> (try repeat ((with_reducible refine And.intro ?_ ?_); focus (first | omega | assumption | exact True.intro | (show anyD _ _ = true; exact rfl) | (simp only [List.length_map, List.length_append, List.length_cons, List.length_nil, List.length_take, List.length_drop]; omega))))
      · rw [hm, hd, ← Bool.decide_and]; simp [e]
      · refine ⟨k + 1, ⟨h, ?_⟩, by omega, rfl⟩
        rw [hm, hd, ← Bool.decide_and]; simp [e]; omega
    · rw [hm, List.drop_of_length_le (by omega)]; rfl
theorem max_c : Cn Tryz.prog 205 [] (.v (.int .u64 18446744073709551615)) := by
  refine cn_go Tryz.func205 [] 0 (by kernel_rfl) rfl (by simp [go_sem, seval]) ?_
  conv => arg 4; cbv
  conv => enter [5, 1]; cbv
  try simp (maxSteps := 2000000) (disch := omega) only [go_sem, seval]
  try repeat ((with_reducible refine And.intro ?_ ?_); focus (first | omega | assumption | exact True.intro | (show anyD _ _ = true; exact rfl) | (simp only [List.length_map, List.length_append, List.length_cons, List.length_nil, List.length_take, List.length_drop]; omega)))
theorem rel3_c (s t : Iv) (h1 : s.lo < M64) (h2 : t.lo < M64) : Cn Tryz.prog 146 [ivp s, ivp t] (.v (.int .i64 (relate s t : Nat))) := by
  refine cn_go Tryz.func146 [] 2 (by kernel_rfl) rfl (by simp [go_sem, seval]) ?_
  conv => arg 4; cbv
  conv => enter [5, 1]; cbv
  try simp (maxSteps := 2000000) (disch := omega) only [go_sem, seval]
  try repeat ((with_reducible refine And.intro ?_ ?_); focus (first | omega | assumption | exact True.intro | (show anyD _ _ = true; exact rfl) | (simp only [List.length_map, List.length_append, List.length_cons, List.length_nil, List.length_take, List.length_drop]; omega)))
  have hM := M64_val
  unfold relate
  (first | refine brP.mk (fun h => ?_) (fun h => ?_) | refine gdP.mkt (fun h => ?_) (fun h => ?_) | refine gdP.mkf (fun h => ?_) (fun h => ?_) | refine pkP.mk (fun h => ?_) (fun h => ?_)) <;> (try simp only [Bool.not_true, Bool.not_false, decide_eq_true_eq, decide_eq_false_iff_not, Bool.and_eq_true, Bool.or_eq_true, Bool.not_eq_true', Bool.not_eq_false', Bool.and_eq_false_iff, Bool.or_eq_false_iff, Nat.not_lt, Int.not_lt, Nat.not_le, Int.not_le, Int.ofNat_lt, Int.ofNat_le, Int.ofNat_inj, Bool.xor_false, Bool.false_xor, Bool.true_xor, Bool.xor_true] at h) <;> (try simp (maxSteps := 2000000) (disch := omega) only [go_sem, seval]) <;> (try repeat ((with_reducible refine And.intro ?_ ?_); focus (first | omega | assumption | exact True.intro | (show anyD _ _ = true; exact rfl) | (simp only [List.length_map, List.length_append, List.length_cons, List.length_nil, List.length_take, List.length_drop]; omega))))
  · (first | refine brP.mk (fun h' => ?_) (fun h' => ?_) | refine gdP.mkt (fun h' => ?_) (fun h' => ?_) | refine gdP.mkf (fun h' => ?_) (fun h' => ?_) | refine pkP.mk (fun h' => ?_) (fun h' => ?_)) <;> (try simp only [Bool.not_true, Bool.not_false, decide_eq_true_eq, decide_eq_false_iff_not, Bool.and_eq_true, Bool.or_eq_true, Bool.not_eq_true', Bool.not_eq_false', Bool.and_eq_false_iff, Bool.or_eq_false_iff, Nat.not_lt, Int.not_lt, Nat.not_le, Int.not_le, Int.ofNat_lt, Int.ofNat_le, Int.ofNat_inj, Bool.xor_false, Bool.false_xor, Bool.true_xor, Bool.xor_true] at h') <;> (try simp (maxSteps := 2000000) (disch := omega) only [go_sem, seval]) <;> (try repeat ((with_reducible refine And.intro ?_ ?_); focus (first | omega | assumption | exact True.intro | (show anyD _ _ = true; exact rfl) | (simp only [List.length_map, List.length_append, List.length_cons, List.length_nil, List.length_take, List.length_drop]; omega))))
    · rw [if_pos h, if_pos (by omega)]; rfl
    · rw [if_pos h, if_neg (by omega)]; rfl
  · (first | refine brP.mk (fun h' => ?_) (fun h' => ?_) | refine gdP.mkt (fun h' => ?_) (fun h' => ?_) | refine gdP.mkf (fun h' => ?_) (fun h' => ?_) | refine pkP.mk (fun h' => ?_) (fun h' => ?_)) <;> (try simp only [Bool.not_true, Bool.not_false, decide_eq_true_eq, decide_eq_false_iff_not, Bool.and_eq_true, Bool.or_eq_true, Bool.not_eq_true', Bool.not_eq_false', Bool.and_eq_false_iff, Bool.or_eq_false_iff, Nat.not_lt, Int.not_lt, Nat.not_le, Int.not_le, Int.ofNat_lt, Int.ofNat_le, Int.ofNat_inj, Bool.xor_false, Bool.false_xor, Bool.true_xor, Bool.xor_true] at h') <;> (try simp (maxSteps := 2000000) (disch := omega) only [go_sem, seval]) <;> (try repeat ((with_reducible refine And.intro ?_ ?_); focus (first | omega | assumption | exact True.intro | (show anyD _ _ = true; exact rfl) | (simp only [List.length_map, List.length_append, List.length_cons, List.length_nil, List.length_take, List.length_drop]; omega))))
    · (first | refine brP.mk (fun h3 => ?_) (fun h3 => ?_) | refine gdP.mkt (fun h3 => ?_) (fun h3 => ?_) | refine gdP.mkf (fun h3 => ?_) (fun h3 => ?_) | refine pkP.mk (fun h3 => ?_) (fun h3 => ?_)) <;> (try simp only [Bool.not_true, Bool.not_false, decide_eq_true_eq, decide_eq_false_iff_not, Bool.and_eq_true, Bool.or_eq_true, Bool.not_eq_true', Bool.not_eq_false', Bool.and_eq_false_iff, Bool.or_eq_false_iff, Nat.not_lt, Int.not_lt, Nat.not_le, Int.not_le, Int.ofNat_lt, Int.ofNat_le, Int.ofNat_inj, Bool.xor_false, Bool.false_xor, Bool.true_xor, Bool.xor_true] at h3) <;> (try simp (maxSteps := 2000000) (disch := omega) only [go_sem, seval]) <;> (try repeat ((with_reducible refine And.intro ?_ ?_); focus (first | omega | assumption | exact True.intro | (show anyD _ _ = true; exact rfl) | (simp only [List.length_map, List.length_append, List.length_cons, List.length_nil, List.length_take, List.length_drop]; omega))))
      · rw [if_neg (by omega), if_pos h', if_pos (by omega)]; rfl
      · rw [if_neg (by omega), if_pos h', if_neg (by omega)]; rfl
    · rw [if_neg (by omega), if_neg (by omega)]; rfl
theorem take_c (a b : Bool) (op : Nat) (ho : op < 3) : Cn Tryz.prog 187 [.v (.bool a), .v (.bool b), .v (.int .i64 op)] (.v (.bool (opb op a b))) := by
  refine cn_go Tryz.func187 [] 3 (by kernel_rfl) rfl (by simp [go_sem, seval]) ?_
  conv => arg 4; cbv
  conv => enter [5, 1]; cbv
  obtain rfl | rfl | rfl : op = 0 ∨ op = 1 ∨ op = 2 := by omega
  all_goals (cases a <;> cases b <;> simp (maxSteps := 2000000) (disch := omega) only [go_sem, seval] <;> rfl)
theorem piece_c (l : List Nat) (k : Nat) (hk : k < l.length) (hl : l.length ≤ 1152921504606846976) (hs : ∀ h : k + 1 < l.length, 1 ≤ l[k + 1] ∧ l[k + 1] < M64) : Cn Tryz.prog 169 [.sl (l.map fun x => [.v (.int .u64 (x : Nat))]) .sh, .v (.int .i64 k)] (ivp ⟨l[k], if h : k + 1 < l.length then l[k+1] - 1 else M64 - 1⟩) := by
  have hM := M64_val
  refine cn_go Tryz.func169 [] 2 (by kernel_rfl) rfl (by simp [go_sem, seval]) ?_
  conv => arg 4; cbv
  conv => enter [5, 1]; cbv
  try simp (maxSteps := 2000000) (disch := omega) only [go_sem, seval]
  try repeat ((with_reducible refine And.intro ?_ ?_); focus (first | omega | assumption | exact True.intro | (show anyD _ _ = true; exact rfl) | (simp only [List.length_map, List.length_append, List.length_cons, List.length_nil, List.length_take, List.length_drop]; omega)))
  (first | refine brP.mk (fun h => ?_) (fun h => ?_) | refine gdP.mkt (fun h => ?_) (fun h => ?_) | refine gdP.mkf (fun h => ?_) (fun h => ?_) | refine pkP.mk (fun h => ?_) (fun h => ?_)) <;> (try simp only [Bool.not_true, Bool.not_false, decide_eq_true_eq, decide_eq_false_iff_not, Bool.and_eq_true, Bool.or_eq_true, Bool.not_eq_true', Bool.not_eq_false', Bool.and_eq_false_iff, Bool.or_eq_false_iff, Nat.not_lt, Int.not_lt, Nat.not_le, Int.not_le, Int.ofNat_lt, Int.ofNat_le, Int.ofNat_inj, Bool.xor_false, Bool.false_xor, Bool.true_xor, Bool.xor_true] at h) <;> (try simp (maxSteps := 2000000) (disch := omega) only [go_sem, seval]) <;> (try repeat ((with_reducible refine And.intro ?_ ?_); focus (first | omega | assumption | exact True.intro | (show anyD _ _ = true; exact rfl) | (simp only [List.length_map, List.length_append, List.length_cons, List.length_nil, List.length_take, List.length_drop]; omega))))
  · obtain ⟨h1, h2⟩ := hs h
    rw [dif_pos h]
    try simp (maxSteps := 2000000) (disch := omega) only [go_sem, seval]
    try repeat ((with_reducible refine And.intro ?_ ?_); focus (first | omega | assumption | exact True.intro | (show anyD _ _ = true; exact rfl) | (simp only [List.length_map, List.length_append, List.length_cons, List.length_nil, List.length_take, List.length_drop]; omega)))
  · refine callQ.mk max_c rfl ?_
    rw [dif_neg (by omega)]
    try simp (maxSteps := 2000000) (disch := omega) only [go_sem, seval]
    try repeat ((with_reducible refine And.intro ?_ ?_); focus (first | omega | assumption | exact True.intro | (show anyD _ _ = true; exact rfl) | (simp only [List.length_map, List.length_append, List.length_cons, List.length_nil, List.length_take, List.length_drop]; omega)))
    rfl
theorem put_last {l : List Iv} (h : 0 < l.length) (s : Iv) : put l s = if l[l.length - 1].hi + 1 = s.lo then l.take (l.length - 1) ++ [⟨l[l.length - 1].lo, s.hi⟩] else l ++ [s] := by
  unfold put
  rw [List.getLast?_eq_getElem?, List.getElem?_eq_getElem (by omega), List.dropLast_eq_take]
theorem put_nil {l : List Iv} (h : l.length ≤ 0) (s : Iv) : put l s = l ++ [s] := by
  have : l = [] := List.eq_nil_of_length_eq_zero (by omega)
  subst this; rfl
theorem put_o (l : List Iv) (s : Iv) (hs : s.lo < M64) (hb : ∀ t ∈ l, t.lo < M64 ∧ t.hi < s.lo) (hl : l.length < 1099511627776) : OCn Tryz.prog 188 (l.map ivc) 2 [ivp s] ((put l s).map ivc) := by
  refine ocn_go Tryz.func188 [] 2 4 (by kernel_rfl) (by kernel_rfl) rfl (by simp [go_sem, seval]) ?_
  conv => arg 4; cbv
  try simp (maxSteps := 2000000) (disch := omega) only [go_sem, seval]
  try repeat ((with_reducible refine And.intro ?_ ?_); focus (first | omega | assumption | exact True.intro | (show anyD _ _ = true; exact rfl) | (simp only [List.length_map, List.length_append, List.length_cons, List.length_nil, List.length_take, List.length_drop]; omega)))
  (first | refine brP.mk (fun h0 => ?_) (fun h0 => ?_) | refine gdP.mkt (fun h0 => ?_) (fun h0 => ?_) | refine gdP.mkf (fun h0 => ?_) (fun h0 => ?_) | refine pkP.mk (fun h0 => ?_) (fun h0 => ?_)) <;> (try simp only [Bool.not_true, Bool.not_false, decide_eq_true_eq, decide_eq_false_iff_not, Bool.and_eq_true, Bool.or_eq_true, Bool.not_eq_true', Bool.not_eq_false', Bool.and_eq_false_iff, Bool.or_eq_false_iff, Nat.not_lt, Int.not_lt, Nat.not_le, Int.not_le, Int.ofNat_lt, Int.ofNat_le, Int.ofNat_inj, Bool.xor_false, Bool.false_xor, Bool.true_xor, Bool.xor_true] at h0) <;> (try simp (maxSteps := 2000000) (disch := omega) only [go_sem, seval]) <;> (try repeat ((with_reducible refine And.intro ?_ ?_); focus (first | omega | assumption | exact True.intro | (show anyD _ _ = true; exact rfl) | (simp only [List.length_map, List.length_append, List.length_cons, List.length_nil, List.length_take, List.length_drop]; omega))))
  · refine callQ.mk (rel3_c l[l.length - 1] s (hb _ (List.getElem_mem _)).1 hs) rfl ?_
    have h1 := (hb _ (List.getElem_mem (show l.length - 1 < l.length by omega))).2
    try simp (maxSteps := 2000000) (disch := omega) only [go_sem, seval]
    try repeat ((with_reducible refine And.intro ?_ ?_); focus (first | omega | assumption | exact True.intro | (show anyD _ _ = true; exact rfl) | (simp only [List.length_map, List.length_append, List.length_cons, List.length_nil, List.length_take, List.length_drop]; omega)))
    rw [put_last h0]
    unfold relate
    rw [if_pos h1]
    (first | refine brP.mk (fun h => ?_) (fun h => ?_) | refine gdP.mkt (fun h => ?_) (fun h => ?_) | refine gdP.mkf (fun h => ?_) (fun h => ?_) | refine pkP.mk (fun h => ?_) (fun h => ?_)) <;> (try simp only [Bool.not_true, Bool.not_false, decide_eq_true_eq, decide_eq_false_iff_not, Bool.and_eq_true, Bool.or_eq_true, Bool.not_eq_true', Bool.not_eq_false', Bool.and_eq_false_iff, Bool.or_eq_false_iff, Nat.not_lt, Int.not_lt, Nat.not_le, Int.not_le, Int.ofNat_lt, Int.ofNat_le, Int.ofNat_inj, Bool.xor_false, Bool.false_xor, Bool.true_xor, Bool.xor_true] at h) <;> (try simp (maxSteps := 2000000) (disch := omega) only [go_sem, seval]) <;> (try repeat ((with_reducible refine And.intro ?_ ?_); focus (first | omega | assumption | exact True.intro | (show anyD _ _ = true; exact rfl) | (simp only [List.length_map, List.length_append, List.length_cons, List.length_nil, List.length_take, List.length_drop]; omega))))
    · rw [if_pos (by split at h <;> first | assumption | cases h)]
      simp [ivc]
    · rw [if_neg (by split at h <;> first | assumption | exact absurd rfl h)]
      simp [ivc]
  · rw [put_nil h0]
    simp [ivc]
end Go.Proofs.YtjmhmeadcphfmaaGreatDoor
namespace Go.Proofs.YtjmhmeadcphfmaaGreatDoor
set_option linter.unusedVariables false
set_option linter.unusedSimpArgs false
open Go.ChangeShapes Go.WideShapes Go.RowKit
set_option maxRecDepth 100000
theorem own : ownKnob Tryz.prog.godebug = none := by kernel_rfl
theorem laidOut : laidOutB Tryz.prog = true := by kernel_rfl
theorem et : Tryz.prog.globalNamed "errors.errorType" = some 0 := by kernel_rfl
theorem rt : (Tryz.prog.cutTypes.find? (·.1 == "internal/reflectlite.rtype")).map (·.2) = some 216 := by kernel_rfl
theorem oneRow : ((List.range 314).filter fun t => Tryz.prog.rowNamed t [101, 114, 114, 111, 114]) = [41] := by kernel_rfl
theorem tsize : Tryz.prog.types.size = 314 := by kernel_rfl
def laidL {H : Type} : List (String × DataW H) := [("errors.errorType", Rows.laid_errors_errorType)]
theorem handle_of_laid {W : World} (h : laidMetH Tryz.prog laidL W) : W.cell? ⟨0, 0, none⟩ = some (.iface 216 (.agg #[.pointer (some ⟨2, 41, none⟩)])) := by
  have h' : laidMet Tryz.prog [] W ∧ handlesMet Tryz.prog laidL W := h
  obtain ⟨name, u, ty, e1, e2, e3, e4, e5⟩ := h'.2 _ (List.mem_singleton.2 rfl)
  have en : name = [101, 114, 114, 111, 114] := (Option.some.inj e1).symm
  subst en
  obtain rfl := Option.some.inj (rt.symm.trans e2)
  have hm : ty ∈ (List.range 314).filter fun t => Tryz.prog.rowNamed t [101, 114, 114, 111, 114] := List.mem_filter.2 ⟨List.mem_range.2 (by rw [← tsize]; exact e3), e4⟩
  rw [oneRow] at hm
  obtain rfl := List.mem_singleton.1 hm
  have hh : typeHandle Tryz.prog 41 = .pointer (some ⟨2, 41, none⟩) := by kernel_rfl
  rw [hh] at e5
  simpa using World.var?_cell et e5 0
theorem gl_of_laid {W : World} (h : laidMetH Tryz.prog laidL W) : GL (Lies W) W := fun x hx => by
  have hc := handle_of_laid h
  obtain rfl : _ = x := Option.some.inj hx
  exact ⟨World.block_lt_of_cell? W ⟨0, 0, none⟩ hc, hc⟩
noncomputable def laidWorld (os : Os) : World :=
  let w0 := World.holding Tryz.prog os ⟨#[], #[], []⟩
  { w0 with heap := w0.heap.modify 0 fun
      | .cells _ t frozen => .cells #[.iface 216 (.agg #[.pointer (some ⟨2, 41, none⟩)])] t frozen
      | o => o }
theorem laidWorld_met (os : Os) (args : Array Value) : laidMetH Tryz.prog laidL ((laidWorld os).forCall (fun _ _ => 0) ⟨#[], args, []⟩).memory :=
  laidMetH_of_parts (laidMet_nil _ _) (by kernel_rfl)
end Go.Proofs.YtjmhmeadcphfmaaGreatDoor
namespace Go.Proofs.YtjmhmeadcphfmaaGreatDoor
set_option linter.unusedVariables false
set_option linter.unusedSimpArgs false
open Go.RowKit
set_option maxRecDepth 100000
theorem same4_c (a b : List Iv) (hl : a.length ≤ 1152921504606846976) : Cn Tryz.prog 28 [rg a, rg b] (.v (.bool (decide (a = b)))) := by
  refine cn_go Tryz.func28 [] 2 (by kernel_rfl) rfl (by simp [go_sem, seval]) ?_
  conv => arg 4; cbv
  conv => enter [5, 1]; cbv
  try simp (maxSteps := 2000000) (disch := omega) only [go_sem, seval]
  try repeat ((with_reducible refine And.intro ?_ ?_); focus (first | omega | assumption | exact True.intro | (show anyD _ _ = true; exact rfl) | (simp only [List.length_map, List.length_append, List.length_cons, List.length_nil, List.length_take, List.length_drop]; omega)))
  (first | refine brP.mk (fun h0 => ?_) (fun h0 => ?_) | refine gdP.mkt (fun h0 => ?_) (fun h0 => ?_) | refine gdP.mkf (fun h0 => ?_) (fun h0 => ?_) | refine pkP.mk (fun h0 => ?_) (fun h0 => ?_)) <;> (try simp only [Bool.not_true, Bool.not_false, decide_eq_true_eq, decide_eq_false_iff_not, Bool.and_eq_true, Bool.or_eq_true, Bool.not_eq_true', Bool.not_eq_false', Bool.and_eq_false_iff, Bool.or_eq_false_iff, Nat.not_lt, Int.not_lt, Nat.not_le, Int.not_le, Int.ofNat_lt, Int.ofNat_le, Int.ofNat_inj, Bool.xor_false, Bool.false_xor, Bool.true_xor, Bool.xor_true] at h0) <;> (try simp (maxSteps := 2000000) (disch := omega) only [go_sem, seval]) <;> (try repeat ((with_reducible refine And.intro ?_ ?_); focus (first | omega | assumption | exact True.intro | (show anyD _ _ = true; exact rfl) | (simp only [List.length_map, List.length_append, List.length_cons, List.length_nil, List.length_take, List.length_drop]; omega))))
  · symm
    rw [decide_eq_false_iff_not]
    rintro rfl
    exact h0 rfl
  · have h0' : a.length = b.length := by simpa using h0
    clear h0
    refine pLoop.go (fun k => k ≤ a.length ∧ (a = b ↔ a.drop k = b.drop k)) (fun k => [(5, .v (.int .i64 (k : Nat)))]) (fun _ => []) (fun k => a.length - k) 0 [5] ?_ ?_ ?_
    · exact ⟨Nat.zero_le _, Iff.rfl⟩
    · try simp (maxSteps := 2000000) (disch := omega) only [go_sem, seval]
      try repeat ((with_reducible refine And.intro ?_ ?_); focus (first | omega | assumption | exact True.intro | (show anyD _ _ = true; exact rfl) | (simp only [List.length_map, List.length_append, List.length_cons, List.length_nil, List.length_take, List.length_drop]; omega)))
    · rintro k ⟨hk, hm⟩
      try simp (maxSteps := 2000000) (disch := omega) only [go_sem, seval]
      try repeat ((with_reducible refine And.intro ?_ ?_); focus (first | omega | assumption | exact True.intro | (show anyD _ _ = true; exact rfl) | (simp only [List.length_map, List.length_append, List.length_cons, List.length_nil, List.length_take, List.length_drop]; omega)))
      (first | refine brP.mk (fun h => ?_) (fun h => ?_) | refine gdP.mkt (fun h => ?_) (fun h => ?_) | refine gdP.mkf (fun h => ?_) (fun h => ?_) | refine pkP.mk (fun h => ?_) (fun h => ?_)) <;> (try simp only [Bool.not_true, Bool.not_false, decide_eq_true_eq, decide_eq_false_iff_not, Bool.and_eq_true, Bool.or_eq_true, Bool.not_eq_true', Bool.not_eq_false', Bool.and_eq_false_iff, Bool.or_eq_false_iff, Nat.not_lt, Int.not_lt, Nat.not_le, Int.not_le, Int.ofNat_lt, Int.ofNat_le, Int.ofNat_inj, Bool.xor_false, Bool.false_xor, Bool.true_xor, Bool.xor_true] at h) <;> (try simp (maxSteps := 2000000) (disch := omega) only [go_sem, seval]) <;> (try repeat ((with_reducible refine And.intro ?_ ?_); focus (first | omega | assumption | exact True.intro | (show anyD _ _ = true; exact rfl) | (simp only [List.length_map, List.length_append, List.length_cons, List.length_nil, List.length_take, List.length_drop]; omega))))
      · have hk' : k < b.length := by omega
        rw [List.drop_eq_getElem_cons h, List.drop_eq_getElem_cons hk', List.cons.injEq] at hm
        try simp (maxSteps := 2000000) (disch := omega) only [go_sem, seval]
        try repeat ((with_reducible refine And.intro ?_ ?_); focus (first | omega | assumption | exact True.intro | (show anyD _ _ = true; exact rfl) | (simp only [List.length_map, List.length_append, List.length_cons, List.length_nil, List.length_take, List.length_drop]; omega)))
        (first | refine brP.mk (fun e => ?_) (fun e => ?_) | refine gdP.mkt (fun e => ?_) (fun e => ?_) | refine gdP.mkf (fun e => ?_) (fun e => ?_) | refine pkP.mk (fun e => ?_) (fun e => ?_)) <;> (try simp only [Bool.not_true, Bool.not_false, decide_eq_true_eq, decide_eq_false_iff_not, Bool.and_eq_true, Bool.or_eq_true, Bool.not_eq_true', Bool.not_eq_false', Bool.and_eq_false_iff, Bool.or_eq_false_iff, Nat.not_lt, Int.not_lt, Nat.not_le, Int.not_le, Int.ofNat_lt, Int.ofNat_le, Int.ofNat_inj, Bool.xor_false, Bool.false_xor, Bool.true_xor, Bool.xor_true] at e) <;> (try simp (maxSteps := 2000000) (disch := omega) only [go_sem, seval]) <;> (try repeat ((with_reducible refine And.intro ?_ ?_); focus (first | omega | assumption | exact True.intro | (show anyD _ _ = true; exact rfl) | (simp only [List.length_map, List.length_append, List.length_cons, List.length_nil, List.length_take, List.length_drop]; omega))))
        · symm
          rw [decide_eq_false_iff_not]
          intro he
          have := (hm.1 he).1
          rcases (by simpa using e : ¬ a[k].lo = b[k].lo ∨ ¬ a[k].hi = b[k].hi) with e | e
          · exact e (congrArg Iv.lo this)
          · exact e (congrArg Iv.hi this)
        · refine ⟨k + 1, ⟨h, ?_⟩, by omega, rfl⟩
          rw [hm]
          have e : a[k].lo = b[k].lo ∧ a[k].hi = b[k].hi := by simpa using e
          exact ⟨fun h => h.2, fun h => ⟨Iv.ext' e.1 e.2, h⟩⟩
      · rw [eq_comm, decide_eq_true_eq, hm, List.drop_of_length_le h, List.drop_of_length_le (by omega)]
set_option maxHeartbeats 4000000 in
theorem starts_c (ls : List (List Iv)) (h1 : ls.length ≤ 1048576) (h2 : ∀ l ∈ ls, l.length ≤ 1048576) (h3 : (allS ls).length ≤ 1048576) (hv : ∀ l ∈ ls, ∀ s ∈ l, s.lo < M64 ∧ s.hi < M64) : Cn Tryz.prog 186 [rgs ls] (.sl ((starts ls).map natc) .sh) := by
  have hM := M64_val
  refine cn_go Tryz.func186 [] 1 (by kernel_rfl) rfl (by simp [go_sem, seval]) ?_
  conv => arg 4; cbv
  conv => enter [5, 1]; cbv
  try simp (maxSteps := 2000000) (disch := omega) only [go_sem, seval]
  try repeat ((with_reducible refine And.intro ?_ ?_); focus (first | omega | assumption | exact True.intro | (show anyD _ _ = true; exact rfl) | (simp only [List.length_map, List.length_append, List.length_cons, List.length_nil, List.length_take, List.length_drop]; omega)))
  refine pLoop.go (fun i => i ≤ ls.length) (fun i => [(3, .sl ((preS ls i 0).map natc) (.r 9 1)), (4, .v (.int .i64 (i : Nat)))]) (fun _ => []) (fun i => ls.length - i) 0 [3, 4, 9] ?_ ?_ ?_
  · exact Nat.zero_le _
  · rw [preS_00]
    try simp (maxSteps := 2000000) (disch := omega) only [go_sem, seval]
    try repeat ((with_reducible refine And.intro ?_ ?_); focus (first | omega | assumption | exact True.intro | (show anyD _ _ = true; exact rfl) | (simp only [List.length_map, List.length_append, List.length_cons, List.length_nil, List.length_take, List.length_drop]; omega)))
  · rintro i hi
    try simp (maxSteps := 2000000) (disch := omega) only [go_sem, seval]
    try repeat ((with_reducible refine And.intro ?_ ?_); focus (first | omega | assumption | exact True.intro | (show anyD _ _ = true; exact rfl) | (simp only [List.length_map, List.length_append, List.length_cons, List.length_nil, List.length_take, List.length_drop]; omega)))
    (first | refine brP.mk (fun h => ?_) (fun h => ?_) | refine gdP.mkt (fun h => ?_) (fun h => ?_) | refine gdP.mkf (fun h => ?_) (fun h => ?_) | refine pkP.mk (fun h => ?_) (fun h => ?_)) <;> (try simp only [Bool.not_true, Bool.not_false, decide_eq_true_eq, decide_eq_false_iff_not, Bool.and_eq_true, Bool.or_eq_true, Bool.not_eq_true', Bool.not_eq_false', Bool.and_eq_false_iff, Bool.or_eq_false_iff, Nat.not_lt, Int.not_lt, Nat.not_le, Int.not_le, Int.ofNat_lt, Int.ofNat_le, Int.ofNat_inj, Bool.xor_false, Bool.false_xor, Bool.true_xor, Bool.xor_true] at h) <;> (try simp (maxSteps := 2000000) (disch := omega) only [go_sem, seval]) <;> (try repeat ((with_reducible refine And.intro ?_ ?_); focus (first | omega | assumption | exact True.intro | (show anyD _ _ = true; exact rfl) | (simp only [List.length_map, List.length_append, List.length_cons, List.length_nil, List.length_take, List.length_drop]; omega))))
    · have hj := h2 _ (List.getElem_mem h)
      refine pLoop.go (fun j => j ≤ ls[i].length) (fun j => [(3, .sl ((preS ls i j).map natc) (.r 9 1)), (5, .v (.int .i64 (j : Nat)))]) (fun _ => []) (fun j => ls[i].length - j) 0 [3, 5, 9] ?_ ?_ ?_
      · exact Nat.zero_le _
      · try simp (maxSteps := 2000000) (disch := omega) only [go_sem, seval]
        try repeat ((with_reducible refine And.intro ?_ ?_); focus (first | omega | assumption | exact True.intro | (show anyD _ _ = true; exact rfl) | (simp only [List.length_map, List.length_append, List.length_cons, List.length_nil, List.length_take, List.length_drop]; omega)))
      · rintro j hj'
        have hlen := preS_len j h
        try simp (maxSteps := 2000000) (disch := omega) only [go_sem, seval]
        try repeat ((with_reducible refine And.intro ?_ ?_); focus (first | omega | assumption | exact True.intro | (show anyD _ _ = true; exact rfl) | (simp only [List.length_map, List.length_append, List.length_cons, List.length_nil, List.length_take, List.length_drop]; omega)))
        (first | refine brP.mk (fun hc => ?_) (fun hc => ?_) | refine gdP.mkt (fun hc => ?_) (fun hc => ?_) | refine gdP.mkf (fun hc => ?_) (fun hc => ?_) | refine pkP.mk (fun hc => ?_) (fun hc => ?_)) <;> (try simp only [Bool.not_true, Bool.not_false, decide_eq_true_eq, decide_eq_false_iff_not, Bool.and_eq_true, Bool.or_eq_true, Bool.not_eq_true', Bool.not_eq_false', Bool.and_eq_false_iff, Bool.or_eq_false_iff, Nat.not_lt, Int.not_lt, Nat.not_le, Int.not_le, Int.ofNat_lt, Int.ofNat_le, Int.ofNat_inj, Bool.xor_false, Bool.false_xor, Bool.true_xor, Bool.xor_true] at hc) <;> (try simp (maxSteps := 2000000) (disch := omega) only [go_sem, seval]) <;> (try repeat ((with_reducible refine And.intro ?_ ?_); focus (first | omega | assumption | exact True.intro | (show anyD _ _ = true; exact rfl) | (simp only [List.length_map, List.length_append, List.length_cons, List.length_nil, List.length_take, List.length_drop]; omega))))
        · have hb := hv _ (List.getElem_mem h) _ (List.getElem_mem hc)
          refine callQ.mk max_c rfl ?_
          try simp (maxSteps := 2000000) (disch := omega) only [go_sem, seval]
          try repeat ((with_reducible refine And.intro ?_ ?_); focus (first | omega | assumption | exact True.intro | (show anyD _ _ = true; exact rfl) | (simp only [List.length_map, List.length_append, List.length_cons, List.length_nil, List.length_take, List.length_drop]; omega)))
          (first | refine brP.mk (fun hd => ?_) (fun hd => ?_) | refine gdP.mkt (fun hd => ?_) (fun hd => ?_) | refine gdP.mkf (fun hd => ?_) (fun hd => ?_) | refine pkP.mk (fun hd => ?_) (fun hd => ?_)) <;> (try simp only [Bool.not_true, Bool.not_false, decide_eq_true_eq, decide_eq_false_iff_not, Bool.and_eq_true, Bool.or_eq_true, Bool.not_eq_true', Bool.not_eq_false', Bool.and_eq_false_iff, Bool.or_eq_false_iff, Nat.not_lt, Int.not_lt, Nat.not_le, Int.not_le, Int.ofNat_lt, Int.ofNat_le, Int.ofNat_inj, Bool.xor_false, Bool.false_xor, Bool.true_xor, Bool.xor_true] at hd) <;> (try simp (maxSteps := 2000000) (disch := omega) only [go_sem, seval]) <;> (try repeat ((with_reducible refine And.intro ?_ ?_); focus (first | omega | assumption | exact True.intro | (show anyD _ _ = true; exact rfl) | (simp only [List.length_map, List.length_append, List.length_cons, List.length_nil, List.length_take, List.length_drop]; omega))))
          · refine ⟨j + 1, hc, by omega, ?_, rfl⟩
            rw [preS_step h hc, cut1, if_pos (by omega)]
            simp [natc]
          · refine ⟨j + 1, hc, by omega, ?_, rfl⟩
            rw [preS_step h hc, cut1, if_neg (by omega)]
            simp [natc]
        · refine ⟨i + 1, h, by omega, ?_, rfl⟩
          rw [preS_next h hc]
    · rw [preS_end h]
      generalize hxs : allS ls = xs at h3 ⊢
      have hst : starts ls = srt xs := by rw [← hxs]; rfl
      rw [hst]
      refine pLoop.mk (fun k => k ≤ xs.length) (fun k => ⟨[(3, .sl (xs.map natc) (.r 9 1)), (6, .sl ((srt (xs.take k)).map natc) (.r 108 1)), (7, .v (.int .i64 (k : Nat)))], []⟩) (fun k => xs.length - k) 0 ?_ ?_ ?_
      · exact Nat.zero_le _
      · rw [List.take_zero, srt_nil]
        try simp (maxSteps := 2000000) (disch := omega) only [go_sem, seval]
        try repeat ((with_reducible refine And.intro ?_ ?_); focus (first | omega | assumption | exact True.intro | (show anyD _ _ = true; exact rfl) | (simp only [List.length_map, List.length_append, List.length_cons, List.length_nil, List.length_take, List.length_drop]; omega)))
      · rintro k hk
        have hlen := srt_len (xs.take k)
        have hlen2 : (xs.take k).length ≤ k := List.length_take_le _ _
        try simp (maxSteps := 2000000) (disch := omega) only [go_sem, seval]
        try repeat ((with_reducible refine And.intro ?_ ?_); focus (first | omega | assumption | exact True.intro | (show anyD _ _ = true; exact rfl) | (simp only [List.length_map, List.length_append, List.length_cons, List.length_nil, List.length_take, List.length_drop]; omega)))
        (first | refine brP.mk (fun h5 => ?_) (fun h5 => ?_) | refine gdP.mkt (fun h5 => ?_) (fun h5 => ?_) | refine gdP.mkf (fun h5 => ?_) (fun h5 => ?_) | refine pkP.mk (fun h5 => ?_) (fun h5 => ?_)) <;> (try simp only [Bool.not_true, Bool.not_false, decide_eq_true_eq, decide_eq_false_iff_not, Bool.and_eq_true, Bool.or_eq_true, Bool.not_eq_true', Bool.not_eq_false', Bool.and_eq_false_iff, Bool.or_eq_false_iff, Nat.not_lt, Int.not_lt, Nat.not_le, Int.not_le, Int.ofNat_lt, Int.ofNat_le, Int.ofNat_inj, Bool.xor_false, Bool.false_xor, Bool.true_xor, Bool.xor_true] at h5) <;> (try simp (maxSteps := 2000000) (disch := omega) only [go_sem, seval]) <;> (try repeat ((with_reducible refine And.intro ?_ ?_); focus (first | omega | assumption | exact True.intro | (show anyD _ _ = true; exact rfl) | (simp only [List.length_map, List.length_append, List.length_cons, List.length_nil, List.length_take, List.length_drop]; omega))))
        · refine pLoop.go (fun a => a ≤ (srt (xs.take k)).length ∧ ∀ m (h : m < (srt (xs.take k)).length), a ≤ m → xs[k] < (srt (xs.take k))[m]) (fun a => [(8, .v (.int .i64 (a : Nat)))]) (fun _ => []) (fun a => a) (srt (xs.take k)).length [8] ?_ ?_ ?_
          · exact ⟨Nat.le_refl _, fun m h1 h2 => absurd h1 (by omega)⟩
          · try simp (maxSteps := 2000000) (disch := omega) only [go_sem, seval]
            try repeat ((with_reducible refine And.intro ?_ ?_); focus (first | omega | assumption | exact True.intro | (show anyD _ _ = true; exact rfl) | (simp only [List.length_map, List.length_append, List.length_cons, List.length_nil, List.length_take, List.length_drop]; omega)))
          · rintro at_ ⟨ha, hb⟩
            try simp (maxSteps := 2000000) (disch := omega) only [go_sem, seval]
            try repeat ((with_reducible refine And.intro ?_ ?_); focus (first | omega | assumption | exact True.intro | (show anyD _ _ = true; exact rfl) | (simp only [List.length_map, List.length_append, List.length_cons, List.length_nil, List.length_take, List.length_drop]; omega)))
            (first | refine brP.mk (fun h6 => ?_) (fun h6 => ?_) | refine gdP.mkt (fun h6 => ?_) (fun h6 => ?_) | refine gdP.mkf (fun h6 => ?_) (fun h6 => ?_) | refine pkP.mk (fun h6 => ?_) (fun h6 => ?_)) <;> (try simp only [Bool.not_true, Bool.not_false, decide_eq_true_eq, decide_eq_false_iff_not, Bool.and_eq_true, Bool.or_eq_true, Bool.not_eq_true', Bool.not_eq_false', Bool.and_eq_false_iff, Bool.or_eq_false_iff, Nat.not_lt, Int.not_lt, Nat.not_le, Int.not_le, Int.ofNat_lt, Int.ofNat_le, Int.ofNat_inj, Bool.xor_false, Bool.false_xor, Bool.true_xor, Bool.xor_true] at h6) <;> (try simp (maxSteps := 2000000) (disch := omega) only [go_sem, seval]) <;> (try repeat ((with_reducible refine And.intro ?_ ?_); focus (first | omega | assumption | exact True.intro | (show anyD _ _ = true; exact rfl) | (simp only [List.length_map, List.length_append, List.length_cons, List.length_nil, List.length_take, List.length_drop]; omega))))
            · (first | refine brP.mk (fun h7 => ?_) (fun h7 => ?_) | refine gdP.mkt (fun h7 => ?_) (fun h7 => ?_) | refine gdP.mkf (fun h7 => ?_) (fun h7 => ?_) | refine pkP.mk (fun h7 => ?_) (fun h7 => ?_)) <;> (try simp only [Bool.not_true, Bool.not_false, decide_eq_true_eq, decide_eq_false_iff_not, Bool.and_eq_true, Bool.or_eq_true, Bool.not_eq_true', Bool.not_eq_false', Bool.and_eq_false_iff, Bool.or_eq_false_iff, Nat.not_lt, Int.not_lt, Nat.not_le, Int.not_le, Int.ofNat_lt, Int.ofNat_le, Int.ofNat_inj, Bool.xor_false, Bool.false_xor, Bool.true_xor, Bool.xor_true] at h7) <;> (try simp (maxSteps := 2000000) (disch := omega) only [go_sem, seval]) <;> (try repeat ((with_reducible refine And.intro ?_ ?_); focus (first | omega | assumption | exact True.intro | (show anyD _ _ = true; exact rfl) | (simp only [List.length_map, List.length_append, List.length_cons, List.length_nil, List.length_take, List.length_drop]; omega))))
              · refine ⟨at_ - 1, ⟨by omega, fun m hm h8 => ?_⟩, by omega, rfl⟩
                rcases Nat.eq_or_lt_of_le h8 with h9 | h9
                · subst h9; exact h7
                · exact hb m hm (by omega)
              · (first | refine brP.mk (fun h8 => ?_) (fun h8 => ?_) | refine gdP.mkt (fun h8 => ?_) (fun h8 => ?_) | refine gdP.mkf (fun h8 => ?_) (fun h8 => ?_) | refine pkP.mk (fun h8 => ?_) (fun h8 => ?_)) <;> (try simp only [Bool.not_true, Bool.not_false, decide_eq_true_eq, decide_eq_false_iff_not, Bool.and_eq_true, Bool.or_eq_true, Bool.not_eq_true', Bool.not_eq_false', Bool.and_eq_false_iff, Bool.or_eq_false_iff, Nat.not_lt, Int.not_lt, Nat.not_le, Int.not_le, Int.ofNat_lt, Int.ofNat_le, Int.ofNat_inj, Bool.xor_false, Bool.false_xor, Bool.true_xor, Bool.xor_true] at h8) <;> (try simp (maxSteps := 2000000) (disch := omega) only [go_sem, seval]) <;> (try repeat ((with_reducible refine And.intro ?_ ?_); focus (first | omega | assumption | exact True.intro | (show anyD _ _ = true; exact rfl) | (simp only [List.length_map, List.length_append, List.length_cons, List.length_nil, List.length_take, List.length_drop]; omega))))
                · exact absurd h8 (by omega)
                · (first | refine brP.mk (fun h9 => ?_) (fun h9 => ?_) | refine gdP.mkt (fun h9 => ?_) (fun h9 => ?_) | refine gdP.mkf (fun h9 => ?_) (fun h9 => ?_) | refine pkP.mk (fun h9 => ?_) (fun h9 => ?_)) <;> (try simp only [Bool.not_true, Bool.not_false, decide_eq_true_eq, decide_eq_false_iff_not, Bool.and_eq_true, Bool.or_eq_true, Bool.not_eq_true', Bool.not_eq_false', Bool.and_eq_false_iff, Bool.or_eq_false_iff, Nat.not_lt, Int.not_lt, Nat.not_le, Int.not_le, Int.ofNat_lt, Int.ofNat_le, Int.ofNat_inj, Bool.xor_false, Bool.false_xor, Bool.true_xor, Bool.xor_true] at h9) <;> (try simp (maxSteps := 2000000) (disch := omega) only [go_sem, seval]) <;> (try repeat ((with_reducible refine And.intro ?_ ?_); focus (first | omega | assumption | exact True.intro | (show anyD _ _ = true; exact rfl) | (simp only [List.length_map, List.length_append, List.length_cons, List.length_nil, List.length_take, List.length_drop]; omega))))
                  · refine cutP.mk [3, 7] (keepOk.mk2 rfl rfl ?_ ?_ ?_) ?_
                    · try simp (maxSteps := 2000000) (disch := omega) only [go_sem, seval]
                      try repeat ((with_reducible refine And.intro ?_ ?_); focus (first | omega | assumption | exact True.intro | (show anyD _ _ = true; exact rfl) | (simp only [List.length_map, List.length_append, List.length_cons, List.length_nil, List.length_take, List.length_drop]; omega)))
                    · try simp (maxSteps := 2000000) (disch := omega) only [go_sem, seval]
                      try repeat ((with_reducible refine And.intro ?_ ?_); focus (first | omega | assumption | exact True.intro | (show anyD _ _ = true; exact rfl) | (simp only [List.length_map, List.length_append, List.length_cons, List.length_nil, List.length_take, List.length_drop]; omega)))
                    · right
                      try simp (maxSteps := 2000000) (disch := omega) only [go_sem, seval]
                      try repeat ((with_reducible refine And.intro ?_ ?_); focus (first | omega | assumption | exact True.intro | (show anyD _ _ = true; exact rfl) | (simp only [List.length_map, List.length_append, List.length_cons, List.length_nil, List.length_take, List.length_drop]; omega)))
                    · try simp (maxSteps := 2000000) (disch := omega) only [go_sem, seval]
                      try repeat ((with_reducible refine And.intro ?_ ?_); focus (first | omega | assumption | exact True.intro | (show anyD _ _ = true; exact rfl) | (simp only [List.length_map, List.length_append, List.length_cons, List.length_nil, List.length_take, List.length_drop]; omega)))
                      refine ⟨k + 1, h5, by omega, ?_, rfl⟩
                      rw [List.take_succ_eq_append_getElem h5, srt_ins ha hb (.inr ⟨by omega, by omega⟩)]
                      simp [natc]
                  · refine ⟨k + 1, h5, by omega, ?_, rfl⟩
                    rw [List.take_succ_eq_append_getElem h5, srt_has (by rw [← h9]; exact List.getElem_mem _)]
            · obtain rfl : at_ = 0 := by omega
              have hz := srt_ins ha hb (.inl rfl)
              rw [← List.take_succ_eq_append_getElem h5] at hz
              try simp (maxSteps := 2000000) (disch := omega) only [go_sem, seval]
              try repeat ((with_reducible refine And.intro ?_ ?_); focus (first | omega | assumption | exact True.intro | (show anyD _ _ = true; exact rfl) | (simp only [List.length_map, List.length_append, List.length_cons, List.length_nil, List.length_take, List.length_drop]; omega)))
              refine cutP.mk [3, 7] (keepOk.mk2 rfl rfl ?_ ?_ ?_) ?_
              · try simp (maxSteps := 2000000) (disch := omega) only [go_sem, seval]
                try repeat ((with_reducible refine And.intro ?_ ?_); focus (first | omega | assumption | exact True.intro | (show anyD _ _ = true; exact rfl) | (simp only [List.length_map, List.length_append, List.length_cons, List.length_nil, List.length_take, List.length_drop]; omega)))
              · try simp (maxSteps := 2000000) (disch := omega) only [go_sem, seval]
                try repeat ((with_reducible refine And.intro ?_ ?_); focus (first | omega | assumption | exact True.intro | (show anyD _ _ = true; exact rfl) | (simp only [List.length_map, List.length_append, List.length_cons, List.length_nil, List.length_take, List.length_drop]; omega)))
              · right
                try simp (maxSteps := 2000000) (disch := omega) only [go_sem, seval]
                try repeat ((with_reducible refine And.intro ?_ ?_); focus (first | omega | assumption | exact True.intro | (show anyD _ _ = true; exact rfl) | (simp only [List.length_map, List.length_append, List.length_cons, List.length_nil, List.length_take, List.length_drop]; omega)))
              · try simp (maxSteps := 2000000) (disch := omega) only [go_sem, seval]
                try repeat ((with_reducible refine And.intro ?_ ?_); focus (first | omega | assumption | exact True.intro | (show anyD _ _ = true; exact rfl) | (simp only [List.length_map, List.length_append, List.length_cons, List.length_nil, List.length_take, List.length_drop]; omega)))
                refine ⟨k + 1, h5, by omega, ?_, rfl⟩
                rw [hz]
                simp [natc]
        · rw [List.take_of_length_le h5]
end Go.Proofs.YtjmhmeadcphfmaaGreatDoor
namespace Go.Proofs.YtjmhmeadcphfmaaGreatDoor
set_option linter.unusedVariables false
set_option linter.unusedSimpArgs false
open Go.RowKit
set_option maxRecDepth 100000
theorem starts_len {ls : List (List Iv)} : (starts ls).length ≤ (allS ls).length := srt_len _
theorem allS2 (a b : List Iv) : (allS [a, b]).length ≤ 1 + 2 * a.length + 2 * b.length := by
  have := cuts_len a
  have := cuts_len b
  simp [allS]; omega
theorem do_c (a b : List Iv) (op : Nat) (ha : Nrm a) (hb : Nrm b) (ho : op < 3) (h1 : a.length ≤ 131072) (h2 : b.length ≤ 131072) : Cn Tryz.prog 140 [rg a, rg b, .v (.int .i64 op)] (rg (opS (opb op) a b)) := by
  have hM := M64_val
  have hall := allS2 a b
  have hst := starts_len (ls := [a, b])
  have hcut : ∀ c, c ∈ cuts a ∨ c ∈ cuts b → c ∈ starts [a, b] := fun c hc => srt_mem.2 (by simp [allS]; exact .inr hc)
  have hslt : ∀ x ∈ starts [a, b], x < M64 := starts_lt (by simp; exact ⟨fun s hs => (ha.lt s hs).1, fun s hs => (hb.lt s hs).1⟩)
  refine cn_go Tryz.func140 [] 3 (by kernel_rfl) rfl (by simp [go_sem, seval]) ?_
  conv => arg 4; cbv
  conv => enter [5, 1]; cbv
  try simp (maxSteps := 2000000) (disch := omega) only [go_sem, seval]
  try repeat ((with_reducible refine And.intro ?_ ?_); focus (first | omega | assumption | exact True.intro | (show anyD _ _ = true; exact rfl) | (simp only [List.length_map, List.length_append, List.length_cons, List.length_nil, List.length_take, List.length_drop]; omega)))
  refine callO.rd (starts_c [a, b] (by simp) (by simp; omega) (by omega) (by simp; exact ⟨ha.lt, hb.lt⟩)) rfl ?_
  try simp (maxSteps := 2000000) (disch := omega) only [go_sem, seval]
  try repeat ((with_reducible refine And.intro ?_ ?_); focus (first | omega | assumption | exact True.intro | (show anyD _ _ = true; exact rfl) | (simp only [List.length_map, List.length_append, List.length_cons, List.length_nil, List.length_take, List.length_drop]; omega)))
  refine pLoop.go (fun p : Nat × List Iv => p.1 ≤ (starts [a, b]).length ∧ DoInv (opb op) a b (starts [a, b]) p.1 p.2) (fun p => [(8, .sl (p.2.map ivc) (.r 38 2)), (9, .v (.int .i64 (p.1 : Nat)))]) (fun _ => []) (fun p => (starts [a, b]).length - p.1) (0, []) [8, 9] ?_ ?_ ?_
  · exact ⟨Nat.zero_le _, DoInv.zero _⟩
  · try simp (maxSteps := 2000000) (disch := omega) only [go_sem, seval]
    try repeat ((with_reducible refine And.intro ?_ ?_); focus (first | omega | assumption | exact True.intro | (show anyD _ _ = true; exact rfl) | (simp only [List.length_map, List.length_append, List.length_cons, List.length_nil, List.length_take, List.length_drop]; omega)))
  · rintro ⟨i, out⟩ ⟨hi, hd⟩
    simp only at hi hd
    have hol := hd.len
    try simp (maxSteps := 2000000) (disch := omega) only [go_sem, seval]
    try repeat ((with_reducible refine And.intro ?_ ?_); focus (first | omega | assumption | exact True.intro | (show anyD _ _ = true; exact rfl) | (simp only [List.length_map, List.length_append, List.length_cons, List.length_nil, List.length_take, List.length_drop]; omega)))
    (first | refine brP.mk (fun h => ?_) (fun h => ?_) | refine gdP.mkt (fun h => ?_) (fun h => ?_) | refine gdP.mkf (fun h => ?_) (fun h => ?_) | refine pkP.mk (fun h => ?_) (fun h => ?_)) <;> (try simp only [Bool.not_true, Bool.not_false, decide_eq_true_eq, decide_eq_false_iff_not, Bool.and_eq_true, Bool.or_eq_true, Bool.not_eq_true', Bool.not_eq_false', Bool.and_eq_false_iff, Bool.or_eq_false_iff, Nat.not_lt, Int.not_lt, Nat.not_le, Int.not_le, Int.ofNat_lt, Int.ofNat_le, Int.ofNat_inj, Bool.xor_false, Bool.false_xor, Bool.true_xor, Bool.xor_true] at h) <;> (try simp (maxSteps := 2000000) (disch := omega) only [go_sem, seval]) <;> (try repeat ((with_reducible refine And.intro ?_ ?_); focus (first | omega | assumption | exact True.intro | (show anyD _ _ = true; exact rfl) | (simp only [List.length_map, List.length_append, List.length_cons, List.length_nil, List.length_take, List.length_drop]; omega))))
    · refine callQ.mk (has4_c a _ (by omega)) rfl ?_
      try simp (maxSteps := 2000000) (disch := omega) only [go_sem, seval]
      try repeat ((with_reducible refine And.intro ?_ ?_); focus (first | omega | assumption | exact True.intro | (show anyD _ _ = true; exact rfl) | (simp only [List.length_map, List.length_append, List.length_cons, List.length_nil, List.length_take, List.length_drop]; omega)))
      refine callQ.mk (has4_c b _ (by omega)) rfl ?_
      try simp (maxSteps := 2000000) (disch := omega) only [go_sem, seval]
      try repeat ((with_reducible refine And.intro ?_ ?_); focus (first | omega | assumption | exact True.intro | (show anyD _ _ = true; exact rfl) | (simp only [List.length_map, List.length_append, List.length_cons, List.length_nil, List.length_take, List.length_drop]; omega)))
      refine callQ.mk (take_c _ _ op ho) rfl ?_
      obtain ⟨s1, s2⟩ := hd.step ha hb (starts_asc _) hslt hcut h
      try simp (maxSteps := 2000000) (disch := omega) only [go_sem, seval]
      try repeat ((with_reducible refine And.intro ?_ ?_); focus (first | omega | assumption | exact True.intro | (show anyD _ _ = true; exact rfl) | (simp only [List.length_map, List.length_append, List.length_cons, List.length_nil, List.length_take, List.length_drop]; omega)))
      (first | refine brP.mk (fun h5 => ?_) (fun h5 => ?_) | refine gdP.mkt (fun h5 => ?_) (fun h5 => ?_) | refine gdP.mkf (fun h5 => ?_) (fun h5 => ?_) | refine pkP.mk (fun h5 => ?_) (fun h5 => ?_)) <;> (try simp only [Bool.not_true, Bool.not_false, decide_eq_true_eq, decide_eq_false_iff_not, Bool.and_eq_true, Bool.or_eq_true, Bool.not_eq_true', Bool.not_eq_false', Bool.and_eq_false_iff, Bool.or_eq_false_iff, Nat.not_lt, Int.not_lt, Nat.not_le, Int.not_le, Int.ofNat_lt, Int.ofNat_le, Int.ofNat_inj, Bool.xor_false, Bool.false_xor, Bool.true_xor, Bool.xor_true] at h5) <;> (try simp (maxSteps := 2000000) (disch := omega) only [go_sem, seval]) <;> (try repeat ((with_reducible refine And.intro ?_ ?_); focus (first | omega | assumption | exact True.intro | (show anyD _ _ = true; exact rfl) | (simp only [List.length_map, List.length_append, List.length_cons, List.length_nil, List.length_take, List.length_drop]; omega))))
      · refine callP.mk (piece_c _ i h (by omega) fun h' => ?_) rfl ?_
        · have := asc_lt (starts_asc [a, b]) h' (Nat.lt_succ_self i)
          have := hslt _ (List.getElem_mem h')
          omega
        have s3 := s1 h5
        have hlo := hslt _ (List.getElem_mem h)
        try simp (maxSteps := 2000000) (disch := omega) only [go_sem, seval]
        try repeat ((with_reducible refine And.intro ?_ ?_); focus (first | omega | assumption | exact True.intro | (show anyD _ _ = true; exact rfl) | (simp only [List.length_map, List.length_append, List.length_cons, List.length_nil, List.length_take, List.length_drop]; omega)))
        refine callO.mk (put_o out ⟨(starts [a, b])[i], if h : i + 1 < (starts [a, b]).length then (starts [a, b])[i + 1] - 1 else M64 - 1⟩ hlo (fun t ht => ?_) (by omega)) rfl ?_
        · have e : bdS (starts [a, b]) i = (starts [a, b])[i] := dif_pos h
          have := hd.lt t ht
          have := hd.nrm.lt t ht
          show _ ∧ t.hi < (starts [a, b])[i]
          omega
        try simp (maxSteps := 2000000) (disch := omega) only [go_sem, seval]
        try repeat ((with_reducible refine And.intro ?_ ?_); focus (first | omega | assumption | exact True.intro | (show anyD _ _ = true; exact rfl) | (simp only [List.length_map, List.length_append, List.length_cons, List.length_nil, List.length_take, List.length_drop]; omega)))
        exact ⟨(i + 1, _), ⟨h, s3⟩, by omega, rfl, rfl⟩
      · exact ⟨(i + 1, out), ⟨h, s2 h5⟩, by omega, rfl, rfl⟩
    · obtain rfl : i = (starts [a, b]).length := by omega
      rw [hd.done ha hb]
theorem opb0 : opb 0 = fUnion := rfl
theorem refMinus_c (a b : List Iv) (ha : Nrm a) (hb : Nrm b) (h1 : a.length ≤ 131072) (h2 : b.length ≤ 131072) : Cn Tryz.prog 177 [rg a, rg b] (rg (opS fMinus a b)) := by
  refine cn_go Tryz.func177 [] 2 (by kernel_rfl) rfl (by simp [go_sem, seval]) ?_
  conv => arg 4; cbv
  conv => enter [5, 1]; cbv
  try simp (maxSteps := 2000000) (disch := omega) only [go_sem, seval]
  try repeat ((with_reducible refine And.intro ?_ ?_); focus (first | omega | assumption | exact True.intro | (show anyD _ _ = true; exact rfl) | (simp only [List.length_map, List.length_append, List.length_cons, List.length_nil, List.length_take, List.length_drop]; omega)))
  refine callP.mk (do_c a b 2 ha hb (by omega) h1 h2) rfl ?_
  try simp (maxSteps := 2000000) (disch := omega) only [go_sem, seval]
  try repeat ((with_reducible refine And.intro ?_ ?_); focus (first | omega | assumption | exact True.intro | (show anyD _ _ = true; exact rfl) | (simp only [List.length_map, List.length_append, List.length_cons, List.length_nil, List.length_take, List.length_drop]; omega)))
  rfl
end Go.Proofs.YtjmhmeadcphfmaaGreatDoor
namespace Go.Proofs.YtjmhmeadcphfmaaGreatDoor
set_option linter.unusedVariables false
set_option linter.unusedSimpArgs false
open Go.RowKit
set_option maxRecDepth 100000
theorem right3_c (s : Iv) : Cn Tryz.prog 145 [ivp s] (.v (.bool (decide (s.lo ≤ s.hi)))) := by
  refine cn_go Tryz.func145 [] 1 (by kernel_rfl) rfl (by simp [go_sem, seval]) ?_
  conv => arg 4; cbv
  conv => enter [5, 1]; cbv
  try simp (maxSteps := 2000000) (disch := omega) only [go_sem, seval]
  try repeat ((with_reducible refine And.intro ?_ ?_); focus (first | omega | assumption | exact True.intro | (show anyD _ _ = true; exact rfl) | (simp only [List.length_map, List.length_append, List.length_cons, List.length_nil, List.length_take, List.length_drop]; omega)))
def prevC (l : List Iv) (k : Nat) : Option Iv := if k = 0 then none else l[k - 1]?
theorem check4_c (l : List Iv) (hl : l.length ≤ 1152921504606846976) (hb : ∀ s ∈ l, s.lo < M64 ∧ s.hi < M64) : Cn Tryz.prog 88 [rg l] (.tup [.v (.int .i64 (chk l).1), .v (.int .i64 (chk l).2)]) := by
  refine cn_go Tryz.func88 [] 1 (by kernel_rfl) rfl (by simp [go_sem, seval]) ?_
  conv => arg 4; cbv
  conv => enter [5, 1]; cbv
  try simp (maxSteps := 2000000) (disch := omega) only [go_sem, seval]
  try repeat ((with_reducible refine And.intro ?_ ?_); focus (first | omega | assumption | exact True.intro | (show anyD _ _ = true; exact rfl) | (simp only [List.length_map, List.length_append, List.length_cons, List.length_nil, List.length_take, List.length_drop]; omega)))
  refine pLoop.go (fun k => k ≤ l.length ∧ chk l = chkL (prevC l k) (l.drop k) k) (fun k => [(4, .v (.int .i64 (k : Nat)))]) (fun _ => []) (fun k => l.length - k) 0 [4] ?_ ?_ ?_
  · exact ⟨Nat.zero_le _, rfl⟩
  · try simp (maxSteps := 2000000) (disch := omega) only [go_sem, seval]
    try repeat ((with_reducible refine And.intro ?_ ?_); focus (first | omega | assumption | exact True.intro | (show anyD _ _ = true; exact rfl) | (simp only [List.length_map, List.length_append, List.length_cons, List.length_nil, List.length_take, List.length_drop]; omega)))
  · rintro k ⟨hk, hm⟩
    try simp (maxSteps := 2000000) (disch := omega) only [go_sem, seval]
    try repeat ((with_reducible refine And.intro ?_ ?_); focus (first | omega | assumption | exact True.intro | (show anyD _ _ = true; exact rfl) | (simp only [List.length_map, List.length_append, List.length_cons, List.length_nil, List.length_take, List.length_drop]; omega)))
    (first | refine brP.mk (fun h => ?_) (fun h => ?_) | refine gdP.mkt (fun h => ?_) (fun h => ?_) | refine gdP.mkf (fun h => ?_) (fun h => ?_) | refine pkP.mk (fun h => ?_) (fun h => ?_)) <;> (try simp only [Bool.not_true, Bool.not_false, decide_eq_true_eq, decide_eq_false_iff_not, Bool.and_eq_true, Bool.or_eq_true, Bool.not_eq_true', Bool.not_eq_false', Bool.and_eq_false_iff, Bool.or_eq_false_iff, Nat.not_lt, Int.not_lt, Nat.not_le, Int.not_le, Int.ofNat_lt, Int.ofNat_le, Int.ofNat_inj, Bool.xor_false, Bool.false_xor, Bool.true_xor, Bool.xor_true] at h) <;> (try simp (maxSteps := 2000000) (disch := omega) only [go_sem, seval]) <;> (try repeat ((with_reducible refine And.intro ?_ ?_); focus (first | omega | assumption | exact True.intro | (show anyD _ _ = true; exact rfl) | (simp only [List.length_map, List.length_append, List.length_cons, List.length_nil, List.length_take, List.length_drop]; omega))))
    · refine callP.mk (right3_c l[k]) rfl ?_
      rw [chkL_step h] at hm
      try simp (maxSteps := 2000000) (disch := omega) only [go_sem, seval]
      try repeat ((with_reducible refine And.intro ?_ ?_); focus (first | omega | assumption | exact True.intro | (show anyD _ _ = true; exact rfl) | (simp only [List.length_map, List.length_append, List.length_cons, List.length_nil, List.length_take, List.length_drop]; omega)))
      (first | refine brP.mk (fun h1 => ?_) (fun h1 => ?_) | refine gdP.mkt (fun h1 => ?_) (fun h1 => ?_) | refine gdP.mkf (fun h1 => ?_) (fun h1 => ?_) | refine pkP.mk (fun h1 => ?_) (fun h1 => ?_)) <;> (try simp only [Bool.not_true, Bool.not_false, decide_eq_true_eq, decide_eq_false_iff_not, Bool.and_eq_true, Bool.or_eq_true, Bool.not_eq_true', Bool.not_eq_false', Bool.and_eq_false_iff, Bool.or_eq_false_iff, Nat.not_lt, Int.not_lt, Nat.not_le, Int.not_le, Int.ofNat_lt, Int.ofNat_le, Int.ofNat_inj, Bool.xor_false, Bool.false_xor, Bool.true_xor, Bool.xor_true] at h1) <;> (try simp (maxSteps := 2000000) (disch := omega) only [go_sem, seval]) <;> (try repeat ((with_reducible refine And.intro ?_ ?_); focus (first | omega | assumption | exact True.intro | (show anyD _ _ = true; exact rfl) | (simp only [List.length_map, List.length_append, List.length_cons, List.length_nil, List.length_take, List.length_drop]; omega))))
      · rw [if_neg (by omega)] at hm
        rw [hm]
        rfl
      · rw [if_pos h1] at hm
        have hs : prevC l (k + 1) = some l[k] := by unfold prevC; rw [if_neg (by omega)]; exact List.getElem?_eq_getElem h
        (first | refine brP.mk (fun h2 => ?_) (fun h2 => ?_) | refine gdP.mkt (fun h2 => ?_) (fun h2 => ?_) | refine gdP.mkf (fun h2 => ?_) (fun h2 => ?_) | refine pkP.mk (fun h2 => ?_) (fun h2 => ?_)) <;> (try simp only [Bool.not_true, Bool.not_false, decide_eq_true_eq, decide_eq_false_iff_not, Bool.and_eq_true, Bool.or_eq_true, Bool.not_eq_true', Bool.not_eq_false', Bool.and_eq_false_iff, Bool.or_eq_false_iff, Nat.not_lt, Int.not_lt, Nat.not_le, Int.not_le, Int.ofNat_lt, Int.ofNat_le, Int.ofNat_inj, Bool.xor_false, Bool.false_xor, Bool.true_xor, Bool.xor_true] at h2) <;> (try simp (maxSteps := 2000000) (disch := omega) only [go_sem, seval]) <;> (try repeat ((with_reducible refine And.intro ?_ ?_); focus (first | omega | assumption | exact True.intro | (show anyD _ _ = true; exact rfl) | (simp only [List.length_map, List.length_append, List.length_cons, List.length_nil, List.length_take, List.length_drop]; omega))))
        · have hp : prevC l k = some l[k - 1] := by unfold prevC; rw [if_neg (by omega), List.getElem?_eq_getElem]
          rw [hp] at hm
          refine callQ.mk (rel3_c l[k - 1] l[k] (hb _ (List.getElem_mem _)).1 (hb _ (List.getElem_mem _)).1) rfl ?_
          try simp (maxSteps := 2000000) (disch := omega) only [go_sem, seval]
          try repeat ((with_reducible refine And.intro ?_ ?_); focus (first | omega | assumption | exact True.intro | (show anyD _ _ = true; exact rfl) | (simp only [List.length_map, List.length_append, List.length_cons, List.length_nil, List.length_take, List.length_drop]; omega)))
          (first | refine brP.mk (fun h3 => ?_) (fun h3 => ?_) | refine gdP.mkt (fun h3 => ?_) (fun h3 => ?_) | refine gdP.mkf (fun h3 => ?_) (fun h3 => ?_) | refine pkP.mk (fun h3 => ?_) (fun h3 => ?_)) <;> (try simp only [Bool.not_true, Bool.not_false, decide_eq_true_eq, decide_eq_false_iff_not, Bool.and_eq_true, Bool.or_eq_true, Bool.not_eq_true', Bool.not_eq_false', Bool.and_eq_false_iff, Bool.or_eq_false_iff, Nat.not_lt, Int.not_lt, Nat.not_le, Int.not_le, Int.ofNat_lt, Int.ofNat_le, Int.ofNat_inj, Bool.xor_false, Bool.false_xor, Bool.true_xor, Bool.xor_true] at h3) <;> (try simp (maxSteps := 2000000) (disch := omega) only [go_sem, seval]) <;> (try repeat ((with_reducible refine And.intro ?_ ?_); focus (first | omega | assumption | exact True.intro | (show anyD _ _ = true; exact rfl) | (simp only [List.length_map, List.length_append, List.length_cons, List.length_nil, List.length_take, List.length_drop]; omega))))
          · rw [if_neg (by simpa using h3)] at hm
            rw [hm]
            rfl
          · rw [if_pos (by simpa using h3)] at hm
            exact ⟨k + 1, ⟨h, by rw [hs]; exact hm⟩, by omega, rfl⟩
        · have hp : prevC l k = none := by unfold prevC; rw [if_pos (by omega)]
          rw [hp] at hm
          exact ⟨k + 1, ⟨h, by rw [hs]; exact hm⟩, by omega, rfl⟩
    · rw [List.drop_of_length_le h] at hm
      rw [hm]
      rfl
theorem n23 : Nrm [⟨2, 3⟩, ⟨9, 9⟩] := by simp [Nrm, NF, M64_val]
theorem n01 : Nrm [⟨0, 1⟩, ⟨4, 8⟩] := by simp [Nrm, NF, M64_val]
theorem n09 : Nrm [⟨0, 9⟩] := by simp [Nrm, NF, M64_val]
theorem e1 : opS fMinus [⟨0, 9⟩] [⟨2, 3⟩, ⟨9, 9⟩] = [⟨0, 1⟩, ⟨4, 8⟩] := opS_eq n09 n23 n01 fun x _ => by rw [Bool.eq_iff_iff]; simp [mem, fMinus]; omega
theorem e2 : opS fUnion [⟨2, 3⟩, ⟨9, 9⟩] [⟨0, 1⟩, ⟨4, 8⟩] = [⟨0, 9⟩] := opS_eq n23 n01 n09 fun x _ => by rw [Bool.eq_iff_iff]; simp [mem, fUnion]; omega
theorem e4 : opS fMinus [⟨2, 3⟩, ⟨9, 9⟩] [⟨0, 1⟩, ⟨4, 8⟩] = [⟨2, 3⟩, ⟨9, 9⟩] := opS_eq n23 n01 n23 fun x _ => by rw [Bool.eq_iff_iff]; simp [mem, fMinus]; omega
theorem e5 : opS fMeet [⟨2, 3⟩, ⟨9, 9⟩] [⟨0, 1⟩, ⟨4, 8⟩] = [] := opS_eq n23 n01 trivial fun x _ => by rw [Bool.eq_iff_iff]; simp [mem, fMeet]; omega
theorem e6 : opS fMinus [⟨2, 3⟩, ⟨9, 9⟩] [⟨0, 1⟩, ⟨4, 8⟩] = [⟨2, 3⟩, ⟨9, 9⟩] := opS_eq n23 n01 n23 fun x _ => by rw [Bool.eq_iff_iff]; simp [mem, fMinus]; omega
end Go.Proofs.YtjmhmeadcphfmaaGreatDoor
namespace Go.Proofs.YtjmhmeadcphfmaaGreatDoor
set_option linter.unusedVariables false
set_option linter.unusedSimpArgs false
open Go.RowKit
set_option maxRecDepth 100000
def BdR (l : List Iv) : Prop := ∀ s ∈ l, s.lo < M64 ∧ s.hi < M64
end Go.Proofs.YtjmhmeadcphfmaaGreatDoor
namespace Go.Proofs.YtjmhmeadcphfmaaGreatDoor
set_option linter.unusedVariables false
set_option linter.unusedSimpArgs false
open Go.RowKit
set_option maxRecDepth 100000
def ec (e : En) : List PV := [.v (.int .u64 e.rep), .v (.int .u64 e.max), rg e.holes]
def ep (e : En) : PV := .agg (ec e)
attribute [go_sem] ep ec
theorem same7_c (a b : En) (hl : a.holes.length ≤ 1152921504606846976) : Cn Tryz.prog 95 [ep a, ep b] (.v (.bool (decide (a = b)))) := by
  refine cn_go Tryz.func95 [] 2 (by kernel_rfl) rfl (by simp [go_sem, seval]) ?_
  conv => arg 4; cbv
  conv => enter [5, 1]; cbv
  try simp (maxSteps := 2000000) (disch := omega) only [go_sem, seval]
  try repeat ((with_reducible refine And.intro ?_ ?_); focus (first | omega | assumption | exact True.intro | (show anyD _ _ = true; exact rfl) | (simp only [List.length_map, List.length_append, List.length_cons, List.length_nil, List.length_take, List.length_drop]; omega)))
  have key : (a = b) ↔ (a.rep = b.rep ∧ a.max = b.max ∧ a.holes = b.holes) := ⟨fun h => by subst h; exact ⟨rfl, rfl, rfl⟩, fun h => En.ext' h.1 h.2.1 h.2.2⟩
  (first | refine brP.mk (fun h1 => ?_) (fun h1 => ?_) | refine gdP.mkt (fun h1 => ?_) (fun h1 => ?_) | refine gdP.mkf (fun h1 => ?_) (fun h1 => ?_) | refine pkP.mk (fun h1 => ?_) (fun h1 => ?_)) <;> (try simp only [Bool.not_true, Bool.not_false, decide_eq_true_eq, decide_eq_false_iff_not, Bool.and_eq_true, Bool.or_eq_true, Bool.not_eq_true', Bool.not_eq_false', Bool.and_eq_false_iff, Bool.or_eq_false_iff, Nat.not_lt, Int.not_lt, Nat.not_le, Int.not_le, Int.ofNat_lt, Int.ofNat_le, Int.ofNat_inj, Bool.xor_false, Bool.false_xor, Bool.true_xor, Bool.xor_true] at h1) <;> (try simp (maxSteps := 2000000) (disch := omega) only [go_sem, seval]) <;> (try repeat ((with_reducible refine And.intro ?_ ?_); focus (first | omega | assumption | exact True.intro | (show anyD _ _ = true; exact rfl) | (simp only [List.length_map, List.length_append, List.length_cons, List.length_nil, List.length_take, List.length_drop]; omega))))
  · (first | refine brP.mk (fun h2 => ?_) (fun h2 => ?_) | refine gdP.mkt (fun h2 => ?_) (fun h2 => ?_) | refine gdP.mkf (fun h2 => ?_) (fun h2 => ?_) | refine pkP.mk (fun h2 => ?_) (fun h2 => ?_)) <;> (try simp only [Bool.not_true, Bool.not_false, decide_eq_true_eq, decide_eq_false_iff_not, Bool.and_eq_true, Bool.or_eq_true, Bool.not_eq_true', Bool.not_eq_false', Bool.and_eq_false_iff, Bool.or_eq_false_iff, Nat.not_lt, Int.not_lt, Nat.not_le, Int.not_le, Int.ofNat_lt, Int.ofNat_le, Int.ofNat_inj, Bool.xor_false, Bool.false_xor, Bool.true_xor, Bool.xor_true] at h2) <;> (try simp (maxSteps := 2000000) (disch := omega) only [go_sem, seval]) <;> (try repeat ((with_reducible refine And.intro ?_ ?_); focus (first | omega | assumption | exact True.intro | (show anyD _ _ = true; exact rfl) | (simp only [List.length_map, List.length_append, List.length_cons, List.length_nil, List.length_take, List.length_drop]; omega))))
    · (first | refine callP.mk (same4_c a.holes b.holes hl) rfl ?_ | refine callQ.mk (same4_c a.holes b.holes hl) rfl ?_ | refine callO.rd (same4_c a.holes b.holes hl) rfl ?_ | refine callO.mk (same4_c a.holes b.holes hl) rfl ?_)
      try simp (maxSteps := 2000000) (disch := omega) only [go_sem, seval]
      try repeat ((with_reducible refine And.intro ?_ ?_); focus (first | omega | assumption | exact True.intro | (show anyD _ _ = true; exact rfl) | (simp only [List.length_map, List.length_append, List.length_cons, List.length_nil, List.length_take, List.length_drop]; omega)))
      simp [key, h1, h2]
    · simp [key, h2]
  · simp [key, h1]
def hk (m : Nat) : List Iv → Nat → Nat × Int
  | [], _ => (0, -1)
  | s :: r, i => if m < s.hi then (4, (i : Int)) else hk m r (i + 1)
def chkE (e : En) : Nat × Int := if (chk e.holes).1 = 0 then hk e.max e.holes 0 else chk e.holes
theorem hk_zero (m : Nat) : ∀ (l : List Iv) (i : Nat), (hk m l i).1 = 0 ↔ ∀ s ∈ l, s.hi ≤ m
  | [], i => by simp [hk]
  | s :: r, i => by
    have := hk_zero m r (i + 1)
    unfold hk
    split
    · simp; omega
    · rw [this]; simp; omega
theorem hk_step {m : Nat} {l : List Iv} {k : Nat} (h : k < l.length) : hk m (l.drop k) k = if m < l[k].hi then (4, (k : Int)) else hk m (l.drop (k + 1)) (k + 1) := by
  rw [List.drop_eq_getElem_cons h]; rfl
def rightEB (e : En) : Bool := decide ((chkE e).1 = 0)
theorem rightEB_iff {e : En} (h : ∀ s ∈ e.holes, s.lo < M64 ∧ s.hi < M64) (h1 : e.max < M64) (h2 : e.rep < M64) : rightEB e = true ↔ RightE e := by
  have hn := chk_nrm (l := e.holes) fun s hs => (h s hs).2
  have hz := hk_zero e.max e.holes 0
  unfold rightEB chkE RightE
  rw [decide_eq_true_eq]
  by_cases h' : (chk e.holes).1 = 0
  · rw [if_pos h', hz]
    exact ⟨fun g => ⟨hn.1 h', g, h1, h2⟩, fun g => g.2.1⟩
  · rw [if_neg h']
    exact ⟨fun g => absurd g h', fun g => absurd (hn.2 g.1) h'⟩
theorem check7_c (e : En) (hl : e.holes.length ≤ 1152921504606846976) (hb : ∀ s ∈ e.holes, s.lo < M64 ∧ s.hi < M64) : Cn Tryz.prog 147 [ep e] (.tup [.v (.int .i64 (chkE e).1), .v (.int .i64 (chkE e).2)]) := by
  refine cn_go Tryz.func147 [] 1 (by kernel_rfl) rfl (by simp [go_sem, seval]) ?_
  conv => arg 4; cbv
  conv => enter [5, 1]; cbv
  try simp (maxSteps := 2000000) (disch := omega) only [go_sem, seval]
  try repeat ((with_reducible refine And.intro ?_ ?_); focus (first | omega | assumption | exact True.intro | (show anyD _ _ = true; exact rfl) | (simp only [List.length_map, List.length_append, List.length_cons, List.length_nil, List.length_take, List.length_drop]; omega)))
  (first | refine callP.mk (check4_c e.holes hl hb) rfl ?_ | refine callQ.mk (check4_c e.holes hl hb) rfl ?_ | refine callO.rd (check4_c e.holes hl hb) rfl ?_ | refine callO.mk (check4_c e.holes hl hb) rfl ?_)
  try simp (maxSteps := 2000000) (disch := omega) only [go_sem, seval]
  try repeat ((with_reducible refine And.intro ?_ ?_); focus (first | omega | assumption | exact True.intro | (show anyD _ _ = true; exact rfl) | (simp only [List.length_map, List.length_append, List.length_cons, List.length_nil, List.length_take, List.length_drop]; omega)))
  (first | refine brP.mk (fun h => ?_) (fun h => ?_) | refine gdP.mkt (fun h => ?_) (fun h => ?_) | refine gdP.mkf (fun h => ?_) (fun h => ?_) | refine pkP.mk (fun h => ?_) (fun h => ?_)) <;> (try simp only [Bool.not_true, Bool.not_false, decide_eq_true_eq, decide_eq_false_iff_not, Bool.and_eq_true, Bool.or_eq_true, Bool.not_eq_true', Bool.not_eq_false', Bool.and_eq_false_iff, Bool.or_eq_false_iff, Nat.not_lt, Int.not_lt, Nat.not_le, Int.not_le, Int.ofNat_lt, Int.ofNat_le, Int.ofNat_inj, Bool.xor_false, Bool.false_xor, Bool.true_xor, Bool.xor_true] at h) <;> (try simp (maxSteps := 2000000) (disch := omega) only [go_sem, seval]) <;> (try repeat ((with_reducible refine And.intro ?_ ?_); focus (first | omega | assumption | exact True.intro | (show anyD _ _ = true; exact rfl) | (simp only [List.length_map, List.length_append, List.length_cons, List.length_nil, List.length_take, List.length_drop]; omega))))
  · unfold chkE
    rw [if_neg (by omega)]
  · refine pLoop.go (fun k => k ≤ e.holes.length ∧ chkE e = hk e.max (e.holes.drop k) k) (fun k => [(6, .v (.int .i64 (k : Nat)))]) (fun _ => [ec e]) (fun k => e.holes.length - k) 0 [6] ?_ ?_ ?_
    · refine ⟨Nat.zero_le _, ?_⟩
      unfold chkE
      rw [if_pos (by omega)]; rfl
    · try simp (maxSteps := 2000000) (disch := omega) only [go_sem, seval]
      try repeat ((with_reducible refine And.intro ?_ ?_); focus (first | omega | assumption | exact True.intro | (show anyD _ _ = true; exact rfl) | (simp only [List.length_map, List.length_append, List.length_cons, List.length_nil, List.length_take, List.length_drop]; omega)))
    · rintro k ⟨hk1, hm⟩
      try simp (maxSteps := 2000000) (disch := omega) only [go_sem, seval]
      try repeat ((with_reducible refine And.intro ?_ ?_); focus (first | omega | assumption | exact True.intro | (show anyD _ _ = true; exact rfl) | (simp only [List.length_map, List.length_append, List.length_cons, List.length_nil, List.length_take, List.length_drop]; omega)))
      (first | refine brP.mk (fun h1 => ?_) (fun h1 => ?_) | refine gdP.mkt (fun h1 => ?_) (fun h1 => ?_) | refine gdP.mkf (fun h1 => ?_) (fun h1 => ?_) | refine pkP.mk (fun h1 => ?_) (fun h1 => ?_)) <;> (try simp only [Bool.not_true, Bool.not_false, decide_eq_true_eq, decide_eq_false_iff_not, Bool.and_eq_true, Bool.or_eq_true, Bool.not_eq_true', Bool.not_eq_false', Bool.and_eq_false_iff, Bool.or_eq_false_iff, Nat.not_lt, Int.not_lt, Nat.not_le, Int.not_le, Int.ofNat_lt, Int.ofNat_le, Int.ofNat_inj, Bool.xor_false, Bool.false_xor, Bool.true_xor, Bool.xor_true] at h1) <;> (try simp (maxSteps := 2000000) (disch := omega) only [go_sem, seval]) <;> (try repeat ((with_reducible refine And.intro ?_ ?_); focus (first | omega | assumption | exact True.intro | (show anyD _ _ = true; exact rfl) | (simp only [List.length_map, List.length_append, List.length_cons, List.length_nil, List.length_take, List.length_drop]; omega))))
      · rw [hk_step h1] at hm
        (first | refine brP.mk (fun h2 => ?_) (fun h2 => ?_) | refine gdP.mkt (fun h2 => ?_) (fun h2 => ?_) | refine gdP.mkf (fun h2 => ?_) (fun h2 => ?_) | refine pkP.mk (fun h2 => ?_) (fun h2 => ?_)) <;> (try simp only [Bool.not_true, Bool.not_false, decide_eq_true_eq, decide_eq_false_iff_not, Bool.and_eq_true, Bool.or_eq_true, Bool.not_eq_true', Bool.not_eq_false', Bool.and_eq_false_iff, Bool.or_eq_false_iff, Nat.not_lt, Int.not_lt, Nat.not_le, Int.not_le, Int.ofNat_lt, Int.ofNat_le, Int.ofNat_inj, Bool.xor_false, Bool.false_xor, Bool.true_xor, Bool.xor_true] at h2) <;> (try simp (maxSteps := 2000000) (disch := omega) only [go_sem, seval]) <;> (try repeat ((with_reducible refine And.intro ?_ ?_); focus (first | omega | assumption | exact True.intro | (show anyD _ _ = true; exact rfl) | (simp only [List.length_map, List.length_append, List.length_cons, List.length_nil, List.length_take, List.length_drop]; omega))))
        · rw [hm, if_pos h2]
          simp
        · rw [if_neg (by omega)] at hm
          exact ⟨k + 1, ⟨h1, hm⟩, by omega, rfl⟩
      · rw [List.drop_of_length_le h1] at hm
        rw [hm]
        simp [hk]
theorem known7_c (e : En) (h : RightE e) (hl : e.holes.length ≤ 131072) : Cn Tryz.prog 126 [ep e] (rg (kn e)) := by
  refine cn_go Tryz.func126 [] 1 (by kernel_rfl) rfl (by simp [go_sem, seval]) ?_
  conv => arg 4; cbv
  conv => enter [5, 1]; cbv
  try simp (maxSteps := 2000000) (disch := omega) only [go_sem, seval]
  try repeat ((with_reducible refine And.intro ?_ ?_); focus (first | omega | assumption | exact True.intro | (show anyD _ _ = true; exact rfl) | (simp only [List.length_map, List.length_append, List.length_cons, List.length_nil, List.length_take, List.length_drop]; omega)))
  (first | refine callP.mk (refMinus_c [⟨0, e.max⟩] e.holes (nrm_one (Nat.zero_le _) h.2.2.1) h.1 (by simp) hl) rfl ?_ | refine callQ.mk (refMinus_c [⟨0, e.max⟩] e.holes (nrm_one (Nat.zero_le _) h.2.2.1) h.1 (by simp) hl) rfl ?_ | refine callO.rd (refMinus_c [⟨0, e.max⟩] e.holes (nrm_one (Nat.zero_le _) h.2.2.1) h.1 (by simp) hl) rfl ?_ | refine callO.mk (refMinus_c [⟨0, e.max⟩] e.holes (nrm_one (Nat.zero_le _) h.2.2.1) h.1 (by simp) hl) rfl ?_)
  try simp (maxSteps := 2000000) (disch := omega) only [go_sem, seval]
  try repeat ((with_reducible refine And.intro ?_ ?_); focus (first | omega | assumption | exact True.intro | (show anyD _ _ = true; exact rfl) | (simp only [List.length_map, List.length_append, List.length_cons, List.length_nil, List.length_take, List.length_drop]; omega)))
  rfl
theorem of7_c (r : Nat) (l : List Iv) (hl : Nrm l) (h1 : l.length ≤ 131072) : Cn Tryz.prog 154 [.v (.int .u64 r), rg l] (.tup [ep (ofS r l).1, .v (.bool (ofS r l).2)]) := by
  refine cn_go Tryz.func154 [] 2 (by kernel_rfl) rfl (by simp [go_sem, seval]) ?_
  conv => arg 4; cbv
  conv => enter [5, 1]; cbv
  try simp (maxSteps := 2000000) (disch := omega) only [go_sem, seval]
  try repeat ((with_reducible refine And.intro ?_ ?_); focus (first | omega | assumption | exact True.intro | (show anyD _ _ = true; exact rfl) | (simp only [List.length_map, List.length_append, List.length_cons, List.length_nil, List.length_take, List.length_drop]; omega)))
  (first | refine brP.mk (fun h => ?_) (fun h => ?_) | refine gdP.mkt (fun h => ?_) (fun h => ?_) | refine gdP.mkf (fun h => ?_) (fun h => ?_) | refine pkP.mk (fun h => ?_) (fun h => ?_)) <;> (try simp only [Bool.not_true, Bool.not_false, decide_eq_true_eq, decide_eq_false_iff_not, Bool.and_eq_true, Bool.or_eq_true, Bool.not_eq_true', Bool.not_eq_false', Bool.and_eq_false_iff, Bool.or_eq_false_iff, Nat.not_lt, Int.not_lt, Nat.not_le, Int.not_le, Int.ofNat_lt, Int.ofNat_le, Int.ofNat_inj, Bool.xor_false, Bool.false_xor, Bool.true_xor, Bool.xor_true] at h) <;> (try simp (maxSteps := 2000000) (disch := omega) only [go_sem, seval]) <;> (try repeat ((with_reducible refine And.intro ?_ ?_); focus (first | omega | assumption | exact True.intro | (show anyD _ _ = true; exact rfl) | (simp only [List.length_map, List.length_append, List.length_cons, List.length_nil, List.length_take, List.length_drop]; omega))))
  · subst h
    rfl
  · have hp : 0 < l.length := List.length_pos_iff.2 (by simpa using h)
    have ht := top_at hp
    have hM := (top_mem hl (by simpa using h)).2
    try simp (maxSteps := 2000000) (disch := omega) only [go_sem, seval, ht]
    try repeat ((with_reducible refine And.intro ?_ ?_); focus (first | omega | assumption | exact True.intro | (show anyD _ _ = true; exact rfl) | (simp only [List.length_map, List.length_append, List.length_cons, List.length_nil, List.length_take, List.length_drop]; omega)))
    (first | refine callP.mk (refMinus_c [⟨0, top l⟩] l (nrm_one (Nat.zero_le _) hM) hl (by simp) h1) rfl ?_ | refine callQ.mk (refMinus_c [⟨0, top l⟩] l (nrm_one (Nat.zero_le _) hM) hl (by simp) h1) rfl ?_ | refine callO.rd (refMinus_c [⟨0, top l⟩] l (nrm_one (Nat.zero_le _) hM) hl (by simp) h1) rfl ?_ | refine callO.mk (refMinus_c [⟨0, top l⟩] l (nrm_one (Nat.zero_le _) hM) hl (by simp) h1) rfl ?_)
    try simp (maxSteps := 2000000) (disch := omega) only [go_sem, seval]
    try repeat ((with_reducible refine And.intro ?_ ?_); focus (first | omega | assumption | exact True.intro | (show anyD _ _ = true; exact rfl) | (simp only [List.length_map, List.length_append, List.length_cons, List.length_nil, List.length_take, List.length_drop]; omega)))
    rw [ofS_cons (by simpa using h)]
end Go.Proofs.YtjmhmeadcphfmaaGreatDoor
namespace Go.Proofs.YtjmhmeadcphfmaaGreatDoor
set_option linter.unusedVariables false
set_option linter.unusedSimpArgs false
open Go.RowKit
set_option maxRecDepth 100000
theorem upTo_c (x : Nat) : Cn Tryz.prog 174 [.v (.int .u64 x)] (ivp ⟨0, x⟩) := by
  refine cn_go Tryz.func174 [] 1 (by kernel_rfl) rfl (by simp [go_sem, seval]) ?_
  conv => arg 4; cbv
  conv => enter [5, 1]; cbv
  try simp (maxSteps := 2000000) (disch := omega) only [go_sem, seval]
  try repeat ((with_reducible refine And.intro ?_ ?_); focus (first | omega | assumption | exact True.intro | (show anyD _ _ = true; exact rfl) | (simp only [List.length_map, List.length_append, List.length_cons, List.length_nil, List.length_take, List.length_drop]; omega)))
  try rfl
theorem eknown_c (e : En) (h : RightE e) (hl : e.holes.length ≤ 131072) : Cn Tryz.prog 124 [ep e] (rg (kn e)) := by
  refine cn_go Tryz.func124 [] 1 (by kernel_rfl) rfl (by simp [go_sem, seval]) ?_
  conv => arg 4; cbv
  conv => enter [5, 1]; cbv
  try simp (maxSteps := 2000000) (disch := omega) only [go_sem, seval]
  try repeat ((with_reducible refine And.intro ?_ ?_); focus (first | omega | assumption | exact True.intro | (show anyD _ _ = true; exact rfl) | (simp only [List.length_map, List.length_append, List.length_cons, List.length_nil, List.length_take, List.length_drop]; omega)))
  (first | refine callP.mk (upTo_c e.max) rfl ?_ | refine callQ.mk (upTo_c e.max) rfl ?_ | refine callO.rd (upTo_c e.max) rfl ?_ | refine callO.mk (upTo_c e.max) rfl ?_)
  try simp (maxSteps := 2000000) (disch := omega) only [go_sem, seval]
  try repeat ((with_reducible refine And.intro ?_ ?_); focus (first | omega | assumption | exact True.intro | (show anyD _ _ = true; exact rfl) | (simp only [List.length_map, List.length_append, List.length_cons, List.length_nil, List.length_take, List.length_drop]; omega)))
  (first | refine callP.mk (not_c e.holes ⟨0, e.max⟩ h.1 (Nat.zero_le _) h.2.2.1 (by omega)) rfl ?_ | refine callQ.mk (not_c e.holes ⟨0, e.max⟩ h.1 (Nat.zero_le _) h.2.2.1 (by omega)) rfl ?_ | refine callO.rd (not_c e.holes ⟨0, e.max⟩ h.1 (Nat.zero_le _) h.2.2.1 (by omega)) rfl ?_ | refine callO.mk (not_c e.holes ⟨0, e.max⟩ h.1 (Nat.zero_le _) h.2.2.1 (by omega)) rfl ?_)
  try simp (maxSteps := 2000000) (disch := omega) only [go_sem, seval]
  try repeat ((with_reducible refine And.intro ?_ ?_); focus (first | omega | assumption | exact True.intro | (show anyD _ _ = true; exact rfl) | (simp only [List.length_map, List.length_append, List.length_cons, List.length_nil, List.length_take, List.length_drop]; omega)))
  rfl
theorem eof_c (r : Nat) (l : List Iv) (hl : Nrm l) (h1 : l.length ≤ 131072) : Cn Tryz.prog 178 [.v (.int .u64 r), rg l] (.tup [ep (ofS r l).1, .v (.bool (ofS r l).2)]) := by
  refine cn_go Tryz.func178 [] 2 (by kernel_rfl) rfl (by simp [go_sem, seval]) ?_
  conv => arg 4; cbv
  conv => enter [5, 1]; cbv
  try simp (maxSteps := 2000000) (disch := omega) only [go_sem, seval]
  try repeat ((with_reducible refine And.intro ?_ ?_); focus (first | omega | assumption | exact True.intro | (show anyD _ _ = true; exact rfl) | (simp only [List.length_map, List.length_append, List.length_cons, List.length_nil, List.length_take, List.length_drop]; omega)))
  (first | refine brP.mk (fun h => ?_) (fun h => ?_) | refine gdP.mkt (fun h => ?_) (fun h => ?_) | refine gdP.mkf (fun h => ?_) (fun h => ?_) | refine pkP.mk (fun h => ?_) (fun h => ?_)) <;> (try simp only [Bool.not_true, Bool.not_false, decide_eq_true_eq, decide_eq_false_iff_not, Bool.and_eq_true, Bool.or_eq_true, Bool.not_eq_true', Bool.not_eq_false', Bool.and_eq_false_iff, Bool.or_eq_false_iff, Nat.not_lt, Int.not_lt, Nat.not_le, Int.not_le, Int.ofNat_lt, Int.ofNat_le, Int.ofNat_inj, Bool.xor_false, Bool.false_xor, Bool.true_xor, Bool.xor_true] at h) <;> (try simp (maxSteps := 2000000) (disch := omega) only [go_sem, seval]) <;> (try repeat ((with_reducible refine And.intro ?_ ?_); focus (first | omega | assumption | exact True.intro | (show anyD _ _ = true; exact rfl) | (simp only [List.length_map, List.length_append, List.length_cons, List.length_nil, List.length_take, List.length_drop]; omega))))
  · subst h
    rfl
  · have hp : 0 < l.length := List.length_pos_iff.2 (by simpa using h)
    have ht := top_at hp
    have hM := (top_mem hl (by simpa using h)).2
    try simp (maxSteps := 2000000) (disch := omega) only [go_sem, seval, ht]
    try repeat ((with_reducible refine And.intro ?_ ?_); focus (first | omega | assumption | exact True.intro | (show anyD _ _ = true; exact rfl) | (simp only [List.length_map, List.length_append, List.length_cons, List.length_nil, List.length_take, List.length_drop]; omega)))
    (first | refine callP.mk (upTo_c (top l)) rfl ?_ | refine callQ.mk (upTo_c (top l)) rfl ?_ | refine callO.rd (upTo_c (top l)) rfl ?_ | refine callO.mk (upTo_c (top l)) rfl ?_)
    try simp (maxSteps := 2000000) (disch := omega) only [go_sem, seval]
    try repeat ((with_reducible refine And.intro ?_ ?_); focus (first | omega | assumption | exact True.intro | (show anyD _ _ = true; exact rfl) | (simp only [List.length_map, List.length_append, List.length_cons, List.length_nil, List.length_take, List.length_drop]; omega)))
    (first | refine callP.mk (not_c l ⟨0, top l⟩ hl (Nat.zero_le _) hM (by omega)) rfl ?_ | refine callQ.mk (not_c l ⟨0, top l⟩ hl (Nat.zero_le _) hM (by omega)) rfl ?_ | refine callO.rd (not_c l ⟨0, top l⟩ hl (Nat.zero_le _) hM (by omega)) rfl ?_ | refine callO.mk (not_c l ⟨0, top l⟩ hl (Nat.zero_le _) hM (by omega)) rfl ?_)
    try simp (maxSteps := 2000000) (disch := omega) only [go_sem, seval]
    try repeat ((with_reducible refine And.intro ?_ ?_); focus (first | omega | assumption | exact True.intro | (show anyD _ _ = true; exact rfl) | (simp only [List.length_map, List.length_append, List.length_cons, List.length_nil, List.length_take, List.length_drop]; omega)))
    rw [ofS_cons (by simpa using h)]
section
variable (a b : En) (ha : RightE a) (hb : RightE b) (la : a.holes.length ≤ 10000) (lb : b.holes.length ≤ 10000)
include ha hb la lb
end
end Go.Proofs.YtjmhmeadcphfmaaGreatDoor
namespace Go.Proofs.YtjmhmeadcphfmaaGreatDoor
set_option linter.unusedVariables false
set_option linter.unusedSimpArgs false
open Go.RowKit
set_option maxRecDepth 100000
theorem wrap_i {n : Int} (h : -9223372036854775808 ≤ n ∧ n < 9223372036854775808) : IntKind.i64.wrap n = n := by
  simp only [IntKind.wrap, IntKind.bits, IntKind.signed]
  simp
  omega
theorem ex_part (p : Nat → Prop) [DecidablePred p] : ∀ n, (∀ i j, i ≤ j → j < n → p j → p i) → ∃ i, i ≤ n ∧ (∀ j, j < i → p j) ∧ ∀ j, i ≤ j → j < n → ¬ p j
  | 0, _ => ⟨0, Nat.le_refl _, fun j h => absurd h (by omega), fun j h1 h2 => absurd h2 (by omega)⟩
  | n + 1, h => by
    by_cases hp : p n
    · exact ⟨n + 1, Nat.le_refl _, fun j hj => h j n (by omega) (by omega) hp, fun j h1 h2 => absurd h2 (by omega)⟩
    · obtain ⟨i, h1, h2, h3⟩ := ex_part p n fun i j hij hj => h i j hij (by omega)
      refine ⟨i, by omega, h2, fun j h4 h5 => ?_⟩
      rcases Nat.lt_or_ge j n with h6 | h6
      · exact h3 j h4 h6
      · obtain rfl : j = n := by omega
        exact hp
attribute [go_sem] wrap_i
theorem bsfR_c (l : List Iv) (x : Nat) (g : FuncId) (c : Nat → Int) (i : Nat) (hi : i ≤ l.length) (h1 : ∀ j, j < i → c j < 0) (h2 : ∀ j, i ≤ j → j < l.length → 0 ≤ c j) (hl : l.length ≤ 1152921504606846976)
    (hg : ∀ k (h : k < l.length), Cn Tryz.prog g [ivp l[k], .v (.int .u64 x)] (.v (.int .i64 (c k)))) : Cn Tryz.prog 214 [rg l, .v (.int .u64 x), .fn (.func g) [] []] (.tup [.v (.int .i64 i), .v (.bool (decide (i < l.length) && decide (c i = 0)))]) := by
  refine cn_go Tryz.func214 [] 3 (by kernel_rfl) rfl (by simp [go_sem, seval]) ?_
  conv => arg 4; cbv
  conv => enter [5, 1]; cbv
  try simp (maxSteps := 2000000) (disch := omega) only [go_sem, seval]
  try repeat ((with_reducible refine And.intro ?_ ?_); focus (first | omega | assumption | exact True.intro | (show anyD _ _ = true; exact rfl) | (simp only [List.length_map, List.length_append, List.length_cons, List.length_nil, List.length_take, List.length_drop]; omega)))
  refine pLoop.go (fun p : Nat × Nat => p.1 ≤ i ∧ i ≤ p.2 ∧ p.2 ≤ l.length) (fun p => [(9, .v (.int .i64 (p.1 : Nat))), (10, .v (.int .i64 (p.2 : Nat)))]) (fun _ => []) (fun p => p.2 - p.1) (0, l.length) [9, 10] ?_ ?_ ?_
  · exact ⟨Nat.zero_le _, hi, Nat.le_refl _⟩
  · try simp (maxSteps := 2000000) (disch := omega) only [go_sem, seval]
    try repeat ((with_reducible refine And.intro ?_ ?_); focus (first | omega | assumption | exact True.intro | (show anyD _ _ = true; exact rfl) | (simp only [List.length_map, List.length_append, List.length_cons, List.length_nil, List.length_take, List.length_drop]; omega)))
  · rintro ⟨p, q⟩ ⟨k1, k2, k3⟩
    simp only at k1 k2 k3
    try simp (maxSteps := 2000000) (disch := omega) only [go_sem, seval]
    try repeat ((with_reducible refine And.intro ?_ ?_); focus (first | omega | assumption | exact True.intro | (show anyD _ _ = true; exact rfl) | (simp only [List.length_map, List.length_append, List.length_cons, List.length_nil, List.length_take, List.length_drop]; omega)))
    (first | refine brP.mk (fun h => ?_) (fun h => ?_) | refine gdP.mkt (fun h => ?_) (fun h => ?_) | refine gdP.mkf (fun h => ?_) (fun h => ?_) | refine pkP.mk (fun h => ?_) (fun h => ?_)) <;> (try simp only [Bool.not_true, Bool.not_false, decide_eq_true_eq, decide_eq_false_iff_not, Bool.and_eq_true, Bool.or_eq_true, Bool.not_eq_true', Bool.not_eq_false', Bool.and_eq_false_iff, Bool.or_eq_false_iff, Nat.not_lt, Int.not_lt, Nat.not_le, Int.not_le, Int.ofNat_lt, Int.ofNat_le, Int.ofNat_inj, Bool.xor_false, Bool.false_xor, Bool.true_xor, Bool.xor_true] at h) <;> (try simp (maxSteps := 2000000) (disch := omega) only [go_sem, seval]) <;> (try repeat ((with_reducible refine And.intro ?_ ?_); focus (first | omega | assumption | exact True.intro | (show anyD _ _ = true; exact rfl) | (simp only [List.length_map, List.length_append, List.length_cons, List.length_nil, List.length_take, List.length_drop]; omega))))
    · have hm : (p + q) / 2 < l.length := by omega
      try simp (maxSteps := 2000000) (disch := omega) only [go_sem, seval]
      try repeat ((with_reducible refine And.intro ?_ ?_); focus (first | omega | assumption | exact True.intro | (show anyD _ _ = true; exact rfl) | (simp only [List.length_map, List.length_append, List.length_cons, List.length_nil, List.length_take, List.length_drop]; omega)))
      (first | refine callP.mk (hg ((p + q) / 2) hm) rfl ?_ | refine callQ.mk (hg ((p + q) / 2) hm) rfl ?_ | refine callO.rd (hg ((p + q) / 2) hm) rfl ?_ | refine callO.mk (hg ((p + q) / 2) hm) rfl ?_)
      try simp (maxSteps := 2000000) (disch := omega) only [go_sem, seval]
      try repeat ((with_reducible refine And.intro ?_ ?_); focus (first | omega | assumption | exact True.intro | (show anyD _ _ = true; exact rfl) | (simp only [List.length_map, List.length_append, List.length_cons, List.length_nil, List.length_take, List.length_drop]; omega)))
      (first | refine brP.mk (fun h4 => ?_) (fun h4 => ?_) | refine gdP.mkt (fun h4 => ?_) (fun h4 => ?_) | refine gdP.mkf (fun h4 => ?_) (fun h4 => ?_) | refine pkP.mk (fun h4 => ?_) (fun h4 => ?_)) <;> (try simp only [Bool.not_true, Bool.not_false, decide_eq_true_eq, decide_eq_false_iff_not, Bool.and_eq_true, Bool.or_eq_true, Bool.not_eq_true', Bool.not_eq_false', Bool.and_eq_false_iff, Bool.or_eq_false_iff, Nat.not_lt, Int.not_lt, Nat.not_le, Int.not_le, Int.ofNat_lt, Int.ofNat_le, Int.ofNat_inj, Bool.xor_false, Bool.false_xor, Bool.true_xor, Bool.xor_true] at h4) <;> (try simp (maxSteps := 2000000) (disch := omega) only [go_sem, seval]) <;> (try repeat ((with_reducible refine And.intro ?_ ?_); focus (first | omega | assumption | exact True.intro | (show anyD _ _ = true; exact rfl) | (simp only [List.length_map, List.length_append, List.length_cons, List.length_nil, List.length_take, List.length_drop]; omega))))
      · refine ⟨((p + q) / 2 + 1, q), ⟨?_, k2, k3⟩, by simp only; omega, rfl, rfl⟩
        simp only
        refine Nat.lt_of_not_le fun h5 => ?_
        have := h2 _ h5 hm
        omega
      · refine ⟨(p, (p + q) / 2), ⟨k1, ?_, by simp only; omega⟩, by simp only; omega, rfl, rfl⟩
        simp only
        refine Nat.le_of_not_lt fun h5 => ?_
        have := h1 _ h5
        omega
    · obtain rfl : p = i := by omega
      obtain rfl : q = p := by omega
      (first | refine brP.mk (fun h4 => ?_) (fun h4 => ?_) | refine gdP.mkt (fun h4 => ?_) (fun h4 => ?_) | refine gdP.mkf (fun h4 => ?_) (fun h4 => ?_) | refine pkP.mk (fun h4 => ?_) (fun h4 => ?_)) <;> (try simp only [Bool.not_true, Bool.not_false, decide_eq_true_eq, decide_eq_false_iff_not, Bool.and_eq_true, Bool.or_eq_true, Bool.not_eq_true', Bool.not_eq_false', Bool.and_eq_false_iff, Bool.or_eq_false_iff, Nat.not_lt, Int.not_lt, Nat.not_le, Int.not_le, Int.ofNat_lt, Int.ofNat_le, Int.ofNat_inj, Bool.xor_false, Bool.false_xor, Bool.true_xor, Bool.xor_true] at h4) <;> (try simp (maxSteps := 2000000) (disch := omega) only [go_sem, seval]) <;> (try repeat ((with_reducible refine And.intro ?_ ?_); focus (first | omega | assumption | exact True.intro | (show anyD _ _ = true; exact rfl) | (simp only [List.length_map, List.length_append, List.length_cons, List.length_nil, List.length_take, List.length_drop]; omega))))
      · (first | refine callP.mk (hg q h4) rfl ?_ | refine callQ.mk (hg q h4) rfl ?_ | refine callO.rd (hg q h4) rfl ?_ | refine callO.mk (hg q h4) rfl ?_)
        try simp (maxSteps := 2000000) (disch := omega) only [go_sem, seval]
        try repeat ((with_reducible refine And.intro ?_ ?_); focus (first | omega | assumption | exact True.intro | (show anyD _ _ = true; exact rfl) | (simp only [List.length_map, List.length_append, List.length_cons, List.length_nil, List.length_take, List.length_drop]; omega)))
        simp [h4]
      · have h4' : ¬ q < l.length := by omega
        simp [h4']
theorem rfind1_c (s : Iv) (x : Nat) : Cn Tryz.prog 215 [ivp s, .v (.int .u64 x)] (.v (.int .i64 (if s.hi < x then -1 else if x < s.lo then 1 else 0))) := by
  refine cn_go Tryz.func215 [] 2 (by kernel_rfl) rfl (by simp [go_sem, seval]) ?_
  conv => arg 4; cbv
  conv => enter [5, 1]; cbv
  try simp (maxSteps := 2000000) (disch := omega) only [go_sem, seval]
  try repeat ((with_reducible refine And.intro ?_ ?_); focus (first | omega | assumption | exact True.intro | (show anyD _ _ = true; exact rfl) | (simp only [List.length_map, List.length_append, List.length_cons, List.length_nil, List.length_take, List.length_drop]; omega)))
  (first | refine brP.mk (fun h1 => ?_) (fun h1 => ?_) | refine gdP.mkt (fun h1 => ?_) (fun h1 => ?_) | refine gdP.mkf (fun h1 => ?_) (fun h1 => ?_) | refine pkP.mk (fun h1 => ?_) (fun h1 => ?_)) <;> (try simp only [Bool.not_true, Bool.not_false, decide_eq_true_eq, decide_eq_false_iff_not, Bool.and_eq_true, Bool.or_eq_true, Bool.not_eq_true', Bool.not_eq_false', Bool.and_eq_false_iff, Bool.or_eq_false_iff, Nat.not_lt, Int.not_lt, Nat.not_le, Int.not_le, Int.ofNat_lt, Int.ofNat_le, Int.ofNat_inj, Bool.xor_false, Bool.false_xor, Bool.true_xor, Bool.xor_true] at h1) <;> (try simp (maxSteps := 2000000) (disch := omega) only [go_sem, seval]) <;> (try repeat ((with_reducible refine And.intro ?_ ?_); focus (first | omega | assumption | exact True.intro | (show anyD _ _ = true; exact rfl) | (simp only [List.length_map, List.length_append, List.length_cons, List.length_nil, List.length_take, List.length_drop]; omega))))
  · rw [if_pos h1]
  · rw [if_neg (by omega)]
    (first | refine brP.mk (fun h2 => ?_) (fun h2 => ?_) | refine gdP.mkt (fun h2 => ?_) (fun h2 => ?_) | refine gdP.mkf (fun h2 => ?_) (fun h2 => ?_) | refine pkP.mk (fun h2 => ?_) (fun h2 => ?_)) <;> (try simp only [Bool.not_true, Bool.not_false, decide_eq_true_eq, decide_eq_false_iff_not, Bool.and_eq_true, Bool.or_eq_true, Bool.not_eq_true', Bool.not_eq_false', Bool.and_eq_false_iff, Bool.or_eq_false_iff, Nat.not_lt, Int.not_lt, Nat.not_le, Int.not_le, Int.ofNat_lt, Int.ofNat_le, Int.ofNat_inj, Bool.xor_false, Bool.false_xor, Bool.true_xor, Bool.xor_true] at h2) <;> (try simp (maxSteps := 2000000) (disch := omega) only [go_sem, seval]) <;> (try repeat ((with_reducible refine And.intro ?_ ?_); focus (first | omega | assumption | exact True.intro | (show anyD _ _ = true; exact rfl) | (simp only [List.length_map, List.length_append, List.length_cons, List.length_nil, List.length_take, List.length_drop]; omega))))
    · rw [if_pos h2]
    · rw [if_neg (by omega)]
theorem part_mem {l : List Iv} (hl : Nrm l) (x : Nat) : ∃ i, i ≤ l.length ∧ (∀ j, (h : j < l.length) → j < i → l[j].hi < x) ∧ (∀ j, (h : j < l.length) → i ≤ j → x ≤ l[j].hi) ∧ (mem l x = true ↔ ∃ h : i < l.length, l[i].lo ≤ x) := by
  have mono : ∀ {n : Nat} {l : List Iv}, NF n l → ∀ i j, (hij : i < j) → (hj : j < l.length) → l[i].hi < l[j].lo := by
    intro n l
    induction l generalizing n with
    | nil => intro _ i j _ hj; simp at hj
    | cons s l ih =>
      intro h i j hij hj
      obtain ⟨j', rfl⟩ : ∃ j', j = j' + 1 := ⟨j - 1, by omega⟩
      cases i with
      | zero =>
        have := NF.lo_ge h.2.2.2 (l[j']'(by simpa using hj)) (List.getElem_mem _)
        simp only [List.getElem_cons_zero, List.getElem_cons_succ]
        omega
      | succ i => exact ih h.2.2.2 i j' (by omega) (by simpa using hj)
  obtain ⟨i, h1, h2, h3⟩ := ex_part (fun j => ∃ h : j < l.length, l[j].hi < x) l.length fun a b hab hb ⟨h4, h5⟩ => by
    refine ⟨by omega, ?_⟩
    rcases Nat.lt_or_eq_of_le hab with h6 | h6
    · have := mono hl a b h6 hb
      have := NF.lo_ge hl l[b] (List.getElem_mem _)
      omega
    · subst h6; exact h5
  have h3' : ∀ j, (h : j < l.length) → i ≤ j → x ≤ l[j].hi := fun j hj hij => by
    have := h3 j hij hj
    exact Nat.le_of_not_lt fun h => this ⟨hj, h⟩
  refine ⟨i, h1, fun j hj hji => (h2 j hji).2, h3', ?_⟩
  rw [mem_iff]
  constructor
  · rintro ⟨s, hs, h4, h5⟩
    obtain ⟨j, hj, rfl⟩ := List.getElem_of_mem hs
    have hij : i ≤ j := Nat.le_of_not_lt fun h => by have := (h2 j h).2; omega
    refine ⟨by omega, ?_⟩
    rcases Nat.lt_or_eq_of_le hij with h6 | h6
    · have := mono hl i j h6 hj
      have := NF.lo_ge hl (l[i]'(by omega)) (List.getElem_mem _)
      omega
    · subst h6; exact h4
  · rintro ⟨h, h4⟩
    exact ⟨l[i], List.getElem_mem _, h4, h3' i h (Nat.le_refl _)⟩
def cmpI (x : Nat) (s : Iv) : Int := if s.hi < x then -1 else if x < s.lo then 1 else 0
theorem rhas_c (l : List Iv) (x : Nat) (hl : Nrm l) (hn : l.length ≤ 1152921504606846976) : Cn Tryz.prog 134 [rg l, .v (.int .u64 x)] (.v (.bool (mem l x))) := by
  obtain ⟨i, h1, h2, h3, h4⟩ := part_mem hl x
  have hF : Cn Tryz.prog 184 [rg l, .v (.int .u64 x)] (.v (.int .i64 (if mem l x then (i : Int) else -1))) := by
    refine cn_go Tryz.func184 [] 2 (by kernel_rfl) rfl (by simp [go_sem, seval]) ?_
    conv => arg 4; cbv
    conv => enter [5, 1]; cbv
    try simp (maxSteps := 2000000) (disch := omega) only [go_sem, seval]
    try repeat ((with_reducible refine And.intro ?_ ?_); focus (first | omega | assumption | exact True.intro | (show anyD _ _ = true; exact rfl) | (simp only [List.length_map, List.length_append, List.length_cons, List.length_nil, List.length_take, List.length_drop]; omega)))
    (first | refine callP.mk (bsfR_c l x 215 (fun k => if h : k < l.length then cmpI x l[k] else 0) i h1 (fun j hj => by rw [dif_pos (show j < l.length by omega)]; unfold cmpI; rw [if_pos (h2 j (by omega) hj)]; decide) (fun j hj hjl => by rw [dif_pos hjl]; unfold cmpI; rw [if_neg (by have := h3 j hjl hj; omega)]; split <;> decide) hn (fun k h => by rw [dif_pos h]; exact rfind1_c l[k] x)) rfl ?_ | refine callQ.mk (bsfR_c l x 215 (fun k => if h : k < l.length then cmpI x l[k] else 0) i h1 (fun j hj => by rw [dif_pos (show j < l.length by omega)]; unfold cmpI; rw [if_pos (h2 j (by omega) hj)]; decide) (fun j hj hjl => by rw [dif_pos hjl]; unfold cmpI; rw [if_neg (by have := h3 j hjl hj; omega)]; split <;> decide) hn (fun k h => by rw [dif_pos h]; exact rfind1_c l[k] x)) rfl ?_ | refine callO.rd (bsfR_c l x 215 (fun k => if h : k < l.length then cmpI x l[k] else 0) i h1 (fun j hj => by rw [dif_pos (show j < l.length by omega)]; unfold cmpI; rw [if_pos (h2 j (by omega) hj)]; decide) (fun j hj hjl => by rw [dif_pos hjl]; unfold cmpI; rw [if_neg (by have := h3 j hjl hj; omega)]; split <;> decide) hn (fun k h => by rw [dif_pos h]; exact rfind1_c l[k] x)) rfl ?_ | refine callO.mk (bsfR_c l x 215 (fun k => if h : k < l.length then cmpI x l[k] else 0) i h1 (fun j hj => by rw [dif_pos (show j < l.length by omega)]; unfold cmpI; rw [if_pos (h2 j (by omega) hj)]; decide) (fun j hj hjl => by rw [dif_pos hjl]; unfold cmpI; rw [if_neg (by have := h3 j hjl hj; omega)]; split <;> decide) hn (fun k h => by rw [dif_pos h]; exact rfind1_c l[k] x)) rfl ?_)
    try simp (maxSteps := 2000000) (disch := omega) only [go_sem, seval]
    try repeat ((with_reducible refine And.intro ?_ ?_); focus (first | omega | assumption | exact True.intro | (show anyD _ _ = true; exact rfl) | (simp only [List.length_map, List.length_append, List.length_cons, List.length_nil, List.length_take, List.length_drop]; omega)))
    have e : (decide (i < l.length) && decide ((if h : i < l.length then cmpI x l[i] else 0) = 0)) = mem l x := by
      rw [Bool.eq_iff_iff, h4]
      simp only [Bool.and_eq_true, decide_eq_true_eq]
      constructor
      · rintro ⟨k1, k2⟩
        refine ⟨k1, ?_⟩
        rw [dif_pos k1] at k2
        unfold cmpI at k2
        split at k2
        · cases k2
        · split at k2
          · cases k2
          · omega
      · rintro ⟨k1, k2⟩
        refine ⟨k1, ?_⟩
        rw [dif_pos k1]
        unfold cmpI
        rw [if_neg (by have := h3 i k1 (Nat.le_refl _); omega), if_neg (by omega)]
    rw [e]
    (first | refine brP.mk (fun h5 => ?_) (fun h5 => ?_) | refine gdP.mkt (fun h5 => ?_) (fun h5 => ?_) | refine gdP.mkf (fun h5 => ?_) (fun h5 => ?_) | refine pkP.mk (fun h5 => ?_) (fun h5 => ?_)) <;> (try simp only [Bool.not_true, Bool.not_false, decide_eq_true_eq, decide_eq_false_iff_not, Bool.and_eq_true, Bool.or_eq_true, Bool.not_eq_true', Bool.not_eq_false', Bool.and_eq_false_iff, Bool.or_eq_false_iff, Nat.not_lt, Int.not_lt, Nat.not_le, Int.not_le, Int.ofNat_lt, Int.ofNat_le, Int.ofNat_inj, Bool.xor_false, Bool.false_xor, Bool.true_xor, Bool.xor_true] at h5) <;> (try simp (maxSteps := 2000000) (disch := omega) only [go_sem, seval]) <;> (try repeat ((with_reducible refine And.intro ?_ ?_); focus (first | omega | assumption | exact True.intro | (show anyD _ _ = true; exact rfl) | (simp only [List.length_map, List.length_append, List.length_cons, List.length_nil, List.length_take, List.length_drop]; omega))))
    · rw [h5]; rfl
    · rw [h5]; rfl
  refine cn_go Tryz.func134 [] 2 (by kernel_rfl) rfl (by simp [go_sem, seval]) ?_
  conv => arg 4; cbv
  conv => enter [5, 1]; cbv
  try simp (maxSteps := 2000000) (disch := omega) only [go_sem, seval]
  try repeat ((with_reducible refine And.intro ?_ ?_); focus (first | omega | assumption | exact True.intro | (show anyD _ _ = true; exact rfl) | (simp only [List.length_map, List.length_append, List.length_cons, List.length_nil, List.length_take, List.length_drop]; omega)))
  (first | refine callP.mk (hF) rfl ?_ | refine callQ.mk (hF) rfl ?_ | refine callO.rd (hF) rfl ?_ | refine callO.mk (hF) rfl ?_)
  try simp (maxSteps := 2000000) (disch := omega) only [go_sem, seval]
  try repeat ((with_reducible refine And.intro ?_ ?_); focus (first | omega | assumption | exact True.intro | (show anyD _ _ = true; exact rfl) | (simp only [List.length_map, List.length_append, List.length_cons, List.length_nil, List.length_take, List.length_drop]; omega)))
  cases mem l x <;> simp
theorem ehas_c (e : En) (c : Nat) (h : RightE e) (hn : e.holes.length ≤ 1152921504606846976) : Cn Tryz.prog 101 [ep e, .v (.int .u64 c)] (.v (.bool (decide (c ≤ e.max) && !mem e.holes c))) := by
  refine cn_go Tryz.func101 [] 2 (by kernel_rfl) rfl (by simp [go_sem, seval]) ?_
  conv => arg 4; cbv
  conv => enter [5, 1]; cbv
  try simp (maxSteps := 2000000) (disch := omega) only [go_sem, seval]
  try repeat ((with_reducible refine And.intro ?_ ?_); focus (first | omega | assumption | exact True.intro | (show anyD _ _ = true; exact rfl) | (simp only [List.length_map, List.length_append, List.length_cons, List.length_nil, List.length_take, List.length_drop]; omega)))
  (first | refine brP.mk (fun h1 => ?_) (fun h1 => ?_) | refine gdP.mkt (fun h1 => ?_) (fun h1 => ?_) | refine gdP.mkf (fun h1 => ?_) (fun h1 => ?_) | refine pkP.mk (fun h1 => ?_) (fun h1 => ?_)) <;> (try simp only [Bool.not_true, Bool.not_false, decide_eq_true_eq, decide_eq_false_iff_not, Bool.and_eq_true, Bool.or_eq_true, Bool.not_eq_true', Bool.not_eq_false', Bool.and_eq_false_iff, Bool.or_eq_false_iff, Nat.not_lt, Int.not_lt, Nat.not_le, Int.not_le, Int.ofNat_lt, Int.ofNat_le, Int.ofNat_inj, Bool.xor_false, Bool.false_xor, Bool.true_xor, Bool.xor_true] at h1) <;> (try simp (maxSteps := 2000000) (disch := omega) only [go_sem, seval]) <;> (try repeat ((with_reducible refine And.intro ?_ ?_); focus (first | omega | assumption | exact True.intro | (show anyD _ _ = true; exact rfl) | (simp only [List.length_map, List.length_append, List.length_cons, List.length_nil, List.length_take, List.length_drop]; omega))))
  · (first | refine callP.mk (rhas_c e.holes c h.1 hn) rfl ?_ | refine callQ.mk (rhas_c e.holes c h.1 hn) rfl ?_ | refine callO.rd (rhas_c e.holes c h.1 hn) rfl ?_ | refine callO.mk (rhas_c e.holes c h.1 hn) rfl ?_)
    try simp (maxSteps := 2000000) (disch := omega) only [go_sem, seval]
    try repeat ((with_reducible refine And.intro ?_ ?_); focus (first | omega | assumption | exact True.intro | (show anyD _ _ = true; exact rfl) | (simp only [List.length_map, List.length_append, List.length_cons, List.length_nil, List.length_take, List.length_drop]; omega)))
    simp [h1]
  · have h1' : ¬ c ≤ e.max := by omega
    simp [h1']
end Go.Proofs.YtjmhmeadcphfmaaGreatDoor
namespace Go.Proofs.YtjmhmeadcphfmaaGreatDoor
set_option linter.unusedVariables false
set_option linter.unusedSimpArgs false
open Go.RowKit
set_option maxRecDepth 100000
def vp (v : List En) : PV := .sl (v.map ec) .sh
attribute [go_sem] vp
def BdE (e : En) : Prop := (∀ s ∈ e.holes, s.lo < M64 ∧ s.hi < M64) ∧ e.max < M64 ∧ e.rep < M64
def ea : En := ⟨1, 2, []⟩
def eb : En := ⟨1, 5, [⟨3, 4⟩]⟩
def ed : En := ⟨1, 5, []⟩
section
variable (a b : En) (ha : BdE a) (hb : BdE b)
include ha hb
end
end Go.Proofs.YtjmhmeadcphfmaaGreatDoor
namespace Go.Proofs.YtjmhmeadcphfmaaGreatDoor
set_option linter.unusedVariables false
set_option linter.unusedSimpArgs false
open Go.ChangeShapes Go.WideShapes Go.ChangeAt Go.RowKit Go.Deep
set_option maxRecDepth 100000
theorem agg3_dat {D : Nat → Nat → Prop} {w : World} {x y z : Value} {p q r : PV} (hx : x.oneCell' = true) (hy : y.oneCell' = true) (hz : z.oneCell' = true) (h1 : Dat D w x p) (h2 : Dat D w y q) (h3 : Dat D w z r) : Dat D w (.agg #[x, y, z]) (.agg [p, q, r]) := by
  refine .agg _ _ rfl (fun i hi => ?_) fun i p hp => ?_
  · match i, hi with
    | 0, _ => exact hx
    | 1, _ => exact hy
    | 2, _ => exact hz
  · match i, hp with
    | 0, hp => cases hp; exact h1
    | 1, hp => cases hp; exact h2
    | 2, hp => cases hp; exact h3
section
variable {H : Type} {enc : TypeId × Value → H} {w : World} {base : Nat} {spare : Nat → Bool} {held : Bool}
end
end Go.Proofs.YtjmhmeadcphfmaaGreatDoor
namespace Go.Proofs.YtjmhmeadcphfmaaGreatDoor
set_option linter.unusedVariables false
set_option linter.unusedSimpArgs false
open Go.RowKit
set_option maxRecDepth 100000
end Go.Proofs.YtjmhmeadcphfmaaGreatDoor
