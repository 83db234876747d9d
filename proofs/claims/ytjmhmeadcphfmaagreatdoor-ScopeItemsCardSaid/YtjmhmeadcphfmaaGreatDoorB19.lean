/- Texts of this claim, bound together: T30b T31. -/
import Derived.Test.YtjmhmeadcphfmaaGreatDoorB18
/- The contracts of scope.Check and Same, kenningref11.Same; the example of chapter 11. -/
namespace Go.Proofs.YtjmhmeadcphfmaaGreatDoor
set_option linter.unusedVariables false
set_option linter.unusedSimpArgs false
open Go.RowKit
set_option maxRecDepth 100000
theorem kcheck_c (k : List Fg) (hb : BdK k) (hz : SzK k) : Cn Tryz.prog 33 [kp k] (errV (ckK k).1 (ckK k).2) := by
  have hl := hz.1
  refine cn_go Tryz.func33 [] 1 (by kernel_rfl) rfl (by simp [go_sem, seval]) ?_
  conv => arg 4; cbv
  conv => enter [5, 1]; cbv
  try simp (maxSteps := 2000000) (disch := omega) only [go_sem, seval]
  try repeat ((with_reducible refine And.intro ?_ ?_); focus (first | omega | assumption | exact True.intro | (show anyD _ _ = true; exact rfl) | (simp only [List.length_map, List.length_append, List.length_cons, List.length_nil, List.length_take, List.length_drop]; omega)))
  refine pLoop.go (fun j => j ≤ k.length ∧ ckK k = hkK j (k.drop j)) (fun j => [(9, .v (.int .i64 (j : Nat)))]) (fun _ => []) (fun j => k.length - j) 0 [9] ?_ ?_ ?_
  · exact ⟨Nat.zero_le _, rfl⟩
  · try simp (maxSteps := 2000000) (disch := omega) only [go_sem, seval]
    try repeat ((with_reducible refine And.intro ?_ ?_); focus (first | omega | assumption | exact True.intro | (show anyD _ _ = true; exact rfl) | (simp only [List.length_map, List.length_append, List.length_cons, List.length_nil, List.length_take, List.length_drop]; omega)))
  · rintro j ⟨hj, hm⟩
    try simp (maxSteps := 2000000) (disch := omega) only [go_sem, seval]
    try repeat ((with_reducible refine And.intro ?_ ?_); focus (first | omega | assumption | exact True.intro | (show anyD _ _ = true; exact rfl) | (simp only [List.length_map, List.length_append, List.length_cons, List.length_nil, List.length_take, List.length_drop]; omega)))
    (first | refine brP.mk (fun h => ?_) (fun h => ?_) | refine gdP.mkt (fun h => ?_) (fun h => ?_) | refine gdP.mkf (fun h => ?_) (fun h => ?_) | refine pkP.mk (fun h => ?_) (fun h => ?_)) <;> (try simp only [Bool.not_true, Bool.not_false, decide_eq_true_eq, decide_eq_false_iff_not, Bool.and_eq_true, Bool.or_eq_true, Bool.not_eq_true', Bool.not_eq_false', Bool.and_eq_false_iff, Bool.or_eq_false_iff, Nat.not_lt, Int.not_lt, Nat.not_le, Int.not_le, Int.ofNat_lt, Int.ofNat_le, Int.ofNat_inj, Bool.xor_false, Bool.false_xor, Bool.true_xor, Bool.xor_true] at h) <;> (try simp (maxSteps := 2000000) (disch := omega) only [go_sem, seval]) <;> (try repeat ((with_reducible refine And.intro ?_ ?_); focus (first | omega | assumption | exact True.intro | (show anyD _ _ = true; exact rfl) | (simp only [List.length_map, List.length_append, List.length_cons, List.length_nil, List.length_take, List.length_drop]; omega))))
    · rw [List.drop_eq_getElem_cons h, hkK] at hm
      have hbj := hb.1 _ (List.getElem_mem h)
      have hzj := hz.2 _ (List.getElem_mem h)
      have hco1 := code_c (chk k[j].items).1 (chk k[j].items).2
      have hco2 := code_c (chkV k[j].vec).1 (chkV k[j].vec).2
      try simp (maxSteps := 2000000) (disch := omega) only [go_sem, seval]
      try repeat ((with_reducible refine And.intro ?_ ?_); focus (first | omega | assumption | exact True.intro | (show anyD _ _ = true; exact rfl) | (simp only [List.length_map, List.length_append, List.length_cons, List.length_nil, List.length_take, List.length_drop]; omega)))
      (first | refine callP.mk (rcheck_c k[j].items hbj.1 hzj.1 (.inr (codeN_c 2))) rfl ?_ | refine callQ.mk (rcheck_c k[j].items hbj.1 hzj.1 (.inr (codeN_c 2))) rfl ?_ | refine callO.rd (rcheck_c k[j].items hbj.1 hzj.1 (.inr (codeN_c 2))) rfl ?_ | refine callO.mk (rcheck_c k[j].items hbj.1 hzj.1 (.inr (codeN_c 2))) rfl ?_)
      by_cases h1 : (chk k[j].items).1 = 0
      · rw [errV_nil h1]
        rw [if_neg (by omega)] at hm
        try simp (maxSteps := 2000000) (disch := omega) only [go_sem, seval]
        try repeat ((with_reducible refine And.intro ?_ ?_); focus (first | omega | assumption | exact True.intro | (show anyD _ _ = true; exact rfl) | (simp only [List.length_map, List.length_append, List.length_cons, List.length_nil, List.length_take, List.length_drop]; omega)))
        (first | refine callP.mk (vcheck_c k[j].vec hbj.2.1 hzj.2.1 hzj.2.2) rfl ?_ | refine callQ.mk (vcheck_c k[j].vec hbj.2.1 hzj.2.1 hzj.2.2) rfl ?_ | refine callO.rd (vcheck_c k[j].vec hbj.2.1 hzj.2.1 hzj.2.2) rfl ?_ | refine callO.mk (vcheck_c k[j].vec hbj.2.1 hzj.2.1 hzj.2.2) rfl ?_)
        by_cases h2 : (chkV k[j].vec).1 = 0
        · rw [errV_nil h2]
          rw [if_neg (by omega)] at hm
          try simp (maxSteps := 2000000) (disch := omega) only [go_sem, seval]
          try repeat ((with_reducible refine And.intro ?_ ?_); focus (first | omega | assumption | exact True.intro | (show anyD _ _ = true; exact rfl) | (simp only [List.length_map, List.length_append, List.length_cons, List.length_nil, List.length_take, List.length_drop]; omega)))
          exact ⟨j + 1, ⟨h, hm⟩, by omega, rfl⟩
        · rw [if_pos h2] at hm
          rw [hm]
          rw [errV_ifc h2] at hco2 ⊢
          try simp (maxSteps := 2000000) (disch := omega) only [go_sem, seval]
          try repeat ((with_reducible refine And.intro ?_ ?_); focus (first | omega | assumption | exact True.intro | (show anyD _ _ = true; exact rfl) | (simp only [List.length_map, List.length_append, List.length_cons, List.length_nil, List.length_take, List.length_drop]; omega)))
          (first | refine callP.mk (hco2) rfl ?_ | refine callQ.mk (hco2) rfl ?_ | refine callO.rd (hco2) rfl ?_ | refine callO.mk (hco2) rfl ?_)
          try simp (maxSteps := 2000000) (disch := omega) only [go_sem, seval]
          try repeat ((with_reducible refine And.intro ?_ ?_); focus (first | omega | assumption | exact True.intro | (show anyD _ _ = true; exact rfl) | (simp only [List.length_map, List.length_append, List.length_cons, List.length_nil, List.length_take, List.length_drop]; omega)))
          (first | refine callP.mk (fnew_c (chkV k[j].vec).1 j) rfl ?_ | refine callQ.mk (fnew_c (chkV k[j].vec).1 j) rfl ?_ | refine callO.rd (fnew_c (chkV k[j].vec).1 j) rfl ?_ | refine callO.mk (fnew_c (chkV k[j].vec).1 j) rfl ?_)
          try simp (maxSteps := 2000000) (disch := omega) only [go_sem, seval]
          try repeat ((with_reducible refine And.intro ?_ ?_); focus (first | omega | assumption | exact True.intro | (show anyD _ _ = true; exact rfl) | (simp only [List.length_map, List.length_append, List.length_cons, List.length_nil, List.length_take, List.length_drop]; omega)))
          exact errV_sub _ _
      · rw [if_pos h1] at hm
        rw [hm]
        rw [errV_ifc h1] at hco1 ⊢
        try simp (maxSteps := 2000000) (disch := omega) only [go_sem, seval]
        try repeat ((with_reducible refine And.intro ?_ ?_); focus (first | omega | assumption | exact True.intro | (show anyD _ _ = true; exact rfl) | (simp only [List.length_map, List.length_append, List.length_cons, List.length_nil, List.length_take, List.length_drop]; omega)))
        (first | refine callP.mk (hco1) rfl ?_ | refine callQ.mk (hco1) rfl ?_ | refine callO.rd (hco1) rfl ?_ | refine callO.mk (hco1) rfl ?_)
        try simp (maxSteps := 2000000) (disch := omega) only [go_sem, seval]
        try repeat ((with_reducible refine And.intro ?_ ?_); focus (first | omega | assumption | exact True.intro | (show anyD _ _ = true; exact rfl) | (simp only [List.length_map, List.length_append, List.length_cons, List.length_nil, List.length_take, List.length_drop]; omega)))
        (first | refine callP.mk (fnew_c (chk k[j].items).1 j) rfl ?_ | refine callQ.mk (fnew_c (chk k[j].items).1 j) rfl ?_ | refine callO.rd (fnew_c (chk k[j].items).1 j) rfl ?_ | refine callO.mk (fnew_c (chk k[j].items).1 j) rfl ?_)
        try simp (maxSteps := 2000000) (disch := omega) only [go_sem, seval]
        try repeat ((with_reducible refine And.intro ?_ ?_); focus (first | omega | assumption | exact True.intro | (show anyD _ _ = true; exact rfl) | (simp only [List.length_map, List.length_append, List.length_cons, List.length_nil, List.length_take, List.length_drop]; omega)))
        exact errV_sub _ _
    · rw [hm, List.drop_of_length_le (by omega)]
      exact .eq _ rfl
theorem eqI_c (a b : List Nat) (ha : a.length ≤ 1152921504606846976) : Cn Tryz.prog 30 [is a, is b] (.v (.bool (decide (a = b)))) := by
  refine cn_go Tryz.func30 [] 2 (by kernel_rfl) rfl (by simp [go_sem, seval]) ?_
  conv => arg 4; cbv
  conv => enter [5, 1]; cbv
  try simp (maxSteps := 2000000) (disch := omega) only [go_sem, seval]
  try repeat ((with_reducible refine And.intro ?_ ?_); focus (first | omega | assumption | exact True.intro | (show anyD _ _ = true; exact rfl) | (simp only [List.length_map, List.length_append, List.length_cons, List.length_nil, List.length_take, List.length_drop]; omega)))
  (first | refine brP.mk (fun h0 => ?_) (fun h0 => ?_) | refine gdP.mkt (fun h0 => ?_) (fun h0 => ?_) | refine gdP.mkf (fun h0 => ?_) (fun h0 => ?_) | refine pkP.mk (fun h0 => ?_) (fun h0 => ?_)) <;> (try simp only [Bool.not_true, Bool.not_false, decide_eq_true_eq, decide_eq_false_iff_not, Bool.and_eq_true, Bool.or_eq_true, Bool.not_eq_true', Bool.not_eq_false', Bool.and_eq_false_iff, Bool.or_eq_false_iff, Nat.not_lt, Int.not_lt, Nat.not_le, Int.not_le, Int.ofNat_lt, Int.ofNat_le, Int.ofNat_inj, Bool.xor_false, Bool.false_xor, Bool.true_xor, Bool.xor_true] at h0) <;> (try simp (maxSteps := 2000000) (disch := omega) only [go_sem, seval]) <;> (try repeat ((with_reducible refine And.intro ?_ ?_); focus (first | omega | assumption | exact True.intro | (show anyD _ _ = true; exact rfl) | (simp only [List.length_map, List.length_append, List.length_cons, List.length_nil, List.length_take, List.length_drop]; omega))))
  · symm
    rw [decide_eq_false_iff_not]
    rintro rfl
    exact h0 rfl
  · have h0' : a.length = b.length := by simpa using h0
    clear h0
    refine pLoop.go (fun k => k ≤ a.length ∧ (a = b ↔ a.drop k = b.drop k)) (fun k => [(13, .v (.int .i64 (k : Nat)))]) (fun _ => []) (fun k => a.length - k) 0 [13] ?_ ?_ ?_
    · exact ⟨Nat.zero_le _, Iff.rfl⟩
    · try simp (maxSteps := 2000000) (disch := omega) only [go_sem, seval]
      try repeat ((with_reducible refine And.intro ?_ ?_); focus (first | omega | assumption | exact True.intro | (show anyD _ _ = true; exact rfl) | (simp only [List.length_map, List.length_append, List.length_cons, List.length_nil, List.length_take, List.length_drop]; omega)))
    · rintro k ⟨hk, hm⟩
      try simp (maxSteps := 2000000) (disch := omega) only [go_sem, seval]
      try repeat ((with_reducible refine And.intro ?_ ?_); focus (first | omega | assumption | exact True.intro | (show anyD _ _ = true; exact rfl) | (simp only [List.length_map, List.length_append, List.length_cons, List.length_nil, List.length_take, List.length_drop]; omega)))
      (first | refine brP.mk (fun h => ?_) (fun h => ?_) | refine gdP.mkt (fun h => ?_) (fun h => ?_) | refine gdP.mkf (fun h => ?_) (fun h => ?_) | refine pkP.mk (fun h => ?_) (fun h => ?_)) <;> (try simp only [Bool.not_true, Bool.not_false, decide_eq_true_eq, decide_eq_false_iff_not, Bool.and_eq_true, Bool.or_eq_true, Bool.not_eq_true', Bool.not_eq_false', Bool.and_eq_false_iff, Bool.or_eq_false_iff, Nat.not_lt, Int.not_lt, Nat.not_le, Int.not_le, Int.ofNat_lt, Int.ofNat_le, Int.ofNat_inj, Bool.xor_false, Bool.false_xor, Bool.true_xor, Bool.xor_true] at h) <;> (try simp (maxSteps := 2000000) (disch := omega) only [go_sem, seval]) <;> (try repeat ((with_reducible refine And.intro ?_ ?_); focus (first | omega | assumption | exact True.intro | (show anyD _ _ = true; exact rfl) | (simp only [List.length_map, List.length_append, List.length_cons, List.length_nil, List.length_take, List.length_drop]; omega))))
      · have hk' : k < b.length := by omega
        rw [List.drop_eq_getElem_cons h, List.drop_eq_getElem_cons hk', List.cons.injEq] at hm
        try simp (maxSteps := 2000000) (disch := omega) only [go_sem, seval]
        try repeat ((with_reducible refine And.intro ?_ ?_); focus (first | omega | assumption | exact True.intro | (show anyD _ _ = true; exact rfl) | (simp only [List.length_map, List.length_append, List.length_cons, List.length_nil, List.length_take, List.length_drop]; omega)))
        (first | refine brP.mk (fun e => ?_) (fun e => ?_) | refine gdP.mkt (fun e => ?_) (fun e => ?_) | refine gdP.mkf (fun e => ?_) (fun e => ?_) | refine pkP.mk (fun e => ?_) (fun e => ?_)) <;> (try simp only [Bool.not_true, Bool.not_false, decide_eq_true_eq, decide_eq_false_iff_not, Bool.and_eq_true, Bool.or_eq_true, Bool.not_eq_true', Bool.not_eq_false', Bool.and_eq_false_iff, Bool.or_eq_false_iff, Nat.not_lt, Int.not_lt, Nat.not_le, Int.not_le, Int.ofNat_lt, Int.ofNat_le, Int.ofNat_inj, Bool.xor_false, Bool.false_xor, Bool.true_xor, Bool.xor_true] at e) <;> (try simp (maxSteps := 2000000) (disch := omega) only [go_sem, seval]) <;> (try repeat ((with_reducible refine And.intro ?_ ?_); focus (first | omega | assumption | exact True.intro | (show anyD _ _ = true; exact rfl) | (simp only [List.length_map, List.length_append, List.length_cons, List.length_nil, List.length_take, List.length_drop]; omega))))
        · symm
          rw [decide_eq_false_iff_not]
          intro he
          exact absurd (hm.1 he).1 (by omega)
        · refine ⟨k + 1, ⟨h, ?_⟩, by omega, rfl⟩
          rw [hm]
          have e : a[k] = b[k] := by omega
          exact ⟨fun h => h.2, fun h => ⟨e, h⟩⟩
      · rw [eq_comm, decide_eq_true_eq, hm, List.drop_of_length_le (by omega), List.drop_of_length_le (by omega)]
def k11 : List Fg := [⟨[⟨1, 5⟩], [⟨1, 3, []⟩]⟩, ⟨[⟨4, 9⟩], [⟨2, 0, []⟩]⟩]
def u11 : List En := [⟨1, 3, []⟩, ⟨2, 0, []⟩]
def b11 : List Fg := [⟨[⟨2, 1⟩], []⟩]
theorem kn3 (r : Nat) : kn ⟨r, 3, []⟩ = [⟨0, 3⟩] := kn0 _ _ (by rw [M64_val]; omega)
theorem kn00 (r : Nat) : kn ⟨r, 0, []⟩ = [⟨0, 0⟩] := kn0 _ _ (by rw [M64_val]; omega)
theorem r11 : RightK k11 := by simp [k11, RightK, RightF, RightV, RightE, M64_val, Nrm, NF]
theorem u11_can : CanV u11 := ⟨by simp [u11, CanE, RightE, M64_val, Nrm, NF], by simp [u11]⟩
theorem bd11 : BdK k11 := ⟨by simp [k11, BdF, BdR, BdE, M64_val], by simp [k11]⟩
theorem bdb11 : BdK b11 := ⟨by simp [b11, BdF, BdR, BdE, M64_val], by simp [b11]⟩
theorem sz11 : SzK k11 := ⟨by simp [k11], by simp [k11]⟩
theorem szb11 : SzK b11 := ⟨by simp [b11], by simp [b11]⟩
theorem few11 : fewK k11 = true := by decide
theorem has11 (i r c : Nat) : hasK k11 i r c = ((mem [⟨1, 5⟩] i && mem (if 1 = r then [⟨0, 3⟩] else []) c) || (mem [⟨4, 9⟩] i && mem (if 2 = r then [⟨0, 0⟩] else []) c)) := by
  simp only [hasK, k11, List.any_cons, List.any_nil, knV_cons, knV_nil, kn3, kn00, Bool.or_false]
theorem at11 : vecAt k11 4 = u11 := by
  have h := r11.ik.at 4
  refine canV_unique h.1.can u11_can fun r => Nrm.unique (knV_nrm h.1.can.right r) (knV_nrm u11_can.right r) fun c hc => ?_
  rw [h.2 r c hc, has11]
  simp only [u11, knV_cons, knV_nil, kn3, kn00]
  by_cases h1 : 1 = r
  · rw [if_pos h1, if_pos h1, if_neg (by omega)]
    simp [mem]
  · rw [if_neg h1, if_neg h1]
    simp [mem]
theorem n19 : Nrm [⟨1, 9⟩] := nrm_one (by decide) (by rw [M64_val]; omega)
theorem it11 : itemsK k11 = [⟨1, 9⟩] := Nrm.unique r11.items.1 n19 fun x hx => by
  rw [r11.items.2.1 x hx, Bool.eq_iff_iff]
  simp [k11, mem]
  omega
theorem mb11 : membK k11 4 = [0, 1] := by decide
set_option maxHeartbeats 2000000 in
theorem alive11_c : Cn Tryz.prog 23 [] (.v (.bool true)) := by
  have hz : (ckK k11).1 = 0 := (ckK_iff bd11).2 r11
  have hg := sz11
  have hgb := szb11
  have ok := fewK_ok few11 r11
  have hs := fun f hf => few_smv few11 r11 (f := f) hf
  have h1 : hasK k11 4 1 3 = true := by rw [has11]; decide
  have h2 : hasK k11 4 2 0 = true := by rw [has11]; decide
  have h3 : hasK k11 3 2 0 = false := by rw [has11]; decide
  have hx : ckK b11 = (2, 0) := by decide
  have hco := code_c (ckK b11).1 (ckK b11).2
  have hl := fewK_len few11 r11
  have a1 := kat_c k11 4 r11.ik ok r11 hs hg
  have a2 := kitems_c k11 r11 hg (by decide) (by omega)
  have a3 := kmemb_c k11 4 r11 hg (by decide)
  rw [at11, u11] at a1
  rw [it11] at a2
  rw [mb11] at a3
  have c1 := khas_c k11 4 1 3 r11 (by rw [M64_val]; omega) hg
  have c2 := khas_c k11 4 2 0 r11 (by rw [M64_val]; omega) hg
  have c3 := khas_c k11 3 2 0 r11 (by rw [M64_val]; omega) hg
  rw [h1] at c1
  rw [h2] at c2
  rw [h3] at c3
  have d1 := kcheck_c k11 bd11 hg
  rw [errV_nil hz] at d1
  have d2 := kcheck_c b11 bdb11 hgb
  rw [hx] at d2 hco
  have e1 := same4_c [⟨1, 9⟩] [⟨1, 9⟩] (by decide)
  have e2 := eqI_c [0, 1] [0, 1] (by decide)
  refine cn_go Tryz.func23 [] 0 (by kernel_rfl) rfl (by simp [go_sem, seval]) ?_
  conv => arg 4; cbv
  conv => enter [5, 1]; cbv
  try simp (maxSteps := 2000000) (disch := omega) only [go_sem, seval]
  try repeat ((with_reducible refine And.intro ?_ ?_); focus (first | omega | assumption | exact True.intro | (show anyD _ _ = true; exact rfl) | (simp only [List.length_map, List.length_append, List.length_cons, List.length_nil, List.length_take, List.length_drop]; omega)))
  (first | refine callP.mk (d1) rfl ?_ | refine callQ.mk (d1) rfl ?_ | refine callO.rd (d1) rfl ?_ | refine callO.mk (d1) rfl ?_)
  try simp (maxSteps := 2000000) (disch := omega) only [go_sem, seval]
  try repeat ((with_reducible refine And.intro ?_ ?_); focus (first | omega | assumption | exact True.intro | (show anyD _ _ = true; exact rfl) | (simp only [List.length_map, List.length_append, List.length_cons, List.length_nil, List.length_take, List.length_drop]; omega)))
  (first | refine callP.mk (c1) rfl ?_ | refine callQ.mk (c1) rfl ?_ | refine callO.rd (c1) rfl ?_ | refine callO.mk (c1) rfl ?_)
  try simp (maxSteps := 2000000) (disch := omega) only [go_sem, seval]
  try repeat ((with_reducible refine And.intro ?_ ?_); focus (first | omega | assumption | exact True.intro | (show anyD _ _ = true; exact rfl) | (simp only [List.length_map, List.length_append, List.length_cons, List.length_nil, List.length_take, List.length_drop]; omega)))
  (first | refine callP.mk (c2) rfl ?_ | refine callQ.mk (c2) rfl ?_ | refine callO.rd (c2) rfl ?_ | refine callO.mk (c2) rfl ?_)
  try simp (maxSteps := 2000000) (disch := omega) only [go_sem, seval]
  try repeat ((with_reducible refine And.intro ?_ ?_); focus (first | omega | assumption | exact True.intro | (show anyD _ _ = true; exact rfl) | (simp only [List.length_map, List.length_append, List.length_cons, List.length_nil, List.length_take, List.length_drop]; omega)))
  (first | refine callP.mk (c3) rfl ?_ | refine callQ.mk (c3) rfl ?_ | refine callO.rd (c3) rfl ?_ | refine callO.mk (c3) rfl ?_)
  try simp (maxSteps := 2000000) (disch := omega) only [go_sem, seval]
  try repeat ((with_reducible refine And.intro ?_ ?_); focus (first | omega | assumption | exact True.intro | (show anyD _ _ = true; exact rfl) | (simp only [List.length_map, List.length_append, List.length_cons, List.length_nil, List.length_take, List.length_drop]; omega)))
  (first | refine callP.mk (a1) rfl ?_ | refine callQ.mk (a1) rfl ?_ | refine callO.rd (a1) rfl ?_ | refine callO.mk (a1) rfl ?_)
  try simp (maxSteps := 2000000) (disch := omega) only [go_sem, seval]
  try repeat ((with_reducible refine And.intro ?_ ?_); focus (first | omega | assumption | exact True.intro | (show anyD _ _ = true; exact rfl) | (simp only [List.length_map, List.length_append, List.length_cons, List.length_nil, List.length_take, List.length_drop]; omega)))
  (first | refine callP.mk (a2) rfl ?_ | refine callQ.mk (a2) rfl ?_ | refine callO.rd (a2) rfl ?_ | refine callO.mk (a2) rfl ?_)
  try simp (maxSteps := 2000000) (disch := omega) only [go_sem, seval]
  try repeat ((with_reducible refine And.intro ?_ ?_); focus (first | omega | assumption | exact True.intro | (show anyD _ _ = true; exact rfl) | (simp only [List.length_map, List.length_append, List.length_cons, List.length_nil, List.length_take, List.length_drop]; omega)))
  (first | refine callP.mk (e1) rfl ?_ | refine callQ.mk (e1) rfl ?_ | refine callO.rd (e1) rfl ?_ | refine callO.mk (e1) rfl ?_)
  try simp (maxSteps := 2000000) (disch := omega) only [go_sem, seval]
  try repeat ((with_reducible refine And.intro ?_ ?_); focus (first | omega | assumption | exact True.intro | (show anyD _ _ = true; exact rfl) | (simp only [List.length_map, List.length_append, List.length_cons, List.length_nil, List.length_take, List.length_drop]; omega)))
  (first | refine callP.mk (a3) rfl ?_ | refine callQ.mk (a3) rfl ?_ | refine callO.rd (a3) rfl ?_ | refine callO.mk (a3) rfl ?_)
  try simp (maxSteps := 2000000) (disch := omega) only [go_sem, seval]
  try repeat ((with_reducible refine And.intro ?_ ?_); focus (first | omega | assumption | exact True.intro | (show anyD _ _ = true; exact rfl) | (simp only [List.length_map, List.length_append, List.length_cons, List.length_nil, List.length_take, List.length_drop]; omega)))
  (first | refine callP.mk (e2) rfl ?_ | refine callQ.mk (e2) rfl ?_ | refine callO.rd (e2) rfl ?_ | refine callO.mk (e2) rfl ?_)
  try simp (maxSteps := 2000000) (disch := omega) only [go_sem, seval]
  try repeat ((with_reducible refine And.intro ?_ ?_); focus (first | omega | assumption | exact True.intro | (show anyD _ _ = true; exact rfl) | (simp only [List.length_map, List.length_append, List.length_cons, List.length_nil, List.length_take, List.length_drop]; omega)))
  (first | refine callP.mk (d2) rfl ?_ | refine callQ.mk (d2) rfl ?_ | refine callO.rd (d2) rfl ?_ | refine callO.mk (d2) rfl ?_)
  try simp (maxSteps := 2000000) (disch := omega) only [go_sem, seval]
  try repeat ((with_reducible refine And.intro ?_ ?_); focus (first | omega | assumption | exact True.intro | (show anyD _ _ = true; exact rfl) | (simp only [List.length_map, List.length_append, List.length_cons, List.length_nil, List.length_take, List.length_drop]; omega)))
  (first | refine callP.mk (hco) rfl ?_ | refine callQ.mk (hco) rfl ?_ | refine callO.rd (hco) rfl ?_ | refine callO.mk (hco) rfl ?_)
  try simp (maxSteps := 2000000) (disch := omega) only [go_sem, seval]
  try repeat ((with_reducible refine And.intro ?_ ?_); focus (first | omega | assumption | exact True.intro | (show anyD _ _ = true; exact rfl) | (simp only [List.length_map, List.length_append, List.length_cons, List.length_nil, List.length_take, List.length_drop]; omega)))
end Go.Proofs.YtjmhmeadcphfmaaGreatDoor
/- The laws of chapter 11: they return true. -/
namespace Go.Proofs.YtjmhmeadcphfmaaGreatDoor
set_option linter.unusedVariables false
set_option linter.unusedSimpArgs false
open Go.RowKit
set_option maxRecDepth 100000
/-- What holds of knowledge that is few and correct. -/
theorem fewK_get {k : List Fg} (h : fewK k = true) : k.length ≤ 12 ∧ ∀ f ∈ k, f.items.length ≤ 20 ∧ f.vec.length ≤ 20 ∧ ∀ e ∈ f.vec, e.holes.length ≤ 30 := by
  obtain ⟨h1, h2⟩ := fewK_iff.1 h
  exact ⟨h2, fun f hf => ⟨(h1 f hf).1, (fewB_iff.1 (h1 f hf).2).2, (fewB_iff.1 (h1 f hf).2).1⟩⟩
theorem fewK_g {k : List Fg} (h : fewK k = true) : SzK k := by
  obtain ⟨h1, h2⟩ := fewK_get h
  exact ⟨by omega, fun f hf => by
    obtain ⟨q1, q2, q3⟩ := h2 f hf
    exact ⟨by omega, by omega, fun e he => by have := q3 e he; omega⟩⟩
set_option maxHeartbeats 2000000 in
theorem scopeItems_c (k : List Fg) (i : Nat) (hk : BdK k) (hi : i < M64) : Cn Tryz.prog 4 [kp k, .v (.int .u64 i)] (.v (.bool true)) := by
  refine cn_go Tryz.func4 [] 2 (by kernel_rfl) rfl (by simp [go_sem, seval]) ?_
  conv => arg 4; cbv
  conv => enter [5, 1]; cbv
  try simp (maxSteps := 2000000) (disch := omega) only [go_sem, seval]
  try repeat ((with_reducible refine And.intro ?_ ?_); focus (first | omega | assumption | exact True.intro | (show anyD _ _ = true; exact rfl) | (simp only [List.length_map, List.length_append, List.length_cons, List.length_nil, List.length_take, List.length_drop]; omega)))
  (first | refine callP.mk (kfew_c k hk) rfl ?_ | refine callQ.mk (kfew_c k hk) rfl ?_ | refine callO.rd (kfew_c k hk) rfl ?_ | refine callO.mk (kfew_c k hk) rfl ?_)
  try simp (maxSteps := 2000000) (disch := omega) only [go_sem, seval]
  try repeat ((with_reducible refine And.intro ?_ ?_); focus (first | omega | assumption | exact True.intro | (show anyD _ _ = true; exact rfl) | (simp only [List.length_map, List.length_append, List.length_cons, List.length_nil, List.length_take, List.length_drop]; omega)))
  (first | refine brP.mk (fun h => ?_) (fun h => ?_) | refine gdP.mkt (fun h => ?_) (fun h => ?_) | refine gdP.mkf (fun h => ?_) (fun h => ?_) | refine pkP.mk (fun h => ?_) (fun h => ?_)) <;> (try simp only [Bool.not_true, Bool.not_false, decide_eq_true_eq, decide_eq_false_iff_not, Bool.and_eq_true, Bool.or_eq_true, Bool.not_eq_true', Bool.not_eq_false', Bool.and_eq_false_iff, Bool.or_eq_false_iff, Nat.not_lt, Int.not_lt, Nat.not_le, Int.not_le, Int.ofNat_lt, Int.ofNat_le, Int.ofNat_inj, Bool.xor_false, Bool.false_xor, Bool.true_xor, Bool.xor_true] at h) <;> (try simp (maxSteps := 2000000) (disch := omega) only [go_sem, seval]) <;> (try repeat ((with_reducible refine And.intro ?_ ?_); focus (first | omega | assumption | exact True.intro | (show anyD _ _ = true; exact rfl) | (simp only [List.length_map, List.length_append, List.length_cons, List.length_nil, List.length_take, List.length_drop]; omega))))
  · (first | refine callP.mk (alive11_c) rfl ?_ | refine callQ.mk (alive11_c) rfl ?_ | refine callO.rd (alive11_c) rfl ?_ | refine callO.mk (alive11_c) rfl ?_)
    try simp (maxSteps := 2000000) (disch := omega) only [go_sem, seval]
    try repeat ((with_reducible refine And.intro ?_ ?_); focus (first | omega | assumption | exact True.intro | (show anyD _ _ = true; exact rfl) | (simp only [List.length_map, List.length_append, List.length_cons, List.length_nil, List.length_take, List.length_drop]; omega)))
  · have hg := fewK_g h
    (first | refine callP.mk (kright_c k hk hg) rfl ?_ | refine callQ.mk (kright_c k hk hg) rfl ?_ | refine callO.rd (kright_c k hk hg) rfl ?_ | refine callO.mk (kright_c k hk hg) rfl ?_)
    try simp (maxSteps := 2000000) (disch := omega) only [go_sem, seval]
    try repeat ((with_reducible refine And.intro ?_ ?_); focus (first | omega | assumption | exact True.intro | (show anyD _ _ = true; exact rfl) | (simp only [List.length_map, List.length_append, List.length_cons, List.length_nil, List.length_take, List.length_drop]; omega)))
    (first | refine brP.mk (fun h2 => ?_) (fun h2 => ?_) | refine gdP.mkt (fun h2 => ?_) (fun h2 => ?_) | refine gdP.mkf (fun h2 => ?_) (fun h2 => ?_) | refine pkP.mk (fun h2 => ?_) (fun h2 => ?_)) <;> (try simp only [Bool.not_true, Bool.not_false, decide_eq_true_eq, decide_eq_false_iff_not, Bool.and_eq_true, Bool.or_eq_true, Bool.not_eq_true', Bool.not_eq_false', Bool.and_eq_false_iff, Bool.or_eq_false_iff, Nat.not_lt, Int.not_lt, Nat.not_le, Int.not_le, Int.ofNat_lt, Int.ofNat_le, Int.ofNat_inj, Bool.xor_false, Bool.false_xor, Bool.true_xor, Bool.xor_true] at h2) <;> (try simp (maxSteps := 2000000) (disch := omega) only [go_sem, seval]) <;> (try repeat ((with_reducible refine And.intro ?_ ?_); focus (first | omega | assumption | exact True.intro | (show anyD _ _ = true; exact rfl) | (simp only [List.length_map, List.length_append, List.length_cons, List.length_nil, List.length_take, List.length_drop]; omega))))
    · (first | refine callP.mk (alive11_c) rfl ?_ | refine callQ.mk (alive11_c) rfl ?_ | refine callO.rd (alive11_c) rfl ?_ | refine callO.mk (alive11_c) rfl ?_)
      try simp (maxSteps := 2000000) (disch := omega) only [go_sem, seval]
      try repeat ((with_reducible refine And.intro ?_ ?_); focus (first | omega | assumption | exact True.intro | (show anyD _ _ = true; exact rfl) | (simp only [List.length_map, List.length_append, List.length_cons, List.length_nil, List.length_take, List.length_drop]; omega)))
    · have hr := (ckK_iff hk).1 h2
      have hs := fewK_get h
      have hl := fewK_len h hr
      have hit := hr.items
      have hsi : ∀ f ∈ k, f.items.length ≤ 100000 := fun f hf => by have := (hs.2 f hf).1; omega
      have hci : (CI k).length ≤ 100000 := by omega
      have hm := membK_len k i
      have hmp := membK_pos (k := k) (i := i)
      rw [← hit.2.1 i hi] at hmp
      (first | refine callP.mk (kitems_c k hr hg hsi hci) rfl ?_ | refine callQ.mk (kitems_c k hr hg hsi hci) rfl ?_ | refine callO.rd (kitems_c k hr hg hsi hci) rfl ?_ | refine callO.mk (kitems_c k hr hg hsi hci) rfl ?_)
      try simp (maxSteps := 2000000) (disch := omega) only [go_sem, seval]
      try repeat ((with_reducible refine And.intro ?_ ?_); focus (first | omega | assumption | exact True.intro | (show anyD _ _ = true; exact rfl) | (simp only [List.length_map, List.length_append, List.length_cons, List.length_nil, List.length_take, List.length_drop]; omega)))
      (first | refine callP.mk (kmemb_c k i hr hg (by omega)) rfl ?_ | refine callQ.mk (kmemb_c k i hr hg (by omega)) rfl ?_ | refine callO.rd (kmemb_c k i hr hg (by omega)) rfl ?_ | refine callO.mk (kmemb_c k i hr hg (by omega)) rfl ?_)
      try simp (maxSteps := 2000000) (disch := omega) only [go_sem, seval]
      try repeat ((with_reducible refine And.intro ?_ ?_); focus (first | omega | assumption | exact True.intro | (show anyD _ _ = true; exact rfl) | (simp only [List.length_map, List.length_append, List.length_cons, List.length_nil, List.length_take, List.length_drop]; omega)))
      (first | refine callP.mk (alive11_c) rfl ?_ | refine callQ.mk (alive11_c) rfl ?_ | refine callO.rd (alive11_c) rfl ?_ | refine callO.mk (alive11_c) rfl ?_)
      try simp (maxSteps := 2000000) (disch := omega) only [go_sem, seval]
      try repeat ((with_reducible refine And.intro ?_ ?_); focus (first | omega | assumption | exact True.intro | (show anyD _ _ = true; exact rfl) | (simp only [List.length_map, List.length_append, List.length_cons, List.length_nil, List.length_take, List.length_drop]; omega)))
      (first | refine callP.mk (refKItems_c k hr hg hsi hci) rfl ?_ | refine callQ.mk (refKItems_c k hr hg hsi hci) rfl ?_ | refine callO.rd (refKItems_c k hr hg hsi hci) rfl ?_ | refine callO.mk (refKItems_c k hr hg hsi hci) rfl ?_)
      try simp (maxSteps := 2000000) (disch := omega) only [go_sem, seval]
      try repeat ((with_reducible refine And.intro ?_ ?_); focus (first | omega | assumption | exact True.intro | (show anyD _ _ = true; exact rfl) | (simp only [List.length_map, List.length_append, List.length_cons, List.length_nil, List.length_take, List.length_drop]; omega)))
      (first | refine callP.mk (same4_c (itemsK k) (itemsK k) (by omega)) rfl ?_ | refine callQ.mk (same4_c (itemsK k) (itemsK k) (by omega)) rfl ?_ | refine callO.rd (same4_c (itemsK k) (itemsK k) (by omega)) rfl ?_ | refine callO.mk (same4_c (itemsK k) (itemsK k) (by omega)) rfl ?_)
      try simp (maxSteps := 2000000) (disch := omega) only [go_sem, seval]
      try repeat ((with_reducible refine And.intro ?_ ?_); focus (first | omega | assumption | exact True.intro | (show anyD _ _ = true; exact rfl) | (simp only [List.length_map, List.length_append, List.length_cons, List.length_nil, List.length_take, List.length_drop]; omega)))
      (first | refine callP.mk (refKMemb_c k i hg (by omega)) rfl ?_ | refine callQ.mk (refKMemb_c k i hg (by omega)) rfl ?_ | refine callO.rd (refKMemb_c k i hg (by omega)) rfl ?_ | refine callO.mk (refKMemb_c k i hg (by omega)) rfl ?_)
      try simp (maxSteps := 2000000) (disch := omega) only [go_sem, seval]
      try repeat ((with_reducible refine And.intro ?_ ?_); focus (first | omega | assumption | exact True.intro | (show anyD _ _ = true; exact rfl) | (simp only [List.length_map, List.length_append, List.length_cons, List.length_nil, List.length_take, List.length_drop]; omega)))
      (first | refine callP.mk (eqI_c (membK k i) (membK k i) (by omega)) rfl ?_ | refine callQ.mk (eqI_c (membK k i) (membK k i) (by omega)) rfl ?_ | refine callO.rd (eqI_c (membK k i) (membK k i) (by omega)) rfl ?_ | refine callO.mk (eqI_c (membK k i) (membK k i) (by omega)) rfl ?_)
      try simp (maxSteps := 2000000) (disch := omega) only [go_sem, seval]
      try repeat ((with_reducible refine And.intro ?_ ?_); focus (first | omega | assumption | exact True.intro | (show anyD _ _ = true; exact rfl) | (simp only [List.length_map, List.length_append, List.length_cons, List.length_nil, List.length_take, List.length_drop]; omega)))
      (first | refine callP.mk (has4_c (itemsK k) i (by omega)) rfl ?_ | refine callQ.mk (has4_c (itemsK k) i (by omega)) rfl ?_ | refine callO.rd (has4_c (itemsK k) i (by omega)) rfl ?_ | refine callO.mk (has4_c (itemsK k) i (by omega)) rfl ?_)
      try simp (maxSteps := 2000000) (disch := omega) only [go_sem, seval]
      try repeat ((with_reducible refine And.intro ?_ ?_); focus (first | omega | assumption | exact True.intro | (show anyD _ _ = true; exact rfl) | (simp only [List.length_map, List.length_append, List.length_cons, List.length_nil, List.length_take, List.length_drop]; omega)))
      rw [hmp]
      simp
end Go.Proofs.YtjmhmeadcphfmaaGreatDoor
