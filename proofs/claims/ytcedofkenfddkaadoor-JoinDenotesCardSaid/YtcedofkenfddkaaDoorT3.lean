/- The contracts of kenningref05. -/
import Derived.Test.YtcedofkenfddkaaDoorT2
import Derived.Test.YtcedofkenfddkaaDoorBr
namespace Go.Proofs.YtcedofkenfddkaaDoor
set_option linter.unusedVariables false
set_option linter.unusedSimpArgs false
open Go.RowKit
set_option maxRecDepth 100000
theorem starts_len {ls : List (List Iv)} : (starts ls).length ≤ (allS ls).length := srt_len _
theorem allS2 (a b : List Iv) : (allS [a, b]).length ≤ 1 + 2 * a.length + 2 * b.length := by
  have := cuts_len a
  have := cuts_len b
  simp [allS]; omega
theorem do_c (a b : List Iv) (op : Nat) (ha : Nrm a) (hb : Nrm b) (ho : op < 3) (h1 : a.length ≤ 131072) (h2 : b.length ≤ 131072) : Cn Tryd.prog 107 [rg a, rg b, .v (.int .i64 op)] (rg (opS (opb op) a b)) := by
  have hM := M64_val
  have hall := allS2 a b
  have hst := starts_len (ls := [a, b])
  have hcut : ∀ c, c ∈ cuts a ∨ c ∈ cuts b → c ∈ starts [a, b] := fun c hc => srt_mem.2 (by simp [allS]; exact .inr hc)
  have hslt : ∀ x ∈ starts [a, b], x < M64 := starts_lt (by simp; exact ⟨fun s hs => (ha.lt s hs).1, fun s hs => (hb.lt s hs).1⟩)
  refine cn_go Tryd.func107 [] 3 (by kernel_rfl) rfl (by simp [go_sem, seval]) ?_
  conv => arg 4; cbv
  conv => enter [5, 1]; cbv
  try simp (maxSteps := 2000000) (disch := omega) only [go_sem, seval]
  try repeat ((with_reducible refine And.intro ?_ ?_); focus (first | omega | assumption | exact True.intro | (show anyD _ _ = true; exact rfl) | (simp only [List.length_map, List.length_append, List.length_cons, List.length_nil, List.length_take, List.length_drop]; omega)))
  refine callO.rd (starts_c [a, b] (by simp) (by simp; omega) (by omega) (by simp; exact ⟨ha.lt, hb.lt⟩)) rfl ?_
  try simp (maxSteps := 2000000) (disch := omega) only [go_sem, seval]
  try repeat ((with_reducible refine And.intro ?_ ?_); focus (first | omega | assumption | exact True.intro | (show anyD _ _ = true; exact rfl) | (simp only [List.length_map, List.length_append, List.length_cons, List.length_nil, List.length_take, List.length_drop]; omega)))
  refine pLoop.go (fun p : Nat × List Iv => p.1 ≤ (starts [a, b]).length ∧ DoInv (opb op) a b (starts [a, b]) p.1 p.2) (fun p => [(8, .sl (p.2.map ivc) (.r 38 2)), (9, .v (.int .i64 (p.1 : Nat)))]) (fun _ => []) (fun p => (starts [a, b]).length - p.1) (0, []) [8, 9] ?_ ?_ ?_
  · exact ⟨Nat.zero_le _, DoInv.zero _⟩
  · try simp (maxSteps := 2000000) (disch := omega) only [go_sem, seval]
    try repeat ((with_reducible refine And.intro ?_ ?_); focus (first | omega | assumption | exact True.intro | (show anyD _ _ = true; exact rfl) | (simp only [List.length_map, List.length_append, List.length_cons, List.length_nil, List.length_take, List.length_drop]; omega)))
  · rintro ⟨i, out⟩ ⟨hi, hd⟩
    simp only at hi hd
    have hol := hd.len
    try simp (maxSteps := 2000000) (disch := omega) only [go_sem, seval]
    try repeat ((with_reducible refine And.intro ?_ ?_); focus (first | omega | assumption | exact True.intro | (show anyD _ _ = true; exact rfl) | (simp only [List.length_map, List.length_append, List.length_cons, List.length_nil, List.length_take, List.length_drop]; omega)))
    (first | refine brP.mk (fun h => ?_) (fun h => ?_) | refine gdP.mkt (fun h => ?_) (fun h => ?_) | refine gdP.mkf (fun h => ?_) (fun h => ?_) | refine pkP.mk (fun h => ?_) (fun h => ?_)) <;> (try simp only [Bool.not_true, Bool.not_false, decide_eq_true_eq, decide_eq_false_iff_not, Bool.and_eq_true, Bool.or_eq_true, Bool.not_eq_true', Bool.not_eq_false', Bool.and_eq_false_iff, Bool.or_eq_false_iff, Nat.not_lt, Int.not_lt, Nat.not_le, Int.not_le, Int.ofNat_lt, Int.ofNat_le, Int.ofNat_inj, Bool.xor_false, Bool.false_xor, Bool.true_xor, Bool.xor_true] at h) <;> (try simp (maxSteps := 2000000) (disch := omega) only [go_sem, seval]) <;> (try repeat ((with_reducible refine And.intro ?_ ?_); focus (first | omega | assumption | exact True.intro | (show anyD _ _ = true; exact rfl) | (simp only [List.length_map, List.length_append, List.length_cons, List.length_nil, List.length_take, List.length_drop]; omega))))
    · refine callQ.mk (has4_c a _ (by omega)) rfl ?_
      try simp (maxSteps := 2000000) (disch := omega) only [go_sem, seval]
      try repeat ((with_reducible refine And.intro ?_ ?_); focus (first | omega | assumption | exact True.intro | (show anyD _ _ = true; exact rfl) | (simp only [List.length_map, List.length_append, List.length_cons, List.length_nil, List.length_take, List.length_drop]; omega)))
      refine callQ.mk (has4_c b _ (by omega)) rfl ?_
      try simp (maxSteps := 2000000) (disch := omega) only [go_sem, seval]
      try repeat ((with_reducible refine And.intro ?_ ?_); focus (first | omega | assumption | exact True.intro | (show anyD _ _ = true; exact rfl) | (simp only [List.length_map, List.length_append, List.length_cons, List.length_nil, List.length_take, List.length_drop]; omega)))
      refine callQ.mk (take_c _ _ op ho) rfl ?_
      obtain ⟨s1, s2⟩ := hd.step ha hb (starts_asc _) hslt hcut h
      try simp (maxSteps := 2000000) (disch := omega) only [go_sem, seval]
      try repeat ((with_reducible refine And.intro ?_ ?_); focus (first | omega | assumption | exact True.intro | (show anyD _ _ = true; exact rfl) | (simp only [List.length_map, List.length_append, List.length_cons, List.length_nil, List.length_take, List.length_drop]; omega)))
      (first | refine brP.mk (fun h5 => ?_) (fun h5 => ?_) | refine gdP.mkt (fun h5 => ?_) (fun h5 => ?_) | refine gdP.mkf (fun h5 => ?_) (fun h5 => ?_) | refine pkP.mk (fun h5 => ?_) (fun h5 => ?_)) <;> (try simp only [Bool.not_true, Bool.not_false, decide_eq_true_eq, decide_eq_false_iff_not, Bool.and_eq_true, Bool.or_eq_true, Bool.not_eq_true', Bool.not_eq_false', Bool.and_eq_false_iff, Bool.or_eq_false_iff, Nat.not_lt, Int.not_lt, Nat.not_le, Int.not_le, Int.ofNat_lt, Int.ofNat_le, Int.ofNat_inj, Bool.xor_false, Bool.false_xor, Bool.true_xor, Bool.xor_true] at h5) <;> (try simp (maxSteps := 2000000) (disch := omega) only [go_sem, seval]) <;> (try repeat ((with_reducible refine And.intro ?_ ?_); focus (first | omega | assumption | exact True.intro | (show anyD _ _ = true; exact rfl) | (simp only [List.length_map, List.length_append, List.length_cons, List.length_nil, List.length_take, List.length_drop]; omega))))
      · refine callP.mk (piece_c _ i h (by omega) fun h' => ?_) rfl ?_
        · have := asc_lt (starts_asc [a, b]) h' (Nat.lt_succ_self i)
          have := hslt _ (List.getElem_mem h')
          omega
        have s3 := s1 h5
        have hlo := hslt _ (List.getElem_mem h)
        try simp (maxSteps := 2000000) (disch := omega) only [go_sem, seval]
        try repeat ((with_reducible refine And.intro ?_ ?_); focus (first | omega | assumption | exact True.intro | (show anyD _ _ = true; exact rfl) | (simp only [List.length_map, List.length_append, List.length_cons, List.length_nil, List.length_take, List.length_drop]; omega)))
        refine callO.mk (put_o out ⟨(starts [a, b])[i], if h : i + 1 < (starts [a, b]).length then (starts [a, b])[i + 1] - 1 else M64 - 1⟩ hlo (fun t ht => ?_) (by omega)) rfl ?_
        · have e : bdS (starts [a, b]) i = (starts [a, b])[i] := dif_pos h
          have := hd.lt t ht
          have := hd.nrm.lt t ht
          show _ ∧ t.hi < (starts [a, b])[i]
          omega
        try simp (maxSteps := 2000000) (disch := omega) only [go_sem, seval]
        try repeat ((with_reducible refine And.intro ?_ ?_); focus (first | omega | assumption | exact True.intro | (show anyD _ _ = true; exact rfl) | (simp only [List.length_map, List.length_append, List.length_cons, List.length_nil, List.length_take, List.length_drop]; omega)))
        exact ⟨(i + 1, _), ⟨h, s3⟩, by omega, rfl, rfl⟩
      · exact ⟨(i + 1, out), ⟨h, s2 h5⟩, by omega, rfl, rfl⟩
    · obtain rfl : i = (starts [a, b]).length := by omega
      rw [hd.done ha hb]
theorem opb0 : opb 0 = fUnion := rfl
theorem opb1 : opb 1 = fMeet := rfl
theorem opb2 : opb 2 = fMinus := rfl
theorem refMinus_c (a b : List Iv) (ha : Nrm a) (hb : Nrm b) (h1 : a.length ≤ 131072) (h2 : b.length ≤ 131072) : Cn Tryd.prog 82 [rg a, rg b] (rg (opS fMinus a b)) := by
  refine cn_go Tryd.func82 [] 2 (by kernel_rfl) rfl (by simp [go_sem, seval]) ?_
  conv => arg 4; cbv
  conv => enter [5, 1]; cbv
  try simp (maxSteps := 2000000) (disch := omega) only [go_sem, seval]
  try repeat ((with_reducible refine And.intro ?_ ?_); focus (first | omega | assumption | exact True.intro | (show anyD _ _ = true; exact rfl) | (simp only [List.length_map, List.length_append, List.length_cons, List.length_nil, List.length_take, List.length_drop]; omega)))
  refine callP.mk (do_c a b 2 ha hb (by omega) h1 h2) rfl ?_
  try simp (maxSteps := 2000000) (disch := omega) only [go_sem, seval]
  try repeat ((with_reducible refine And.intro ?_ ?_); focus (first | omega | assumption | exact True.intro | (show anyD _ _ = true; exact rfl) | (simp only [List.length_map, List.length_append, List.length_cons, List.length_nil, List.length_take, List.length_drop]; omega)))
  rfl
theorem one_nrm {s : Iv} (h : s.lo ≤ s.hi) (h' : s.hi < M64) : Nrm [s] := ⟨Nat.zero_le _, h, h', trivial⟩
end Go.Proofs.YtcedofkenfddkaaDoor
