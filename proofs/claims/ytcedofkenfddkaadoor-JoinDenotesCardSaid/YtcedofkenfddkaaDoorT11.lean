/- The law SetopsDenote returns true. -/
import Derived.Test.YtcedofkenfddkaaDoorT10
namespace Go.Proofs.YtcedofkenfddkaaDoor
set_option linter.unusedVariables false
set_option linter.unusedSimpArgs false
open Go.RowKit
set_option maxRecDepth 100000
theorem rcheckOk_c (l : List Iv) (hn : Nrm l) (hl : l.length ≤ 1152921504606846976) : Cn Tryd.prog 22 [rg l] (.v .nilIface) := by
  have hz := (chk_nrm (l := l) fun s hs => (hn.lt s hs).2).2 hn
  have := rcheck_c l hn.lt hl (.inl hz)
  unfold errV at this
  rw [if_pos hz] at this
  exact this
set_option maxHeartbeats 2000000 in
theorem setDenote_c (a b : List Iv) (x : Nat) (ha : BdR a) (hb : BdR b) (hx : x < M64) : Cn Tryd.prog 3 [rg a, rg b, .v (.int .u64 x)] (.v (.bool true)) := by
  refine cn_go Tryd.func3 [] 3 (by kernel_rfl) rfl (by simp [go_sem, seval]) ?_
  conv => arg 4; cbv
  conv => enter [5, 1]; cbv
  try simp (maxSteps := 2000000) (disch := omega) only [go_sem, seval]
  try repeat ((with_reducible refine And.intro ?_ ?_); focus (first | omega | assumption | exact True.intro | (show anyD _ _ = true; exact rfl) | (simp only [List.length_map, List.length_append, List.length_cons, List.length_nil, List.length_take, List.length_drop]; omega)))
  (first | refine callP.mk (right5_c [a, b] (by simp) (bd_all2 ha hb)) rfl ?_ | refine callQ.mk (right5_c [a, b] (by simp) (bd_all2 ha hb)) rfl ?_ | refine callO.rd (right5_c [a, b] (by simp) (bd_all2 ha hb)) rfl ?_ | refine callO.mk (right5_c [a, b] (by simp) (bd_all2 ha hb)) rfl ?_)
  try simp (maxSteps := 2000000) (disch := omega) only [go_sem, seval]
  try repeat ((with_reducible refine And.intro ?_ ?_); focus (first | omega | assumption | exact True.intro | (show anyD _ _ = true; exact rfl) | (simp only [List.length_map, List.length_append, List.length_cons, List.length_nil, List.length_take, List.length_drop]; omega)))
  (first | refine brP.mk (fun h => ?_) (fun h => ?_) | refine gdP.mkt (fun h => ?_) (fun h => ?_) | refine gdP.mkf (fun h => ?_) (fun h => ?_) | refine pkP.mk (fun h => ?_) (fun h => ?_)) <;> (try simp only [Bool.not_true, Bool.not_false, decide_eq_true_eq, decide_eq_false_iff_not, Bool.and_eq_true, Bool.or_eq_true, Bool.not_eq_true', Bool.not_eq_false', Bool.and_eq_false_iff, Bool.or_eq_false_iff, Nat.not_lt, Int.not_lt, Nat.not_le, Int.not_le, Int.ofNat_lt, Int.ofNat_le, Int.ofNat_inj, Bool.xor_false, Bool.false_xor, Bool.true_xor, Bool.xor_true] at h) <;> (try simp (maxSteps := 2000000) (disch := omega) only [go_sem, seval]) <;> (try repeat ((with_reducible refine And.intro ?_ ?_); focus (first | omega | assumption | exact True.intro | (show anyD _ _ = true; exact rfl) | (simp only [List.length_map, List.length_append, List.length_cons, List.length_nil, List.length_take, List.length_drop]; omega))))
  · (first | refine callP.mk (alive5_c) rfl ?_ | refine callQ.mk (alive5_c) rfl ?_ | refine callO.rd (alive5_c) rfl ?_ | refine callO.mk (alive5_c) rfl ?_)
    try simp (maxSteps := 2000000) (disch := omega) only [go_sem, seval]
    try repeat ((with_reducible refine And.intro ?_ ?_); focus (first | omega | assumption | exact True.intro | (show anyD _ _ = true; exact rfl) | (simp only [List.length_map, List.length_append, List.length_cons, List.length_nil, List.length_take, List.length_drop]; omega)))
  · obtain ⟨⟨na, la⟩, nb, lb⟩ := rights2 h ha hb
    have l1 := opS_length fUnion a b
    have l2 := opS_length fMeet a b
    have l3 := opS_length fMinus a b
    (first | refine callP.mk (union_c a b na nb (by omega)) rfl ?_ | refine callQ.mk (union_c a b na nb (by omega)) rfl ?_ | refine callO.rd (union_c a b na nb (by omega)) rfl ?_ | refine callO.mk (union_c a b na nb (by omega)) rfl ?_)
    try simp (maxSteps := 2000000) (disch := omega) only [go_sem, seval]
    try repeat ((with_reducible refine And.intro ?_ ?_); focus (first | omega | assumption | exact True.intro | (show anyD _ _ = true; exact rfl) | (simp only [List.length_map, List.length_append, List.length_cons, List.length_nil, List.length_take, List.length_drop]; omega)))
    (first | refine callP.mk (meet_c a b na nb (by omega)) rfl ?_ | refine callQ.mk (meet_c a b na nb (by omega)) rfl ?_ | refine callO.rd (meet_c a b na nb (by omega)) rfl ?_ | refine callO.mk (meet_c a b na nb (by omega)) rfl ?_)
    try simp (maxSteps := 2000000) (disch := omega) only [go_sem, seval]
    try repeat ((with_reducible refine And.intro ?_ ?_); focus (first | omega | assumption | exact True.intro | (show anyD _ _ = true; exact rfl) | (simp only [List.length_map, List.length_append, List.length_cons, List.length_nil, List.length_take, List.length_drop]; omega)))
    (first | refine callP.mk (minus_c a b na nb (by omega)) rfl ?_ | refine callQ.mk (minus_c a b na nb (by omega)) rfl ?_ | refine callO.rd (minus_c a b na nb (by omega)) rfl ?_ | refine callO.mk (minus_c a b na nb (by omega)) rfl ?_)
    try simp (maxSteps := 2000000) (disch := omega) only [go_sem, seval]
    try repeat ((with_reducible refine And.intro ?_ ?_); focus (first | omega | assumption | exact True.intro | (show anyD _ _ = true; exact rfl) | (simp only [List.length_map, List.length_append, List.length_cons, List.length_nil, List.length_take, List.length_drop]; omega)))
    (first | refine callP.mk (rcheckOk_c (opS fUnion a b) (opS_nrm na nb) (by omega)) rfl ?_ | refine callQ.mk (rcheckOk_c (opS fUnion a b) (opS_nrm na nb) (by omega)) rfl ?_ | refine callO.rd (rcheckOk_c (opS fUnion a b) (opS_nrm na nb) (by omega)) rfl ?_ | refine callO.mk (rcheckOk_c (opS fUnion a b) (opS_nrm na nb) (by omega)) rfl ?_)
    try simp (maxSteps := 2000000) (disch := omega) only [go_sem, seval]
    try repeat ((with_reducible refine And.intro ?_ ?_); focus (first | omega | assumption | exact True.intro | (show anyD _ _ = true; exact rfl) | (simp only [List.length_map, List.length_append, List.length_cons, List.length_nil, List.length_take, List.length_drop]; omega)))
    (first | refine callP.mk (rcheckOk_c (opS fMeet a b) (opS_nrm na nb) (by omega)) rfl ?_ | refine callQ.mk (rcheckOk_c (opS fMeet a b) (opS_nrm na nb) (by omega)) rfl ?_ | refine callO.rd (rcheckOk_c (opS fMeet a b) (opS_nrm na nb) (by omega)) rfl ?_ | refine callO.mk (rcheckOk_c (opS fMeet a b) (opS_nrm na nb) (by omega)) rfl ?_)
    try simp (maxSteps := 2000000) (disch := omega) only [go_sem, seval]
    try repeat ((with_reducible refine And.intro ?_ ?_); focus (first | omega | assumption | exact True.intro | (show anyD _ _ = true; exact rfl) | (simp only [List.length_map, List.length_append, List.length_cons, List.length_nil, List.length_take, List.length_drop]; omega)))
    (first | refine callP.mk (rcheckOk_c (opS fMinus a b) (opS_nrm na nb) (by omega)) rfl ?_ | refine callQ.mk (rcheckOk_c (opS fMinus a b) (opS_nrm na nb) (by omega)) rfl ?_ | refine callO.rd (rcheckOk_c (opS fMinus a b) (opS_nrm na nb) (by omega)) rfl ?_ | refine callO.mk (rcheckOk_c (opS fMinus a b) (opS_nrm na nb) (by omega)) rfl ?_)
    try simp (maxSteps := 2000000) (disch := omega) only [go_sem, seval]
    try repeat ((with_reducible refine And.intro ?_ ?_); focus (first | omega | assumption | exact True.intro | (show anyD _ _ = true; exact rfl) | (simp only [List.length_map, List.length_append, List.length_cons, List.length_nil, List.length_take, List.length_drop]; omega)))
    (first | refine callP.mk (has4_c a x (by omega)) rfl ?_ | refine callQ.mk (has4_c a x (by omega)) rfl ?_ | refine callO.rd (has4_c a x (by omega)) rfl ?_ | refine callO.mk (has4_c a x (by omega)) rfl ?_)
    try simp (maxSteps := 2000000) (disch := omega) only [go_sem, seval]
    try repeat ((with_reducible refine And.intro ?_ ?_); focus (first | omega | assumption | exact True.intro | (show anyD _ _ = true; exact rfl) | (simp only [List.length_map, List.length_append, List.length_cons, List.length_nil, List.length_take, List.length_drop]; omega)))
    (first | refine callP.mk (has4_c b x (by omega)) rfl ?_ | refine callQ.mk (has4_c b x (by omega)) rfl ?_ | refine callO.rd (has4_c b x (by omega)) rfl ?_ | refine callO.mk (has4_c b x (by omega)) rfl ?_)
    try simp (maxSteps := 2000000) (disch := omega) only [go_sem, seval]
    try repeat ((with_reducible refine And.intro ?_ ?_); focus (first | omega | assumption | exact True.intro | (show anyD _ _ = true; exact rfl) | (simp only [List.length_map, List.length_append, List.length_cons, List.length_nil, List.length_take, List.length_drop]; omega)))
    (first | refine callP.mk (alive5_c) rfl ?_ | refine callQ.mk (alive5_c) rfl ?_ | refine callO.rd (alive5_c) rfl ?_ | refine callO.mk (alive5_c) rfl ?_)
    try simp (maxSteps := 2000000) (disch := omega) only [go_sem, seval]
    try repeat ((with_reducible refine And.intro ?_ ?_); focus (first | omega | assumption | exact True.intro | (show anyD _ _ = true; exact rfl) | (simp only [List.length_map, List.length_append, List.length_cons, List.length_nil, List.length_take, List.length_drop]; omega)))
    have hu : mem (opS fUnion a b) x = fUnion (mem a x) (mem b x) := opS_mem na nb hx
    have hm : mem (opS fMeet a b) x = fMeet (mem a x) (mem b x) := opS_mem na nb hx
    have hd : mem (opS fMinus a b) x = fMinus (mem a x) (mem b x) := opS_mem na nb hx
    have ku := has4_c (opS fUnion a b) x (by omega)
    have km := has4_c (opS fMeet a b) x (by omega)
    have kd := has4_c (opS fMinus a b) x (by omega)
    rw [hu] at ku
    rw [hm] at km
    rw [hd] at kd
    unfold fUnion at ku
    unfold fMeet at km
    unfold fMinus at kd
    clear hu hm hd
    generalize mem a x = p at *
    generalize mem b x = q at *
    cases p <;> cases q <;> (
      refine callP.mk ku rfl ?_
      simp (maxSteps := 2000000) (disch := omega) only [go_sem, seval]
      refine callP.mk km rfl ?_
      simp (maxSteps := 2000000) (disch := omega) only [go_sem, seval]
      refine callP.mk kd rfl ?_
      simp (maxSteps := 2000000) (disch := omega) only [go_sem, seval])
end Go.Proofs.YtcedofkenfddkaaDoor
