/- The law JoinDenotes returns true. -/
import Derived.Test.YtcedofkenfddkaaDoorT12
namespace Go.Proofs.YtcedofkenfddkaaDoor
set_option linter.unusedVariables false
set_option linter.unusedSimpArgs false
open Go.RowKit
set_option maxRecDepth 100000
theorem has7_c (e : En) (c : Nat) (hl : e.holes.length ≤ 1152921504606846976) : Cn Tryd.prog 28 [ep e, .v (.int .u64 c)] (.v (.bool (decide (c ≤ e.max) && !mem e.holes c))) := by
  refine cn_go Tryd.func28 [] 2 (by kernel_rfl) rfl (by simp [go_sem, seval]) ?_
  conv => arg 4; cbv
  conv => enter [5, 1]; cbv
  try simp (maxSteps := 2000000) (disch := omega) only [go_sem, seval]
  try repeat ((with_reducible refine And.intro ?_ ?_); focus (first | omega | assumption | exact True.intro | (show anyD _ _ = true; exact rfl) | (simp only [List.length_map, List.length_append, List.length_cons, List.length_nil, List.length_take, List.length_drop]; omega)))
  (first | refine brP.mk (fun h1 => ?_) (fun h1 => ?_) | refine gdP.mkt (fun h1 => ?_) (fun h1 => ?_) | refine gdP.mkf (fun h1 => ?_) (fun h1 => ?_) | refine pkP.mk (fun h1 => ?_) (fun h1 => ?_)) <;> (try simp only [Bool.not_true, Bool.not_false, decide_eq_true_eq, decide_eq_false_iff_not, Bool.and_eq_true, Bool.or_eq_true, Bool.not_eq_true', Bool.not_eq_false', Bool.and_eq_false_iff, Bool.or_eq_false_iff, Nat.not_lt, Int.not_lt, Nat.not_le, Int.not_le, Int.ofNat_lt, Int.ofNat_le, Int.ofNat_inj, Bool.xor_false, Bool.false_xor, Bool.true_xor, Bool.xor_true] at h1) <;> (try simp (maxSteps := 2000000) (disch := omega) only [go_sem, seval]) <;> (try repeat ((with_reducible refine And.intro ?_ ?_); focus (first | omega | assumption | exact True.intro | (show anyD _ _ = true; exact rfl) | (simp only [List.length_map, List.length_append, List.length_cons, List.length_nil, List.length_take, List.length_drop]; omega))))
  · (first | refine callP.mk (has4_c e.holes c hl) rfl ?_ | refine callQ.mk (has4_c e.holes c hl) rfl ?_ | refine callO.rd (has4_c e.holes c hl) rfl ?_ | refine callO.mk (has4_c e.holes c hl) rfl ?_)
    try simp (maxSteps := 2000000) (disch := omega) only [go_sem, seval]
    try repeat ((with_reducible refine And.intro ?_ ?_); focus (first | omega | assumption | exact True.intro | (show anyD _ _ = true; exact rfl) | (simp only [List.length_map, List.length_append, List.length_cons, List.length_nil, List.length_take, List.length_drop]; omega)))
    simp [h1]
  · have h1' : ¬ c ≤ e.max := by omega
    simp [h1']
theorem has7k_c (e : En) (c : Nat) (he : RightE e) (hc : c < M64) (hl : e.holes.length ≤ 1152921504606846976) : Cn Tryd.prog 28 [ep e, .v (.int .u64 c)] (.v (.bool (mem (kn e) c))) := by
  rw [kn_mem he hc]
  exact has7_c e c hl
theorem BdE_of {e : En} (h : RightE e) : BdE e := ⟨h.1.lt, h.2.2.1, h.2.2.2⟩
theorem canOk_c (e : En) (h : CanE e) (hl : e.holes.length ≤ 1152921504606846976) : Cn Tryd.prog 35 [ep e] (.v (.bool true)) := by
  have hb := BdE_of h.1
  have hr := (rightEB_iff hb.1 hb.2.1 hb.2.2).2 h.1
  have hz := (chk_nrm (l := e.holes) fun s hs => (hb.1 s hs).2).2 h.1.1
  have := ecanonical_c e hb.1 hb.2.1 hb.2.2 hl (.inl hz)
  rw [hr, can_max h] at this
  exact this
section
variable (a b : En) (c : Nat) (ha : BdE a) (hb : BdE b) (hc : c < M64)
include ha hb hc
set_option maxHeartbeats 8000000 in
theorem jdenotes_c : Cn Tryd.prog 14 [ep a, ep b, .v (.int .u64 c)] (.v (.bool true)) := by
  refine cn_go Tryd.func14 [] 3 (by kernel_rfl) rfl (by simp [go_sem, seval]) ?_
  conv => arg 4; cbv
  conv => enter [5, 1]; cbv
  try simp (maxSteps := 2000000) (disch := omega) only [go_sem, seval]
  try repeat ((with_reducible refine And.intro ?_ ?_); focus (first | omega | assumption | exact True.intro | (show anyD _ _ = true; exact rfl) | (simp only [List.length_map, List.length_append, List.length_cons, List.length_nil, List.length_take, List.length_drop]; omega)))
  (first | refine callP.mk (right8_c a [b] (bd8_2 a b ha hb) (by simp)) rfl ?_ | refine callQ.mk (right8_c a [b] (bd8_2 a b ha hb) (by simp)) rfl ?_ | refine callO.rd (right8_c a [b] (bd8_2 a b ha hb) (by simp)) rfl ?_ | refine callO.mk (right8_c a [b] (bd8_2 a b ha hb) (by simp)) rfl ?_)
  try simp (maxSteps := 2000000) (disch := omega) only [go_sem, seval]
  try repeat ((with_reducible refine And.intro ?_ ?_); focus (first | omega | assumption | exact True.intro | (show anyD _ _ = true; exact rfl) | (simp only [List.length_map, List.length_append, List.length_cons, List.length_nil, List.length_take, List.length_drop]; omega)))
  (first | refine brP.mk (fun h => ?_) (fun h => ?_) | refine gdP.mkt (fun h => ?_) (fun h => ?_) | refine gdP.mkf (fun h => ?_) (fun h => ?_) | refine pkP.mk (fun h => ?_) (fun h => ?_)) <;> (try simp only [Bool.not_true, Bool.not_false, decide_eq_true_eq, decide_eq_false_iff_not, Bool.and_eq_true, Bool.or_eq_true, Bool.not_eq_true', Bool.not_eq_false', Bool.and_eq_false_iff, Bool.or_eq_false_iff, Nat.not_lt, Int.not_lt, Nat.not_le, Int.not_le, Int.ofNat_lt, Int.ofNat_le, Int.ofNat_inj, Bool.xor_false, Bool.false_xor, Bool.true_xor, Bool.xor_true] at h) <;> (try simp (maxSteps := 2000000) (disch := omega) only [go_sem, seval]) <;> (try repeat ((with_reducible refine And.intro ?_ ?_); focus (first | omega | assumption | exact True.intro | (show anyD _ _ = true; exact rfl) | (simp only [List.length_map, List.length_append, List.length_cons, List.length_nil, List.length_take, List.length_drop]; omega))))
  · (first | refine callP.mk (alive8_c) rfl ?_ | refine callQ.mk (alive8_c) rfl ?_ | refine callO.rd (alive8_c) rfl ?_ | refine callO.mk (alive8_c) rfl ?_)
    try simp (maxSteps := 2000000) (disch := omega) only [go_sem, seval]
    try repeat ((with_reducible refine And.intro ?_ ?_); focus (first | omega | assumption | exact True.intro | (show anyD _ _ = true; exact rfl) | (simp only [List.length_map, List.length_append, List.length_cons, List.length_nil, List.length_take, List.length_drop]; omega)))
  · obtain ⟨ra, la, _⟩ := right8_get h (by simp) ha
    obtain ⟨rb, lb, _⟩ := right8_get h (by simp) hb
    have l1 := jn_len (f := fUnion) (a := a) (b := b)
    have l2 := jn_len (f := fMeet) (a := a) (b := b)
    have l3 := jn_len (f := fMinus) (a := a) (b := b)
    have na := kn_nrm ra
    have nb := kn_nrm rb
    have no : ∀ f, (jn f a b).2 = false → f (mem (kn a) c) (mem (kn b) c) = false := fun f h => by
      rw [jn_2] at h
      have h' : opS f (kn a) (kn b) = [] := by simpa using h
      rw [← opS_mem (f := f) na nb hc, h']; rfl
    have has : ∀ f, (jn f a b).2 = true → (jn f a b).1.holes.length ≤ 1152921504606846976 → Cn Tryd.prog 28 [ep (jn f a b).1, .v (.int .u64 c)] (.v (.bool (f (mem (kn a) c) (mem (kn b) c)))) := fun f h hl => by
      have := has7k_c (jn f a b).1 c (jn_right ra rb) hc hl
      rw [jn_kn ra rb h, opS_mem na nb hc] at this
      exact this
    have can : ∀ f, (jn f a b).2 = true → (jn f a b).1.holes.length ≤ 1152921504606846976 → Cn Tryd.prog 35 [ep (jn f a b).1] (.v (.bool true)) := fun f h hl => canOk_c _ (jn_can ra rb h) hl
    have u1 := fun h => has fUnion h (by omega)
    have u2 := fun h => has fMeet h (by omega)
    have u3 := fun h => has fMinus h (by omega)
    have c1 := fun h => can fUnion h (by omega)
    have c2 := fun h => can fMeet h (by omega)
    have c3 := fun h => can fMinus h (by omega)
    have n1 := no fUnion
    have n2 := no fMeet
    have n3 := no fMinus
    clear no has can
    have xa := has7k_c a c ra hc (by omega)
    have xb := has7k_c b c rb hc (by omega)
    (first | refine callP.mk (jUnion_c a b ra rb (by omega) (by omega)) rfl ?_ | refine callQ.mk (jUnion_c a b ra rb (by omega) (by omega)) rfl ?_ | refine callO.rd (jUnion_c a b ra rb (by omega) (by omega)) rfl ?_ | refine callO.mk (jUnion_c a b ra rb (by omega) (by omega)) rfl ?_)
    try simp (maxSteps := 2000000) (disch := omega) only [go_sem, seval]
    try repeat ((with_reducible refine And.intro ?_ ?_); focus (first | omega | assumption | exact True.intro | (show anyD _ _ = true; exact rfl) | (simp only [List.length_map, List.length_append, List.length_cons, List.length_nil, List.length_take, List.length_drop]; omega)))
    (first | refine callP.mk (jMeet_c a b ra rb (by omega) (by omega)) rfl ?_ | refine callQ.mk (jMeet_c a b ra rb (by omega) (by omega)) rfl ?_ | refine callO.rd (jMeet_c a b ra rb (by omega) (by omega)) rfl ?_ | refine callO.mk (jMeet_c a b ra rb (by omega) (by omega)) rfl ?_)
    try simp (maxSteps := 2000000) (disch := omega) only [go_sem, seval]
    try repeat ((with_reducible refine And.intro ?_ ?_); focus (first | omega | assumption | exact True.intro | (show anyD _ _ = true; exact rfl) | (simp only [List.length_map, List.length_append, List.length_cons, List.length_nil, List.length_take, List.length_drop]; omega)))
    (first | refine callP.mk (jMinus_c a b ra rb (by omega) (by omega)) rfl ?_ | refine callQ.mk (jMinus_c a b ra rb (by omega) (by omega)) rfl ?_ | refine callO.rd (jMinus_c a b ra rb (by omega) (by omega)) rfl ?_ | refine callO.mk (jMinus_c a b ra rb (by omega) (by omega)) rfl ?_)
    try simp (maxSteps := 2000000) (disch := omega) only [go_sem, seval]
    try repeat ((with_reducible refine And.intro ?_ ?_); focus (first | omega | assumption | exact True.intro | (show anyD _ _ = true; exact rfl) | (simp only [List.length_map, List.length_append, List.length_cons, List.length_nil, List.length_take, List.length_drop]; omega)))
    generalize mem (kn a) c = x at *
    generalize mem (kn b) c = y at *
    generalize jn fUnion a b = ju at *
    generalize jn fMeet a b = jm at *
    generalize jn fMinus a b = jd at *
    simp only [fUnion, fMeet, fMinus] at u1 u2 u3 n1 n2 n3
    cases hp : ju.2 <;> cases hq : jm.2 <;> cases hr : jd.2 <;> cases x <;> cases y <;> (try exact absurd (n1 hp) (by decide)) <;> (try exact absurd (n2 hq) (by decide)) <;> (try exact absurd (n3 hr) (by decide)) <;> (
      clear n1 n2 n3
      simp (maxSteps := 2000000) (disch := omega) only [go_sem, seval]
      try (refine callP.mk (c1 hp) rfl ?_; simp (maxSteps := 2000000) (disch := omega) only [go_sem, seval])
      try (refine callP.mk (c2 hq) rfl ?_; simp (maxSteps := 2000000) (disch := omega) only [go_sem, seval])
      try (refine callP.mk (c3 hr) rfl ?_; simp (maxSteps := 2000000) (disch := omega) only [go_sem, seval])
      refine callQ.mk xa rfl ?_
      simp (maxSteps := 2000000) (disch := omega) only [go_sem, seval]
      refine callQ.mk xb rfl ?_
      simp (maxSteps := 2000000) (disch := omega) only [go_sem, seval]
      refine callP.mk alive8_c rfl ?_
      simp (maxSteps := 2000000) (disch := omega) only [go_sem, seval]
      try (refine callP.mk (u1 hp) rfl ?_; simp (maxSteps := 2000000) (disch := omega) only [go_sem, seval])
      try (refine callP.mk (u2 hq) rfl ?_; simp (maxSteps := 2000000) (disch := omega) only [go_sem, seval])
      try (refine callP.mk (u3 hr) rfl ?_; simp (maxSteps := 2000000) (disch := omega) only [go_sem, seval]))
end
end Go.Proofs.YtcedofkenfddkaaDoor
