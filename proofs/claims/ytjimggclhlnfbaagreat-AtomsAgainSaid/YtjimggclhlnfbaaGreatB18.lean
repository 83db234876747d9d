import Derived.Test.YtjimggclhlnfbaaGreatB17
set_option linter.unusedVariables false
set_option linter.unusedSimpArgs false
set_option maxRecDepth 100000
namespace Go.Proofs.YtjimggclhlnfbaaGreat
open Go.RowKit
def right12 (k : List Fg) : Bool := fewK k && decide ((ckK k).1 = 0)
theorem right12_c (k : List Fg) (hb : BdK k) : Cn Tryz.prog 8 [kp k] (.v (.bool (right12 k))) := by
 unfold right12
 refine cn_go Tryz.func8 [] 1 (by kernel_rfl) rfl (by simp [go_sem, seval]) ?_
 conv => arg 4; cbv
 conv => enter [5, 1]; cbv
 try simp (maxSteps := 2000000) (disch := omega) only [go_sem, seval]
 repeat ((with_reducible refine And.intro ?_ ?_); focus exact and_t)
 (first | refine .mk (kfew_c k hb) rfl ?_ | refine .rd (kfew_c k hb) rfl ?_)
 try simp (maxSteps := 2000000) (disch := omega) only [go_sem, seval]
 repeat ((with_reducible refine And.intro ?_ ?_); focus exact and_t)
 (first | refine .mk ?_ ?_ | refine .mkt ?_ ?_ | refine .mkf ?_ ?_) <;> intro h <;> (try simp only [nrm_l] at h) <;> (try simp (maxSteps := 2000000) (disch := omega) only [go_sem, seval]) <;> (repeat ((with_reducible refine And.intro ?_ ?_); focus exact and_t))
 ·(first | refine .mk (kright_c k hb (fewK_g h)) rfl ?_ | refine .rd (kright_c k hb (fewK_g h)) rfl ?_)
  try simp (maxSteps := 2000000) (disch := omega) only [go_sem, seval]
  repeat ((with_reducible refine And.intro ?_ ?_); focus exact and_t)
  simp [h]
 ·simp [h]
structure Rt12 (k : List Fg) : Prop where
 f : fewK k = true
 r : RightK k
 kn : Kn (CK k) (RK k) 240 k
 ok : OkX (CK k) (RK k)
theorem right12_get {k : List Fg} (hb : BdK k) (h : right12 k = true) : Rt12 k := by
 unfold right12 at h
 rw [Bool.and_eq_true, decide_eq_true_eq] at h
 have hr := (ckK_iff hb).1 h.2
 exact ⟨h.1, hr, Kn.few h.1 hr, okX_few h.1 hr⟩
theorem Rt12.o {k : List Fg} (h : Rt12 k) : Ok12 (CK k) (RK k) k := h.kn.ok12 h.ok (by omega)
set_option maxHeartbeats 2000000 in
theorem atomsAgain_c (k : List Fg) (hk : BdK k) : Cn Tryz.prog 4 [kp k] (.v (.bool true)) := by
 refine cn_go Tryz.func4 [] 1 (by kernel_rfl) rfl (by simp [go_sem, seval]) ?_
 conv => arg 4; cbv
 conv => enter [5, 1]; cbv
 try simp (maxSteps := 2000000) (disch := omega) only [go_sem, seval]
 repeat ((with_reducible refine And.intro ?_ ?_); focus exact and_t)
 (first | refine .mk (right12_c k hk) rfl ?_ | refine .rd (right12_c k hk) rfl ?_)
 try simp (maxSteps := 2000000) (disch := omega) only [go_sem, seval]
 repeat ((with_reducible refine And.intro ?_ ?_); focus exact and_t)
 (first | refine .mk ?_ ?_ | refine .mkt ?_ ?_ | refine .mkf ?_ ?_) <;> intro h <;> (try simp only [nrm_l] at h) <;> (try simp (maxSteps := 2000000) (disch := omega) only [go_sem, seval]) <;> (repeat ((with_reducible refine And.intro ?_ ?_); focus exact and_t))
 ·(first | refine .mk (alive12_c) rfl ?_ | refine .rd (alive12_c) rfl ?_)
  try simp (maxSteps := 2000000) (disch := omega) only [go_sem, seval]
  repeat ((with_reducible refine And.intro ?_ ?_); focus exact and_t)
 ·have hR := right12_get hk h
  have ho := hR.o
  have hf := hR.kn.refine hR.ok
  have hff := hf.refine hR.ok
  have hg := hf.group hR.ok
  have hgg := hg.group hR.ok
  have e1 := refine_again hR.r
  have e2 := group_again (group_gi hf.r)
  have c2 := refine_c (refineK k) (hf.ok12 hR.ok (by omega))
  have c4 := group_c (groupK (refineK k)) hg hR.ok (by omega)
  rw [e1] at c2
  rw [e2] at c4
  (first | refine .mk (refine_c k ho) rfl ?_ | refine .rd (refine_c k ho) rfl ?_)
  try simp (maxSteps := 2000000) (disch := omega) only [go_sem, seval]
  repeat ((with_reducible refine And.intro ?_ ?_); focus exact and_t)
  (first | refine .mk (refRefine12_c k ho) rfl ?_ | refine .rd (refRefine12_c k ho) rfl ?_)
  try simp (maxSteps := 2000000) (disch := omega) only [go_sem, seval]
  repeat ((with_reducible refine And.intro ?_ ?_); focus exact and_t)
  have hc_ := refKSame_c (refineK k) (refineK k) (hf.z (by omega))
  (first | refine .mk hc_ rfl ?_ | refine .rd hc_ rfl ?_)
  clear hc_
  try simp (maxSteps := 2000000) (disch := omega) only [go_sem, seval]
  repeat ((with_reducible refine And.intro ?_ ?_); focus exact and_t)
  (first | refine .mk (c2) rfl ?_ | refine .rd (c2) rfl ?_)
  try simp (maxSteps := 2000000) (disch := omega) only [go_sem, seval]
  repeat ((with_reducible refine And.intro ?_ ?_); focus exact and_t)
  have hc_ := refKSame_c (refineK k) (refineK k) (hf.z (by omega))
  (first | refine .mk hc_ rfl ?_ | refine .rd hc_ rfl ?_)
  clear hc_
  try simp (maxSteps := 2000000) (disch := omega) only [go_sem, seval]
  repeat ((with_reducible refine And.intro ?_ ?_); focus exact and_t)
  (first | refine .mk (group_c (refineK k) hf hR.ok (by omega)) rfl ?_ | refine .rd (group_c (refineK k) hf hR.ok (by omega)) rfl ?_)
  try simp (maxSteps := 2000000) (disch := omega) only [go_sem, seval]
  repeat ((with_reducible refine And.intro ?_ ?_); focus exact and_t)
  (first | refine .mk (alive12_c) rfl ?_ | refine .rd (alive12_c) rfl ?_)
  try simp (maxSteps := 2000000) (disch := omega) only [go_sem, seval]
  repeat ((with_reducible refine And.intro ?_ ?_); focus exact and_t)
  (first | refine .mk (c4) rfl ?_ | refine .rd (c4) rfl ?_)
  try simp (maxSteps := 2000000) (disch := omega) only [go_sem, seval]
  repeat ((with_reducible refine And.intro ?_ ?_); focus exact and_t)
  have hc_ := refKSame_c (groupK (refineK k)) (groupK (refineK k)) (hg.z (by omega))
  (first | refine .mk hc_ rfl ?_ | refine .rd hc_ rfl ?_)
  clear hc_
  try simp (maxSteps := 2000000) (disch := omega) only [go_sem, seval]
  repeat ((with_reducible refine And.intro ?_ ?_); focus exact and_t)
  try simp
end Go.Proofs.YtjimggclhlnfbaaGreat
