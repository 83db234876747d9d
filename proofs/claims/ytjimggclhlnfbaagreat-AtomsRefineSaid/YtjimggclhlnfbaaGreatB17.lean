import Derived.Test.YtjimggclhlnfbaaGreatB16
set_option linter.unusedVariables false
set_option linter.unusedSimpArgs false
set_option maxRecDepth 100000
namespace Go.Proofs.YtjimggclhlnfbaaGreat
open Go.RowKit
theorem few12 : fewK k12 = true := by decide
set_option maxHeartbeats 2000000 in
theorem alive12_c : Cn Tryz.prog 9 [] (.v (.bool true)) := by
 have hk := Kn.few few12 r12
 have ok := okX_few few12 r12
 have h12 := hk.ok12 ok (by omega)
 have a1 := astarts_c k12 h12.r h12.z (by decide) h12.t
 have a2 := pieces_c k12 h12.r h12.z (by decide) h12.t
 rw [st12] at a1
 rw [pc12] at a2
 have a3 := refine_c k12 h12
 have a4 := group_c (refineK k12) (hk.refine ok) ok (by omega)
 have e1 := eqN_c [0, 1, 4, 6, 10] [0, 1, 4, 6, 10] (by decide)
 have e2 := same4_c [⟨1, 3⟩, ⟨4, 5⟩, ⟨6, 9⟩] [⟨1, 3⟩, ⟨4, 5⟩, ⟨6, 9⟩] (by decide)
 have l1 : (refineK k12).length = 3 := by rw [rf12]; rfl
 have l2 := gr12
 refine cn_go Tryz.func9 [] 0 (by kernel_rfl) rfl (by simp [go_sem, seval]) ?_
 conv => arg 4; cbv
 conv => enter [5, 1]; cbv
 try simp (maxSteps := 2000000) (disch := omega) only [go_sem, seval]
 repeat (with_reducible refine And.intro ?_ ?_; focus exact and_t)
 (first | refine .mk (a1) rfl ?_ | refine .rd (a1) rfl ?_)
 try simp (maxSteps := 2000000) (disch := omega) only [go_sem, seval]
 repeat (with_reducible refine And.intro ?_ ?_; focus exact and_t)
 (first | refine .mk (e1) rfl ?_ | refine .rd (e1) rfl ?_)
 try simp (maxSteps := 2000000) (disch := omega) only [go_sem, seval]
 repeat (with_reducible refine And.intro ?_ ?_; focus exact and_t)
 (first | refine .mk (a2) rfl ?_ | refine .rd (a2) rfl ?_)
 try simp (maxSteps := 2000000) (disch := omega) only [go_sem, seval]
 repeat (with_reducible refine And.intro ?_ ?_; focus exact and_t)
 (first | refine .mk (e2) rfl ?_ | refine .rd (e2) rfl ?_)
 try simp (maxSteps := 2000000) (disch := omega) only [go_sem, seval]
 repeat (with_reducible refine And.intro ?_ ?_; focus exact and_t)
 (first | refine .mk (a3) rfl ?_ | refine .rd (a3) rfl ?_)
 try simp (maxSteps := 2000000) (disch := omega) only [go_sem, seval]
 repeat (with_reducible refine And.intro ?_ ?_; focus exact and_t)
 rw [l1]
 simp only [show (((3 : Nat) : Int) = 3) = True from eq_true rfl, decide_true]
 try simp (maxSteps := 2000000) (disch := omega) only [go_sem, seval]
 repeat (with_reducible refine And.intro ?_ ?_; focus exact and_t)
 (first | refine .mk (a3) rfl ?_ | refine .rd (a3) rfl ?_)
 try simp (maxSteps := 2000000) (disch := omega) only [go_sem, seval]
 repeat (with_reducible refine And.intro ?_ ?_; focus exact and_t)
 (first | refine .mk (a4) rfl ?_ | refine .rd (a4) rfl ?_)
 try simp (maxSteps := 2000000) (disch := omega) only [go_sem, seval]
 repeat (with_reducible refine And.intro ?_ ?_; focus exact and_t)
 rw [l2]
 simp
def right12 (k : List Fg) : Bool := fewK k && decide ((ckK k).1 = 0)
theorem right12_c (k : List Fg) (hb : BdK k) : Cn Tryz.prog 8 [kp k] (.v (.bool (right12 k))) := by
 unfold right12
 refine cn_go Tryz.func8 [] 1 (by kernel_rfl) rfl (by simp [go_sem, seval]) ?_
 conv => arg 4; cbv
 conv => enter [5, 1]; cbv
 try simp (maxSteps := 2000000) (disch := omega) only [go_sem, seval]
 repeat (with_reducible refine And.intro ?_ ?_; focus exact and_t)
 (first | refine .mk (kfew_c k hb) rfl ?_ | refine .rd (kfew_c k hb) rfl ?_)
 try simp (maxSteps := 2000000) (disch := omega) only [go_sem, seval]
 repeat (with_reducible refine And.intro ?_ ?_; focus exact and_t)
 (first | refine .mk ?_ ?_ | refine .mkt ?_ ?_ | refine .mkf ?_ ?_) <;> intro h <;> (try simp only [nrm_l] at h) <;> (try simp (maxSteps := 2000000) (disch := omega) only [go_sem, seval]) <;> (repeat (with_reducible refine And.intro ?_ ?_; focus exact and_t))
 ·(first | refine .mk (kright_c k hb (fewK_g h)) rfl ?_ | refine .rd (kright_c k hb (fewK_g h)) rfl ?_)
  try simp (maxSteps := 2000000) (disch := omega) only [go_sem, seval]
  repeat (with_reducible refine And.intro ?_ ?_; focus exact and_t)
  simp [h]
 ·simp [h]
structure Rt12 (k : List Fg) : Prop where
 f : fewK k = true
 r : RightK k
 kn : Kn (CK k) (RK k) 240 k
 ok : OkX (CK k) (RK k)
theorem right12_get {k : List Fg} (hb : BdK k) (h : right12 k = true) : Rt12 k := by
 unfold right12 at h
 rw [Bool.and_eq_true, decide_eq_true_eq] at h
 have hr := (ckK_iff hb).1 h.2
 exact ⟨h.1, hr, Kn.few h.1 hr, okX_few h.1 hr⟩
theorem Rt12.o {k : List Fg} (h : Rt12 k) : Ok12 (CK k) (RK k) k := h.kn.ok12 h.ok (by omega)
set_option maxHeartbeats 2000000 in
theorem atomsRefine_c (k : List Fg) (x : Nat × Nat × Nat) (hk : BdK k) (hx : BdX x) : Cn Tryz.prog 6 [kp k, xp x] (.v (.bool true)) := by
 refine cn_go Tryz.func6 [] 2 (by kernel_rfl) rfl (by simp [go_sem, seval]) ?_
 conv => arg 4; cbv
 conv => enter [5, 1]; cbv
 try simp (maxSteps := 2000000) (disch := omega) only [go_sem, seval]
 repeat (with_reducible refine And.intro ?_ ?_; focus exact and_t)
 (first | refine .mk (right12_c k hk) rfl ?_ | refine .rd (right12_c k hk) rfl ?_)
 try simp (maxSteps := 2000000) (disch := omega) only [go_sem, seval]
 repeat (with_reducible refine And.intro ?_ ?_; focus exact and_t)
 (first | refine .mk ?_ ?_ | refine .mkt ?_ ?_ | refine .mkf ?_ ?_) <;> intro h <;> (try simp only [nrm_l] at h) <;> (try simp (maxSteps := 2000000) (disch := omega) only [go_sem, seval]) <;> (repeat (with_reducible refine And.intro ?_ ?_; focus exact and_t))
 ·(first | refine .mk (alive12_c) rfl ?_ | refine .rd (alive12_c) rfl ?_)
  try simp (maxSteps := 2000000) (disch := omega) only [go_sem, seval]
  repeat (with_reducible refine And.intro ?_ ?_; focus exact and_t)
 ·have hR := right12_get hk h
  have ho := hR.o
  have hf := hR.kn.refine hR.ok
  (first | refine .mk (refine_c k ho) rfl ?_ | refine .rd (refine_c k ho) rfl ?_)
  try simp (maxSteps := 2000000) (disch := omega) only [go_sem, seval]
  repeat (with_reducible refine And.intro ?_ ?_; focus exact and_t)
  (first | refine .mk (alive12_c) rfl ?_ | refine .rd (alive12_c) rfl ?_)
  try simp (maxSteps := 2000000) (disch := omega) only [go_sem, seval]
  repeat (with_reducible refine And.intro ?_ ?_; focus exact and_t)
  (first | refine .mk (refRefine12_c k ho) rfl ?_ | refine .rd (refRefine12_c k ho) rfl ?_)
  try simp (maxSteps := 2000000) (disch := omega) only [go_sem, seval]
  repeat (with_reducible refine And.intro ?_ ?_; focus exact and_t)
  have hc_ := refKSame_c (refineK k) (refineK k) (hf.z (by omega))
  (first | refine .mk hc_ rfl ?_ | refine .rd hc_ rfl ?_)
  clear hc_
  try simp (maxSteps := 2000000) (disch := omega) only [go_sem, seval]
  repeat (with_reducible refine And.intro ?_ ?_; focus exact and_t)
  have hc_ := khas_c (refineK k) x.1 x.2.1 x.2.2 hf.r hx.2.2 (hf.z (by omega))
  (first | refine .mk hc_ rfl ?_ | refine .rd hc_ rfl ?_)
  clear hc_
  try simp (maxSteps := 2000000) (disch := omega) only [go_sem, seval]
  repeat (with_reducible refine And.intro ?_ ?_; focus exact and_t)
  (first | refine .mk (refKHas_c k x.1 x.2.1 x.2.2 hR.r hx.2.2 ho.z) rfl ?_ | refine .rd (refKHas_c k x.1 x.2.1 x.2.2 hR.r hx.2.2 ho.z) rfl ?_)
  try simp (maxSteps := 2000000) (disch := omega) only [go_sem, seval]
  repeat (with_reducible refine And.intro ?_ ?_; focus exact and_t)
  rw [has_refine hR.r hx.1 hx.2.2]
  try simp
end Go.Proofs.YtjimggclhlnfbaaGreat
