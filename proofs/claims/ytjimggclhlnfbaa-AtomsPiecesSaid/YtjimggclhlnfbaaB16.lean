import Derived.Test.YtjimggclhlnfbaaB15
namespace Go.Proofs.Ytjimggclhlnfbaa
set_option linter.unusedVariables false
set_option linter.unusedSimpArgs false
open Go.RowKit
set_option maxRecDepth 100000
theorem astarts_c (k : List Fg) (hr : RightK k) (hz : SzK k) (hkl : k.length ≤ 1073741824) (hT : (CI k).length ≤ 1000000) : Cn Try.prog 13 [kp k] (ns (startsK k)) := by
 refine cn_memL rfl (enters_of Try.func13 (by kernel_rfl) rfl) fun D w vs hG hD hsz hd => ?_
 rw [arr1' hsz]
 refine (starts_calls D k _ w hr hz hkl hT (hd 0 _ rfl) hD hG).mono ?_
 rintro e w' ⟨v, rfl, hb, ho⟩
 exact ⟨v, rfl, hb, ownN_dat ho fun b o h1 h2 => .inr ⟨h1, h2⟩⟩
noncomputable def pcsT (k : List Fg) (j : Nat) : List Iv := ((cutsK k).take j).filter fun s => decide (0 < (membK k s.lo).length)
theorem pcsT_all (k : List Fg) {j : Nat} (h : (startsK k).length ≤ j) : pcsT k j = piecesK k := by
 unfold pcsT piecesK
 rw [List.take_of_length_le (by unfold cutsK; rw [pcsL_len]; exact h)]
theorem pcsT_len (k : List Fg) (j : Nat) : (pcsT k j).length ≤ j := Nat.le_trans (List.length_filter_le _ _) (List.length_take_le _ _)
theorem pcsT_step {k : List Fg} {j : Nat} (h : j < (startsK k).length) : pcsT k (j + 1) = pcsT k j ++ if membK k (startsK k)[j] = [] then [] else [⟨(startsK k)[j], if h : j + 1 < (startsK k).length then (startsK k)[j + 1] - 1 else M64 - 1⟩] := by
 have hc : j < (cutsK k).length := by unfold cutsK; rw [pcsL_len]; exact h
 unfold pcsT
 rw [List.take_succ_eq_append_getElem hc, List.filter_append]
 congr 1
 have hg : (cutsK k)[j] = ⟨(startsK k)[j], if h : j + 1 < (startsK k).length then (startsK k)[j + 1] - 1 else M64 - 1⟩ := pcsL_get _ _ h
 rw [hg]
 by_cases h0 : membK k (startsK k)[j] = []
 ·rw [if_pos h0]; simp [h0]
 ·rw [if_neg h0]; simp [List.length_pos_iff.2 h0]
theorem starts_next {k : List Fg} (hr : RightK k) {j : Nat} (h : j + 1 < (startsK k).length) : 1 ≤ (startsK k)[j + 1] ∧ (startsK k)[j + 1] < M64 := by
 refine ⟨?_, startsK_lt hr _ (List.getElem_mem h)⟩
 have := List.pairwise_iff_getElem.1 (startsK_asc k) j (j + 1) (by omega) h (by omega)
 omega
theorem pieces_c (k : List Fg) (hr : RightK k) (hz : SzK k) (hkl : k.length ≤ 1073741824) (hT : (CI k).length ≤ 1000000) : Cn Try.prog 6 [kp k] (rg (piecesK k)) := by
 have hsl := startsK_len k
 have hM := M64_val
 refine cn_go Try.func6 [] 1 (by kernel_rfl) rfl (by simp [go_sem, seval]) ?_
 conv => arg 4; cbv
 conv => enter [5, 1]; cbv
 try simp (maxSteps := 2000000) (disch := omega) only [go_sem, seval]
 try repeat ((with_reducible refine And.intro ?_ ?_); focus exact and_t)
 (first | refine callP.mk (astarts_c k hr hz hkl hT) rfl ?_ | refine callQ.mk (astarts_c k hr hz hkl hT) rfl ?_ | refine callO.rd (astarts_c k hr hz hkl hT) rfl ?_ | refine callO.mk (astarts_c k hr hz hkl hT) rfl ?_)
 try simp (maxSteps := 2000000) (disch := omega) only [go_sem, seval]
 try repeat ((with_reducible refine And.intro ?_ ?_); focus exact and_t)
 refine pLoop.go (fun j => j ≤ (startsK k).length) (fun j => [(3, .sl ((pcsT k j).map ivc) (.r 38 2)), (12, .v (.int .i64 (j : Nat)))]) (fun _ => []) (fun j => (startsK k).length - j) 0 [3, 12] ?_ ?_ ?_
 ·exact Nat.zero_le _
 ·try simp (maxSteps := 2000000) (disch := omega) only [go_sem, seval]
  try repeat ((with_reducible refine And.intro ?_ ?_); focus exact and_t)
  rfl
 ·rintro j hj
  have hpl := pcsT_len k j
  try simp (maxSteps := 2000000) (disch := omega) only [go_sem, seval]
  try repeat ((with_reducible refine And.intro ?_ ?_); focus exact and_t)
  (first | refine brP.mk (fun h => ?_) (fun h => ?_) | refine gdP.mkt (fun h => ?_) (fun h => ?_) | refine gdP.mkf (fun h => ?_) (fun h => ?_) | refine pkP.mk (fun h => ?_) (fun h => ?_)) <;> (try simp only [Bool.not_true, Bool.not_false, nrm_l] at h) <;> (try simp (maxSteps := 2000000) (disch := omega) only [go_sem, seval]) <;> (try repeat ((with_reducible refine And.intro ?_ ?_); focus exact and_t))
  ·have hst := pcsT_step h
   have hlt := startsK_lt hr _ (List.getElem_mem h)
   try simp (maxSteps := 2000000) (disch := omega) only [go_sem, seval]
   try repeat ((with_reducible refine And.intro ?_ ?_); focus exact and_t)
   have hc_ := kmemb_c k (startsK k)[j] hr hz hkl
   (first | refine callP.mk hc_ rfl ?_ | refine callQ.mk hc_ rfl ?_ | refine callO.rd hc_ rfl ?_ | refine callO.mk hc_ rfl ?_)
   clear hc_
   try simp (maxSteps := 2000000) (disch := omega) only [go_sem, seval]
   try repeat ((with_reducible refine And.intro ?_ ?_); focus exact and_t)
   (first | refine brP.mk (fun h2 => ?_) (fun h2 => ?_) | refine gdP.mkt (fun h2 => ?_) (fun h2 => ?_) | refine gdP.mkf (fun h2 => ?_) (fun h2 => ?_) | refine pkP.mk (fun h2 => ?_) (fun h2 => ?_)) <;> (try simp only [Bool.not_true, Bool.not_false, nrm_l] at h2) <;> (try simp (maxSteps := 2000000) (disch := omega) only [go_sem, seval]) <;> (try repeat ((with_reducible refine And.intro ?_ ?_); focus exact and_t))
   ·rw [if_pos h2, List.append_nil] at hst
    exact ⟨j + 1, h, by omega, by rw [hst], rfl⟩
   ·rw [if_neg h2] at hst
    (first | refine brP.mk (fun h3 => ?_) (fun h3 => ?_) | refine gdP.mkt (fun h3 => ?_) (fun h3 => ?_) | refine gdP.mkf (fun h3 => ?_) (fun h3 => ?_) | refine pkP.mk (fun h3 => ?_) (fun h3 => ?_)) <;> (try simp only [Bool.not_true, Bool.not_false, nrm_l] at h3) <;> (try simp (maxSteps := 2000000) (disch := omega) only [go_sem, seval]) <;> (try repeat ((with_reducible refine And.intro ?_ ?_); focus exact and_t))
    ·obtain ⟨n1, n2⟩ := starts_next hr h3
     rw [dif_pos h3] at hst
     try simp (maxSteps := 2000000) (disch := omega) only [go_sem, seval]
     try repeat ((with_reducible refine And.intro ?_ ?_); focus exact and_t)
     refine ⟨j + 1, h, by omega, ?_, rfl⟩
     rw [hst]
     simp [ivc]
    ·rw [dif_neg (by omega)] at hst
     try simp (maxSteps := 2000000) (disch := omega) only [go_sem, seval]
     try repeat ((with_reducible refine And.intro ?_ ?_); focus exact and_t)
     refine ⟨j + 1, h, by omega, ?_, rfl⟩
     rw [hst]
     simp [ivc, hM]
  ·rw [pcsT_all k (by omega)]
end Go.Proofs.Ytjimggclhlnfbaa
namespace Go.Proofs.Ytjimggclhlnfbaa
set_option linter.unusedVariables false
set_option linter.unusedSimpArgs false
open Go.RowKit
set_option maxRecDepth 100000
structure Ok12 (C : Nat → List Nat) (R : List Nat) (k : List Fg) : Prop where
 r : RightK k
 z : SzK k
 l : k.length ≤ 1048576
 t : (CI k).length ≤ 1000000
 i : ∀ f ∈ k, f.items.length ≤ 1048576
 ik : IK C R k
 ok : OkC C R
 s : ∀ f ∈ k, SmV f.vec
noncomputable def refF (k : List Fg) (s : Iv) : Fg := ⟨[s], vecAt k s.lo⟩
theorem ref_take (k : List Fg) {j : Nat} (h : j < (piecesK k).length) : ((piecesK k).take (j + 1)).map (fun s => fc (refF k s)) = ((piecesK k).take j).map (fun s => fc (refF k s)) ++ [fc (refF k (piecesK k)[j])] := by
 rw [List.take_succ_eq_append_getElem h, List.map_append]; rfl
theorem ref_all (k : List Fg) {j : Nat} (h : (piecesK k).length ≤ j) : ((piecesK k).take j).map (fun s => fc (refF k s)) = (refineK k).map fc := by
 rw [List.take_of_length_le h]; unfold refineK; rw [List.map_map]; rfl
theorem refine_c {C : Nat → List Nat} {R : List Nat} (k : List Fg) (h12 : Ok12 C R k) : Cn Try.prog 15 [kp k] (kp (refineK k)) := by
 have hpl := pieces_len k
 have h12t := h12.t
 refine cn_go Try.func15 [] 1 (by kernel_rfl) rfl (by simp [go_sem, seval]) ?_
 conv => arg 4; cbv
 conv => enter [5, 1]; cbv
 try simp (maxSteps := 2000000) (disch := omega) only [go_sem, seval]
 try repeat ((with_reducible refine And.intro ?_ ?_); focus exact and_t)
 have hc_ := pieces_c k h12.r h12.z (by have := h12.l; omega) h12.t
 (first | refine callP.mk hc_ rfl ?_ | refine callQ.mk hc_ rfl ?_ | refine callO.rd hc_ rfl ?_ | refine callO.mk hc_ rfl ?_)
 clear hc_
 try simp (maxSteps := 2000000) (disch := omega) only [go_sem, seval]
 try repeat ((with_reducible refine And.intro ?_ ?_); focus exact and_t)
 refine pLoop.go (fun j => j ≤ (piecesK k).length) (fun j => [(3, .sl (((piecesK k).take j).map (fun s => fc (refF k s))) (.r 22 2)), (9, .v (.int .i64 (j : Nat)))]) (fun _ => []) (fun j => (piecesK k).length - j) 0 [3, 9] ?_ ?_ ?_
 ·exact Nat.zero_le _
 ·try simp (maxSteps := 2000000) (disch := omega) only [go_sem, seval]
  try repeat ((with_reducible refine And.intro ?_ ?_); focus exact and_t)
 ·rintro j hj
  try simp (maxSteps := 2000000) (disch := omega) only [go_sem, seval]
  try repeat ((with_reducible refine And.intro ?_ ?_); focus exact and_t)
  (first | refine brP.mk (fun h => ?_) (fun h => ?_) | refine gdP.mkt (fun h => ?_) (fun h => ?_) | refine gdP.mkf (fun h => ?_) (fun h => ?_) | refine pkP.mk (fun h => ?_) (fun h => ?_)) <;> (try simp only [Bool.not_true, Bool.not_false, nrm_l] at h) <;> (try simp (maxSteps := 2000000) (disch := omega) only [go_sem, seval]) <;> (try repeat ((with_reducible refine And.intro ?_ ?_); focus exact and_t))
  ·have hst := ref_take k h
   have hc_ := kat_c k (piecesK k)[j].lo h12.ik h12.ok h12.r h12.s h12.z
   (first | refine callP.mk hc_ rfl ?_ | refine callQ.mk hc_ rfl ?_ | refine callO.rd hc_ rfl ?_ | refine callO.mk hc_ rfl ?_)
   clear hc_
   try simp (maxSteps := 2000000) (disch := omega) only [go_sem, seval]
   try repeat ((with_reducible refine And.intro ?_ ?_); focus exact and_t)
   refine cutP.full rfl ?_ rfl ?_ ?_
   ·try simp (maxSteps := 2000000) (disch := omega) only [go_sem, seval]
    try repeat ((with_reducible refine And.intro ?_ ?_); focus exact and_t)
   ·try simp (maxSteps := 2000000) (disch := omega) only [go_sem, seval]
    try repeat ((with_reducible refine And.intro ?_ ?_); focus exact and_t)
   ·try simp (maxSteps := 2000000) (disch := omega) only [go_sem, seval]
    try repeat ((with_reducible refine And.intro ?_ ?_); focus exact and_t)
    exact ⟨j + 1, h, by omega, hst.symm, rfl⟩
  ·exact ref_all k (by omega)
end Go.Proofs.Ytjimggclhlnfbaa
namespace Go.Proofs.Ytjimggclhlnfbaa
set_option linter.unusedVariables false
set_option linter.unusedSimpArgs false
open Go.RowKit
set_option maxRecDepth 100000
def OkX (C : Nat → List Nat) (R : List Nat) : Prop := (∀ r, (C r).length ≤ 9000) ∧ R.length ≤ 1000
theorem OkX.c {C : Nat → List Nat} {R : List Nat} (h : OkX C R) : OkC C R := ⟨h.1, by have := h.2; omega⟩
structure Kn (C : Nat → List Nat) (R : List Nat) (n : Nat) (k : List Fg) : Prop where
 r : RightK k
 ik : IK C R k
 s : ∀ f ∈ k, SmV f.vec
 m : sumI k ≤ n
 l : k.length ≤ n
theorem Kn.z {C : Nat → List Nat} {R : List Nat} {n : Nat} {k : List Fg} (h : Kn C R n k) (hn : n ≤ 400000) : SzK k :=
 ⟨by have := h.l; omega, fun f hf => ⟨by have := sumI_mem hf; have := h.m; omega, by have := (h.s f hf).2.1; omega, fun e he => by have := (h.s f hf).2.2 e he; omega⟩⟩
theorem Kn.ok12 {C : Nat → List Nat} {R : List Nat} {n : Nat} {k : List Fg} (h : Kn C R n k) (ok : OkX C R) (hn : n ≤ 400000) : Ok12 C R k :=
 ⟨h.r, h.z hn, by have := h.l; omega, by have := CI_sum k; have := h.m; omega, fun f hf => by have := sumI_mem hf; have := h.m; omega, h.ik, ok.c, h.s⟩
theorem Kn.mono {C C' : Nat → List Nat} {R R' : List Nat} {n m : Nat} {k : List Fg} (h : Kn C R n k) (hC : ∀ r x, x ∈ C r → x ∈ C' r) (hR : ∀ x ∈ R, x ∈ R') (hn : n ≤ m) : Kn C' R' m k :=
 ⟨h.r, fun f hf => (h.ik f hf).mono hC hR, h.s, by have := h.m; omega, by have := h.l; omega⟩
theorem sumI_few : ∀ {k : List Fg}, (∀ f ∈ k, f.items.length ≤ 20) → sumI k ≤ k.length * 20
 | [], _ => Nat.zero_le _
 | f :: k, h => by
  have h1 := sumI_few (k := k) fun g hg => h g (by simp [hg])
  have h2 := h f (by simp)
  simp only [sumI, List.length_cons]; omega
theorem Kn.few {k : List Fg} (h : fewK k = true) (hr : RightK k) : Kn (CK k) (RK k) 240 k := by
 have h1 := fewK_get h
 have h2 := sumI_few fun f hf => (h1.2 f hf).1
 exact ⟨hr, hr.ik, fun f hf => few_smv h hr hf, by omega, by omega⟩
theorem okX_few {k : List Fg} (h : fewK k = true) (hr : RightK k) : OkX (CK k) (RK k) := by
 have := fewK_len h hr
 exact ⟨fun r => by have := this.1 r; omega, by omega⟩
theorem Kn.refine {C : Nat → List Nat} {R : List Nat} {n : Nat} {k : List Fg} (h : Kn C R n k) (ok : OkX C R) : Kn C R (1 + 2 * n) (refineK k) := by
 have h1 := pieces_len k
 have h2 := CI_sum k
 have h3 := h.m
 have hw := h.ik.refine
 refine ⟨refineK_right h.r, fun f hf => (hw f hf).iv, fun f hf => (hw f hf).smv ok.c, ?_, ?_⟩
 ·unfold refineK; rw [sumI_ones]; omega
 ·unfold refineK; rw [List.length_map]; omega
theorem Kn.group {C : Nat → List Nat} {R : List Nat} {n : Nat} {k : List Fg} (h : Kn C R n k) (ok : OkX C R) : Kn C R n (groupK k) := by
 have h1 := groupK_sum h.r
 have hw : ∀ g ∈ groupK k, WV C R g.vec := fun g hg => by
  obtain ⟨f, hf, e⟩ := h1.2.2 g hg
  rw [e]
  exact (h.ik f hf).canVec
 exact ⟨(group_gi h.r).right, fun g hg => (hw g hg).iv, fun g hg => (hw g hg).smv ok.c, by have := h.m; omega, by have := h.l; omega⟩
theorem Kn.take {C : Nat → List Nat} {R : List Nat} {n : Nat} {k : List Fg} (h : Kn C R n k) (j : Nat) : Kn C R n (k.take j) := by
 refine ⟨h.r.take j, h.ik.take j, fun f hf => h.s f (List.mem_of_mem_take hf), ?_, ?_⟩
 ·have h1 := sumI_app (k.take j) (k.drop j)
  rw [List.take_append_drop] at h1
  have := h.m; omega
 ·have := h.l
  have := List.length_take_le j k
  have := List.length_take_le' j k
  omega
end Go.Proofs.Ytjimggclhlnfbaa
namespace Go.Proofs.Ytjimggclhlnfbaa
set_option linter.unusedVariables false
set_option linter.unusedSimpArgs false
open Go.RowKit
set_option maxRecDepth 100000
attribute [-go_sem] nat_succ
theorem addOk_of {C : Nat → List Nat} {R : List Nat} {n j : Nat} {k : List Fg} (h : Kn C R n k) (ok : OkX C R) (hn : n ≤ 400000) (hj : j < k.length) (hne : ¬ (canVec k[j].vec = [] ∨ k[j].items = [])) : AddOk (groupK (k.take j)) ⟨k[j].items, canVec k[j].vec⟩ := by
 have ht := h.take j
 have hg := ht.group ok
 have gi := group_gi ht.r
 have hm := List.getElem_mem hj
 have hw := (h.ik _ hm).canVec
 have hs := groupK_sum ht.r
 have hv : ∀ g ∈ groupK (k.take j), WV C R g.vec := fun g hg => by
  obtain ⟨f, hf, e⟩ := hs.2.2 g hg
  rw [e]; exact (ht.ik f hf).canVec
 exact ⟨gi, canVec_ok (h.r _ hm) hne, by have := hg.l; omega, by have := sumI_mem hm; have := h.m; show k[j].items.length ≤ _; omega, fun g h1 => by have := sumI_mem h1; have := hg.m; omega, hw.can.bd, fun g h1 => (gi.ok g h1).1.bd, hw.nlen ok.1 (by have := ok.2; omega), fun g h1 => (hv g h1).nlen ok.1 (by have := ok.2; omega)⟩
theorem wp_callm {P : Program} {f : FuncId} {t : Tmp} {p : Value} {xs : List Operand} {c : Call} {o : Oper} {a : Act} {w : World} {K : Act → World → Prop} {Q : Exit → Act → World → Prop} (ho : o.op = .call c) (hc : c.callee = .value (.tmp t)) (hv : a.eval (.tmp t) = .func (.func f) #[p] #[]) (ha : c.args.toList = xs)
  (he : ∀ args w, (callFunc f args).run P w = .ok (.enter f args) w)
  (h : Calls P f (p :: xs.map a.eval).toArray w fun e w'' => match e with | .returned v => K (a.put o.dst v) w'' | .panicked chain => Q (.panic chain) a w'' | .outgrown => LetsOut Q) : o.wp P a w K Q := by
 have hr : (execOp a.eval o).run P w = .ok (.enter f (p :: xs.map a.eval).toArray) w := by
  have e : c.args.map a.eval = (xs.map a.eval).toArray := Array.toList_inj.1 (by rw [Array.toList_map, ha])
  simp only [execOp, ho, resolve, hc, e, hv, Deferred.ofValue, Sem.run_bind, Sem.run_pure, Result.andThen_ok, invoke]
  rw [show (#[p] ++ (xs.map a.eval).toArray ++ #[] : Array Value) = (p :: xs.map a.eval).toArray from by simp]
  exact he _ _
 unfold Oper.wp
 rw [hr, Oper.upon_enter]
 exact h.mono (fun e w' h => by cases e <;> exact h)
set_option maxHeartbeats 4000000 in
theorem group_calls {B : Nat → List Nat} {R : List Nat} {n : Nat} (C : Nat → Nat → Prop) (k : List Fg) (vk : Value) (w : World) (hk : Kn B R n k) (ok : OkX B R) (hn : n ≤ 400000) (rk : Dat C w vk (kp k)) (hC : ∀ b o, C b o → b < w.heap.size) (hG : GL C w) :
    Calls Try.prog 16 #[vk] w fun e w' => ∃ v, e = .returned v ∧ Keep (fun b => w.heap.size ≤ b) w w' ∧ Dat (DL C w.heap.size w') w' v (kp (groupK k)) := by
  have hmf : ∀ (fn : Fn) (first cap : Array Value) (w : World), (Instr.makeFunc fn first cap).run Try.prog w = .ok (.func fn first cap) w := fun _ _ _ _ => rfl
  obtain ⟨aa, ca, fs, rfl, hl, hrow, hfs⟩ := kp_row rk hC
  have hkl := hk.l
  have HK := Lib.hid hk
  have HROW := Lib.hid hrow
  have HFS := Lib.hid hfs
  have HGL := Lib.hid hG
  have hca := hrow.1
  have hcm := hrow.2.1
  unfold maxLen at hcm
  rw [hl] at hca
  have hent : ∀ args w, (callFunc 27 args).run Try.prog w = .ok (.enter 27 args) w := enters_of Try.func27 (by kernel_rfl) rfl
  have HEN := Lib.hid hent
  clear rk hrow hfs hG hent hk
  go_enter Try.func16, Try.ntmps16
  go_wp2_with fail
  go_loopg [11] k.length (fun g x wr => ∃ j u, j ≤ k.length ∧ g = k.length - j ∧ x = .int .i64 j ∧ Boxed wr w.heap.size 62 u ∧ OutG C (w.heap.size + 1) (w.heap.size + 2) wr u (groupK (k.take j)) ∧ Keep (fun b => w.heap.size ≤ b) w wr)
  case atStart => exact ⟨0, _, Nat.zero_le _, rfl, rfl, World.alloc_heap_new w _, OutG.start _ _ _ _, (Keep.refl _ w).alloc _⟩
  case round =>
    obtain ⟨j, u, hj, rfl, rfl, hbx, hout, hkr⟩ := hrel
    have HBX := Lib.hid hbx
    have HOUT := Lib.hid hout
    have HKR := Lib.hid hkr
    have hrw := hbx.lt
    have cb := hbx.cell
    clear hbx hout hkr
    by_cases hlt : j < k.length
    · have hltf : j < fs.length := by omega
      obtain ⟨bb, off, rfl, hbn, hcel⟩ := HROW.out.2.2 (by intro e; subst e; simp at hltf)
      obtain ⟨c0, c1⟩ := hcel j hltf
      obtain ⟨d0, d1⟩ := HFS.out j hltf
      replace c0 := (HKR.out.cell (p := ⟨bb, off + j * 2, none⟩) (by show bb < _; omega) (by show ¬ w.heap.size ≤ bb; omega)).trans c0
      replace c1 := (HKR.out.cell (p := ⟨bb, off + j * 2 + 1, none⟩) (by show bb < _; omega) (by show ¬ w.heap.size ≤ bb; omega)).trans c1
      have HAO := Lib.hid (fun hne => addOk_of HK.out ok hn hlt hne)
      have HGT := Lib.hid (groupK_take hlt)
      have hfm := List.getElem_mem hlt
      have hsm := HK.out.s _ hfm
      have hfr := HK.out.r _ hfm
      have hil : k[j].items.length ≤ 400000 := by have := sumI_mem hfm; have := HK.out.m; omega
      generalize k[j] = f at *
      generalize fs[j] = q at *
      obtain ⟨ai, ci, e0⟩ := rg_slice d0
      obtain ⟨av, cv, e1⟩ := vp_slice d1
      rw [e0] at c0 d0
      rw [e1] at c1 d1
      have hCr : ∀ b o, C b o → b < wr.heap.size := fun b o h => by have := hC b o h; omega
      have hGr : GL C wr := HGL.out.mono (fun _ _ h => h) fun b o x hc hx => HKR.out.cell_some hx (by have := hC b o hc; show ¬ w.heap.size ≤ b; omega)
      have hdm : ∀ (x : Value) (p : PV), Dat C w x p → ∀ W, Below wr.heap.size wr W → Dat C W x p := fun x p h W hW => h.mono (fun _ _ h => h) fun b o x hc hx => (World.cell?_of_block (a := ⟨b, o, none⟩) (hW.block b (hCr b o hc))).trans (HKR.out.cell_some hx (by have := hC b o hc; show ¬ w.heap.size ≤ b; omega))
      have hGW : ∀ W, Below wr.heap.size wr W → GL C W := fun W hW => hGr.mono (fun _ _ h => h) fun b o x hc hx => (World.cell?_of_block (a := ⟨b, o, none⟩) (hW.block b (hCr b o hc))).trans hx
      have hcan : ∀ W, Below wr.heap.size wr W → Calls Try.prog 28 #[.slice av f.vec.length cv] W fun e w' => ∃ a c, e = .returned (.slice a (canVec f.vec).length c) ∧ Below W.heap.size W w' ∧ Dat (fun b o => C b o ∨ (W.heap.size ≤ b ∧ b < w'.heap.size)) w' (.slice a (canVec f.vec).length c) (vp (canVec f.vec)) := fun W hW => by
        refine (cn_w (D := C) (vcanon_c f.vec hfr.2 hsm.2.1 hsm.2.2) (hGW W hW) (fun b o h => Nat.lt_of_lt_of_le (hCr b o h) hW.size) rfl (fun i p hp => ?_)).mono ?_
        · match i, hp with
          | 0, hp => cases hp; exact hdm _ _ d1 W hW
          | i + 1, hp => simp at hp
        · rintro e w' ⟨v, rfl, hb, hd⟩
          obtain ⟨a, c, rfl⟩ := vp_slice hd
          exact ⟨a, c, rfl, hb, hd⟩
      have HCAN := Lib.hid hcan
      have HD0 := Lib.hid d0
      have HDM := Lib.hid hdm
      have HGW := Lib.hid hGW
      have HCR := Lib.hid hCr
      clear hcan d0 d1 hdm hGW hCr hGr hcel hfm hsm hfr e0 e1
      have tokA : True := trivial
      by_cases h1 : 0 < (canVec f.vec).length
      · by_cases h2 : 0 < f.items.length
        · go_wp2_with (first
            | (go_at_call 28; have _t := tokA; refine (HCAN.out _ ((Below.refl _ _).alloc (Nat.le_refl _) _)).mono ?_; rintro e w3 ⟨a3, n3, rfl, hb3, hd3⟩
               have hx3 : w3.heap[wr.heap.size]? = some (.cells #[.slice ai f.items.length ci, .slice av f.vec.length cv] 41 (0, 0)) := (hb3.block _ (by simp)).trans (World.alloc_heap_new wr _)
               have f0 := (cells_of hx3 0 _ rfl).1
               have HB3 := Lib.hid (((Below.refl _ wr).alloc (Nat.le_refl _) _).trans (hb3.mono (by simp)))
               have hs3 := hb3.size
               simp only [World.size_alloc] at hs3
               have HD3 := Lib.hid hd3
               clear hb3 hd3 hx3 tokA)
            | go_in)
          refine wp_callm (t := 27) (xs := [.tmp 31]) rfl rfl rfl rfl HEN.out ?_
          have hne : ¬ (canVec f.vec = [] ∨ f.items = []) := fun e => by
            rcases e with e | e
            · rw [e] at h1; simp at h1
            · rw [e] at h2; simp at h2
          have hsu := HOUT.out.owns
          refine (addG_calls (C := C) (base := w.heap.size + 2) (rb := w.heap.size) (v := u) (o := groupK (k.take j)) (f := ⟨f.items, canVec f.vec⟩) (va := .slice ai f.items.length ci) (vv := .slice a3 (canVec f.vec).length n3) (HAO.out hne) (HOUT.out.keep (by omega) fun b hb => HB3.out.block b hb) ((HB3.out.block _ hrw).trans HBX.out) (by omega) (by omega) hC (HGW.out _ HB3.out) ?_ ?_).mono ?_
          · exact (HDM.out _ _ HD0.out _ HB3.out).mono (fun b o h => ⟨.inl h, fun e => by have := (hsu b e).1; have := hC b o h; omega⟩) fun _ _ _ _ h => h
          · refine HD3.out.mono (fun b o h => ?_) fun _ _ _ _ h => h
            rcases h with h | h
            · exact ⟨.inl h, fun e => by have := (hsu b e).1; have := hC b o h; omega⟩
            · simp only [World.size_alloc] at h
              exact ⟨.inr ⟨by omega, h.2⟩, fun e => by have := (hsu b e).2; omega⟩
          rintro e w4 ⟨⟨u', rfl⟩, v', hbx4, hout4, hk4⟩
          have HBX4 := Lib.hid hbx4
          have HOUT4 := Lib.hid hout4
          have HK4 := Lib.hid hk4
          clear hbx4 hout4 hk4
          dsimp only
          go_wp2_with fail
          go_roundg (k.length - (j + 1))
          case measure => omega
          case rel =>
            refine ⟨j + 1, v', hlt, rfl, by simp, HBX4.out, ?_, (HKR.out.trans (Keep.of_below' HB3.out (Nat.le_refl _))).trans (HK4.out.mono fun b _ h => by omega)⟩
            rw [HGT.out, grp1, if_neg hne]
            exact HOUT4.out
        · have h0 : f.items = [] := by cases hf : f.items with | nil => rfl | cons a l => rw [hf] at h2; simp at h2
          have H0 := Lib.hid h0
          clear h0
          go_wp2_with (first
            | (go_at_call 28; have _t := tokA; refine (HCAN.out _ ((Below.refl _ _).alloc (Nat.le_refl _) _)).mono ?_; rintro e w3 ⟨a3, n3, rfl, hb3, hd3⟩
               have hx3 : w3.heap[wr.heap.size]? = some (.cells #[.slice ai f.items.length ci, .slice av f.vec.length cv] 41 (0, 0)) := (hb3.block _ (by simp)).trans (World.alloc_heap_new wr _)
               have f0 := (cells_of hx3 0 _ rfl).1
               have HB3 := Lib.hid (((Below.refl _ wr).alloc (Nat.le_refl _) _).trans (hb3.mono (by simp)))
               have hs3 := hb3.size
               simp only [World.size_alloc] at hs3
               clear hb3 hd3 hx3 tokA)
            | go_in)
          go_roundg (k.length - (j + 1))
          case measure => omega
          case rel =>
            refine ⟨j + 1, u, hlt, rfl, by simp, (HB3.out.block _ hrw).trans HBX.out, ?_, HKR.out.trans (Keep.of_below' HB3.out (Nat.le_refl _))⟩
            rw [HGT.out, grp1, if_pos (.inr H0.out)]
            exact HOUT.out.keep (by omega) fun b hb => HB3.out.block b hb
      · have h0 : canVec f.vec = [] := by cases hf : canVec f.vec with | nil => rfl | cons a l => rw [hf] at h1; simp at h1
        have H0 := Lib.hid h0
        clear h0
        go_wp2_with (first
          | (go_at_call 28; have _t := tokA; refine (HCAN.out _ ((Below.refl _ _).alloc (Nat.le_refl _) _)).mono ?_; rintro e w3 ⟨a3, n3, rfl, hb3, hd3⟩
             have HB3 := Lib.hid (((Below.refl _ wr).alloc (Nat.le_refl _) _).trans (hb3.mono (by simp)))
             have hs3 := hb3.size
             simp only [World.size_alloc] at hs3
             clear hb3 hd3 tokA)
          | go_in)
        go_roundg (k.length - (j + 1))
        case measure => omega
        case rel =>
          refine ⟨j + 1, u, hlt, rfl, by simp, (HB3.out.block _ hrw).trans HBX.out, ?_, HKR.out.trans (Keep.of_below' HB3.out (Nat.le_refl _))⟩
          rw [HGT.out, grp1, if_pos (.inl H0.out)]
          exact HOUT.out.keep (by omega) fun b hb => HB3.out.block b hb
    · obtain rfl : j = k.length := by omega
      go_wp2_with fail
      refine bodyPost_ret (results_tmp rfl _ _ _) rfl ?_
      have h := HOUT.out.dat (by omega)
      rw [List.take_length] at h
      exact ⟨_, rfl, HKR.out, h.mono (fun b o h => h.imp id fun h => ⟨by omega, h.2⟩) fun _ _ _ _ h => h⟩
theorem group_c {B : Nat → List Nat} {R : List Nat} {n : Nat} (k : List Fg) (hk : Kn B R n k) (ok : OkX B R) (hn : n ≤ 400000) : Cn Try.prog 16 [kp k] (kp (groupK k)) := by
 refine cn_memL rfl (enters_of Try.func16 (by kernel_rfl) rfl) fun D w vs hG hD hsz hd => ?_
 rw [arr1' hsz]
 refine (group_calls D k _ w hk ok hn (hd 0 _ rfl) hD hG).mono ?_
 rintro e w' ⟨v, rfl, hb, hv⟩
 exact ⟨v, rfl, hb.below (Nat.le_refl _) fun _ h h' => by omega, hv.mono (fun _ _ h => h.imp id fun h => ⟨Nat.le_of_lt h.1, h.2⟩) fun _ _ _ _ h => h⟩
end Go.Proofs.Ytjimggclhlnfbaa
namespace Go.Proofs.Ytjimggclhlnfbaa
set_option linter.unusedVariables false
set_option linter.unusedSimpArgs false
open Go.RowKit
set_option maxRecDepth 100000
attribute [-go_sem] nat_succ
theorem OutG.at {C : Nat → Nat → Prop} {mb base : Nat} {w : World} {ad : Option Addr} {cap : Nat} {o : List Fg} (h : OutG C mb base w (.slice ad o.length cap) o) {i : Nat} (hi : i < o.length) :
  ∃ g ai ci av cv cur, ad = some ⟨g, 0, none⟩ ∧ base ≤ g ∧ w.heap[g]? = some (.cells cur 41 (0, 0)) ∧ w.cell? ⟨g, i * 2, none⟩ = some (.slice ai o[i].items.length ci) ∧ w.cell? ⟨g, i * 2 + 1, none⟩ = some (.slice av o[i].vec.length cv) ∧
   Dat (DX C mb w (.slice ad o.length cap)) w (.slice ai o[i].items.length ci) (rg o[i].items) ∧ Dat (DX C mb w (.slice ad o.length cap)) w (.slice av o[i].vec.length cv) (vp o[i].vec) := by
 obtain ⟨xs, hxs, hel⟩ := h
 obtain ⟨a, b, ea, eb, da, db⟩ := hel i hi
 obtain ⟨g, cap', cur, ev, hgb, hgl, hgc, _⟩ := hxs.cases.resolve_left (fun h => by omega)
 obtain ⟨rfl, _, rfl⟩ : ad = some ⟨g, 0, none⟩ ∧ o.length = o.length ∧ cap = cap' := by simpa using ev
 have hc : ∀ j x, xs[j]? = some x → w.cell? ⟨g, j, none⟩ = some x := fun j x hx => by
  have := World.ownsRow.cells hxs.1 (g := g) rfl j x hx
  rw [add_none, Nat.zero_add] at this
  exact this
 obtain ⟨ai, ci, rfl⟩ := rg_slice da
 obtain ⟨av, cv, rfl⟩ := vp_slice db
 exact ⟨g, ai, ci, av, cv, cur, rfl, hgb, hgc, hc _ _ ea, hc _ _ eb, da, db⟩
end Go.Proofs.Ytjimggclhlnfbaa
namespace Go.Proofs.Ytjimggclhlnfbaa
set_option linter.unusedVariables false
set_option linter.unusedSimpArgs false
open Go.RowKit
set_option maxRecDepth 100000
attribute [-go_sem] nat_succ
end Go.Proofs.Ytjimggclhlnfbaa
namespace Go.Proofs.Ytjimggclhlnfbaa
set_option linter.unusedVariables false
set_option linter.unusedSimpArgs false
open Go.RowKit
set_option maxRecDepth 100000
theorem few12 : fewK k12 = true := by decide
set_option maxHeartbeats 2000000 in
theorem alive12_c : Cn Try.prog 5 [] (.v (.bool true)) := by
 have hk := Kn.few few12 r12
 have ok := okX_few few12 r12
 have h12 := hk.ok12 ok (by omega)
 have a1 := astarts_c k12 h12.r h12.z (by decide) h12.t
 have a2 := pieces_c k12 h12.r h12.z (by decide) h12.t
 rw [st12] at a1
 rw [pc12] at a2
 have a3 := refine_c k12 h12
 have a4 := group_c (refineK k12) (hk.refine ok) ok (by omega)
 have e1 := eqN_c [0, 1, 4, 6, 10] [0, 1, 4, 6, 10] (by decide)
 have e2 := same4_c [⟨1, 3⟩, ⟨4, 5⟩, ⟨6, 9⟩] [⟨1, 3⟩, ⟨4, 5⟩, ⟨6, 9⟩] (by decide)
 have l1 : (refineK k12).length = 3 := by rw [rf12]; rfl
 have l2 := gr12
 refine cn_go Try.func5 [] 0 (by kernel_rfl) rfl (by simp [go_sem, seval]) ?_
 conv => arg 4; cbv
 conv => enter [5, 1]; cbv
 try simp (maxSteps := 2000000) (disch := omega) only [go_sem, seval]
 try repeat ((with_reducible refine And.intro ?_ ?_); focus exact and_t)
 (first | refine callP.mk (a1) rfl ?_ | refine callQ.mk (a1) rfl ?_ | refine callO.rd (a1) rfl ?_ | refine callO.mk (a1) rfl ?_)
 try simp (maxSteps := 2000000) (disch := omega) only [go_sem, seval]
 try repeat ((with_reducible refine And.intro ?_ ?_); focus exact and_t)
 (first | refine callP.mk (e1) rfl ?_ | refine callQ.mk (e1) rfl ?_ | refine callO.rd (e1) rfl ?_ | refine callO.mk (e1) rfl ?_)
 try simp (maxSteps := 2000000) (disch := omega) only [go_sem, seval]
 try repeat ((with_reducible refine And.intro ?_ ?_); focus exact and_t)
 (first | refine callP.mk (a2) rfl ?_ | refine callQ.mk (a2) rfl ?_ | refine callO.rd (a2) rfl ?_ | refine callO.mk (a2) rfl ?_)
 try simp (maxSteps := 2000000) (disch := omega) only [go_sem, seval]
 try repeat ((with_reducible refine And.intro ?_ ?_); focus exact and_t)
 (first | refine callP.mk (e2) rfl ?_ | refine callQ.mk (e2) rfl ?_ | refine callO.rd (e2) rfl ?_ | refine callO.mk (e2) rfl ?_)
 try simp (maxSteps := 2000000) (disch := omega) only [go_sem, seval]
 try repeat ((with_reducible refine And.intro ?_ ?_); focus exact and_t)
 (first | refine callP.mk (a3) rfl ?_ | refine callQ.mk (a3) rfl ?_ | refine callO.rd (a3) rfl ?_ | refine callO.mk (a3) rfl ?_)
 try simp (maxSteps := 2000000) (disch := omega) only [go_sem, seval]
 try repeat ((with_reducible refine And.intro ?_ ?_); focus exact and_t)
 rw [l1]
 simp only [show (((3 : Nat) : Int) = 3) = True from eq_true rfl, decide_true]
 try simp (maxSteps := 2000000) (disch := omega) only [go_sem, seval]
 try repeat ((with_reducible refine And.intro ?_ ?_); focus exact and_t)
 (first | refine callP.mk (a3) rfl ?_ | refine callQ.mk (a3) rfl ?_ | refine callO.rd (a3) rfl ?_ | refine callO.mk (a3) rfl ?_)
 try simp (maxSteps := 2000000) (disch := omega) only [go_sem, seval]
 try repeat ((with_reducible refine And.intro ?_ ?_); focus exact and_t)
 (first | refine callP.mk (a4) rfl ?_ | refine callQ.mk (a4) rfl ?_ | refine callO.rd (a4) rfl ?_ | refine callO.mk (a4) rfl ?_)
 try simp (maxSteps := 2000000) (disch := omega) only [go_sem, seval]
 try repeat ((with_reducible refine And.intro ?_ ?_); focus exact and_t)
 rw [l2]
 simp
end Go.Proofs.Ytjimggclhlnfbaa
namespace Go.Proofs.Ytjimggclhlnfbaa
set_option linter.unusedVariables false
set_option linter.unusedSimpArgs false
open Go.RowKit
set_option maxRecDepth 100000
def right12 (k : List Fg) : Bool := fewK k && decide ((ckK k).1 = 0)
theorem right12_c (k : List Fg) (hb : BdK k) : Cn Try.prog 4 [kp k] (.v (.bool (right12 k))) := by
 unfold right12
 refine cn_go Try.func4 [] 1 (by kernel_rfl) rfl (by simp [go_sem, seval]) ?_
 conv => arg 4; cbv
 conv => enter [5, 1]; cbv
 try simp (maxSteps := 2000000) (disch := omega) only [go_sem, seval]
 try repeat ((with_reducible refine And.intro ?_ ?_); focus exact and_t)
 (first | refine callP.mk (kfew_c k hb) rfl ?_ | refine callQ.mk (kfew_c k hb) rfl ?_ | refine callO.rd (kfew_c k hb) rfl ?_ | refine callO.mk (kfew_c k hb) rfl ?_)
 try simp (maxSteps := 2000000) (disch := omega) only [go_sem, seval]
 try repeat ((with_reducible refine And.intro ?_ ?_); focus exact and_t)
 (first | refine brP.mk (fun h => ?_) (fun h => ?_) | refine gdP.mkt (fun h => ?_) (fun h => ?_) | refine gdP.mkf (fun h => ?_) (fun h => ?_) | refine pkP.mk (fun h => ?_) (fun h => ?_)) <;> (try simp only [Bool.not_true, Bool.not_false, nrm_l] at h) <;> (try simp (maxSteps := 2000000) (disch := omega) only [go_sem, seval]) <;> (try repeat ((with_reducible refine And.intro ?_ ?_); focus exact and_t))
 ·(first | refine callP.mk (kright_c k hb (fewK_g h)) rfl ?_ | refine callQ.mk (kright_c k hb (fewK_g h)) rfl ?_ | refine callO.rd (kright_c k hb (fewK_g h)) rfl ?_ | refine callO.mk (kright_c k hb (fewK_g h)) rfl ?_)
  try simp (maxSteps := 2000000) (disch := omega) only [go_sem, seval]
  try repeat ((with_reducible refine And.intro ?_ ?_); focus exact and_t)
  simp [h]
 ·simp [h]
structure Rt12 (k : List Fg) : Prop where
 f : fewK k = true
 r : RightK k
 kn : Kn (CK k) (RK k) 240 k
 ok : OkX (CK k) (RK k)
theorem right12_get {k : List Fg} (hb : BdK k) (h : right12 k = true) : Rt12 k := by
 unfold right12 at h
 rw [Bool.and_eq_true, decide_eq_true_eq] at h
 have hr := (ckK_iff hb).1 h.2
 exact ⟨h.1, hr, Kn.few h.1 hr, okX_few h.1 hr⟩
theorem Rt12.o {k : List Fg} (h : Rt12 k) : Ok12 (CK k) (RK k) k := h.kn.ok12 h.ok (by omega)
end Go.Proofs.Ytjimggclhlnfbaa
namespace Go.Proofs.Ytjimggclhlnfbaa
set_option linter.unusedVariables false
set_option linter.unusedSimpArgs false
open Go.RowKit
set_option maxRecDepth 100000
def inI (x : Nat) (s : Iv) : Bool := decide (s.lo ≤ x) && decide (x ≤ s.hi)
def cntI (l : List Iv) (x : Nat) : Nat := (l.filter (inI x)).length
theorem cntI_take {l : List Iv} {j : Nat} (x : Nat) (h : j < l.length) : cntI (l.take (j + 1)) x = cntI (l.take j) x + if inI x l[j] then 1 else 0 := by
 unfold cntI
 rw [List.take_succ_eq_append_getElem h, List.filter_append, List.length_append]
 congr 1
 by_cases hc : inI x l[j] = true
 ·simp [List.filter_cons, hc]
 ·simp [List.filter_cons, hc]
theorem cntI_one (x : Nat) : ∀ {l : List Iv}, l.Pairwise (fun s t => s.hi < t.lo) → cntI l x = if mem l x = true then 1 else 0
 | [], _ => by simp [cntI, mem]
 | s :: l, h => by
  have hp := List.pairwise_cons.1 h
  have ih := cntI_one x hp.2
  have e : cntI (s :: l) x = (if inI x s then 1 else 0) + cntI l x := by
   unfold cntI
   rw [List.filter_cons]
   split <;> simp [*] <;> omega
  rw [e, ih, mem_cons]
  by_cases h1 : inI x s = true
  ·have hn : mem l x = false := by
    cases hm : mem l x with
    | false => rfl
    | true =>
     obtain ⟨t, ht, h2, h3⟩ := mem_iff.1 hm
     have := hp.1 t ht
     unfold inI at h1
     simp at h1
     omega
   have h1' := h1
   unfold inI at h1'
   rw [h1, hn, h1']
   simp
  ·have h1' : inI x s = false := by simpa using h1
   unfold inI at h1'
   rw [if_neg h1, h1']
   simp
theorem cntI_le (l : List Iv) (x j : Nat) : cntI (l.take j) x ≤ j := Nat.le_trans (List.length_filter_le _ _) (List.length_take_le _ _)
theorem pieces_mem {k : List Fg} (h : RightK k) {x : Nat} (hx : x < M64) : mem (piecesK k) x = true ↔ 0 < (membK k x).length := by
 constructor
 ·intro hm
  obtain ⟨s, hs, h1, h2⟩ := mem_iff.1 hm
  obtain ⟨_, _, h3, h4⟩ := (pieces_spec h).1 s hs
  rw [← membK_same (cutsK_same h h3 h1 h2)]
  exact h4
 ·intro hm
  obtain ⟨s, hs, h1, h2⟩ := pieces_cover h hx hm
  exact mem_iff.2 ⟨s, hs, h1, h2⟩
theorem pieces_cnt {k : List Fg} (h : RightK k) {x : Nat} (hx : x < M64) : cntI (piecesK k) x = if 0 < (membK k x).length then 1 else 0 := by
 rw [cntI_one x (pieces_spec h).2]
 by_cases hm : 0 < (membK k x).length
 ·rw [if_pos hm, if_pos ((pieces_mem h hx).2 hm)]
 ·rw [if_neg hm, if_neg fun e => hm ((pieces_mem h hx).1 e)]
theorem inI_iff {x : Nat} {s : Iv} : inI x s = true ↔ s.lo ≤ x ∧ x ≤ s.hi := by simp [inI]
set_option maxHeartbeats 4000000 in
theorem atomsPieces_c (k : List Fg) (item : Nat) (hk : BdK k) (hi : item < M64) : Cn Try.prog 3 [kp k, .v (.int .u64 item)] (.v (.bool true)) := by
 refine cn_go Try.func3 [] 2 (by kernel_rfl) rfl (by simp [go_sem, seval]) ?_
 conv => arg 4; cbv
 conv => enter [5, 1]; cbv
 try simp (maxSteps := 2000000) (disch := omega) only [go_sem, seval]
 try repeat ((with_reducible refine And.intro ?_ ?_); focus exact and_t)
 (first | refine callP.mk (right12_c k hk) rfl ?_ | refine callQ.mk (right12_c k hk) rfl ?_ | refine callO.rd (right12_c k hk) rfl ?_ | refine callO.mk (right12_c k hk) rfl ?_)
 try simp (maxSteps := 2000000) (disch := omega) only [go_sem, seval]
 try repeat ((with_reducible refine And.intro ?_ ?_); focus exact and_t)
 (first | refine brP.mk (fun h => ?_) (fun h => ?_) | refine gdP.mkt (fun h => ?_) (fun h => ?_) | refine gdP.mkf (fun h => ?_) (fun h => ?_) | refine pkP.mk (fun h => ?_) (fun h => ?_)) <;> (try simp only [Bool.not_true, Bool.not_false, nrm_l] at h) <;> (try simp (maxSteps := 2000000) (disch := omega) only [go_sem, seval]) <;> (try repeat ((with_reducible refine And.intro ?_ ?_); focus exact and_t))
 ·(first | refine callP.mk (alive12_c) rfl ?_ | refine callQ.mk (alive12_c) rfl ?_ | refine callO.rd (alive12_c) rfl ?_ | refine callO.mk (alive12_c) rfl ?_)
  try simp (maxSteps := 2000000) (disch := omega) only [go_sem, seval]
  try repeat ((with_reducible refine And.intro ?_ ?_); focus exact and_t)
 ·have hR := right12_get hk h
  have ho := hR.o
  have hl : k.length ≤ 240 := hR.kn.l
  have hlp := pieces_len k
  have hci := CI_sum k
  have hm := hR.kn.m
  have hcnt := pieces_cnt hR.r hi
  have hmk := membK_len k
  have hc_ := pieces_c k ho.r ho.z (by omega) ho.t
  (first | refine callP.mk hc_ rfl ?_ | refine callQ.mk hc_ rfl ?_ | refine callO.rd hc_ rfl ?_ | refine callO.mk hc_ rfl ?_)
  clear hc_
  try simp (maxSteps := 2000000) (disch := omega) only [go_sem, seval]
  try repeat ((with_reducible refine And.intro ?_ ?_); focus exact and_t)
  refine pLoop.go (fun j => j ≤ (piecesK k).length) (fun j => [(5, .v (.int .i64 (cntI ((piecesK k).take j) item : Nat))), (17, .v (.int .i64 (j : Nat)))]) (fun _ => []) (fun j => (piecesK k).length - j) 0 [5, 17] ?_ ?_ ?_
  ·exact Nat.zero_le _
  ·try simp (maxSteps := 2000000) (disch := omega) only [go_sem, seval]
   try repeat ((with_reducible refine And.intro ?_ ?_); focus exact and_t)
   rfl
  ·rintro j hj
   try simp (maxSteps := 2000000) (disch := omega) only [go_sem, seval]
   try repeat ((with_reducible refine And.intro ?_ ?_); focus exact and_t)
   (first | refine brP.mk (fun h2 => ?_) (fun h2 => ?_) | refine gdP.mkt (fun h2 => ?_) (fun h2 => ?_) | refine gdP.mkf (fun h2 => ?_) (fun h2 => ?_) | refine pkP.mk (fun h2 => ?_) (fun h2 => ?_)) <;> (try simp only [Bool.not_true, Bool.not_false, nrm_l] at h2) <;> (try simp (maxSteps := 2000000) (disch := omega) only [go_sem, seval]) <;> (try repeat ((with_reducible refine And.intro ?_ ?_); focus exact and_t))
   ·have hst := cntI_take (l := piecesK k) item h2
    have hcl := cntI_le (piecesK k) item j
    obtain ⟨g1, g2, g3, g4⟩ := (pieces_spec hR.r).1 _ (List.getElem_mem h2)
    generalize (piecesK k)[j] = s at *
    have e1 := membK_same (cutsK_same hR.r g3 g1 (Nat.le_refl _))
    have hml := hmk s.lo
    have c1 := kmemb_c k s.lo ho.r ho.z (by omega)
    have c2 := kmemb_c k s.hi ho.r ho.z (by omega)
    rw [← e1] at c2
    have c3 := kmemb_c k item ho.r ho.z (by omega)
    have q := eqI_c (membK k s.lo) (membK k s.lo) (by omega)
    simp only [decide_true] at q
    have hz : ¬ (((membK k s.lo).length : Nat) : Int) = 0 := by omega
    have hz2 : ¬ membK k s.lo = [] := fun e => by rw [e] at g4; simp at g4
    (first | refine callP.mk (c1) rfl ?_ | refine callQ.mk (c1) rfl ?_ | refine callO.rd (c1) rfl ?_ | refine callO.mk (c1) rfl ?_)
    try simp (maxSteps := 2000000) (disch := omega) only [go_sem, seval]
    try repeat ((with_reducible refine And.intro ?_ ?_); focus exact and_t)
    (first | refine brP.mk (fun h3 => ?_) (fun h3 => ?_) | refine gdP.mkt (fun h3 => ?_) (fun h3 => ?_) | refine gdP.mkf (fun h3 => ?_) (fun h3 => ?_) | refine pkP.mk (fun h3 => ?_) (fun h3 => ?_)) <;> (try simp only [Bool.not_true, Bool.not_false, nrm_l] at h3) <;> (try simp (maxSteps := 2000000) (disch := omega) only [go_sem, seval]) <;> (try repeat ((with_reducible refine And.intro ?_ ?_); focus exact and_t))
    ·exact absurd h3 (by omega)
    ·simp only [hz, hz2, decide_false]
     try simp (maxSteps := 2000000) (disch := omega) only [go_sem, seval]
     try repeat ((with_reducible refine And.intro ?_ ?_); focus exact and_t)
     (first | refine callP.mk (c2) rfl ?_ | refine callQ.mk (c2) rfl ?_ | refine callO.rd (c2) rfl ?_ | refine callO.mk (c2) rfl ?_)
     try simp (maxSteps := 2000000) (disch := omega) only [go_sem, seval]
     try repeat ((with_reducible refine And.intro ?_ ?_); focus exact and_t)
     (first | refine callP.mk (q) rfl ?_ | refine callQ.mk (q) rfl ?_ | refine callO.rd (q) rfl ?_ | refine callO.mk (q) rfl ?_)
     try simp (maxSteps := 2000000) (disch := omega) only [go_sem, seval]
     try repeat ((with_reducible refine And.intro ?_ ?_); focus exact and_t)
     (first | refine brP.mk (fun h5 => ?_) (fun h5 => ?_) | refine gdP.mkt (fun h5 => ?_) (fun h5 => ?_) | refine gdP.mkf (fun h5 => ?_) (fun h5 => ?_) | refine pkP.mk (fun h5 => ?_) (fun h5 => ?_)) <;> (try simp only [Bool.not_true, Bool.not_false, nrm_l] at h5) <;> (try simp (maxSteps := 2000000) (disch := omega) only [go_sem, seval]) <;> (try repeat ((with_reducible refine And.intro ?_ ?_); focus exact and_t))
     ·(first | refine brP.mk (fun h6 => ?_) (fun h6 => ?_) | refine gdP.mkt (fun h6 => ?_) (fun h6 => ?_) | refine gdP.mkf (fun h6 => ?_) (fun h6 => ?_) | refine pkP.mk (fun h6 => ?_) (fun h6 => ?_)) <;> (try simp only [Bool.not_true, Bool.not_false, nrm_l] at h6) <;> (try simp (maxSteps := 2000000) (disch := omega) only [go_sem, seval]) <;> (try repeat ((with_reducible refine And.intro ?_ ?_); focus exact and_t))
      ·have e2 := membK_same (cutsK_same hR.r g3 h5 h6)
       rw [← e2] at c3
       rw [if_pos (inI_iff.2 ⟨h5, h6⟩)] at hst
       (first | refine callP.mk (c3) rfl ?_ | refine callQ.mk (c3) rfl ?_ | refine callO.rd (c3) rfl ?_ | refine callO.mk (c3) rfl ?_)
       try simp (maxSteps := 2000000) (disch := omega) only [go_sem, seval]
       try repeat ((with_reducible refine And.intro ?_ ?_); focus exact and_t)
       (first | refine callP.mk (q) rfl ?_ | refine callQ.mk (q) rfl ?_ | refine callO.rd (q) rfl ?_ | refine callO.mk (q) rfl ?_)
       try simp (maxSteps := 2000000) (disch := omega) only [go_sem, seval]
       try repeat ((with_reducible refine And.intro ?_ ?_); focus exact and_t)
       exact ⟨j + 1, h2, by omega, by (rw [hst]; try simp), rfl⟩
      ·rw [if_neg fun e => absurd (inI_iff.1 e).2 (by omega)] at hst
       exact ⟨j + 1, h2, by omega, by (rw [hst]; try simp), rfl⟩
     ·rw [if_neg fun e => absurd (inI_iff.1 e).1 (by omega)] at hst
      exact ⟨j + 1, h2, by omega, by (rw [hst]; try simp), rfl⟩
   ·have hcnt' : cntI ((piecesK k).take j) item = if 0 < (membK k item).length then 1 else 0 := by
     rw [List.take_of_length_le h2]; exact hcnt
    have hc_ := refKMemb_c k item ho.z (by omega)
    (first | refine callP.mk hc_ rfl ?_ | refine callQ.mk hc_ rfl ?_ | refine callO.rd hc_ rfl ?_ | refine callO.mk hc_ rfl ?_)
    clear hc_
    try simp (maxSteps := 2000000) (disch := omega) only [go_sem, seval]
    try repeat ((with_reducible refine And.intro ?_ ?_); focus exact and_t)
    (first | refine brP.mk (fun h7 => ?_) (fun h7 => ?_) | refine gdP.mkt (fun h7 => ?_) (fun h7 => ?_) | refine gdP.mkf (fun h7 => ?_) (fun h7 => ?_) | refine pkP.mk (fun h7 => ?_) (fun h7 => ?_)) <;> (try simp only [Bool.not_true, Bool.not_false, nrm_l] at h7) <;> (try simp (maxSteps := 2000000) (disch := omega) only [go_sem, seval]) <;> (try repeat ((with_reducible refine And.intro ?_ ?_); focus exact and_t))
    ·rw [if_pos h7] at hcnt'
     (first | refine callP.mk (alive12_c) rfl ?_ | refine callQ.mk (alive12_c) rfl ?_ | refine callO.rd (alive12_c) rfl ?_ | refine callO.mk (alive12_c) rfl ?_)
     try simp (maxSteps := 2000000) (disch := omega) only [go_sem, seval]
     try repeat ((with_reducible refine And.intro ?_ ?_); focus exact and_t)
     rw [hcnt']
     try simp
    ·rw [if_neg (by omega)] at hcnt'
     (first | refine callP.mk (alive12_c) rfl ?_ | refine callQ.mk (alive12_c) rfl ?_ | refine callO.rd (alive12_c) rfl ?_ | refine callO.mk (alive12_c) rfl ?_)
     try simp (maxSteps := 2000000) (disch := omega) only [go_sem, seval]
     try repeat ((with_reducible refine And.intro ?_ ?_); focus exact and_t)
     rw [hcnt']
     try simp
end Go.Proofs.Ytjimggclhlnfbaa
