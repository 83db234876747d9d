/- Texts of this claim, bound together: Rm T22 T23. -/
import Derived.Test.YtcedofkenfddkaaB11
/- word.Width and word.Plus over memory. -/
namespace Go.Proofs.Ytcedofkenfddkaa
set_option linter.unusedVariables false
set_option linter.unusedSimpArgs false
open Go.RowKit
set_option maxRecDepth 100000
theorem dat_cw {D : Nat → Nat → Prop} {w : World} {x : Value} {n : Nat} (h : Dat D w x (cw n)) : x = cwV n := by
  have h' : Dat D w x (.agg [.v (.int .u64 (n / M64 : Nat)), .v (.int .u64 (n % M64 : Nat))]) := h
  cases h' with
  | agg vs cs hs _ h =>
    obtain ⟨l⟩ := vs
    match l, hs with
    | [p, q], _ =>
      have e0 := (h 0 _ rfl).v_inv
      have e1 := (h 1 _ rfl).v_inv
      simp at e0 e1
      rw [e0, e1]
      rfl
theorem cw_dat {D : Nat → Nat → Prop} {w : World} {n : Nat} : Dat D w (cwV n) (cw n) := by
  show Dat D w (.agg #[.int .u64 (n / M64 : Nat), .int .u64 (n % M64 : Nat)]) (.agg [.v (.int .u64 (n / M64 : Nat)), .v (.int .u64 (n % M64 : Nat))])
  refine .agg _ _ rfl (fun i hi => ?_) fun i p hp => ?_
  · match i, hi with
    | 0, _ => rfl
    | 1, _ => rfl
  · match i, hp with
    | 0, hp => cases hp; exact .v _
    | 1, hp => cases hp; exact .v _
    | i + 2, hp => simp at hp
theorem width_w {C : Nat → Nat → Prop} {w : World} (hC : ∀ b o, C b o → b < w.heap.size) (hG : GL C w) {lo hi : Nat} (h1 : lo ≤ hi) (h2 : hi < M64) :
    Calls Try.prog 107 #[.int .u64 (lo : Nat), .int .u64 (hi : Nat)] w fun e w' => e = .returned (cwV (hi - lo + 1)) ∧ Below w.heap.size w w' := by
  refine (cn_w (width_c lo hi h1 h2) hG hC rfl (fun i p hp => ?_)).mono ?_
  · match i, hp with
    | 0, hp => cases hp; exact .v _
    | 1, hp => cases hp; exact .v _
    | i + 2, hp => simp at hp
  · rintro e w' ⟨v, rfl, hb, hd⟩
    exact ⟨by rw [dat_cw hd], hb⟩
theorem plus_w {C : Nat → Nat → Prop} {w : World} (hC : ∀ b o, C b o → b < w.heap.size) (hG : GL C w) {m n : Nat} (hm : m < M64 * M64 / 4) (hn : n < M64 * M64 / 4) :
    Calls Try.prog 58 #[cwV m, cwV n] w fun e w' => e = .returned (cwV (m + n)) ∧ Below w.heap.size w w' := by
  refine (cn_w (plus_c m n hm hn) hG hC rfl (fun i p hp => ?_)).mono ?_
  · match i, hp with
    | 0, hp => cases hp; exact cw_dat
    | 1, hp => cases hp; exact cw_dat
    | i + 2, hp => simp at hp
  · rintro e w' ⟨v, rfl, hb, hd⟩
    exact ⟨by rw [dat_cw hd], hb⟩
end Go.Proofs.Ytcedofkenfddkaa
/- The contracts of lattice (Count, Add), measure.Count, kenningref10, kenningref06.Below. -/
namespace Go.Proofs.Ytcedofkenfddkaa
set_option linter.unusedVariables false
set_option linter.unusedSimpArgs false
open Go.RowKit
set_option maxRecDepth 100000
theorem widthOk (C : Nat → Nat → Prop) : WidthOk C := fun _ _ _ hC hG h1 h2 => width_w hC hG h1 h2
theorem plusOk (C : Nat → Nat → Prop) : PlusOk C := fun _ _ _ hC hG h1 h2 => plus_w hC hG h1 h2
theorem Nrm.ivs {l : List Iv} (h : Nrm l) : ∀ t ∈ l, t.lo ≤ t.hi ∧ t.hi < M64 := fun t ht => (NF.lo_ge h t ht).2
theorem mcount_c (l : List Iv) (hn : Nrm l) (hl : l.length ≤ 1073741824) : Cn Try.prog 90 [rg l] (cw (card l)) := by
  refine cn_memL rfl (enters_of Try.func90 (by kernel_rfl) rfl) fun D w vs hG hD hsz hd => ?_
  rw [arr1' hsz]
  refine (mcount_calls D l _ w hn.ivs hl (dat_rdr (hd 0 _ rfl) hD hn.lt) hD hG (widthOk D) (plusOk D)).mono ?_
  rintro e w' ⟨rfl, hb⟩
  exact ⟨_, rfl, hb, cw_dat⟩
theorem cardV_lt {v : List En} (h : RightV v) : cardV v ≤ v.length * M64 := by
  have h1 := h.1
  clear h
  induction v with
  | nil => simp [cardV]
  | cons e v ih =>
    have h2 := card_le (kn_nrm (h1 e (by simp)))
    have h3 := ih fun f hf => h1 f (by simp [hf])
    rw [cardV, List.length_cons, Nat.succ_mul]
    omega
theorem RightV.take {v : List En} (h : RightV v) (k : Nat) : RightV (v.take k) := ⟨fun e he => h.1 e (List.mem_of_mem_take he), h.2.sublist (List.take_sublist _ _)⟩
theorem cardV_sm {v : List En} (h : SmV v) (k : Nat) : cardV (v.take k) < M64 * M64 / 4 := by
  have h1 := cardV_lt (h.1.take k)
  have h2 : (v.take k).length ≤ 1048576 := Nat.le_trans (List.length_take_le' _ _) h.2.1
  have h3 : (v.take k).length * M64 ≤ 1048576 * M64 := Nat.mul_le_mul_right _ h2
  simp only [M64_val] at *
  omega
theorem card_q {l : List Iv} (h : Nrm l) : card l < M64 * M64 / 4 := by
  have := card_le h
  simp only [M64_val] at *
  omega
theorem lcount_c (v : List En) (hv : SmV v) : Cn Try.prog 59 [vp v] (cw (cardV v)) := by
  have hl := hv.2.1
  refine cn_go Try.func59 [] 1 (by kernel_rfl) rfl (by simp [go_sem, seval]) ?_
  conv => arg 4; cbv
  conv => enter [5, 1]; cbv
  try simp (maxSteps := 2000000) (disch := omega) only [go_sem, seval]
  try repeat ((with_reducible refine And.intro ?_ ?_); focus (first | omega | assumption | exact True.intro | (show anyD _ _ = true; exact rfl) | (simp only [List.length_map, List.length_append, List.length_cons, List.length_nil, List.length_take, List.length_drop]; omega)))
  refine pLoop.go (fun k => k ≤ v.length) (fun k => [(8, .v (.int .i64 (k : Nat)))]) (fun k => [[.v (.int .u64 0), .v (.int .u64 0)], [.v (.int .u64 (cardV (v.take k) / M64 : Nat)), .v (.int .u64 (cardV (v.take k) % M64 : Nat))]]) (fun k => v.length - k) 0 [8] ?_ ?_ ?_
  · exact Nat.zero_le _
  · simp only [List.take_zero, cardV, Nat.zero_div, Nat.zero_mod]
    try simp (maxSteps := 2000000) (disch := omega) only [go_sem, seval]
    try repeat ((with_reducible refine And.intro ?_ ?_); focus (first | omega | assumption | exact True.intro | (show anyD _ _ = true; exact rfl) | (simp only [List.length_map, List.length_append, List.length_cons, List.length_nil, List.length_take, List.length_drop]; omega)))
  · rintro k hk
    try simp (maxSteps := 2000000) (disch := omega) only [go_sem, seval]
    try repeat ((with_reducible refine And.intro ?_ ?_); focus (first | omega | assumption | exact True.intro | (show anyD _ _ = true; exact rfl) | (simp only [List.length_map, List.length_append, List.length_cons, List.length_nil, List.length_take, List.length_drop]; omega)))
    (first | refine brP.mk (fun h => ?_) (fun h => ?_) | refine gdP.mkt (fun h => ?_) (fun h => ?_) | refine gdP.mkf (fun h => ?_) (fun h => ?_) | refine pkP.mk (fun h => ?_) (fun h => ?_)) <;> (try simp only [Bool.not_true, Bool.not_false, decide_eq_true_eq, decide_eq_false_iff_not, Bool.and_eq_true, Bool.or_eq_true, Bool.not_eq_true', Bool.not_eq_false', Bool.and_eq_false_iff, Bool.or_eq_false_iff, Nat.not_lt, Int.not_lt, Nat.not_le, Int.not_le, Int.ofNat_lt, Int.ofNat_le, Int.ofNat_inj, Bool.xor_false, Bool.false_xor, Bool.true_xor, Bool.xor_true] at h) <;> (try simp (maxSteps := 2000000) (disch := omega) only [go_sem, seval]) <;> (try repeat ((with_reducible refine And.intro ?_ ?_); focus (first | omega | assumption | exact True.intro | (show anyD _ _ = true; exact rfl) | (simp only [List.length_map, List.length_append, List.length_cons, List.length_nil, List.length_take, List.length_drop]; omega))))
    · have hh := hv.2.2 _ (List.getElem_mem h)
      have hr := hv.1.1 _ (List.getElem_mem h)
      have l1 := kn_length v[k]
      (first | refine callP.mk (eknown_c v[k] hr (by omega)) rfl ?_ | refine callQ.mk (eknown_c v[k] hr (by omega)) rfl ?_ | refine callO.rd (eknown_c v[k] hr (by omega)) rfl ?_ | refine callO.mk (eknown_c v[k] hr (by omega)) rfl ?_)
      try simp (maxSteps := 2000000) (disch := omega) only [go_sem, seval]
      try repeat ((with_reducible refine And.intro ?_ ?_); focus (first | omega | assumption | exact True.intro | (show anyD _ _ = true; exact rfl) | (simp only [List.length_map, List.length_append, List.length_cons, List.length_nil, List.length_take, List.length_drop]; omega)))
      (first | refine callP.mk (mcount_c (kn v[k]) (kn_nrm hr) (by omega)) rfl ?_ | refine callQ.mk (mcount_c (kn v[k]) (kn_nrm hr) (by omega)) rfl ?_ | refine callO.rd (mcount_c (kn v[k]) (kn_nrm hr) (by omega)) rfl ?_ | refine callO.mk (mcount_c (kn v[k]) (kn_nrm hr) (by omega)) rfl ?_)
      try simp (maxSteps := 2000000) (disch := omega) only [go_sem, seval]
      try repeat ((with_reducible refine And.intro ?_ ?_); focus (first | omega | assumption | exact True.intro | (show anyD _ _ = true; exact rfl) | (simp only [List.length_map, List.length_append, List.length_cons, List.length_nil, List.length_take, List.length_drop]; omega)))
      (first | refine callP.mk (plus_c (cardV (v.take k)) (card (kn v[k])) (cardV_sm hv k) (card_q (kn_nrm hr))) rfl ?_ | refine callQ.mk (plus_c (cardV (v.take k)) (card (kn v[k])) (cardV_sm hv k) (card_q (kn_nrm hr))) rfl ?_ | refine callO.rd (plus_c (cardV (v.take k)) (card (kn v[k])) (cardV_sm hv k) (card_q (kn_nrm hr))) rfl ?_ | refine callO.mk (plus_c (cardV (v.take k)) (card (kn v[k])) (cardV_sm hv k) (card_q (kn_nrm hr))) rfl ?_)
      try simp (maxSteps := 2000000) (disch := omega) only [go_sem, seval]
      try repeat ((with_reducible refine And.intro ?_ ?_); focus (first | omega | assumption | exact True.intro | (show anyD _ _ = true; exact rfl) | (simp only [List.length_map, List.length_append, List.length_cons, List.length_nil, List.length_take, List.length_drop]; omega)))
      exact ⟨k + 1, h, by omega, rfl, by rw [cardV_take h], by rw [cardV_take h]⟩
    · rw [show k = v.length by omega, List.take_length]
theorem oneV_sm {r c : Nat} (hr : r < M64) (hc : c < M64) : SmV (oneV r c) := by
  have h := oneV_bv hr hc
  exact ⟨h.1, by have := h.2.1; omega, fun e he => by have := h.2.2 e he; omega⟩
theorem lAdd_c (v : List En) (r c : Nat) (hv : SmV v) (hr : r < M64) (hc : c < M64) : Cn Try.prog 62 [vp v, .v (.int .u64 r), .v (.int .u64 c)] (vp (lat fUnion v (oneV r c))) := by
  have h := lUnion_c v (oneV r c) hv (oneV_sm hr hc)
  refine cn_go Try.func62 [] 3 (by kernel_rfl) rfl (by simp [go_sem, seval]) ?_
  conv => arg 4; cbv
  conv => enter [5, 1]; cbv
  try simp (maxSteps := 2000000) (disch := omega) only [go_sem, seval]
  try repeat ((with_reducible refine And.intro ?_ ?_); focus (first | omega | assumption | exact True.intro | (show anyD _ _ = true; exact rfl) | (simp only [List.length_map, List.length_append, List.length_cons, List.length_nil, List.length_take, List.length_drop]; omega)))
  (first | refine callP.mk (eof_c r [⟨c, c⟩] (oneC_nrm hc) (by simp)) rfl ?_ | refine callQ.mk (eof_c r [⟨c, c⟩] (oneC_nrm hc) (by simp)) rfl ?_ | refine callO.rd (eof_c r [⟨c, c⟩] (oneC_nrm hc) (by simp)) rfl ?_ | refine callO.mk (eof_c r [⟨c, c⟩] (oneC_nrm hc) (by simp)) rfl ?_)
  try simp (maxSteps := 2000000) (disch := omega) only [go_sem, seval]
  try repeat ((with_reducible refine And.intro ?_ ?_); focus (first | omega | assumption | exact True.intro | (show anyD _ _ = true; exact rfl) | (simp only [List.length_map, List.length_append, List.length_cons, List.length_nil, List.length_take, List.length_drop]; omega)))
  (first | refine callP.mk (h) rfl ?_ | refine callQ.mk (h) rfl ?_ | refine callO.rd (h) rfl ?_ | refine callO.mk (h) rfl ?_)
  try simp (maxSteps := 2000000) (disch := omega) only [go_sem, seval]
  try repeat ((with_reducible refine And.intro ?_ ?_); focus (first | omega | assumption | exact True.intro | (show anyD _ _ = true; exact rfl) | (simp only [List.length_map, List.length_append, List.length_cons, List.length_nil, List.length_take, List.length_drop]; omega)))
/-- Vectors that are handed over together. -/
def vps (vs : List (List En)) : PV := .sl (vs.map fun v => [vp v]) .sh
attribute [go_sem] vps
def okV (v : List En) : Bool := fewB v && decide ((chkV v).1 = 0)
theorem all_drop {α : Type} {p : α → Bool} {l : List α} {k : Nat} (h : k < l.length) : (l.drop k).all p = (p l[k] && (l.drop (k + 1)).all p) := by
  rw [List.drop_eq_getElem_cons h]; rfl
theorem right10_c (ls : List (List En)) (h1 : ls.length ≤ 1048576) (hb : ∀ v ∈ ls, BdV v) : Cn Try.prog 49 [vps ls] (.v (.bool (ls.all okV))) := by
  refine cn_go Try.func49 [] 1 (by kernel_rfl) rfl (by simp [go_sem, seval]) ?_
  conv => arg 4; cbv
  conv => enter [5, 1]; cbv
  try simp (maxSteps := 2000000) (disch := omega) only [go_sem, seval]
  try repeat ((with_reducible refine And.intro ?_ ?_); focus (first | omega | assumption | exact True.intro | (show anyD _ _ = true; exact rfl) | (simp only [List.length_map, List.length_append, List.length_cons, List.length_nil, List.length_take, List.length_drop]; omega)))
  refine pLoop.go (fun k => k ≤ ls.length ∧ ls.all okV = (ls.drop k).all okV) (fun k => [(7, .v (.int .i64 (k : Nat)))]) (fun _ => []) (fun k => ls.length - k) 0 [7] ?_ ?_ ?_
  · exact ⟨Nat.zero_le _, rfl⟩
  · try simp (maxSteps := 2000000) (disch := omega) only [go_sem, seval]
    try repeat ((with_reducible refine And.intro ?_ ?_); focus (first | omega | assumption | exact True.intro | (show anyD _ _ = true; exact rfl) | (simp only [List.length_map, List.length_append, List.length_cons, List.length_nil, List.length_take, List.length_drop]; omega)))
  · rintro k ⟨hk, hm⟩
    try simp (maxSteps := 2000000) (disch := omega) only [go_sem, seval]
    try repeat ((with_reducible refine And.intro ?_ ?_); focus (first | omega | assumption | exact True.intro | (show anyD _ _ = true; exact rfl) | (simp only [List.length_map, List.length_append, List.length_cons, List.length_nil, List.length_take, List.length_drop]; omega)))
    (first | refine brP.mk (fun h => ?_) (fun h => ?_) | refine gdP.mkt (fun h => ?_) (fun h => ?_) | refine gdP.mkf (fun h => ?_) (fun h => ?_) | refine pkP.mk (fun h => ?_) (fun h => ?_)) <;> (try simp only [Bool.not_true, Bool.not_false, decide_eq_true_eq, decide_eq_false_iff_not, Bool.and_eq_true, Bool.or_eq_true, Bool.not_eq_true', Bool.not_eq_false', Bool.and_eq_false_iff, Bool.or_eq_false_iff, Nat.not_lt, Int.not_lt, Nat.not_le, Int.not_le, Int.ofNat_lt, Int.ofNat_le, Int.ofNat_inj, Bool.xor_false, Bool.false_xor, Bool.true_xor, Bool.xor_true] at h) <;> (try simp (maxSteps := 2000000) (disch := omega) only [go_sem, seval]) <;> (try repeat ((with_reducible refine And.intro ?_ ?_); focus (first | omega | assumption | exact True.intro | (show anyD _ _ = true; exact rfl) | (simp only [List.length_map, List.length_append, List.length_cons, List.length_nil, List.length_take, List.length_drop]; omega))))
    · rw [all_drop h] at hm
      have hbk := hb _ (List.getElem_mem h)
      (first | refine callP.mk (few_c ls[k] hbk.2) rfl ?_ | refine callQ.mk (few_c ls[k] hbk.2) rfl ?_ | refine callO.rd (few_c ls[k] hbk.2) rfl ?_ | refine callO.mk (few_c ls[k] hbk.2) rfl ?_)
      try simp (maxSteps := 2000000) (disch := omega) only [go_sem, seval]
      try repeat ((with_reducible refine And.intro ?_ ?_); focus (first | omega | assumption | exact True.intro | (show anyD _ _ = true; exact rfl) | (simp only [List.length_map, List.length_append, List.length_cons, List.length_nil, List.length_take, List.length_drop]; omega)))
      (first | refine brP.mk (fun h2 => ?_) (fun h2 => ?_) | refine gdP.mkt (fun h2 => ?_) (fun h2 => ?_) | refine gdP.mkf (fun h2 => ?_) (fun h2 => ?_) | refine pkP.mk (fun h2 => ?_) (fun h2 => ?_)) <;> (try simp only [Bool.not_true, Bool.not_false, decide_eq_true_eq, decide_eq_false_iff_not, Bool.and_eq_true, Bool.or_eq_true, Bool.not_eq_true', Bool.not_eq_false', Bool.and_eq_false_iff, Bool.or_eq_false_iff, Nat.not_lt, Int.not_lt, Nat.not_le, Int.not_le, Int.ofNat_lt, Int.ofNat_le, Int.ofNat_inj, Bool.xor_false, Bool.false_xor, Bool.true_xor, Bool.xor_true] at h2) <;> (try simp (maxSteps := 2000000) (disch := omega) only [go_sem, seval]) <;> (try repeat ((with_reducible refine And.intro ?_ ?_); focus (first | omega | assumption | exact True.intro | (show anyD _ _ = true; exact rfl) | (simp only [List.length_map, List.length_append, List.length_cons, List.length_nil, List.length_take, List.length_drop]; omega))))
      · rw [hm]
        simp [okV, h2]
      · obtain ⟨hl, hh⟩ := few_bd h2
        (first | refine callP.mk (rightV_c ls[k] hbk.1 hl hh) rfl ?_ | refine callQ.mk (rightV_c ls[k] hbk.1 hl hh) rfl ?_ | refine callO.rd (rightV_c ls[k] hbk.1 hl hh) rfl ?_ | refine callO.mk (rightV_c ls[k] hbk.1 hl hh) rfl ?_)
        try simp (maxSteps := 2000000) (disch := omega) only [go_sem, seval]
        try repeat ((with_reducible refine And.intro ?_ ?_); focus (first | omega | assumption | exact True.intro | (show anyD _ _ = true; exact rfl) | (simp only [List.length_map, List.length_append, List.length_cons, List.length_nil, List.length_take, List.length_drop]; omega)))
        (first | refine brP.mk (fun h3 => ?_) (fun h3 => ?_) | refine gdP.mkt (fun h3 => ?_) (fun h3 => ?_) | refine gdP.mkf (fun h3 => ?_) (fun h3 => ?_) | refine pkP.mk (fun h3 => ?_) (fun h3 => ?_)) <;> (try simp only [Bool.not_true, Bool.not_false, decide_eq_true_eq, decide_eq_false_iff_not, Bool.and_eq_true, Bool.or_eq_true, Bool.not_eq_true', Bool.not_eq_false', Bool.and_eq_false_iff, Bool.or_eq_false_iff, Nat.not_lt, Int.not_lt, Nat.not_le, Int.not_le, Int.ofNat_lt, Int.ofNat_le, Int.ofNat_inj, Bool.xor_false, Bool.false_xor, Bool.true_xor, Bool.xor_true] at h3) <;> (try simp (maxSteps := 2000000) (disch := omega) only [go_sem, seval]) <;> (try repeat ((with_reducible refine And.intro ?_ ?_); focus (first | omega | assumption | exact True.intro | (show anyD _ _ = true; exact rfl) | (simp only [List.length_map, List.length_append, List.length_cons, List.length_nil, List.length_take, List.length_drop]; omega))))
        · rw [hm]
          simp [okV, h3]
        · refine ⟨k + 1, ⟨h, ?_⟩, by omega, rfl⟩
          rw [hm]
          simp [okV, h2, h3]
    · rw [List.drop_of_length_le (by omega)] at hm
      rw [hm]
      rfl
end Go.Proofs.Ytcedofkenfddkaa
/- The laws of chapter 10: they return true. -/
namespace Go.Proofs.Ytcedofkenfddkaa
set_option linter.unusedVariables false
set_option linter.unusedSimpArgs false
open Go.RowKit
set_option maxRecDepth 100000
theorem opS_r0 {x : List Iv} (hx : Nrm x) : opS fUnion x [] = x := opS_eq hx trivial hx fun t _ => by simp [fUnion]
theorem opS_0u {x : List Iv} (hx : Nrm x) : opS fUnion [] x = x := opS_eq (a := []) trivial hx hx fun t _ => by simp [fUnion]
theorem opS_m0 {x : List Iv} (hx : Nrm x) : opS fMeet x [] = [] := opS_eq hx trivial trivial fun t _ => by simp [fMeet]
theorem opS_0m {x : List Iv} (hx : Nrm x) : opS fMeet [] x = [] := opS_eq (a := []) trivial hx trivial fun t _ => by simp [fMeet]
theorem opS_d0 {x : List Iv} (hx : Nrm x) : opS fMinus x [] = x := opS_eq hx trivial hx fun t _ => by simp [fMinus]
theorem opS_dd {x : List Iv} (hx : Nrm x) : opS fMinus x x = [] := opS_eq hx hx trivial fun t _ => by simp [fMinus]
theorem kn0 (r m : Nat) (hm : m < M64) : kn ⟨r, m, []⟩ = [⟨0, m⟩] := opS_d0 (nrm_one (Nat.zero_le _) hm)
def a10 : List En := [⟨1, 4, []⟩]
def b10 : List En := [⟨2, 3, []⟩]
def u10 : List En := [⟨1, 4, []⟩, ⟨2, 3, []⟩]
def c10 : List En := [⟨3, 0, []⟩]
theorem a10_can : CanV a10 := ⟨by simp [a10, CanE, RightE, M64_val, Nrm, NF], by simp [a10]⟩
theorem b10_can : CanV b10 := ⟨by simp [b10, CanE, RightE, M64_val, Nrm, NF], by simp [b10]⟩
theorem u10_can : CanV u10 := ⟨by simp [u10, CanE, RightE, M64_val, Nrm, NF], by simp [u10]⟩
theorem c10_can : CanV c10 := ⟨by simp [c10, CanE, RightE, M64_val, Nrm, NF], by simp [c10]⟩
theorem n04 : Nrm [⟨0, 4⟩] := nrm_one (Nat.zero_le _) (by rw [M64_val]; omega)
theorem n03 : Nrm [⟨0, 3⟩] := nrm_one (Nat.zero_le _) (by rw [M64_val]; omega)
theorem kn1 (r : Nat) : kn ⟨r, 4, []⟩ = [⟨0, 4⟩] := kn0 _ _ (by rw [M64_val]; omega)
theorem kn2 (r : Nat) : kn ⟨r, 3, []⟩ = [⟨0, 3⟩] := kn0 _ _ (by rw [M64_val]; omega)
theorem kva (r : Nat) : knV a10 r = if 1 = r then [⟨0, 4⟩] else [] := by simp only [a10, knV_cons, kn1, knV_nil]
theorem kvb (r : Nat) : knV b10 r = if 2 = r then [⟨0, 3⟩] else [] := by simp only [b10, knV_cons, kn2, knV_nil]
theorem kvu (r : Nat) : knV u10 r = if 1 = r then [⟨0, 4⟩] else if 2 = r then [⟨0, 3⟩] else [] := by simp only [u10, knV_cons, kn1, kn2, knV_nil]
theorem l10u : lat fUnion a10 b10 = u10 := lat_eq fU0 a10_can.right b10_can.right u10_can fun r => by
  rw [kva, kvb, kvu]
  by_cases h1 : 1 = r
  · rw [if_pos h1, if_pos h1, if_neg (by omega), opS_r0 n04]
  · rw [if_neg h1, if_neg h1]
    by_cases h2 : 2 = r
    · rw [if_pos h2, opS_0u n03]
    · rw [if_neg h2, opS_none fU0]
theorem l10m : lat fMeet a10 b10 = [] := lat_eq fI0 a10_can.right b10_can.right ⟨fun e h => (by cases h), List.Pairwise.nil⟩ fun r => by
  rw [kva, kvb, knV_nil]
  by_cases h1 : 1 = r
  · rw [if_pos h1, if_neg (by omega), opS_m0 n04]
  · rw [if_neg h1]
    by_cases h2 : 2 = r
    · rw [if_pos h2, opS_0m n03]
    · rw [if_neg h2, opS_none fI0]
theorem l10d : lat fMinus u10 a10 = b10 := lat_eq fM0 u10_can.right a10_can.right b10_can fun r => by
  rw [kva, kvb, kvu]
  by_cases h1 : 1 = r
  · rw [if_pos h1, if_pos h1, if_neg (by omega), opS_dd n04]
  · rw [if_neg h1, if_neg h1]
    by_cases h2 : 2 = r
    · rw [if_pos h2, opS_d0 n03]
    · rw [if_neg h2, opS_none fM0]
theorem l10s : lat fMinus a10 u10 = [] := by rw [← l10u]; exact sub_union a10_can.right b10_can.right
theorem one30 : oneV 3 0 = c10 := by
  have h := opS_dd (x := [⟨0, 0⟩]) (nrm_one (Nat.zero_le _) M64_pos)
  unfold oneV
  rw [ofS_cons (by simp), show top [⟨0, 0⟩] = 0 from rfl, h]
  rfl
theorem nil_can : CanV [] := ⟨fun e h => (by cases h), List.Pairwise.nil⟩
theorem l10c : lat fUnion [] (oneV 3 0) = c10 := by
  rw [one30]
  exact lat_eq fU0 nil_can.right c10_can.right c10_can fun r => by rw [knV_nil, opS_0u (knV_nrm c10_can.right r)]
theorem nil_sm : SmV [] := ⟨nil_can.right, by simp, by simp⟩
theorem sm_of {v : List En} (h : CanV v) (h1 : v.length ≤ 1048576) (h2 : ∀ e ∈ v, e.holes.length ≤ 10000) : SmV v := ⟨h.right, h1, h2⟩
theorem a10_sm : SmV a10 := sm_of a10_can (by decide) (by simp [a10])
theorem b10_sm : SmV b10 := sm_of b10_can (by decide) (by simp [b10])
theorem u10_sm : SmV u10 := sm_of u10_can (by decide) (by simp [u10])
theorem card10 : cardV u10 = 9 := by simp [u10, cardV, kn1, kn2, card]
set_option maxHeartbeats 2000000 in
theorem alive10_c : Cn Try.prog 50 [] (.v (.bool true)) := by
  have hM := M64_val
  refine cn_go Try.func50 [] 0 (by kernel_rfl) rfl (by simp [go_sem, seval]) ?_
  conv => arg 4; cbv
  conv => enter [5, 1]; cbv
  try simp (maxSteps := 2000000) (disch := omega) only [go_sem, seval]
  try repeat ((with_reducible refine And.intro ?_ ?_); focus (first | omega | assumption | exact True.intro | (show anyD _ _ = true; exact rfl) | (simp only [List.length_map, List.length_append, List.length_cons, List.length_nil, List.length_take, List.length_drop]; omega)))
  (first | refine callP.mk (lUnion_c a10 b10 a10_sm b10_sm) rfl ?_ | refine callQ.mk (lUnion_c a10 b10 a10_sm b10_sm) rfl ?_ | refine callO.rd (lUnion_c a10 b10 a10_sm b10_sm) rfl ?_ | refine callO.mk (lUnion_c a10 b10 a10_sm b10_sm) rfl ?_)
  rw [l10u]
  try simp (maxSteps := 2000000) (disch := omega) only [go_sem, seval]
  try repeat ((with_reducible refine And.intro ?_ ?_); focus (first | omega | assumption | exact True.intro | (show anyD _ _ = true; exact rfl) | (simp only [List.length_map, List.length_append, List.length_cons, List.length_nil, List.length_take, List.length_drop]; omega)))
  (first | refine callP.mk (sameV_c u10 u10 (by decide) (by simp [u10])) rfl ?_ | refine callQ.mk (sameV_c u10 u10 (by decide) (by simp [u10])) rfl ?_ | refine callO.rd (sameV_c u10 u10 (by decide) (by simp [u10])) rfl ?_ | refine callO.mk (sameV_c u10 u10 (by decide) (by simp [u10])) rfl ?_)
  try simp (maxSteps := 2000000) (disch := omega) only [go_sem, seval]
  try repeat ((with_reducible refine And.intro ?_ ?_); focus (first | omega | assumption | exact True.intro | (show anyD _ _ = true; exact rfl) | (simp only [List.length_map, List.length_append, List.length_cons, List.length_nil, List.length_take, List.length_drop]; omega)))
  (first | refine callP.mk (lMeet_c a10 b10 a10_sm b10_sm) rfl ?_ | refine callQ.mk (lMeet_c a10 b10 a10_sm b10_sm) rfl ?_ | refine callO.rd (lMeet_c a10 b10 a10_sm b10_sm) rfl ?_ | refine callO.mk (lMeet_c a10 b10 a10_sm b10_sm) rfl ?_)
  rw [l10m]
  try simp (maxSteps := 2000000) (disch := omega) only [go_sem, seval]
  try repeat ((with_reducible refine And.intro ?_ ?_); focus (first | omega | assumption | exact True.intro | (show anyD _ _ = true; exact rfl) | (simp only [List.length_map, List.length_append, List.length_cons, List.length_nil, List.length_take, List.length_drop]; omega)))
  (first | refine callP.mk (lMinus_c u10 a10 u10_sm a10_sm) rfl ?_ | refine callQ.mk (lMinus_c u10 a10 u10_sm a10_sm) rfl ?_ | refine callO.rd (lMinus_c u10 a10 u10_sm a10_sm) rfl ?_ | refine callO.mk (lMinus_c u10 a10 u10_sm a10_sm) rfl ?_)
  rw [l10d]
  try simp (maxSteps := 2000000) (disch := omega) only [go_sem, seval]
  try repeat ((with_reducible refine And.intro ?_ ?_); focus (first | omega | assumption | exact True.intro | (show anyD _ _ = true; exact rfl) | (simp only [List.length_map, List.length_append, List.length_cons, List.length_nil, List.length_take, List.length_drop]; omega)))
  (first | refine callP.mk (sameV_c b10 b10 (by decide) (by simp [b10])) rfl ?_ | refine callQ.mk (sameV_c b10 b10 (by decide) (by simp [b10])) rfl ?_ | refine callO.rd (sameV_c b10 b10 (by decide) (by simp [b10])) rfl ?_ | refine callO.mk (sameV_c b10 b10 (by decide) (by simp [b10])) rfl ?_)
  try simp (maxSteps := 2000000) (disch := omega) only [go_sem, seval]
  try repeat ((with_reducible refine And.intro ?_ ?_); focus (first | omega | assumption | exact True.intro | (show anyD _ _ = true; exact rfl) | (simp only [List.length_map, List.length_append, List.length_cons, List.length_nil, List.length_take, List.length_drop]; omega)))
  (first | refine callP.mk (lSubset_c a10 u10 a10_sm u10_sm) rfl ?_ | refine callQ.mk (lSubset_c a10 u10 a10_sm u10_sm) rfl ?_ | refine callO.rd (lSubset_c a10 u10 a10_sm u10_sm) rfl ?_ | refine callO.mk (lSubset_c a10 u10 a10_sm u10_sm) rfl ?_)
  rw [l10s]
  try simp (maxSteps := 2000000) (disch := omega) only [go_sem, seval]
  try repeat ((with_reducible refine And.intro ?_ ?_); focus (first | omega | assumption | exact True.intro | (show anyD _ _ = true; exact rfl) | (simp only [List.length_map, List.length_append, List.length_cons, List.length_nil, List.length_take, List.length_drop]; omega)))
  (first | refine callP.mk (lSubset_c u10 a10 u10_sm a10_sm) rfl ?_ | refine callQ.mk (lSubset_c u10 a10 u10_sm a10_sm) rfl ?_ | refine callO.rd (lSubset_c u10 a10 u10_sm a10_sm) rfl ?_ | refine callO.mk (lSubset_c u10 a10 u10_sm a10_sm) rfl ?_)
  rw [l10d, show decide (b10 = []) = false by decide]
  try simp (maxSteps := 2000000) (disch := omega) only [go_sem, seval]
  try repeat ((with_reducible refine And.intro ?_ ?_); focus (first | omega | assumption | exact True.intro | (show anyD _ _ = true; exact rfl) | (simp only [List.length_map, List.length_append, List.length_cons, List.length_nil, List.length_take, List.length_drop]; omega)))
  (first | refine callP.mk (lcount_c u10 u10_sm) rfl ?_ | refine callQ.mk (lcount_c u10 u10_sm) rfl ?_ | refine callO.rd (lcount_c u10 u10_sm) rfl ?_ | refine callO.mk (lcount_c u10 u10_sm) rfl ?_)
  rw [card10, show cw 9 = cp2 0 9 by simp [cw, M64_val]]
  try simp (maxSteps := 2000000) (disch := omega) only [go_sem, seval]
  try repeat ((with_reducible refine And.intro ?_ ?_); focus (first | omega | assumption | exact True.intro | (show anyD _ _ = true; exact rfl) | (simp only [List.length_map, List.length_append, List.length_cons, List.length_nil, List.length_take, List.length_drop]; omega)))
  (first | refine callP.mk (lAdd_c [] 3 0 nil_sm (by omega) (by omega)) rfl ?_ | refine callQ.mk (lAdd_c [] 3 0 nil_sm (by omega) (by omega)) rfl ?_ | refine callO.rd (lAdd_c [] 3 0 nil_sm (by omega) (by omega)) rfl ?_ | refine callO.mk (lAdd_c [] 3 0 nil_sm (by omega) (by omega)) rfl ?_)
  rw [l10c]
  try simp (maxSteps := 2000000) (disch := omega) only [go_sem, seval]
  try repeat ((with_reducible refine And.intro ?_ ?_); focus (first | omega | assumption | exact True.intro | (show anyD _ _ = true; exact rfl) | (simp only [List.length_map, List.length_append, List.length_cons, List.length_nil, List.length_take, List.length_drop]; omega)))
  (first | refine callP.mk (sameV_c c10 c10 (by decide) (by simp [c10])) rfl ?_ | refine callQ.mk (sameV_c c10 c10 (by decide) (by simp [c10])) rfl ?_ | refine callO.rd (sameV_c c10 c10 (by decide) (by simp [c10])) rfl ?_ | refine callO.mk (sameV_c c10 c10 (by decide) (by simp [c10])) rfl ?_)
  try simp (maxSteps := 2000000) (disch := omega) only [go_sem, seval]
  try repeat ((with_reducible refine And.intro ?_ ?_); focus (first | omega | assumption | exact True.intro | (show anyD _ _ = true; exact rfl) | (simp only [List.length_map, List.length_append, List.length_cons, List.length_nil, List.length_take, List.length_drop]; omega)))
/-- What a law knows of a vector. -/
theorem okV_get {v : List En} (h : okV v = true) (hb : BdV v) : BV 20 30 v := by
  unfold okV at h
  simp only [Bool.and_eq_true, decide_eq_true_eq] at h
  have g := fewB_iff.1 h.1
  exact ⟨(chkV_iff hb.1).1 h.2, g.2, g.1⟩
theorem BV.sm {n h : Nat} {v : List En} (hv : BV n h v) (h1 : n ≤ 1048576) (h2 : h ≤ 10000) : SmV v := ⟨hv.1, by have := hv.2.1; omega, fun e he => by have := hv.2.2 e he; omega⟩
theorem all3 {a b c : List En} (ha : BdV a) (hb : BdV b) (hc : BdV c) : ∀ v ∈ [a, b, c], BdV v := by
  intro v hv
  simp at hv
  rcases hv with rfl | rfl | rfl <;> assumption
set_option maxHeartbeats 4000000 in
theorem latAlgebra_c (a b c : List En) (ha : BdV a) (hb : BdV b) (hc : BdV c) : Cn Try.prog 16 [vp a, vp b, vp c] (.v (.bool true)) := by
  refine cn_go Try.func16 [] 3 (by kernel_rfl) rfl (by simp [go_sem, seval]) ?_
  conv => arg 4; cbv
  conv => enter [5, 1]; cbv
  try simp (maxSteps := 2000000) (disch := omega) only [go_sem, seval]
  try repeat ((with_reducible refine And.intro ?_ ?_); focus (first | omega | assumption | exact True.intro | (show anyD _ _ = true; exact rfl) | (simp only [List.length_map, List.length_append, List.length_cons, List.length_nil, List.length_take, List.length_drop]; omega)))
  (first | refine callP.mk (right10_c [a, b, c] (by simp) (all3 ha hb hc)) rfl ?_ | refine callQ.mk (right10_c [a, b, c] (by simp) (all3 ha hb hc)) rfl ?_ | refine callO.rd (right10_c [a, b, c] (by simp) (all3 ha hb hc)) rfl ?_ | refine callO.mk (right10_c [a, b, c] (by simp) (all3 ha hb hc)) rfl ?_)
  try simp (maxSteps := 2000000) (disch := omega) only [go_sem, seval]
  try repeat ((with_reducible refine And.intro ?_ ?_); focus (first | omega | assumption | exact True.intro | (show anyD _ _ = true; exact rfl) | (simp only [List.length_map, List.length_append, List.length_cons, List.length_nil, List.length_take, List.length_drop]; omega)))
  (first | refine brP.mk (fun h => ?_) (fun h => ?_) | refine gdP.mkt (fun h => ?_) (fun h => ?_) | refine gdP.mkf (fun h => ?_) (fun h => ?_) | refine pkP.mk (fun h => ?_) (fun h => ?_)) <;> (try simp only [Bool.not_true, Bool.not_false, decide_eq_true_eq, decide_eq_false_iff_not, Bool.and_eq_true, Bool.or_eq_true, Bool.not_eq_true', Bool.not_eq_false', Bool.and_eq_false_iff, Bool.or_eq_false_iff, Nat.not_lt, Int.not_lt, Nat.not_le, Int.not_le, Int.ofNat_lt, Int.ofNat_le, Int.ofNat_inj, Bool.xor_false, Bool.false_xor, Bool.true_xor, Bool.xor_true] at h) <;> (try simp (maxSteps := 2000000) (disch := omega) only [go_sem, seval]) <;> (try repeat ((with_reducible refine And.intro ?_ ?_); focus (first | omega | assumption | exact True.intro | (show anyD _ _ = true; exact rfl) | (simp only [List.length_map, List.length_append, List.length_cons, List.length_nil, List.length_take, List.length_drop]; omega))))
  · (first | refine callP.mk (alive10_c) rfl ?_ | refine callQ.mk (alive10_c) rfl ?_ | refine callO.rd (alive10_c) rfl ?_ | refine callO.mk (alive10_c) rfl ?_)
    try simp (maxSteps := 2000000) (disch := omega) only [go_sem, seval]
    try repeat ((with_reducible refine And.intro ?_ ?_); focus (first | omega | assumption | exact True.intro | (show anyD _ _ = true; exact rfl) | (simp only [List.length_map, List.length_append, List.length_cons, List.length_nil, List.length_take, List.length_drop]; omega)))
  · have h : okV a = true ∧ okV b = true ∧ okV c = true := by simpa using h
    have va := okV_get h.1 ha
    have vb := okV_get h.2.1 hb
    have vc := okV_get h.2.2 hc
    have sa := va.sm (by omega) (by omega)
    have sb := vb.sm (by omega) (by omega)
    have sc := vc.sm (by omega) (by omega)
    have vu := lat_bv (f := fUnion) va vb
    have vm := lat_bv (f := fMeet) va vb
    have vubc := lat_bv (f := fUnion) vb vc
    have vmac := lat_bv (f := fMeet) va vc
    have vmbc := lat_bv (f := fMeet) vb vc
    have vl := lat_bv (f := fMeet) vu vc
    have vuc := lat_bv (f := fUnion) vu vc
    have vmc := lat_bv (f := fMeet) vm vc
    have su := vu.sm (by omega) (by omega)
    have sm := vm.sm (by omega) (by omega)
    have subc := vubc.sm (by omega) (by omega)
    have smac := vmac.sm (by omega) (by omega)
    have smbc := vmbc.sm (by omega) (by omega)
    have sl := vl.sm (by omega) (by omega)
    have suc := vuc.sm (by omega) (by omega)
    have smc := vmc.sm (by omega) (by omega)
    have cu : ∀ p q, fUnion p q = fUnion q p := fun p q => by cases p <;> cases q <;> rfl
    have cm : ∀ p q, fMeet p q = fMeet q p := fun p q => by cases p <;> cases q <;> rfl
    have iu : ∀ p, fUnion p p = p := fun p => by cases p <;> rfl
    have im : ∀ p, fMeet p p = p := fun p => by cases p <;> rfl
    have au : ∀ p q r, fUnion (fUnion p q) r = fUnion p (fUnion q r) := fun p q r => by cases p <;> cases q <;> cases r <;> rfl
    have am : ∀ p q r, fMeet (fMeet p q) r = fMeet p (fMeet q r) := fun p q r => by cases p <;> cases q <;> cases r <;> rfl
    have e1 := lat_comm fU0 cu vb.1 va.1
    have e2 := lat_comm fI0 cm vb.1 va.1
    have e3 := lat_idem fU0 iu va.1
    have e4 := lat_idem fI0 im va.1
    have e5 := lat_assoc fU0 au va.1 vb.1 vc.1
    have e6 := lat_assoc fI0 am va.1 vb.1 vc.1
    have e7 := lat_dist va.1 vb.1 vc.1
    have g : ∀ {v : List En}, SmV v → v.length ≤ 1152921504606846976 ∧ ∀ e ∈ v, e.holes.length ≤ 1152921504606846976 := fun h => ⟨by have := h.2.1; omega, fun e he => by have := h.2.2 e he; omega⟩
    have scv : SmV (canVec a) := sm_of (canVec_can va.1) (Nat.le_trans (canVec_le a) (by have := va.2.1; omega)) (canVec_bd va.2.2)
    (first | refine callP.mk (lUnion_c a b sa sb) rfl ?_ | refine callQ.mk (lUnion_c a b sa sb) rfl ?_ | refine callO.rd (lUnion_c a b sa sb) rfl ?_ | refine callO.mk (lUnion_c a b sa sb) rfl ?_)
    try simp (maxSteps := 2000000) (disch := omega) only [go_sem, seval]
    try repeat ((with_reducible refine And.intro ?_ ?_); focus (first | omega | assumption | exact True.intro | (show anyD _ _ = true; exact rfl) | (simp only [List.length_map, List.length_append, List.length_cons, List.length_nil, List.length_take, List.length_drop]; omega)))
    (first | refine callP.mk (lMeet_c a b sa sb) rfl ?_ | refine callQ.mk (lMeet_c a b sa sb) rfl ?_ | refine callO.rd (lMeet_c a b sa sb) rfl ?_ | refine callO.mk (lMeet_c a b sa sb) rfl ?_)
    try simp (maxSteps := 2000000) (disch := omega) only [go_sem, seval]
    try repeat ((with_reducible refine And.intro ?_ ?_); focus (first | omega | assumption | exact True.intro | (show anyD _ _ = true; exact rfl) | (simp only [List.length_map, List.length_append, List.length_cons, List.length_nil, List.length_take, List.length_drop]; omega)))
    (first | refine callP.mk (lUnion_c b a sb sa) rfl ?_ | refine callQ.mk (lUnion_c b a sb sa) rfl ?_ | refine callO.rd (lUnion_c b a sb sa) rfl ?_ | refine callO.mk (lUnion_c b a sb sa) rfl ?_)
    rw [e1]
    try simp (maxSteps := 2000000) (disch := omega) only [go_sem, seval]
    try repeat ((with_reducible refine And.intro ?_ ?_); focus (first | omega | assumption | exact True.intro | (show anyD _ _ = true; exact rfl) | (simp only [List.length_map, List.length_append, List.length_cons, List.length_nil, List.length_take, List.length_drop]; omega)))
    (first | refine callP.mk (sameV_c (lat fUnion a b) (lat fUnion a b) (g su).1 (g su).2) rfl ?_ | refine callQ.mk (sameV_c (lat fUnion a b) (lat fUnion a b) (g su).1 (g su).2) rfl ?_ | refine callO.rd (sameV_c (lat fUnion a b) (lat fUnion a b) (g su).1 (g su).2) rfl ?_ | refine callO.mk (sameV_c (lat fUnion a b) (lat fUnion a b) (g su).1 (g su).2) rfl ?_)
    try simp (maxSteps := 2000000) (disch := omega) only [go_sem, seval]
    try repeat ((with_reducible refine And.intro ?_ ?_); focus (first | omega | assumption | exact True.intro | (show anyD _ _ = true; exact rfl) | (simp only [List.length_map, List.length_append, List.length_cons, List.length_nil, List.length_take, List.length_drop]; omega)))
    (first | refine callP.mk (lMeet_c b a sb sa) rfl ?_ | refine callQ.mk (lMeet_c b a sb sa) rfl ?_ | refine callO.rd (lMeet_c b a sb sa) rfl ?_ | refine callO.mk (lMeet_c b a sb sa) rfl ?_)
    rw [e2]
    try simp (maxSteps := 2000000) (disch := omega) only [go_sem, seval]
    try repeat ((with_reducible refine And.intro ?_ ?_); focus (first | omega | assumption | exact True.intro | (show anyD _ _ = true; exact rfl) | (simp only [List.length_map, List.length_append, List.length_cons, List.length_nil, List.length_take, List.length_drop]; omega)))
    (first | refine callP.mk (sameV_c (lat fMeet a b) (lat fMeet a b) (g sm).1 (g sm).2) rfl ?_ | refine callQ.mk (sameV_c (lat fMeet a b) (lat fMeet a b) (g sm).1 (g sm).2) rfl ?_ | refine callO.rd (sameV_c (lat fMeet a b) (lat fMeet a b) (g sm).1 (g sm).2) rfl ?_ | refine callO.mk (sameV_c (lat fMeet a b) (lat fMeet a b) (g sm).1 (g sm).2) rfl ?_)
    try simp (maxSteps := 2000000) (disch := omega) only [go_sem, seval]
    try repeat ((with_reducible refine And.intro ?_ ?_); focus (first | omega | assumption | exact True.intro | (show anyD _ _ = true; exact rfl) | (simp only [List.length_map, List.length_append, List.length_cons, List.length_nil, List.length_take, List.length_drop]; omega)))
    (first | refine callP.mk (lUnion_c a a sa sa) rfl ?_ | refine callQ.mk (lUnion_c a a sa sa) rfl ?_ | refine callO.rd (lUnion_c a a sa sa) rfl ?_ | refine callO.mk (lUnion_c a a sa sa) rfl ?_)
    rw [e3]
    try simp (maxSteps := 2000000) (disch := omega) only [go_sem, seval]
    try repeat ((with_reducible refine And.intro ?_ ?_); focus (first | omega | assumption | exact True.intro | (show anyD _ _ = true; exact rfl) | (simp only [List.length_map, List.length_append, List.length_cons, List.length_nil, List.length_take, List.length_drop]; omega)))
    (first | refine callP.mk (vcanon_c a va.1 sa.2.1 sa.2.2) rfl ?_ | refine callQ.mk (vcanon_c a va.1 sa.2.1 sa.2.2) rfl ?_ | refine callO.rd (vcanon_c a va.1 sa.2.1 sa.2.2) rfl ?_ | refine callO.mk (vcanon_c a va.1 sa.2.1 sa.2.2) rfl ?_)
    try simp (maxSteps := 2000000) (disch := omega) only [go_sem, seval]
    try repeat ((with_reducible refine And.intro ?_ ?_); focus (first | omega | assumption | exact True.intro | (show anyD _ _ = true; exact rfl) | (simp only [List.length_map, List.length_append, List.length_cons, List.length_nil, List.length_take, List.length_drop]; omega)))
    (first | refine callP.mk (sameV_c (canVec a) (canVec a) (g scv).1 (g scv).2) rfl ?_ | refine callQ.mk (sameV_c (canVec a) (canVec a) (g scv).1 (g scv).2) rfl ?_ | refine callO.rd (sameV_c (canVec a) (canVec a) (g scv).1 (g scv).2) rfl ?_ | refine callO.mk (sameV_c (canVec a) (canVec a) (g scv).1 (g scv).2) rfl ?_)
    try simp (maxSteps := 2000000) (disch := omega) only [go_sem, seval]
    try repeat ((with_reducible refine And.intro ?_ ?_); focus (first | omega | assumption | exact True.intro | (show anyD _ _ = true; exact rfl) | (simp only [List.length_map, List.length_append, List.length_cons, List.length_nil, List.length_take, List.length_drop]; omega)))
    (first | refine callP.mk (lMeet_c a a sa sa) rfl ?_ | refine callQ.mk (lMeet_c a a sa sa) rfl ?_ | refine callO.rd (lMeet_c a a sa sa) rfl ?_ | refine callO.mk (lMeet_c a a sa sa) rfl ?_)
    rw [e4]
    try simp (maxSteps := 2000000) (disch := omega) only [go_sem, seval]
    try repeat ((with_reducible refine And.intro ?_ ?_); focus (first | omega | assumption | exact True.intro | (show anyD _ _ = true; exact rfl) | (simp only [List.length_map, List.length_append, List.length_cons, List.length_nil, List.length_take, List.length_drop]; omega)))
    (first | refine callP.mk (vcanon_c a va.1 sa.2.1 sa.2.2) rfl ?_ | refine callQ.mk (vcanon_c a va.1 sa.2.1 sa.2.2) rfl ?_ | refine callO.rd (vcanon_c a va.1 sa.2.1 sa.2.2) rfl ?_ | refine callO.mk (vcanon_c a va.1 sa.2.1 sa.2.2) rfl ?_)
    try simp (maxSteps := 2000000) (disch := omega) only [go_sem, seval]
    try repeat ((with_reducible refine And.intro ?_ ?_); focus (first | omega | assumption | exact True.intro | (show anyD _ _ = true; exact rfl) | (simp only [List.length_map, List.length_append, List.length_cons, List.length_nil, List.length_take, List.length_drop]; omega)))
    (first | refine callP.mk (sameV_c (canVec a) (canVec a) (g scv).1 (g scv).2) rfl ?_ | refine callQ.mk (sameV_c (canVec a) (canVec a) (g scv).1 (g scv).2) rfl ?_ | refine callO.rd (sameV_c (canVec a) (canVec a) (g scv).1 (g scv).2) rfl ?_ | refine callO.mk (sameV_c (canVec a) (canVec a) (g scv).1 (g scv).2) rfl ?_)
    try simp (maxSteps := 2000000) (disch := omega) only [go_sem, seval]
    try repeat ((with_reducible refine And.intro ?_ ?_); focus (first | omega | assumption | exact True.intro | (show anyD _ _ = true; exact rfl) | (simp only [List.length_map, List.length_append, List.length_cons, List.length_nil, List.length_take, List.length_drop]; omega)))
    (first | refine callP.mk (lMeet_c (lat fUnion a b) c su sc) rfl ?_ | refine callQ.mk (lMeet_c (lat fUnion a b) c su sc) rfl ?_ | refine callO.rd (lMeet_c (lat fUnion a b) c su sc) rfl ?_ | refine callO.mk (lMeet_c (lat fUnion a b) c su sc) rfl ?_)
    try simp (maxSteps := 2000000) (disch := omega) only [go_sem, seval]
    try repeat ((with_reducible refine And.intro ?_ ?_); focus (first | omega | assumption | exact True.intro | (show anyD _ _ = true; exact rfl) | (simp only [List.length_map, List.length_append, List.length_cons, List.length_nil, List.length_take, List.length_drop]; omega)))
    (first | refine callP.mk (lMeet_c a c sa sc) rfl ?_ | refine callQ.mk (lMeet_c a c sa sc) rfl ?_ | refine callO.rd (lMeet_c a c sa sc) rfl ?_ | refine callO.mk (lMeet_c a c sa sc) rfl ?_)
    try simp (maxSteps := 2000000) (disch := omega) only [go_sem, seval]
    try repeat ((with_reducible refine And.intro ?_ ?_); focus (first | omega | assumption | exact True.intro | (show anyD _ _ = true; exact rfl) | (simp only [List.length_map, List.length_append, List.length_cons, List.length_nil, List.length_take, List.length_drop]; omega)))
    (first | refine callP.mk (lMeet_c b c sb sc) rfl ?_ | refine callQ.mk (lMeet_c b c sb sc) rfl ?_ | refine callO.rd (lMeet_c b c sb sc) rfl ?_ | refine callO.mk (lMeet_c b c sb sc) rfl ?_)
    try simp (maxSteps := 2000000) (disch := omega) only [go_sem, seval]
    try repeat ((with_reducible refine And.intro ?_ ?_); focus (first | omega | assumption | exact True.intro | (show anyD _ _ = true; exact rfl) | (simp only [List.length_map, List.length_append, List.length_cons, List.length_nil, List.length_take, List.length_drop]; omega)))
    (first | refine callP.mk (lUnion_c (lat fMeet a c) (lat fMeet b c) smac smbc) rfl ?_ | refine callQ.mk (lUnion_c (lat fMeet a c) (lat fMeet b c) smac smbc) rfl ?_ | refine callO.rd (lUnion_c (lat fMeet a c) (lat fMeet b c) smac smbc) rfl ?_ | refine callO.mk (lUnion_c (lat fMeet a c) (lat fMeet b c) smac smbc) rfl ?_)
    try simp (maxSteps := 2000000) (disch := omega) only [go_sem, seval]
    try repeat ((with_reducible refine And.intro ?_ ?_); focus (first | omega | assumption | exact True.intro | (show anyD _ _ = true; exact rfl) | (simp only [List.length_map, List.length_append, List.length_cons, List.length_nil, List.length_take, List.length_drop]; omega)))
    (first | refine callP.mk (alive10_c) rfl ?_ | refine callQ.mk (alive10_c) rfl ?_ | refine callO.rd (alive10_c) rfl ?_ | refine callO.mk (alive10_c) rfl ?_)
    try simp (maxSteps := 2000000) (disch := omega) only [go_sem, seval]
    try repeat ((with_reducible refine And.intro ?_ ?_); focus (first | omega | assumption | exact True.intro | (show anyD _ _ = true; exact rfl) | (simp only [List.length_map, List.length_append, List.length_cons, List.length_nil, List.length_take, List.length_drop]; omega)))
    (first | refine callP.mk (lUnion_c (lat fUnion a b) c su sc) rfl ?_ | refine callQ.mk (lUnion_c (lat fUnion a b) c su sc) rfl ?_ | refine callO.rd (lUnion_c (lat fUnion a b) c su sc) rfl ?_ | refine callO.mk (lUnion_c (lat fUnion a b) c su sc) rfl ?_)
    try simp (maxSteps := 2000000) (disch := omega) only [go_sem, seval]
    try repeat ((with_reducible refine And.intro ?_ ?_); focus (first | omega | assumption | exact True.intro | (show anyD _ _ = true; exact rfl) | (simp only [List.length_map, List.length_append, List.length_cons, List.length_nil, List.length_take, List.length_drop]; omega)))
    (first | refine callP.mk (lUnion_c b c sb sc) rfl ?_ | refine callQ.mk (lUnion_c b c sb sc) rfl ?_ | refine callO.rd (lUnion_c b c sb sc) rfl ?_ | refine callO.mk (lUnion_c b c sb sc) rfl ?_)
    try simp (maxSteps := 2000000) (disch := omega) only [go_sem, seval]
    try repeat ((with_reducible refine And.intro ?_ ?_); focus (first | omega | assumption | exact True.intro | (show anyD _ _ = true; exact rfl) | (simp only [List.length_map, List.length_append, List.length_cons, List.length_nil, List.length_take, List.length_drop]; omega)))
    (first | refine callP.mk (lUnion_c a (lat fUnion b c) sa subc) rfl ?_ | refine callQ.mk (lUnion_c a (lat fUnion b c) sa subc) rfl ?_ | refine callO.rd (lUnion_c a (lat fUnion b c) sa subc) rfl ?_ | refine callO.mk (lUnion_c a (lat fUnion b c) sa subc) rfl ?_)
    rw [← e5]
    try simp (maxSteps := 2000000) (disch := omega) only [go_sem, seval]
    try repeat ((with_reducible refine And.intro ?_ ?_); focus (first | omega | assumption | exact True.intro | (show anyD _ _ = true; exact rfl) | (simp only [List.length_map, List.length_append, List.length_cons, List.length_nil, List.length_take, List.length_drop]; omega)))
    (first | refine callP.mk (sameV_c (lat fUnion (lat fUnion a b) c) (lat fUnion (lat fUnion a b) c) (g suc).1 (g suc).2) rfl ?_ | refine callQ.mk (sameV_c (lat fUnion (lat fUnion a b) c) (lat fUnion (lat fUnion a b) c) (g suc).1 (g suc).2) rfl ?_ | refine callO.rd (sameV_c (lat fUnion (lat fUnion a b) c) (lat fUnion (lat fUnion a b) c) (g suc).1 (g suc).2) rfl ?_ | refine callO.mk (sameV_c (lat fUnion (lat fUnion a b) c) (lat fUnion (lat fUnion a b) c) (g suc).1 (g suc).2) rfl ?_)
    try simp (maxSteps := 2000000) (disch := omega) only [go_sem, seval]
    try repeat ((with_reducible refine And.intro ?_ ?_); focus (first | omega | assumption | exact True.intro | (show anyD _ _ = true; exact rfl) | (simp only [List.length_map, List.length_append, List.length_cons, List.length_nil, List.length_take, List.length_drop]; omega)))
    (first | refine callP.mk (lMeet_c (lat fMeet a b) c sm sc) rfl ?_ | refine callQ.mk (lMeet_c (lat fMeet a b) c sm sc) rfl ?_ | refine callO.rd (lMeet_c (lat fMeet a b) c sm sc) rfl ?_ | refine callO.mk (lMeet_c (lat fMeet a b) c sm sc) rfl ?_)
    try simp (maxSteps := 2000000) (disch := omega) only [go_sem, seval]
    try repeat ((with_reducible refine And.intro ?_ ?_); focus (first | omega | assumption | exact True.intro | (show anyD _ _ = true; exact rfl) | (simp only [List.length_map, List.length_append, List.length_cons, List.length_nil, List.length_take, List.length_drop]; omega)))
    (first | refine callP.mk (lMeet_c b c sb sc) rfl ?_ | refine callQ.mk (lMeet_c b c sb sc) rfl ?_ | refine callO.rd (lMeet_c b c sb sc) rfl ?_ | refine callO.mk (lMeet_c b c sb sc) rfl ?_)
    try simp (maxSteps := 2000000) (disch := omega) only [go_sem, seval]
    try repeat ((with_reducible refine And.intro ?_ ?_); focus (first | omega | assumption | exact True.intro | (show anyD _ _ = true; exact rfl) | (simp only [List.length_map, List.length_append, List.length_cons, List.length_nil, List.length_take, List.length_drop]; omega)))
    (first | refine callP.mk (lMeet_c a (lat fMeet b c) sa smbc) rfl ?_ | refine callQ.mk (lMeet_c a (lat fMeet b c) sa smbc) rfl ?_ | refine callO.rd (lMeet_c a (lat fMeet b c) sa smbc) rfl ?_ | refine callO.mk (lMeet_c a (lat fMeet b c) sa smbc) rfl ?_)
    rw [← e6]
    try simp (maxSteps := 2000000) (disch := omega) only [go_sem, seval]
    try repeat ((with_reducible refine And.intro ?_ ?_); focus (first | omega | assumption | exact True.intro | (show anyD _ _ = true; exact rfl) | (simp only [List.length_map, List.length_append, List.length_cons, List.length_nil, List.length_take, List.length_drop]; omega)))
    (first | refine callP.mk (sameV_c (lat fMeet (lat fMeet a b) c) (lat fMeet (lat fMeet a b) c) (g smc).1 (g smc).2) rfl ?_ | refine callQ.mk (sameV_c (lat fMeet (lat fMeet a b) c) (lat fMeet (lat fMeet a b) c) (g smc).1 (g smc).2) rfl ?_ | refine callO.rd (sameV_c (lat fMeet (lat fMeet a b) c) (lat fMeet (lat fMeet a b) c) (g smc).1 (g smc).2) rfl ?_ | refine callO.mk (sameV_c (lat fMeet (lat fMeet a b) c) (lat fMeet (lat fMeet a b) c) (g smc).1 (g smc).2) rfl ?_)
    try simp (maxSteps := 2000000) (disch := omega) only [go_sem, seval]
    try repeat ((with_reducible refine And.intro ?_ ?_); focus (first | omega | assumption | exact True.intro | (show anyD _ _ = true; exact rfl) | (simp only [List.length_map, List.length_append, List.length_cons, List.length_nil, List.length_take, List.length_drop]; omega)))
    rw [← e7]
    (first | refine callP.mk (sameV_c (lat fMeet (lat fUnion a b) c) (lat fMeet (lat fUnion a b) c) (g sl).1 (g sl).2) rfl ?_ | refine callQ.mk (sameV_c (lat fMeet (lat fUnion a b) c) (lat fMeet (lat fUnion a b) c) (g sl).1 (g sl).2) rfl ?_ | refine callO.rd (sameV_c (lat fMeet (lat fUnion a b) c) (lat fMeet (lat fUnion a b) c) (g sl).1 (g sl).2) rfl ?_ | refine callO.mk (sameV_c (lat fMeet (lat fUnion a b) c) (lat fMeet (lat fUnion a b) c) (g sl).1 (g sl).2) rfl ?_)
    try simp (maxSteps := 2000000) (disch := omega) only [go_sem, seval]
    try repeat ((with_reducible refine And.intro ?_ ?_); focus (first | omega | assumption | exact True.intro | (show anyD _ _ = true; exact rfl) | (simp only [List.length_map, List.length_append, List.length_cons, List.length_nil, List.length_take, List.length_drop]; omega)))
end Go.Proofs.Ytcedofkenfddkaa
