import Derived.Test.YtjmhmeadcphfmaaGreatDoorB16
namespace Go.Proofs.YtjmhmeadcphfmaaGreatDoor
set_option linter.unusedVariables false
set_option linter.unusedSimpArgs false
open Go.RowKit
set_option maxRecDepth 100000
def HG (w : World) : Prop := w.cell? ⟨0, 0, none⟩ = some (.iface 216 (.agg #[.pointer (some ⟨2, 41, none⟩)]))
theorem HG.of {D : Nat → Nat → Prop} {w : World} (h : GL D w) : HG w := (h _ rfl).2
theorem HG.pos {w : World} (h : HG w) : 0 < w.heap.size := World.block_lt_of_cell? w ⟨0, 0, none⟩ h
theorem HG.alloc {w : World} (h : HG w) (o : Obj) : HG (w.alloc o) := by
  unfold HG
  rw [World.cell?_alloc_lt _ _ ⟨0, 0, none⟩ h.pos]; exact h
theorem cn_memG {f : FuncId} {ps : List PV} {r : PV} (hr : r.own = none) (hent : ∀ args w, (callFunc f args).run Tryz.prog w = .ok (.enter f args) w)
    (h : ∀ (D : Nat → Nat → Prop) (w : World) (vs : Array Value), HG w → (∀ b o, D b o → b < w.heap.size) → vs.size = ps.length → (∀ (i : Nat) p, ps[i]? = some p → Dat D w (vs.getD i undef) p) →
      Calls Tryz.prog f vs w fun e w' => ∃ v, e = .returned v ∧ Below w.heap.size w w' ∧ Dat (fun b o => D b o ∨ (w.heap.size ≤ b ∧ b < w'.heap.size)) w' v r) : Cn Tryz.prog f ps r := by
  refine ⟨hent, fun D w vs hg hD hsz hd => (h D w vs (.of hg) hD hsz hd).mono ?_⟩
  rintro e w' ⟨v, rfl, hb, hv⟩
  exact ⟨v, _, rfl, hb, fun b o h => .inl h, fun b o h => h.imp id And.left, fun b o h => h.elim (fun h => Nat.lt_of_lt_of_le (hD b o h) hb.size) And.right, hv, ownOk_none hr⟩
theorem arr1 {vs : Array Value} (h : vs.size = 1) : vs = #[vs.getD 0 undef] := by
  obtain ⟨l⟩ := vs
  match l, h with
  | [x], _ => rfl
theorem asCode_N (c : Int) (w : World) (hg : HG w) : Calls Tryz.prog 90 #[.iface 45 (.int .i64 c), .iface 110 (.pointer (some ⟨w.heap.size, 0, none⟩))] (w.alloc (.cells #[.int .i64 0] 45))
    fun ev w' => ev = .returned (.bool true) ∧ Below w.heap.size w w' ∧ w'.cell? ⟨w.heap.size, 0, none⟩ = some (.int .i64 c) := by
  refine (As.as_NN c ⟨w.heap.size, 0, none⟩ (.int .i64 0) _ (hg.alloc _) (by simp) (by simp)).mono ?_
  rintro ev w' ⟨rfl, rfl⟩
  refine ⟨rfl, ?_, ?_⟩
  · refine Below.setCell (((((((Below.refl _ w).alloc ?_ _).alloc ?_ _).alloc ?_ _).alloc ?_ _).alloc ?_ _)) ?_ _ <;> simp <;> omega
  · refine World.cell?_setCell_same _ _ _ (u := .int .i64 0) ?_
    rw [World.cell?_alloc_lt _ _ ⟨w.heap.size, 0, none⟩ (by simp; omega), World.cell?_alloc_lt _ _ ⟨w.heap.size, 0, none⟩ (by simp; omega), World.cell?_alloc_lt _ _ ⟨w.heap.size, 0, none⟩ (by simp; omega), World.cell?_alloc_lt _ _ ⟨w.heap.size, 0, none⟩ (by simp)]
    simp
theorem asCode_F (c k : Int) (w : World) (hg : HG w) : Calls Tryz.prog 90 #[.iface 112 (.agg #[.int .i64 c, .int .i64 k]), .iface 110 (.pointer (some ⟨w.heap.size, 0, none⟩))] (w.alloc (.cells #[.int .i64 0] 45))
    fun ev w' => ev = .returned (.bool true) ∧ Below w.heap.size w w' ∧ w'.cell? ⟨w.heap.size, 0, none⟩ = some (.int .i64 c) := by
  refine (As.as_FN c k ⟨w.heap.size, 0, none⟩ (.int .i64 0) _ (hg.alloc _) (by simp) (by simp)).mono ?_
  rintro ev w' ⟨rfl, rfl⟩
  refine ⟨rfl, ?_, ?_⟩
  · refine Below.setCell ((((((((Below.refl _ w).alloc ?_ _).alloc ?_ _).alloc ?_ _).alloc ?_ _).alloc ?_ _).alloc ?_ _)) ?_ _ <;> simp <;> omega
  · refine World.cell?_setCell_same _ _ _ (u := .int .i64 0) ?_
    rw [World.cell?_alloc_lt _ _ ⟨w.heap.size, 0, none⟩ (by simp; omega), World.cell?_alloc_lt _ _ ⟨w.heap.size, 0, none⟩ (by simp; omega), World.cell?_alloc_lt _ _ ⟨w.heap.size, 0, none⟩ (by simp; omega), World.cell?_alloc_lt _ _ ⟨w.heap.size, 0, none⟩ (by simp; omega), World.cell?_alloc_lt _ _ ⟨w.heap.size, 0, none⟩ (by simp)]
    simp
theorem code_nil (w : World) : Calls Tryz.prog 35 #[.nilIface] w fun e w' => e = .returned (.int .i64 0) ∧ Below w.heap.size w w' := by
  go_enter Tryz.func35, Tryz.ntmps35
  go_wp2
  go_ret
  exact ⟨rfl, (Below.refl _ w).alloc (Nat.le_refl _) _⟩
theorem code_N (c : Int) (w : World) (hg : HG w) : Calls Tryz.prog 35 #[.iface 45 (.int .i64 c)] w fun e w' => e = .returned (.int .i64 c) ∧ Below w.heap.size w w' := by
  go_enter Tryz.func35, Tryz.ntmps35
  go_wp2_with (go_at_call 90; refine (asCode_N c w hg).mono ?_; rintro e w1 ⟨rfl, hb, hc⟩)
  go_ret
  exact ⟨rfl, hb⟩
theorem code_F (c k : Int) (w : World) (hg : HG w) : Calls Tryz.prog 35 #[.iface 112 (.agg #[.int .i64 c, .int .i64 k])] w fun e w' => e = .returned (.int .i64 c) ∧ Below w.heap.size w w' := by
  go_enter Tryz.func35, Tryz.ntmps35
  go_wp2_with (go_at_call 90; refine (asCode_F c k w hg).mono ?_; rintro e w1 ⟨rfl, hb, hc⟩)
  go_ret
  exact ⟨rfl, hb⟩
end Go.Proofs.YtjmhmeadcphfmaaGreatDoor
namespace Go.Proofs.YtjmhmeadcphfmaaGreatDoor
set_option linter.unusedVariables false
set_option linter.unusedSimpArgs false
open Go.RowKit
set_option maxRecDepth 100000
def z2 : Obj := .cells #[.int .i64 0, .int .i64 0] 112
theorem dat_errno {D : Nat → Nat → Prop} {w : World} {v : Value} {c : Int} {t : TypeId} (h : Dat D w v (.ifc t (.v (.int .i64 c)))) : v = .iface t (.int .i64 c) := by
  cases h with
  | ifc t x p h => rw [h.v_inv]
theorem dat_fault {D : Nat → Nat → Prop} {w : World} {v : Value} {c k : Int} {t : TypeId} (h : Dat D w v (.ifc t (.agg [.v (.int .i64 c), .v (.int .i64 k)]))) : v = .iface t (.agg #[.int .i64 c, .int .i64 k]) := by
  cases h with
  | ifc t x p h =>
    generalize hc : [PV.v (.int .i64 c), PV.v (.int .i64 k)] = cs at h
    cases h with
    | agg us cs hs _ h =>
      subst hc
      obtain ⟨l⟩ := us
      match l, hs with
      | [x, y], _ =>
        have e0 := (h 0 _ rfl).v_inv
        have e1 := (h 1 _ rfl).v_inv
        simp at e0 e1
        rw [e0, e1]
theorem codeN_c (c : Nat) : Cn Tryz.prog 35 [errno c] (.v (.int .i64 c)) := by
  refine cn_memG rfl (enters_of Tryz.func35 (by kernel_rfl) rfl) fun D w vs hg hD hsz hd => ?_
  rw [arr1 hsz, dat_errno (hd 0 _ rfl)]
  refine (code_N c w hg).mono ?_
  rintro e w' ⟨rfl, hb⟩
  exact ⟨_, rfl, hb, .v _⟩
theorem code_c (c : Nat) (k : Int) : Cn Tryz.prog 35 [errV c k] (.v (.int .i64 c)) := by
  refine cn_memG rfl (enters_of Tryz.func35 (by kernel_rfl) rfl) fun D w vs hg hD hsz hd => ?_
  have h0 := hd 0 _ rfl
  unfold errV at h0
  rw [arr1 hsz]
  by_cases hc : c = 0
  · rw [if_pos hc] at h0
    subst hc
    rw [h0.v_inv]
    refine (code_nil w).mono ?_
    rintro e w' ⟨rfl, hb⟩
    exact ⟨_, rfl, hb, .v _⟩
  · rw [if_neg hc] at h0
    rw [dat_fault h0]
    refine (code_F c k w hg).mono ?_
    rintro e w' ⟨rfl, hb⟩
    exact ⟨_, rfl, hb, .v _⟩
end Go.Proofs.YtjmhmeadcphfmaaGreatDoor
namespace Go.Proofs.YtjmhmeadcphfmaaGreatDoor
set_option linter.unusedVariables false
set_option linter.unusedSimpArgs false
open Go.RowKit
set_option maxRecDepth 100000
end Go.Proofs.YtjmhmeadcphfmaaGreatDoor
namespace Go.Proofs.YtjmhmeadcphfmaaGreatDoor
set_option linter.unusedVariables false
set_option linter.unusedSimpArgs false
open Go.RowKit
set_option maxRecDepth 100000
theorem can_iff {e : En} (h : RightE e) : CanE e ↔ mem e.holes e.max = false := by
  refine ⟨can_max, fun hm => ⟨h, fun s hs => ?_⟩⟩
  rcases Nat.lt_or_eq_of_le (h.2.1 s hs) with h1 | h1
  · exact h1
  · have h2 := NF.lo_ge h.1 s hs
    have : mem e.holes e.max = true := mem_iff.2 ⟨s, hs, by omega, by omega⟩
    rw [hm] at this; cases this
end Go.Proofs.YtjmhmeadcphfmaaGreatDoor
namespace Go.Proofs.YtjmhmeadcphfmaaGreatDoor
set_option linter.unusedVariables false
set_option linter.unusedSimpArgs false
open Go.RowKit
def fewB (v : List En) : Bool := v.all (fun e => decide (e.holes.length ≤ 30)) && decide (v.length ≤ 20)
theorem fewB_iff {v : List En} : fewB v = true ↔ (∀ e ∈ v, e.holes.length ≤ 30) ∧ v.length ≤ 20 := by simp [fewB]
def prv (v : List En) (k : Nat) : Nat := match v[k - 1]? with
  | some p => p.rep
  | none => 0
theorem prv_at {v : List En} {k : Nat} (h : k - 1 < v.length) : prv v k = v[k - 1].rep := by simp [prv, List.getElem?_eq_getElem h]
def hkV (v : List En) : Nat → List En → Nat × Int
  | _, [] => (0, -1)
  | k, e :: r => if (chkE e).1 ≠ 0 then ((chkE e).1, (k : Int)) else if 0 < k ∧ e.rep ≤ prv v k then (3, (k : Int)) else hkV v (k + 1) r
def chkV (v : List En) : Nat × Int := hkV v 0 v
theorem hkV_zero (v : List En) : ∀ (k : Nat) (r : List En), r = v.drop k → ((hkV v k r).1 = 0 ↔ (∀ e ∈ r, (chkE e).1 = 0) ∧ ∀ j (h : j < v.length), k ≤ j → 0 < j → v[j - 1].rep < v[j].rep)
  | k, [], h => by
    have hl := congrArg List.length h
    simp at hl
    simp only [hkV, List.not_mem_nil, false_implies, implies_true, true_and, true_iff]
    intro j hj hk
    omega
  | k, e :: r, h => by
    have hl := congrArg List.length h
    simp at hl
    have hk : k < v.length := by omega
    rw [List.drop_eq_getElem_cons hk, List.cons.injEq] at h
    obtain ⟨he, hr⟩ := h
    have ih := hkV_zero v (k + 1) r hr
    unfold hkV
    by_cases h1 : (chkE e).1 ≠ 0
    · rw [if_pos h1]
      constructor
      · intro h; exact absurd h h1
      · rintro ⟨h2, _⟩; exact absurd (h2 e (by simp)) h1
    · rw [if_neg h1]
      have h1' : (chkE e).1 = 0 := by omega
      by_cases h2 : 0 < k ∧ e.rep ≤ prv v k
      · rw [if_pos h2]
        constructor
        · intro h; cases h
        · rintro ⟨_, h3⟩
          have := h3 k hk (Nat.le_refl _) h2.1
          have h22 := h2.2
          have h23 := congrArg En.rep he
          rw [prv_at (by omega)] at h22
          omega
      · rw [if_neg h2, ih]
        constructor
        · rintro ⟨h3, h4⟩
          refine ⟨fun f hf => ?_, fun j hj hkj hj0 => ?_⟩
          · rcases List.mem_cons.1 hf with rfl | hf
            · exact h1'
            · exact h3 f hf
          · rcases Nat.eq_or_lt_of_le hkj with rfl | hlt
            · rw [prv_at (by omega), he] at h2
              omega
            · exact h4 j hj (by omega) hj0
        · rintro ⟨h3, h4⟩
          exact ⟨fun f hf => h3 f (by simp [hf]), fun j hj hkj hj0 => h4 j hj (by omega) hj0⟩
theorem adj_pair {v : List En} (h : ∀ j (h : j < v.length), 0 < j → v[j - 1].rep < v[j].rep) : v.Pairwise fun a b => a.rep < b.rep := by
  rw [List.pairwise_iff_getElem]
  intro i j hi hj hij
  induction j with
  | zero => omega
  | succ j ih =>
    have h1 := h (j + 1) hj (by omega)
    simp only [Nat.add_sub_cancel] at h1
    rcases Nat.eq_or_lt_of_le (Nat.le_of_lt_succ hij) with rfl | h2
    · exact h1
    · have := ih (by omega) h2
      omega
theorem chkV_iff {v : List En} (hb : ∀ e ∈ v, BdE e) : (chkV v).1 = 0 ↔ RightV v := by
  unfold chkV
  rw [hkV_zero v 0 v rfl]
  have hE : ∀ e ∈ v, (chkE e).1 = 0 ↔ RightE e := fun e he => by
    have := rightEB_iff (hb e he).1 (hb e he).2.1 (hb e he).2.2
    unfold rightEB at this
    simpa using this
  constructor
  · rintro ⟨h1, h2⟩
    exact ⟨fun e he => (hE e he).1 (h1 e he), adj_pair fun j hj h0 => h2 j hj (Nat.zero_le _) h0⟩
  · rintro ⟨h1, h2⟩
    refine ⟨fun e he => (hE e he).2 (h1 e he), fun j hj _ h0 => ?_⟩
    exact List.pairwise_iff_getElem.1 h2 (j - 1) j (by omega) hj (by omega)
def canVB (v : List En) : Bool := v.all (fun e => rightEB e && !mem e.holes e.max) && decide ((chkV v).1 = 0)
theorem canEB_iff {e : En} (h : BdE e) : (rightEB e && !mem e.holes e.max) = true ↔ CanE e := by
  rw [Bool.and_eq_true, rightEB_iff h.1 h.2.1 h.2.2]
  constructor
  · rintro ⟨h1, h2⟩; exact (can_iff h1).2 (by simpa using h2)
  · intro h1; exact ⟨h1.1, by rw [(can_iff h1.1).1 h1]; rfl⟩
theorem canVB_iff {v : List En} (hb : ∀ e ∈ v, BdE e) : canVB v = true ↔ CanV v := by
  unfold canVB
  rw [Bool.and_eq_true, decide_eq_true_eq, chkV_iff hb, List.all_eq_true]
  constructor
  · rintro ⟨h1, h2⟩; exact ⟨fun e he => (canEB_iff (hb e he)).1 (h1 e he), h2.2⟩
  · intro h; exact ⟨fun e he => (canEB_iff (hb e he)).2 (h.1 e he), h.right⟩
def fdV (r : Nat) : Nat → List En → Int
  | _, [] => -1
  | k, e :: t => if e.rep = r then (k : Int) else fdV r (k + 1) t
theorem fdV_spec (r : Nat) : ∀ (l : List En) (k : Nat), (fdV r k l = -1 ∧ ∀ e ∈ l, e.rep ≠ r) ∨ ∃ (i : Nat) (h : i < l.length), fdV r k l = ((k + i : Nat) : Int) ∧ l[i].rep = r
  | [], k => .inl ⟨rfl, fun _ h => by cases h⟩
  | e :: t, k => by
    unfold fdV
    by_cases h : e.rep = r
    · rw [if_pos h]
      exact .inr ⟨0, by simp, by simp, h⟩
    · rw [if_neg h]
      rcases fdV_spec r t (k + 1) with ⟨h1, h2⟩ | ⟨i, hi, h1, h2⟩
      · refine .inl ⟨h1, fun f hf => ?_⟩
        rcases List.mem_cons.1 hf with rfl | hf
        · exact h
        · exact h2 f hf
      · exact .inr ⟨i + 1, by simpa using hi, by rw [h1]; omega, by simpa using h2⟩
theorem part_rep {v : List En} (h : RightV v) (r : Nat) : ∃ i, i ≤ v.length ∧ (∀ j, (h : j < v.length) → j < i → v[j].rep < r) ∧ (∀ j, (h : j < v.length) → i ≤ j → r ≤ v[j].rep) := by
  have hp := List.pairwise_iff_getElem.1 h.2
  obtain ⟨i, h1, h2, h3⟩ := ex_part (fun j => ∃ h : j < v.length, v[j].rep < r) v.length fun a b hab hb ⟨h4, h5⟩ => by
    refine ⟨by omega, ?_⟩
    rcases Nat.lt_or_eq_of_le hab with h6 | h6
    · have := hp a b (by omega) hb h6
      omega
    · subst h6; exact h5
  exact ⟨i, h1, fun j hj hji => (h2 j hji).2, fun j hj hij => Nat.le_of_not_lt fun h => h3 j hij hj ⟨hj, h⟩⟩
theorem fdV_part {v : List En} (hr : RightV v) {r i : Nat} (h1 : ∀ j, (h : j < v.length) → j < i → v[j].rep < r) (h2 : ∀ j, (h : j < v.length) → i ≤ j → r ≤ v[j].rep) :
    fdV r 0 v = if h : i < v.length then (if v[i].rep = r then (i : Int) else -1) else -1 := by
  have hp := List.pairwise_iff_getElem.1 hr.2
  rcases fdV_spec r v 0 with ⟨e1, e2⟩ | ⟨j, hj, e1, e2⟩
  · rw [e1]
    split
    · rename_i h
      rw [if_neg (e2 _ (List.getElem_mem h))]
    · rfl
  · have hij : i ≤ j := Nat.le_of_not_lt fun h => by have := h1 j hj h; omega
    have : i = j := by
      rcases Nat.lt_or_eq_of_le hij with h | h
      · have a1 := hp i j (by omega) hj h
        have a2 := h2 i (by omega) (Nat.le_refl _)
        omega
      · exact h
    subst this
    rw [dif_pos hj, if_pos e2, e1, Nat.zero_add]
theorem knV_fd {v : List En} (hr : RightV v) {r i : Nat} (hi : i < v.length) (h : v[i].rep = r) : knV v r = kn v[i] := by
  rw [← h]; exact knV_mem hr.2 (List.getElem_mem hi)
end Go.Proofs.YtjmhmeadcphfmaaGreatDoor
namespace Go.Proofs.YtjmhmeadcphfmaaGreatDoor
set_option linter.unusedVariables false
set_option linter.unusedSimpArgs false
theorem ascLen : ∀ (r xs : List Nat), Asc r → (∀ y ∈ r, y ∈ xs) → r.length ≤ xs.length := by
  intro r
  induction r with
  | nil => intro xs _ _; exact Nat.zero_le _
  | cons x r ih =>
    intro xs h hm
    have h' := List.pairwise_cons.1 h
    have := ih (xs.erase x) h'.2 fun y hy => by
      have h3 := h'.1 y hy
      exact (List.mem_erase_of_ne (by omega)).2 (hm y (by simp [hy]))
    have hx : x ∈ xs := hm x (by simp)
    rw [List.length_erase_of_mem hx] at this
    have := List.length_pos_of_mem hx
    simp; omega
def Ed (l : List Iv) (x : Nat) : Prop := x < M64 ∧ mem l x ≠ (if x = 0 then false else mem l (x - 1))
theorem NF.lo_prev : ∀ {l : List Iv} {n : Nat}, NF n l → ∀ s ∈ l, s.lo ≠ 0 → mem l (s.lo - 1) = false
  | [], _, _, s, hs, _ => by cases hs
  | t :: l, n, h, s, hs, h0 => by
    obtain ⟨h1, h2, h3, h4⟩ := h
    rcases List.mem_cons.1 hs with rfl | hs
    · rw [mem_cons, h4.mem_lt (by omega), decide_eq_false (show ¬ s.lo ≤ s.lo - 1 by omega)]
      rfl
    · have := h4.lo_ge s hs
      rw [mem_cons, NF.lo_prev h4 s hs h0, decide_eq_false (show ¬ s.lo - 1 ≤ t.hi by omega)]
      simp
theorem NF.asc : ∀ {l : List Iv} {n : Nat}, NF n l → Asc (l.map Iv.lo)
  | [], _, _ => List.Pairwise.nil
  | t :: l, n, h => by
    refine List.pairwise_cons.2 ⟨fun y hy => ?_, NF.asc h.2.2.2⟩
    obtain ⟨s, hs, rfl⟩ := List.mem_map.1 hy
    have := h.2.2.2.lo_ge s hs
    have := h.2.1
    omega
theorem ed_lo {l : List Iv} (h : Nrm l) {s : Iv} (hs : s ∈ l) : Ed l s.lo := by
  have h1 := NF.lo_ge h s hs
  have h2 : mem l s.lo = true := mem_iff.2 ⟨s, hs, Nat.le_refl _, h1.2.1⟩
  refine ⟨by omega, ?_⟩
  rw [h2]
  split
  · simp
  · rename_i h0
    rw [NF.lo_prev h s hs h0]
    simp
theorem ed_len {l : List Iv} {C : List Nat} (h : Nrm l) (hC : ∀ x, Ed l x → x ∈ C) : l.length ≤ C.length := by
  have := ascLen (l.map Iv.lo) C (NF.asc h) fun y hy => by
    obtain ⟨s, hs, rfl⟩ := List.mem_map.1 hy
    exact hC _ (ed_lo h hs)
  simpa using this
theorem ed_cuts {l : List Iv} (h : ∀ s ∈ l, s.lo ≤ s.hi ∧ s.hi < M64) {x : Nat} (hx : Ed l x) : x ∈ cuts l := by
  refine Classical.byContradiction fun hn => hx.2 ?_
  split
  · rename_i h0
    subst h0
    cases hm : mem l 0 with
    | false => rfl
    | true =>
      obtain ⟨s, hs, h1, h2⟩ := mem_iff.1 hm
      exact absurd (show 0 ∈ cuts l from List.mem_flatMap.2 ⟨s, hs, List.mem_cons.2 (.inl (by omega))⟩) hn
  · exact mem_same h (x := x - 1) (y := x) (by omega) hx.1 fun c hc => by
      have : c ≠ x := fun e => hn (e ▸ hc)
      omega
theorem Nrm.ivs2 {l : List Iv} (h : Nrm l) : ∀ s ∈ l, s.lo ≤ s.hi ∧ s.hi < M64 := fun s hs => (NF.lo_ge h s hs).2
theorem ed_op {f : Bool → Bool → Bool} (hf : f false false = false) {a b : List Iv} (ha : Nrm a) (hb : Nrm b) {x : Nat} (h : Ed (opS f a b) x) : Ed a x ∨ Ed b x := by
  obtain ⟨hx, hne⟩ := h
  by_cases h1 : mem a x = (if x = 0 then false else mem a (x - 1))
  · by_cases h2 : mem b x = (if x = 0 then false else mem b (x - 1))
    · refine absurd ?_ hne
      rw [opS_mem ha hb hx, h1, h2]
      split
      · exact hf
      · rw [opS_mem ha hb (by omega)]
    · exact .inr ⟨hx, h2⟩
  · exact .inl ⟨hx, h1⟩
theorem ed_nil {x : Nat} : ¬ Ed [] x := fun h => h.2 (by simp)
theorem ed_one {m n x : Nat} (h : Ed [⟨m, n⟩] x) : x = m ∨ x = n + 1 := by
  obtain ⟨_, h⟩ := h
  rw [mem_one, mem_one] at h
  by_cases e1 : x = m
  · exact .inl e1
  · by_cases e2 : x = n + 1
    · exact .inr e2
    · refine absurd ?_ h
      split
      · rename_i h0
        rw [decide_eq_false (show ¬ m ≤ x by omega)]
        rfl
      · rw [Bool.eq_iff_iff]
        simp only [Bool.and_eq_true, decide_eq_true_eq]
        omega
def EdV (C : Nat → List Nat) (v : List En) : Prop := ∀ r x, Ed (knV v r) x → x ∈ C r
structure IV (C : Nat → List Nat) (R : List Nat) (v : List En) : Prop where
  right : RightV v
  ed : EdV C v
  rep : ∀ e ∈ v, e.rep ∈ R
structure WV (C : Nat → List Nat) (R : List Nat) (v : List En) : Prop where
  can : CanV v
  ed : EdV C v
  rep : ∀ e ∈ v, e.rep ∈ R
variable {C C' : Nat → List Nat} {R R' : List Nat} {v a b : List En}
theorem WV.iv (h : WV C R v) : IV C R v := ⟨h.can.right, h.ed, h.rep⟩
theorem WV.nil : WV C R [] := ⟨⟨fun e h => (by cases h), List.Pairwise.nil⟩, fun r x h => absurd h (by rw [knV_nil]; exact ed_nil), fun e h => (by cases h)⟩
theorem IV.mono (h : IV C R v) (hC : ∀ r x, x ∈ C r → x ∈ C' r) (hR : ∀ x ∈ R, x ∈ R') : IV C' R' v := ⟨h.right, fun r x hx => hC _ _ (h.ed r x hx), fun e he => hR _ (h.rep e he)⟩
theorem WV.mono (h : WV C R v) (hC : ∀ r x, x ∈ C r → x ∈ C' r) (hR : ∀ x ∈ R, x ∈ R') : WV C' R' v := ⟨h.can, fun r x hx => hC _ _ (h.ed r x hx), fun e he => hR _ (h.rep e he)⟩
theorem IV.lat {f : Bool → Bool → Bool} (hf : f false false = false) (ha : IV C R a) (hb : IV C R b) : WV C R (lat f a b) := by
  refine ⟨lat_can f ha.right hb.right, fun r x hx => ?_, fun e he => ?_⟩
  · rw [lat_kn hf ha.right hb.right] at hx
    rcases ed_op hf (knV_nrm ha.right r) (knV_nrm hb.right r) hx with h | h
    · exact ha.ed r x h
    · exact hb.ed r x h
  · have := srt_mem.1 (lat_reps e he)
    rcases List.mem_append.1 this with h | h
    · obtain ⟨e', he', h⟩ := List.mem_map.1 h
      rw [← h]; exact ha.rep e' he'
    · obtain ⟨e', he', h⟩ := List.mem_map.1 h
      rw [← h]; exact hb.rep e' he'
theorem can_holes_len {e : En} (h : CanE e) {L : List Nat} (hL : ∀ x, Ed (kn e) x → x ∈ L) : e.holes.length ≤ L.length + 2 := by
  have h1 := can_ofS h
  have h2 := (can_kn h).1
  have hn := kn_nrm h.1
  rw [ofS_cons h2] at h1
  have h3 : e.holes = opS fMinus [⟨0, top (kn e)⟩] (kn e) := by
    have := congrArg (fun p => p.1.holes) h1
    exact this.symm
  have ht := (top_mem hn h2).2
  have h0 := nrm_one (Nat.zero_le (top (kn e))) ht
  rw [h3]
  have := ed_len (C := 0 :: (top (kn e) + 1) :: L) (opS_nrm (f := fMinus) h0 hn) fun x hx => by
    rcases ed_op fM0 h0 hn hx with h | h
    · rcases ed_one h with h | h <;> simp [h]
    · simp [hL x h]
  simpa using this
theorem asc_reps (h : v.Pairwise fun a b => a.rep < b.rep) : Asc (reps v) := by
  unfold Asc reps
  rw [List.pairwise_map]
  exact h
theorem WV.bv (h : WV C R v) {n m : Nat} (hC : ∀ r, (C r).length ≤ n) (hR : R.length ≤ m) : BV m (n + 2) v := by
  refine ⟨h.can.right, ?_, fun e he => ?_⟩
  · have := ascLen (reps v) R (asc_reps h.can.2) fun y hy => by
      obtain ⟨e, he, rfl⟩ := List.mem_map.1 hy
      exact h.rep e he
    simp only [reps, List.length_map] at this
    omega
  · have := can_holes_len (h.can.1 e he) (L := C e.rep) fun x hx => h.ed e.rep x (by rw [knV_mem h.can.2 he]; exact hx)
    have := hC e.rep
    omega
theorem IV.of (h : RightV v) : IV (fun r => cuts (knV v r)) (reps v) v := ⟨h, fun r x hx => ed_cuts (knV_nrm h r).ivs2 hx, fun e he => List.mem_map.2 ⟨e, he, rfl⟩⟩
end Go.Proofs.YtjmhmeadcphfmaaGreatDoor
namespace Go.Proofs.YtjmhmeadcphfmaaGreatDoor
set_option linter.unusedVariables false
set_option linter.unusedSimpArgs false
open Go.RowKit
end Go.Proofs.YtjmhmeadcphfmaaGreatDoor
namespace Go.Proofs.YtjmhmeadcphfmaaGreatDoor
set_option linter.unusedVariables false
set_option linter.unusedSimpArgs false
open Go.RowKit
set_option maxRecDepth 100000
theorem few_c (v : List En) (hl : v.length ≤ 9223372036854775807) : Cn Tryz.prog 74 [vp v] (.v (.bool (fewB v))) := by
  refine cn_go Tryz.func74 [] 1 (by kernel_rfl) rfl (by simp [go_sem, seval]) ?_
  conv => arg 4; cbv
  conv => enter [5, 1]; cbv
  try simp (maxSteps := 2000000) (disch := omega) only [go_sem, seval]
  try repeat ((with_reducible refine And.intro ?_ ?_); focus (first | omega | assumption | exact True.intro | (show anyD _ _ = true; exact rfl) | (simp only [List.length_map, List.length_append, List.length_cons, List.length_nil, List.length_take, List.length_drop]; omega)))
  refine pLoop.go (fun k => k ≤ v.length ∧ fewB v = ((v.drop k).all (fun e => decide (e.holes.length ≤ 30)) && decide (v.length ≤ 20))) (fun k => [(3, .v (.int .i64 (k : Nat)))]) (fun _ => []) (fun k => v.length - k) 0 [3] ?_ ?_ ?_
  · exact ⟨Nat.zero_le _, rfl⟩
  · try simp (maxSteps := 2000000) (disch := omega) only [go_sem, seval]
    try repeat ((with_reducible refine And.intro ?_ ?_); focus (first | omega | assumption | exact True.intro | (show anyD _ _ = true; exact rfl) | (simp only [List.length_map, List.length_append, List.length_cons, List.length_nil, List.length_take, List.length_drop]; omega)))
  · rintro k ⟨hk, hm⟩
    try simp (maxSteps := 2000000) (disch := omega) only [go_sem, seval]
    try repeat ((with_reducible refine And.intro ?_ ?_); focus (first | omega | assumption | exact True.intro | (show anyD _ _ = true; exact rfl) | (simp only [List.length_map, List.length_append, List.length_cons, List.length_nil, List.length_take, List.length_drop]; omega)))
    (first | refine brP.mk (fun h => ?_) (fun h => ?_) | refine gdP.mkt (fun h => ?_) (fun h => ?_) | refine gdP.mkf (fun h => ?_) (fun h => ?_) | refine pkP.mk (fun h => ?_) (fun h => ?_)) <;> (try simp only [Bool.not_true, Bool.not_false, decide_eq_true_eq, decide_eq_false_iff_not, Bool.and_eq_true, Bool.or_eq_true, Bool.not_eq_true', Bool.not_eq_false', Bool.and_eq_false_iff, Bool.or_eq_false_iff, Nat.not_lt, Int.not_lt, Nat.not_le, Int.not_le, Int.ofNat_lt, Int.ofNat_le, Int.ofNat_inj, Bool.xor_false, Bool.false_xor, Bool.true_xor, Bool.xor_true] at h) <;> (try simp (maxSteps := 2000000) (disch := omega) only [go_sem, seval]) <;> (try repeat ((with_reducible refine And.intro ?_ ?_); focus (first | omega | assumption | exact True.intro | (show anyD _ _ = true; exact rfl) | (simp only [List.length_map, List.length_append, List.length_cons, List.length_nil, List.length_take, List.length_drop]; omega))))
    · rw [List.drop_eq_getElem_cons h, List.all_cons] at hm
      try simp (maxSteps := 2000000) (disch := omega) only [go_sem, seval]
      try repeat ((with_reducible refine And.intro ?_ ?_); focus (first | omega | assumption | exact True.intro | (show anyD _ _ = true; exact rfl) | (simp only [List.length_map, List.length_append, List.length_cons, List.length_nil, List.length_take, List.length_drop]; omega)))
      (first | refine brP.mk (fun h2 => ?_) (fun h2 => ?_) | refine gdP.mkt (fun h2 => ?_) (fun h2 => ?_) | refine gdP.mkf (fun h2 => ?_) (fun h2 => ?_) | refine pkP.mk (fun h2 => ?_) (fun h2 => ?_)) <;> (try simp only [Bool.not_true, Bool.not_false, decide_eq_true_eq, decide_eq_false_iff_not, Bool.and_eq_true, Bool.or_eq_true, Bool.not_eq_true', Bool.not_eq_false', Bool.and_eq_false_iff, Bool.or_eq_false_iff, Nat.not_lt, Int.not_lt, Nat.not_le, Int.not_le, Int.ofNat_lt, Int.ofNat_le, Int.ofNat_inj, Bool.xor_false, Bool.false_xor, Bool.true_xor, Bool.xor_true] at h2) <;> (try simp (maxSteps := 2000000) (disch := omega) only [go_sem, seval]) <;> (try repeat ((with_reducible refine And.intro ?_ ?_); focus (first | omega | assumption | exact True.intro | (show anyD _ _ = true; exact rfl) | (simp only [List.length_map, List.length_append, List.length_cons, List.length_nil, List.length_take, List.length_drop]; omega))))
      · rw [hm, decide_eq_false (by omega)]
        rfl
      · rw [decide_eq_true (by omega), Bool.true_and] at hm
        exact ⟨k + 1, ⟨h, hm⟩, by omega, rfl⟩
    · rw [hm, List.drop_of_length_le (by omega)]
      simp
      omega
theorem nan_c (x : Nat) : Cn Tryz.prog 208 [.v (.int .u64 x)] (.v (.bool false)) := by
  refine cn_go Tryz.func208 [] 1 (by kernel_rfl) rfl (by simp [go_sem, seval]) ?_
  conv => arg 4; cbv
  conv => enter [5, 1]; cbv
  try simp (maxSteps := 2000000) (disch := omega) only [go_sem, seval]
  try repeat ((with_reducible refine And.intro ?_ ?_); focus (first | omega | assumption | exact True.intro | (show anyD _ _ = true; exact rfl) | (simp only [List.length_map, List.length_append, List.length_cons, List.length_nil, List.length_take, List.length_drop]; omega)))
theorem cmp_c (x y : Nat) : Cn Tryz.prog 176 [.v (.int .u64 x), .v (.int .u64 y)] (.v (.int .i64 (if x < y then -1 else if y < x then 1 else 0))) := by
  refine cn_go Tryz.func176 [] 2 (by kernel_rfl) rfl (by simp [go_sem, seval]) ?_
  conv => arg 4; cbv
  conv => enter [5, 1]; cbv
  try simp (maxSteps := 2000000) (disch := omega) only [go_sem, seval]
  try repeat ((with_reducible refine And.intro ?_ ?_); focus (first | omega | assumption | exact True.intro | (show anyD _ _ = true; exact rfl) | (simp only [List.length_map, List.length_append, List.length_cons, List.length_nil, List.length_take, List.length_drop]; omega)))
  (first | refine callP.mk (nan_c x) rfl ?_ | refine callQ.mk (nan_c x) rfl ?_ | refine callO.rd (nan_c x) rfl ?_ | refine callO.mk (nan_c x) rfl ?_)
  try simp (maxSteps := 2000000) (disch := omega) only [go_sem, seval]
  try repeat ((with_reducible refine And.intro ?_ ?_); focus (first | omega | assumption | exact True.intro | (show anyD _ _ = true; exact rfl) | (simp only [List.length_map, List.length_append, List.length_cons, List.length_nil, List.length_take, List.length_drop]; omega)))
  (first | refine callP.mk (nan_c y) rfl ?_ | refine callQ.mk (nan_c y) rfl ?_ | refine callO.rd (nan_c y) rfl ?_ | refine callO.mk (nan_c y) rfl ?_)
  try simp (maxSteps := 2000000) (disch := omega) only [go_sem, seval]
  try repeat ((with_reducible refine And.intro ?_ ?_); focus (first | omega | assumption | exact True.intro | (show anyD _ _ = true; exact rfl) | (simp only [List.length_map, List.length_append, List.length_cons, List.length_nil, List.length_take, List.length_drop]; omega)))
  (first | refine brP.mk (fun h1 => ?_) (fun h1 => ?_) | refine gdP.mkt (fun h1 => ?_) (fun h1 => ?_) | refine gdP.mkf (fun h1 => ?_) (fun h1 => ?_) | refine pkP.mk (fun h1 => ?_) (fun h1 => ?_)) <;> (try simp only [Bool.not_true, Bool.not_false, decide_eq_true_eq, decide_eq_false_iff_not, Bool.and_eq_true, Bool.or_eq_true, Bool.not_eq_true', Bool.not_eq_false', Bool.and_eq_false_iff, Bool.or_eq_false_iff, Nat.not_lt, Int.not_lt, Nat.not_le, Int.not_le, Int.ofNat_lt, Int.ofNat_le, Int.ofNat_inj, Bool.xor_false, Bool.false_xor, Bool.true_xor, Bool.xor_true] at h1) <;> (try simp (maxSteps := 2000000) (disch := omega) only [go_sem, seval]) <;> (try repeat ((with_reducible refine And.intro ?_ ?_); focus (first | omega | assumption | exact True.intro | (show anyD _ _ = true; exact rfl) | (simp only [List.length_map, List.length_append, List.length_cons, List.length_nil, List.length_take, List.length_drop]; omega))))
  · rw [if_pos h1]
  · rw [if_neg (by omega)]
    (first | refine brP.mk (fun h2 => ?_) (fun h2 => ?_) | refine gdP.mkt (fun h2 => ?_) (fun h2 => ?_) | refine gdP.mkf (fun h2 => ?_) (fun h2 => ?_) | refine pkP.mk (fun h2 => ?_) (fun h2 => ?_)) <;> (try simp only [Bool.not_true, Bool.not_false, decide_eq_true_eq, decide_eq_false_iff_not, Bool.and_eq_true, Bool.or_eq_true, Bool.not_eq_true', Bool.not_eq_false', Bool.and_eq_false_iff, Bool.or_eq_false_iff, Nat.not_lt, Int.not_lt, Nat.not_le, Int.not_le, Int.ofNat_lt, Int.ofNat_le, Int.ofNat_inj, Bool.xor_false, Bool.false_xor, Bool.true_xor, Bool.xor_true] at h2) <;> (try simp (maxSteps := 2000000) (disch := omega) only [go_sem, seval]) <;> (try repeat ((with_reducible refine And.intro ?_ ?_); focus (first | omega | assumption | exact True.intro | (show anyD _ _ = true; exact rfl) | (simp only [List.length_map, List.length_append, List.length_cons, List.length_nil, List.length_take, List.length_drop]; omega))))
    · rw [if_pos h2]
    · rw [if_neg (by omega)]
theorem key_c (r : Nat) (e : En) : Cn Tryz.prog 144 [.v (.int .u64 r), ep e] (.v (.int .i64 (if e.rep < r then -1 else if r < e.rep then 1 else 0))) := by
  refine cn_go Tryz.func144 [] 2 (by kernel_rfl) rfl (by simp [go_sem, seval]) ?_
  conv => arg 4; cbv
  conv => enter [5, 1]; cbv
  try simp (maxSteps := 2000000) (disch := omega) only [go_sem, seval]
  try repeat ((with_reducible refine And.intro ?_ ?_); focus (first | omega | assumption | exact True.intro | (show anyD _ _ = true; exact rfl) | (simp only [List.length_map, List.length_append, List.length_cons, List.length_nil, List.length_take, List.length_drop]; omega)))
  (first | refine callP.mk (cmp_c e.rep r) rfl ?_ | refine callQ.mk (cmp_c e.rep r) rfl ?_ | refine callO.rd (cmp_c e.rep r) rfl ?_ | refine callO.mk (cmp_c e.rep r) rfl ?_)
  try simp (maxSteps := 2000000) (disch := omega) only [go_sem, seval]
  try repeat ((with_reducible refine And.intro ?_ ?_); focus (first | omega | assumption | exact True.intro | (show anyD _ _ = true; exact rfl) | (simp only [List.length_map, List.length_append, List.length_cons, List.length_nil, List.length_take, List.length_drop]; omega)))
theorem sameV_c (a b : List En) (hl : a.length ≤ 1152921504606846976) (hh : ∀ e ∈ a, e.holes.length ≤ 1152921504606846976) : Cn Tryz.prog 38 [vp a, vp b] (.v (.bool (decide (a = b)))) := by
  refine cn_go Tryz.func38 [] 2 (by kernel_rfl) rfl (by simp [go_sem, seval]) ?_
  conv => arg 4; cbv
  conv => enter [5, 1]; cbv
  try simp (maxSteps := 2000000) (disch := omega) only [go_sem, seval]
  try repeat ((with_reducible refine And.intro ?_ ?_); focus (first | omega | assumption | exact True.intro | (show anyD _ _ = true; exact rfl) | (simp only [List.length_map, List.length_append, List.length_cons, List.length_nil, List.length_take, List.length_drop]; omega)))
  (first | refine brP.mk (fun h0 => ?_) (fun h0 => ?_) | refine gdP.mkt (fun h0 => ?_) (fun h0 => ?_) | refine gdP.mkf (fun h0 => ?_) (fun h0 => ?_) | refine pkP.mk (fun h0 => ?_) (fun h0 => ?_)) <;> (try simp only [Bool.not_true, Bool.not_false, decide_eq_true_eq, decide_eq_false_iff_not, Bool.and_eq_true, Bool.or_eq_true, Bool.not_eq_true', Bool.not_eq_false', Bool.and_eq_false_iff, Bool.or_eq_false_iff, Nat.not_lt, Int.not_lt, Nat.not_le, Int.not_le, Int.ofNat_lt, Int.ofNat_le, Int.ofNat_inj, Bool.xor_false, Bool.false_xor, Bool.true_xor, Bool.xor_true] at h0) <;> (try simp (maxSteps := 2000000) (disch := omega) only [go_sem, seval]) <;> (try repeat ((with_reducible refine And.intro ?_ ?_); focus (first | omega | assumption | exact True.intro | (show anyD _ _ = true; exact rfl) | (simp only [List.length_map, List.length_append, List.length_cons, List.length_nil, List.length_take, List.length_drop]; omega))))
  · symm
    rw [decide_eq_false_iff_not]
    rintro rfl
    exact h0 rfl
  · have h0' : a.length = b.length := by simpa using h0
    clear h0
    refine pLoop.go (fun k => k ≤ a.length ∧ (a = b ↔ a.drop k = b.drop k)) (fun k => [(5, .v (.int .i64 (k : Nat)))]) (fun _ => []) (fun k => a.length - k) 0 [5] ?_ ?_ ?_
    · exact ⟨Nat.zero_le _, Iff.rfl⟩
    · try simp (maxSteps := 2000000) (disch := omega) only [go_sem, seval]
      try repeat ((with_reducible refine And.intro ?_ ?_); focus (first | omega | assumption | exact True.intro | (show anyD _ _ = true; exact rfl) | (simp only [List.length_map, List.length_append, List.length_cons, List.length_nil, List.length_take, List.length_drop]; omega)))
    · rintro k ⟨hk, hm⟩
      try simp (maxSteps := 2000000) (disch := omega) only [go_sem, seval]
      try repeat ((with_reducible refine And.intro ?_ ?_); focus (first | omega | assumption | exact True.intro | (show anyD _ _ = true; exact rfl) | (simp only [List.length_map, List.length_append, List.length_cons, List.length_nil, List.length_take, List.length_drop]; omega)))
      (first | refine brP.mk (fun h => ?_) (fun h => ?_) | refine gdP.mkt (fun h => ?_) (fun h => ?_) | refine gdP.mkf (fun h => ?_) (fun h => ?_) | refine pkP.mk (fun h => ?_) (fun h => ?_)) <;> (try simp only [Bool.not_true, Bool.not_false, decide_eq_true_eq, decide_eq_false_iff_not, Bool.and_eq_true, Bool.or_eq_true, Bool.not_eq_true', Bool.not_eq_false', Bool.and_eq_false_iff, Bool.or_eq_false_iff, Nat.not_lt, Int.not_lt, Nat.not_le, Int.not_le, Int.ofNat_lt, Int.ofNat_le, Int.ofNat_inj, Bool.xor_false, Bool.false_xor, Bool.true_xor, Bool.xor_true] at h) <;> (try simp (maxSteps := 2000000) (disch := omega) only [go_sem, seval]) <;> (try repeat ((with_reducible refine And.intro ?_ ?_); focus (first | omega | assumption | exact True.intro | (show anyD _ _ = true; exact rfl) | (simp only [List.length_map, List.length_append, List.length_cons, List.length_nil, List.length_take, List.length_drop]; omega))))
      · have hk' : k < b.length := by omega
        rw [List.drop_eq_getElem_cons h, List.drop_eq_getElem_cons hk', List.cons.injEq] at hm
        try simp (maxSteps := 2000000) (disch := omega) only [go_sem, seval]
        try repeat ((with_reducible refine And.intro ?_ ?_); focus (first | omega | assumption | exact True.intro | (show anyD _ _ = true; exact rfl) | (simp only [List.length_map, List.length_append, List.length_cons, List.length_nil, List.length_take, List.length_drop]; omega)))
        (first | refine callP.mk (same7_c a[k] b[k] (hh _ (List.getElem_mem h))) rfl ?_ | refine callQ.mk (same7_c a[k] b[k] (hh _ (List.getElem_mem h))) rfl ?_ | refine callO.rd (same7_c a[k] b[k] (hh _ (List.getElem_mem h))) rfl ?_ | refine callO.mk (same7_c a[k] b[k] (hh _ (List.getElem_mem h))) rfl ?_)
        try simp (maxSteps := 2000000) (disch := omega) only [go_sem, seval]
        try repeat ((with_reducible refine And.intro ?_ ?_); focus (first | omega | assumption | exact True.intro | (show anyD _ _ = true; exact rfl) | (simp only [List.length_map, List.length_append, List.length_cons, List.length_nil, List.length_take, List.length_drop]; omega)))
        (first | refine brP.mk (fun e => ?_) (fun e => ?_) | refine gdP.mkt (fun e => ?_) (fun e => ?_) | refine gdP.mkf (fun e => ?_) (fun e => ?_) | refine pkP.mk (fun e => ?_) (fun e => ?_)) <;> (try simp only [Bool.not_true, Bool.not_false, decide_eq_true_eq, decide_eq_false_iff_not, Bool.and_eq_true, Bool.or_eq_true, Bool.not_eq_true', Bool.not_eq_false', Bool.and_eq_false_iff, Bool.or_eq_false_iff, Nat.not_lt, Int.not_lt, Nat.not_le, Int.not_le, Int.ofNat_lt, Int.ofNat_le, Int.ofNat_inj, Bool.xor_false, Bool.false_xor, Bool.true_xor, Bool.xor_true] at e) <;> (try simp (maxSteps := 2000000) (disch := omega) only [go_sem, seval]) <;> (try repeat ((with_reducible refine And.intro ?_ ?_); focus (first | omega | assumption | exact True.intro | (show anyD _ _ = true; exact rfl) | (simp only [List.length_map, List.length_append, List.length_cons, List.length_nil, List.length_take, List.length_drop]; omega))))
        · symm
          rw [decide_eq_false_iff_not]
          intro he
          exact e (hm.1 he).1
        · refine ⟨k + 1, ⟨h, ?_⟩, by omega, rfl⟩
          rw [hm]
          exact ⟨fun h => h.2, fun h => ⟨e, h⟩⟩
      · rw [eq_comm, decide_eq_true_eq, hm, List.drop_of_length_le (by omega), List.drop_of_length_le (by omega)]
theorem refFind_c (v : List En) (r : Nat) (hl : v.length ≤ 1152921504606846976) : Cn Tryz.prog 135 [vp v, .v (.int .u64 r)] (.v (.int .i64 (fdV r 0 v))) := by
  refine cn_go Tryz.func135 [] 2 (by kernel_rfl) rfl (by simp [go_sem, seval]) ?_
  conv => arg 4; cbv
  conv => enter [5, 1]; cbv
  try simp (maxSteps := 2000000) (disch := omega) only [go_sem, seval]
  try repeat ((with_reducible refine And.intro ?_ ?_); focus (first | omega | assumption | exact True.intro | (show anyD _ _ = true; exact rfl) | (simp only [List.length_map, List.length_append, List.length_cons, List.length_nil, List.length_take, List.length_drop]; omega)))
  refine pLoop.go (fun k => k ≤ v.length ∧ fdV r 0 v = fdV r k (v.drop k)) (fun k => [(5, .v (.int .i64 (k : Nat)))]) (fun _ => []) (fun k => v.length - k) 0 [5] ?_ ?_ ?_
  · exact ⟨Nat.zero_le _, rfl⟩
  · try simp (maxSteps := 2000000) (disch := omega) only [go_sem, seval]
    try repeat ((with_reducible refine And.intro ?_ ?_); focus (first | omega | assumption | exact True.intro | (show anyD _ _ = true; exact rfl) | (simp only [List.length_map, List.length_append, List.length_cons, List.length_nil, List.length_take, List.length_drop]; omega)))
  · rintro k ⟨hk, hm⟩
    try simp (maxSteps := 2000000) (disch := omega) only [go_sem, seval]
    try repeat ((with_reducible refine And.intro ?_ ?_); focus (first | omega | assumption | exact True.intro | (show anyD _ _ = true; exact rfl) | (simp only [List.length_map, List.length_append, List.length_cons, List.length_nil, List.length_take, List.length_drop]; omega)))
    (first | refine brP.mk (fun h => ?_) (fun h => ?_) | refine gdP.mkt (fun h => ?_) (fun h => ?_) | refine gdP.mkf (fun h => ?_) (fun h => ?_) | refine pkP.mk (fun h => ?_) (fun h => ?_)) <;> (try simp only [Bool.not_true, Bool.not_false, decide_eq_true_eq, decide_eq_false_iff_not, Bool.and_eq_true, Bool.or_eq_true, Bool.not_eq_true', Bool.not_eq_false', Bool.and_eq_false_iff, Bool.or_eq_false_iff, Nat.not_lt, Int.not_lt, Nat.not_le, Int.not_le, Int.ofNat_lt, Int.ofNat_le, Int.ofNat_inj, Bool.xor_false, Bool.false_xor, Bool.true_xor, Bool.xor_true] at h) <;> (try simp (maxSteps := 2000000) (disch := omega) only [go_sem, seval]) <;> (try repeat ((with_reducible refine And.intro ?_ ?_); focus (first | omega | assumption | exact True.intro | (show anyD _ _ = true; exact rfl) | (simp only [List.length_map, List.length_append, List.length_cons, List.length_nil, List.length_take, List.length_drop]; omega))))
    · rw [List.drop_eq_getElem_cons h, fdV] at hm
      try simp (maxSteps := 2000000) (disch := omega) only [go_sem, seval]
      try repeat ((with_reducible refine And.intro ?_ ?_); focus (first | omega | assumption | exact True.intro | (show anyD _ _ = true; exact rfl) | (simp only [List.length_map, List.length_append, List.length_cons, List.length_nil, List.length_take, List.length_drop]; omega)))
      (first | refine brP.mk (fun h2 => ?_) (fun h2 => ?_) | refine gdP.mkt (fun h2 => ?_) (fun h2 => ?_) | refine gdP.mkf (fun h2 => ?_) (fun h2 => ?_) | refine pkP.mk (fun h2 => ?_) (fun h2 => ?_)) <;> (try simp only [Bool.not_true, Bool.not_false, decide_eq_true_eq, decide_eq_false_iff_not, Bool.and_eq_true, Bool.or_eq_true, Bool.not_eq_true', Bool.not_eq_false', Bool.and_eq_false_iff, Bool.or_eq_false_iff, Nat.not_lt, Int.not_lt, Nat.not_le, Int.not_le, Int.ofNat_lt, Int.ofNat_le, Int.ofNat_inj, Bool.xor_false, Bool.false_xor, Bool.true_xor, Bool.xor_true] at h2) <;> (try simp (maxSteps := 2000000) (disch := omega) only [go_sem, seval]) <;> (try repeat ((with_reducible refine And.intro ?_ ?_); focus (first | omega | assumption | exact True.intro | (show anyD _ _ = true; exact rfl) | (simp only [List.length_map, List.length_append, List.length_cons, List.length_nil, List.length_take, List.length_drop]; omega))))
      · rw [hm, if_pos h2]
      · rw [if_neg h2] at hm
        exact ⟨k + 1, ⟨h, hm⟩, by omega, rfl⟩
    · rw [hm, List.drop_of_length_le (by omega)]
      rfl
end Go.Proofs.YtjmhmeadcphfmaaGreatDoor
namespace Go.Proofs.YtjmhmeadcphfmaaGreatDoor
set_option linter.unusedVariables false
set_option linter.unusedSimpArgs false
open Go.RowKit
set_option maxRecDepth 100000
def kfn : PV := .cp [.fn (.func 144) [] []] 0
attribute [go_sem] kfn
theorem vfind1_c (e : En) (r : Nat) : Cn Tryz.prog 158 [ep e, .v (.int .u64 r), kfn] (.v (.int .i64 (if e.rep < r then -1 else if r < e.rep then 1 else 0))) := by
  refine cn_go Tryz.func158 [] 3 (by kernel_rfl) rfl (by simp [go_sem, seval]) ?_
  conv => arg 4; cbv
  conv => enter [5, 1]; cbv
  try simp (maxSteps := 2000000) (disch := omega) only [go_sem, seval]
  try repeat ((with_reducible refine And.intro ?_ ?_); focus (first | omega | assumption | exact True.intro | (show anyD _ _ = true; exact rfl) | (simp only [List.length_map, List.length_append, List.length_cons, List.length_nil, List.length_take, List.length_drop]; omega)))
  (first | refine callP.mk (key_c r e) rfl ?_ | refine callQ.mk (key_c r e) rfl ?_ | refine callO.rd (key_c r e) rfl ?_ | refine callO.mk (key_c r e) rfl ?_)
  try simp (maxSteps := 2000000) (disch := omega) only [go_sem, seval]
  try repeat ((with_reducible refine And.intro ?_ ?_); focus (first | omega | assumption | exact True.intro | (show anyD _ _ = true; exact rfl) | (simp only [List.length_map, List.length_append, List.length_cons, List.length_nil, List.length_take, List.length_drop]; omega)))
theorem bsfV_c (v : List En) (r : Nat) (i : Nat) (hi : i ≤ v.length) (h1 : ∀ j, (h : j < v.length) → j < i → v[j].rep < r) (h2 : ∀ j, (h : j < v.length) → i ≤ j → r ≤ v[j].rep) (hl : v.length ≤ 1152921504606846976) :
    Cn Tryz.prog 157 [vp v, .v (.int .u64 r), .fn (.func 158) [] [kfn]] (.tup [.v (.int .i64 i), .v (.bool (if h : i < v.length then decide (v[i].rep = r) else false))]) := by
  refine cn_go Tryz.func157 [] 3 (by kernel_rfl) rfl (by simp [go_sem, seval]) ?_
  conv => arg 4; cbv
  conv => enter [5, 1]; cbv
  try simp (maxSteps := 2000000) (disch := omega) only [go_sem, seval]
  try repeat ((with_reducible refine And.intro ?_ ?_); focus (first | omega | assumption | exact True.intro | (show anyD _ _ = true; exact rfl) | (simp only [List.length_map, List.length_append, List.length_cons, List.length_nil, List.length_take, List.length_drop]; omega)))
  refine pLoop.go (fun p : Nat × Nat => p.1 ≤ i ∧ i ≤ p.2 ∧ p.2 ≤ v.length) (fun p => [(9, .v (.int .i64 (p.1 : Nat))), (10, .v (.int .i64 (p.2 : Nat)))]) (fun _ => []) (fun p => p.2 - p.1) (0, v.length) [9, 10] ?_ ?_ ?_
  · exact ⟨Nat.zero_le _, hi, Nat.le_refl _⟩
  · try simp (maxSteps := 2000000) (disch := omega) only [go_sem, seval]
    try repeat ((with_reducible refine And.intro ?_ ?_); focus (first | omega | assumption | exact True.intro | (show anyD _ _ = true; exact rfl) | (simp only [List.length_map, List.length_append, List.length_cons, List.length_nil, List.length_take, List.length_drop]; omega)))
  · rintro ⟨p, q⟩ ⟨k1, k2, k3⟩
    simp only at k1 k2 k3
    try simp (maxSteps := 2000000) (disch := omega) only [go_sem, seval]
    try repeat ((with_reducible refine And.intro ?_ ?_); focus (first | omega | assumption | exact True.intro | (show anyD _ _ = true; exact rfl) | (simp only [List.length_map, List.length_append, List.length_cons, List.length_nil, List.length_take, List.length_drop]; omega)))
    (first | refine brP.mk (fun h => ?_) (fun h => ?_) | refine gdP.mkt (fun h => ?_) (fun h => ?_) | refine gdP.mkf (fun h => ?_) (fun h => ?_) | refine pkP.mk (fun h => ?_) (fun h => ?_)) <;> (try simp only [Bool.not_true, Bool.not_false, decide_eq_true_eq, decide_eq_false_iff_not, Bool.and_eq_true, Bool.or_eq_true, Bool.not_eq_true', Bool.not_eq_false', Bool.and_eq_false_iff, Bool.or_eq_false_iff, Nat.not_lt, Int.not_lt, Nat.not_le, Int.not_le, Int.ofNat_lt, Int.ofNat_le, Int.ofNat_inj, Bool.xor_false, Bool.false_xor, Bool.true_xor, Bool.xor_true] at h) <;> (try simp (maxSteps := 2000000) (disch := omega) only [go_sem, seval]) <;> (try repeat ((with_reducible refine And.intro ?_ ?_); focus (first | omega | assumption | exact True.intro | (show anyD _ _ = true; exact rfl) | (simp only [List.length_map, List.length_append, List.length_cons, List.length_nil, List.length_take, List.length_drop]; omega))))
    · have hm : (p + q) / 2 < v.length := by omega
      have a1 := h1 _ hm
      have a2 := h2 _ hm
      try simp (maxSteps := 2000000) (disch := omega) only [go_sem, seval]
      try repeat ((with_reducible refine And.intro ?_ ?_); focus (first | omega | assumption | exact True.intro | (show anyD _ _ = true; exact rfl) | (simp only [List.length_map, List.length_append, List.length_cons, List.length_nil, List.length_take, List.length_drop]; omega)))
      (first | refine callP.mk (vfind1_c v[(p + q) / 2] r) rfl ?_ | refine callQ.mk (vfind1_c v[(p + q) / 2] r) rfl ?_ | refine callO.rd (vfind1_c v[(p + q) / 2] r) rfl ?_ | refine callO.mk (vfind1_c v[(p + q) / 2] r) rfl ?_)
      try simp (maxSteps := 2000000) (disch := omega) only [go_sem, seval]
      try repeat ((with_reducible refine And.intro ?_ ?_); focus (first | omega | assumption | exact True.intro | (show anyD _ _ = true; exact rfl) | (simp only [List.length_map, List.length_append, List.length_cons, List.length_nil, List.length_take, List.length_drop]; omega)))
      (first | refine brP.mk (fun h4 => ?_) (fun h4 => ?_) | refine gdP.mkt (fun h4 => ?_) (fun h4 => ?_) | refine gdP.mkf (fun h4 => ?_) (fun h4 => ?_) | refine pkP.mk (fun h4 => ?_) (fun h4 => ?_)) <;> (try simp only [Bool.not_true, Bool.not_false, decide_eq_true_eq, decide_eq_false_iff_not, Bool.and_eq_true, Bool.or_eq_true, Bool.not_eq_true', Bool.not_eq_false', Bool.and_eq_false_iff, Bool.or_eq_false_iff, Nat.not_lt, Int.not_lt, Nat.not_le, Int.not_le, Int.ofNat_lt, Int.ofNat_le, Int.ofNat_inj, Bool.xor_false, Bool.false_xor, Bool.true_xor, Bool.xor_true] at h4) <;> (try simp (maxSteps := 2000000) (disch := omega) only [go_sem, seval]) <;> (try repeat ((with_reducible refine And.intro ?_ ?_); focus (first | omega | assumption | exact True.intro | (show anyD _ _ = true; exact rfl) | (simp only [List.length_map, List.length_append, List.length_cons, List.length_nil, List.length_take, List.length_drop]; omega))))
      · refine ⟨((p + q) / 2 + 1, q), ⟨?_, k2, k3⟩, by simp only; omega, rfl, rfl⟩
        simp only
        refine Nat.lt_of_not_le fun h5 => ?_
        have := a2 h5
        rw [if_neg (by omega)] at h4
        split at h4 <;> omega
      · refine ⟨(p, (p + q) / 2), ⟨k1, ?_, by simp only; omega⟩, by simp only; omega, rfl, rfl⟩
        simp only
        refine Nat.le_of_not_lt fun h5 => ?_
        have := a1 h5
        rw [if_pos this] at h4
        omega
    · obtain rfl : p = i := by omega
      obtain rfl : q = p := by omega
      (first | refine brP.mk (fun h4 => ?_) (fun h4 => ?_) | refine gdP.mkt (fun h4 => ?_) (fun h4 => ?_) | refine gdP.mkf (fun h4 => ?_) (fun h4 => ?_) | refine pkP.mk (fun h4 => ?_) (fun h4 => ?_)) <;> (try simp only [Bool.not_true, Bool.not_false, decide_eq_true_eq, decide_eq_false_iff_not, Bool.and_eq_true, Bool.or_eq_true, Bool.not_eq_true', Bool.not_eq_false', Bool.and_eq_false_iff, Bool.or_eq_false_iff, Nat.not_lt, Int.not_lt, Nat.not_le, Int.not_le, Int.ofNat_lt, Int.ofNat_le, Int.ofNat_inj, Bool.xor_false, Bool.false_xor, Bool.true_xor, Bool.xor_true] at h4) <;> (try simp (maxSteps := 2000000) (disch := omega) only [go_sem, seval]) <;> (try repeat ((with_reducible refine And.intro ?_ ?_); focus (first | omega | assumption | exact True.intro | (show anyD _ _ = true; exact rfl) | (simp only [List.length_map, List.length_append, List.length_cons, List.length_nil, List.length_take, List.length_drop]; omega))))
      · (first | refine callP.mk (vfind1_c v[q] r) rfl ?_ | refine callQ.mk (vfind1_c v[q] r) rfl ?_ | refine callO.rd (vfind1_c v[q] r) rfl ?_ | refine callO.mk (vfind1_c v[q] r) rfl ?_)
        try simp (maxSteps := 2000000) (disch := omega) only [go_sem, seval]
        try repeat ((with_reducible refine And.intro ?_ ?_); focus (first | omega | assumption | exact True.intro | (show anyD _ _ = true; exact rfl) | (simp only [List.length_map, List.length_append, List.length_cons, List.length_nil, List.length_take, List.length_drop]; omega)))
        have a2 := h2 _ h4 (Nat.le_refl _)
        rw [dif_pos h4, if_neg (by omega)]
        by_cases h5 : v[q].rep = r
        · rw [if_neg (by omega), decide_eq_true h5]
          simp
        · rw [if_pos (by omega), decide_eq_false h5]
          simp
      · rw [dif_neg (by omega)]
theorem vfind_c (v : List En) (r : Nat) (hr : RightV v) (hl : v.length ≤ 1152921504606846976) : Cn Tryz.prog 100 [vp v, .v (.int .u64 r)] (.v (.int .i64 (fdV r 0 v))) := by
  obtain ⟨i, hi, h1, h2⟩ := part_rep hr r
  rw [fdV_part hr h1 h2]
  refine cn_go Tryz.func100 [] 2 (by kernel_rfl) rfl (by simp [go_sem, seval]) ?_
  conv => arg 4; cbv
  conv => enter [5, 1]; cbv
  try simp (maxSteps := 2000000) (disch := omega) only [go_sem, seval]
  try repeat ((with_reducible refine And.intro ?_ ?_); focus (first | omega | assumption | exact True.intro | (show anyD _ _ = true; exact rfl) | (simp only [List.length_map, List.length_append, List.length_cons, List.length_nil, List.length_take, List.length_drop]; omega)))
  (first | refine callP.mk (bsfV_c v r i hi h1 h2 hl) rfl ?_ | refine callQ.mk (bsfV_c v r i hi h1 h2 hl) rfl ?_ | refine callO.rd (bsfV_c v r i hi h1 h2 hl) rfl ?_ | refine callO.mk (bsfV_c v r i hi h1 h2 hl) rfl ?_)
  try simp (maxSteps := 2000000) (disch := omega) only [go_sem, seval]
  try repeat ((with_reducible refine And.intro ?_ ?_); focus (first | omega | assumption | exact True.intro | (show anyD _ _ = true; exact rfl) | (simp only [List.length_map, List.length_append, List.length_cons, List.length_nil, List.length_take, List.length_drop]; omega)))
  by_cases h : i < v.length
  · rw [dif_pos h, dif_pos h]
    (first | refine brP.mk (fun h3 => ?_) (fun h3 => ?_) | refine gdP.mkt (fun h3 => ?_) (fun h3 => ?_) | refine gdP.mkf (fun h3 => ?_) (fun h3 => ?_) | refine pkP.mk (fun h3 => ?_) (fun h3 => ?_)) <;> (try simp only [Bool.not_true, Bool.not_false, decide_eq_true_eq, decide_eq_false_iff_not, Bool.and_eq_true, Bool.or_eq_true, Bool.not_eq_true', Bool.not_eq_false', Bool.and_eq_false_iff, Bool.or_eq_false_iff, Nat.not_lt, Int.not_lt, Nat.not_le, Int.not_le, Int.ofNat_lt, Int.ofNat_le, Int.ofNat_inj, Bool.xor_false, Bool.false_xor, Bool.true_xor, Bool.xor_true] at h3) <;> (try simp (maxSteps := 2000000) (disch := omega) only [go_sem, seval]) <;> (try repeat ((with_reducible refine And.intro ?_ ?_); focus (first | omega | assumption | exact True.intro | (show anyD _ _ = true; exact rfl) | (simp only [List.length_map, List.length_append, List.length_cons, List.length_nil, List.length_take, List.length_drop]; omega))))
    · rw [if_neg h3]
    · rw [if_pos h3]
  · rw [dif_neg h, dif_neg h]
    try simp (maxSteps := 2000000) (disch := omega) only [go_sem, seval]
    try repeat ((with_reducible refine And.intro ?_ ?_); focus (first | omega | assumption | exact True.intro | (show anyD _ _ = true; exact rfl) | (simp only [List.length_map, List.length_append, List.length_cons, List.length_nil, List.length_take, List.length_drop]; omega)))
theorem vhas_c (v : List En) (r c : Nat) (hr : RightV v) (hc : c < M64) (hl : v.length ≤ 1152921504606846976) (hh : ∀ e ∈ v, e.holes.length ≤ 1152921504606846976) : Cn Tryz.prog 41 [vp v, .v (.int .u64 r), .v (.int .u64 c)] (.v (.bool (mem (knV v r) c))) := by
  refine cn_go Tryz.func41 [] 3 (by kernel_rfl) rfl (by simp [go_sem, seval]) ?_
  conv => arg 4; cbv
  conv => enter [5, 1]; cbv
  try simp (maxSteps := 2000000) (disch := omega) only [go_sem, seval]
  try repeat ((with_reducible refine And.intro ?_ ?_); focus (first | omega | assumption | exact True.intro | (show anyD _ _ = true; exact rfl) | (simp only [List.length_map, List.length_append, List.length_cons, List.length_nil, List.length_take, List.length_drop]; omega)))
  (first | refine callP.mk (vfind_c v r hr hl) rfl ?_ | refine callQ.mk (vfind_c v r hr hl) rfl ?_ | refine callO.rd (vfind_c v r hr hl) rfl ?_ | refine callO.mk (vfind_c v r hr hl) rfl ?_)
  rcases fdV_spec r v 0 with ⟨e1, e2⟩ | ⟨i, hi, e1, e2⟩
  · rw [e1, knV_none e2]
    try simp (maxSteps := 2000000) (disch := omega) only [go_sem, seval]
    try repeat ((with_reducible refine And.intro ?_ ?_); focus (first | omega | assumption | exact True.intro | (show anyD _ _ = true; exact rfl) | (simp only [List.length_map, List.length_append, List.length_cons, List.length_nil, List.length_take, List.length_drop]; omega)))
    rfl
  · rw [e1, knV_fd hr hi e2, kn_mem (hr.1 _ (List.getElem_mem hi)) hc, Nat.zero_add]
    try simp (maxSteps := 2000000) (disch := omega) only [go_sem, seval]
    try repeat ((with_reducible refine And.intro ?_ ?_); focus (first | omega | assumption | exact True.intro | (show anyD _ _ = true; exact rfl) | (simp only [List.length_map, List.length_append, List.length_cons, List.length_nil, List.length_take, List.length_drop]; omega)))
    (first | refine callP.mk (ehas_c v[i] c (hr.1 _ (List.getElem_mem hi)) (hh _ (List.getElem_mem hi))) rfl ?_ | refine callQ.mk (ehas_c v[i] c (hr.1 _ (List.getElem_mem hi)) (hh _ (List.getElem_mem hi))) rfl ?_ | refine callO.rd (ehas_c v[i] c (hr.1 _ (List.getElem_mem hi)) (hh _ (List.getElem_mem hi))) rfl ?_ | refine callO.mk (ehas_c v[i] c (hr.1 _ (List.getElem_mem hi)) (hh _ (List.getElem_mem hi))) rfl ?_)
    try simp (maxSteps := 2000000) (disch := omega) only [go_sem, seval]
    try repeat ((with_reducible refine And.intro ?_ ?_); focus (first | omega | assumption | exact True.intro | (show anyD _ _ = true; exact rfl) | (simp only [List.length_map, List.length_append, List.length_cons, List.length_nil, List.length_take, List.length_drop]; omega)))
theorem refCheck_c (v : List En) (hb : ∀ e ∈ v, BdE e) (hl : v.length ≤ 1152921504606846976) (hh : ∀ e ∈ v, e.holes.length ≤ 1152921504606846976) : Cn Tryz.prog 89 [vp v] (.tup [.v (.int .i64 (chkV v).1), .v (.int .i64 (chkV v).2)]) := by
  refine cn_go Tryz.func89 [] 1 (by kernel_rfl) rfl (by simp [go_sem, seval]) ?_
  conv => arg 4; cbv
  conv => enter [5, 1]; cbv
  try simp (maxSteps := 2000000) (disch := omega) only [go_sem, seval]
  try repeat ((with_reducible refine And.intro ?_ ?_); focus (first | omega | assumption | exact True.intro | (show anyD _ _ = true; exact rfl) | (simp only [List.length_map, List.length_append, List.length_cons, List.length_nil, List.length_take, List.length_drop]; omega)))
  refine pLoop.go (fun k => k ≤ v.length ∧ chkV v = hkV v k (v.drop k)) (fun k => [(4, .v (.int .i64 (k : Nat)))]) (fun _ => []) (fun k => v.length - k) 0 [4] ?_ ?_ ?_
  · exact ⟨Nat.zero_le _, rfl⟩
  · try simp (maxSteps := 2000000) (disch := omega) only [go_sem, seval]
    try repeat ((with_reducible refine And.intro ?_ ?_); focus (first | omega | assumption | exact True.intro | (show anyD _ _ = true; exact rfl) | (simp only [List.length_map, List.length_append, List.length_cons, List.length_nil, List.length_take, List.length_drop]; omega)))
  · rintro k ⟨hk, hm⟩
    try simp (maxSteps := 2000000) (disch := omega) only [go_sem, seval]
    try repeat ((with_reducible refine And.intro ?_ ?_); focus (first | omega | assumption | exact True.intro | (show anyD _ _ = true; exact rfl) | (simp only [List.length_map, List.length_append, List.length_cons, List.length_nil, List.length_take, List.length_drop]; omega)))
    (first | refine brP.mk (fun h => ?_) (fun h => ?_) | refine gdP.mkt (fun h => ?_) (fun h => ?_) | refine gdP.mkf (fun h => ?_) (fun h => ?_) | refine pkP.mk (fun h => ?_) (fun h => ?_)) <;> (try simp only [Bool.not_true, Bool.not_false, decide_eq_true_eq, decide_eq_false_iff_not, Bool.and_eq_true, Bool.or_eq_true, Bool.not_eq_true', Bool.not_eq_false', Bool.and_eq_false_iff, Bool.or_eq_false_iff, Nat.not_lt, Int.not_lt, Nat.not_le, Int.not_le, Int.ofNat_lt, Int.ofNat_le, Int.ofNat_inj, Bool.xor_false, Bool.false_xor, Bool.true_xor, Bool.xor_true] at h) <;> (try simp (maxSteps := 2000000) (disch := omega) only [go_sem, seval]) <;> (try repeat ((with_reducible refine And.intro ?_ ?_); focus (first | omega | assumption | exact True.intro | (show anyD _ _ = true; exact rfl) | (simp only [List.length_map, List.length_append, List.length_cons, List.length_nil, List.length_take, List.length_drop]; omega))))
    · rw [List.drop_eq_getElem_cons h, hkV] at hm
      try simp (maxSteps := 2000000) (disch := omega) only [go_sem, seval]
      try repeat ((with_reducible refine And.intro ?_ ?_); focus (first | omega | assumption | exact True.intro | (show anyD _ _ = true; exact rfl) | (simp only [List.length_map, List.length_append, List.length_cons, List.length_nil, List.length_take, List.length_drop]; omega)))
      (first | refine callP.mk (check7_c v[k] (hh _ (List.getElem_mem h)) (hb _ (List.getElem_mem h)).1) rfl ?_ | refine callQ.mk (check7_c v[k] (hh _ (List.getElem_mem h)) (hb _ (List.getElem_mem h)).1) rfl ?_ | refine callO.rd (check7_c v[k] (hh _ (List.getElem_mem h)) (hb _ (List.getElem_mem h)).1) rfl ?_ | refine callO.mk (check7_c v[k] (hh _ (List.getElem_mem h)) (hb _ (List.getElem_mem h)).1) rfl ?_)
      try simp (maxSteps := 2000000) (disch := omega) only [go_sem, seval]
      try repeat ((with_reducible refine And.intro ?_ ?_); focus (first | omega | assumption | exact True.intro | (show anyD _ _ = true; exact rfl) | (simp only [List.length_map, List.length_append, List.length_cons, List.length_nil, List.length_take, List.length_drop]; omega)))
      (first | refine brP.mk (fun h2 => ?_) (fun h2 => ?_) | refine gdP.mkt (fun h2 => ?_) (fun h2 => ?_) | refine gdP.mkf (fun h2 => ?_) (fun h2 => ?_) | refine pkP.mk (fun h2 => ?_) (fun h2 => ?_)) <;> (try simp only [Bool.not_true, Bool.not_false, decide_eq_true_eq, decide_eq_false_iff_not, Bool.and_eq_true, Bool.or_eq_true, Bool.not_eq_true', Bool.not_eq_false', Bool.and_eq_false_iff, Bool.or_eq_false_iff, Nat.not_lt, Int.not_lt, Nat.not_le, Int.not_le, Int.ofNat_lt, Int.ofNat_le, Int.ofNat_inj, Bool.xor_false, Bool.false_xor, Bool.true_xor, Bool.xor_true] at h2) <;> (try simp (maxSteps := 2000000) (disch := omega) only [go_sem, seval]) <;> (try repeat ((with_reducible refine And.intro ?_ ?_); focus (first | omega | assumption | exact True.intro | (show anyD _ _ = true; exact rfl) | (simp only [List.length_map, List.length_append, List.length_cons, List.length_nil, List.length_take, List.length_drop]; omega))))
      · rw [if_pos (by omega)] at hm
        rw [hm]
      · rw [if_neg (by omega)] at hm
        (first | refine brP.mk (fun h3 => ?_) (fun h3 => ?_) | refine gdP.mkt (fun h3 => ?_) (fun h3 => ?_) | refine gdP.mkf (fun h3 => ?_) (fun h3 => ?_) | refine pkP.mk (fun h3 => ?_) (fun h3 => ?_)) <;> (try simp only [Bool.not_true, Bool.not_false, decide_eq_true_eq, decide_eq_false_iff_not, Bool.and_eq_true, Bool.or_eq_true, Bool.not_eq_true', Bool.not_eq_false', Bool.and_eq_false_iff, Bool.or_eq_false_iff, Nat.not_lt, Int.not_lt, Nat.not_le, Int.not_le, Int.ofNat_lt, Int.ofNat_le, Int.ofNat_inj, Bool.xor_false, Bool.false_xor, Bool.true_xor, Bool.xor_true] at h3) <;> (try simp (maxSteps := 2000000) (disch := omega) only [go_sem, seval]) <;> (try repeat ((with_reducible refine And.intro ?_ ?_); focus (first | omega | assumption | exact True.intro | (show anyD _ _ = true; exact rfl) | (simp only [List.length_map, List.length_append, List.length_cons, List.length_nil, List.length_take, List.length_drop]; omega))))
        · have hp := prv_at (v := v) (k := k) (by omega)
          rw [hp] at hm
          try simp (maxSteps := 2000000) (disch := omega) only [go_sem, seval]
          try repeat ((with_reducible refine And.intro ?_ ?_); focus (first | omega | assumption | exact True.intro | (show anyD _ _ = true; exact rfl) | (simp only [List.length_map, List.length_append, List.length_cons, List.length_nil, List.length_take, List.length_drop]; omega)))
          (first | refine brP.mk (fun h4 => ?_) (fun h4 => ?_) | refine gdP.mkt (fun h4 => ?_) (fun h4 => ?_) | refine gdP.mkf (fun h4 => ?_) (fun h4 => ?_) | refine pkP.mk (fun h4 => ?_) (fun h4 => ?_)) <;> (try simp only [Bool.not_true, Bool.not_false, decide_eq_true_eq, decide_eq_false_iff_not, Bool.and_eq_true, Bool.or_eq_true, Bool.not_eq_true', Bool.not_eq_false', Bool.and_eq_false_iff, Bool.or_eq_false_iff, Nat.not_lt, Int.not_lt, Nat.not_le, Int.not_le, Int.ofNat_lt, Int.ofNat_le, Int.ofNat_inj, Bool.xor_false, Bool.false_xor, Bool.true_xor, Bool.xor_true] at h4) <;> (try simp (maxSteps := 2000000) (disch := omega) only [go_sem, seval]) <;> (try repeat ((with_reducible refine And.intro ?_ ?_); focus (first | omega | assumption | exact True.intro | (show anyD _ _ = true; exact rfl) | (simp only [List.length_map, List.length_append, List.length_cons, List.length_nil, List.length_take, List.length_drop]; omega))))
          · rw [if_pos ⟨h3, h4⟩] at hm
            rw [hm]
            rfl
          · rw [if_neg (fun h => by omega)] at hm
            exact ⟨k + 1, ⟨h, hm⟩, by omega, rfl⟩
        · rw [if_neg (fun h => by omega)] at hm
          exact ⟨k + 1, ⟨h, hm⟩, by omega, rfl⟩
    · rw [hm, List.drop_of_length_le (by omega)]
      rfl
theorem vcheck_c (v : List En) (hb : ∀ e ∈ v, BdE e) (hl : v.length ≤ 1152921504606846976) (hh : ∀ e ∈ v, e.holes.length ≤ 1152921504606846976) : Cn Tryz.prog 87 [vp v] (errV (chkV v).1 (chkV v).2) := by
  refine cn_go Tryz.func87 [] 1 (by kernel_rfl) rfl (by simp [go_sem, seval]) ?_
  conv => arg 4; cbv
  conv => enter [5, 1]; cbv
  try simp (maxSteps := 2000000) (disch := omega) only [go_sem, seval]
  try repeat ((with_reducible refine And.intro ?_ ?_); focus (first | omega | assumption | exact True.intro | (show anyD _ _ = true; exact rfl) | (simp only [List.length_map, List.length_append, List.length_cons, List.length_nil, List.length_take, List.length_drop]; omega)))
  refine pLoop.go (fun k => k ≤ v.length ∧ chkV v = hkV v k (v.drop k)) (fun k => [(8, .v (.int .i64 (k : Nat)))]) (fun _ => []) (fun k => v.length - k) 0 [8] ?_ ?_ ?_
  · exact ⟨Nat.zero_le _, rfl⟩
  · try simp (maxSteps := 2000000) (disch := omega) only [go_sem, seval]
    try repeat ((with_reducible refine And.intro ?_ ?_); focus (first | omega | assumption | exact True.intro | (show anyD _ _ = true; exact rfl) | (simp only [List.length_map, List.length_append, List.length_cons, List.length_nil, List.length_take, List.length_drop]; omega)))
  · rintro k ⟨hk, hm⟩
    try simp (maxSteps := 2000000) (disch := omega) only [go_sem, seval]
    try repeat ((with_reducible refine And.intro ?_ ?_); focus (first | omega | assumption | exact True.intro | (show anyD _ _ = true; exact rfl) | (simp only [List.length_map, List.length_append, List.length_cons, List.length_nil, List.length_take, List.length_drop]; omega)))
    (first | refine brP.mk (fun h => ?_) (fun h => ?_) | refine gdP.mkt (fun h => ?_) (fun h => ?_) | refine gdP.mkf (fun h => ?_) (fun h => ?_) | refine pkP.mk (fun h => ?_) (fun h => ?_)) <;> (try simp only [Bool.not_true, Bool.not_false, decide_eq_true_eq, decide_eq_false_iff_not, Bool.and_eq_true, Bool.or_eq_true, Bool.not_eq_true', Bool.not_eq_false', Bool.and_eq_false_iff, Bool.or_eq_false_iff, Nat.not_lt, Int.not_lt, Nat.not_le, Int.not_le, Int.ofNat_lt, Int.ofNat_le, Int.ofNat_inj, Bool.xor_false, Bool.false_xor, Bool.true_xor, Bool.xor_true] at h) <;> (try simp (maxSteps := 2000000) (disch := omega) only [go_sem, seval]) <;> (try repeat ((with_reducible refine And.intro ?_ ?_); focus (first | omega | assumption | exact True.intro | (show anyD _ _ = true; exact rfl) | (simp only [List.length_map, List.length_append, List.length_cons, List.length_nil, List.length_take, List.length_drop]; omega))))
    · rw [List.drop_eq_getElem_cons h, hkV] at hm
      have hbk := hb _ (List.getElem_mem h)
      have hhk := hh _ (List.getElem_mem h)
      have hco := code_c (chkE v[k]).1 (chkE v[k]).2
      try simp (maxSteps := 2000000) (disch := omega) only [go_sem, seval]
      try repeat ((with_reducible refine And.intro ?_ ?_); focus (first | omega | assumption | exact True.intro | (show anyD _ _ = true; exact rfl) | (simp only [List.length_map, List.length_append, List.length_cons, List.length_nil, List.length_take, List.length_drop]; omega)))
      (first | refine callP.mk (echeck_c v[k] hbk.1 hhk (.inr (codeN_c 2))) rfl ?_ | refine callQ.mk (echeck_c v[k] hbk.1 hhk (.inr (codeN_c 2))) rfl ?_ | refine callO.rd (echeck_c v[k] hbk.1 hhk (.inr (codeN_c 2))) rfl ?_ | refine callO.mk (echeck_c v[k] hbk.1 hhk (.inr (codeN_c 2))) rfl ?_)
      by_cases hz : (chkE v[k]).1 = 0
      · rw [errV_nil hz]
        rw [if_neg (by omega)] at hm
        try simp (maxSteps := 2000000) (disch := omega) only [go_sem, seval]
        try repeat ((with_reducible refine And.intro ?_ ?_); focus (first | omega | assumption | exact True.intro | (show anyD _ _ = true; exact rfl) | (simp only [List.length_map, List.length_append, List.length_cons, List.length_nil, List.length_take, List.length_drop]; omega)))
        (first | refine brP.mk (fun h3 => ?_) (fun h3 => ?_) | refine gdP.mkt (fun h3 => ?_) (fun h3 => ?_) | refine gdP.mkf (fun h3 => ?_) (fun h3 => ?_) | refine pkP.mk (fun h3 => ?_) (fun h3 => ?_)) <;> (try simp only [Bool.not_true, Bool.not_false, decide_eq_true_eq, decide_eq_false_iff_not, Bool.and_eq_true, Bool.or_eq_true, Bool.not_eq_true', Bool.not_eq_false', Bool.and_eq_false_iff, Bool.or_eq_false_iff, Nat.not_lt, Int.not_lt, Nat.not_le, Int.not_le, Int.ofNat_lt, Int.ofNat_le, Int.ofNat_inj, Bool.xor_false, Bool.false_xor, Bool.true_xor, Bool.xor_true] at h3) <;> (try simp (maxSteps := 2000000) (disch := omega) only [go_sem, seval]) <;> (try repeat ((with_reducible refine And.intro ?_ ?_); focus (first | omega | assumption | exact True.intro | (show anyD _ _ = true; exact rfl) | (simp only [List.length_map, List.length_append, List.length_cons, List.length_nil, List.length_take, List.length_drop]; omega))))
        · have hp := prv_at (v := v) (k := k) (by omega)
          rw [hp] at hm
          try simp (maxSteps := 2000000) (disch := omega) only [go_sem, seval]
          try repeat ((with_reducible refine And.intro ?_ ?_); focus (first | omega | assumption | exact True.intro | (show anyD _ _ = true; exact rfl) | (simp only [List.length_map, List.length_append, List.length_cons, List.length_nil, List.length_take, List.length_drop]; omega)))
          (first | refine callP.mk (key_c v[k - 1].rep v[k]) rfl ?_ | refine callQ.mk (key_c v[k - 1].rep v[k]) rfl ?_ | refine callO.rd (key_c v[k - 1].rep v[k]) rfl ?_ | refine callO.mk (key_c v[k - 1].rep v[k]) rfl ?_)
          try simp (maxSteps := 2000000) (disch := omega) only [go_sem, seval]
          try repeat ((with_reducible refine And.intro ?_ ?_); focus (first | omega | assumption | exact True.intro | (show anyD _ _ = true; exact rfl) | (simp only [List.length_map, List.length_append, List.length_cons, List.length_nil, List.length_take, List.length_drop]; omega)))
          (first | refine brP.mk (fun h4 => ?_) (fun h4 => ?_) | refine gdP.mkt (fun h4 => ?_) (fun h4 => ?_) | refine gdP.mkf (fun h4 => ?_) (fun h4 => ?_) | refine pkP.mk (fun h4 => ?_) (fun h4 => ?_)) <;> (try simp only [Bool.not_true, Bool.not_false, decide_eq_true_eq, decide_eq_false_iff_not, Bool.and_eq_true, Bool.or_eq_true, Bool.not_eq_true', Bool.not_eq_false', Bool.and_eq_false_iff, Bool.or_eq_false_iff, Nat.not_lt, Int.not_lt, Nat.not_le, Int.not_le, Int.ofNat_lt, Int.ofNat_le, Int.ofNat_inj, Bool.xor_false, Bool.false_xor, Bool.true_xor, Bool.xor_true] at h4) <;> (try simp (maxSteps := 2000000) (disch := omega) only [go_sem, seval]) <;> (try repeat ((with_reducible refine And.intro ?_ ?_); focus (first | omega | assumption | exact True.intro | (show anyD _ _ = true; exact rfl) | (simp only [List.length_map, List.length_append, List.length_cons, List.length_nil, List.length_take, List.length_drop]; omega))))
          · have h5 : v[k].rep ≤ v[k - 1].rep := by split at h4 <;> (try split at h4) <;> omega
            rw [if_pos ⟨h3, h5⟩] at hm
            rw [hm]
            (first | refine callP.mk (fnew_c 3 k) rfl ?_ | refine callQ.mk (fnew_c 3 k) rfl ?_ | refine callO.rd (fnew_c 3 k) rfl ?_ | refine callO.mk (fnew_c 3 k) rfl ?_)
            try simp (maxSteps := 2000000) (disch := omega) only [go_sem, seval]
            try repeat ((with_reducible refine And.intro ?_ ?_); focus (first | omega | assumption | exact True.intro | (show anyD _ _ = true; exact rfl) | (simp only [List.length_map, List.length_append, List.length_cons, List.length_nil, List.length_take, List.length_drop]; omega)))
            exact errV_sub _ _
          · have h5 : ¬ v[k].rep ≤ v[k - 1].rep := by split at h4 <;> (try split at h4) <;> omega
            rw [if_neg (fun h => by omega)] at hm
            exact ⟨k + 1, ⟨h, hm⟩, by omega, rfl⟩
        · rw [if_neg (fun h => by omega)] at hm
          exact ⟨k + 1, ⟨h, hm⟩, by omega, rfl⟩
      · rw [if_pos hz] at hm
        rw [hm]
        rw [errV_ifc hz] at hco ⊢
        try simp (maxSteps := 2000000) (disch := omega) only [go_sem, seval]
        try repeat ((with_reducible refine And.intro ?_ ?_); focus (first | omega | assumption | exact True.intro | (show anyD _ _ = true; exact rfl) | (simp only [List.length_map, List.length_append, List.length_cons, List.length_nil, List.length_take, List.length_drop]; omega)))
        (first | refine callP.mk (hco) rfl ?_ | refine callQ.mk (hco) rfl ?_ | refine callO.rd (hco) rfl ?_ | refine callO.mk (hco) rfl ?_)
        try simp (maxSteps := 2000000) (disch := omega) only [go_sem, seval]
        try repeat ((with_reducible refine And.intro ?_ ?_); focus (first | omega | assumption | exact True.intro | (show anyD _ _ = true; exact rfl) | (simp only [List.length_map, List.length_append, List.length_cons, List.length_nil, List.length_take, List.length_drop]; omega)))
        (first | refine callP.mk (fnew_c (chkE v[k]).1 k) rfl ?_ | refine callQ.mk (fnew_c (chkE v[k]).1 k) rfl ?_ | refine callO.rd (fnew_c (chkE v[k]).1 k) rfl ?_ | refine callO.mk (fnew_c (chkE v[k]).1 k) rfl ?_)
        try simp (maxSteps := 2000000) (disch := omega) only [go_sem, seval]
        try repeat ((with_reducible refine And.intro ?_ ?_); focus (first | omega | assumption | exact True.intro | (show anyD _ _ = true; exact rfl) | (simp only [List.length_map, List.length_append, List.length_cons, List.length_nil, List.length_take, List.length_drop]; omega)))
        exact errV_sub _ _
    · rw [hm, List.drop_of_length_le (by omega)]
      exact .eq _ rfl
theorem vcan1_c (e : En) (hb : BdE e) (hl : e.holes.length ≤ 1152921504606846976) : Cn Tryz.prog 98 [ep e] (.v (.bool (!(rightEB e && !mem e.holes e.max)))) := by
  refine cn_go Tryz.func98 [] 1 (by kernel_rfl) rfl (by simp [go_sem, seval]) ?_
  conv => arg 4; cbv
  conv => enter [5, 1]; cbv
  try simp (maxSteps := 2000000) (disch := omega) only [go_sem, seval]
  try repeat ((with_reducible refine And.intro ?_ ?_); focus (first | omega | assumption | exact True.intro | (show anyD _ _ = true; exact rfl) | (simp only [List.length_map, List.length_append, List.length_cons, List.length_nil, List.length_take, List.length_drop]; omega)))
  (first | refine callP.mk (ecanonical_c e hb.1 hb.2.1 hb.2.2 hl (.inr (codeN_c 2))) rfl ?_ | refine callQ.mk (ecanonical_c e hb.1 hb.2.1 hb.2.2 hl (.inr (codeN_c 2))) rfl ?_ | refine callO.rd (ecanonical_c e hb.1 hb.2.1 hb.2.2 hl (.inr (codeN_c 2))) rfl ?_ | refine callO.mk (ecanonical_c e hb.1 hb.2.1 hb.2.2 hl (.inr (codeN_c 2))) rfl ?_)
  try simp (maxSteps := 2000000) (disch := omega) only [go_sem, seval]
  try repeat ((with_reducible refine And.intro ?_ ?_); focus (first | omega | assumption | exact True.intro | (show anyD _ _ = true; exact rfl) | (simp only [List.length_map, List.length_append, List.length_cons, List.length_nil, List.length_take, List.length_drop]; omega)))
def ixV : Nat → List En → Int
  | _, [] => -1
  | k, e :: r => if (rightEB e && !mem e.holes e.max) = true then ixV (k + 1) r else (k : Int)
theorem ixV_iff : ∀ (l : List En) (k : Nat), 0 ≤ ixV k l ↔ ¬ l.all (fun e => rightEB e && !mem e.holes e.max) = true
  | [], _ => by simp [ixV]
  | e :: r, k => by
    unfold ixV
    rw [List.all_cons]
    by_cases h : (rightEB e && !mem e.holes e.max) = true
    · rw [if_pos h, ixV_iff r (k + 1), h, Bool.true_and]
    · rw [if_neg h]
      simp only [Bool.not_eq_true] at h
      rw [h]
      simp
theorem vindex_c (v : List En) (hb : ∀ e ∈ v, BdE e) (hl : v.length ≤ 1152921504606846976) (hh : ∀ e ∈ v, e.holes.length ≤ 1152921504606846976) : Cn Tryz.prog 156 [vp v, .fn (.func 98) [] []] (.v (.int .i64 (ixV 0 v))) := by
  refine cn_go Tryz.func156 [] 2 (by kernel_rfl) rfl (by simp [go_sem, seval]) ?_
  conv => arg 4; cbv
  conv => enter [5, 1]; cbv
  try simp (maxSteps := 2000000) (disch := omega) only [go_sem, seval]
  try repeat ((with_reducible refine And.intro ?_ ?_); focus (first | omega | assumption | exact True.intro | (show anyD _ _ = true; exact rfl) | (simp only [List.length_map, List.length_append, List.length_cons, List.length_nil, List.length_take, List.length_drop]; omega)))
  refine pLoop.go (fun k => k ≤ v.length ∧ ixV 0 v = ixV k (v.drop k)) (fun k => [(8, .v (.int .i64 (k : Nat)))]) (fun _ => []) (fun k => v.length - k) 0 [8] ?_ ?_ ?_
  · exact ⟨Nat.zero_le _, rfl⟩
  · try simp (maxSteps := 2000000) (disch := omega) only [go_sem, seval]
    try repeat ((with_reducible refine And.intro ?_ ?_); focus (first | omega | assumption | exact True.intro | (show anyD _ _ = true; exact rfl) | (simp only [List.length_map, List.length_append, List.length_cons, List.length_nil, List.length_take, List.length_drop]; omega)))
  · rintro k ⟨hk, hm⟩
    try simp (maxSteps := 2000000) (disch := omega) only [go_sem, seval]
    try repeat ((with_reducible refine And.intro ?_ ?_); focus (first | omega | assumption | exact True.intro | (show anyD _ _ = true; exact rfl) | (simp only [List.length_map, List.length_append, List.length_cons, List.length_nil, List.length_take, List.length_drop]; omega)))
    (first | refine brP.mk (fun h => ?_) (fun h => ?_) | refine gdP.mkt (fun h => ?_) (fun h => ?_) | refine gdP.mkf (fun h => ?_) (fun h => ?_) | refine pkP.mk (fun h => ?_) (fun h => ?_)) <;> (try simp only [Bool.not_true, Bool.not_false, decide_eq_true_eq, decide_eq_false_iff_not, Bool.and_eq_true, Bool.or_eq_true, Bool.not_eq_true', Bool.not_eq_false', Bool.and_eq_false_iff, Bool.or_eq_false_iff, Nat.not_lt, Int.not_lt, Nat.not_le, Int.not_le, Int.ofNat_lt, Int.ofNat_le, Int.ofNat_inj, Bool.xor_false, Bool.false_xor, Bool.true_xor, Bool.xor_true] at h) <;> (try simp (maxSteps := 2000000) (disch := omega) only [go_sem, seval]) <;> (try repeat ((with_reducible refine And.intro ?_ ?_); focus (first | omega | assumption | exact True.intro | (show anyD _ _ = true; exact rfl) | (simp only [List.length_map, List.length_append, List.length_cons, List.length_nil, List.length_take, List.length_drop]; omega))))
    · rw [List.drop_eq_getElem_cons h, ixV] at hm
      try simp (maxSteps := 2000000) (disch := omega) only [go_sem, seval]
      try repeat ((with_reducible refine And.intro ?_ ?_); focus (first | omega | assumption | exact True.intro | (show anyD _ _ = true; exact rfl) | (simp only [List.length_map, List.length_append, List.length_cons, List.length_nil, List.length_take, List.length_drop]; omega)))
      (first | refine callP.mk (vcan1_c v[k] (hb _ (List.getElem_mem h)) (hh _ (List.getElem_mem h))) rfl ?_ | refine callQ.mk (vcan1_c v[k] (hb _ (List.getElem_mem h)) (hh _ (List.getElem_mem h))) rfl ?_ | refine callO.rd (vcan1_c v[k] (hb _ (List.getElem_mem h)) (hh _ (List.getElem_mem h))) rfl ?_ | refine callO.mk (vcan1_c v[k] (hb _ (List.getElem_mem h)) (hh _ (List.getElem_mem h))) rfl ?_)
      by_cases h2 : (rightEB v[k] && !mem v[k].holes v[k].max) = true
      · rw [if_pos h2] at hm
        rw [h2]
        try simp (maxSteps := 2000000) (disch := omega) only [go_sem, seval]
        try repeat ((with_reducible refine And.intro ?_ ?_); focus (first | omega | assumption | exact True.intro | (show anyD _ _ = true; exact rfl) | (simp only [List.length_map, List.length_append, List.length_cons, List.length_nil, List.length_take, List.length_drop]; omega)))
        exact ⟨k + 1, ⟨h, hm⟩, by omega, rfl⟩
      · rw [if_neg h2] at hm
        simp only [Bool.not_eq_true] at h2
        rw [h2, hm]
        try simp (maxSteps := 2000000) (disch := omega) only [go_sem, seval]
        try repeat ((with_reducible refine And.intro ?_ ?_); focus (first | omega | assumption | exact True.intro | (show anyD _ _ = true; exact rfl) | (simp only [List.length_map, List.length_append, List.length_cons, List.length_nil, List.length_take, List.length_drop]; omega)))
    · rw [hm, List.drop_of_length_le (by omega)]
      rfl
theorem vcontains_c (v : List En) (hb : ∀ e ∈ v, BdE e) (hl : v.length ≤ 1152921504606846976) (hh : ∀ e ∈ v, e.holes.length ≤ 1152921504606846976) : Cn Tryz.prog 97 [vp v, .fn (.func 98) [] []] (.v (.bool (!v.all (fun e => rightEB e && !mem e.holes e.max)))) := by
  refine cn_go Tryz.func97 [] 2 (by kernel_rfl) rfl (by simp [go_sem, seval]) ?_
  conv => arg 4; cbv
  conv => enter [5, 1]; cbv
  try simp (maxSteps := 2000000) (disch := omega) only [go_sem, seval]
  try repeat ((with_reducible refine And.intro ?_ ?_); focus (first | omega | assumption | exact True.intro | (show anyD _ _ = true; exact rfl) | (simp only [List.length_map, List.length_append, List.length_cons, List.length_nil, List.length_take, List.length_drop]; omega)))
  (first | refine callP.mk (vindex_c v hb hl hh) rfl ?_ | refine callQ.mk (vindex_c v hb hl hh) rfl ?_ | refine callO.rd (vindex_c v hb hl hh) rfl ?_ | refine callO.mk (vindex_c v hb hl hh) rfl ?_)
  try simp (maxSteps := 2000000) (disch := omega) only [go_sem, seval]
  try repeat ((with_reducible refine And.intro ?_ ?_); focus (first | omega | assumption | exact True.intro | (show anyD _ _ = true; exact rfl) | (simp only [List.length_map, List.length_append, List.length_cons, List.length_nil, List.length_take, List.length_drop]; omega)))
  rw [Bool.eq_iff_iff, decide_eq_true_eq, ixV_iff]
  simp
theorem vcanonical_c (v : List En) (hb : ∀ e ∈ v, BdE e) (hl : v.length ≤ 1152921504606846976) (hh : ∀ e ∈ v, e.holes.length ≤ 1152921504606846976) : Cn Tryz.prog 40 [vp v] (.v (.bool (canVB v))) := by
  unfold canVB
  refine cn_go Tryz.func40 [] 1 (by kernel_rfl) rfl (by simp [go_sem, seval]) ?_
  conv => arg 4; cbv
  conv => enter [5, 1]; cbv
  try simp (maxSteps := 2000000) (disch := omega) only [go_sem, seval]
  try repeat ((with_reducible refine And.intro ?_ ?_); focus (first | omega | assumption | exact True.intro | (show anyD _ _ = true; exact rfl) | (simp only [List.length_map, List.length_append, List.length_cons, List.length_nil, List.length_take, List.length_drop]; omega)))
  (first | refine callP.mk (vcheck_c v hb hl hh) rfl ?_ | refine callQ.mk (vcheck_c v hb hl hh) rfl ?_ | refine callO.rd (vcheck_c v hb hl hh) rfl ?_ | refine callO.mk (vcheck_c v hb hl hh) rfl ?_)
  by_cases hz : (chkV v).1 = 0
  · rw [errV_nil hz]
    try simp (maxSteps := 2000000) (disch := omega) only [go_sem, seval]
    try repeat ((with_reducible refine And.intro ?_ ?_); focus (first | omega | assumption | exact True.intro | (show anyD _ _ = true; exact rfl) | (simp only [List.length_map, List.length_append, List.length_cons, List.length_nil, List.length_take, List.length_drop]; omega)))
    (first | refine callP.mk (vcontains_c v hb hl hh) rfl ?_ | refine callQ.mk (vcontains_c v hb hl hh) rfl ?_ | refine callO.rd (vcontains_c v hb hl hh) rfl ?_ | refine callO.mk (vcontains_c v hb hl hh) rfl ?_)
    try simp (maxSteps := 2000000) (disch := omega) only [go_sem, seval]
    try repeat ((with_reducible refine And.intro ?_ ?_); focus (first | omega | assumption | exact True.intro | (show anyD _ _ = true; exact rfl) | (simp only [List.length_map, List.length_append, List.length_cons, List.length_nil, List.length_take, List.length_drop]; omega)))
    simp [hz]
  · rw [errV_ifc hz]
    try simp (maxSteps := 2000000) (disch := omega) only [go_sem, seval]
    try repeat ((with_reducible refine And.intro ?_ ?_); focus (first | omega | assumption | exact True.intro | (show anyD _ _ = true; exact rfl) | (simp only [List.length_map, List.length_append, List.length_cons, List.length_nil, List.length_take, List.length_drop]; omega)))
    simp [hz]
end Go.Proofs.YtjmhmeadcphfmaaGreatDoor
namespace Go.Proofs.YtjmhmeadcphfmaaGreatDoor
set_option linter.unusedVariables false
set_option linter.unusedSimpArgs false
open Go.RowKit
set_option maxRecDepth 100000
def us (l : List Nat) : PV := .sl (l.map natc) .sh
attribute [go_sem] us
theorem nan2_c (x : Nat) : Cn Tryz.prog 229 [.v (.int .u64 x)] (.v (.bool false)) := by
  refine cn_go Tryz.func229 [] 1 (by kernel_rfl) rfl (by simp [go_sem, seval]) ?_
  conv => arg 4; cbv
  conv => enter [5, 1]; cbv
  try simp (maxSteps := 2000000) (disch := omega) only [go_sem, seval]
  try repeat ((with_reducible refine And.intro ?_ ?_); focus (first | omega | assumption | exact True.intro | (show anyD _ _ = true; exact rfl) | (simp only [List.length_map, List.length_append, List.length_cons, List.length_nil, List.length_take, List.length_drop]; omega)))
theorem less_c (x y : Nat) : Cn Tryz.prog 228 [.v (.int .u64 x), .v (.int .u64 y)] (.v (.bool (decide (x < y)))) := by
  refine cn_go Tryz.func228 [] 2 (by kernel_rfl) rfl (by simp [go_sem, seval]) ?_
  conv => arg 4; cbv
  conv => enter [5, 1]; cbv
  try simp (maxSteps := 2000000) (disch := omega) only [go_sem, seval]
  try repeat ((with_reducible refine And.intro ?_ ?_); focus (first | omega | assumption | exact True.intro | (show anyD _ _ = true; exact rfl) | (simp only [List.length_map, List.length_append, List.length_cons, List.length_nil, List.length_take, List.length_drop]; omega)))
  (first | refine callP.mk (nan_c x) rfl ?_ | refine callQ.mk (nan_c x) rfl ?_ | refine callO.rd (nan_c x) rfl ?_ | refine callO.mk (nan_c x) rfl ?_)
  try simp (maxSteps := 2000000) (disch := omega) only [go_sem, seval]
  try repeat ((with_reducible refine And.intro ?_ ?_); focus (first | omega | assumption | exact True.intro | (show anyD _ _ = true; exact rfl) | (simp only [List.length_map, List.length_append, List.length_cons, List.length_nil, List.length_take, List.length_drop]; omega)))
theorem bsearch_c (l : List Nat) (x i : Nat) (hi : i ≤ l.length) (h1 : ∀ j, (h : j < l.length) → j < i → l[j] < x) (h2 : ∀ j, (h : j < l.length) → i ≤ j → x ≤ l[j]) (hl : l.length ≤ 1152921504606846976) :
    Cn Tryz.prog 218 [us l, .v (.int .u64 x)] (.tup [.v (.int .i64 i), .v (.bool (decide (l[i]? = some x)))]) := by
  refine cn_go Tryz.func218 [] 2 (by kernel_rfl) rfl (by simp [go_sem, seval]) ?_
  conv => arg 4; cbv
  conv => enter [5, 1]; cbv
  try simp (maxSteps := 2000000) (disch := omega) only [go_sem, seval]
  try repeat ((with_reducible refine And.intro ?_ ?_); focus (first | omega | assumption | exact True.intro | (show anyD _ _ = true; exact rfl) | (simp only [List.length_map, List.length_append, List.length_cons, List.length_nil, List.length_take, List.length_drop]; omega)))
  refine pLoop.go (fun p : Nat × Nat => p.1 ≤ i ∧ i ≤ p.2 ∧ p.2 ≤ l.length) (fun p => [(7, .v (.int .i64 (p.1 : Nat))), (8, .v (.int .i64 (p.2 : Nat)))]) (fun _ => []) (fun p => p.2 - p.1) (0, l.length) [7, 8] ?_ ?_ ?_
  · exact ⟨Nat.zero_le _, hi, Nat.le_refl _⟩
  · try simp (maxSteps := 2000000) (disch := omega) only [go_sem, seval]
    try repeat ((with_reducible refine And.intro ?_ ?_); focus (first | omega | assumption | exact True.intro | (show anyD _ _ = true; exact rfl) | (simp only [List.length_map, List.length_append, List.length_cons, List.length_nil, List.length_take, List.length_drop]; omega)))
  · rintro ⟨p, q⟩ ⟨k1, k2, k3⟩
    simp only at k1 k2 k3
    try simp (maxSteps := 2000000) (disch := omega) only [go_sem, seval]
    try repeat ((with_reducible refine And.intro ?_ ?_); focus (first | omega | assumption | exact True.intro | (show anyD _ _ = true; exact rfl) | (simp only [List.length_map, List.length_append, List.length_cons, List.length_nil, List.length_take, List.length_drop]; omega)))
    (first | refine brP.mk (fun h => ?_) (fun h => ?_) | refine gdP.mkt (fun h => ?_) (fun h => ?_) | refine gdP.mkf (fun h => ?_) (fun h => ?_) | refine pkP.mk (fun h => ?_) (fun h => ?_)) <;> (try simp only [Bool.not_true, Bool.not_false, decide_eq_true_eq, decide_eq_false_iff_not, Bool.and_eq_true, Bool.or_eq_true, Bool.not_eq_true', Bool.not_eq_false', Bool.and_eq_false_iff, Bool.or_eq_false_iff, Nat.not_lt, Int.not_lt, Nat.not_le, Int.not_le, Int.ofNat_lt, Int.ofNat_le, Int.ofNat_inj, Bool.xor_false, Bool.false_xor, Bool.true_xor, Bool.xor_true] at h) <;> (try simp (maxSteps := 2000000) (disch := omega) only [go_sem, seval]) <;> (try repeat ((with_reducible refine And.intro ?_ ?_); focus (first | omega | assumption | exact True.intro | (show anyD _ _ = true; exact rfl) | (simp only [List.length_map, List.length_append, List.length_cons, List.length_nil, List.length_take, List.length_drop]; omega))))
    · have hm : (p + q) / 2 < l.length := by omega
      try simp (maxSteps := 2000000) (disch := omega) only [go_sem, seval]
      try repeat ((with_reducible refine And.intro ?_ ?_); focus (first | omega | assumption | exact True.intro | (show anyD _ _ = true; exact rfl) | (simp only [List.length_map, List.length_append, List.length_cons, List.length_nil, List.length_take, List.length_drop]; omega)))
      (first | refine callP.mk (less_c l[(p + q) / 2] x) rfl ?_ | refine callQ.mk (less_c l[(p + q) / 2] x) rfl ?_ | refine callO.rd (less_c l[(p + q) / 2] x) rfl ?_ | refine callO.mk (less_c l[(p + q) / 2] x) rfl ?_)
      try simp (maxSteps := 2000000) (disch := omega) only [go_sem, seval]
      try repeat ((with_reducible refine And.intro ?_ ?_); focus (first | omega | assumption | exact True.intro | (show anyD _ _ = true; exact rfl) | (simp only [List.length_map, List.length_append, List.length_cons, List.length_nil, List.length_take, List.length_drop]; omega)))
      (first | refine brP.mk (fun h4 => ?_) (fun h4 => ?_) | refine gdP.mkt (fun h4 => ?_) (fun h4 => ?_) | refine gdP.mkf (fun h4 => ?_) (fun h4 => ?_) | refine pkP.mk (fun h4 => ?_) (fun h4 => ?_)) <;> (try simp only [Bool.not_true, Bool.not_false, decide_eq_true_eq, decide_eq_false_iff_not, Bool.and_eq_true, Bool.or_eq_true, Bool.not_eq_true', Bool.not_eq_false', Bool.and_eq_false_iff, Bool.or_eq_false_iff, Nat.not_lt, Int.not_lt, Nat.not_le, Int.not_le, Int.ofNat_lt, Int.ofNat_le, Int.ofNat_inj, Bool.xor_false, Bool.false_xor, Bool.true_xor, Bool.xor_true] at h4) <;> (try simp (maxSteps := 2000000) (disch := omega) only [go_sem, seval]) <;> (try repeat ((with_reducible refine And.intro ?_ ?_); focus (first | omega | assumption | exact True.intro | (show anyD _ _ = true; exact rfl) | (simp only [List.length_map, List.length_append, List.length_cons, List.length_nil, List.length_take, List.length_drop]; omega))))
      · refine ⟨((p + q) / 2 + 1, q), ⟨?_, k2, k3⟩, by simp only; omega, rfl, rfl⟩
        simp only
        refine Nat.lt_of_not_le fun h5 => ?_
        have := h2 _ hm h5
        omega
      · refine ⟨(p, (p + q) / 2), ⟨k1, ?_, by simp only; omega⟩, by simp only; omega, rfl, rfl⟩
        simp only
        refine Nat.le_of_not_lt fun h5 => ?_
        have := h1 _ hm h5
        omega
    · obtain rfl : p = i := by omega
      obtain rfl : q = p := by omega
      (first | refine brP.mk (fun h4 => ?_) (fun h4 => ?_) | refine gdP.mkt (fun h4 => ?_) (fun h4 => ?_) | refine gdP.mkf (fun h4 => ?_) (fun h4 => ?_) | refine pkP.mk (fun h4 => ?_) (fun h4 => ?_)) <;> (try simp only [Bool.not_true, Bool.not_false, decide_eq_true_eq, decide_eq_false_iff_not, Bool.and_eq_true, Bool.or_eq_true, Bool.not_eq_true', Bool.not_eq_false', Bool.and_eq_false_iff, Bool.or_eq_false_iff, Nat.not_lt, Int.not_lt, Nat.not_le, Int.not_le, Int.ofNat_lt, Int.ofNat_le, Int.ofNat_inj, Bool.xor_false, Bool.false_xor, Bool.true_xor, Bool.xor_true] at h4) <;> (try simp (maxSteps := 2000000) (disch := omega) only [go_sem, seval]) <;> (try repeat ((with_reducible refine And.intro ?_ ?_); focus (first | omega | assumption | exact True.intro | (show anyD _ _ = true; exact rfl) | (simp only [List.length_map, List.length_append, List.length_cons, List.length_nil, List.length_take, List.length_drop]; omega))))
      · rw [show l[q]? = some l[q] from List.getElem?_eq_getElem h4]
        (first | refine brP.mk (fun h5 => ?_) (fun h5 => ?_) | refine gdP.mkt (fun h5 => ?_) (fun h5 => ?_) | refine gdP.mkf (fun h5 => ?_) (fun h5 => ?_) | refine pkP.mk (fun h5 => ?_) (fun h5 => ?_)) <;> (try simp only [Bool.not_true, Bool.not_false, decide_eq_true_eq, decide_eq_false_iff_not, Bool.and_eq_true, Bool.or_eq_true, Bool.not_eq_true', Bool.not_eq_false', Bool.and_eq_false_iff, Bool.or_eq_false_iff, Nat.not_lt, Int.not_lt, Nat.not_le, Int.not_le, Int.ofNat_lt, Int.ofNat_le, Int.ofNat_inj, Bool.xor_false, Bool.false_xor, Bool.true_xor, Bool.xor_true] at h5) <;> (try simp (maxSteps := 2000000) (disch := omega) only [go_sem, seval]) <;> (try repeat ((with_reducible refine And.intro ?_ ?_); focus (first | omega | assumption | exact True.intro | (show anyD _ _ = true; exact rfl) | (simp only [List.length_map, List.length_append, List.length_cons, List.length_nil, List.length_take, List.length_drop]; omega))))
        · simp [h5]
        · (first | refine callP.mk (nan2_c l[q]) rfl ?_ | refine callQ.mk (nan2_c l[q]) rfl ?_ | refine callO.rd (nan2_c l[q]) rfl ?_ | refine callO.mk (nan2_c l[q]) rfl ?_)
          try simp (maxSteps := 2000000) (disch := omega) only [go_sem, seval]
          try repeat ((with_reducible refine And.intro ?_ ?_); focus (first | omega | assumption | exact True.intro | (show anyD _ _ = true; exact rfl) | (simp only [List.length_map, List.length_append, List.length_cons, List.length_nil, List.length_take, List.length_drop]; omega)))
          simp [h5]
      · rw [show l[q]? = none from List.getElem?_eq_none (by omega)]
        simp
end Go.Proofs.YtjmhmeadcphfmaaGreatDoor
namespace Go.Proofs.YtjmhmeadcphfmaaGreatDoor
set_option linter.unusedVariables false
set_option linter.unusedSimpArgs false
open Go.RowKit
set_option maxRecDepth 100000
def cp2 (a b : Nat) : PV := .agg [.v (.int .u64 a), .v (.int .u64 b)]
def cw (n : Nat) : PV := cp2 (n / M64) (n % M64)
attribute [go_sem] cp2 cw
end Go.Proofs.YtjmhmeadcphfmaaGreatDoor
namespace Go.Proofs.YtjmhmeadcphfmaaGreatDoor
set_option linter.unusedVariables false
set_option linter.unusedSimpArgs false
open Go.RowKit
set_option maxRecDepth 100000
end Go.Proofs.YtjmhmeadcphfmaaGreatDoor
namespace Go.Proofs.YtjmhmeadcphfmaaGreatDoor
set_option linter.unusedVariables false
set_option linter.unusedSimpArgs false
open Go.RowKit Go.Maps
set_option maxRecDepth 100000
attribute [-go_sem] nat_succ
theorem dat_tup2 {D : Nat → Nat → Prop} {w : World} {x a b : Value} (h : Dat D w x (.tup [.v a, .v b])) : x = .tuple #[a, b] := by
  cases h with
  | tup vs cs hs h =>
    obtain ⟨l⟩ := vs
    match l, hs with
    | [p, q], _ =>
      have e0 := (h 0 _ rfl).v_inv
      have e1 := (h 1 _ rfl).v_inv
      simp at e0 e1
      rw [e0, e1]
theorem dat_en {D : Nat → Nat → Prop} {w : World} {x : Value} {e : En} (h : Dat D w x (ep e)) : ∃ ah ch, x = .agg #[.int .u64 e.rep, .int .u64 e.max, .slice ah e.holes.length ch] ∧ Dat D w (.slice ah e.holes.length ch) (rg e.holes) := by
  have h' : Dat D w x (.agg [.v (.int .u64 e.rep), .v (.int .u64 e.max), rg e.holes]) := h
  cases h' with
  | agg vs cs hs _ h =>
    obtain ⟨l⟩ := vs
    match l, hs with
    | [p, q, r], _ =>
      have e0 := (h 0 _ rfl).v_inv
      have e1 := (h 1 _ rfl).v_inv
      have e2 := h 2 _ rfl
      simp at e0 e1 e2
      obtain ⟨ah, ch, rfl⟩ := rg_slice e2
      rw [e0, e1]
      exact ⟨ah, ch, rfl, e2⟩
theorem dat_entup {D : Nat → Nat → Prop} {w : World} {x : Value} {e : En} {b : Bool} (h : Dat D w x (.tup [ep e, .v (.bool b)])) : ∃ ah ch, x = .tuple #[.agg #[.int .u64 e.rep, .int .u64 e.max, .slice ah e.holes.length ch], .bool b] ∧ Dat D w (.slice ah e.holes.length ch) (rg e.holes) := by
  cases h with
  | tup vs cs hs h =>
    obtain ⟨l⟩ := vs
    match l, hs with
    | [p, q], _ =>
      have e0 := h 0 _ rfl
      have e1 := (h 1 _ rfl).v_inv
      simp at e0 e1
      obtain ⟨ah, ch, rfl, hd⟩ := dat_en e0
      rw [e1]
      exact ⟨ah, ch, rfl, hd⟩
theorem cn_w {f : FuncId} {ps : List PV} {r : PV} (h : Cn Tryz.prog f ps r) {D : Nat → Nat → Prop} {w : World} {vs : Array Value} (hG : GL D w) (hD : ∀ b o, D b o → b < w.heap.size) (hsz : vs.size = ps.length) (hd : ∀ (i : Nat) p, ps[i]? = some p → Dat D w (vs.getD i undef) p) :
    Calls Tryz.prog f vs w fun e w' => ∃ v, e = .returned v ∧ Below w.heap.size w w' ∧ Dat (fun b o => D b o ∨ (w.heap.size ≤ b ∧ b < w'.heap.size)) w' v r := by
  refine (h.2 D w vs hG hD hsz hd).mono ?_
  rintro e w' ⟨v, D', rfl, hb, _, q2, q3, hd, _⟩
  exact ⟨v, rfl, hb, hd.mono (fun b o h => (q2 b o h).imp id fun h' => ⟨h', q3 b o h⟩) fun _ _ _ _ h => h⟩
theorem OwnU.keep {base : Nat} {w w' : World} {v : Value} {l : List Nat} (h : OwnU base w v l) (hb : ∀ g, v.ownBlock = some g → w'.heap[g]? = w.heap[g]?) : OwnU base w' v l := by
  refine ⟨h.1, ?_⟩
  rcases h.2 with h | ⟨g, cap, cur, e, hg, hc, r⟩
  · exact .inl h
  · exact .inr ⟨g, cap, cur, e, hg, (hb g (by rw [e]; rfl)).trans hc, r⟩
theorem OwnU.lt {base : Nat} {w : World} {v : Value} {l : List Nat} (h : OwnU base w v l) : ∀ g, v.ownBlock = some g → base ≤ g ∧ g < w.heap.size := fun g hg => World.ownsRow.lt h g hg
theorem asc_cut (x : Nat) : ∀ {l : List Nat}, Asc l → ∃ i, i ≤ l.length ∧ (∀ j, (h : j < l.length) → j < i → l[j] < x) ∧ (∀ j, (h : j < l.length) → i ≤ j → x ≤ l[j])
  | [], _ => ⟨0, Nat.le_refl _, fun j h => absurd h (by simp), fun j h => absurd h (by simp)⟩
  | y :: l, h => by
    have ⟨h1, h2⟩ := List.pairwise_cons.1 h
    by_cases hy : y < x
    · obtain ⟨i, hi, q1, q2⟩ := asc_cut x h2
      refine ⟨i + 1, by simp; omega, fun j hj hji => ?_, fun j hj hij => ?_⟩
      · match j with
        | 0 => exact hy
        | j + 1 => exact q1 j (by simpa using hj) (by omega)
      · match j with
        | 0 => omega
        | j + 1 => exact q2 j (by simpa using hj) (by omega)
    · refine ⟨0, Nat.zero_le _, fun j _ hj => by omega, fun j hj _ => ?_⟩
      match j with
      | 0 => simp; omega
      | j + 1 =>
        have hj' : j < l.length := by simpa using hj
        have := h1 _ (List.getElem_mem hj')
        simp only [List.getElem_cons_succ]
        omega
theorem bs_w {C : Nat → Nat → Prop} {base : Nat} {w : World} {v : Value} {l : List Nat} (x i : Nat) (hown : OwnU base w v l) (hC : ∀ b o, C b o → b < w.heap.size) (hG : GL C w) (hi : i ≤ l.length) (h1 : ∀ j, (h : j < l.length) → j < i → l[j] < x) (h2 : ∀ j, (h : j < l.length) → i ≤ j → x ≤ l[j]) (hl : l.length ≤ 1152921504606846976) :
    Calls Tryz.prog 218 #[v, .int .u64 (x : Nat)] w fun e w' => (∃ b, e = .returned (.tuple #[.int .i64 (i : Nat), .bool b])) ∧ Below w.heap.size w w' := by
  refine (cn_w (bsearch_c l x i hi h1 h2 hl) (D := fun b o => C b o ∨ (base ≤ b ∧ b < w.heap.size)) (hG.mono (fun _ _ h => .inl h) fun _ _ _ _ h => h) (fun b o h => h.elim (hC b o) And.right) rfl (fun j p hp => ?_)).mono ?_
  · match j, hp with
    | 0, hp => cases hp; exact ownN_dat hown fun b o h1 h2 => .inr ⟨h1, h2⟩
    | 1, hp => cases hp; exact .v _
    | j + 2, hp => simp at hp
  · rintro e w' ⟨v, rfl, hb, hd⟩
    rw [dat_tup2 hd]
    exact ⟨⟨_, rfl⟩, hb⟩
theorem add_calls {C : Nat → Nat → Prop} {base rb : Nat} {w : World} {v : Value} {xs : List Nat} (x : Nat) (hown : OwnU base w v (srt xs)) (hbx : Boxed w rb 230 v) (hrb : rb < base) (hnot : x ∉ xs) (hl : (srt xs).length ≤ 4194304) (hbase : base ≤ w.heap.size) (hC : ∀ b o, C b o → b < w.heap.size) (hG : GL C w) :
    Calls Tryz.prog 195 #[.pointer (some ⟨rb, 0, none⟩), .int .u64 (x : Nat)] w fun e w' => (∃ u, e = .returned u) ∧ ∃ v', Boxed w' rb 230 v' ∧ OwnU base w' v' (srt (xs ++ [x])) ∧ Keep (fun k => k = rb ∨ base ≤ k) w w' := by
  obtain ⟨i, hi, q1, q2⟩ := asc_cut x (srt_asc xs)
  have HBS := Lib.hid (bs_w x i hown hC hG hi q1 q2 (by omega))
  have hins : srt (xs ++ [x]) = (srt xs).take i ++ x :: (srt xs).drop i := srt_ins hi (fun k hk hik => by
    have h1 := q2 k hk hik
    have h2 : (srt xs)[k] ≠ x := fun e => hnot (srt_mem.1 (e ▸ List.getElem_mem hk))
    omega) (by
    rcases Nat.eq_zero_or_pos i with h0 | h0
    · exact .inl h0
    · exact .inr ⟨by omega, q1 _ (by omega) (by omega)⟩)
  have HI := Lib.hid hins
  have HO := Lib.hid hown
  have HX := Lib.hid hbx
  have c0 := hbx.cell
  have hrw := hbx.lt
  clear hins hown hbx hC hG q1 q2 hnot
  have tokA : True := trivial
  have tokB : True := trivial
  go_enter Tryz.func195, Tryz.ntmps195
  go_wp2_with (first
    | (go_at_call 218; have _t := tokA; refine HBS.out.mono ?_; rintro e w1 ⟨⟨bb, rfl⟩, hb1⟩
       have c1 : w1.cell? ⟨rb, 0, none⟩ = some v := (World.cell?_of_block (a := ⟨rb, 0, none⟩) (hb1.block rb hrw)).trans c0
       have HB1 := Lib.hid hb1
       clear hb1 tokA)
    | (go_at_call 219; have _t := tokB
       refine (insert_calls base w1.heap.size _ _ v (srt xs) x i hi (HO.out.keep fun g hg => by rw [Below.heap_alloc _ _ _ (Nat.lt_of_lt_of_le (HO.out.lt g hg).2 HB1.out.size), HB1.out.block g (HO.out.lt g hg).2]) (World.alloc_heap_new w1 _) (fun e => by have h8 := (HO.out.lt _ e).2; have h9 := HB1.out.size; omega) (by omega) (by have := HB1.out.size; simp; omega)).mono ?_
       rintro e w3 ⟨v', rfl, ho3, hg3, _⟩
       have hx3 : Boxed w3 rb 230 v := ((show Boxed w1 rb _ v from (HB1.out.block rb hrw).trans HX.out).alloc _).kept hg3 (fun e => by have := (HO.out.lt rb e.symm).1; omega)
       have c3 := hx3.cell
       have f3 := hx3.frozen
       have HX3 := Lib.hid hx3
       have HK3 := Lib.hid ((((Keep.of_below' (S := fun k => k = rb ∨ base ≤ k) HB1.out (Nat.le_refl _)).alloc _).grown hg3 fun k hk _ => .inr (HO.out.lt k hk).1))
       rw [← HI.out] at ho3
       obtain ⟨g3, cap3, cur3, rfl, _⟩ := (show _ ∨ _ from ho3.cases).resolve_left (fun h => by have := h.2; rw [HI.out] at this; simp at this)
       have HO3 := Lib.hid ho3
       clear hx3 hg3 ho3 tokB)
    | go_in)
  go_end0
  exact ⟨⟨_, rfl⟩, _, HX3.out.set _, HO3.out.keep fun g hg => Below.heap_setCell _ _ _ _ (by have := (HO3.out.lt g hg).1; show g ≠ rb; omega), HK3.out.setCell (fun _ => .inl rfl) _⟩
end Go.Proofs.YtjmhmeadcphfmaaGreatDoor
namespace Go.Proofs.YtjmhmeadcphfmaaGreatDoor
set_option linter.unusedVariables false
set_option linter.unusedSimpArgs false
open Go.RowKit
set_option maxRecDepth 100000
theorem CanV.bd {v : List En} (h : CanV v) : ∀ e ∈ v, BdE e := fun e he => BdE_of (h.1 e he).1
end Go.Proofs.YtjmhmeadcphfmaaGreatDoor
