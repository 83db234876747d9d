/- Texts of this claim, bound together: Q8 RefA Kp Pf. -/
import Derived.BigQuiet
import Derived.Deep.QuietTactic
import Derived.WalkMore
import Derived.Test.YtcedofkenfddkaaDoorB7
/- The operations on entries: what their results know, and the laws of chapter 8, without program. No condition. -/
namespace Go.Proofs.YtcedofkenfddkaaDoor
set_option linter.unusedVariables false
set_option linter.unusedSimpArgs false
variable {f : Bool → Bool → Bool} {a b c : En}
/-- What is known by an entry with another counter. -/
def below (c : Nat) : List Iv := if c = 0 then [] else [⟨0, c - 1⟩]
def canE (e : En) : En × Bool := ofS e.rep (kn e)
/-! ### the algebra -/
end Go.Proofs.YtcedofkenfddkaaDoor
/- The contracts of the references of the layers 3 and 4: Right, Relate, Check, Same. No condition but that the numbers are of 64 bits. -/
namespace Go.Proofs.YtcedofkenfddkaaDoor
set_option linter.unusedVariables false
set_option linter.unusedSimpArgs false
open Go.RowKit



/-- The error and the index of a list's check. -/
def chkL : Option Iv → List Iv → Nat → Nat × Int
  | _, [], _ => (0, -1)
  | p, s :: l, i => if s.lo ≤ s.hi then (if (match p with | none => 0 | some q => relate q s) = 0 then chkL (some s) l (i + 1) else (3, (i : Int))) else (2, (i : Int))
def chk (l : List Iv) : Nat × Int := chkL none l 0
theorem chkL_nf : ∀ (l : List Iv) (p : Option Iv) (i : Nat), (∀ s ∈ l, s.hi < M64) → ((chkL p l i).1 = 0 ↔ match p with | none => NF 0 l | some q => (∀ s ∈ l, s.lo ≤ s.hi → relate q s = 0 ∨ True) ∧ (l = [] ∨ ∃ s r, l = s :: r ∧ s.lo ≤ s.hi ∧ relate q s = 0 ∧ NF (s.hi + 2) r))
  | [], p, i, _ => by cases p <;> simp [chkL, NF]
  | s :: l, p, i, hb => by
    have ih := chkL_nf l (some s) (i + 1) (fun t ht => hb t (by simp [ht]))
    have hs := hb s (by simp)
    have key : (chkL (some s) l (i + 1)).1 = 0 ↔ NF (s.hi + 2) l := by
      rw [ih]
      constructor
      · rintro ⟨_, rfl | ⟨t, r, rfl, h1, h2, h3⟩⟩
        · trivial
        · refine ⟨?_, h1, hb t (by simp), h3⟩
          unfold relate at h2
          split at h2
          · split at h2
            · cases h2
            · omega
          · split at h2
            · split at h2 <;> cases h2
            · cases h2
      · intro h
        refine ⟨fun _ _ _ => .inr trivial, ?_⟩
        cases l with
        | nil => exact .inl rfl
        | cons t r =>
          have := h.1
          exact .inr ⟨t, r, rfl, h.2.1, by unfold relate; rw [if_pos (by omega), if_neg (by omega)], h.2.2.2⟩
    unfold chkL
    by_cases h1 : s.lo ≤ s.hi
    · rw [if_pos h1]
      cases p with
      | none =>
        simp only [if_true]
        rw [key]
        exact ⟨fun h => ⟨Nat.zero_le _, h1, hs, h⟩, fun h => h.2.2.2⟩
      | some q =>
        simp only
        by_cases h2 : relate q s = 0
        · rw [if_pos h2, key]
          exact ⟨fun h => ⟨fun _ _ _ => .inr trivial, .inr ⟨s, l, rfl, h1, h2, h⟩⟩, fun h => by
            rcases h.2 with h | ⟨t, r, e, _, _, h⟩
            · cases h
            · cases e; exact h⟩
        · rw [if_neg h2]
          simp
          intro _ h; exact absurd h h2
    · rw [if_neg h1]
      cases p with
      | none => simp [NF, h1]
      | some q =>
        simp
        intro h; exact absurd h h1
theorem chk_nrm {l : List Iv} (h : ∀ s ∈ l, s.hi < M64) : (chk l).1 = 0 ↔ Nrm l := chkL_nf l none 0 h
theorem chkL_step {l : List Iv} {k : Nat} {p : Option Iv} (h : k < l.length) : chkL p (l.drop k) k = if l[k].lo ≤ l[k].hi then (if (match p with | none => 0 | some q => relate q l[k]) = 0 then chkL (some l[k]) (l.drop (k + 1)) (k + 1) else (3, (k : Int))) else (2, (k : Int)) := by
  rw [List.drop_eq_getElem_cons h]; rfl


end Go.Proofs.YtcedofkenfddkaaDoor
/- entry.Canon at world level: what it returns is a row of its own. No condition on the entry but its size. -/
namespace Go.Proofs.YtcedofkenfddkaaDoor
set_option linter.unusedVariables false
set_option linter.unusedSimpArgs false
open Go.RowKit

/-- A row of intervals that may be written. -/
def Lax2 (n1 : Nat) (u : Value) (w : World) : Prop := ∃ (a : Option Addr) (k cap : Nat), u = .slice a k cap ∧ k ≤ cap ∧ cap ≤ maxLen ∧ (k ≠ 0 → ∃ b, a = some ⟨b, 0, none⟩ ∧ n1 ≤ b ∧ (∀ o, w.frozen? ⟨b, o, none⟩ = false) ∧ ∀ j, j < k * 2 → ∃ m, w.cell? ⟨b, j, none⟩ = some (.int .u64 m))
theorem someInt_set2 {w : World} {a : Addr} (h : ∃ m, w.cell? a = some (.int .u64 m)) (b : Addr) (x : Int) : ∃ m, (w.setCell b (.int .u64 x)).cell? a = some (.int .u64 m) := by
  obtain ⟨m, hm⟩ := h
  by_cases e : b = a
  · subst e
    exact ⟨x, World.cell?_setCell_same _ _ _ hm⟩
  · exact ⟨m, (World.cell?_setCell_other _ _ _ _ e).trans hm⟩
theorem Lax2.set {n1 : Nat} {u : Value} {w : World} (h : Lax2 n1 u w) (p : Addr) (x : Int) : Lax2 n1 u (w.setCell p (.int .u64 x)) := by
  obtain ⟨a, k, cap, rfl, h1, h2, h3⟩ := h
  refine ⟨a, k, cap, rfl, h1, h2, fun hk => ?_⟩
  obtain ⟨b, rfl, hb, hf, hc⟩ := h3 hk
  exact ⟨b, rfl, hb, fun o => by rw [World.frozen?_setCell]; exact hf o, fun i hi => someInt_set2 (hc i hi) p x⟩
theorem OwnR.lax2 {n1 : Nat} {a : Option Addr} {cap : Nat} {l : List Iv} {w : World} (h : OwnR n1 w (.slice a l.length cap) l) {k : Nat} (hk : k ≤ l.length) : Lax2 n1 (.slice a k cap) w := by
  obtain ⟨⟨h1, h2⟩, hb⟩ := h
  rcases h2 with ⟨he, h0⟩ | ⟨g, cap', cur, he, hg, hh, hn, hc, hs, ht⟩
  · obtain ⟨rfl, h4, rfl⟩ : a = none ∧ l.length = 0 ∧ cap = 0 := by simpa using he
    exact ⟨_, k, _, rfl, by omega, by decide, fun h => absurd (by omega) h⟩
  · cases he
    refine ⟨_, k, cap, rfl, by omega, hc, fun _ => ⟨g, rfl, hg, fun o => ?_, fun j hj => ?_⟩⟩
    · simp [World.frozen?, hh]
    · have hi : j / 2 < l.length := by omega
      obtain ⟨f1, f2⟩ := flat_get l (j / 2) hi
      rw [← ht, List.getElem?_take, if_pos (by omega)] at f1 f2
      rcases Nat.mod_two_eq_zero_or_one j with h0 | h0
      · rw [show j / 2 * 2 = j from by omega] at f1
        exact ⟨_, by simp only [World.cell?, hh]; simpa using f1⟩
      · rw [show j / 2 * 2 + 1 = j from by omega] at f2
        exact ⟨_, by simp only [World.cell?, hh]; simpa using f2⟩
theorem OwnR.at {n1 : Nat} {a : Option Addr} {cap : Nat} {l : List Iv} {w : World} (h : OwnR n1 w (.slice a l.length cap) l) {k : Nat} (hk : k < l.length) : l.length ≤ cap ∧ cap ≤ maxLen ∧ ∃ g, a = some ⟨g, 0, none⟩ ∧ n1 ≤ g ∧ w.cell? ⟨g, k * 2, none⟩ = some (.int .u64 l[k].lo) ∧ w.cell? ⟨g, k * 2 + 1, none⟩ = some (.int .u64 l[k].hi) := by
  obtain ⟨⟨h1, h2⟩, hb⟩ := h
  rcases h2 with ⟨he, h0⟩ | ⟨g, cap', cur, he, hg, hh, hn, hc, hs, ht⟩
  · omega
  · cases he
    obtain ⟨f1, f2⟩ := flat_get l k hk
    rw [← ht, List.getElem?_take, if_pos (by omega)] at f1 f2
    exact ⟨hn, hc, g, rfl, hg, by simp only [World.cell?, hh]; simpa using f1, by simp only [World.cell?, hh]; simpa using f2⟩
/-- append(Ranges(nil), l..): a copy, in a row of its own. -/
theorem wpList_append_nil {w : World} {ops : Array Oper} {rest : List Oper} {o : Oper} {a : Act} {Q : Exit → Act → World → Prop} (hgd : o.guard = none) (s x : Operand)
    (ho : o.op = .call { callee := .builtin .append, args := #[s, x], argTypes := #[23, 23] }) (hs : a.eval s = .slice none 0 0)
    {v : Value} {l : List Iv} (hx : a.eval x = v) (hr : RdR 0 w.heap.size w v l) (hl : l.length ≤ 1099511627776)
    (h : ∀ v' w', OwnR w.heap.size w' v' l → Below w.heap.size w w' → wpList Tryd.prog ops Q rest (a.put o.dst v') w') :
    wpList Tryd.prog ops Q (o :: rest) a w := by
  obtain ⟨i, hi, hz, hsize, hby⟩ := info_parts Tryd.infoIv
  have hown : w.ownsRow w.heap.size 46 2 (.slice none 0 0) 0 [] := World.ownsRow_nil _ _ _ _
  have hbd := hr.bound
  obtain ⟨ad, cap, rfl, hlc, hcm, hc⟩ := hr
  cases ad with
  | none =>
    obtain rfl : l = [] := by
      cases l with
      | nil => rfl
      | cons s l => obtain ⟨b, off, e, _⟩ := hc (by simp); cases e
    refine wpList_plain hgd fun K hK => ?_
    have hfin : OwnR w.heap.size w (.slice none 0 0) [] := ⟨hown, by simp⟩
    have hq := hK _ _ (h _ _ hfin (Below.refl _ _))
    clear hown hc hbd h hK hfin hi hz hsize hby
    simp only [List.length_nil] at hx
    unfold Oper.wp execOp
    simp only [ho, resolve, invoke, builtin, Sem.run_bind, Sem.run_pure, Result.andThen_ok, List.map_toArray, List.map_cons, List.map_nil, hs, hx]
    go_simp
    exact hq
  | some ad =>
    refine wpList_append_own_at (P := Tryd.prog) w hgd s x 23 ho w.heap.size 46 i (.agg #[.int .u64 0, .int .u64 0]) 2 16 Tryd.underlying23 hi hz hsize hby rfl (by decide) _ 0 [] hs hown ad l.length cap (flat l) hx (flat_length l) ?_ ?_ (by unfold maxLen; omega) ?_ (by omega) ?_
    · intro j u hj
      have hlt : j < l.length * 2 := by
        have := (List.getElem?_eq_some_iff.1 hj).1
        rwa [flat_length] at this
      have hne : l ≠ [] := by intro e; subst e; simp at hlt
      obtain ⟨b, off, e, _, _, hcell⟩ := hc hne
      cases e
      have hadd : (⟨b, off, none⟩ : Addr).add j = ⟨b, off + j, none⟩ := by unfold Addr.add; split <;> simp_all
      rw [hadd]
      have hk : j / 2 < l.length := by omega
      obtain ⟨g1, g2, _⟩ := hcell (j / 2) hk
      obtain ⟨f1, f2⟩ := flat_get l (j / 2) hk
      rcases Nat.mod_two_eq_zero_or_one j with h0 | h0
      · have e : j / 2 * 2 = j := by omega
        rw [e] at g1 f1
        rw [f1] at hj
        cases hj
        exact g1
      · have e : j / 2 * 2 + 1 = j := by omega
        rw [show off + j / 2 * 2 + 1 = off + j from by omega] at g2
        rw [e] at f2
        rw [f2] at hj
        cases hj
        exact g2
    · intro u hu
      simp [flat] at hu
      obtain ⟨s, _, rfl | rfl⟩ := hu <;> rfl
    · omega
    · intro v' w' ho hg _ hv
      refine h v' w' ⟨?_, hbd⟩ ⟨hg.os, hg.tape, hg.output, hg.size, fun k hk => hg.block k (by omega) (by simp [Value.ownBlock])⟩
      simpa using ho
theorem prev_w (x : Nat) (w : World) : Calls Tryd.prog 84 #[.int .u64 x] w fun e w' => ∃ (y : Int) (b : Bool), e = .returned (.tuple #[.int .u64 y, .bool b]) ∧ Below w.heap.size w w' := by
  go_enter Tryd.func84, Tryd.ntmps84
  go_wp2
  all_goals (refine bodyPost_ret (results_tmp2 rfl _ _ _) rfl ?_; exact ⟨_, _, rfl, Below.refl _ _⟩)
theorem heap_set {w : World} {b o : Nat} {cs : Array Value} {t : TypeId} {fr : Nat × Nat} (h : w.heap[b]? = some (.cells cs t fr)) (v : Value) : (w.setCell ⟨b, o, none⟩ v).heap[b]? = some (.cells (cs.setIfInBounds o v) t fr) := by
  simp [World.setCell, Array.getElem?_modify, h]
theorem cell_of {w : World} {g : Nat} {cs : Array Value} {t : TypeId} (h : w.heap[g]? = some (.cells cs t (0, 0))) (i : Nat) (v : Value) (hv : cs[i]? = some v) : w.cell? ⟨g, i, none⟩ = some v ∧ w.frozen? ⟨g, i, none⟩ = false := by
  constructor
  · simp [World.cell?, h, hv]
  · simp [World.frozen?, h]
theorem new2 (w : World) (o1 o2 : Obj) : ((w.alloc o1).alloc o2).heap[w.heap.size + 1]? = some o2 := by
  have h := World.alloc_heap_new (w.alloc o1) o2
  rw [World.size_alloc] at h
  exact h
/-- The loop of entry.Canon: the box of the entry, the result's, the copy. -/
def CI (w : World) (rep : Nat) (a : Option Addr) (cap : Nat) (l : List Iv) (m : Int) (k : Nat) (wr : World) : Prop :=
  wr.heap[w.heap.size]? = some (.cells #[.int .u64 rep, .int .u64 m, .slice a k cap] 34 (0, 0)) ∧ wr.heap[w.heap.size + 1]? = some (.cells #[.int .u64 0, .int .u64 0, .slice none 0 0] 34 (0, 0)) ∧
  OwnR (w.heap.size + 2) wr (.slice a l.length cap) l ∧ Below w.heap.size w wr
theorem CI.put {w wr w' : World} {rep : Nat} {a : Option Addr} {cap : Nat} {l : List Iv} {m : Int} {k : Nat} (h : CI w rep a cap l m k wr) (hb : Below wr.heap.size wr w') (m' : Int) (k' : Nat) :
    CI w rep a cap l m' k' ((w'.setCell ⟨w.heap.size, 1, none⟩ (.int .u64 m')).setCell ⟨w.heap.size, 2, none⟩ (.slice a k' cap)) := by
  obtain ⟨h1, h2, h3, h4⟩ := h
  have n1 := (Array.getElem?_eq_some_iff.1 h1).1
  have n2 := (Array.getElem?_eq_some_iff.1 h2).1
  have e1 := (hb.block _ n1).trans h1
  have e2 := (hb.block _ n2).trans h2
  refine ⟨heap_set (heap_set e1 _) _, ?_, ⟨ownsRow_setCell_below (ownsRow_setCell_below (h3.below hb (Nat.le_refl _)).1 (by simp) _) (by simp) _, h3.2⟩, ((h4.trans (hb.mono (Nat.le_of_lt n1))).setCell (Nat.le_refl _) _).setCell (Nat.le_refl _) _⟩
  rw [Below.heap_setCell _ _ _ _ (by simp), Below.heap_setCell _ _ _ _ (by simp)]
  exact e2
theorem Lax2.mono {n1 n2 : Nat} {u : Value} {w : World} (h : Lax2 n2 u w) (hn : n1 ≤ n2) : Lax2 n1 u w := by
  obtain ⟨a, k, cap, h0, h1, h2, h3⟩ := h
  refine ⟨a, k, cap, h0, h1, h2, fun hk => ?_⟩
  obtain ⟨b, e, hb, r⟩ := h3 hk
  exact ⟨b, e, by omega, r⟩
theorem CI.done {w wr w' : World} {rep : Nat} {a : Option Addr} {cap : Nat} {l : List Iv} {m : Int} {k : Nat} (h : CI w rep a cap l m k wr) (hk : k ≤ l.length) (hb : Below wr.heap.size wr w') (x y z : Value) :
    Lax2 w.heap.size (.slice a k cap) (((w'.setCell ⟨w.heap.size + 1, 0, none⟩ x).setCell ⟨w.heap.size + 1, 1, none⟩ y).setCell ⟨w.heap.size + 1, 2, none⟩ z) ∧ Below w.heap.size w (((w'.setCell ⟨w.heap.size + 1, 0, none⟩ x).setCell ⟨w.heap.size + 1, 1, none⟩ y).setCell ⟨w.heap.size + 1, 2, none⟩ z) := by
  obtain ⟨h1, h2, h3, h4⟩ := h
  have n1 := (Array.getElem?_eq_some_iff.1 h1).1
  refine ⟨(OwnR.lax2 ⟨ownsRow_setCell_below (ownsRow_setCell_below (ownsRow_setCell_below (h3.below hb (Nat.le_refl _)).1 (by simp) _) (by simp) _) (by simp) _, h3.2⟩ hk).mono (by simp), (((h4.trans (hb.mono (Nat.le_of_lt n1))).setCell (by simp) _).setCell (by simp) _).setCell (by simp) _⟩
theorem Lax2.keep {n1 : Nat} {u : Value} {w w' : World} (h : Lax2 n1 u w) (hb : Below w.heap.size w w') : Lax2 n1 u w' := by
  obtain ⟨a, k, cap, h0, h1, h2, h3⟩ := h
  refine ⟨a, k, cap, h0, h1, h2, fun hk => ?_⟩
  obtain ⟨b, e, hb1, hf, hc⟩ := h3 hk
  obtain ⟨m, hm⟩ := hc 0 (by omega)
  have hlt : b < w.heap.size := by
    rcases Nat.lt_or_ge b w.heap.size with h | h
    · exact h
    · rw [World.cell?, Array.getElem?_eq_none h] at hm; cases hm
  exact ⟨b, e, hb1, fun o => ((bcell hb).2 b o hlt).trans (hf o), fun j hj => by obtain ⟨m, hm⟩ := hc j hj; exact ⟨m, ((bcell hb).1 b j hlt).trans hm⟩⟩
theorem CI.keep {w wr w' : World} {rep : Nat} {a : Option Addr} {cap : Nat} {l : List Iv} {m : Int} {k : Nat} (h : CI w rep a cap l m k wr) (hb : Below wr.heap.size wr w') : CI w rep a cap l m k w' := by
  obtain ⟨h1, h2, h3, h4⟩ := h
  have n1 := (Array.getElem?_eq_some_iff.1 h1).1
  have n2 := (Array.getElem?_eq_some_iff.1 h2).1
  exact ⟨(hb.block _ n1).trans h1, (hb.block _ n2).trans h2, h3.below hb (Nat.le_refl _), h4.trans (hb.mono (Nat.le_of_lt n1))⟩
theorem CI.drew {w wr : World} {rep : Nat} {a : Option Addr} {cap : Nat} {l : List Iv} {m : Int} {k : Nat} (h : CI w rep a cap l m k wr) : CI w rep a cap l m k wr.drew := ⟨h.1, h.2.1, h.2.2.1, h.2.2.2.drew⟩
set_option maxHeartbeats 1000000 in
theorem canon_w {w : World} {rep max : Nat} {vh : Value} {l : List Iv} (hr : RdR 0 w.heap.size w vh l) (hl : l.length ≤ 10000) :
    Calls Tryd.prog 36 #[.agg #[.int .u64 rep, .int .u64 max, vh]] w fun e w' => ∃ (r m : Int) (u : Value) (b : Bool), e = .returned (.tuple #[.agg #[.int .u64 r, .int .u64 m, u], .bool b]) ∧ Lax2 w.heap.size u w' ∧ Below w.heap.size w w' := by
  have hv := hr
  obtain ⟨av, cv, rfl, _⟩ := hv
  have HR := Lib.hid hr
  clear hr
  go_enter Tryd.func36, Tryd.ntmps36
  go_upto_region 1 with fail
  go_step3
  go_wp2_with (
    at_builtin
    (refine wpList_append_nil rfl _ _ rfl rfl rfl (v := .slice av l.length cv) (l := l) (HR.out.keep (Nat.le_refl _) (by simp <;> omega) fun b _ hb => (Below.heap_alloc _ _ _ (by simp <;> omega)).trans (Below.heap_alloc _ _ _ hb)) (by omega) ?_)
    intro v' w3 ho hb
    obtain ⟨a, cap, rfl⟩ := ho.val
    have e1 := (hb.block w.heap.size (by simp <;> omega)).trans ((Below.heap_alloc _ _ _ (by simp)).trans (World.alloc_heap_new w _))
    have e2 : w3.heap[w.heap.size + 1]? = some (.cells #[.int .u64 0, .int .u64 0, .slice none 0 0] 34 (0, 0)) := (hb.block (w.heap.size + 1) (by simp)).trans (new2 w _ _)
    have b3 : Below w.heap.size w w3 := (((Below.refl _ w).alloc (Nat.le_refl _) _).alloc (by simp) _).trans (hb.mono (by simp <;> omega))
    have hf := (cell_of e1 2 _ rfl).2
    have hc := (cell_of e1 2 _ rfl).1)
  have hCI : CI w rep a cap l max l.length (w3.setCell ⟨w.heap.size, 2, none⟩ (.slice a l.length cap)) := by
    refine ⟨heap_set e1 _, ?_, ⟨ownsRow_setCell_below (ho.mono (by simp)).1 (by simp) _, ho.2⟩, b3.setCell (Nat.le_refl _) _⟩
    rw [Below.heap_setCell _ _ _ _ (by simp)]
    exact e2
  have HC := Lib.hid hCI
  clear hCI ho hb e1 e2 b3 hc hf
  go_step3
  go_wp2_with fail
  go_loopg [] l.length (fun g wr => ∃ (m : Int) (k : Nat), g = k ∧ k ≤ l.length ∧ CI w rep a cap l m k wr)
  case atStart => exact ⟨_, _, rfl, Nat.le_refl _, HC.out⟩
  case round =>
    clear HC
    obtain ⟨m, _, rfl, hk, hCI⟩ := hrel
    have h1 := hCI.1
    have h2 := hCI.2.1
    have c0 := (cell_of h1 0 (.int .u64 rep) rfl).1
    have c1 := (cell_of h1 1 (.int .u64 m) rfl).1
    have c2 := (cell_of h1 2 (.slice a gk cap) rfl).1
    have f1 := (cell_of h1 1 (.int .u64 m) rfl).2
    have f2 := (cell_of h1 2 (.slice a gk cap) rfl).2
    have d0 := (cell_of h2 0 (.int .u64 0) rfl).1
    have d1 := (cell_of h2 1 (.int .u64 0) rfl).1
    have d2 := (cell_of h2 2 (.slice none 0 0) rfl).1
    have j0 := (cell_of h2 0 (.int .u64 0) rfl).2
    have j1 := (cell_of h2 1 (.int .u64 0) rfl).2
    have j2 := (cell_of h2 2 (.slice none 0 0) rfl).2
    have n2 : w.heap.size + 1 < wr.heap.size := (Array.getElem?_eq_some_iff.1 h2).1
    have n1 : w.heap.size < wr.heap.size := by omega
    have HC := Lib.hid hCI
    clear hCI h1 h2
    by_cases hk0 : gk = 0
    · subst hk0
      go_wp2
      rw [Exit.noGoto_ret]
      refine bodyPost_ret (v := .tuple #[.agg #[.int .u64 rep, .int .u64 m, .slice a 0 cap], .bool true]) ?_ rfl ?_
      · rw [results_cell_tmp rfl]
        go_simp
      · exact ⟨_, _, _, _, rfl, HC.out.done hk (Below.refl _ _) _ _ _⟩
    · obtain ⟨k, rfl⟩ : ∃ k, gk = k + 1 := ⟨gk - 1, by omega⟩
      obtain ⟨q1, q2, g, rfl, hg, q3, q4⟩ := HC.out.2.2.1.at (k := k) (by omega)
      unfold maxLen at q2
      go_upto_region 5 with fail
      · rw [Exit.noGoto_ret]
        refine bodyPost_ret (v := .tuple #[.agg #[.int .u64 rep, .int .u64 m, .slice (some ⟨g, 0, none⟩) (k + 1) cap], .bool true]) ?_ rfl ?_
        · rw [results_cell_tmp rfl]
          go_simp
        · refine ⟨_, _, _, _, rfl, ?_⟩
          obtain ⟨x1, x2⟩ := HC.out.done hk (Below.refl _ _) (.int .u64 rep) (.int .u64 m) (.slice (some ⟨g, 0, none⟩) (k + 1) cap)
          exact ⟨x1.keep ((Below.refl _ _).alloc (Nat.le_refl _) _), x2.alloc x2.size _⟩
      · go_upto_region 8 with (
          go_at_call 84
          refine (prev_w _ _).mono ?_
          rintro e w4 ⟨y, b, rfl, hb4⟩
          have b4 : Below wr.heap.size wr w4 := ((Below.refl _ wr).alloc (Nat.le_refl _) _).trans (hb4.mono (by simp))
          have HC4 := Lib.hid (HC.out.keep b4)
          have e1 := HC4.out.1
          have e2 := HC4.out.2.1
          have c0 := (cell_of e1 0 (.int .u64 rep) rfl).1
          have c1 := (cell_of e1 1 (.int .u64 m) rfl).1
          have c2 := (cell_of e1 2 (.slice (some ⟨g, 0, none⟩) (k + 1) cap) rfl).1
          have f1 := (cell_of e1 1 (.int .u64 m) rfl).2
          have f2 := (cell_of e1 2 (.slice (some ⟨g, 0, none⟩) (k + 1) cap) rfl).2
          have d0 := (cell_of e2 0 (.int .u64 0) rfl).1
          have d1 := (cell_of e2 1 (.int .u64 0) rfl).1
          have d2 := (cell_of e2 2 (.slice none 0 0) rfl).1
          have j0 := (cell_of e2 0 (.int .u64 0) rfl).2
          have j1 := (cell_of e2 1 (.int .u64 0) rfl).2
          have j2 := (cell_of e2 2 (.slice none 0 0) rfl).2
          clear e1 e2)
        · rw [Exit.noGoto_ret]
          refine bodyPost_ret (v := .tuple #[.agg #[.int .u64 0, .int .u64 0, .slice none 0 0], .bool false]) ?_ rfl ?_
          · rw [results_cell_tmp rfl]
            go_simp
          · have x2 := (HC4.out.done hk (Below.refl _ _) (.int .u64 0) (.int .u64 0) (.slice none 0 0)).2
            exact ⟨_, _, _, _, rfl, ⟨none, 0, 0, rfl, Nat.le_refl _, by decide, fun h => absurd rfl h⟩, x2⟩
        · go_region
          go_wp2
          go_roundg k
          case measure => omega
          case rel =>
            refine ⟨y, k, rfl, by omega, ?_⟩
            exact (HC.out.put b4 y k).drew
theorem upTo_w (x : Nat) (w : World) : Calls Tryd.prog 80 #[.int .u64 x] w fun e w' => e = .returned (.agg #[.int .u64 0, .int .u64 x]) ∧ Below w.heap.size w w' := by
  go_enter Tryd.func80, Tryd.ntmps80
  go_wp2
  refine bodyPost_ret (v := .agg #[.int .u64 0, .int .u64 x]) ?_ rfl ⟨rfl, (Below.refl _ _).alloc (Nat.le_refl _) _⟩
  have h : Tryd.f80.results = #[.cell 2 46] := rfl
  simp only [results, h]
  go_simp
/-- What entry.Known returns: a row of its own. -/
theorem known_o {w : World} {rep max : Nat} {vh : Value} {l : List Iv} (hr : RdR 0 w.heap.size w vh l) (hn : Nrm l) (hm : max < M64) (hl : l.length ≤ 10000) :
    Calls Tryd.prog 26 #[.agg #[.int .u64 rep, .int .u64 max, vh]] w fun e w' => ∃ v, e = .returned v ∧ OwnR w.heap.size w' v (opS fMinus [⟨0, max⟩] l) ∧ Below w.heap.size w w' := by
  have hv := hr
  obtain ⟨av, cv, rfl, _⟩ := hv
  have HR := Lib.hid hr
  clear hr
  go_enter Tryd.func26, Tryd.ntmps26
  go_wp2_with fail
  have e1 := World.alloc_heap_new w (.cells #[.int .u64 rep, .int .u64 max, .slice av l.length cv] 34 (0, 0))
  have hb0 : Below w.heap.size w (w.alloc (.cells #[.int .u64 rep, .int .u64 max, .slice av l.length cv] 34 (0, 0))) := (Below.refl _ _).alloc (Nat.le_refl _) _
  refine regG 7 9 (fun w' => Below w.heap.size w w' ∧ w'.cell? ⟨w.heap.size, 1, none⟩ = some (.int .u64 max) ∧ w'.cell? ⟨w.heap.size, 2, none⟩ = some (.slice av l.length cv)) (by kernel_rfl) (by kernel_rfl) rfl ⟨hb0.drew, (cell_of e1 1 _ rfl).1, (cell_of e1 2 _ rfl).1⟩ ?_
  simp only [List.take_succ_cons, List.take_zero]
  repeat (first
    | (refine wdet ?_ rfl (fun a w hc _ hr => ?_) ?_; rotate_left; (simp [Rds, rdsO, lk, Op.operands, Call.operands, RdEq] at hr; go_simp; with_reducible rfl); dsimp only [List.nil_append, List.cons_append])
    | (refine wskip rfl ?_ ?_; (first | exact .inl (isV_eq rfl rfl) | exact .inr (isV_eq rfl rfl)); dsimp only [List.nil_append, List.cons_append])
    | (refine wdetg rfl ?_ ?_ (fun a w hc _ hr => ?_) ?_; exact (isV_eq rfl rfl); rotate_left; (simp [Rds, rdsO, lk, Op.operands, Call.operands, RdEq] at hr; go_simp; with_reducible rfl); dsimp only [List.nil_append, List.cons_append]))
  refine wgen (fun u _ => u = .agg #[.int .u64 0, .int .u64 max]) (eqV_stab _) rfl ?_ ?_
  · intro a2 w2 hc hk hr K hK
    have HK := Lib.hid hK
    clear hK
    simp [Rds, rdsO, lk, Op.operands, Call.operands, RdEq] at hr
    go_simp
    refine (upTo_w _ _).mono ?_
    rintro e w3 ⟨rfl, hb⟩
    have hkb : Keep NoB w2 w3 := Keep.of_below' hb (Nat.le_refl _)
    exact HK.out _ _ hkb ⟨hc.1.trans (hb.mono hc.1.size), hkb.cell_some hc.2.1 id, hkb.cell_some hc.2.2 id⟩ rfl
  dsimp only [List.nil_append, List.cons_append]
  refine wgen (fun u w' => OwnR w.heap.size w' u (opS fMinus [⟨0, max⟩] l)) (fun _ _ _ h hk => h.keep hk fun _ _ => id) rfl ?_ ?_
  · intro a2 w2 hc hk hr K hK
    have HK := Lib.hid hK
    clear hK
    simp [Rds, rdsO, lk, Op.operands, Call.operands, RdEq] at hr
    go_simp
    refine (not_calls l _ ⟨0, max⟩ w2 hn (Nat.zero_le _) hm (HR.out.keep (Nat.le_refl _) hc.1.size fun b _ h => hc.1.block b h) (by omega)).mono ?_
    rintro e w3 ⟨v, rfl, ho, hb⟩
    have hkb : Keep NoB w2 w3 := Keep.of_below' hb (Nat.le_refl _)
    exact HK.out _ _ hkb ⟨hc.1.trans (hb.mono hc.1.size), hkb.cell_some hc.2.1 id, hkb.cell_some hc.2.2 id⟩ (ho.mono hc.1.size)
  dsimp only [List.nil_append, List.cons_append]
  repeat (first
    | (refine wdet ?_ rfl (fun a w hc _ hr => ?_) ?_; rotate_left; (simp [Rds, rdsO, lk, Op.operands, Call.operands, RdEq] at hr; go_simp; with_reducible rfl); dsimp only [List.nil_append, List.cons_append])
    | (refine wskip rfl ?_ ?_; (first | exact .inl (isV_eq rfl rfl) | exact .inr (isV_eq rfl rfl)); dsimp only [List.nil_append, List.cons_append])
    | (refine wdetg rfl ?_ ?_ (fun a w hc _ hr => ?_) ?_; exact (isV_eq rfl rfl); rotate_left; (simp [Rds, rdsO, lk, Op.operands, Call.operands, RdEq] at hr; go_simp; with_reducible rfl); dsimp only [List.nil_append, List.cons_append]))
  refine wgen (fun u w' => OwnR w.heap.size w' u (opS fMinus [⟨0, max⟩] l)) (fun _ _ _ h hk => h.keep hk fun _ _ => id) rfl ?_ ?_
  · intro a2 w2 hc hk hr K hK
    have HK := Lib.hid hK
    clear hK
    simp [Rds, rdsO, lk, Op.operands, Call.operands, RdEq] at hr
    go_simp
    obtain ⟨u, ⟨_, hu⟩, ho⟩ := hr
    rw [hu]
    exact HK.out _ _ (Keep.refl _ _) hc ho
  dsimp only [List.nil_append, List.cons_append]
  intro w2 hc2 hk2
  simp only [finG, forall_eq, List.nil_append, List.cons_append, List.drop_succ_cons, List.drop_zero, List.drop_nil]
  simp only [Act.put, List.setIfInBounds_toArray, List.set_cons_succ, List.set_cons_zero]
  intro u8 g8 u2 g2
  go_wp2
  go_ret
  exact ⟨_, rfl, g2, hc2.1⟩
theorem OwnR.set3 {base B : Nat} {w : World} {a : Option Addr} {cap : Nat} {l : List Iv} (h : OwnR base w (.slice a l.length cap) l) (hB : B < base) (x y z : Value) : Lax2 base (.slice a l.length cap) (((w.setCell ⟨B, 0, none⟩ x).setCell ⟨B, 1, none⟩ y).setCell ⟨B, 2, none⟩ z) :=
  OwnR.lax2 ⟨ownsRow_setCell_below (ownsRow_setCell_below (ownsRow_setCell_below h.1 hB _) hB _) hB _, h.2⟩ (Nat.le_refl _)
set_option maxHeartbeats 1000000 in
theorem of_o {w : World} (r : Nat) {vh : Value} {l : List Iv} (hr : RdR 0 w.heap.size w vh l) (hn : Nrm l) (hl : l.length ≤ 100000) :
    Calls Tryd.prog 32 #[.int .u64 r, vh] w fun e w' => ∃ (r m : Int) (u : Value) (b : Bool), e = .returned (.tuple #[.agg #[.int .u64 r, .int .u64 m, u], .bool b]) ∧ Lax2 w.heap.size u w' ∧ Below w.heap.size w w' := by
  have hv := hr
  obtain ⟨av, cv, rfl, h1, h2, h3⟩ := hv
  have HR := Lib.hid hr
  clear hr
  have hM := M64_val
  go_enter Tryd.func32, Tryd.ntmps32
  by_cases h0 : l = []
  · subst h0
    simp only [List.length_nil] at *
    go_wp2
    refine bodyPost_ret (v := .tuple #[.agg #[.int .u64 0, .int .u64 0, .slice none 0 0], .bool false]) ?_ rfl ?_
    · rw [results_cell_tmp rfl]
      go_simp
    · exact ⟨_, _, _, _, rfl, ⟨none, 0, 0, rfl, Nat.le_refl _, by decide, fun h => absurd rfl h⟩, (Below.refl _ _).alloc (Nat.le_refl _) _⟩
  · obtain ⟨b, off, rfl, _, hb, hc⟩ := h3 h0
    obtain ⟨k, hk⟩ : ∃ k, l.length = k + 1 := ⟨l.length - 1, by have := List.length_pos_iff.2 h0; omega⟩
    obtain ⟨q1, q2, q3, q4⟩ := hc k (by omega)
    clear h3 hc
    obtain ⟨T, hT⟩ : ∃ T, l[k].hi = T := ⟨_, rfl⟩
    rw [hT] at q2 q4
    unfold maxLen at h2
    rw [hk] at h1
    simp only [hk] at HR ⊢
    go_wp2_with (first
      | (go_at_call 80
         refine (upTo_w T _).mono ?_
         rintro e w3 ⟨rfl, hb3⟩)
      | (go_at_call 69
         have s3 : w.heap.size + 1 ≤ w3.heap.size := by have := hb3.size; simpa using this
         have b3 : Below w.heap.size w w3 := ((Below.refl _ w).alloc (Nat.le_refl _) _).trans (hb3.mono (by simp))
         refine (not_calls l _ ⟨0, T⟩ w3 hn (Nat.zero_le _) q4 (HR.out.keep (Nat.le_refl _) b3.size fun b _ h => b3.block b h) (by omega)).mono ?_
         rintro e w4 ⟨v, rfl, ho, hb4⟩
         have e4 := (hb4.block w.heap.size (by omega)).trans ((hb3.block w.heap.size (by simp)).trans (World.alloc_heap_new w _))
         obtain ⟨a, cap, rfl⟩ := ho.val
         have d0 := (cell_of e4 0 (.int .u64 0) rfl).1
         have d1 := (cell_of e4 1 (.int .u64 0) rfl).1
         have d2 := (cell_of e4 2 (.slice none 0 0) rfl).1
         have j0 := (cell_of e4 0 (.int .u64 0) rfl).2
         have j1 := (cell_of e4 1 (.int .u64 0) rfl).2
         have j2 := (cell_of e4 2 (.slice none 0 0) rfl).2
         have b4 := b3.trans (hb4.mono b3.size)
         clear e4))
    refine bodyPost_ret (v := .tuple #[.agg #[.int .u64 r, .int .u64 T, .slice a (opS fMinus [⟨0, T⟩] l).length cap], .bool true]) ?_ rfl ?_
    · rw [results_cell_tmp rfl]
      go_simp
    · exact ⟨_, _, _, _, rfl, (ho.set3 (by omega) _ _ _).mono (by omega), (((b4.setCell (Nat.le_refl _) _).setCell (Nat.le_refl _) _).setCell (Nat.le_refl _) _)⟩
end Go.Proofs.YtcedofkenfddkaaDoor
/- A function keeps its contract if what is asked of its text holds; and what a contract says of the machine. No condition. -/
namespace Go.Proofs.YtcedofkenfddkaaDoor
set_option linter.unusedVariables false
set_option linter.unusedSimpArgs false
open Go.RowKit
variable {P : Program}

def enumP : Nat → List PV → List (Nat × PV)
  | _, [] => []
  | k, p :: ps => (k, p) :: enumP (k + 1) ps
theorem lkp_enum : ∀ (ps : List PV) (k i : Nat), lkp (enumP k ps) i = if k ≤ i then ps.getD (i - k) .und else .und
  | [], k, i => by simp [enumP, lkp]
  | p :: ps, k, i => by
    simp only [enumP, lkp]
    by_cases h : k = i
    · subst h; simp
    · rw [if_neg h, lkp_enum ps (k + 1) i]
      by_cases h2 : k + 1 ≤ i
      · rw [if_pos h2, if_pos (by omega)]
        obtain ⟨d, hd⟩ : ∃ d, i - k = d + 1 := ⟨i - k - 1, by omega⟩
        rw [hd, show i - (k + 1) = d from by omega]
        rfl
      · rw [if_neg h2, if_neg (by omega)]
def PV.resD : PV → Bool
  | .agg cs => allD cs
  | p => p.isD
def tupV : List Value → Value
  | [u] => u
  | us => .tuple us.toArray
/-- Where a result lies: in a slot, or in a variable of the call's own (whether a struct, its cells). -/
inductive RV where
  | t (i : Nat)
  | c (i : Nat) (ag : Bool) (n : Nat)
def RV.get (s : PS) : RV → Option PV
  | .t i => some (s.get i)
  | .c i ag n => match s.get i with
    | .bx j o => match s.b[j]? with
      | some cs => match ag with
        | true => if o + n ≤ cs.length then some (.agg ((cs.drop o).take n)) else none
        | false => cs[o]?
      | none => none
    | _ => none
def rvs (s : PS) : List RV → Option (List PV)
  | [] => some []
  | r :: l => (r.get s).bind fun p => (rvs s l).map fun ps => p :: ps
/-- What a function returns. -/
def RetOk (rs : List RV) (s : PS) (r : PV) : Prop := match rs with
  | [.t t] => SubP 0 (s.get t) r
  | [x] => match x.get s with
    | some p => p.resD = true ∧ SubP 0 p.sh r ∧ r.own = none
    | none => False
  | rs => match rvs s rs with
    | some ps => ps.all PV.resD = true ∧ SubP 0 (.tup (ps.map PV.sh)) r
    | none => False
def postF (rs : List RV) (r : PV) : PX → PS → Prop
  | .x _, _ => False
  | _, s => RetOk rs s r
def compR (P : Program) : ResultVar → Option RV
  | .tmp t => some (.t t)
  | .cell a t => (shp P t).bind fun (ag, n) => if ag || n == 1 then some (.c a ag n) else none
def compRs (P : Program) : List ResultVar → Option (List RV)
  | [] => some []
  | r :: l => (compR P r).bind fun x => (compRs P l).map fun xs => x :: xs
section
variable {B : Bs} {nt : Nat} {g : Gh} {s : PS} {a : Act} {w : World}
def resRun (tmps : Array Value) : ResultVar → Sem Value
  | .tmp t => pure (tmps.getD t undef)
  | .cell a t => do loadVar t (← asAddr (tmps.getD a undef))
/-- A result's value. -/
theorem rv_one (h : R B g s (slt a) w) {rv : ResultVar} {x : RV} {p : PV} (hc : compR P rv = some x) (hg : x.get s = some p) (hd : p.resD = true) : ∃ u, (resRun a.tmps rv).run P w = .ok u w ∧ Dat g.D w u p.sh := by
  cases rv with
  | tmp t =>
    cases hc
    simp only [RV.get, Option.some.injEq] at hg
    subst hg
    have hD : (s.get t).isD = true := by
      revert hd
      cases s.get t <;> intro hd <;> first | exact hd | rfl
    exact ⟨_, rfl, ((h.slots t).data hD).sh⟩
  | cell i t =>
    simp only [compR, Option.bind_eq_some_iff] at hc
    obtain ⟨⟨ag, n⟩, hs, hc⟩ := hc
    simp only at hc
    split at hc
    · rename_i hcond
      cases hc
      simp only [RV.get] at hg
      split at hg
      · rename_i j o e
        have hr := h.slots i
        rw [e] at hr
        obtain ⟨hj, e1⟩ := hr.inv_bx
        split at hg
        · rename_i cs hcs
          obtain ⟨hW, vs, e', hv, hz, hb⟩ := h.boxes j cs hcs
          have hcell : ∀ k, k < cs.length → w.cell? ⟨g.ρ j, 0 + k, none⟩ = some (vs.getD k undef) ∧ (vs.getD k undef).oneCell' = true := fun k hk => by
            refine ⟨?_, (hb k _ (List.getElem?_eq_getElem hk)).2⟩
            simp only [World.cell?, hv]
            simp [show k < vs.size by omega]
          have hq : qAt cs o ag n fun y => y = p := by
            unfold qAt
            cases ag with
            | true =>
              simp only at hg ⊢
              split at hg
              · rename_i hle; cases hg; exact ⟨hle, rfl⟩
              · cases hg
            | false =>
              simp only at hg ⊢
              rw [hg]
          have hall : ag = true → allD ((cs.drop o).take n) = true := fun e => by
            subst e
            simp only at hg
            split at hg
            · cases hg; exact hd
            · cases hg
          obtain ⟨u, p', g1, g2, rfl⟩ := qAt_load (P := P) (D := g.D) (ρ := g.ρ) (nb := s.b.length) hs hq hcell (fun k q hq => (hb k q hq).1) hall
          refine ⟨u, ?_, (g2.data ?_).sh⟩
          · rw [Nat.zero_add] at g1
            have e2 : a.tmps.getD i undef = .pointer (some ⟨g.ρ j, o, none⟩) := e1
            simp only [resRun, e2, asAddr, Sem.run_bind, Sem.run_pure, Result.andThen_ok, g1]
          · revert hd
            cases p' <;> intro hd <;> first | exact hd | rfl
        · cases hg
      · cases hg
    · cases hc
theorem rv_all (h : R B g s (slt a) w) : ∀ {l : List ResultVar} {rs : List RV} {ps : List PV}, compRs P l = some rs → rvs s rs = some ps → ps.all PV.resD = true →
    ∃ us : List Value, (l.mapM (resRun a.tmps)).run P w = .ok us w ∧ us.length = ps.length ∧ l.length = rs.length ∧ ∀ (i : Nat) p, ps[i]? = some p → Dat g.D w (us.getD i undef) p.sh
  | [], rs, ps, hc, hp, _ => by cases hc; cases hp; exact ⟨[], rfl, rfl, rfl, fun i p h => by simp at h⟩
  | r :: l, rs, ps, hc, hp, hd => by
    simp only [compRs, Option.bind_eq_some_iff, Option.map_eq_some_iff] at hc
    obtain ⟨x, hx, xs, hxs, rfl⟩ := hc
    simp only [rvs, Option.bind_eq_some_iff, Option.map_eq_some_iff] at hp
    obtain ⟨p, hp, qs, hq, rfl⟩ := hp
    simp only [List.all_cons, Bool.and_eq_true] at hd
    obtain ⟨u, h1, h2⟩ := rv_one h hx hp hd.1
    obtain ⟨us, h3, h4, h5, h6⟩ := rv_all h hxs hq hd.2
    refine ⟨u :: us, by simp only [List.mapM_cons, Sem.run_bind, h1, Result.andThen_ok, h3, Sem.run_pure], by simp [h4], by simp [h5], fun i q hi => ?_⟩
    cases i with
    | zero => simp at hi; subst hi; exact h2
    | succ i => simpa using h6 i q (by simpa using hi)
theorem results_eq (fn : Func) (tmps : Array Value) {us : List Value} (h : (fn.results.toList.mapM (resRun tmps)).run P w = .ok us w) : (results fn tmps).run P w = .ok (tupV us) w := by
  unfold results
  rw [Array.mapM_eq_mapM_toList]
  simp only [Sem.run_bind, Sem.run_map]
  erw [h]
  simp only [Result.andThen_ok, Sem.run_pure]
  match us with
  | [] => rfl
  | [u] => rfl
  | u :: v :: l => simp [tupV]
end
theorem dat0 {D : Nat → Nat → Prop} {ρ : Nat → Nat} {w : World} {u : Value} {p : PV} (h : Rel D ρ 0 w u p) : Dat D w u p := by
  have h1 : ∀ {u p}, Rel1 D ρ 0 w u p → Dat D w u p := fun h => by
    rcases h with h | ⟨i, o, _, hi, _⟩
    · exact h
    · omega
  rcases h with h | ⟨f, va, vb, fs, cs, rfl, rfl, h3, h4, h5, h6⟩
  · exact h1 h
  · exact .fn f va vb fs cs h3 h4 (fun i p hp => h1 (h5 i p hp)) (fun i p hp => h1 (h6 i p hp))
theorem enters_fn {f : FuncId} {fn : Func} {c : Code} (hf : P.funcs[f]? = some fn) (hn : (fn.name == "runtime.NumGoroutine") = false) (hb : fn.body = some c) : ∀ args w, (callFunc f args).run P w = .ok (.enter f args) w := by
  intro args w
  have hn' : ¬ fn.name = "runtime.NumGoroutine" := by simpa using hn
  simp [callFunc, hf, hn', hb]
theorem cn_of {f : FuncId} {fn : Func} {c : Code} {pc : PC} (ms : List Nat) (hf : P.funcs[f]? = some fn) (hn : (fn.name == "runtime.NumGoroutine") = false) (hb : fn.body = some c) (rs : List RV) (hr : compRs P fn.results.toList = some rs) (nt : Nat) (hnt : fn.ntmps = nt) (hc : compC P nt ms c = some pc) {ps : List PV} {r : PV}
    (hps : ∀ p ∈ ps, p.own = none) (hl : ps.length ≤ nt) (hvc : pW P nt True pc (postF rs r) ⟨enumP 0 ps, []⟩) : Cn P f ps r := by
  refine ⟨enters_fn hf hn hb, fun D w vs hgl hD hsz hd => calls_of_wp hf hb ?_⟩
  subst hnt
  obtain ⟨a, ha⟩ : ∃ a : Act, ({ tmps := vs ++ Array.replicate (fn.ntmps - vs.size) undef, defers := [] } : Act) = a := ⟨_, rfl⟩
  rw [ha]
  have hR : RA ⟨w, D, fun _ => False, hgl⟩ fn.ntmps ⟨D, fun _ => 0⟩ ⟨enumP 0 ps, []⟩ a w := by
    have hget : ∀ t, (⟨enumP 0 ps, []⟩ : PS).get t = ps.getD t .und := fun t => by
      show lkp (enumP 0 ps) t = _
      rw [lkp_enum]; simp
    have hown : ∀ u p, Slot ⟨D, fun _ => 0⟩ ⟨enumP 0 ps, []⟩ (slt a) w u p → p.own = none := by
      rintro u p (⟨t, rfl, rfl⟩ | ⟨i, j, cs, h1, _⟩)
      · rw [hget, List.getD_eq_getElem?_getD]
        cases h : ps[t]? with
        | none => rfl
        | some p => exact hps p (List.mem_of_getElem? h)
      · simp at h1
    refine ⟨⟨fun t => ?_, fun i cs h => by simp at h, fun i j h => by simp at h, fun u p h => ownOk_none (hown u p h), fun u p u' p' b h _ ho => absurd (hown u p h) ho, fun u p b i h ho => absurd (hown u p h) ho, hD, fun i h => by simp at h, ⟨rfl, rfl, rfl, Nat.le_refl _, fun _ _ _ => rfl, fun _ _ h => h, fun _ _ _ _ h => h, fun _ _ h => .inl h, hD⟩⟩, by rw [← ha], by rw [← ha]; simp; omega⟩
    rw [hget, List.getD_eq_getElem?_getD]
    cases h : ps[t]? with
    | none => exact .dat (.und _)
    | some p =>
      have := hd t p h
      have ht : t < vs.size := by rw [hsz]; exact (List.getElem?_eq_some_iff.1 h).1
      have e : slt a t = vs.getD t undef := by
        rw [← ha]
        simp [slt, Array.getElem?_append_left ht]
      rw [e]; exact .dat this
  refine wp_mono (pW_sound (B := ⟨w, D, fun _ => False, hgl⟩) (fun _ _ h => h) c pc hc _ _ _ a w hvc hR) fun e a' w' he => ?_
  have fin : ∀ s g, RA ⟨w, D, fun _ => False, hgl⟩ fn.ntmps g s a' w' → RetOk rs s r → bodyPost P fn (fun e w' => ∃ v D', e = .returned v ∧ Below w.heap.size w w' ∧ (∀ b o, D b o → D' b o) ∧ (∀ b o, D' b o → D b o ∨ w.heap.size ≤ b) ∧ (∀ b o, D' b o → b < w'.heap.size) ∧ Dat D' w' v r ∧ OwnOk D' (fun k => w.heap.size ≤ k) w' v r) .ret a' w' := by
    intro s g h hret
    obtain ⟨hR, hdf, _⟩ := h
    have hbel : Below w.heap.size w w' := ⟨hR.fr.os, hR.fr.tape, hR.fr.output, hR.fr.size, fun k hk => hR.fr.block k hk fun h => h⟩
    have hnew : ∀ b o, g.D b o → D b o ∨ w.heap.size ≤ b := fun b o h => by
      rcases hR.fr.new b o h with h' | h' | h'
      · exact .inl h'
      · exact .inr h'
      · exact h'.elim
    have many : ∀ ps', rvs s rs = some ps' → ps'.all PV.resD = true → ∃ us : List Value, (results fn a'.tmps).run P w' = .ok (tupV us) w' ∧ us.length = ps'.length ∧ ∀ (i : Nat) p, ps'[i]? = some p → Dat g.D w' (us.getD i undef) p.sh := fun ps' h1 h2 => by
      obtain ⟨us, k1, k2, _, k3⟩ := rv_all hR hr h1 h2
      exact ⟨us, results_eq fn _ k1, k2, k3⟩
    unfold RetOk at hret
    split at hret
    · rename_i t
      have hres : fn.results.toList = [.tmp t] := by
        revert hr
        cases fn.results.toList with
        | nil => intro h; cases h
        | cons x l =>
          intro h
          simp only [compRs, Option.bind_eq_some_iff, Option.map_eq_some_iff] at h
          obtain ⟨y, hy, ys, hys, e⟩ := h
          cases e
          cases l with
          | nil =>
            cases x with
            | tmp t => cases hy; rfl
            | cell a t =>
              simp only [compR, Option.bind_eq_some_iff] at hy
              obtain ⟨⟨ag, n⟩, _, hy⟩ := hy
              simp only at hy
              split at hy <;> cases hy
          | cons z l =>
            simp only [compRs, Option.bind_eq_some_iff, Option.map_eq_some_iff] at hys
            obtain ⟨_, _, _, _, e⟩ := hys
            cases e
      have hrun := results_eq (P := P) (w := w') fn a'.tmps (us := [a'.tmps.getD t undef]) (by rw [hres]; rfl)
      refine ⟨hdf, _, hrun, _, g.D, rfl, hbel, hR.fr.d0, hnew, hR.dlt, dat0 (SubP.rel hret (hR.slots t)), ?_⟩
      by_cases ho : r.own = none
      · exact ownOk_none ho
      · rcases SubP.own hret (hR.slots t) ho with rfl | ⟨_, hk⟩
        · have := hR.owns _ _ (hR.slot t)
          revert this ho
          cases s.get t <;> try (intros; trivial)
          rename_i es ow
          cases ow <;> try (intros; trivial)
          intro _ h
          rcases h with hn | ⟨gg, cap, cur, e, h1, hW, h2⟩
          · exact .inl hn
          · exact .inr ⟨gg, cap, cur, e, h1, hW.resolve_right (fun h => h), h2⟩
        · exact hk _ _ _
    · rename_i x _
      split at hret
      · rename_i p hp
        obtain ⟨h1, h2, h3⟩ := hret
        obtain ⟨us, k1, k2, k3⟩ := many [p] (by simp [rvs, hp]) (by simpa using h1)
        match us, k2 with
        | [u], _ =>
          refine ⟨hdf, _, k1, _, g.D, rfl, hbel, hR.fr.d0, hnew, hR.dlt, ?_, ownOk_none h3⟩
          exact dat0 (ρ := g.ρ) (SubP.rel h2 (nb := 0) (.dat (k3 0 p rfl)))
      · exact hret.elim
    · split at hret
      · rename_i hne1 hne2 _ ps' hp
        obtain ⟨h1, h2⟩ := hret
        obtain ⟨us, k1, k2, k3⟩ := many ps' hp h1
        have hlen : us.length ≠ 1 := by
          intro e
          rw [k2] at e
          have hl2 : ∀ {rs ps'}, rvs s rs = some ps' → ps'.length = rs.length := by
            intro rs
            induction rs with
            | nil => intro ps' h; cases h; rfl
            | cons x l ih =>
              intro ps' h
              simp only [rvs, Option.bind_eq_some_iff, Option.map_eq_some_iff] at h
              obtain ⟨p, _, qs, hq, rfl⟩ := h
              simp [ih hq]
          rw [hl2 hp] at e
          match rs, e with
          | [x], _ => exact hne2 x rfl
        have ev : tupV us = .tuple us.toArray := by
          revert hlen
          match us with
          | [] => intro _; rfl
          | [u] => intro h; exact absurd rfl h
          | u :: v :: l => intro _; rfl
        rw [ev] at k1
        have : r.own = none := by cases h2 <;> rfl
        refine ⟨hdf, _, k1, _, g.D, rfl, hbel, hR.fr.d0, hnew, hR.dlt, ?_, ownOk_none this⟩
        refine dat0 (ρ := g.ρ) (SubP.rel h2 (nb := 0) (.dat (.tup _ _ (by simp [k2]) fun i p hp => ?_)))
        simp only [List.getElem?_map, Option.map_eq_some_iff] at hp
        obtain ⟨q, hq, rfl⟩ := hp
        have := k3 i q hq
        simpa [List.getD_eq_getElem?_getD] using this
      · exact hret.elim
  cases e with
  | normal => obtain ⟨s, g, h1, h2⟩ := he; exact fin s g h1 h2
  | ret => obtain ⟨s, g, h1, h2⟩ := he; exact fin s g h1 h2
  | exit id => obtain ⟨s, g, h1, h2⟩ := he; exact h2.elim
  | goto l => exact he.elim
  | panic ch => exact he.elim
  | outgrown => exact he.elim

/-! ### A function that takes over a slice -/
/-- What it returns: the successor, whatever its name. -/
def postO (t : Nat) (rs : List (List PV)) (sz : Nat) : PX → PS → Prop
  | .x _, _ => False
  | _, s => match s.get t with
    | .sl es (.r _ sz') => es = rs ∧ sz' = sz
    | _ => False
theorem ocn_of {f : FuncId} {fn : Func} {c : Code} {pc : PC} (ms : List Nat) (hf : P.funcs[f]? = some fn) (hn : (fn.name == "runtime.NumGoroutine") = false) (hb : fn.body = some c) (t : Nat) (hr : compRs P fn.results.toList = some [.t t]) (nt : Nat) (hnt : fn.ntmps = nt) (hc : compC P nt ms c = some pc) {es rs : List (List PV)} {sz : Nat} {ps : List PV}
    (hps : ∀ p ∈ ps, p.own = none) (hl : ps.length + 1 ≤ nt) (hvc : pW P nt False pc (postO t rs sz) ⟨enumP 0 (.sl es (.r 0 sz) :: ps), []⟩) : OCn P f es sz ps rs := by
  refine ⟨enters_fn hf hn hb, fun D w v vs hgl hD hsz hd hv hvo => calls_of_wp hf hb ?_⟩
  subst hnt
  obtain ⟨a, ha⟩ : ∃ a : Act, ({ tmps := (#[v] ++ vs) ++ Array.replicate (fn.ntmps - (#[v] ++ vs).size) undef, defers := [] } : Act) = a := ⟨_, rfl⟩
  rw [ha]
  have hget : ∀ i, (⟨enumP 0 (.sl es (.r 0 sz) :: ps), []⟩ : PS).get i = (PV.sl es (.r 0 sz) :: ps).getD i .und := fun i => by
    show lkp (enumP 0 _) i = _
    rw [lkp_enum]; simp
  have hslt0 : slt a 0 = v := by
    rw [← ha]
    simp only [slt, Array.getD_eq_getD_getElem?]
    rw [Array.getElem?_append_left (by simp; omega), Array.getElem?_append_left (by simp)]
    rfl
  have hs : ∀ u p, Slot ⟨D, fun _ => 0⟩ ⟨enumP 0 (.sl es (.r 0 sz) :: ps), []⟩ (slt a) w u p → p.own ≠ none → u = v ∧ p = .sl es (.r 0 sz) := by
    rintro u p (⟨i, rfl, rfl⟩ | ⟨i, j, cs, h1, _⟩) ho
    · rw [hget] at ho ⊢
      cases i with
      | zero => exact ⟨hslt0, rfl⟩
      | succ i =>
        exfalso
        simp only [List.getD_eq_getElem?_getD, List.getElem?_cons_succ] at ho
        cases h : ps[i]? with
        | none => rw [h] at ho; exact ho rfl
        | some p => rw [h] at ho; exact ho (hps p (List.mem_of_getElem? h))
    · simp at h1
  have hvo' : OwnOk D (Bs.W ⟨w, D, fun k => blk v = some k, hgl⟩) w v (.sl es (.r 0 sz)) := by
    rcases hvo with hn | ⟨gg, cap, cur, e, h1, h2, h3⟩
    · exact .inl hn
    · cases cap with
      | zero =>
        by_cases hes : es = []
        · subst hes; exact .inl ⟨_, by rw [h1]; rfl, rfl⟩
        · have := sl_cap (ρ := fun _ => 0) (nb := 0) (.dat (h1 ▸ hv))
          exact absurd (List.eq_nil_of_length_eq_zero (Nat.le_zero.1 this.1)) hes
      | succ cap => exact .inr ⟨gg, _, cur, e, h1, .inr (by rw [h1]; rfl), h3⟩
  have hR : RA ⟨w, D, fun k => blk v = some k, hgl⟩ fn.ntmps ⟨D, fun _ => 0⟩ ⟨enumP 0 (.sl es (.r 0 sz) :: ps), []⟩ a w := by
    refine ⟨⟨fun i => ?_, fun i cs h => by simp at h, fun i j h => by simp at h, fun u p h => ?_, fun u p u' p' b h h' ho ho' _ _ => by rw [(hs u p h ho).2, (hs u' p' h' ho').2], fun u p b i h ho _ hi => by simp at hi, hD, fun i h => by simp at h, ⟨rfl, rfl, rfl, Nat.le_refl _, fun _ _ _ => rfl, fun _ _ h => h, fun _ _ _ _ h => h, fun _ _ h => .inl h, hD⟩⟩, by rw [← ha], by rw [← ha]; simp; omega⟩
    · rw [hget]
      cases i with
      | zero => rw [hslt0]; exact .dat (hv.owned _ _)
      | succ i =>
        simp only [List.getD_eq_getElem?_getD, List.getElem?_cons_succ]
        cases h : ps[i]? with
        | none => exact .dat (.und _)
        | some p =>
          have := hd i p h
          have ht : i < vs.size := by rw [hsz]; exact (List.getElem?_eq_some_iff.1 h).1
          have e : slt a (i + 1) = vs.getD i undef := by
            rw [← ha]
            simp only [slt, Array.getD_eq_getD_getElem?]
            rw [Array.getElem?_append_left (by simp; omega), Array.getElem?_append_right (by simp)]
            simp
          rw [e]; exact .dat this
    · by_cases ho : p.own = none
      · exact ownOk_none ho
      · obtain ⟨rfl, rfl⟩ := hs u p h ho
        exact hvo'
  refine wp_mono (pW_sound (B := ⟨w, D, fun k => blk v = some k, hgl⟩) (fun h => h.elim) c pc hc _ _ _ a w hvc hR) fun e a' w' he => ?_
  have hres : fn.results.toList = [.tmp t] := by
    revert hr
    cases fn.results.toList with
    | nil => intro h; cases h
    | cons x l =>
      intro h
      simp only [compRs, Option.bind_eq_some_iff, Option.map_eq_some_iff] at h
      obtain ⟨y, hy, ys, hys, e⟩ := h
      cases e
      cases l with
      | nil =>
        cases x with
        | tmp t => cases hy; rfl
        | cell a t =>
          simp only [compR, Option.bind_eq_some_iff] at hy
          obtain ⟨⟨ag, n⟩, _, hy⟩ := hy
          simp only at hy
          split at hy <;> cases hy
      | cons z l =>
        simp only [compRs, Option.bind_eq_some_iff, Option.map_eq_some_iff] at hys
        obtain ⟨_, _, _, _, e⟩ := hys
        cases e
  have fin : ∀ s g, RA ⟨w, D, fun k => blk v = some k, hgl⟩ fn.ntmps g s a' w' → (match s.get t with | .sl es (.r _ sz') => es = rs ∧ sz' = sz | _ => False) → bodyPost P fn (fun e w' => ∃ u D', e = .returned u ∧ (w'.os = w.os ∧ w'.tape = w.tape ∧ w'.output = w.output ∧ w.heap.size ≤ w'.heap.size) ∧ (∀ k, k < w.heap.size → blk v ≠ some k → w'.heap[k]? = w.heap[k]?) ∧
      (∀ b o y, D b o → w.cell? ⟨b, o, none⟩ = some y → w'.cell? ⟨b, o, none⟩ = some y) ∧ (∀ b o, D b o → D' b o) ∧ (∀ b o, D' b o → D b o ∨ w.heap.size ≤ b ∨ blk v = some b) ∧ (∀ b o, D' b o → b < w'.heap.size) ∧
      Dat D' w' u (.sl rs .sh) ∧ OwnOk D' (fun k => w.heap.size ≤ k ∨ blk v = some k) w' u (.sl rs (.r 0 sz))) .ret a' w' := by
    intro s g h hret
    obtain ⟨hZ, hdf, _⟩ := h
    split at hret
    · rename_i es' m sz' e
      obtain ⟨rfl, rfl⟩ := hret
      have hrun := results_eq (P := P) (w := w') fn a'.tmps (us := [a'.tmps.getD t undef]) (by rw [hres]; rfl)
      have h1 := hZ.slots t
      have h2 := hZ.owns _ _ (hZ.slot t)
      rw [e] at h1 h2
      have hd1 : Dat g.D w' (slt a' t) (.sl es' .sh) := by
        rcases h1 with (hr | ⟨_, _, hh, _⟩) | ⟨_, _, _, _, _, hh, _⟩
        · exact hr.sh
        · cases hh
        · cases hh
      refine ⟨hdf, _, hrun, _, g.D, rfl, ⟨hZ.fr.os, hZ.fr.tape, hZ.fr.output, hZ.fr.size⟩, fun k hk hn => hZ.fr.block k hk hn, fun b o y hD hy => hZ.fr.cell b o y hD hy, hZ.fr.d0, fun b o hD => hZ.fr.new b o hD, hZ.dlt, hd1, ?_⟩
      rcases h2 with hn | ⟨gg, cap, cur, e, q1, q2, q3⟩
      · exact .inl hn
      · exact .inr ⟨gg, cap, cur, e, q1, q2, q3⟩
    · exact hret.elim
  cases e with
  | normal => obtain ⟨s, g, h1, h2⟩ := he; exact fin s g h1 h2
  | ret => obtain ⟨s, g, h1, h2⟩ := he; exact fin s g h1 h2
  | exit id => obtain ⟨s, g, h1, h2⟩ := he; exact h2.elim
  | goto l => exact he.elim
  | panic ch => exact he.elim
  | outgrown => exact he.elim

/-! ### By the function's own text -/
def codeOf (fn : Func) : Code := match fn.body with
  | some c => c
  | none => .skip
def okFn (P : Program) (fn : Func) (ms : List Nat) (n : Nat) : Bool := !(fn.name == "runtime.NumGoroutine") && fn.body.isSome && (compRs P fn.results.toList).isSome && (compC P fn.ntmps ms (codeOf fn)).isSome && decide (n ≤ fn.ntmps)
def pcOf (P : Program) (fn : Func) (ms : List Nat) : PC := (compC P fn.ntmps ms (codeOf fn)).getD .sk
def rsOf (P : Program) (fn : Func) : List RV := (compRs P fn.results.toList).getD []
theorem cn_go {f : FuncId} {fn : Func} (hf : P.funcs[f]? = some fn) (ms : List Nat) {ps : List PV} {r : PV} (n : Nat) (hok : okFn P fn ms n = true) (hl : ps.length = n) (hps : ∀ p ∈ ps, p.own = none) (hvc : pW P fn.ntmps True (pcOf P fn ms) (postF (rsOf P fn) r) ⟨enumP 0 ps, []⟩) : Cn P f ps r := by
  unfold okFn at hok
  simp only [Bool.and_eq_true, Bool.not_eq_true', decide_eq_true_eq] at hok
  obtain ⟨⟨⟨⟨h1, h2⟩, h3⟩, h4⟩, h5⟩ := hok
  obtain ⟨c, hc⟩ := Option.isSome_iff_exists.1 h2
  obtain ⟨rs, hrs⟩ := Option.isSome_iff_exists.1 h3
  obtain ⟨pc, hpc⟩ := Option.isSome_iff_exists.1 h4
  unfold pcOf rsOf at hvc
  rw [hpc, hrs] at hvc
  have e : codeOf fn = c := by unfold codeOf; rw [hc]
  rw [e] at hpc
  exact cn_of ms hf h1 hc rs hrs fn.ntmps rfl hpc hps (by omega) hvc
theorem ocn_go {f : FuncId} {fn : Func} (hf : P.funcs[f]? = some fn) (ms : List Nat) {es rs : List (List PV)} {sz : Nat} {ps : List PV} (n t : Nat) (hok : okFn P fn ms n = true) (hrs : compRs P fn.results.toList = some [.t t]) (hl : ps.length + 1 = n) (hps : ∀ p ∈ ps, p.own = none) (hvc : pW P fn.ntmps False (pcOf P fn ms) (postO t rs sz) ⟨enumP 0 (.sl es (.r 0 sz) :: ps), []⟩) : OCn P f es sz ps rs := by
  unfold okFn at hok
  simp only [Bool.and_eq_true, Bool.not_eq_true', decide_eq_true_eq] at hok
  obtain ⟨⟨⟨⟨h1, h2⟩, h3⟩, h4⟩, h5⟩ := hok
  obtain ⟨c, hc⟩ := Option.isSome_iff_exists.1 h2
  obtain ⟨pc, hpc⟩ := Option.isSome_iff_exists.1 h4
  unfold pcOf at hvc
  rw [hpc] at hvc
  have e : codeOf fn = c := by unfold codeOf; rw [hc]
  rw [e] at hpc
  exact ocn_of ms hf h1 hc t hrs fn.ntmps rfl hpc hps (by omega) hvc
end Go.Proofs.YtcedofkenfddkaaDoor
