/- The contracts of setops.Union, Meet, Minus and Not: each returns, in memory of the call's own, the one correct list of its set. The lists are correct and shorter than 2^30. -/
import Derived.Test.YtcedofkenfddkaaDoorSetC
namespace Go.Proofs.YtcedofkenfddkaaDoor
set_option linter.unusedVariables false
set_option linter.unusedSimpArgs false
open Go.RowKit
attribute [local go_sem] Oper.semAt_some

def fUnion (p q : Bool) : Bool := p || q
def fMeet (p q : Bool) : Bool := p && q
def fMinus (p q : Bool) : Bool := p && !q

theorem union_calls (a b : List Iv) (va vb : Value) (w : World) (ha : Nrm a) (hb : Nrm b) (ra : RdR 0 w.heap.size w va a) (rb : RdR 0 w.heap.size w vb b) (hlen : a.length + b.length ≤ 1073741824) :
    Calls Tryd.prog 19 #[va, vb] w fun e w' => ∃ v, e = .returned v ∧ OwnR w.heap.size w' v (opS fUnion a b) ∧ Below w.heap.size w w' := by
  have hm := merge_calls fUnion 73 (enters_of Tryd.func73 (by kernel_rfl) rfl) take_union a b va vb w ha hb ra rb hlen
  have HM := Lib.hid hm
  clear hm
  obtain ⟨a1, c1, rfl, _⟩ := ra
  obtain ⟨a2, c2, rfl, _⟩ := rb
  go_enter Tryd.func19, Tryd.ntmps19
  go_wp2_with (go_at_call 72; refine HM.out.mono ?_; rintro e w' ⟨v, rfl, hv, hb⟩)
  go_ret
  exact ⟨_, rfl, ‹_›, ‹_›⟩
theorem meet_calls (a b : List Iv) (va vb : Value) (w : World) (ha : Nrm a) (hb : Nrm b) (ra : RdR 0 w.heap.size w va a) (rb : RdR 0 w.heap.size w vb b) (hlen : a.length + b.length ≤ 1073741824) :
    Calls Tryd.prog 20 #[va, vb] w fun e w' => ∃ v, e = .returned v ∧ OwnR w.heap.size w' v (opS fMeet a b) ∧ Below w.heap.size w w' := by
  have hm := merge_calls fMeet 74 (enters_of Tryd.func74 (by kernel_rfl) rfl) take_meet a b va vb w ha hb ra rb hlen
  have HM := Lib.hid hm
  clear hm
  obtain ⟨a1, c1, rfl, _⟩ := ra
  obtain ⟨a2, c2, rfl, _⟩ := rb
  go_enter Tryd.func20, Tryd.ntmps20
  go_wp2_with (go_at_call 72; refine HM.out.mono ?_; rintro e w' ⟨v, rfl, hv, hb⟩)
  go_ret
  exact ⟨_, rfl, ‹_›, ‹_›⟩
theorem minus_calls (a b : List Iv) (va vb : Value) (w : World) (ha : Nrm a) (hb : Nrm b) (ra : RdR 0 w.heap.size w va a) (rb : RdR 0 w.heap.size w vb b) (hlen : a.length + b.length ≤ 1073741824) :
    Calls Tryd.prog 21 #[va, vb] w fun e w' => ∃ v, e = .returned v ∧ OwnR w.heap.size w' v (opS fMinus a b) ∧ Below w.heap.size w w' := by
  have hm := merge_calls fMinus 75 (enters_of Tryd.func75 (by kernel_rfl) rfl) take_minus a b va vb w ha hb ra rb hlen
  have HM := Lib.hid hm
  clear hm
  obtain ⟨a1, c1, rfl, _⟩ := ra
  obtain ⟨a2, c2, rfl, _⟩ := rb
  go_enter Tryd.func21, Tryd.ntmps21
  go_wp2_with (go_at_call 72; refine HM.out.mono ?_; rintro e w' ⟨v, rfl, hv, hb⟩)
  go_ret
  exact ⟨_, rfl, ‹_›, ‹_›⟩

theorem rd_one {w : World} {B : Nat} {s : Iv} (h : w.heap[B]? = some (.cells #[.int .u64 s.lo, .int .u64 s.hi] 46 (0, 0))) (h1 : s.lo < M64) (h2 : s.hi < M64) : RdR 0 w.heap.size w (.slice (some ⟨B, 0, none⟩) 1 1) [s] := by
  refine ⟨_, 1, rfl, by simp, by decide, fun _ => ⟨B, 0, rfl, Nat.zero_le _, (Array.getElem?_eq_some_iff.1 h).1, fun i hi => ?_⟩⟩
  obtain rfl : i = 0 := by simpa using hi
  exact ⟨by simp [World.cell?, h], by simp [World.cell?, h], h1, h2⟩

/-- Not returns what of an interval is not in a list. -/
theorem not_calls (a : List Iv) (va : Value) (s : Iv) (w : World) (ha : Nrm a) (hs : s.lo ≤ s.hi) (hs' : s.hi < M64) (ra : RdR 0 w.heap.size w va a) (hlen : a.length ≤ 1073741823) :
    Calls Tryd.prog 69 #[va, .agg #[.int .u64 s.lo, .int .u64 s.hi]] w fun e w' => ∃ v, e = .returned v ∧ OwnR w.heap.size w' v (opS fMinus [s] a) ∧ Below w.heap.size w w' := by
  obtain ⟨a1, c1, rfl, _⟩ := id ra
  go_enter Tryd.func69, Tryd.ntmps69
  go_wp2_with fail
  obtain ⟨w1, hw1⟩ : ∃ w1, ((w.alloc (Obj.cells #[Value.int IntKind.u64 s.lo, Value.int IntKind.u64 s.hi] 46)).alloc (Obj.cells #[Value.int IntKind.u64 s.lo, Value.int IntKind.u64 s.hi] 46)) = w1 := ⟨_, rfl⟩
  have hb1 : Below w.heap.size w w1 := by rw [← hw1]; exact ((Below.refl _ _).alloc (Nat.le_refl _) _).alloc (by simp) _
  have hn : w1.heap[w.heap.size + 1]? = some (.cells #[.int .u64 s.lo, .int .u64 s.hi] 46 (0, 0)) := by
    rw [← hw1]; have := World.alloc_heap_new (w.alloc (Obj.cells #[Value.int IntKind.u64 s.lo, Value.int IntKind.u64 s.hi] 46)) (Obj.cells #[Value.int IntKind.u64 s.lo, Value.int IntKind.u64 s.hi] 46); rwa [World.size_alloc] at this
  rw [hw1]
  clear hw1
  refine (minus_calls [s] a _ _ w1 ⟨Nat.zero_le _, hs, hs', trivial⟩ ha (rd_one hn (by omega) hs') ((ra.below hb1 (Nat.le_refl _)).keep (Nat.le_refl _) hb1.size fun _ _ _ => rfl) (by simp; omega)).mono ?_
  rintro e w2 ⟨v, rfl, hv, hb⟩
  go_wp2
  go_ret
  exact ⟨_, rfl, hv.mono hb1.size, hb1.trans (hb.mono hb1.size)⟩
end Go.Proofs.YtcedofkenfddkaaDoor
