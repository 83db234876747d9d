/- The contracts of word.Next, word.Prev, word.Between, span.Relate and setops.next: what each returns. No condition but that the numbers are of 64 bits. -/
import Derived.Test.YtcedofkenfddkaaDoorData
namespace Go.Proofs.YtcedofkenfddkaaDoor
set_option linter.unusedVariables false
set_option linter.unusedSimpArgs false
open Go.RowKit

theorem wrap_top : IntKind.u64.wrap (((M64 - 1 : Nat) : Int) + 1) = 0 := by decide
theorem wrap_sub {x y : Nat} (h : y ≤ x) (hx : x < M64) : IntKind.u64.wrap ((x : Int) - y) = ((x - y : Nat) : Int) := by
  rw [show ((x : Int) - y) = ((x - y : Nat) : Int) from by omega]; exact wrap_lt (by omega)
theorem wrap_sub1 {x : Nat} (h : 1 ≤ x) (hx : x < M64) : IntKind.u64.wrap ((x : Int) - 1) = ((x - 1 : Nat) : Int) := wrap_sub (y := 1) h hx
theorem wrap_add1 {x : Nat} (hx : x + 1 < M64) : IntKind.u64.wrap ((x : Int) + 1) = (x : Int) + 1 := by
  have := wrap_lt (x := x + 1) hx; push_cast at this; exact this

theorem wordNext_yes (x : Nat) (w : World) (h : x + 1 < M64) : Calls Tryd.prog 120 #[.int .u64 x] w fun e w' => e = .returned (.tuple #[.int .u64 ((x : Int) + 1), .bool true]) ∧ w = w' := by
  have h1 := wrap_add1 h
  have h2 : ((x : Int) + 1 != 0) = true := by simp; omega
  go_enter Tryd.func120, Tryd.ntmps120
  go_wp2
  go_ret2
  exact ⟨rfl, rfl⟩
theorem wordNext_no (w : World) : Calls Tryd.prog 120 #[.int .u64 ((M64 - 1 : Nat) : Int)] w fun e w' => e = .returned (.tuple #[.int .u64 0, .bool false]) ∧ w = w' := by
  have h1 := wrap_top
  generalize ((M64 - 1 : Nat) : Int) = m at *
  go_enter Tryd.func120, Tryd.ntmps120
  go_wp2
  go_ret2
  exact ⟨rfl, rfl⟩

theorem wordPrev_yes (x : Nat) (w : World) (h : x + 1 < M64) : Calls Tryd.prog 84 #[.int .u64 ((x : Int) + 1)] w fun e w' => e = .returned (.tuple #[.int .u64 x, .bool true]) ∧ w = w' := by
  have h1 := wrap_lt (x := x) (by omega)
  have h2 : ((x : Int) + 1 == 0) = false := by simp; omega
  have h3 : (x : Int) + 1 - 1 = x := by omega
  go_enter Tryd.func84, Tryd.ntmps84
  go_wp2
  go_ret2
  exact ⟨rfl, rfl⟩
theorem wordPrev_no (w : World) : Calls Tryd.prog 84 #[.int .u64 0] w fun e w' => e = .returned (.tuple #[.int .u64 0, .bool false]) ∧ w = w' := by
  go_enter Tryd.func84, Tryd.ntmps84
  go_wp2
  go_ret2
  exact ⟨rfl, rfl⟩

theorem between_no (a b : Nat) (w : World) (h : b ≤ a) : Calls Tryd.prog 105 #[.int .u64 a, .int .u64 b] w fun e w' => e = .returned (.tuple #[.int .u64 0, .bool false]) ∧ w = w' := by
  go_enter Tryd.func105, Tryd.ntmps105
  go_wp2
  go_ret2
  exact ⟨rfl, rfl⟩
theorem between_yes (a b : Nat) (w : World) (h : a < b) (hb : b < M64) : Calls Tryd.prog 105 #[.int .u64 a, .int .u64 b] w fun e w' => e = .returned (.tuple #[.int .u64 ((b - a - 1 : Nat) : Int), .bool true]) ∧ w = w' := by
  have h1 := wrap_sub (x := b) (y := a) (by omega) hb
  have h2 := wrap_sub1 (x := b - a) (by omega) (by omega)
  generalize b - a = d at *
  have H2 := Lib.hid h2
  clear h2
  go_enter Tryd.func105, Tryd.ntmps105
  go_wp2
  rw [H2.out]
  go_ret2
  exact ⟨rfl, rfl⟩

/-- How two intervals are related. -/
def relate (s t : Iv) : Nat := if s.hi < t.lo then (if s.hi + 1 = t.lo then 1 else 0) else if t.hi < s.lo then (if t.hi + 1 = s.lo then 3 else 4) else 2

theorem relate_any (s t : Iv) (w : World) (hs : s.lo ≤ s.hi) (ht : t.lo ≤ t.hi) (h1 : s.hi < M64) (h2 : t.hi < M64) :
    Calls Tryd.prog 78 #[.agg #[.int .u64 s.lo, .int .u64 s.hi], .agg #[.int .u64 t.lo, .int .u64 t.hi]] w fun e w' => e = .returned (.int .i64 (relate s t)) ∧ Below w.heap.size w w' := by
  have H : ∀ n : Nat, relate s t = n → Hid (relate s t = n) := fun _ h => h
  by_cases c1 : s.hi < t.lo
  · by_cases c3 : s.hi + 1 = t.lo
    · have c3' := Lib.hid c3
      clear c3
      have R := H 1 (by unfold relate; rw [if_pos c1, if_pos c3'.out])
      have C4 := Lib.hid (show t.lo - s.hi - 1 = 0 by have := c3'.out; omega)
      clear H
      go_enter Tryd.func78, Tryd.ntmps78
      go_wp2_with (first | (go_at_call 105; with_reducible refine (between_yes s.hi t.lo _ (by omega) (by omega)).mono ?_; rw [C4.out]; rintro e w' ⟨rfl, rfl⟩) | (go_at_call 105; with_reducible refine (between_no t.hi s.lo _ (by omega)).mono ?_; rintro e w' ⟨rfl, rfl⟩))
      go_ret
      rw [R.out]
      exact ⟨rfl, ((Below.refl _ _).alloc (Nat.le_refl _) _).alloc (by simp) _⟩
    · have R := H 0 (by unfold relate; rw [if_pos c1, if_neg c3])
      obtain ⟨g, hg0⟩ : ∃ g, t.lo - s.hi - 1 = g := ⟨_, rfl⟩
      have hg : 0 < g := by omega
      have C4 := Lib.hid hg0
      clear hg0
      clear H
      go_enter Tryd.func78, Tryd.ntmps78
      go_wp2_with (first | (go_at_call 105; with_reducible refine (between_yes s.hi t.lo _ (by omega) (by omega)).mono ?_; rw [C4.out]; rintro e w' ⟨rfl, rfl⟩) | (go_at_call 105; with_reducible refine (between_no t.hi s.lo _ (by omega)).mono ?_; rintro e w' ⟨rfl, rfl⟩))
      go_ret
      rw [R.out]
      exact ⟨rfl, ((Below.refl _ _).alloc (Nat.le_refl _) _).alloc (by simp) _⟩
  · by_cases c2 : t.hi < s.lo
    · by_cases c3 : t.hi + 1 = s.lo
      · have c3' := Lib.hid c3
        clear c3
        have R := H 3 (by unfold relate; rw [if_neg c1, if_pos c2, if_pos c3'.out])
        have C4 := Lib.hid (show s.lo - t.hi - 1 = 0 by have := c3'.out; omega)
        clear H
        go_enter Tryd.func78, Tryd.ntmps78
        go_wp2_with (first | (go_at_call 105; with_reducible refine (between_no s.hi t.lo _ (by omega)).mono ?_; rintro e w' ⟨rfl, rfl⟩) | (go_at_call 105; with_reducible refine (between_yes t.hi s.lo _ (by omega) (by omega)).mono ?_; rw [C4.out]; rintro e w' ⟨rfl, rfl⟩))
        go_ret
        rw [R.out]
        exact ⟨rfl, ((Below.refl _ _).alloc (Nat.le_refl _) _).alloc (by simp) _⟩
      · have R := H 4 (by unfold relate; rw [if_neg c1, if_pos c2, if_neg c3])
        obtain ⟨g, hg0⟩ : ∃ g, s.lo - t.hi - 1 = g := ⟨_, rfl⟩
        have hg : 0 < g := by omega
        have C4 := Lib.hid hg0
        clear hg0
        clear H
        go_enter Tryd.func78, Tryd.ntmps78
        go_wp2_with (first | (go_at_call 105; with_reducible refine (between_no s.hi t.lo _ (by omega)).mono ?_; rintro e w' ⟨rfl, rfl⟩) | (go_at_call 105; with_reducible refine (between_yes t.hi s.lo _ (by omega) (by omega)).mono ?_; rw [C4.out]; rintro e w' ⟨rfl, rfl⟩))
        go_ret
        rw [R.out]
        exact ⟨rfl, ((Below.refl _ _).alloc (Nat.le_refl _) _).alloc (by simp) _⟩
    · have R := H 2 (by unfold relate; rw [if_neg c1, if_neg c2])
      clear H
      go_enter Tryd.func78, Tryd.ntmps78
      go_wp2_with (first | (go_at_call 105; with_reducible refine (between_no s.hi t.lo _ (by omega)).mono ?_; rintro e w' ⟨rfl, rfl⟩) | (go_at_call 105; with_reducible refine (between_no t.hi s.lo _ (by omega)).mono ?_; rintro e w' ⟨rfl, rfl⟩))
      go_ret
      rw [R.out]
      exact ⟨rfl, ((Below.refl _ _).alloc (Nat.le_refl _) _).alloc (by simp) _⟩
end Go.Proofs.YtcedofkenfddkaaDoor
