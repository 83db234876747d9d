/- The contracts of setops.next, of the closures of Union, Meet and Minus, and of pieces: the pieces of two correct lists, handed over in order. -/
import Derived.Test.YtcedofkenfddkaaDoorSpan
namespace Go.Proofs.YtcedofkenfddkaaDoor
set_option linter.unusedVariables false
set_option linter.unusedSimpArgs false
open Go.RowKit
attribute [local go_sem] Oper.semAt_some

/-- What next returns. -/
def nxtV : Option Nat → Value
  | some y => .tuple #[.int .u64 (y : Int), .bool true]
  | none => .tuple #[.int .u64 0, .bool false]

theorem nxt_step {l : List Iv} {k x : Nat} (h : k < l.length) : nxt (l.drop k) x = if x < l[k].lo then some l[k].lo else if l[k].hi + 1 < M64 ∧ x < l[k].hi + 1 then some (l[k].hi + 1) else nxt (l.drop (k + 1)) x := by
  rw [List.drop_eq_getElem_cons h]; rfl

set_option maxHeartbeats 1000000 in
theorem next_any (l : List Iv) (v : Value) (x : Nat) (w : World) (hl : RdR 0 w.heap.size w v l) :
    Calls Tryd.prog 122 #[v, .int .u64 x] w fun e w' => e = .returned (nxtV (nxt l x)) ∧ Below w.heap.size w w' := by
  obtain ⟨a, cap, rfl, hlc, hcm, hc⟩ := hl
  unfold maxLen at hcm
  go_enter Tryd.func122, Tryd.ntmps122
  go_wp2_with fail
  go_loopw [12] (fun i wr => ∃ k : Nat, k ≤ l.length ∧ i = .int .i64 k ∧ Hid (nxt l x = nxt (l.drop k) x) ∧ Below w.heap.size w wr) (fun i _ => l.length - (intOf i).toNat)
  case atStart => exact ⟨0, Nat.zero_le _, rfl, rfl, Below.refl _ _⟩
  case round =>
    obtain ⟨k, hk, rfl, hn, hB⟩ := hrel
    by_cases hlt : k < l.length
    · obtain ⟨b, off, rfl, _, hb, hcell⟩ := hc (by intro e; subst e; simp at hlt)
      obtain ⟨g1, g2, g3, g4⟩ := hcell k hlt
      have hs := nxt_step (x := x) hlt
      obtain ⟨lo, hlo⟩ : ∃ lo, lo = l[k].lo := ⟨_, rfl⟩
      obtain ⟨hi, hhi⟩ : ∃ hi, hi = l[k].hi := ⟨_, rfl⟩
      rw [← hlo] at g1 g3 hs
      rw [← hhi] at g2 g4 hs
      clear hlo hhi hcell hc
      have c1 : wr.cell? ⟨b, off + k * 2, none⟩ = some (.int .u64 lo) := (hB.cell (p := ⟨b, _, none⟩) hb).trans g1
      have c2 : wr.cell? ⟨b, off + k * 2 + 1, none⟩ = some (.int .u64 hi) := (hB.cell (p := ⟨b, _, none⟩) hb).trans g2
      clear g1 g2
      have hsz := hB.size
      by_cases t1 : x < lo
      · have HV : Hid (nxt l x = some lo) := by rw [hn.out, hs, if_pos t1]; rfl
        clear hs hn
        go_wp2
        go_ret2
        rw [HV.out]
        exact ⟨rfl, hB.alloc hsz _⟩
      · by_cases t2 : hi + 1 < M64
        · by_cases t3 : x < hi + 1
          · have HV : Hid (nxt l x = some (hi + 1)) := by rw [hn.out, hs, if_neg t1, if_pos ⟨t2, t3⟩]; rfl
            clear hs hn
            go_wp2_with (go_at_call 120; with_reducible refine (wordNext_yes _ _ t2).mono ?_; rintro e w' ⟨rfl, rfl⟩)
            go_ret2
            rw [HV.out]
            exact ⟨by simp [nxtV], hB.alloc hsz _⟩
          · have HV : Hid (nxt l x = nxt (l.drop (k + 1)) x) := by rw [hn.out, hs, if_neg t1, if_neg (by omega)]; rfl
            clear hs hn
            go_wp2_with (go_at_call 120; with_reducible refine (wordNext_yes _ _ t2).mono ?_; rintro e w' ⟨rfl, rfl⟩)
            go_roundw
            case rel => exact ⟨k + 1, by omega, by go_num, HV, hB.alloc hsz _⟩
            case measure => simp [intOf]; omega
        · have HV : Hid (nxt l x = nxt (l.drop (k + 1)) x) := by rw [hn.out, hs, if_neg t1, if_neg (by omega)]; rfl
          clear hs hn
          obtain rfl : hi = M64 - 1 := by omega
          go_wp2_with (go_at_call 120; with_reducible refine (wordNext_no _).mono ?_; rintro e w' ⟨rfl, rfl⟩)
          go_roundw
          case rel => exact ⟨k + 1, by omega, by go_num, HV, hB.alloc hsz _⟩
          case measure => simp [intOf]; omega
    · have hkl : k = l.length := by omega
      have HV : Hid (nxt l x = none) := by rw [hn.out, hkl, List.drop_length]; rfl
      clear hn
      go_wp2
      go_ret2
      rw [HV.out]
      exact ⟨rfl, hB⟩

/-- The same, the two results as a number and a truth of their own. -/
theorem next_two (l : List Iv) (v : Value) (x : Nat) (w : World) (hl : RdR 0 w.heap.size w v l) :
    Calls Tryd.prog 122 #[v, .int .u64 x] w fun e w' => ∃ (n : Nat) (m : Bool), e = .returned (.tuple #[.int .u64 n, .bool m]) ∧ Hid (nxt l x = if m = true then some n else none) ∧ Below w.heap.size w w' :=
  (next_any l v x w hl).mono fun e w' ⟨he, hb⟩ => by
    cases h : nxt l x with
    | none => exact ⟨0, false, by rw [he, h]; rfl, rfl, hb⟩
    | some y => exact ⟨y, true, by rw [he, h]; rfl, rfl, hb⟩

/-- The closure that Union hands to merge. -/
theorem take_union (p q : Bool) (w : World) : Calls Tryd.prog 73 #[.agg #[.bool p, .bool q]] w fun e w' => e = .returned (.bool (p || q)) ∧ Below w.heap.size w w' := by
  cases p <;> cases q <;>
    (go_enter Tryd.func73, Tryd.ntmps73
     go_wp2
     go_ret
     exact ⟨rfl, (Below.refl _ _).alloc (Nat.le_refl _) _⟩)
theorem take_meet (p q : Bool) (w : World) : Calls Tryd.prog 74 #[.agg #[.bool p, .bool q]] w fun e w' => e = .returned (.bool (p && q)) ∧ Below w.heap.size w w' := by
  cases p <;> cases q <;>
    (go_enter Tryd.func74, Tryd.ntmps74
     go_wp2
     go_ret
     exact ⟨rfl, (Below.refl _ _).alloc (Nat.le_refl _) _⟩)
theorem take_minus (p q : Bool) (w : World) : Calls Tryd.prog 75 #[.agg #[.bool p, .bool q]] w fun e w' => e = .returned (.bool (p && !q)) ∧ Below w.heap.size w w' := by
  cases p <;> cases q <;>
    (go_enter Tryd.func75, Tryd.ntmps75
     go_wp2
     go_ret
     exact ⟨rfl, (Below.refl _ _).alloc (Nat.le_refl _) _⟩)

/-- pieces boxes its two lists; the function value captures the boxes. -/
theorem pieces_calls (a1 a2 : Option Addr) (n1 n2 c1 c2 : Nat) (w : World) : Calls Tryd.prog 104 #[.slice a1 n1 c1, .slice a2 n2 c2] w fun e w' =>
    e = .returned (.func (.func 121) #[] #[.pointer (some ⟨w.heap.size, 0, none⟩), .pointer (some ⟨w.heap.size + 1, 0, none⟩)]) ∧
      w' = (w.alloc (.cells #[.slice a1 n1 c1] 23)).alloc (.cells #[.slice a2 n2 c2] 23) := by
  go_enter Tryd.func104, Tryd.ntmps104
  go_wp2
  go_ret
  exact ⟨rfl, rfl⟩
end Go.Proofs.YtcedofkenfddkaaDoor
