/- SetopsMatch, SetopsNot and SetopsRelate return true. -/
import Derived.Test.YtcedofkenfddkaaDoorT4
import Derived.Test.YtcedofkenfddkaaDoorE7
namespace Go.Proofs.YtcedofkenfddkaaDoor
set_option linter.unusedVariables false
set_option linter.unusedSimpArgs false
open Go.RowKit
set_option maxRecDepth 100000
def BdR (l : List Iv) : Prop := ∀ s ∈ l, s.lo < M64 ∧ s.hi < M64
theorem bd_all2 {a b : List Iv} (ha : BdR a) (hb : BdR b) : ∀ l ∈ [a, b], ∀ s ∈ l, s.lo < M64 ∧ s.hi < M64 := by
  intro l hl
  simp at hl
  rcases hl with rfl | rfl <;> assumption
theorem rights2 {a b : List Iv} (h : rightsB [a, b] = true) (ha : BdR a) (hb : BdR b) : (Nrm a ∧ a.length ≤ 60) ∧ Nrm b ∧ b.length ≤ 60 :=
  ⟨rightsB_get h (by simp) fun s hs => (ha s hs).2, rightsB_get h (by simp) fun s hs => (hb s hs).2⟩
theorem rights1 {a : List Iv} (h : rightsB [a] = true) (ha : BdR a) : Nrm a ∧ a.length ≤ 60 := rightsB_get h (by simp) fun s hs => (ha s hs).2
end Go.Proofs.YtcedofkenfddkaaDoor
