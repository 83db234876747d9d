/- From the data of an argument of type Entry to its pure value. No condition. -/
import Derived.Test.YtcedofkenfddkaaDoorOpc
import Derived.Test.YtcedofkenfddkaaDoorT9
namespace Go.Proofs.YtcedofkenfddkaaDoor
set_option linter.unusedVariables false
set_option linter.unusedSimpArgs false
open Go.ChangeShapes Go.WideShapes Go.ChangeAt Go.RowKit Go.Deep
set_option maxRecDepth 100000
theorem agg3_dat {D : Nat → Nat → Prop} {w : World} {x y z : Value} {p q r : PV} (hx : x.oneCell' = true) (hy : y.oneCell' = true) (hz : z.oneCell' = true) (h1 : Dat D w x p) (h2 : Dat D w y q) (h3 : Dat D w z r) : Dat D w (.agg #[x, y, z]) (.agg [p, q, r]) := by
  refine .agg _ _ rfl (fun i hi => ?_) fun i p hp => ?_
  · match i, hi with
    | 0, _ => exact hx
    | 1, _ => exact hy
    | 2, _ => exact hz
  · match i, hp with
    | 0, hp => cases hp; exact h1
    | 1, hp => cases hp; exact h2
    | 2, hp => cases hp; exact h3
section
variable {H : Type} {enc : TypeId × Value → H} {w : World} {base : Nat} {spare : Nat → Bool} {held : Bool}
theorem opc_e {r : Reach} {b0 : Nat} {v : Value} {d : DataW H} {ps : List MemPlace} (hval : Value.okWide Tryd.prog w r b0 34 v) (h : DataW.Trod enc Tryd.prog w base spare held 34 v d ps) : ∃ e : En, Dat (Lies w) w v (ep e) ∧ BdE e := by
  obtain ⟨v0, v1, v2, y0, y1, y2, n, rfl, _, _, g0, g1, g2⟩ := Go.Joins.open_agg3 Tryd.underlying34 (by kernel_rfl) (by kernel_rfl) hval h
  obtain ⟨m0, q0, h0⟩ := trod_u64 Tryd.underlying24 g0
  obtain ⟨m1, q1, h1⟩ := trod_u64 Tryd.underlying24 g1
  obtain ⟨v2', l, q2, hl⟩ := ranges_open g2
  obtain rfl : v0 = _ := by simpa using q0
  obtain rfl : v1 = _ := by simpa using q1
  obtain rfl : v2 = v2' := by simpa using q2
  have hb := hl.bound
  have hd : Dat (Lies w) w v2 (rg l) := rdr_dat hl fun _ _ _ h => h
  obtain ⟨a, c, rfl, _⟩ := hl
  exact ⟨⟨m0, m1, l⟩, agg3_dat (by simp [Value.oneCell']) (by simp [Value.oneCell']) (by simp [Value.oneCell']) (.v _) (.v _) hd, hb, h1, h0⟩
end
end Go.Proofs.YtcedofkenfddkaaDoor
