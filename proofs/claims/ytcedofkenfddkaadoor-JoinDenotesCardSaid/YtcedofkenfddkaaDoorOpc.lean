/- From the data of a statement's arguments to pure values; from a contract to the statement's run. No condition. -/
import Derived.Test.YtcedofkenfddkaaDoorOpen
import Derived.Test.YtcedofkenfddkaaDoorBr
namespace Go.Proofs.YtcedofkenfddkaaDoor
set_option linter.unusedVariables false
set_option linter.unusedSimpArgs false
open Go.ChangeShapes Go.WideShapes Go.ChangeAt Go.RowKit Go.Deep
set_option maxRecDepth 100000
/-- The cells of a world. -/
def Lies (w : World) : Nat → Nat → Prop := fun b _ => b < w.heap.size
def DatA (D : Nat → Nat → Prop) (w : World) : List Value → List PV → Prop
  | [], [] => True
  | v :: l, p :: ps => Dat D w v p ∧ DatA D w l ps
  | _, _ => False
theorem datA_get {D : Nat → Nat → Prop} {w : World} : ∀ {l : List Value} {ps : List PV}, DatA D w l ps → l.length = ps.length ∧ ∀ (i : Nat) p, ps[i]? = some p → Dat D w (l.getD i undef) p
  | [], [], _ => ⟨rfl, fun i p h => by simp at h⟩
  | v :: l, p :: ps, h => by
    obtain ⟨h1, h2⟩ := datA_get h.2
    refine ⟨by simp [h1], fun i q hq => ?_⟩
    cases i with
    | zero => cases hq; exact h.1
    | succ i => simpa using h2 i q (by simpa using hq)
  | [], _ :: _, h => h.elim
  | _ :: _, [], h => h.elim
theorem cn_true {f : FuncId} {ps : List PV} {l : List Value} {W : World} (h : Cn Tryd.prog f ps (.v (.bool true))) (hgl : GL (Lies W) W) (hd : DatA (Lies W) W l ps) : Calls Tryd.prog f l.toArray W fun e W' => e = .returned (.bool true) ∧ Below W.heap.size W W' := by
  obtain ⟨h1, h2⟩ := datA_get hd
  refine (h.2 (Lies W) W l.toArray hgl (fun _ _ h => h) (by simpa using h1) (fun i p hp => by have := h2 i p hp; simpa [List.getD_eq_getElem?_getD] using this)).mono ?_
  rintro e W' ⟨v, D', rfl, hb, _, _, _, hv, _⟩
  rw [hv.v_inv]
  exact ⟨rfl, hb⟩
theorem agg2_dat {D : Nat → Nat → Prop} {w : World} (x y : Value) (hx : x.oneCell' = true) (hy : y.oneCell' = true) : Dat D w (.agg #[x, y]) (.agg [.v x, .v y]) := by
  refine .agg _ _ rfl (fun i hi => ?_) fun i p hp => ?_
  · match i, hi with
    | 0, _ => exact hx
    | 1, _ => exact hy
  · match i, hp with
    | 0, hp => cases hp; exact .v _
    | 1, hp => cases hp; exact .v _
section
variable {H : Type} {enc : TypeId × Value → H} {w : World} {base : Nat} {spare : Nat → Bool} {held : Bool}
theorem opc_r {r : Reach} {b0 : Nat} {v : Value} {d : DataW H} {ps : List MemPlace} (hval : Value.okWide Tryd.prog w r b0 23 v) (h : DataW.Trod enc Tryd.prog w base spare held 23 v d ps) : ∃ l, Dat (Lies w) w v (rg l) ∧ ∀ s ∈ l, s.lo < M64 ∧ s.hi < M64 := by
  obtain ⟨l, hl⟩ := open_ranges hval h
  exact ⟨l, rdr_dat hl fun _ _ _ h => h, hl.bound⟩
theorem opc_i {r : Reach} {b0 : Nat} {v : Value} {d : DataW H} {ps : List MemPlace} (hval : Value.okWide Tryd.prog w r b0 46 v) (h : DataW.Trod enc Tryd.prog w base spare held 46 v d ps) : ∃ s : Iv, Dat (Lies w) w v (ivp s) ∧ (s.lo < M64 ∧ s.hi < M64) := by
  obtain ⟨s, rfl, h1, h2⟩ := open_interval hval h
  exact ⟨s, agg2_dat _ _ (by simp [Value.oneCell']) (by simp [Value.oneCell']), h1, h2⟩
theorem opc_u {r : Reach} {b0 : Nat} {v : Value} {d : DataW H} {ps : List MemPlace} (hval : Value.okWide Tryd.prog w r b0 24 v) (h : DataW.Trod enc Tryd.prog w base spare held 24 v d ps) : ∃ n : Nat, Dat (Lies w) w v (.v (.int .u64 n)) ∧ n < M64 := by
  obtain ⟨n, rfl, h1⟩ := open_u64 hval h
  exact ⟨n, .v _, h1⟩
end
end Go.Proofs.YtcedofkenfddkaaDoor
