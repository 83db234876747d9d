/- The package-level variable of the library that a call may read, as the text lays it. No condition. -/
import Derived.WalkKit
namespace Go.Proofs.YtcedofkenfddkaaDoor
set_option linter.unusedVariables false
set_option linter.unusedSimpArgs false
open Go.RowKit
def glob : Option Value := some (.iface 144 (.agg #[.pointer (some ⟨1, 29, none⟩)]))
/-- It lies in memory that nobody writes. -/
def GL (D : Nat → Nat → Prop) (w : World) : Prop := ∀ x, glob = some x → D 0 0 ∧ w.cell? ⟨0, 0, none⟩ = some x
theorem GL.mono {D D' : Nat → Nat → Prop} {w w' : World} (h : GL D w) (hD : ∀ b o, D b o → D' b o) (hw : ∀ b o x, D b o → w.cell? ⟨b, o, none⟩ = some x → w'.cell? ⟨b, o, none⟩ = some x) : GL D' w' := fun x hx => ⟨hD _ _ (h x hx).1, hw _ _ _ (h x hx).1 (h x hx).2⟩
end Go.Proofs.YtcedofkenfddkaaDoor
