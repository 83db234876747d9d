import Derived.WalkKit
set_option linter.unusedVariables false
set_option linter.unusedSimpArgs false
namespace Go.Proofs.YtopfkkogooocgaaGreat
open Go.RowKit
def zmw:Option Value:=none
def GL (D:Nat->Nat->Prop) (w:World):Prop:=∀ x,zmw=some x->D 0 0/\w.cell? ⟨0,0,none⟩=some x
theorem GL.mono {D D':Nat->Nat->Prop} {w w':World} (h:GL D w) (hD:∀ b o,D b o->D' b o) (hw:∀ b o x,D b o->w.cell? ⟨b,o,none⟩=some x->w'.cell? ⟨b,o,none⟩=some x):GL D' w':=fun x hx=>⟨hD _ _ (h x hx).1,hw _ _ _ (h x hx).1 (h x hx).2⟩
end Go.Proofs.YtopfkkogooocgaaGreat
