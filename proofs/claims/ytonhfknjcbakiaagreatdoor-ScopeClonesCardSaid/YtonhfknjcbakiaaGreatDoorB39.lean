import Derived.Test.YtonhfknjcbakiaaGreatDoorB25
import Derived.Test.YtonhfknjcbakiaaGreatDoorB32
set_option linter.unusedVariables false
set_option linter.unusedSimpArgs false
set_option maxRecDepth 100000
namespace Go.Proofs.YtonhfknjcbakiaaGreatDoor
open Go.RowKit Go.Sort
theorem OwnU.base {base base':Nat} {w:World} {v:Value} {l:List Nat} (h:OwnU base w v l) (hb:base'<=base):OwnU base' w v l:=by
 refine⟨h.1,?_⟩
 rcases h.2 with h | ⟨g,cap,cur,e,hg,r⟩
 ·exact .inl h
 ·exact .inr ⟨g,cap,cur,e,Nat.le_trans hb hg,r⟩
end Go.Proofs.YtonhfknjcbakiaaGreatDoor
