import Derived.Test.YtopfkkogooocgaaGreatB7
set_option linter.unusedVariables false
set_option linter.unusedSimpArgs false
set_option maxRecDepth 100000
namespace Go.Proofs.YtopfkkogooocgaaGreat
open Go.RowKit
def rdE (n0:Nat) (w:World) (b o:Nat) (e:En):Prop:=w.cell? ⟨b,o,none⟩=some (.int .u64 e.rep)/\w.cell? ⟨b,o+1,none⟩=some (.int .u64 e.max)/\(∃ hv,w.cell? ⟨b,o+2,none⟩=some hv/\RdR 0 n0 w hv e.holes)/\e.rep<zk/\e.max<zk
def RdV (n0:Nat) (w:World) (v:Value) (l:List En):Prop:=RdSl 3 (rdE n0) 0 n0 w v l
theorem RdV.keep {n0:Nat} {w w':World} {v:Value} {l:List En} (h:RdV n0 w v l) (hb:∀ k,k<n0->w'.heap[k]? = w.heap[k]?):RdV n0 w' v l:=
 RdSl.keep h (Nat.le_refl _) (Nat.le_refl _) fun b o x _ h2 ⟨c0,c1,⟨hv,c2,c3⟩,c4⟩=>
  ⟨(World.cell?_of_block (a:=⟨b,o,none⟩) (hb b h2)).trans c0,(World.cell?_of_block (a:=⟨b,o+1,none⟩) (hb b h2)).trans c1,⟨hv,(World.cell?_of_block (a:=⟨b,o+2,none⟩) (hb b h2)).trans c2,c3.keep (Nat.le_refl _) (Nat.le_refl _) fun b _ h=>hb b h⟩,c4⟩
end Go.Proofs.YtopfkkogooocgaaGreat
