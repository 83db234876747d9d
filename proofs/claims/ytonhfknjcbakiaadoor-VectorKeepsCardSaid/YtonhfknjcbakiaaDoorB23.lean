import Derived.Deep.LoopGhost
import Derived.Deep.DeepCutAuto
import Derived.Deep.CutBlock
import Derived.Test.YtonhfknjcbakiaaDoorB3
import Derived.Test.YtonhfknjcbakiaaDoorB6
set_option linter.unusedVariables false
set_option linter.unusedSimpArgs false
set_option maxRecDepth 100000
namespace Go.Proofs.YtonhfknjcbakiaaDoor
open Go.RowKit
attribute [local go_sem] Oper.semAt_some
abbrev Sv:=Option Addr × Nat × Nat
abbrev Fv:=Sv × Sv
def sv (x:Sv):Value:=.slice x.1 x.2.1 x.2.2
def wl (hit:Nat->Bool):Nat->List Fv->List (Nat × Fv)
 | _,[]=>[]
 | n,f::r=>if hit n=true then (n,f)::wl hit (n+1) r else wl hit (n+1) r
attribute [local go_sem] Oper.semAt_some
def OwnI (base:Nat) (w:World) (v:Value) (xs:List Nat):Prop:=w.ownsRow base 3 1 v xs.length (xs.map fun x=>.int .i64 (x:Nat))
theorem OwnI.nil (base:Nat) (w:World):OwnI base w (.slice none 0 0) []:=World.ownsRow_nil _ _ _ _
theorem OwnI.keep {base:Nat} {S:Nat->Prop} {w w':World} {v:Value} {l:List Nat} (h:OwnI base w v l) (hb:Keep S w w') (hs:∀ g,base<=g->g<w.heap.size->¬ S g):OwnI base w' v l:=
 hb.ownsRow h fun g hg=>hs g (h.lt g hg).1 (h.lt g hg).2
theorem OwnI.shape {base:Nat} {w:World} {v:Value} {l:List Nat} (h:OwnI base w v l):∃ ad n c,v=.slice ad n c:=by
 rcases h.2 with⟨rfl,_⟩ | ⟨g,cap,cur,rfl,_⟩
 ·exact⟨_,_,_,rfl⟩
 ·exact⟨_,_,_,rfl⟩
attribute [local go_sem] Oper.semAt_some
def zaB (n:Nat) (W:World) (k:Nat):Prop:=n<=k/\∃ cs f,W.heap[k]? = some (.cells cs 3 f)
end Go.Proofs.YtonhfknjcbakiaaDoor
