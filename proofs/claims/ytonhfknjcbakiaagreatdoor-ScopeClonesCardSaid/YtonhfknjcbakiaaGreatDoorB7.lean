import Derived.Deep.LoopGhost
import Derived.Deep.DeepCutAuto
import Derived.Deep.CutBlock
import Derived.Test.YtonhfknjcbakiaaGreatDoorB5
import Derived.Test.YtonhfknjcbakiaaGreatDoorB6
set_option linter.unusedVariables false
set_option linter.unusedSimpArgs false
set_option maxRecDepth 100000
namespace Go.Proofs.YtonhfknjcbakiaaGreatDoor
open Go.RowKit
def rdE (n0:Nat) (w:World) (b o:Nat) (e:En):Prop:=w.cell? ⟨b,o,none⟩=some (.int .u64 e.rep)/\w.cell? ⟨b,o+1,none⟩=some (.int .u64 e.max)/\(∃ hv,w.cell? ⟨b,o+2,none⟩=some hv/\RdR 0 n0 w hv e.holes)/\e.rep<zk/\e.max<zk
def RdV (n0:Nat) (w:World) (v:Value) (l:List En):Prop:=RdSl 3 (rdE n0) 0 n0 w v l
theorem RdV.keep {n0:Nat} {w w':World} {v:Value} {l:List En} (h:RdV n0 w v l) (hb:∀ k,k<n0->w'.heap[k]? = w.heap[k]?):RdV n0 w' v l:=
 RdSl.keep h (Nat.le_refl _) (Nat.le_refl _) fun b o x _ h2 ⟨c0,c1,⟨hv,c2,c3⟩,c4⟩=>
  ⟨(World.cell?_of_block (a:=⟨b,o,none⟩) (hb b h2)).trans c0,(World.cell?_of_block (a:=⟨b,o+1,none⟩) (hb b h2)).trans c1,⟨hv,(World.cell?_of_block (a:=⟨b,o+2,none⟩) (hb b h2)).trans c2,c3.keep (Nat.le_refl _) (Nat.le_refl _) fun b _ h=>hb b h⟩,c4⟩
def zC (e:En):List Nat:=e.rep::e.max::e.holes.length::e.holes.flatMap fun s=>[s.lo,s.hi]
def zv (v:List En):List Nat:=v.length::v.flatMap zC
def PtE (n0 Bv:Nat) (A B:World):Prop:=A.heap.size<=B.heap.size/\∀ k,k<A.heap.size->(k<n0\/k=Bv\/∃ cs f t,A.heap[k]? = some (.cells cs t f)/\(t = 38 \/ t = 36))->B.heap[k]? = A.heap[k]?
theorem RdV.pt {n0 Bv:Nat} {w w':World} {v:Value} {l:List En} (h:RdV n0 w v l) (hp:PtE n0 Bv w w') (hn:n0<=w.heap.size):RdV n0 w' v l:=h.keep fun k hk=>hp.2 k (by omega) (.inl hk)
attribute [local go_sem] Oper.semAt_some
def OwnN (base:Nat) (w:World) (v:Value) (xs:List Nat):Prop:=w.ownsRow base 24 1 v xs.length (xs.map fun x=>.int .u64 (x:Nat))
theorem OwnN.nil (base:Nat) (w:World):OwnN base w (.slice none 0 0) []:=World.ownsRow_nil _ _ _ _
theorem OwnN.keep {base:Nat} {S:Nat->Prop} {w w':World} {v:Value} {l:List Nat} (h:OwnN base w v l) (hb:Keep S w w') (hs:∀ g,base<=g->g<w.heap.size->¬ S g):OwnN base w' v l:=
 hb.ownsRow h fun g hg=>hs g (h.lt g hg).1 (h.lt g hg).2
theorem OwnN.mono {base base':Nat} {w:World} {v:Value} {l:List Nat} (h:OwnN base w v l) (hb:base'<=base):OwnN base' w v l:=by
 refine⟨h.1,?_⟩
 rcases h.2 with hn | ⟨g,cap,cur,hv,hg,r⟩
 ·exact .inl hn
 ·exact .inr ⟨g,cap,cur,hv,Nat.le_trans hb hg,r⟩
def SN (n0:Nat) (A B:World):Prop:=(∃ v,Boxed A n0 157 v)/\Keep (fun k=>k=n0\/(n0+4<=k/\∃ cs f,A.heap[k]? = some (.cells cs 24 f))) A B
theorem SN.pt {n0:Nat} {A B:World} (h:SN n0 A B):PtE n0 (n0+1) A B:=by
 obtain⟨⟨v,hv⟩,hk⟩:=h
 refine⟨hk.size,fun k hlt hc=>hk.block k hlt ?_⟩
 rintro(rfl | ⟨h4,cs,f,hcs⟩)
 ·rcases hc with hc | hc | ⟨cs,f,t,hc,ht⟩
  ·omega
  ·omega
  ·have hv':A.heap[k]? = some (.cells #[v] 157 (0,0)):=hv
   rw [hv'] at hc
   cases hc
   rcases ht with ht | ht<;>cases ht
 ·rcases hc with hc | hc | ⟨cs2,f2,t,hc,ht⟩
  ·omega
  ·omega
  ·rw [hcs] at hc
   cases hc
   rcases ht with ht | ht<;>cases ht
theorem Tryz.infoU:(Tryz.prog.info? 24).map (fun i=>(i.zero,i.size,i.bytes))=some (some (Value.int .u64 0),1,8):=by kernel_rfl
end Go.Proofs.YtonhfknjcbakiaaGreatDoor
