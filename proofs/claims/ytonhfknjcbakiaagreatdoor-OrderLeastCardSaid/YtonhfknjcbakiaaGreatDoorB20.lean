import Derived.Deep.LoopGhost
import Derived.Deep.DeepCutAuto
import Derived.Deep.CutBlock
import Derived.Test.YtonhfknjcbakiaaGreatDoorB8
import Derived.Test.YtonhfknjcbakiaaGreatDoorB17
set_option linter.unusedVariables false
set_option linter.unusedSimpArgs false
set_option maxRecDepth 100000
namespace Go.Proofs.YtonhfknjcbakiaaGreatDoor
theorem zdd {f:Bool->Bool->Bool} {a b:List En}:∀ e ∈ ks f a b,e.rep ∈ srt (zM a++zM b):=fun e he=>by
 unfold ks at he
 obtain⟨r,hr,h⟩:=List.mem_filterMap.1 he
 rw [(latO_some h).2.2]
 exact hr
def BV (n h:Nat) (v:List En):Prop:=RightV v/\v.length<=n/\∀ e ∈ v,e.holes.length<=h
theorem ji {n h:Nat} {v:List En} (hv:BV n h v) (r:Nat):(zT v r).length<=2 * h+3:=by
 unfold zT
 cases hf:v.find? (fun e=>e.rep == r) with
 | none=>simp
 | some e=>
   have h1:=hv.2.2 e (List.mem_of_find?_eq_some hf)
   have h2:=kW e
   simp only
   omega
theorem BV.mono {n h m k:Nat} {v:List En} (hv:BV n h v) (h1:n<=m) (h2:h<=k):BV m k v:=⟨hv.1,Nat.le_trans hv.2.1 h1,fun e he=>Nat.le_trans (hv.2.2 e he) h2⟩
def zl9 (r c:Nat):List En:=[(Qi r [⟨c,c⟩]).1]
theorem zmc {c:Nat} (hc:c<M64):Nrm [⟨c,c⟩]:=⟨Nat.zero_le _,Nat.le_refl _,hc,trivial⟩
theorem zkS {r c:Nat} (hr:r<M64) (hc:c<M64):CanV (zl9 r c):=⟨fun e he=>by
 simp only [zl9,List.mem_singleton] at he
 subst he
 exact zak hr (zmc hc) (by simp),by simp [zl9]⟩
theorem zoD {r c:Nat} (hr:r<M64) (hc:c<M64):BV 1 5 (zl9 r c):=⟨(zkS hr hc).right,Nat.le_refl _,fun e he=>by
 simp only [zl9,List.mem_singleton] at he
 subst he
 have:=J0 r [⟨c,c⟩]
 simpa using this⟩
theorem zoE {r c:Nat} (hr:r<M64) (hc:c<M64) (x:Nat):zT (zl9 r c) x=if r=x then [⟨c,c⟩] else []:=by
 have h1:(Qi r [⟨c,c⟩]).1.rep=r:=by rw [qD (by simp)]
 unfold zl9
 rw [qm,h1,kr,JO hr (zmc hc) (by simp)]
end Go.Proofs.YtonhfknjcbakiaaGreatDoor
namespace Go.Proofs.YtonhfknjcbakiaaGreatDoor
open Go.RowKit
attribute [local go_sem] Oper.semAt_some
end Go.Proofs.YtonhfknjcbakiaaGreatDoor
