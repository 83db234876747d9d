import Derived.Deep.LoopGhost
import Derived.Deep.DeepCutAuto
import Derived.Deep.CutBlock
import Derived.Test.YtonhfknjcbakiaaGreatDoorB8
import Derived.Test.YtonhfknjcbakiaaGreatDoorB17
set_option linter.unusedVariables false
set_option linter.unusedSimpArgs false
set_option maxRecDepth 100000
namespace Go.Proofs.YtonhfknjcbakiaaGreatDoor
theorem zdd {f:Bool->Bool->Bool} {a b:List En}:∀ e ∈ ks f a b,e.rep ∈ srt (zM a++zM b):=fun e j=>by
 unfold ks at j
 obtain⟨r,u,h⟩:=List.mem_filterMap.1 j
 rw [(latO_some h).2.2]
 exact u
def BV (n h:Nat) (v:List En):Prop:=RightV v/\v.length<=n/\∀ e ∈ v,e.holes.length<=h
theorem ji {n h:Nat} {v:List En} (a:BV n h v) (r:Nat):(zT v r).length<=2 * h+3:=by
 unfold zT
 cases hf:v.find? (fun e=>e.rep == r) with
 | none=>simp
 | some e=>
   have j:=a.2.2 e (List.mem_of_find?_eq_some hf)
   have u:=kW e
   simp only
   omega
theorem BV.mono {n h m k:Nat} {v:List En} (a:BV n h v) (j:n<=m) (u:h<=k):BV m k v:=⟨a.1,Nat.le_trans a.2.1 j,fun e w=>Nat.le_trans (a.2.2 e w) u⟩
def zl9 (r c:Nat):List En:=[(Qi r [⟨c,c⟩]).1]
theorem zmc {c:Nat} (a:c<M64):Nrm [⟨c,c⟩]:=⟨Nat.zero_le _,Nat.le_refl _,a,trivial⟩
theorem zkS {r c:Nat} (u:r<M64) (j:c<M64):CanV (zl9 r c):=⟨fun e a=>by
 simp only [zl9,List.mem_singleton] at a
 subst a
 exact zak u (zmc j) (by simp),by simp [zl9]⟩
theorem zoD {r c:Nat} (u:r<M64) (j:c<M64):BV 1 5 (zl9 r c):=⟨(zkS u j).right,Nat.le_refl _,fun e a=>by
 simp only [zl9,List.mem_singleton] at a
 subst a
 have:=J0 r [⟨c,c⟩]
 simpa using this⟩
theorem zoE {r c:Nat} (u:r<M64) (j:c<M64) (x:Nat):zT (zl9 r c) x=if r=x then [⟨c,c⟩] else []:=by
 have a:(Qi r [⟨c,c⟩]).1.rep=r:=by rw [qD (by simp)]
 unfold zl9
 rw [qm,a,kr,JO u (zmc j) (by simp)]
end Go.Proofs.YtonhfknjcbakiaaGreatDoor
namespace Go.Proofs.YtonhfknjcbakiaaGreatDoor
open Go.RowKit
attribute [local go_sem] Oper.semAt_some
end Go.Proofs.YtonhfknjcbakiaaGreatDoor
