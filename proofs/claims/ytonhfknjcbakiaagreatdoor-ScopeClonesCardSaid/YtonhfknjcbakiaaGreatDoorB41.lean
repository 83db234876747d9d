import Derived.Test.YtonhfknjcbakiaaGreatDoorRows
import Derived.ChangeSame
import Derived.ChangeVars
import Derived.JoinedOf
import Derived.RowKit
import Derived.RowKitTokens
import Derived.LaidLaws
import Derived.LaidHandle
import Derived.Stop.Joined
import Derived.Test.YtonhfknjcbakiaaGreatDoorB33
set_option linter.unusedVariables false
set_option linter.unusedSimpArgs false
set_option maxRecDepth 100000
namespace Go.Proofs.YtonhfknjcbakiaaGreatDoor
open Go.ChangeShapes Go.WideShapes Go.RowKit
theorem own:ownKnob Tryz.prog.godebug=none:=by kernel_rfl
theorem Xc:laidOutB Tryz.prog=true:=by kernel_rfl
theorem et:Tryz.prog.globalNamed "errors.errorType" = some 0:=by kernel_rfl
theorem rt:(Tryz.prog.cutTypes.find? (·.1 == "internal/reflectlite.rtype")).map (·.2)=some 217 := by kernel_rfl
theorem ziq:((List.range 311).filter fun t=>Tryz.prog.rowNamed t [101,114,114,111,114])=[44]:=by kernel_rfl
theorem tsize:Tryz.prog.types.size=311:=by kernel_rfl
def zab {H:Type}:List (String × DataW H):=[("errors.errorType",Rows.laid_errors_errorType)]
theorem Z7 {W:World} (h:laidMetH Tryz.prog zab W):W.cell? ⟨0,0,none⟩=some (.iface 217 (.agg #[.pointer (some ⟨2,44,none⟩)])):=by
 have h':laidMet Tryz.prog [] W/\handlesMet Tryz.prog zab W:=h
 obtain⟨name,u,ty,e1,e2,e3,e4,e5⟩:=h'.2 _ (List.mem_singleton.2 rfl)
 have en:name=[101,114,114,111,114]:=(Option.some.inj e1).symm
 subst en
 obtain rfl:=Option.some.inj (rt.symm.trans e2)
 have hm:ty ∈ (List.range 311).filter fun t=>Tryz.prog.rowNamed t [101,114,114,111,114]:=List.mem_filter.2 ⟨List.mem_range.2 (by rw [<-tsize];exact e3),e4⟩
 rw [ziq] at hm
 obtain rfl:=List.mem_singleton.1 hm
 have hh:typeHandle Tryz.prog 44 = .pointer (some ⟨2,44,none⟩):=by kernel_rfl
 rw [hh] at e5
 simpa using World.var?_cell et e5 0
theorem JH {W:World} (h:laidMetH Tryz.prog zab W):GL (ZG W) W:=fun x hx=>by
 have hc:=Z7 h
 obtain rfl:_=x:=Option.some.inj hx
 exact⟨World.block_lt_of_cell? W ⟨0,0,none⟩ hc,hc⟩
noncomputable def Yx (os:Os):World:=
 let w0:=World.holding Tryz.prog os ⟨#[],#[],[]⟩
 { w0 with heap:=w0.heap.modify 0 fun
  | .cells _ t frozen=>.cells #[.iface 217 (.agg #[.pointer (some ⟨2,44,none⟩)])] t frozen
  | o=>o }
theorem Q3 (os:Os) (args:Array Value):laidMetH Tryz.prog zab ((Yx os).forCall (fun _ _=>0) ⟨#[],args,[]⟩).memory:=
 laidMetH_of_parts (laidMet_nil _ _) (by kernel_rfl)
end Go.Proofs.YtonhfknjcbakiaaGreatDoor
