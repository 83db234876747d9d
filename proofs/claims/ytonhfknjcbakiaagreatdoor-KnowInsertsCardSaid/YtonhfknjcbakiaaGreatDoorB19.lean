import Derived.Test.YtonhfknjcbakiaaGreatDoorProg
import Derived.WalkKit
import Derived.LaidEql
import Derived.Stop.Asserts
import Derived.RowKitTokens
import Derived.Laws.Cells
import Derived.Laws.IdiomCopy
import Derived.Test.YtonhfknjcbakiaaGreatDoorB8
set_option maxHeartbeats 16000000
set_option linter.unusedVariables false
set_option linter.unusedSimpArgs false
set_option maxRecDepth 100000
namespace Go.Proofs.YtonhfknjcbakiaaGreatDoor.As
open Go.RowKit Go.Extern.Stop Go.Stop Go.Extern
theorem methodKind (h:Value) (w:World):(Go.method 411 217 (.agg #[h]) "Kind").run Tryz.prog w=.ok (252,h) w:=by kernel_rfl
theorem methodElem (h:Value) (w:World):(Go.method 411 217 (.agg #[h]) "Elem").run Tryz.prog w=.ok (265,.agg #[h]) w:=by kernel_rfl
theorem methodImplements (h:Value) (w:World):(Go.method 411 217 (.agg #[h]) "Implements").run Tryz.prog w=.ok (266,.agg #[h]) w:=by kernel_rfl
theorem methodAssignableTo (h:Value) (w:World):(Go.method 411 217 (.agg #[h]) "AssignableTo").run Tryz.prog w=.ok (263,.agg #[h]) w:=by kernel_rfl
theorem methodUnwrap (c k:Int) (w:World):(Go.method 411 120 (.agg #[.int .i64 c,.int .i64 k]) "Unwrap").run Tryz.prog w=.ok (256,.agg #[.int .i64 c,.int .i64 k]) w:=by kernel_rfl
theorem rlm (z:Sem Value) (f:TypeId->Addr->Nat->Nat->Sem Value) (v:Value) :
 ReflectliteValue.method z f #[v]=(do match <-ReflectliteValue.parts v with | none=>z | some (t,a,fl)=>f t a fl (fl % 32)):=rfl
theorem rls (v x:Value):ReflectliteValue.set #[v,x]=(do
 let (some (dst,a,fl),some (src,b,_)):=(<-ReflectliteValue.parts v,<-ReflectliteValue.parts x)
  | unsupported (.noEntry "extern/(internal/reflectlite.Value).Set.zeroValue")
 if fl / ReflectliteValue.flagAddr % 2 == 0 then unsupported (.noEntry "extern/(internal/reflectlite.Value).Set.unaddressable")
 let val <-loadVar src b
 if <-Rtype.directlyAssignable dst src then storeVar dst a val
 else if <-Rtype.implements dst src then
  if (<-Rtype.kind src) == 20 then
   match val with
   | .nilIface=>unsupported (.noEntry "extern/reflectlite: a nil value of one interface type handed on as a value of another")
   | _=>storeVar dst a val
  else storeVar dst a (.iface src val)
 else panicString ("reflectlite.Set: value of type " ++ (<-Rtype.spelt src) ++ " is not assignable to type " ++ (<-Rtype.spelt dst))
 pure (.tuple #[])):=rfl
theorem valueOfNp (t:Addr) (w:World):(ReflectliteValue.unpack (.iface 127 (.pointer (some t)))).run Tryz.prog w
 = .ok (.agg #[.pointer (some ⟨2,127,none⟩),.pointer (some ⟨w.heap.size,0,none⟩),.int .u64 150]) (w.alloc (.cells #[.pointer (some t)] 127)):=by kernel_rfl
theorem typeNp (a:Addr) (w:World):(ReflectliteValue.methodAny (ReflectliteValue.valueError "reflectlite.Value.Type" 0) (fun t _ _ _=>ReflectliteType.toType t) #[.agg #[.pointer (some ⟨2,127,none⟩),.pointer (some a),.int .u64 150]]).run Tryz.prog w
 = .ok (.iface 217 (.agg #[.pointer (some ⟨2,127,none⟩)])) w:=by kernel_rfl
theorem kindNp (w:World):((ReflectliteType.abiMethod fun t=>(fun a:Nat=>Value.int IntKind.u8 (a:Int)) <$> Rtype.kind t) #[.pointer (some ⟨2,127,none⟩)]).run Tryz.prog w=.ok (.int .u8 22) w:=by kernel_rfl
theorem kindN (w:World):((ReflectliteType.abiMethod fun t=>(fun a:Nat=>Value.int IntKind.u8 (a:Int)) <$> Rtype.kind t) #[.pointer (some ⟨2,82,none⟩)]).run Tryz.prog w=.ok (.int .u8 2) w:=by kernel_rfl
theorem partsNp (a:Addr) (w:World):(ReflectliteValue.parts (.agg #[.pointer (some ⟨2,127,none⟩),.pointer (some a),.int .u64 150])).run Tryz.prog w=.ok (some (127,a,150)) w:=by kernel_rfl
theorem isNilNp (a p:Addr) (W:World) (j:W.cell? a=some (.pointer (some p))) :
 (ReflectliteValue.method (ReflectliteValue.valueError "reflectlite.Value.IsNil" 0) ReflectliteValue.isNil #[.agg #[.pointer (some ⟨2,127,none⟩),.pointer (some a),.int .u64 150]]).run Tryz.prog W=.ok (.bool false) W:=by
 rw [rlm]
 simp only [Sem.run_bind,partsNp,Result.andThen]
 simp [ReflectliteValue.isNil,loadVar,isAgg,underlying,Tryz.underlying127,j,Result.andThen]
theorem elemNp (w:World):(ReflectliteType.method ReflectliteType.elem #[.agg #[.pointer (some ⟨2,127,none⟩)]]).run Tryz.prog w=.ok (.iface 217 (.agg #[.pointer (some ⟨2,82,none⟩)])) w:=by kernel_rfl
theorem implementsN (w:World):(ReflectliteType.relation "Implements" ReflectliteType.implements_ #[.agg #[.pointer (some ⟨2,82,none⟩)],.iface 217 (.agg #[.pointer (some ⟨2,44,none⟩)])]).run Tryz.prog w=.ok (.bool true) w:=by kernel_rfl
theorem typeOfN (v:Value) (w:World):(ReflectliteType.typeOf #[.iface 82 v]).run Tryz.prog w=.ok (.iface 217 (.agg #[.pointer (some ⟨2,82,none⟩)])) w:=by kernel_rfl
theorem assignableN (w:World):(ReflectliteType.relation "AssignableTo" ReflectliteType.assignableTo #[.agg #[.pointer (some ⟨2,82,none⟩)],.iface 217 (.agg #[.pointer (some ⟨2,82,none⟩)])]).run Tryz.prog w=.ok (.bool true) w:=by kernel_rfl
theorem valueOfN (c:Int) (w:World):(ReflectliteValue.unpack (.iface 82 (.int .i64 c))).run Tryz.prog w
 = .ok (.agg #[.pointer (some ⟨2,82,none⟩),.pointer (some ⟨w.heap.size,0,none⟩),.int .u64 130]) (w.alloc (.cells #[.int .i64 c] 82)):=by kernel_rfl
theorem elemOfNp (w:World):(Rtype.elem? 127).run Tryz.prog w=.ok (some 82) w:=by kernel_rfl
theorem mkN (p:Addr) (w:World):(ReflectliteValue.mk 82 p ReflectliteValue.flagAddr).run Tryz.prog w=.ok (.agg #[.pointer (some ⟨2,82,none⟩),.pointer (some p),.int .u64 386]) w:=by kernel_rfl
theorem elemVNp (a p:Addr) (W:World) (j:W.cell? a=some (.pointer (some p))) :
 (ReflectliteValue.method (ReflectliteValue.valueError "reflectlite.Value.Elem" 0) ReflectliteValue.elem #[.agg #[.pointer (some ⟨2,127,none⟩),.pointer (some a),.int .u64 150]]).run Tryz.prog W
   = .ok (.agg #[.pointer (some ⟨2,82,none⟩),.pointer (some p),.int .u64 386]) W:=by
 rw [rlm]
 simp only [Sem.run_bind,partsNp,Result.andThen]
 simp [ReflectliteValue.elem,loadVar,isAgg,underlying,Tryz.underlying127,j,Result.andThen,elemOfNp,mkN]
theorem partsNa (a:Addr) (w:World):(ReflectliteValue.parts (.agg #[.pointer (some ⟨2,82,none⟩),.pointer (some a),.int .u64 386])).run Tryz.prog w=.ok (some (82,a,386)) w:=by kernel_rfl
theorem partsN (a:Addr) (w:World):(ReflectliteValue.parts (.agg #[.pointer (some ⟨2,82,none⟩),.pointer (some a),.int .u64 130])).run Tryz.prog w=.ok (some (82,a,130)) w:=by kernel_rfl
theorem directN (w:World):(Rtype.directlyAssignable 82 82).run Tryz.prog w=.ok true w:=by kernel_rfl
theorem valueOfFp (t:Addr) (w:World):(ReflectliteValue.unpack (.iface 123 (.pointer (some t)))).run Tryz.prog w
 = .ok (.agg #[.pointer (some ⟨2,123,none⟩),.pointer (some ⟨w.heap.size,0,none⟩),.int .u64 150]) (w.alloc (.cells #[.pointer (some t)] 123)):=by kernel_rfl
theorem typeFp (a:Addr) (w:World):(ReflectliteValue.methodAny (ReflectliteValue.valueError "reflectlite.Value.Type" 0) (fun t _ _ _=>ReflectliteType.toType t) #[.agg #[.pointer (some ⟨2,123,none⟩),.pointer (some a),.int .u64 150]]).run Tryz.prog w
 = .ok (.iface 217 (.agg #[.pointer (some ⟨2,123,none⟩)])) w:=by kernel_rfl
theorem kindFp (w:World):((ReflectliteType.abiMethod fun t=>(fun a:Nat=>Value.int IntKind.u8 (a:Int)) <$> Rtype.kind t) #[.pointer (some ⟨2,123,none⟩)]).run Tryz.prog w=.ok (.int .u8 22) w:=by kernel_rfl
theorem kindF (w:World):((ReflectliteType.abiMethod fun t=>(fun a:Nat=>Value.int IntKind.u8 (a:Int)) <$> Rtype.kind t) #[.pointer (some ⟨2,120,none⟩)]).run Tryz.prog w=.ok (.int .u8 25) w:=by kernel_rfl
theorem partsFp (a:Addr) (w:World):(ReflectliteValue.parts (.agg #[.pointer (some ⟨2,123,none⟩),.pointer (some a),.int .u64 150])).run Tryz.prog w=.ok (some (123,a,150)) w:=by kernel_rfl
theorem isNilFp (a p:Addr) (W:World) (j:W.cell? a=some (.pointer (some p))) :
 (ReflectliteValue.method (ReflectliteValue.valueError "reflectlite.Value.IsNil" 0) ReflectliteValue.isNil #[.agg #[.pointer (some ⟨2,123,none⟩),.pointer (some a),.int .u64 150]]).run Tryz.prog W=.ok (.bool false) W:=by
 rw [rlm]
 simp only [Sem.run_bind,partsFp,Result.andThen]
 simp [ReflectliteValue.isNil,loadVar,isAgg,underlying,Tryz.underlying123,j,Result.andThen]
theorem elemFp (w:World):(ReflectliteType.method ReflectliteType.elem #[.agg #[.pointer (some ⟨2,123,none⟩)]]).run Tryz.prog w=.ok (.iface 217 (.agg #[.pointer (some ⟨2,120,none⟩)])) w:=by kernel_rfl
theorem implementsF (w:World):(ReflectliteType.relation "Implements" ReflectliteType.implements_ #[.agg #[.pointer (some ⟨2,120,none⟩)],.iface 217 (.agg #[.pointer (some ⟨2,44,none⟩)])]).run Tryz.prog w=.ok (.bool true) w:=by kernel_rfl
theorem typeOfF (v:Value) (w:World):(ReflectliteType.typeOf #[.iface 120 v]).run Tryz.prog w=.ok (.iface 217 (.agg #[.pointer (some ⟨2,120,none⟩)])) w:=by kernel_rfl
theorem assignableF (w:World):(ReflectliteType.relation "AssignableTo" ReflectliteType.assignableTo #[.agg #[.pointer (some ⟨2,120,none⟩)],.iface 217 (.agg #[.pointer (some ⟨2,120,none⟩)])]).run Tryz.prog w=.ok (.bool true) w:=by kernel_rfl
theorem valueOfF (c k:Int) (w:World):(ReflectliteValue.unpack (.iface 120 (.agg #[.int .i64 c,.int .i64 k]))).run Tryz.prog w
 = .ok (.agg #[.pointer (some ⟨2,120,none⟩),.pointer (some ⟨w.heap.size,0,none⟩),.int .u64 153]) (w.alloc (.cells #[.int .i64 c,.int .i64 k] 120)):=by kernel_rfl
theorem elemOfFp (w:World):(Rtype.elem? 123).run Tryz.prog w=.ok (some 120) w:=by kernel_rfl
theorem mkF (p:Addr) (w:World):(ReflectliteValue.mk 120 p ReflectliteValue.flagAddr).run Tryz.prog w=.ok (.agg #[.pointer (some ⟨2,120,none⟩),.pointer (some p),.int .u64 409]) w:=by kernel_rfl
theorem elemVFp (a p:Addr) (W:World) (j:W.cell? a=some (.pointer (some p))) :
 (ReflectliteValue.method (ReflectliteValue.valueError "reflectlite.Value.Elem" 0) ReflectliteValue.elem #[.agg #[.pointer (some ⟨2,123,none⟩),.pointer (some a),.int .u64 150]]).run Tryz.prog W
   = .ok (.agg #[.pointer (some ⟨2,120,none⟩),.pointer (some p),.int .u64 409]) W:=by
 rw [rlm]
 simp only [Sem.run_bind,partsFp,Result.andThen]
 simp [ReflectliteValue.elem,loadVar,isAgg,underlying,Tryz.underlying123,j,Result.andThen,elemOfFp,mkF]
theorem partsFa (a:Addr) (w:World):(ReflectliteValue.parts (.agg #[.pointer (some ⟨2,120,none⟩),.pointer (some a),.int .u64 409])).run Tryz.prog w=.ok (some (120,a,409)) w:=by kernel_rfl
theorem partsF (a:Addr) (w:World):(ReflectliteValue.parts (.agg #[.pointer (some ⟨2,120,none⟩),.pointer (some a),.int .u64 153])).run Tryz.prog w=.ok (some (120,a,153)) w:=by kernel_rfl
theorem directF (w:World):(Rtype.directlyAssignable 120 120).run Tryz.prog w=.ok true w:=by kernel_rfl
theorem sizeF (w:World):(sizeOf 120).run Tryz.prog w=.ok 2 w:=by kernel_rfl
theorem assignableFN (w:World):(ReflectliteType.relation "AssignableTo" ReflectliteType.assignableTo #[.agg #[.pointer (some ⟨2,120,none⟩)],.iface 217 (.agg #[.pointer (some ⟨2,82,none⟩)])]).run Tryz.prog w=.ok (.bool false) w:=by kernel_rfl
theorem setN (a b:Addr) (c:Int) (j:Value) (W:World) (hb:W.cell? b=some (.int .i64 c)) (ht:W.cell? a=some j) (u:W.frozen? a=false) :
 (ReflectliteValue.set #[.agg #[.pointer (some ⟨2,82,none⟩),.pointer (some a),.int .u64 386],.agg #[.pointer (some ⟨2,82,none⟩),.pointer (some b),.int .u64 130]]).run Tryz.prog W
   = .ok (.tuple #[]) (W.setCell a (.int .i64 c)):=by
 rw [rls]
 simp only [Sem.run_bind,partsNa,partsN,Result.andThen]
 simp [ReflectliteValue.flagAddr,loadVar,isAgg,underlying,Tryz.underlying82,hb,Result.andThen,directN,storeVar,Value.cells,storeCells,Addr.add]
 rw [run_store Tryz.prog W a _ _ (by rfl)]
 simp [ht,u]
abbrev Ext (f:FuncId) (e:Array Value->Sem Value):Prop:=∀(a:Array Value) (w:World),(callFunc f a).run Tryz.prog w=((e a).run Tryz.prog w).andThen fun v j=>.ok (.value v) j
theorem xt0:Ext 140 (fun a=>ReflectliteValue.unpack (a.getD 0 (.tuple #[]))):=run_callFunc_extern Tryz.func140 (by kernel_rfl) (by kernel_rfl) (by kernel_rfl) (by kernel_rfl)
theorem xt1:Ext 141 (ReflectliteValue.methodAny (ReflectliteValue.valueError "reflectlite.Value.Type" 0) (fun t _ _ _=>ReflectliteType.toType t)):=run_callFunc_extern Tryz.func141 (by kernel_rfl) (by kernel_rfl) (by kernel_rfl) (by kernel_rfl)
theorem xt2:Ext 142 (ReflectliteValue.method (ReflectliteValue.valueError "reflectlite.Value.IsNil" 0) ReflectliteValue.isNil):=run_callFunc_extern Tryz.func142 (by kernel_rfl) (by kernel_rfl) (by kernel_rfl) (by kernel_rfl)
theorem xt3:Ext 252 (ReflectliteType.abiMethod fun t=>do pure (.int .u8 (<-Rtype.kind t))):=run_callFunc_extern Tryz.func252 (by kernel_rfl) (by kernel_rfl) (by kernel_rfl) (by kernel_rfl)
theorem xt4:Ext 265 (ReflectliteType.method ReflectliteType.elem):=run_callFunc_extern Tryz.func265 (by kernel_rfl) (by kernel_rfl) (by kernel_rfl) (by kernel_rfl)
theorem xt5:Ext 266 (ReflectliteType.relation "Implements" ReflectliteType.implements_):=run_callFunc_extern Tryz.func266 (by kernel_rfl) (by kernel_rfl) (by kernel_rfl) (by kernel_rfl)
theorem xt6:Ext 138 ReflectliteType.typeOf:=run_callFunc_extern Tryz.func138 (by kernel_rfl) (by kernel_rfl) (by kernel_rfl) (by kernel_rfl)
theorem xt7:Ext 263 (ReflectliteType.relation "AssignableTo" ReflectliteType.assignableTo):=run_callFunc_extern Tryz.func263 (by kernel_rfl) (by kernel_rfl) (by kernel_rfl) (by kernel_rfl)
theorem xt8:Ext 174 (ReflectliteValue.method (ReflectliteValue.valueError "reflectlite.Value.Elem" 0) ReflectliteValue.elem):=run_callFunc_extern Tryz.func174 (by kernel_rfl) (by kernel_rfl) (by kernel_rfl) (by kernel_rfl)
theorem xt9:Ext 175 ReflectliteValue.set:=run_callFunc_extern Tryz.func175 (by kernel_rfl) (by kernel_rfl) (by kernel_rfl) (by kernel_rfl)
end Go.Proofs.YtonhfknjcbakiaaGreatDoor.As
namespace Go.Proofs.YtonhfknjcbakiaaGreatDoor.As
open Go.RowKit Go.Extern.Stop Go.Stop Go.Extern
theorem as_NN (c:Int) (t:Addr) (y:Value) (w:World) (C:w.cell? ⟨0,0,none⟩=some (.iface 217 (.agg #[.pointer (some ⟨2,44,none⟩)]))) (j:w.cell? t=some y) (A:w.frozen? t=false) :
 Calls Tryz.prog 94 #[.iface 82 (.int .i64 c),.iface 127 (.pointer (some t))] w fun ev U=>ev=.returned (.bool true)/\U=((((w.alloc (.cells #[.pointer (some t)] 127)).alloc (.cells #[.pointer (some ⟨2,127,none⟩),.pointer (some ⟨w.heap.size,0,none⟩),.int .u64 150] 172)).alloc (.cells #[.pointer (some ⟨2,127,none⟩),.pointer (some ⟨w.heap.size,0,none⟩),.int .u64 150] 172)).alloc (.cells #[.int .i64 c] 82)).setCell t (.int .i64 c):=by
 have Z:=fun a w=>xt0 a w
 have h7:=fun a w=>xt1 a w
 have h8:=fun a w=>xt2 a w
 have K:=fun a w=>xt3 a w
 have M:=fun a w=>xt4 a w
 have N:=fun a w=>xt5 a w
 have H:=fun a w=>xt6 a w
 have L:=fun a w=>xt7 a w
 have I:=fun a w=>xt8 a w
 have J:=fun a w=>xt9 a w
 have tO:=typeOfN
 have mA:=methodAssignableTo
 have E:=assignableN
 have T:=valueOfN
 have X:=valueOfNp
 have Y:=typeNp
 have mK:=methodKind
 have mE:=methodElem
 have mI:=methodImplements
 have S:=kindNp
 have Q:=kindN
 have F:=elemNp
 have P:=implementsN
 have n8:=isNilNp ⟨w.heap.size,0,none⟩ t ((w.alloc (.cells #[.pointer (some t)] 127)).alloc (.cells #[.pointer (some ⟨2,127,none⟩),.pointer (some ⟨w.heap.size,0,none⟩),.int .u64 150] 172)) (by simp)
 have B:0<w.heap.size:=by
  rcases Nat.eq_zero_or_pos w.heap.size with G | h
  ·simp [World.cell?,G] at C
  ·exact h
 have O:((w.alloc (.cells #[.pointer (some t)] 127)).alloc (.cells #[.pointer (some ⟨2,127,none⟩),.pointer (some ⟨w.heap.size,0,none⟩),.int .u64 150] 172)).cell? ⟨0,0,none⟩=some (.iface 217 (.agg #[.pointer (some ⟨2,44,none⟩)])):=by
  rw [World.cell?_alloc_lt _ _ ⟨0,0,none⟩ (by simp),World.cell?_alloc_lt _ _ ⟨0,0,none⟩ B];exact C
 have u:t.block<w.heap.size:=by
  rcases Nat.lt_or_ge t.block w.heap.size with h | h
  ·exact h
  ·simp [World.cell?,Array.getElem?_eq_none h] at j
 have V:=elemVNp ⟨w.heap.size,0,none⟩ t (((w.alloc (.cells #[.pointer (some t)] 127)).alloc (.cells #[.pointer (some ⟨2,127,none⟩),.pointer (some ⟨w.heap.size,0,none⟩),.int .u64 150] 172)).alloc (.cells #[.pointer (some ⟨2,127,none⟩),.pointer (some ⟨w.heap.size,0,none⟩),.int .u64 150] 172)) (by rw [World.cell?_alloc_lt _ _ ⟨w.heap.size,0,none⟩ (by simp;omega)];simp)
 have st:=setN t ⟨w.heap.size+1+1+1,0,none⟩ c y ((((w.alloc (.cells #[.pointer (some t)] 127)).alloc (.cells #[.pointer (some ⟨2,127,none⟩),.pointer (some ⟨w.heap.size,0,none⟩),.int .u64 150] 172)).alloc (.cells #[.pointer (some ⟨2,127,none⟩),.pointer (some ⟨w.heap.size,0,none⟩),.int .u64 150] 172)).alloc (.cells #[.int .i64 c] 82))
  (by rw [World.cell?_alloc_at _ _ _ _ (by simp)];rfl)
  (by rw [World.cell?_alloc_lt _ _ t (by simp;omega),World.cell?_alloc_lt _ _ t (by simp;omega),World.cell?_alloc_lt _ _ t (by simp;omega),World.cell?_alloc_lt _ _ t u];exact j)
  (by rw [World.frozen?_alloc_old _ _ t (by simp;omega),World.frozen?_alloc_old _ _ t (by simp;omega),World.frozen?_alloc_old _ _ t (by simp;omega),World.frozen?_alloc_old _ _ t (Nat.ne_of_lt u)];exact A)
 go_enter Tryz.func94,Tryz.ntmps94
 go_wp2
 refine wp_loop_rounds 1 ?_
 rw [rounds_succ]
 go_wp2
 go_ret
 exact⟨rfl,rfl⟩
end Go.Proofs.YtonhfknjcbakiaaGreatDoor.As
namespace Go.Proofs.YtonhfknjcbakiaaGreatDoor.As
open Go.RowKit Go.Extern.Stop Go.Stop Go.Extern
theorem setF (T b:Nat) (c k:Int) (W:World) (C:W.cell? ⟨b,0,none⟩=some (.int .i64 c)) (E:W.cell? ⟨b,1,none⟩=some (.int .i64 k)) (G:(W.cell? ⟨T,0,none⟩).isSome=true) (H:(W.cell? ⟨T,1,none⟩).isSome=true) (A:W.frozen? ⟨T,0,none⟩=false) (B:W.frozen? ⟨T,1,none⟩=false) :
 (ReflectliteValue.set #[.agg #[.pointer (some ⟨2,120,none⟩),.pointer (some ⟨T,0,none⟩),.int .u64 409],.agg #[.pointer (some ⟨2,120,none⟩),.pointer (some ⟨b,0,none⟩),.int .u64 153]]).run Tryz.prog W
   = .ok (.tuple #[]) (W.setCells T 0 [.int .i64 c,.int .i64 k]):=by
 have hl:(loadVar 120 ⟨b,0,none⟩).run Tryz.prog W=.ok (.agg #[.int .i64 c,.int .i64 k]) W:=by
  have u:=run_loadCells_list (P:=Tryz.prog) (w:=W) ⟨b,0,none⟩ [.int .i64 c,.int .i64 k] (fun j v a=>by
   match j,a with
   | 0,a=>cases a;simpa [Addr.add] using C
   | 1,a=>cases a;simpa [Addr.add] using E)
  have hs:=sizeF W
  simp [loadVar,isAgg,underlying,Tryz.underlying120,Result.andThen,hs]
  simp only [List.length_cons,List.length_nil] at u
  rw [u]
 have y:(storeVar 120 ⟨T,0,none⟩ (.agg #[.int .i64 c,.int .i64 k])).run Tryz.prog W=.ok () (W.setCells T 0 [.int .i64 c,.int .i64 k]):=by
  have hs:=sizeF W
  have F:=Go.run_storeCells_cells (P:=Tryz.prog) T 0 [.int .i64 c,.int .i64 k] 0 W (fun j a=>by
   match j,a with
   | 0,_=>simpa using G
   | 1,_=>simpa using H) (fun j a=>by
   match j,a with
   | 0,_=>simpa using A
   | 1,_=>simpa using B) (by simp [Value.oneCell'])
  simp [storeVar,hs,Value.cells,Result.andThen]
  simpa using F
 rw [rls]
 simp only [Sem.run_bind,partsFa,partsF,Result.andThen]
 simp [ReflectliteValue.flagAddr,hl,Result.andThen,directF,y]
end Go.Proofs.YtonhfknjcbakiaaGreatDoor.As
namespace Go.Proofs.YtonhfknjcbakiaaGreatDoor.As
open Go.RowKit Go.Extern.Stop Go.Stop Go.Extern
theorem noAs (v:Value) (a:TypeId) (w:World):(Instr.typeAssert (.iface 120 v) a 228 true).run Tryz.prog w=.ok (.tuple #[.nilIface,.bool false]) w:=run_typeAssert_lacksB Tryz.underlying228 (by kernel_rfl) (by kernel_rfl) v a w
theorem hasUw (v:Value) (a:TypeId) (w:World):(Instr.typeAssert (.iface 120 v) a 222 true).run Tryz.prog w=.ok (.tuple #[.iface 120 v,.bool true]) w:=run_typeAssert_hasB Tryz.underlying222 (by kernel_rfl) v a w
theorem as_FN (c k:Int) (t:Addr) (y:Value) (w:World) (C:w.cell? ⟨0,0,none⟩=some (.iface 217 (.agg #[.pointer (some ⟨2,44,none⟩)]))) (j:w.cell? t=some y) (A:w.frozen? t=false) :
 Calls Tryz.prog 94 #[.iface 120 (.agg #[.int .i64 c,.int .i64 k]),.iface 127 (.pointer (some t))] w fun ev U=>ev=.returned (.bool true)/\U=(((((w.alloc (.cells #[.pointer (some t)] 127)).alloc (.cells #[.pointer (some ⟨2,127,none⟩),.pointer (some ⟨w.heap.size,0,none⟩),.int .u64 150] 172)).alloc (.cells #[.pointer (some ⟨2,127,none⟩),.pointer (some ⟨w.heap.size,0,none⟩),.int .u64 150] 172)).alloc (.cells #[.int .i64 c,.int .i64 k] 120)).alloc (.cells #[.int .i64 c] 82)).setCell t (.int .i64 c):=by
 have h6:=fun a w=>xt0 a w
 have h7:=fun a w=>xt1 a w
 have h8:=fun a w=>xt2 a w
 have K:=fun a w=>xt3 a w
 have M:=fun a w=>xt4 a w
 have N:=fun a w=>xt5 a w
 have H:=fun a w=>xt6 a w
 have L:=fun a w=>xt7 a w
 have I:=fun a w=>xt8 a w
 have J:=fun a w=>xt9 a w
 have tO:=typeOfN
 have tF:=typeOfF
 have V:=assignableFN
 have mU:=methodUnwrap
 have nA:=noAs
 have hU:=hasUw
 have mA:=methodAssignableTo
 have E:=assignableN
 have T:=valueOfN
 have Y:=valueOfNp
 have Z:=typeNp
 have mK:=methodKind
 have mE:=methodElem
 have mI:=methodImplements
 have S:=kindNp
 have Q:=kindN
 have F:=elemNp
 have P:=implementsN
 have n8:=isNilNp ⟨w.heap.size,0,none⟩ t ((w.alloc (.cells #[.pointer (some t)] 127)).alloc (.cells #[.pointer (some ⟨2,127,none⟩),.pointer (some ⟨w.heap.size,0,none⟩),.int .u64 150] 172)) (by simp)
 have B:0<w.heap.size:=by
  rcases Nat.eq_zero_or_pos w.heap.size with G | h
  ·simp [World.cell?,G] at C
  ·exact h
 have O:((w.alloc (.cells #[.pointer (some t)] 127)).alloc (.cells #[.pointer (some ⟨2,127,none⟩),.pointer (some ⟨w.heap.size,0,none⟩),.int .u64 150] 172)).cell? ⟨0,0,none⟩=some (.iface 217 (.agg #[.pointer (some ⟨2,44,none⟩)])):=by
  rw [World.cell?_alloc_lt _ _ ⟨0,0,none⟩ (by simp),World.cell?_alloc_lt _ _ ⟨0,0,none⟩ B];exact C
 have u:t.block<w.heap.size:=by
  rcases Nat.lt_or_ge t.block w.heap.size with h | h
  ·exact h
  ·simp [World.cell?,Array.getElem?_eq_none h] at j
 have X:=elemVNp ⟨w.heap.size,0,none⟩ t ((((w.alloc (.cells #[.pointer (some t)] 127)).alloc (.cells #[.pointer (some ⟨2,127,none⟩),.pointer (some ⟨w.heap.size,0,none⟩),.int .u64 150] 172)).alloc (.cells #[.pointer (some ⟨2,127,none⟩),.pointer (some ⟨w.heap.size,0,none⟩),.int .u64 150] 172)).alloc (.cells #[.int .i64 c,.int .i64 k] 120)) (by rw [World.cell?_alloc_lt _ _ ⟨w.heap.size,0,none⟩ (by simp;omega),World.cell?_alloc_lt _ _ ⟨w.heap.size,0,none⟩ (by simp;omega)];simp)
 have st:=setN t ⟨w.heap.size+1+1+1+1,0,none⟩ c y (((((w.alloc (.cells #[.pointer (some t)] 127)).alloc (.cells #[.pointer (some ⟨2,127,none⟩),.pointer (some ⟨w.heap.size,0,none⟩),.int .u64 150] 172)).alloc (.cells #[.pointer (some ⟨2,127,none⟩),.pointer (some ⟨w.heap.size,0,none⟩),.int .u64 150] 172)).alloc (.cells #[.int .i64 c,.int .i64 k] 120)).alloc (.cells #[.int .i64 c] 82))
  (by rw [World.cell?_alloc_at _ _ _ _ (by simp)];rfl)
  (by rw [World.cell?_alloc_lt _ _ t (by simp;omega),World.cell?_alloc_lt _ _ t (by simp;omega),World.cell?_alloc_lt _ _ t (by simp;omega),World.cell?_alloc_lt _ _ t (by simp;omega),World.cell?_alloc_lt _ _ t u];exact j)
  (by rw [World.frozen?_alloc_old _ _ t (by simp;omega),World.frozen?_alloc_old _ _ t (by simp;omega),World.frozen?_alloc_old _ _ t (by simp;omega),World.frozen?_alloc_old _ _ t (by simp;omega),World.frozen?_alloc_old _ _ t (Nat.ne_of_lt u)];exact A)
 go_enter Tryz.func94,Tryz.ntmps94
 go_wp2
 refine wp_loop_rounds 2 ?_
 rw [rounds_succ]
 go_wp2
 rw [rounds_succ]
 go_wp2
 go_ret
 exact⟨rfl,rfl⟩
end Go.Proofs.YtonhfknjcbakiaaGreatDoor.As
