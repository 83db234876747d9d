import Derived.Test.YtonhfknjcbakiaaGreatDoorProg
import Derived.WalkKit
import Derived.LaidEql
import Derived.Stop.Asserts
import Derived.RowKitTokens
import Derived.Laws.Cells
import Derived.Laws.IdiomCopy
import Derived.Test.YtonhfknjcbakiaaGreatDoorB9
set_option maxHeartbeats 16000000
set_option linter.unusedVariables false
set_option linter.unusedSimpArgs false
set_option maxRecDepth 100000
namespace Go.Proofs.YtonhfknjcbakiaaGreatDoor.As
open Go.RowKit Go.Extern.Stop Go.Stop Go.Extern
theorem methodKind (h:Value) (w:World):(Go.method 411 217 (.agg #[h]) "Kind").run Tryz.prog w=.ok (252,h) w:=by kernel_rfl
theorem methodElem (h:Value) (w:World):(Go.method 411 217 (.agg #[h]) "Elem").run Tryz.prog w=.ok (265,.agg #[h]) w:=by kernel_rfl
theorem methodImplements (h:Value) (w:World):(Go.method 411 217 (.agg #[h]) "Implements").run Tryz.prog w=.ok (266,.agg #[h]) w:=by kernel_rfl
theorem methodAssignableTo (h:Value) (w:World):(Go.method 411 217 (.agg #[h]) "AssignableTo").run Tryz.prog w=.ok (263,.agg #[h]) w:=by kernel_rfl
theorem methodUnwrap (c k:Int) (w:World):(Go.method 411 120 (.agg #[.int .i64 c,.int .i64 k]) "Unwrap").run Tryz.prog w=.ok (256,.agg #[.int .i64 c,.int .i64 k]) w:=by kernel_rfl
theorem rlm (z:Sem Value) (f:TypeId->Addr->Nat->Nat->Sem Value) (v:Value) :
 ReflectliteValue.method z f #[v]=(do match <-ReflectliteValue.parts v with | none=>z | some (t,a,fl)=>f t a fl (fl % 32)):=rfl
theorem rls (v x:Value):ReflectliteValue.set #[v,x]=(do
 let (some (dst,a,fl),some (src,b,_)):=(<-ReflectliteValue.parts v,<-ReflectliteValue.parts x)
  | unsupported (.noEntry "extern/(internal/reflectlite.Value).Set.zeroValue")
 if fl / ReflectliteValue.flagAddr % 2 == 0 then unsupported (.noEntry "extern/(internal/reflectlite.Value).Set.unaddressable")
 let val <-loadVar src b
 if <-Rtype.directlyAssignable dst src then storeVar dst a val
 else if <-Rtype.implements dst src then
  if (<-Rtype.kind src) == 20 then
   match val with
   | .nilIface=>unsupported (.noEntry "extern/reflectlite: a nil value of one interface type handed on as a value of another")
   | _=>storeVar dst a val
  else storeVar dst a (.iface src val)
 else panicString ("reflectlite.Set: value of type " ++ (<-Rtype.spelt src) ++ " is not assignable to type " ++ (<-Rtype.spelt dst))
 pure (.tuple #[])):=rfl
theorem valueOfNp (t:Addr) (w:World):(ReflectliteValue.unpack (.iface 127 (.pointer (some t)))).run Tryz.prog w
 = .ok (.agg #[.pointer (some ⟨2,127,none⟩),.pointer (some ⟨w.heap.size,0,none⟩),.int .u64 150]) (w.alloc (.cells #[.pointer (some t)] 127)):=by kernel_rfl
theorem typeNp (a:Addr) (w:World):(ReflectliteValue.methodAny (ReflectliteValue.valueError "reflectlite.Value.Type" 0) (fun t _ _ _=>ReflectliteType.toType t) #[.agg #[.pointer (some ⟨2,127,none⟩),.pointer (some a),.int .u64 150]]).run Tryz.prog w
 = .ok (.iface 217 (.agg #[.pointer (some ⟨2,127,none⟩)])) w:=by kernel_rfl
theorem kindNp (w:World):((ReflectliteType.abiMethod fun t=>(fun a:Nat=>Value.int IntKind.u8 (a:Int)) <$> Rtype.kind t) #[.pointer (some ⟨2,127,none⟩)]).run Tryz.prog w=.ok (.int .u8 22) w:=by kernel_rfl
theorem kindN (w:World):((ReflectliteType.abiMethod fun t=>(fun a:Nat=>Value.int IntKind.u8 (a:Int)) <$> Rtype.kind t) #[.pointer (some ⟨2,82,none⟩)]).run Tryz.prog w=.ok (.int .u8 2) w:=by kernel_rfl
theorem partsNp (a:Addr) (w:World):(ReflectliteValue.parts (.agg #[.pointer (some ⟨2,127,none⟩),.pointer (some a),.int .u64 150])).run Tryz.prog w=.ok (some (127,a,150)) w:=by kernel_rfl
theorem isNilNp (a p:Addr) (W:World) (ha:W.cell? a=some (.pointer (some p))) :
 (ReflectliteValue.method (ReflectliteValue.valueError "reflectlite.Value.IsNil" 0) ReflectliteValue.isNil #[.agg #[.pointer (some ⟨2,127,none⟩),.pointer (some a),.int .u64 150]]).run Tryz.prog W=.ok (.bool false) W:=by
 rw [rlm]
 simp only [Sem.run_bind,partsNp,Result.andThen]
 simp [ReflectliteValue.isNil,loadVar,isAgg,underlying,Tryz.underlying127,ha,Result.andThen]
theorem elemNp (w:World):(ReflectliteType.method ReflectliteType.elem #[.agg #[.pointer (some ⟨2,127,none⟩)]]).run Tryz.prog w=.ok (.iface 217 (.agg #[.pointer (some ⟨2,82,none⟩)])) w:=by kernel_rfl
theorem implementsN (w:World):(ReflectliteType.relation "Implements" ReflectliteType.implements_ #[.agg #[.pointer (some ⟨2,82,none⟩)],.iface 217 (.agg #[.pointer (some ⟨2,44,none⟩)])]).run Tryz.prog w=.ok (.bool true) w:=by kernel_rfl
theorem typeOfN (v:Value) (w:World):(ReflectliteType.typeOf #[.iface 82 v]).run Tryz.prog w=.ok (.iface 217 (.agg #[.pointer (some ⟨2,82,none⟩)])) w:=by kernel_rfl
theorem assignableN (w:World):(ReflectliteType.relation "AssignableTo" ReflectliteType.assignableTo #[.agg #[.pointer (some ⟨2,82,none⟩)],.iface 217 (.agg #[.pointer (some ⟨2,82,none⟩)])]).run Tryz.prog w=.ok (.bool true) w:=by kernel_rfl
theorem valueOfN (c:Int) (w:World):(ReflectliteValue.unpack (.iface 82 (.int .i64 c))).run Tryz.prog w
 = .ok (.agg #[.pointer (some ⟨2,82,none⟩),.pointer (some ⟨w.heap.size,0,none⟩),.int .u64 130]) (w.alloc (.cells #[.int .i64 c] 82)):=by kernel_rfl
theorem elemOfNp (w:World):(Rtype.elem? 127).run Tryz.prog w=.ok (some 82) w:=by kernel_rfl
theorem mkN (p:Addr) (w:World):(ReflectliteValue.mk 82 p ReflectliteValue.flagAddr).run Tryz.prog w=.ok (.agg #[.pointer (some ⟨2,82,none⟩),.pointer (some p),.int .u64 386]) w:=by kernel_rfl
theorem elemVNp (a p:Addr) (W:World) (ha:W.cell? a=some (.pointer (some p))) :
 (ReflectliteValue.method (ReflectliteValue.valueError "reflectlite.Value.Elem" 0) ReflectliteValue.elem #[.agg #[.pointer (some ⟨2,127,none⟩),.pointer (some a),.int .u64 150]]).run Tryz.prog W
   = .ok (.agg #[.pointer (some ⟨2,82,none⟩),.pointer (some p),.int .u64 386]) W:=by
 rw [rlm]
 simp only [Sem.run_bind,partsNp,Result.andThen]
 simp [ReflectliteValue.elem,loadVar,isAgg,underlying,Tryz.underlying127,ha,Result.andThen,elemOfNp,mkN]
theorem partsNa (a:Addr) (w:World):(ReflectliteValue.parts (.agg #[.pointer (some ⟨2,82,none⟩),.pointer (some a),.int .u64 386])).run Tryz.prog w=.ok (some (82,a,386)) w:=by kernel_rfl
theorem partsN (a:Addr) (w:World):(ReflectliteValue.parts (.agg #[.pointer (some ⟨2,82,none⟩),.pointer (some a),.int .u64 130])).run Tryz.prog w=.ok (some (82,a,130)) w:=by kernel_rfl
theorem directN (w:World):(Rtype.directlyAssignable 82 82).run Tryz.prog w=.ok true w:=by kernel_rfl
theorem typeOfF (v:Value) (w:World):(ReflectliteType.typeOf #[.iface 120 v]).run Tryz.prog w=.ok (.iface 217 (.agg #[.pointer (some ⟨2,120,none⟩)])) w:=by kernel_rfl
theorem assignableFN (w:World):(ReflectliteType.relation "AssignableTo" ReflectliteType.assignableTo #[.agg #[.pointer (some ⟨2,120,none⟩)],.iface 217 (.agg #[.pointer (some ⟨2,82,none⟩)])]).run Tryz.prog w=.ok (.bool false) w:=by kernel_rfl
theorem setN (ta b:Addr) (c:Int) (old:Value) (W:World) (hb:W.cell? b=some (.int .i64 c)) (ht:W.cell? ta=some old) (hf:W.frozen? ta=false) :
 (ReflectliteValue.set #[.agg #[.pointer (some ⟨2,82,none⟩),.pointer (some ta),.int .u64 386],.agg #[.pointer (some ⟨2,82,none⟩),.pointer (some b),.int .u64 130]]).run Tryz.prog W
   = .ok (.tuple #[]) (W.setCell ta (.int .i64 c)):=by
 rw [rls]
 simp only [Sem.run_bind,partsNa,partsN,Result.andThen]
 simp [ReflectliteValue.flagAddr,loadVar,isAgg,underlying,Tryz.underlying82,hb,Result.andThen,directN,storeVar,Value.cells,storeCells,Addr.add]
 rw [run_store Tryz.prog W ta _ _ (by rfl)]
 simp [ht,hf]
abbrev Ext (f:FuncId) (e:Array Value->Sem Value):Prop:=∀(args:Array Value) (w:World),(callFunc f args).run Tryz.prog w=((e args).run Tryz.prog w).andThen fun v w'=>.ok (.value v) w'
theorem xt0:Ext 140 (fun args=>ReflectliteValue.unpack (args.getD 0 (.tuple #[]))):=run_callFunc_extern Tryz.func140 (by kernel_rfl) (by kernel_rfl) (by kernel_rfl) (by kernel_rfl)
theorem xt1:Ext 141 (ReflectliteValue.methodAny (ReflectliteValue.valueError "reflectlite.Value.Type" 0) (fun t _ _ _=>ReflectliteType.toType t)):=run_callFunc_extern Tryz.func141 (by kernel_rfl) (by kernel_rfl) (by kernel_rfl) (by kernel_rfl)
theorem xt2:Ext 142 (ReflectliteValue.method (ReflectliteValue.valueError "reflectlite.Value.IsNil" 0) ReflectliteValue.isNil):=run_callFunc_extern Tryz.func142 (by kernel_rfl) (by kernel_rfl) (by kernel_rfl) (by kernel_rfl)
theorem xt3:Ext 252 (ReflectliteType.abiMethod fun t=>do pure (.int .u8 (<-Rtype.kind t))):=run_callFunc_extern Tryz.func252 (by kernel_rfl) (by kernel_rfl) (by kernel_rfl) (by kernel_rfl)
theorem xt4:Ext 265 (ReflectliteType.method ReflectliteType.elem):=run_callFunc_extern Tryz.func265 (by kernel_rfl) (by kernel_rfl) (by kernel_rfl) (by kernel_rfl)
theorem xt5:Ext 266 (ReflectliteType.relation "Implements" ReflectliteType.implements_):=run_callFunc_extern Tryz.func266 (by kernel_rfl) (by kernel_rfl) (by kernel_rfl) (by kernel_rfl)
theorem xt6:Ext 138 ReflectliteType.typeOf:=run_callFunc_extern Tryz.func138 (by kernel_rfl) (by kernel_rfl) (by kernel_rfl) (by kernel_rfl)
theorem xt7:Ext 263 (ReflectliteType.relation "AssignableTo" ReflectliteType.assignableTo):=run_callFunc_extern Tryz.func263 (by kernel_rfl) (by kernel_rfl) (by kernel_rfl) (by kernel_rfl)
theorem xt8:Ext 174 (ReflectliteValue.method (ReflectliteValue.valueError "reflectlite.Value.Elem" 0) ReflectliteValue.elem):=run_callFunc_extern Tryz.func174 (by kernel_rfl) (by kernel_rfl) (by kernel_rfl) (by kernel_rfl)
theorem xt9:Ext 175 ReflectliteValue.set:=run_callFunc_extern Tryz.func175 (by kernel_rfl) (by kernel_rfl) (by kernel_rfl) (by kernel_rfl)
end Go.Proofs.YtonhfknjcbakiaaGreatDoor.As
namespace Go.Proofs.YtonhfknjcbakiaaGreatDoor.As
open Go.RowKit Go.Extern.Stop Go.Stop Go.Extern
theorem as_NN (c:Int) (t:Addr) (old:Value) (w:World) (hg:w.cell? ⟨0,0,none⟩=some (.iface 217 (.agg #[.pointer (some ⟨2,44,none⟩)]))) (ht0:w.cell? t=some old) (hf0:w.frozen? t=false) :
 Calls Tryz.prog 94 #[.iface 82 (.int .i64 c),.iface 127 (.pointer (some t))] w fun ev w'=>ev=.returned (.bool true)/\w'=((((w.alloc (.cells #[.pointer (some t)] 127)).alloc (.cells #[.pointer (some ⟨2,127,none⟩),.pointer (some ⟨w.heap.size,0,none⟩),.int .u64 150] 172)).alloc (.cells #[.pointer (some ⟨2,127,none⟩),.pointer (some ⟨w.heap.size,0,none⟩),.int .u64 150] 172)).alloc (.cells #[.int .i64 c] 82)).setCell t (.int .i64 c):=by
 have h6:=fun a w=>xt0 a w
 have h7:=fun a w=>xt1 a w
 have h8:=fun a w=>xt2 a w
 have h27:=fun a w=>xt3 a w
 have h37:=fun a w=>xt4 a w
 have h38:=fun a w=>xt5 a w
 have h10:=fun a w=>xt6 a w
 have h35:=fun a w=>xt7 a w
 have h11:=fun a w=>xt8 a w
 have h12:=fun a w=>xt9 a w
 have tO:=typeOfN
 have mA:=methodAssignableTo
 have a25:=assignableN
 have v25:=valueOfN
 have f6:=valueOfNp
 have f7:=typeNp
 have mK:=methodKind
 have mE:=methodElem
 have mI:=methodImplements
 have k27:=kindNp
 have k25:=kindN
 have e27:=elemNp
 have i25:=implementsN
 have n8:=isNilNp ⟨w.heap.size,0,none⟩ t ((w.alloc (.cells #[.pointer (some t)] 127)).alloc (.cells #[.pointer (some ⟨2,127,none⟩),.pointer (some ⟨w.heap.size,0,none⟩),.int .u64 150] 172)) (by simp)
 have hlt:0<w.heap.size:=by
  rcases Nat.eq_zero_or_pos w.heap.size with h0 | h
  ·simp [World.cell?,h0] at hg
  ·exact h
 have hg2:((w.alloc (.cells #[.pointer (some t)] 127)).alloc (.cells #[.pointer (some ⟨2,127,none⟩),.pointer (some ⟨w.heap.size,0,none⟩),.int .u64 150] 172)).cell? ⟨0,0,none⟩=some (.iface 217 (.agg #[.pointer (some ⟨2,44,none⟩)])):=by
  rw [World.cell?_alloc_lt _ _ ⟨0,0,none⟩ (by simp),World.cell?_alloc_lt _ _ ⟨0,0,none⟩ hlt];exact hg
 have htl:t.block<w.heap.size:=by
  rcases Nat.lt_or_ge t.block w.heap.size with h | h
  ·exact h
  ·simp [World.cell?,Array.getElem?_eq_none h] at ht0
 have el:=elemVNp ⟨w.heap.size,0,none⟩ t (((w.alloc (.cells #[.pointer (some t)] 127)).alloc (.cells #[.pointer (some ⟨2,127,none⟩),.pointer (some ⟨w.heap.size,0,none⟩),.int .u64 150] 172)).alloc (.cells #[.pointer (some ⟨2,127,none⟩),.pointer (some ⟨w.heap.size,0,none⟩),.int .u64 150] 172)) (by rw [World.cell?_alloc_lt _ _ ⟨w.heap.size,0,none⟩ (by simp;omega)];simp)
 have st:=setN t ⟨w.heap.size+1+1+1,0,none⟩ c old ((((w.alloc (.cells #[.pointer (some t)] 127)).alloc (.cells #[.pointer (some ⟨2,127,none⟩),.pointer (some ⟨w.heap.size,0,none⟩),.int .u64 150] 172)).alloc (.cells #[.pointer (some ⟨2,127,none⟩),.pointer (some ⟨w.heap.size,0,none⟩),.int .u64 150] 172)).alloc (.cells #[.int .i64 c] 82))
  (by rw [World.cell?_alloc_at _ _ _ _ (by simp)];rfl)
  (by rw [World.cell?_alloc_lt _ _ t (by simp;omega),World.cell?_alloc_lt _ _ t (by simp;omega),World.cell?_alloc_lt _ _ t (by simp;omega),World.cell?_alloc_lt _ _ t htl];exact ht0)
  (by rw [World.frozen?_alloc_old _ _ t (by simp;omega),World.frozen?_alloc_old _ _ t (by simp;omega),World.frozen?_alloc_old _ _ t (by simp;omega),World.frozen?_alloc_old _ _ t (Nat.ne_of_lt htl)];exact hf0)
 go_enter Tryz.func94,Tryz.ntmps94
 go_wp2
 refine wp_loop_rounds 1 ?_
 rw [rounds_succ]
 go_wp2
 go_ret
 exact⟨rfl,rfl⟩
end Go.Proofs.YtonhfknjcbakiaaGreatDoor.As
namespace Go.Proofs.YtonhfknjcbakiaaGreatDoor.As
open Go.RowKit Go.Extern.Stop Go.Stop Go.Extern
end Go.Proofs.YtonhfknjcbakiaaGreatDoor.As
namespace Go.Proofs.YtonhfknjcbakiaaGreatDoor.As
open Go.RowKit Go.Extern.Stop Go.Stop Go.Extern
theorem noAs (v:Value) (xT:TypeId) (w:World):(Instr.typeAssert (.iface 120 v) xT 228 true).run Tryz.prog w=.ok (.tuple #[.nilIface,.bool false]) w:=run_typeAssert_lacksB Tryz.underlying228 (by kernel_rfl) (by kernel_rfl) v xT w
theorem hasUw (v:Value) (xT:TypeId) (w:World):(Instr.typeAssert (.iface 120 v) xT 222 true).run Tryz.prog w=.ok (.tuple #[.iface 120 v,.bool true]) w:=run_typeAssert_hasB Tryz.underlying222 (by kernel_rfl) v xT w
theorem as_FN (c k:Int) (t:Addr) (old:Value) (w:World) (hg:w.cell? ⟨0,0,none⟩=some (.iface 217 (.agg #[.pointer (some ⟨2,44,none⟩)]))) (ht0:w.cell? t=some old) (hf0:w.frozen? t=false) :
 Calls Tryz.prog 94 #[.iface 120 (.agg #[.int .i64 c,.int .i64 k]),.iface 127 (.pointer (some t))] w fun ev w'=>ev=.returned (.bool true)/\w'=(((((w.alloc (.cells #[.pointer (some t)] 127)).alloc (.cells #[.pointer (some ⟨2,127,none⟩),.pointer (some ⟨w.heap.size,0,none⟩),.int .u64 150] 172)).alloc (.cells #[.pointer (some ⟨2,127,none⟩),.pointer (some ⟨w.heap.size,0,none⟩),.int .u64 150] 172)).alloc (.cells #[.int .i64 c,.int .i64 k] 120)).alloc (.cells #[.int .i64 c] 82)).setCell t (.int .i64 c):=by
 have h6:=fun a w=>xt0 a w
 have h7:=fun a w=>xt1 a w
 have h8:=fun a w=>xt2 a w
 have h27:=fun a w=>xt3 a w
 have h37:=fun a w=>xt4 a w
 have h38:=fun a w=>xt5 a w
 have h10:=fun a w=>xt6 a w
 have h35:=fun a w=>xt7 a w
 have h11:=fun a w=>xt8 a w
 have h12:=fun a w=>xt9 a w
 have tO:=typeOfN
 have tF:=typeOfF
 have aF:=assignableFN
 have mU:=methodUnwrap
 have nA:=noAs
 have hU:=hasUw
 have mA:=methodAssignableTo
 have a25:=assignableN
 have v25:=valueOfN
 have f6:=valueOfNp
 have f7:=typeNp
 have mK:=methodKind
 have mE:=methodElem
 have mI:=methodImplements
 have k27:=kindNp
 have k25:=kindN
 have e27:=elemNp
 have i25:=implementsN
 have n8:=isNilNp ⟨w.heap.size,0,none⟩ t ((w.alloc (.cells #[.pointer (some t)] 127)).alloc (.cells #[.pointer (some ⟨2,127,none⟩),.pointer (some ⟨w.heap.size,0,none⟩),.int .u64 150] 172)) (by simp)
 have hlt:0<w.heap.size:=by
  rcases Nat.eq_zero_or_pos w.heap.size with h0 | h
  ·simp [World.cell?,h0] at hg
  ·exact h
 have hg2:((w.alloc (.cells #[.pointer (some t)] 127)).alloc (.cells #[.pointer (some ⟨2,127,none⟩),.pointer (some ⟨w.heap.size,0,none⟩),.int .u64 150] 172)).cell? ⟨0,0,none⟩=some (.iface 217 (.agg #[.pointer (some ⟨2,44,none⟩)])):=by
  rw [World.cell?_alloc_lt _ _ ⟨0,0,none⟩ (by simp),World.cell?_alloc_lt _ _ ⟨0,0,none⟩ hlt];exact hg
 have htl:t.block<w.heap.size:=by
  rcases Nat.lt_or_ge t.block w.heap.size with h | h
  ·exact h
  ·simp [World.cell?,Array.getElem?_eq_none h] at ht0
 have el:=elemVNp ⟨w.heap.size,0,none⟩ t ((((w.alloc (.cells #[.pointer (some t)] 127)).alloc (.cells #[.pointer (some ⟨2,127,none⟩),.pointer (some ⟨w.heap.size,0,none⟩),.int .u64 150] 172)).alloc (.cells #[.pointer (some ⟨2,127,none⟩),.pointer (some ⟨w.heap.size,0,none⟩),.int .u64 150] 172)).alloc (.cells #[.int .i64 c,.int .i64 k] 120)) (by rw [World.cell?_alloc_lt _ _ ⟨w.heap.size,0,none⟩ (by simp;omega),World.cell?_alloc_lt _ _ ⟨w.heap.size,0,none⟩ (by simp;omega)];simp)
 have st:=setN t ⟨w.heap.size+1+1+1+1,0,none⟩ c old (((((w.alloc (.cells #[.pointer (some t)] 127)).alloc (.cells #[.pointer (some ⟨2,127,none⟩),.pointer (some ⟨w.heap.size,0,none⟩),.int .u64 150] 172)).alloc (.cells #[.pointer (some ⟨2,127,none⟩),.pointer (some ⟨w.heap.size,0,none⟩),.int .u64 150] 172)).alloc (.cells #[.int .i64 c,.int .i64 k] 120)).alloc (.cells #[.int .i64 c] 82))
  (by rw [World.cell?_alloc_at _ _ _ _ (by simp)];rfl)
  (by rw [World.cell?_alloc_lt _ _ t (by simp;omega),World.cell?_alloc_lt _ _ t (by simp;omega),World.cell?_alloc_lt _ _ t (by simp;omega),World.cell?_alloc_lt _ _ t (by simp;omega),World.cell?_alloc_lt _ _ t htl];exact ht0)
  (by rw [World.frozen?_alloc_old _ _ t (by simp;omega),World.frozen?_alloc_old _ _ t (by simp;omega),World.frozen?_alloc_old _ _ t (by simp;omega),World.frozen?_alloc_old _ _ t (by simp;omega),World.frozen?_alloc_old _ _ t (Nat.ne_of_lt htl)];exact hf0)
 go_enter Tryz.func94,Tryz.ntmps94
 go_wp2
 refine wp_loop_rounds 2 ?_
 rw [rounds_succ]
 go_wp2
 rw [rounds_succ]
 go_wp2
 go_ret
 exact⟨rfl,rfl⟩
end Go.Proofs.YtonhfknjcbakiaaGreatDoor.As
