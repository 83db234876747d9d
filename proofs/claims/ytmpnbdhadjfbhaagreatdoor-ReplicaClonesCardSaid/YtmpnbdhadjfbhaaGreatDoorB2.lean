import Derived.WalkKit
import Derived.Test.YtmpnbdhadjfbhaaGreatDoorProg
import Derived.LaidEql
import Derived.Stop.Asserts
import Derived.RowKitTokens
import Derived.Laws.Cells
import Derived.Laws.IdiomCopy
import Derived.RangeFuncNested
import Derived.RangeFuncBound
import Derived.RangeFuncCalls
import Derived.RangeFuncLeaves
import Derived.Shelf.Abstract
import Derived.Shelf.RegionOpen
import Derived.OwnWalkIn
import Derived.TacticsInMore
import Derived.LoopNIn
import Derived.LoopIn
import Derived.Maps.AppendAt
import Derived.Lib.Hide
import Derived.Test.YtmpnbdhadjfbhaaGreatDoorB0
set_option maxHeartbeats 16000000
set_option linter.all false
set_option maxRecDepth 100000
namespace Go.Proofs.YtmpnbdhadjfbhaaGreatDoor
def dH{p:Prop}(h:p:=by simp [Value.oneCell']):p:=h
def dL{p:Prop}(h:p:=by kernel_rfl):p:=h
def tp:=@Go.World.cell?_of_block
def tq:=@Go.World.alloc_heap_new
def tr:=@Go.World.block_lt_of_cell?
def tu:=@Go.World.cell?_alloc_lt
def tw:=@Go.RowKit.Below.heap_alloc
def tx:=@Go.World.size_alloc
def tz:=@Go.RowKit.Below.heap_setCell
def tC:=@Go.World.frozen?_alloc_old
def tH:=@Go.Sem.run_bind
def tM:=@Go.run_callFunc_extern
def tQ:=@Go.World.putObj_heap_other
def tY:=@Go.World.cell?_alloc_at
def t8:=@Go.run_typeAssert_lacksB
def Ta:=@Go.rounds_succ
def To:=@Go.wp_loop_rounds
def Tp:=@Go.World.putObj_heap_same
def TG:=@Go.World.frozen?_of_block
def T3:=@Go.run_endLoop
open Go.Proofs.Tryz
open Go.Proofs.Tryz renaming prog->xt
section
open Go.RowKit
def zmw:Option Value:=some (.iface 190 (.agg #[.pointer (some ⟨1,41,none⟩)]))
def GL(D:xT)(w:World):Prop:=∀x,zmw=some x->D 0 0/\w.cell? ⟨0,0,none⟩=some x
def GL.mono{D D':xT}{w w':World}(h:GL D w)(u:∀b o,D b o->D' b o)(A:∀b o x,D b o->w.cell? ⟨b,o,none⟩=some x->w'.cell? ⟨b,o,none⟩=some x):GL D' w':=λx j=>⟨u _ _ (h x j).1,A _ _ _ (h x j).1 (h x j).2⟩
end
namespace As
open Go.RowKit Go.Extern.Stop Go.Stop Go.Extern
def methodKind(h:Value)(w:World):(Go.method 421 190 (.agg #[h]) "Kind").run xt w=.ok (232,h) w:=dL
def methodElem(h:Value)(w:World):(Go.method 421 190 (.agg #[h]) "Elem").run xt w=.ok (245,.agg #[h]) w:=dL
def methodImplements(h:Value)(w:World):(Go.method 421 190 (.agg #[h]) "Implements").run xt w=.ok (246,.agg #[h]) w:=dL
def methodAssignableTo(h:Value)(w:World):(Go.method 421 190 (.agg #[h]) "AssignableTo").run xt w=.ok (243,.agg #[h]) w:=dL
def methodUnwrap(c k:Int)(w:World):(Go.method 421 115 (.agg #[.int .i64 c,.int .i64 k]) "Unwrap").run xt w=.ok (236,.agg #[.int .i64 c,.int .i64 k]) w:=dL
def rlm(z:Sem Value)(f:TypeId->Addr->Nat->Nat->Sem Value)(v:Value):
 ReflectliteValue.method z f #[v]=(do match <-ReflectliteValue.parts v with|none=>z|some (t,a,fl)=>f t a fl (fl%32)):=rfl
def rls(v x:Value):ReflectliteValue.set #[v,x]=(do
 let (some (dst,a,fl),some (src,b,_)):=(<-ReflectliteValue.parts v,<-ReflectliteValue.parts x)
  |unsupported (.noEntry "extern/(internal/reflectlite.Value).Set.zeroValue")
 if fl/ReflectliteValue.flagAddr%2 == 0 then unsupported (.noEntry "extern/(internal/reflectlite.Value).Set.unaddressable")
 let val <-loadVar src b
 if <-Rtype.directlyAssignable dst src then storeVar dst a val
 else if <-Rtype.implements dst src then
  if (<-Rtype.kind src) == 20 then
   match val with
   |.nilIface=>unsupported (.noEntry "extern/reflectlite: a nil value of one interface type handed on as a value of another")
   |_=>storeVar dst a val
  else storeVar dst a (.iface src val)
 else panicString ("reflectlite.Set: value of type " ++ (<-Rtype.spelt src) ++ " is not assignable to type " ++ (<-Rtype.spelt dst))
 pure (.tuple #[])):=rfl
def valueOfNp(t:Addr)(w:World):(ReflectliteValue.unpack (.iface 108 (.pointer (some t)))).run xt w
 = .ok (.agg #[.pointer (some ⟨1,108,none⟩),.pointer (some ⟨w.heap.size,0,none⟩),.int .u64 150]) (w.alloc (.cells #[.pointer (some t)] 108)):=dL
def typeNp(a:Addr)(w:World):(ReflectliteValue.methodAny (ReflectliteValue.valueError "reflectlite.Value.Type" 0) (λt _ _ _=>ReflectliteType.toType t) #[.agg #[.pointer (some ⟨1,108,none⟩),.pointer (some a),.int .u64 150]]).run xt w
 = .ok (.iface 190 (.agg #[.pointer (some ⟨1,108,none⟩)])) w:=dL
def kindNp(w:World):((ReflectliteType.abiMethod λt=>(λa:Nat=>Value.int IntKind.u8 (a:Int)) <$> Rtype.kind t) #[.pointer (some ⟨1,108,none⟩)]).run xt w=.ok (.int .u8 22) w:=dL
def kindN(w:World):((ReflectliteType.abiMethod λt=>(λa:Nat=>Value.int IntKind.u8 (a:Int)) <$> Rtype.kind t) #[.pointer (some ⟨1,66,none⟩)]).run xt w=.ok (.int .u8 2) w:=dL
def partsNp(a:Addr)(w:World):(ReflectliteValue.parts (.agg #[.pointer (some ⟨1,108,none⟩),.pointer (some a),.int .u64 150])).run xt w=.ok (some (108,a,150)) w:=dL
def isNilNp(a p:Addr)(W:World)(j:W.cell? a=some (.pointer (some p))):
 (ReflectliteValue.method (ReflectliteValue.valueError "reflectlite.Value.IsNil" 0) ReflectliteValue.isNil #[.agg #[.pointer (some ⟨1,108,none⟩),.pointer (some a),.int .u64 150]]).run xt W=.ok (.bool false) W:=by
 rw[rlm];simp only[tH,partsNp,Result.andThen];simp[ReflectliteValue.isNil,loadVar,isAgg,underlying,underlying108,j,Result.andThen]
def elemNp(w:World):(ReflectliteType.method ReflectliteType.elem #[.agg #[.pointer (some ⟨1,108,none⟩)]]).run xt w=.ok (.iface 190 (.agg #[.pointer (some ⟨1,66,none⟩)])) w:=dL
def implementsN(w:World):(ReflectliteType.relation "Implements" ReflectliteType.implements_ #[.agg #[.pointer (some ⟨1,66,none⟩)],.iface 190 (.agg #[.pointer (some ⟨1,41,none⟩)])]).run xt w=.ok (.bool true) w:=dL
def typeOfN(v:Value)(w:World):(ReflectliteType.typeOf #[.iface 66 v]).run xt w=.ok (.iface 190 (.agg #[.pointer (some ⟨1,66,none⟩)])) w:=dL
def assignableN(w:World):(ReflectliteType.relation "AssignableTo" ReflectliteType.assignableTo #[.agg #[.pointer (some ⟨1,66,none⟩)],.iface 190 (.agg #[.pointer (some ⟨1,66,none⟩)])]).run xt w=.ok (.bool true) w:=dL
def valueOfN(c:Int)(w:World):(ReflectliteValue.unpack (.iface 66 (.int .i64 c))).run xt w
 = .ok (.agg #[.pointer (some ⟨1,66,none⟩),.pointer (some ⟨w.heap.size,0,none⟩),.int .u64 130]) (w.alloc (.cells #[.int .i64 c] 66)):=dL
def elemOfNp(w:World):(Rtype.elem? 108).run xt w=.ok (some 66) w:=dL
def mkN(p:Addr)(w:World):(ReflectliteValue.mk 66 p ReflectliteValue.flagAddr).run xt w=.ok (.agg #[.pointer (some ⟨1,66,none⟩),.pointer (some p),.int .u64 386]) w:=dL
def elemVNp(a p:Addr)(W:World)(j:W.cell? a=some (.pointer (some p))):
 (ReflectliteValue.method (ReflectliteValue.valueError "reflectlite.Value.Elem" 0) ReflectliteValue.elem #[.agg #[.pointer (some ⟨1,108,none⟩),.pointer (some a),.int .u64 150]]).run xt W
   = .ok (.agg #[.pointer (some ⟨1,66,none⟩),.pointer (some p),.int .u64 386]) W:=by
 rw[rlm];simp only[tH,partsNp,Result.andThen];simp[ReflectliteValue.elem,loadVar,isAgg,underlying,underlying108,j,Result.andThen,elemOfNp,mkN]
def partsNa(a:Addr)(w:World):(ReflectliteValue.parts (.agg #[.pointer (some ⟨1,66,none⟩),.pointer (some a),.int .u64 386])).run xt w=.ok (some (66,a,386)) w:=dL
def partsN(a:Addr)(w:World):(ReflectliteValue.parts (.agg #[.pointer (some ⟨1,66,none⟩),.pointer (some a),.int .u64 130])).run xt w=.ok (some (66,a,130)) w:=dL
def directN(w:World):(Rtype.directlyAssignable 66 66).run xt w=.ok true w:=dL
def valueOfFp(t:Addr)(w:World):(ReflectliteValue.unpack (.iface 167 (.pointer (some t)))).run xt w
 = .ok (.agg #[.pointer (some ⟨1,167,none⟩),.pointer (some ⟨w.heap.size,0,none⟩),.int .u64 150]) (w.alloc (.cells #[.pointer (some t)] 167)):=dL
def typeFp(a:Addr)(w:World):(ReflectliteValue.methodAny (ReflectliteValue.valueError "reflectlite.Value.Type" 0) (λt _ _ _=>ReflectliteType.toType t) #[.agg #[.pointer (some ⟨1,167,none⟩),.pointer (some a),.int .u64 150]]).run xt w
 = .ok (.iface 190 (.agg #[.pointer (some ⟨1,167,none⟩)])) w:=dL
def kindFp(w:World):((ReflectliteType.abiMethod λt=>(λa:Nat=>Value.int IntKind.u8 (a:Int)) <$> Rtype.kind t) #[.pointer (some ⟨1,167,none⟩)]).run xt w=.ok (.int .u8 22) w:=dL
def kindF(w:World):((ReflectliteType.abiMethod λt=>(λa:Nat=>Value.int IntKind.u8 (a:Int)) <$> Rtype.kind t) #[.pointer (some ⟨1,115,none⟩)]).run xt w=.ok (.int .u8 25) w:=dL
def partsFp(a:Addr)(w:World):(ReflectliteValue.parts (.agg #[.pointer (some ⟨1,167,none⟩),.pointer (some a),.int .u64 150])).run xt w=.ok (some (167,a,150)) w:=dL
def isNilFp(a p:Addr)(W:World)(j:W.cell? a=some (.pointer (some p))):
 (ReflectliteValue.method (ReflectliteValue.valueError "reflectlite.Value.IsNil" 0) ReflectliteValue.isNil #[.agg #[.pointer (some ⟨1,167,none⟩),.pointer (some a),.int .u64 150]]).run xt W=.ok (.bool false) W:=by
 rw[rlm];simp only[tH,partsFp,Result.andThen];simp[ReflectliteValue.isNil,loadVar,isAgg,underlying,underlying167,j,Result.andThen]
def elemFp(w:World):(ReflectliteType.method ReflectliteType.elem #[.agg #[.pointer (some ⟨1,167,none⟩)]]).run xt w=.ok (.iface 190 (.agg #[.pointer (some ⟨1,115,none⟩)])) w:=dL
def implementsF(w:World):(ReflectliteType.relation "Implements" ReflectliteType.implements_ #[.agg #[.pointer (some ⟨1,115,none⟩)],.iface 190 (.agg #[.pointer (some ⟨1,41,none⟩)])]).run xt w=.ok (.bool true) w:=dL
def typeOfF(v:Value)(w:World):(ReflectliteType.typeOf #[.iface 115 v]).run xt w=.ok (.iface 190 (.agg #[.pointer (some ⟨1,115,none⟩)])) w:=dL
def assignableF(w:World):(ReflectliteType.relation "AssignableTo" ReflectliteType.assignableTo #[.agg #[.pointer (some ⟨1,115,none⟩)],.iface 190 (.agg #[.pointer (some ⟨1,115,none⟩)])]).run xt w=.ok (.bool true) w:=dL
def valueOfF(c k:Int)(w:World):(ReflectliteValue.unpack (.iface 115 (.agg #[.int .i64 c,.int .i64 k]))).run xt w
 = .ok (.agg #[.pointer (some ⟨1,115,none⟩),.pointer (some ⟨w.heap.size,0,none⟩),.int .u64 153]) (w.alloc (.cells #[.int .i64 c,.int .i64 k] 115)):=dL
def elemOfFp(w:World):(Rtype.elem? 167).run xt w=.ok (some 115) w:=dL
def mkF(p:Addr)(w:World):(ReflectliteValue.mk 115 p ReflectliteValue.flagAddr).run xt w=.ok (.agg #[.pointer (some ⟨1,115,none⟩),.pointer (some p),.int .u64 409]) w:=dL
def elemVFp(a p:Addr)(W:World)(j:W.cell? a=some (.pointer (some p))):
 (ReflectliteValue.method (ReflectliteValue.valueError "reflectlite.Value.Elem" 0) ReflectliteValue.elem #[.agg #[.pointer (some ⟨1,167,none⟩),.pointer (some a),.int .u64 150]]).run xt W
   = .ok (.agg #[.pointer (some ⟨1,115,none⟩),.pointer (some p),.int .u64 409]) W:=by
 rw[rlm];simp only[tH,partsFp,Result.andThen];simp[ReflectliteValue.elem,loadVar,isAgg,underlying,underlying167,j,Result.andThen,elemOfFp,mkF]
def partsFa(a:Addr)(w:World):(ReflectliteValue.parts (.agg #[.pointer (some ⟨1,115,none⟩),.pointer (some a),.int .u64 409])).run xt w=.ok (some (115,a,409)) w:=dL
def partsF(a:Addr)(w:World):(ReflectliteValue.parts (.agg #[.pointer (some ⟨1,115,none⟩),.pointer (some a),.int .u64 153])).run xt w=.ok (some (115,a,153)) w:=dL
def directF(w:World):(Rtype.directlyAssignable 115 115).run xt w=.ok true w:=dL
def sizeF(w:World):(sizeOf 115).run xt w=.ok 2 w:=dL
def assignableFN(w:World):(ReflectliteType.relation "AssignableTo" ReflectliteType.assignableTo #[.agg #[.pointer (some ⟨1,115,none⟩)],.iface 190 (.agg #[.pointer (some ⟨1,66,none⟩)])]).run xt w=.ok (.bool false) w:=dL
def setN(j b:Addr)(c:Int)(o:Value)(W:World)(hb:W.cell? b=some (.int .i64 c))(ht:W.cell? j=some o)(u:W.frozen? j=false):
 (ReflectliteValue.set #[.agg #[.pointer (some ⟨1,66,none⟩),.pointer (some j),.int .u64 386],.agg #[.pointer (some ⟨1,66,none⟩),.pointer (some b),.int .u64 130]]).run xt W
   = .ok (.tuple #[]) (W.setCell j (.int .i64 c)):=by
 rw[rls];simp only[tH,partsNa,partsN,Result.andThen];simp[ReflectliteValue.flagAddr,loadVar,isAgg,underlying,underlying66,hb,Result.andThen,directN,storeVar,Value.cells,storeCells,Addr.add];rw[run_store xt W j _ _ (by rfl)];simp[ht,u]
abbrev Ext(f:FuncId)(e:Array Value->Sem Value):Prop:=∀(j:Array Value)(w:World),(callFunc f j).run xt w=((e j).run xt w).andThen λv o=>.ok (.value v) o
def xt0:Ext 88 (λj=>ReflectliteValue.unpack (j.getD 0 (.tuple #[]))):=tM func88 dL dL dL dL
def xt1:Ext 89 (ReflectliteValue.methodAny (ReflectliteValue.valueError "reflectlite.Value.Type" 0) (λt _ _ _=>ReflectliteType.toType t)):=tM func89 dL dL dL dL
def xt2:Ext 90 (ReflectliteValue.method (ReflectliteValue.valueError "reflectlite.Value.IsNil" 0) ReflectliteValue.isNil):=tM func90 dL dL dL dL
def xt3:Ext 232 (ReflectliteType.abiMethod λt=>do pure (.int .u8 (<-Rtype.kind t))):=tM func232 dL dL dL dL
def xt4:Ext 245 (ReflectliteType.method ReflectliteType.elem):=tM func245 dL dL dL dL
def xt5:Ext 246 (ReflectliteType.relation "Implements" ReflectliteType.implements_):=tM func246 dL dL dL dL
def xt6:Ext 83 ReflectliteType.typeOf:=tM func83 dL dL dL dL
def xt7:Ext 243 (ReflectliteType.relation "AssignableTo" ReflectliteType.assignableTo):=tM func243 dL dL dL dL
def xt8:Ext 123 (ReflectliteValue.method (ReflectliteValue.valueError "reflectlite.Value.Elem" 0) ReflectliteValue.elem):=tM func123 dL dL dL dL
def xt9:Ext 124 ReflectliteValue.set:=tM func124 dL dL dL dL
end As
namespace As
open Go.RowKit Go.Extern.Stop Go.Stop Go.Extern
def setF(T b:Nat)(c k:Int)(W:World)(E:W.cell? ⟨b,0,none⟩=some (.int .i64 c))(F:W.cell? ⟨b,1,none⟩=some (.int .i64 k))(I:(W.cell? ⟨T,0,none⟩).isSome=true)(J:(W.cell? ⟨T,1,none⟩).isSome=true)(B:W.frozen? ⟨T,0,none⟩=false)(C:W.frozen? ⟨T,1,none⟩=false):
 (ReflectliteValue.set #[.agg #[.pointer (some ⟨1,115,none⟩),.pointer (some ⟨T,0,none⟩),.int .u64 409],.agg #[.pointer (some ⟨1,115,none⟩),.pointer (some ⟨b,0,none⟩),.int .u64 153]]).run xt W
   = .ok (.tuple #[]) (W.setCells T 0 [.int .i64 c,.int .i64 k]):=by
 have H:(loadVar 115 ⟨b,0,none⟩).run xt W=.ok (.agg #[.int .i64 c,.int .i64 k]) W:=by
  have u:=run_loadCells_list (P:=xt) (w:=W) ⟨b,0,none⟩ [.int .i64 c,.int .i64 k] (λj v o=>by
   match j,o with
   |0,o=>cases o;simpa[Addr.add]using E
   |1,o=>cases o;simpa[Addr.add]using F)
  have hs:=sizeF W;simp[loadVar,isAgg,underlying,underlying115,Result.andThen,hs];simp only[ww,Wt]at u;rw[u]
 have A:(storeVar 115 ⟨T,0,none⟩ (.agg #[.int .i64 c,.int .i64 k])).run xt W=.ok () (W.setCells T 0 [.int .i64 c,.int .i64 k]):=by
  have hs:=sizeF W;have G:=Go.run_storeCells_cells (P:=xt) T 0 [.int .i64 c,.int .i64 k] 0 W (λj o=>by
   match j,o with
   |0,_=>simpa using I
   |1,_=>simpa using J) (λj o=>by
   match j,o with
   |0,_=>simpa using B
   |1,_=>simpa using C) dH
  simp[storeVar,hs,Value.cells,Result.andThen];simpa using G
 rw[rls];simp only[tH,partsFa,partsF,Result.andThen];simp[ReflectliteValue.flagAddr,H,Result.andThen,directF,A]
end As
namespace As
open Go.RowKit Go.Extern.Stop Go.Stop Go.Extern
def noAs(v:Value)(j:TypeId)(w:World):(Instr.typeAssert (.iface 115 v) j 208 true).run xt w=.ok (.tuple #[.nilIface,.bool false]) w:=t8 Tryz.underlying208 dL dL v j w
def hasUw(v:Value)(j:TypeId)(w:World):(Instr.typeAssert (.iface 115 v) j 195 true).run xt w=.ok (.tuple #[.iface 115 v,.bool true]) w:=run_typeAssert_hasB Tryz.underlying195 dL v j w
def as_FN(c k:Int)(t:Addr)(u:Value)(w:World)(C:w.cell? ⟨0,0,none⟩=some (.iface 190 (.agg #[.pointer (some ⟨1,41,none⟩)])))(j:w.cell? t=some u)(A:w.frozen? t=false):
 Calls xt 47 #[.iface 115 (.agg #[.int .i64 c,.int .i64 k]),.iface 108 (.pointer (some t))] w λev S=>ev=.returned (.bool true)/\S=(((((w.alloc (.cells #[.pointer (some t)] 108)).alloc (.cells #[.pointer (some ⟨1,108,none⟩),.pointer (some ⟨w.heap.size,0,none⟩),.int .u64 150] 159)).alloc (.cells #[.pointer (some ⟨1,108,none⟩),.pointer (some ⟨w.heap.size,0,none⟩),.int .u64 150] 159)).alloc (.cells #[.int .i64 c,.int .i64 k] 115)).alloc (.cells #[.int .i64 c] 66)).setCell t (.int .i64 c):=by
 have Y:=λa w=>xt0 a w;have Z:=λa w=>xt1 a w;have h8:=λa w=>xt2 a w;have J:=λa w=>xt3 a w;have L:=λa w=>xt4 a w;have M:=λa w=>xt5 a w;have G:=λa w=>xt6 a w;have K:=λa w=>xt7 a w;have H:=λa w=>xt8 a w;have I:=λa w=>xt9 a w;have tO:=typeOfN;have tF:=typeOfF;have T:=assignableFN;have mU:=methodUnwrap;have nA:=noAs;have hU:=hasUw;have mA:=methodAssignableTo;have a25:=assignableN;have Q:=valueOfN;have V:=valueOfNp;have X:=typeNp;have mK:=methodKind;have mE:=methodElem;have mI:=methodImplements;have P:=kindNp;have k25:=kindN;have E:=elemNp;have O:=implementsN;have n8:=isNilNp ⟨w.heap.size,0,none⟩ t ((w.alloc (.cells #[.pointer (some t)] 108)).alloc (.cells #[.pointer (some ⟨1,108,none⟩),.pointer (some ⟨w.heap.size,0,none⟩),.int .u64 150] 159)) b6;have B:0<w.heap.size:=by
  rcases Wl w.heap.size with F|h
  .simp[World.cell?,F]at C
  .exact h
 have N:((w.alloc (.cells #[.pointer (some t)] 108)).alloc (.cells #[.pointer (some ⟨1,108,none⟩),.pointer (some ⟨w.heap.size,0,none⟩),.int .u64 150] 159)).cell? ⟨0,0,none⟩=some (.iface 190 (.agg #[.pointer (some ⟨1,41,none⟩)])):=by rw[tu _ _ ⟨0,0,none⟩ b6,tu _ _ ⟨0,0,none⟩ B];exact C
 have o:t.block<w.heap.size:=by
  rcases wL t.block w.heap.size with h|h
  .exact h
  .simp[World.cell?,W9 h]at j
 have U:=elemVNp ⟨w.heap.size,0,none⟩ t ((((w.alloc (.cells #[.pointer (some t)] 108)).alloc (.cells #[.pointer (some ⟨1,108,none⟩),.pointer (some ⟨w.heap.size,0,none⟩),.int .u64 150] 159)).alloc (.cells #[.pointer (some ⟨1,108,none⟩),.pointer (some ⟨w.heap.size,0,none⟩),.int .u64 150] 159)).alloc (.cells #[.int .i64 c,.int .i64 k] 115)) (by rw[tu _ _ ⟨w.heap.size,0,none⟩ a9,tu _ _ ⟨w.heap.size,0,none⟩ a9];simp);have st:=setN t ⟨w.heap.size+1+1+1+1,0,none⟩ c u (((((w.alloc (.cells #[.pointer (some t)] 108)).alloc (.cells #[.pointer (some ⟨1,108,none⟩),.pointer (some ⟨w.heap.size,0,none⟩),.int .u64 150] 159)).alloc (.cells #[.pointer (some ⟨1,108,none⟩),.pointer (some ⟨w.heap.size,0,none⟩),.int .u64 150] 159)).alloc (.cells #[.int .i64 c,.int .i64 k] 115)).alloc (.cells #[.int .i64 c] 66))
  (by rw[tY _ _ _ _ b6];rfl)
  (by rw[tu _ _ t a9,tu _ _ t a9,tu _ _ t a9,tu _ _ t a9,tu _ _ t o];exact j)
  (by rw[tC _ _ t a9,tC _ _ t a9,tC _ _ t a9,tC _ _ t a9,tC _ _ t (Un o)];exact A)
 go_enter func47,ntmps47
 go_wp2;refine To 2 ?_;rw[Ta]
 go_wp2;rw[Ta]
 go_wp2;go_ret;exact⟨rfl,rfl⟩
end As
namespace As
open Go.RowKit Go.Extern.Stop Go.Stop Go.Extern
def noAsD(v:Value)(j:TypeId)(w:World):(Instr.typeAssert (.iface 145 v) j 208 true).run xt w=.ok (.tuple #[.nilIface,.bool false]) w:=t8 Tryz.underlying208 dL dL v j w
def hasUwD(v:Value)(j:TypeId)(w:World):(Instr.typeAssert (.iface 145 v) j 195 true).run xt w=.ok (.tuple #[.iface 145 v,.bool true]) w:=run_typeAssert_hasB Tryz.underlying195 dL v j w
def typeOfD(v:Value)(w:World):(ReflectliteType.typeOf #[.iface 145 v]).run xt w=.ok (.iface 190 (.agg #[.pointer (some ⟨1,145,none⟩)])) w:=dL
def assignableDN(w:World):(ReflectliteType.relation "AssignableTo" ReflectliteType.assignableTo #[.agg #[.pointer (some ⟨1,145,none⟩)],.iface 190 (.agg #[.pointer (some ⟨1,66,none⟩)])]).run xt w=.ok (.bool false) w:=dL
def assignableDF(w:World):(ReflectliteType.relation "AssignableTo" ReflectliteType.assignableTo #[.agg #[.pointer (some ⟨1,145,none⟩)],.iface 190 (.agg #[.pointer (some ⟨1,115,none⟩)])]).run xt w=.ok (.bool false) w:=dL
def methodUnwrapD(s:ByteArray)(e:Value)(w:World):(Go.method 421 145 (.agg #[.string s,e]) "Unwrap").run xt w=.ok (238,.agg #[.string s,e]) w:=dL
def as_DN(s:ByteArray)(c k:Int)(t:Addr)(u:Value)(w:World)(C:w.cell? ⟨0,0,none⟩=some (.iface 190 (.agg #[.pointer (some ⟨1,41,none⟩)])))(j:w.cell? t=some u)(A:w.frozen? t=false):
 Calls xt 47 #[.iface 145 (.agg #[.string s,.iface 115 (.agg #[.int .i64 c,.int .i64 k])]),.iface 108 (.pointer (some t))] w λev S=>ev=.returned (.bool true)/\S=((((((w.alloc (.cells #[.pointer (some t)] 108)).alloc (.cells #[.pointer (some ⟨1,108,none⟩),.pointer (some ⟨w.heap.size,0,none⟩),.int .u64 150] 159)).alloc (.cells #[.pointer (some ⟨1,108,none⟩),.pointer (some ⟨w.heap.size,0,none⟩),.int .u64 150] 159)).alloc (.cells #[.string s,.iface 115 (.agg #[.int .i64 c,.int .i64 k])] 145)).alloc (.cells #[.int .i64 c,.int .i64 k] 115)).alloc (.cells #[.int .i64 c] 66)).setCell t (.int .i64 c):=by
 have Z:=λa w=>xt0 a w;have h7:=λa w=>xt1 a w;have h8:=λa w=>xt2 a w;have J:=λa w=>xt3 a w;have L:=λa w=>xt4 a w;have M:=λa w=>xt5 a w;have G:=λa w=>xt6 a w;have K:=λa w=>xt7 a w;have H:=λa w=>xt8 a w;have I:=λa w=>xt9 a w;have tO:=typeOfN;have tF:=typeOfF;have U:=assignableFN;have mU:=methodUnwrap;have nA:=noAs;have hU:=hasUw;have tD:=typeOfD;have T:=assignableDN;have mD:=methodUnwrapD;have nD:=noAsD;have hD:=hasUwD;have mA:=methodAssignableTo;have a25:=assignableN;have Q:=valueOfN;have X:=valueOfNp;have Y:=typeNp;have mK:=methodKind;have mE:=methodElem;have mI:=methodImplements;have P:=kindNp;have k25:=kindN;have E:=elemNp;have O:=implementsN;have n8:=isNilNp ⟨w.heap.size,0,none⟩ t ((w.alloc (.cells #[.pointer (some t)] 108)).alloc (.cells #[.pointer (some ⟨1,108,none⟩),.pointer (some ⟨w.heap.size,0,none⟩),.int .u64 150] 159)) b6;have B:0<w.heap.size:=by
  rcases Wl w.heap.size with F|h
  .simp[World.cell?,F]at C
  .exact h
 have N:((w.alloc (.cells #[.pointer (some t)] 108)).alloc (.cells #[.pointer (some ⟨1,108,none⟩),.pointer (some ⟨w.heap.size,0,none⟩),.int .u64 150] 159)).cell? ⟨0,0,none⟩=some (.iface 190 (.agg #[.pointer (some ⟨1,41,none⟩)])):=by rw[tu _ _ ⟨0,0,none⟩ b6,tu _ _ ⟨0,0,none⟩ B];exact C
 have o:t.block<w.heap.size:=by
  rcases wL t.block w.heap.size with h|h
  .exact h
  .simp[World.cell?,W9 h]at j
 have V:=elemVNp ⟨w.heap.size,0,none⟩ t (((((w.alloc (.cells #[.pointer (some t)] 108)).alloc (.cells #[.pointer (some ⟨1,108,none⟩),.pointer (some ⟨w.heap.size,0,none⟩),.int .u64 150] 159)).alloc (.cells #[.pointer (some ⟨1,108,none⟩),.pointer (some ⟨w.heap.size,0,none⟩),.int .u64 150] 159)).alloc (.cells #[.string s,.iface 115 (.agg #[.int .i64 c,.int .i64 k])] 145)).alloc (.cells #[.int .i64 c,.int .i64 k] 115)) (by rw[tu _ _ ⟨w.heap.size,0,none⟩ a9,tu _ _ ⟨w.heap.size,0,none⟩ a9,tu _ _ ⟨w.heap.size,0,none⟩ a9];simp);have st:=setN t ⟨w.heap.size+1+1+1+1+1,0,none⟩ c u ((((((w.alloc (.cells #[.pointer (some t)] 108)).alloc (.cells #[.pointer (some ⟨1,108,none⟩),.pointer (some ⟨w.heap.size,0,none⟩),.int .u64 150] 159)).alloc (.cells #[.pointer (some ⟨1,108,none⟩),.pointer (some ⟨w.heap.size,0,none⟩),.int .u64 150] 159)).alloc (.cells #[.string s,.iface 115 (.agg #[.int .i64 c,.int .i64 k])] 145)).alloc (.cells #[.int .i64 c,.int .i64 k] 115)).alloc (.cells #[.int .i64 c] 66))
  (by rw[tY _ _ _ _ b6];rfl)
  (by rw[tu _ _ t a9,tu _ _ t a9,tu _ _ t a9,tu _ _ t a9,tu _ _ t a9,tu _ _ t o];exact j)
  (by rw[tC _ _ t a9,tC _ _ t a9,tC _ _ t a9,tC _ _ t a9,tC _ _ t a9,tC _ _ t (Un o)];exact A)
 go_enter func47,ntmps47
 go_wp2;refine To 3 ?_;rw[Ta]
 go_wp2;rw[Ta]
 go_wp2;rw[Ta]
 go_wp2;go_ret;exact⟨rfl,rfl⟩
end As
namespace As
open Go.RowKit Go.Extern.Stop Go.Stop Go.Extern
def as_DF(s:ByteArray)(c k:Int)(T:Nat)(w:World)(u:w.cell? ⟨0,0,none⟩=some (.iface 190 (.agg #[.pointer (some ⟨1,41,none⟩)])))(A:(w.cell? ⟨T,0,none⟩).isSome=true)(Q:(w.cell? ⟨T,1,none⟩).isSome=true)(C:w.frozen? ⟨T,0,none⟩=false)(E:w.frozen? ⟨T,1,none⟩=false):
 Calls xt 47 #[.iface 145 (.agg #[.string s,.iface 115 (.agg #[.int .i64 c,.int .i64 k])]),.iface 167 (.pointer (some ⟨T,0,none⟩))] w λev U=>ev=.returned (.bool true)/\U=(((((w.alloc (.cells #[.pointer (some ⟨T,0,none⟩)] 167)).alloc (.cells #[.pointer (some ⟨1,167,none⟩),.pointer (some ⟨w.heap.size,0,none⟩),.int .u64 150] 159)).alloc (.cells #[.pointer (some ⟨1,167,none⟩),.pointer (some ⟨w.heap.size,0,none⟩),.int .u64 150] 159)).alloc (.cells #[.string s,.iface 115 (.agg #[.int .i64 c,.int .i64 k])] 145)).alloc (.cells #[.int .i64 c,.int .i64 k] 115)).setCells T 0 [.int .i64 c,.int .i64 k]:=by
 have h6:=λa w=>xt0 a w;have h7:=λa w=>xt1 a w;have h8:=λa w=>xt2 a w;have J:=λa w=>xt3 a w;have L:=λa w=>xt4 a w;have M:=λa w=>xt5 a w;have G:=λa w=>xt6 a w;have K:=λa w=>xt7 a w;have H:=λa w=>xt8 a w;have I:=λa w=>xt9 a w;have tO:=typeOfF;have tD:=typeOfD;have V:=assignableDF;have mD:=methodUnwrapD;have nD:=noAsD;have hD:=hasUwD;have mA:=methodAssignableTo;have a25:=assignableF;have S:=valueOfF;have Y:=valueOfFp;have Z:=typeFp;have mK:=methodKind;have mE:=methodElem;have mI:=methodImplements;have P:=kindFp;have k25:=kindF;have B:=elemFp;have O:=implementsF;have n8:=isNilFp ⟨w.heap.size,0,none⟩ ⟨T,0,none⟩ ((w.alloc (.cells #[.pointer (some ⟨T,0,none⟩)] 167)).alloc (.cells #[.pointer (some ⟨1,167,none⟩),.pointer (some ⟨w.heap.size,0,none⟩),.int .u64 150] 159)) b6;have o:0<w.heap.size:=by
  rcases Wl w.heap.size with F|h
  .simp[World.cell?,F]at u
  .exact h
 have N:((w.alloc (.cells #[.pointer (some ⟨T,0,none⟩)] 167)).alloc (.cells #[.pointer (some ⟨1,167,none⟩),.pointer (some ⟨w.heap.size,0,none⟩),.int .u64 150] 159)).cell? ⟨0,0,none⟩=some (.iface 190 (.agg #[.pointer (some ⟨1,41,none⟩)])):=by rw[tu _ _ ⟨0,0,none⟩ b6,tu _ _ ⟨0,0,none⟩ o];exact u
 have j:T<w.heap.size:=by
  rcases wL T w.heap.size with h|h
  .exact h
  .simp[World.cell?,W9 h]at A
 have X:=elemVFp ⟨w.heap.size,0,none⟩ ⟨T,0,none⟩ ((((w.alloc (.cells #[.pointer (some ⟨T,0,none⟩)] 167)).alloc (.cells #[.pointer (some ⟨1,167,none⟩),.pointer (some ⟨w.heap.size,0,none⟩),.int .u64 150] 159)).alloc (.cells #[.pointer (some ⟨1,167,none⟩),.pointer (some ⟨w.heap.size,0,none⟩),.int .u64 150] 159)).alloc (.cells #[.string s,.iface 115 (.agg #[.int .i64 c,.int .i64 k])] 145)) (by rw[tu _ _ ⟨w.heap.size,0,none⟩ a9,tu _ _ ⟨w.heap.size,0,none⟩ a9];simp);have st:=setF T (w.heap.size+1+1+1+1) c k (((((w.alloc (.cells #[.pointer (some ⟨T,0,none⟩)] 167)).alloc (.cells #[.pointer (some ⟨1,167,none⟩),.pointer (some ⟨w.heap.size,0,none⟩),.int .u64 150] 159)).alloc (.cells #[.pointer (some ⟨1,167,none⟩),.pointer (some ⟨w.heap.size,0,none⟩),.int .u64 150] 159)).alloc (.cells #[.string s,.iface 115 (.agg #[.int .i64 c,.int .i64 k])] 145)).alloc (.cells #[.int .i64 c,.int .i64 k] 115))
  (by rw[tY _ _ _ _ b6];rfl)
  (by rw[tY _ _ _ _ b6];rfl)
  (by rw[tu _ _ ⟨T,0,none⟩ a9,tu _ _ ⟨T,0,none⟩ a9,tu _ _ ⟨T,0,none⟩ a9,tu _ _ ⟨T,0,none⟩ a9,tu _ _ ⟨T,0,none⟩ j];exact A)
  (by rw[tu _ _ ⟨T,1,none⟩ a9,tu _ _ ⟨T,1,none⟩ a9,tu _ _ ⟨T,1,none⟩ a9,tu _ _ ⟨T,1,none⟩ a9,tu _ _ ⟨T,1,none⟩ j];exact Q)
  (by rw[tC _ _ ⟨T,0,none⟩ a9,tC _ _ ⟨T,0,none⟩ a9,tC _ _ ⟨T,0,none⟩ a9,tC _ _ ⟨T,0,none⟩ a9,tC _ _ ⟨T,0,none⟩ (Un j)];exact C)
  (by rw[tC _ _ ⟨T,1,none⟩ a9,tC _ _ ⟨T,1,none⟩ a9,tC _ _ ⟨T,1,none⟩ a9,tC _ _ ⟨T,1,none⟩ a9,tC _ _ ⟨T,1,none⟩ (Un j)];exact E)
 go_enter func47,ntmps47
 go_wp2;refine To 2 ?_;rw[Ta]
 go_wp2;rw[Ta]
 go_wp2;go_ret;exact⟨rfl,rfl⟩
end As
namespace As
open Go.RowKit Go.Extern.Stop Go.Stop Go.Extern
def noIsF(v:Value)(j:TypeId)(w:World):(Instr.typeAssert (.iface 115 v) j 192 true).run xt w=.ok (.tuple #[.nilIface,.bool false]) w:=t8 underlying192 dL dL v j w
def methodComparable(h:Value)(w:World):(Go.method 421 190 (.agg #[h]) "Comparable").run xt w=.ok (244,.agg #[h]) w:=dL
def eqFN(x y:Value)(w:World):(binOp .eql 41 (.iface 115 x) (.iface 66 y)).run xt w=.ok (.bool false) w:=dL
def comparableN(w:World):(ReflectliteType.method (λt=>do Rtype.noPackHeld "Comparable" t;(λa:TypeInfo=>Value.bool a.comparable) <$> typeInfo t) #[.agg #[.pointer (some ⟨1,66,none⟩)]]).run xt w=.ok (.bool true) w:=dL
end As
section
open Go.RowKit
structure Keep(S:Nat->Prop)(A B:World):Prop where
 os:B.os=A.os
 tape:B.tape=A.tape
 output:B.output=A.output
 size:A.heap.size<=B.heap.size
 block:∀k,k<A.heap.size->¬S k->B.heap[k]?=A.heap[k]?
namespace Keep
variable {S S':Nat->Prop}{A B C:World}
def refl(S:Nat->Prop)(A:World):Keep S A A:=⟨rfl,rfl,rfl,Zp _,λ_ _ _=>rfl⟩
def trans(h:Keep S A B)(k:Keep S B C):Keep S A C:=
 ⟨k.os.trans h.os,k.tape.trans h.tape,k.output.trans h.output,V0 h.size k.size,λi hi hs=>(k.block i (vw hi h.size) hs).trans (h.block i hi hs)⟩
def mono(h:Keep S A B)(hs:∀k,k<A.heap.size->S k->S' k):Keep S' A B:=⟨h.os,h.tape,h.output,h.size,λi hi j=>h.block i hi λe=>j (hs i hi e)⟩
def drew(h:Keep S A B):Keep S A B.drew:=⟨h.os,h.tape,h.output,h.size,h.block⟩
def alloc(h:Keep S A B)(o:Obj):Keep S A (B.alloc o):=
 h.trans ⟨rfl,rfl,rfl,b6,λk hk _=>tw _ _ _ hk⟩
def setCell(h:Keep S A B){p:Addr}(j:p.block<A.heap.size->S p.block)(u:Value):Keep S A (B.setCell p u):=
 ⟨h.os,h.tape,h.output,by show A.heap.size<=(B.heap.modify _ _).size;rw[Array.size_modify];exact h.size,λk hk hs=>(tz _ _ _ _ (λe=>hs (by rw[e];exact j (by rw[<-e];exact hk)))).trans (h.block k hk hs)⟩
def putObj(h:Keep S A B){l:Nat}(j:l<A.heap.size->S l)(o:Obj):Keep S A (B.putObj l o):=
 ⟨h.os,h.tape,h.output,dK h.size,λk hk hs=>(tQ (λe=>hs (by rw[e];exact j (by rw[<-e];exact hk)))).trans (h.block k hk hs)⟩
def grown{o:Option Nat}(h:Keep S A B)(j:B.grownBy C o)(u:∀k,o=some k->k<A.heap.size->S k):Keep S A C:=
 ⟨j.os.trans h.os,j.tape.trans h.tape,j.output.trans h.output,V0 h.size j.size,λk hk hs=>(j.block k (vw hk h.size) (λe=>hs (u k e.symm hk))).trans (h.block k hk hs)⟩
def below{n:Nat}(h:Keep S A B)(j:n<=A.heap.size)(hs:∀k,k<n->¬S k):Below n A B:=
 ⟨h.os,h.tape,h.output,h.size,λk hk=>h.block k a8 (hs k hk)⟩
def of_below{n:Nat}(h:Below n A B):Keep (λk=>n<=k) A B:=⟨h.os,h.tape,h.output,h.size,λk _ hs=>h.block k a8⟩
def of_below'{n:Nat}(h:Below n A B)(j:A.heap.size<=n):Keep S A B:=⟨h.os,h.tape,h.output,h.size,λk hk _=>h.block k a8⟩
def cell(h:Keep S A B){p:Addr}(j:p.block<A.heap.size)(hs:¬S p.block):B.cell? p=A.cell? p:=tp (h.block _ j hs)
def frozen(h:Keep S A B){p:Addr}(j:p.block<A.heap.size)(hs:¬S p.block):B.frozen? p=A.frozen? p:=TG (h.block _ j hs)
def cell_some(h:Keep S A B){p:Addr}{v:Value}(j:A.cell? p=some v)(hs:¬S p.block):B.cell? p=some v:=(h.cell (tr A p j) hs).trans j
def boxed(h:Keep S A B){b:Nat}{t:TypeId}{v:Value}(j:Boxed A b t v)(hs:¬S b):Boxed B b t v:=(h.block b j.lt hs).trans j
def obj(h:Keep S A B){b:Nat}{o:Obj}(j:A.heap[b]?=some o)(hs:¬S b):B.heap[b]?=some o:=(h.block b (Yf.1 j).1 hs).trans j
def ownsRow(h:Keep S A B){base:Nat}{e:TypeId}{size:Nat}{v:Value}{n:Nat}{C:List Value}(w:A.ownsRow base e size v n C)(hs:∀g,v.ownBlock=some g->¬S g):B.ownsRow base e size v n C:=by
 refine⟨w.1,?_⟩;rcases w.2 with E|⟨g,j,o,rfl,hb,u,rest⟩
 .exact .inl E
 .exact .inr ⟨g,j,o,rfl,hb,h.obj u (hs g rfl),rest⟩
end Keep
def zbY{α:Type}(P:Program)(F:Nat)(G:Array Value)(o:α->Array Value)(T E:Nat->Prop)(C:List α)(W:World):Prop:=
 ∀(l:Nat)(J u:List α->World->Prop),
  (∀pre A B,J pre A->Keep T A B->J pre B)->(∀pre A B,u pre A->Keep T A B->u pre B) ->
  (∀pre x w,J pre w->pre++[x] <+: C->YieldAt Fence.wide 7 P l (o x) w λe j=>
    (e=.returned (.bool true)/\J (pre++[x]) j/\Keep (λk=>¬E k) w j)\/(e=.returned (.bool false)/\u (pre++[x]) j)) ->
  J [] W ->
  CallsIn Fence.wide 8 P F (#[.func (.yield l) #[] #[]]++G) W λe j=>(∃v,e=.returned v)/\(J C j\/∃pre,pre <+: C/\u pre j)
def ziO{α:Type}(Sb:Nat->Prop)(I:List α->World->Prop)(o:Code->List α->World->Prop)(j:List α)(W:World):Exit->Act->World->Prop
 |.normal,_,W'=>Keep Sb W W'/\I j W'
 |.ret,_,W'=>Keep Sb W W'/\o .ret j W'
 |.exit id,_,W'=>Keep Sb W W'/\o (.exit id) j W'
 |.goto t,_,W'=>Keep Sb W W'/\o (.goto t) j W'
 |.panic _,_,_=>False
 |.outgrown,_,_=>False
def ziP{α:Type}{P:Program}{g:Operand}{ps:Array Tmp}{assign body:Code}{Q:Exit->Act->World->Prop}{a:Act}{w:World}
 (gf:Nat) (lb:Array Value) (hg:a.eval g=.func (.func gf) #[] lb) (eg:∀ad w,(callFunc gf ad).run P w=.ok (.enter gf ad) w)
 (K:α->Array Value) (aF:∀x,(K x).size=ps.size) (T Pr:Nat->Prop) (xs:List α)
 (aC:∀W,Keep (λ_=>False) w W->W.heap.size=w.heap.size+2->zbY P gf lb K T Pr xs W)
 (Sb:Nat->Prop) (M:∀k,Sb k->¬Pr k/\k≠w.heap.size/\k≠w.heap.size+1)
 (ae:¬Pr (w.heap.size+1)) (ab:¬T w.heap.size/\¬T (w.heap.size+1))
 (I:List α->World->Prop) (Ix:Code->List α->World->Prop)
 (hI:∀pre A B,I pre A->Keep (λk=>T k\/k=w.heap.size\/k=w.heap.size+1) A B->I pre B)
 (S:∀c pre A B,Ix c pre A->Keep (λk=>T k\/k=w.heap.size\/k=w.heap.size+1) A B->Ix c pre B)
 (h0:I [] w)
 (Ax:List α->α->Act->World->Prop)
 (ar:∀pre x a' A B,Ax pre x a' A->Keep (λk=>k=w.heap.size+1) A B->Ax pre x a' B)
 (V:∀l pre x W,pre++[x] <+: xs->w.heap.size+1<W.heap.size->I pre W ->
   assign.wpIn (Fence.wide.inRound l) 7 P (Exit.then (λa' W'=>Keep Sb W W'/\Ax pre x a' W') (λ_ _ _=>False)) { tmps:=(ps.zip (K x)).foldl (λt (p,v)=>t.setIfInBounds p v) a.tmps,defers:=[] } W)
 (ag:∀l pre x a' W,pre++[x] <+: xs->w.heap.size+1<W.heap.size->Ax pre x a' W->body.wpIn (Fence.wide.inRound l) 7 P (ziO Sb I Ix (pre++[x]) W) a' W)
 (ah:∀W,I xs W->W.heap[w.heap.size]?=some (.deferred (some []))->Q .normal { a with defers:={ target:=.collected w.heap.size,args:=#[] }::a.defers } W)
 (ak:∀c pre W,pre <+: xs->Ix c pre W->W.heap[w.heap.size]?=some (.deferred (some []))->c.wpIn Fence.wide 9 P Q { a with defers:={ target:=.collected w.heap.size,args:=#[] }::a.defers } W) :
 (Code.rangeFunc g ps assign body).wpIn Fence.wide 9 P Q a w:=by
 refine wpIn_rangeFunc ?_;intro fn aB;rw[show Fence.wide.round=none from rfl];obtain⟨u,j⟩:∃u:LoopState->Option Code->Loop,u=λst pe=>{ state:=st,pending:=pe,fn,tmps:=a.tmps,params:=ps,assign,body,defers:=w.heap.size }:=⟨_,rfl⟩;obtain⟨N,U⟩:=xn ((w.alloc (.deferred (some []))).alloc (.loop (u .ready none)));have aw:N.heap[w.heap.size+1]?=some (.loop (u .ready none)):=by
  rw[<-U];have:=tq (w.alloc (.deferred (some []))) (.loop (u .ready none));rwa[tx]at this
 have av:N.heap[w.heap.size]?=some (.deferred (some [])):=by rw[<-U];exact(tw _ _ _ b6).trans (tq w _)
 have am:Keep (λ_=>False) w N:=by rw[<-U];exact((Keep.refl _ _).alloc _).alloc _
 have aG:N.heap.size=w.heap.size+2:=by rw[<-U];simp
 have au:I [] N:=hI _ _ _ h0 (am.mono λ_ _ h=>h.elim);refine⟨w.heap.size+1,[{ target:=.collected w.heap.size,args:=#[] }],N,{ target:=.fn (.func gf) lb,args:=#[.func (.yield (w.heap.size+1)) #[] #[]] },N,gf,
  #[.func (.yield (w.heap.size+1)) #[] #[]]++lb,N,?_,?_,?_,?_,λ_=>a8,?_⟩
 .rw[<-U,j];exact run_enterLoop_outer _ _ _ _ _
 .simp only[resolve,hg];simp[go_sem]
 .intro f' _;trivial
 .simp[invoke,go_sem,eg]
 .refine(aC N am aG (w.heap.size+1)
   (λpre W=>I pre W/\W.heap[w.heap.size+1]?=some (.loop (u .ready none))/\W.heap[w.heap.size]?=some (.deferred (some [])))
   (λpre W=>∃c,Ix c pre W/\W.heap[w.heap.size+1]?=some (.loop (u .done (some c)))/\W.heap[w.heap.size]?=some (.deferred (some [])))
   ?_ ?_ ?_ ⟨au,aw,av⟩).mono ?_
  .rintro pre A B ⟨hi,Y,hk⟩ h;exact⟨hI _ _ _ hi (h.mono λ_ _ e=>.inl e),h.obj Y ab.2,h.obj hk ab.1⟩
  .rintro pre A B ⟨c,hi,Y,hk⟩ h;exact⟨c,S _ _ _ _ hi (h.mono λ_ _ e=>.inl e),h.obj Y ab.2,h.obj hk ab.1⟩
  .rintro pre x W ⟨hi,Y,hk⟩ aq;have aE:w.heap.size+1<W.heap.size:=(Yf.1 Y).1;have hy:=run_yield (P:=P) (args:=K x) Y (by rw[j];exact aF x);rw[j]at hy;refine⟨fn,_,assign,body,hy,roundIn_of_wpIn aB (wpIn_mono (V _ pre x W aq aE hi) ?_)⟩;intro e a1 Wa he;cases e with
   | normal=>
     obtain⟨ai,ax⟩:=he;have an:Wa.heap[w.heap.size+1]?=some (.loop (u .ready none)):=ai.obj Y λh=>(M _ h).2.2 rfl;have aA:Wa.heap[w.heap.size]?=some (.deferred (some [])):=ai.obj hk λh=>(M _ h).2.1 rfl;have af:w.heap.size+1<Wa.heap.size:=(Yf.1 an).1;refine⟨_,run_beginRound an (by rw[j]),?_⟩;obtain⟨Z,ac⟩:=xn (Wa.putObj (w.heap.size+1) (.loop { u .ready none with state:=.busy }));rw[ac];have X:Keep (λk=>k=w.heap.size+1) Wa Z:=(by rw[<-ac];exact(Keep.refl (λk=>k=w.heap.size+1) Wa).putObj (λ_=>rfl) _);have aD:Z.heap[w.heap.size+1]?=some (.loop { u .ready none with state:=.busy }):=(by rw[<-ac];exact Tp af);have ay:Z.heap[w.heap.size]?=some (.deferred (some [])):=X.obj aA a8;refine wpIn_mono (ag _ pre x a1 Z aq (by rw[<-ac];simpa using af) (ar _ _ _ _ _ ax X)) ?_;have fin:∀(C:Option Code)(O:World),Keep Sb Z O->∃W4,
      (Instr.endRound (w.heap.size+1) C).run P O=.ok (.bool C.isNone) W4 /\
      W4.heap[w.heap.size+1]?=some (.loop (u (if C.isNone then .ready else .done) C)) /\
      W4.heap[w.heap.size]?=some (.deferred (some []))/\Keep (λk=>k=w.heap.size+1) O W4/\Keep (λk=>¬Pr k) W W4:=λC O o=>by
      have aj:=o.obj aD λh=>(M _ h).2.2 rfl;have az:=o.obj ay λh=>(M _ h).2.1 rfl;have E:=run_endRound (P:=P) C aj;rw[j]at E aj⊢;refine⟨_,E,Tp (Yf.1 aj).1,(tQ a8).trans az,(Keep.refl (λk=>k=w.heap.size+1) O).putObj (λ_=>rfl) _,?_⟩;have e1:Keep (λk=>¬Pr k) W Wa:=ai.mono λk _ h=>(M k h).1;have e2:Keep (λk=>¬Pr k) Wa Z:=X.mono λk _ h=>(by cases h;exact ae);have e3:Keep (λk=>¬Pr k) Z O:=o.mono λk _ h=>(M k h).1;exact(((e1.trans e2).trans e3)).putObj (λ_=>ae) _
     rintro e a3 O hp;cases e with
     |normal=>obtain⟨o,G⟩:=hp;obtain⟨W4,E,J,F,H,L⟩:=fin none O o;exact⟨_,_,E,.inl ⟨rfl,⟨hI _ _ _ G (H.mono λ_ _ e=>.inr (.inr e)),J,F⟩,L⟩⟩
     |ret=>obtain⟨o,G⟩:=hp;obtain⟨W4,E,J,F,H,L⟩:=fin (some .ret) O o;exact⟨_,_,E,.inr ⟨rfl,.ret,S _ _ _ _ G (H.mono λ_ _ e=>.inr (.inr e)),J,F⟩⟩
     |exit id=>obtain⟨o,G⟩:=hp;obtain⟨W4,E,J,F,H,L⟩:=fin (some (.exit id)) O o;exact⟨_,_,E,.inr ⟨rfl,.exit id,S _ _ _ _ G (H.mono λ_ _ e=>.inr (.inr e)),J,F⟩⟩
     |goto t=>obtain⟨o,G⟩:=hp;obtain⟨W4,E,J,F,H,L⟩:=fin (some (.goto t)) O o;exact⟨_,_,E,.inr ⟨rfl,.goto t,S _ _ _ _ G (H.mono λ_ _ e=>.inr (.inr e)),J,F⟩⟩
     |panic ch=>exact hp.elim
     |outgrown=>exact hp.elim
   |ret=>exact he.elim
   |exit id=>exact he.elim
   |goto t=>exact he.elim
   |panic ch=>exact he.elim
   |outgrown=>exact he.elim
  .rintro e Z ⟨⟨v,rfl⟩,(⟨hi,Y,hk⟩|⟨pre,ao,c,hi,Y,hk⟩)⟩
   .have E:=T3 (P:=P) Y (by rw[j];simp);refine⟨none,_,by rw[j]at E;exact E,ah _ (hI _ _ _ hi ((Keep.refl _ _).putObj (λ_=>.inr (.inr rfl)) _)) ((tQ a8).trans hk)⟩
   .have E:=T3 (P:=P) Y (by rw[j];simp);refine⟨some c,_,by rw[j]at E;exact E,ak c pre _ ao (S _ _ _ _ hi ((Keep.refl _ _).putObj (λ_=>.inr (.inr rfl)) _)) ((tQ a8).trans hk)⟩
end
section
open Go.RowKit
abbrev VP:=Value->World->Prop
abbrev qe:Nat->Prop:=λ_=>False
def zJ(ops:Array Oper)(j:Nat):Option Tmp:=(ops[j]?).bind (·.dst)
def edge(ops:Array Oper)(i j:Nat):Bool:=match ops[i]? with|some o=>o.after.any λe=>Region.binds .any e && e.on == j|none=>false
def zA(o:Oper):List Tmp:=o.op.operands.toList.filterMap λ| .tmp t=>some t|_=>none
def RdEq(a:Act)(t:Tmp)(u:Value):Prop:=a.eval (.tmp t)=u/\a.tmps.getD t undef=u/\a.tmps[t]?.getD undef=u
def RdEq.of{a:Act}{t:Tmp}{u:Value}(h:a.tmps.getD t undef=u):RdEq a t u:=⟨h,h,by rw[<-h];simp⟩
def XG(ops:Array Oper)(nh:Nat)(t:Tmp):Option Nat:=(List.range nh).find? λj=>zJ ops j == some t
def yB(ops:Array Oper)(nh i:Nat)(t:Tmp):Bool:=
 match XG ops nh t with
 |some j=>if j<i then edge ops i j else if i<j then edge ops j i else true
 |none=>true
def xk(ops:Array Oper)(nh u:Nat):Bool:=
 decide (nh<=ops.size) &&
 (List.range nh).all λi=>
   match ops[i]? with
   |none=>false
   | some o=>((zA o).all (yB ops nh i)) &&
     (match o.guard with|none=>true|some (j,_)=>decide (j<i) && edge ops i j && (zJ ops j).isSome) &&
     (match o.dst with|none=>true|some d=>decide (d<u) && (List.range nh).all λj=>decide (j=i) || !(zJ ops j == some d)) &&
     (decide (nh=ops.size) || (List.range (nh+1)).any λj=>decide (i<j) && edge ops j i)
def yK(ops:Array Oper)(nh:Nat):Bool:=(List.range ops.size).all λt=>(decide (t<=nh) || edge ops t (t-1)) && match ops[t]? with|some o=>o.after.all λe=>!Region.binds .any e || decide (e.on<t)|none=>false
section
variable {ops:Array Oper}{nh:Nat}
def Z1{i j:Nat}{o:Oper}(ho:ops[i]?=some o):edge ops i j=true↔∃e∈o.after,Region.binds .any e=true/\e.on=j:=by
 unfold edge;simp only[ho];rw[Array.any_eq_true'];constructor
 .rintro⟨e,u,hb⟩;simp only[VS,tk]at hb;exact⟨e,u,hb.1,hb.2⟩
 .rintro⟨e,u,hb,rfl⟩;exact⟨e,u,by simp[hb]⟩
def zx{j:Array Bool}{i:Nat}(h:j.getD i true=false):j.getD i false=false/\i<j.size:=by
 rcases wL i j.size with o|o
 .simp[o]at h⊢;exact h
 .simp[W9 o]at h
def zfm{j:Array Bool}{i:Nat}(h:j.getD i false=false)(hi:i<j.size):j.getD i true=false:=by simp[hi]at h⊢;exact h
def zl{j:Array Bool}{i:Nat}(hi:i<j.size):(j.setIfInBounds i true).getD i false=true:=by simp[hi]
def zj{o:Array Bool}{i j:Nat}(h:j≠i):(o.setIfInBounds i true).getD j false=o.getD j false:=by simp[uk (Ug h)]
def yh{a:Act}{d:Tmp}{u:Value}(h:d<a.tmps.size):(a.put (some d) u).tmps.getD d undef=u:=by simp[Act.put,h]
def qn{a:Act}{d t:Tmp}{u:Value}(h:t≠d):(a.put (some d) u).tmps.getD t undef=a.tmps.getD t undef:=by simp[Act.put,uk (Ug h)]
def chk_at{E i:Nat}(h:xk ops nh E=true)(hi:i<nh):∃o,ops[i]?=some o/\(∀t∈zA o,yB ops nh i t=true) /\
 (∀j b,o.guard=some (j,b)->j<i/\edge ops i j=true/\(zJ ops j).isSome)/\(∀d,o.dst=some d->d<E/\∀j,j<nh->zJ ops j=some d->j=i) /\
 (nh=ops.size\/∃j,j<=nh/\i<j/\edge ops j i=true):=by
 unfold xk at h;simp only[VS,wN,WS]at h;have h:=h.2 i hi;cases ho:ops[i]? with
 |none=>simp[ho]at h
 | some o=>
   simp only[ho,VS,wN,WT,wG,Uy,WS]at h;obtain⟨⟨⟨F,u⟩,w⟩,A⟩:=h;refine⟨o,rfl,F,?_,?_,?_⟩
   .intro j b J;simp only[J,VS,wG]at u;exact⟨u.1.1,u.1.2,u.2⟩
   .intro d I;simp only[I,VS,wG,wN,WS,WT,Wo,ue]at w;exact⟨w.1,λj C e=>(w.2 j C).resolve_right λB=>B e⟩
   .rcases A with A|⟨j,C,G,H⟩
    .exact .inl A
    .exact .inr ⟨j,a8,G,H⟩
def xf{t:Tmp}{j:Nat}(h:XG ops nh t=some j):j<nh/\zJ ops j=some t:=by have o:=List.find?_some h;have u:=uG h;simp at o u;exact⟨u,o⟩
def jw{t:Tmp}{j:Nat}(u:j<nh)(h:zJ ops j=some t):∃o,XG ops nh t=some o:=by
 cases hw:XG ops nh t with
 |some o=>exact⟨o,rfl⟩
 |none=>have:=Uj.1 hw j (dK u);simp[h]at this
def Act.ext'{a b:Act}(hs:a.tmps.size=b.tmps.size)(o:a.defers=b.defers)(h:∀t,t<b.tmps.size->a.tmps.getD t undef=b.tmps.getD t undef):a=b:=by
 obtain⟨w,B⟩:=a;obtain⟨A,db⟩:=b;simp only at hs o h;subst o;have:w=A:=Array.ext hs λi u j=>by have:=h i j;simpa[u,j]using this
 rw[this]
def yS{j:Nat}{d:Tmp}{tmps:Array Value}(o:zJ ops j=some d)(hs:d<tmps.size):yielded ops tmps j=match tmps.getD d undef with|.bool b=>some b|_=>none:=by
 unfold yielded;unfold zJ at o;rw[o];simp only[Option.bind_some,Wg hs,wC,WW];split<;>simp_all
def qP{t:Nat}(h:yK ops nh=true)(ht:t<ops.size):(t<=nh\/edge ops t (t-1)=true)/\∀j,edge ops t j=true->j<t:=by
 unfold yK at h;rw[wN]at h;have h:=h t (dK ht);simp only[VS,WT,wG]at h;refine⟨h.1,λj A=>?_⟩;have u:=h.2;cases ho:ops[t]? with
 |none=>simp[ho]at u
 |some o=>simp only[ho,Array.all_eq_true']at u;obtain⟨e,w,hb,rfl⟩:=(Z1 ho).1 A;have:=u e w;simpa[hb]using this
def zo{i:Nat}{u:Array Bool}(h:i∈Region.ready .any ops u):u.getD i true=false/\i<ops.size/\(∃o,ops[i]?=some o)/\∀j,edge ops i j=true->u.getD j false=true:=by obtain⟨w,o,ho,A⟩:=mem_ready.1 h;refine⟨w,(Yf.1 ho).1,⟨o,ho⟩,λj C=>?_⟩;obtain⟨e,B,hb,rfl⟩:=(Z1 ho).1 C;exact A e B hb
def zd1{i:Nat}{u:Array Bool}{o:Oper}(ho:ops[i]?=some o)(w:u.getD i true=false)(A:∀j,edge ops i j=true->u.getD j false=true):i∈Region.ready .any ops u:=
 mem_ready.2 ⟨w,o,ho,λe B hb=>A _ ((Z1 ho).2 ⟨e,B,hb,rfl⟩)⟩
def qh{o:Array Bool}(w:yK ops nh=true)(hs:o.size=ops.size):∀(i:Nat),i<ops.size->o.getD i false=false->∃k,k∈Region.ready .any ops o:=by
 intro i;induction i using Nat.strongRecOn with
 | _ i ih=>
   intro hi B;by_cases u:∀j,edge ops i j=true->o.getD j false=true
   .exact⟨i,zd1 (Wg hi) (zfm B a8) u⟩
   .have:∃j,edge ops i j=true/\o.getD j false=false:=by
     apply wV;intro C;refine u λj A=>?_;cases h:o.getD j false with
     |true=>rfl
     |false=>exact absurd ⟨j,A,h⟩ C
    obtain⟨j,A,E⟩:=this;have:=(qP w hi).2 j A;exact ih j this a8 E
def qM:∀(l S:List Nat),l.Nodup->l⊆S->l.length<=S.length
 |[],_,_,_=>X3 _
 |x::l,S,hn,hs=>by have j:x∈S:=hs b6;have u:l⊆S.erase x:=λy o=>(W6 (λe=>(UH.1 hn).1 (by rw[<-e];exact o))).2 (hs (by simp[o]));have:=qM l (S.erase x) (UH.1 hn).2 u;rw[WI j]at this;have:=uj j;simp;omega
end
structure Hd(p:Prop):Prop where
 h:p
end
end Go.Proofs.YtmpnbdhadjfbhaaGreatDoor
