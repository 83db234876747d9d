import Derived.LaidEql
import Derived.Stop.Asserts
import Derived.RowKitTokens
import Derived.Laws.Cells
import Derived.Laws.IdiomCopy
import Derived.WalkMore
import Derived.Sort.Walk7a
import Derived.Sort.WalkB12
import Derived.Test.YtmpnbdhadjfbhaaGreatDoorB1
import Derived.Test.YtmpnbdhadjfbhaaGreatDoorB9
set_option maxHeartbeats 16000000
set_option linter.all false
set_option maxRecDepth 100000
namespace Go.Proofs.YtmpnbdhadjfbhaaGreatDoor
def tq:=@Go.World.cell?_alloc_lt
def tA:=@Go.World.frozen?_alloc_old
def tL:=@Go.run_callFunc_extern
def tM:=@Go.Sort.holds_ahead
def tQ:=@Go.Sort.size_swp
def tV:=@Go.World.cell?_alloc_at
def tX:=@Go.run_typeAssert_lacksB
def tY:=@Go.rounds_succ
def Ta:=@Go.Sort.putRow_self
def Td:=@Go.wpList_append_own_at
def Te:=@Go.Sort.holds_putRow
def Tj:=@Go.wp_loop_rounds
def TS:=@Go.bits_xor_u64_nat
def TU:=@Go.wpList_plain
open Go.Proofs.Tryz
open Go.Proofs.Tryz renaming prog->xT
namespace As
open Go.RowKit Go.Extern.Stop Go.Stop Go.Extern
def methodKind(h:Value)(w:World):(Go.method 421 190 (.agg #[h]) "Kind").run xT w=.ok (232,h) w:=dK
def methodElem(h:Value)(w:World):(Go.method 421 190 (.agg #[h]) "Elem").run xT w=.ok (245,.agg #[h]) w:=dK
def methodImplements(h:Value)(w:World):(Go.method 421 190 (.agg #[h]) "Implements").run xT w=.ok (246,.agg #[h]) w:=dK
def methodAssignableTo(h:Value)(w:World):(Go.method 421 190 (.agg #[h]) "AssignableTo").run xT w=.ok (243,.agg #[h]) w:=dK
def methodUnwrap(c k:Int)(w:World):(Go.method 421 115 (.agg #[.int .i64 c,.int .i64 k]) "Unwrap").run xT w=.ok (236,.agg #[.int .i64 c,.int .i64 k]) w:=dK
def rlm(z:Sem Value)(f:TypeId->Addr->Nat->Nat->Sem Value)(v:Value):
 ReflectliteValue.method z f #[v]=(do match <-ReflectliteValue.parts v with|none=>z|some (t,a,fl)=>f t a fl (fl%32)):=rfl
def rls(v x:Value):ReflectliteValue.set #[v,x]=(do
 let (some (dst,a,fl),some (src,b,_)):=(<-ReflectliteValue.parts v,<-ReflectliteValue.parts x)
  |unsupported (.noEntry "extern/(internal/reflectlite.Value).Set.zeroValue")
 if fl/ReflectliteValue.flagAddr%2 == 0 then unsupported (.noEntry "extern/(internal/reflectlite.Value).Set.unaddressable")
 let val <-loadVar src b
 if <-Rtype.directlyAssignable dst src then storeVar dst a val
 else if <-Rtype.implements dst src then
  if (<-Rtype.kind src) == 20 then
   match val with
   |.nilIface=>unsupported (.noEntry "extern/reflectlite: a nil value of one interface type handed on as a value of another")
   |_=>storeVar dst a val
  else storeVar dst a (.iface src val)
 else panicString ("reflectlite.Set: value of type " ++ (<-Rtype.spelt src) ++ " is not assignable to type " ++ (<-Rtype.spelt dst))
 pure (.tuple #[])):=rfl
def valueOfNp(t:Addr)(w:World):(ReflectliteValue.unpack (.iface 108 (.pointer (some t)))).run xT w
 = .ok (.agg #[.pointer (some ⟨1,108,none⟩),.pointer (some ⟨w.heap.size,0,none⟩),.int .u64 150]) (w.alloc (.cells #[.pointer (some t)] 108)):=dK
def typeNp(a:Addr)(w:World):(ReflectliteValue.methodAny (ReflectliteValue.valueError "reflectlite.Value.Type" 0) (λt _ _ _=>ReflectliteType.toType t) #[.agg #[.pointer (some ⟨1,108,none⟩),.pointer (some a),.int .u64 150]]).run xT w
 = .ok (.iface 190 (.agg #[.pointer (some ⟨1,108,none⟩)])) w:=dK
def kindNp(w:World):((ReflectliteType.abiMethod λt=>(λa:Nat=>Value.int IntKind.u8 (a:Int)) <$> Rtype.kind t) #[.pointer (some ⟨1,108,none⟩)]).run xT w=.ok (.int .u8 22) w:=dK
def kindN(w:World):((ReflectliteType.abiMethod λt=>(λa:Nat=>Value.int IntKind.u8 (a:Int)) <$> Rtype.kind t) #[.pointer (some ⟨1,66,none⟩)]).run xT w=.ok (.int .u8 2) w:=dK
def partsNp(a:Addr)(w:World):(ReflectliteValue.parts (.agg #[.pointer (some ⟨1,108,none⟩),.pointer (some a),.int .u64 150])).run xT w=.ok (some (108,a,150)) w:=dK
def isNilNp(a p:Addr)(W:World)(j:W.cell? a=some (.pointer (some p))):
 (ReflectliteValue.method (ReflectliteValue.valueError "reflectlite.Value.IsNil" 0) ReflectliteValue.isNil #[.agg #[.pointer (some ⟨1,108,none⟩),.pointer (some a),.int .u64 150]]).run xT W=.ok (.bool false) W:=by
 rw[rlm];simp only[tE,partsNp,Result.andThen];simp[ReflectliteValue.isNil,loadVar,isAgg,underlying,underlying108,j,Result.andThen]
def elemNp(w:World):(ReflectliteType.method ReflectliteType.elem #[.agg #[.pointer (some ⟨1,108,none⟩)]]).run xT w=.ok (.iface 190 (.agg #[.pointer (some ⟨1,66,none⟩)])) w:=dK
def implementsN(w:World):(ReflectliteType.relation "Implements" ReflectliteType.implements_ #[.agg #[.pointer (some ⟨1,66,none⟩)],.iface 190 (.agg #[.pointer (some ⟨1,41,none⟩)])]).run xT w=.ok (.bool true) w:=dK
def typeOfN(v:Value)(w:World):(ReflectliteType.typeOf #[.iface 66 v]).run xT w=.ok (.iface 190 (.agg #[.pointer (some ⟨1,66,none⟩)])) w:=dK
def assignableN(w:World):(ReflectliteType.relation "AssignableTo" ReflectliteType.assignableTo #[.agg #[.pointer (some ⟨1,66,none⟩)],.iface 190 (.agg #[.pointer (some ⟨1,66,none⟩)])]).run xT w=.ok (.bool true) w:=dK
def valueOfN(c:Int)(w:World):(ReflectliteValue.unpack (.iface 66 (.int .i64 c))).run xT w
 = .ok (.agg #[.pointer (some ⟨1,66,none⟩),.pointer (some ⟨w.heap.size,0,none⟩),.int .u64 130]) (w.alloc (.cells #[.int .i64 c] 66)):=dK
def elemOfNp(w:World):(Rtype.elem? 108).run xT w=.ok (some 66) w:=dK
def mkN(p:Addr)(w:World):(ReflectliteValue.mk 66 p ReflectliteValue.flagAddr).run xT w=.ok (.agg #[.pointer (some ⟨1,66,none⟩),.pointer (some p),.int .u64 386]) w:=dK
def elemVNp(a p:Addr)(W:World)(j:W.cell? a=some (.pointer (some p))):
 (ReflectliteValue.method (ReflectliteValue.valueError "reflectlite.Value.Elem" 0) ReflectliteValue.elem #[.agg #[.pointer (some ⟨1,108,none⟩),.pointer (some a),.int .u64 150]]).run xT W
   = .ok (.agg #[.pointer (some ⟨1,66,none⟩),.pointer (some p),.int .u64 386]) W:=by
 rw[rlm];simp only[tE,partsNp,Result.andThen];simp[ReflectliteValue.elem,loadVar,isAgg,underlying,underlying108,j,Result.andThen,elemOfNp,mkN]
def partsNa(a:Addr)(w:World):(ReflectliteValue.parts (.agg #[.pointer (some ⟨1,66,none⟩),.pointer (some a),.int .u64 386])).run xT w=.ok (some (66,a,386)) w:=dK
def partsN(a:Addr)(w:World):(ReflectliteValue.parts (.agg #[.pointer (some ⟨1,66,none⟩),.pointer (some a),.int .u64 130])).run xT w=.ok (some (66,a,130)) w:=dK
def directN(w:World):(Rtype.directlyAssignable 66 66).run xT w=.ok true w:=dK
def valueOfFp(t:Addr)(w:World):(ReflectliteValue.unpack (.iface 167 (.pointer (some t)))).run xT w
 = .ok (.agg #[.pointer (some ⟨1,167,none⟩),.pointer (some ⟨w.heap.size,0,none⟩),.int .u64 150]) (w.alloc (.cells #[.pointer (some t)] 167)):=dK
def typeFp(a:Addr)(w:World):(ReflectliteValue.methodAny (ReflectliteValue.valueError "reflectlite.Value.Type" 0) (λt _ _ _=>ReflectliteType.toType t) #[.agg #[.pointer (some ⟨1,167,none⟩),.pointer (some a),.int .u64 150]]).run xT w
 = .ok (.iface 190 (.agg #[.pointer (some ⟨1,167,none⟩)])) w:=dK
def kindFp(w:World):((ReflectliteType.abiMethod λt=>(λa:Nat=>Value.int IntKind.u8 (a:Int)) <$> Rtype.kind t) #[.pointer (some ⟨1,167,none⟩)]).run xT w=.ok (.int .u8 22) w:=dK
def kindF(w:World):((ReflectliteType.abiMethod λt=>(λa:Nat=>Value.int IntKind.u8 (a:Int)) <$> Rtype.kind t) #[.pointer (some ⟨1,115,none⟩)]).run xT w=.ok (.int .u8 25) w:=dK
def partsFp(a:Addr)(w:World):(ReflectliteValue.parts (.agg #[.pointer (some ⟨1,167,none⟩),.pointer (some a),.int .u64 150])).run xT w=.ok (some (167,a,150)) w:=dK
def isNilFp(a p:Addr)(W:World)(j:W.cell? a=some (.pointer (some p))):
 (ReflectliteValue.method (ReflectliteValue.valueError "reflectlite.Value.IsNil" 0) ReflectliteValue.isNil #[.agg #[.pointer (some ⟨1,167,none⟩),.pointer (some a),.int .u64 150]]).run xT W=.ok (.bool false) W:=by
 rw[rlm];simp only[tE,partsFp,Result.andThen];simp[ReflectliteValue.isNil,loadVar,isAgg,underlying,underlying167,j,Result.andThen]
def elemFp(w:World):(ReflectliteType.method ReflectliteType.elem #[.agg #[.pointer (some ⟨1,167,none⟩)]]).run xT w=.ok (.iface 190 (.agg #[.pointer (some ⟨1,115,none⟩)])) w:=dK
def implementsF(w:World):(ReflectliteType.relation "Implements" ReflectliteType.implements_ #[.agg #[.pointer (some ⟨1,115,none⟩)],.iface 190 (.agg #[.pointer (some ⟨1,41,none⟩)])]).run xT w=.ok (.bool true) w:=dK
def typeOfF(v:Value)(w:World):(ReflectliteType.typeOf #[.iface 115 v]).run xT w=.ok (.iface 190 (.agg #[.pointer (some ⟨1,115,none⟩)])) w:=dK
def assignableF(w:World):(ReflectliteType.relation "AssignableTo" ReflectliteType.assignableTo #[.agg #[.pointer (some ⟨1,115,none⟩)],.iface 190 (.agg #[.pointer (some ⟨1,115,none⟩)])]).run xT w=.ok (.bool true) w:=dK
def valueOfF(c k:Int)(w:World):(ReflectliteValue.unpack (.iface 115 (.agg #[.int .i64 c,.int .i64 k]))).run xT w
 = .ok (.agg #[.pointer (some ⟨1,115,none⟩),.pointer (some ⟨w.heap.size,0,none⟩),.int .u64 153]) (w.alloc (.cells #[.int .i64 c,.int .i64 k] 115)):=dK
def elemOfFp(w:World):(Rtype.elem? 167).run xT w=.ok (some 115) w:=dK
def mkF(p:Addr)(w:World):(ReflectliteValue.mk 115 p ReflectliteValue.flagAddr).run xT w=.ok (.agg #[.pointer (some ⟨1,115,none⟩),.pointer (some p),.int .u64 409]) w:=dK
def elemVFp(a p:Addr)(W:World)(j:W.cell? a=some (.pointer (some p))):
 (ReflectliteValue.method (ReflectliteValue.valueError "reflectlite.Value.Elem" 0) ReflectliteValue.elem #[.agg #[.pointer (some ⟨1,167,none⟩),.pointer (some a),.int .u64 150]]).run xT W
   = .ok (.agg #[.pointer (some ⟨1,115,none⟩),.pointer (some p),.int .u64 409]) W:=by
 rw[rlm];simp only[tE,partsFp,Result.andThen];simp[ReflectliteValue.elem,loadVar,isAgg,underlying,underlying167,j,Result.andThen,elemOfFp,mkF]
def partsFa(a:Addr)(w:World):(ReflectliteValue.parts (.agg #[.pointer (some ⟨1,115,none⟩),.pointer (some a),.int .u64 409])).run xT w=.ok (some (115,a,409)) w:=dK
def partsF(a:Addr)(w:World):(ReflectliteValue.parts (.agg #[.pointer (some ⟨1,115,none⟩),.pointer (some a),.int .u64 153])).run xT w=.ok (some (115,a,153)) w:=dK
def directF(w:World):(Rtype.directlyAssignable 115 115).run xT w=.ok true w:=dK
def sizeF(w:World):(sizeOf 115).run xT w=.ok 2 w:=dK
def assignableFN(w:World):(ReflectliteType.relation "AssignableTo" ReflectliteType.assignableTo #[.agg #[.pointer (some ⟨1,115,none⟩)],.iface 190 (.agg #[.pointer (some ⟨1,66,none⟩)])]).run xT w=.ok (.bool false) w:=dK
def setN(j b:Addr)(c:Int)(o:Value)(W:World)(hb:W.cell? b=some (.int .i64 c))(ht:W.cell? j=some o)(u:W.frozen? j=false):
 (ReflectliteValue.set #[.agg #[.pointer (some ⟨1,66,none⟩),.pointer (some j),.int .u64 386],.agg #[.pointer (some ⟨1,66,none⟩),.pointer (some b),.int .u64 130]]).run xT W
   = .ok (.tuple #[]) (W.setCell j (.int .i64 c)):=by
 rw[rls];simp only[tE,partsNa,partsN,Result.andThen];simp[ReflectliteValue.flagAddr,loadVar,isAgg,underlying,underlying66,hb,Result.andThen,directN,storeVar,Value.cells,storeCells,Addr.add];rw[run_store xT W j _ _ (by rfl)];simp[ht,u]
abbrev Ext(f:FuncId)(e:Array Value->Sem Value):Prop:=∀(j:Array Value)(w:World),(callFunc f j).run xT w=((e j).run xT w).andThen λv w'=>.ok (.value v) w'
def xt0:Ext 88 (λj=>ReflectliteValue.unpack (j.getD 0 (.tuple #[]))):=tL func88 dK dK dK dK
def xt1:Ext 89 (ReflectliteValue.methodAny (ReflectliteValue.valueError "reflectlite.Value.Type" 0) (λt _ _ _=>ReflectliteType.toType t)):=tL func89 dK dK dK dK
def xt2:Ext 90 (ReflectliteValue.method (ReflectliteValue.valueError "reflectlite.Value.IsNil" 0) ReflectliteValue.isNil):=tL func90 dK dK dK dK
def xt3:Ext 232 (ReflectliteType.abiMethod λt=>do pure (.int .u8 (<-Rtype.kind t))):=tL func232 dK dK dK dK
def xt4:Ext 245 (ReflectliteType.method ReflectliteType.elem):=tL func245 dK dK dK dK
def xt5:Ext 246 (ReflectliteType.relation "Implements" ReflectliteType.implements_):=tL func246 dK dK dK dK
def xt6:Ext 83 ReflectliteType.typeOf:=tL func83 dK dK dK dK
def xt7:Ext 243 (ReflectliteType.relation "AssignableTo" ReflectliteType.assignableTo):=tL func243 dK dK dK dK
def xt8:Ext 123 (ReflectliteValue.method (ReflectliteValue.valueError "reflectlite.Value.Elem" 0) ReflectliteValue.elem):=tL func123 dK dK dK dK
def xt9:Ext 124 ReflectliteValue.set:=tL func124 dK dK dK dK
end As
namespace As
open Go.RowKit Go.Extern.Stop Go.Stop Go.Extern
def as_NN(c:Int)(t:Addr)(y:Value)(w:World)(B:w.cell? ⟨0,0,none⟩=some (.iface 190 (.agg #[.pointer (some ⟨1,41,none⟩)])))(o:w.cell? t=some y)(A:w.frozen? t=false):
 Calls xT 47 #[.iface 66 (.int .i64 c),.iface 108 (.pointer (some t))] w λev w'=>ev=.returned (.bool true)/\w'=((((w.alloc (.cells #[.pointer (some t)] 108)).alloc (.cells #[.pointer (some ⟨1,108,none⟩),.pointer (some ⟨w.heap.size,0,none⟩),.int .u64 150] 159)).alloc (.cells #[.pointer (some ⟨1,108,none⟩),.pointer (some ⟨w.heap.size,0,none⟩),.int .u64 150] 159)).alloc (.cells #[.int .i64 c] 66)).setCell t (.int .i64 c):=by
 have T:=λa w=>xt0 a w;have U:=λa w=>xt1 a w;have V:=λa w=>xt2 a w;have H:=λa w=>xt3 a w;have J:=λa w=>xt4 a w;have K:=λa w=>xt5 a w;have E:=λa w=>xt6 a w;have I:=λa w=>xt7 a w;have F:=λa w=>xt8 a w;have G:=λa w=>xt9 a w;have tO:=typeOfN;have X:=methodAssignableTo;have a25:=assignableN;have O:=valueOfN;have Q:=valueOfNp;have S:=typeNp;have mK:=methodKind;have Y:=methodElem;have Z:=methodImplements;have N:=kindNp;have k25:=kindN;have C:=elemNp;have M:=implementsN;have n8:=isNilNp ⟨w.heap.size,0,none⟩ t ((w.alloc (.cells #[.pointer (some t)] 108)).alloc (.cells #[.pointer (some ⟨1,108,none⟩),.pointer (some ⟨w.heap.size,0,none⟩),.int .u64 150] 159)) b6;have j:0<w.heap.size:=tp w ⟨0,0,none⟩ B;have L:((w.alloc (.cells #[.pointer (some t)] 108)).alloc (.cells #[.pointer (some ⟨1,108,none⟩),.pointer (some ⟨w.heap.size,0,none⟩),.int .u64 150] 159)).cell? ⟨0,0,none⟩=some (.iface 190 (.agg #[.pointer (some ⟨1,41,none⟩)])):=by rw[tq _ _ ⟨0,0,none⟩ (by rw[tv];exact uh j),tq _ _ ⟨0,0,none⟩ j];exact B
 have u:t.block<w.heap.size:=by
  rcases wJ t.block w.heap.size with h|h
  .exact h
  .simp[World.cell?,W5 h]at o
 have P:=elemVNp ⟨w.heap.size,0,none⟩ t (((w.alloc (.cells #[.pointer (some t)] 108)).alloc (.cells #[.pointer (some ⟨1,108,none⟩),.pointer (some ⟨w.heap.size,0,none⟩),.int .u64 150] 159)).alloc (.cells #[.pointer (some ⟨1,108,none⟩),.pointer (some ⟨w.heap.size,0,none⟩),.int .u64 150] 159)) (by rw[tq _ _ ⟨w.heap.size,0,none⟩ a9];simp);have st:=setN t ⟨w.heap.size+1+1+1,0,none⟩ c y ((((w.alloc (.cells #[.pointer (some t)] 108)).alloc (.cells #[.pointer (some ⟨1,108,none⟩),.pointer (some ⟨w.heap.size,0,none⟩),.int .u64 150] 159)).alloc (.cells #[.pointer (some ⟨1,108,none⟩),.pointer (some ⟨w.heap.size,0,none⟩),.int .u64 150] 159)).alloc (.cells #[.int .i64 c] 66))
  (by rw[tV _ _ _ _ b6];rfl)
  (by rw[tq _ _ t a9,tq _ _ t a9,tq _ _ t a9,tq _ _ t u];exact o)
  (by rw[tA _ _ t a9,tA _ _ t a9,tA _ _ t a9,tA _ _ t (Up u)];exact A)
 go_enter func47,ntmps47
 go_wp2;refine Tj 1 ?_;rw[tY]
 go_wp2;go_ret;exact⟨rfl,rfl⟩
end As
namespace As
open Go.RowKit Go.Extern.Stop Go.Stop Go.Extern
def setF(T b:Nat)(c k:Int)(W:World)(C:W.cell? ⟨b,0,none⟩=some (.int .i64 c))(E:W.cell? ⟨b,1,none⟩=some (.int .i64 k))(H:(W.cell? ⟨T,0,none⟩).isSome=true)(I:(W.cell? ⟨T,1,none⟩).isSome=true)(A:W.frozen? ⟨T,0,none⟩=false)(B:W.frozen? ⟨T,1,none⟩=false):
 (ReflectliteValue.set #[.agg #[.pointer (some ⟨1,115,none⟩),.pointer (some ⟨T,0,none⟩),.int .u64 409],.agg #[.pointer (some ⟨1,115,none⟩),.pointer (some ⟨b,0,none⟩),.int .u64 153]]).run xT W
   = .ok (.tuple #[]) (W.setCells T 0 [.int .i64 c,.int .i64 k]):=by
 have G:(loadVar 115 ⟨b,0,none⟩).run xT W=.ok (.agg #[.int .i64 c,.int .i64 k]) W:=by
  have u:=run_loadCells_list (P:=xT) (w:=W) ⟨b,0,none⟩ [.int .i64 c,.int .i64 k] (λj v o=>by
   match j,o with
   |0,o=>cases o;simpa[Addr.add]using C
   |1,o=>cases o;simpa[Addr.add]using E)
  have hs:=sizeF W;simp[loadVar,isAgg,underlying,underlying115,Result.andThen,hs];simp only[wv,Ww]at u;rw[u]
 have y:(storeVar 115 ⟨T,0,none⟩ (.agg #[.int .i64 c,.int .i64 k])).run xT W=.ok () (W.setCells T 0 [.int .i64 c,.int .i64 k]):=by
  have hs:=sizeF W;have F:=Go.run_storeCells_cells (P:=xT) T 0 [.int .i64 c,.int .i64 k] 0 W (λj o=>by
   match j,o with
   |0,_=>simpa using H
   |1,_=>simpa using I) (λj o=>by
   match j,o with
   |0,_=>simpa using A
   |1,_=>simpa using B) dG
  simp[storeVar,hs,Value.cells,Result.andThen];simpa using F
 rw[rls];simp only[tE,partsFa,partsF,Result.andThen];simp[ReflectliteValue.flagAddr,G,Result.andThen,directF,y]
end As
namespace As
open Go.RowKit Go.Extern.Stop Go.Stop Go.Extern
def noAs(v:Value)(j:TypeId)(w:World):(Instr.typeAssert (.iface 115 v) j 208 true).run xT w=.ok (.tuple #[.nilIface,.bool false]) w:=tX Tryz.underlying208 dK dK v j w
def hasUw(v:Value)(j:TypeId)(w:World):(Instr.typeAssert (.iface 115 v) j 195 true).run xT w=.ok (.tuple #[.iface 115 v,.bool true]) w:=run_typeAssert_hasB Tryz.underlying195 dK v j w
def as_FN(c k:Int)(t:Addr)(y:Value)(w:World)(B:w.cell? ⟨0,0,none⟩=some (.iface 190 (.agg #[.pointer (some ⟨1,41,none⟩)])))(o:w.cell? t=some y)(A:w.frozen? t=false):
 Calls xT 47 #[.iface 115 (.agg #[.int .i64 c,.int .i64 k]),.iface 108 (.pointer (some t))] w λev w'=>ev=.returned (.bool true)/\w'=(((((w.alloc (.cells #[.pointer (some t)] 108)).alloc (.cells #[.pointer (some ⟨1,108,none⟩),.pointer (some ⟨w.heap.size,0,none⟩),.int .u64 150] 159)).alloc (.cells #[.pointer (some ⟨1,108,none⟩),.pointer (some ⟨w.heap.size,0,none⟩),.int .u64 150] 159)).alloc (.cells #[.int .i64 c,.int .i64 k] 115)).alloc (.cells #[.int .i64 c] 66)).setCell t (.int .i64 c):=by
 have U:=λa w=>xt0 a w;have V:=λa w=>xt1 a w;have X:=λa w=>xt2 a w;have H:=λa w=>xt3 a w;have J:=λa w=>xt4 a w;have K:=λa w=>xt5 a w;have E:=λa w=>xt6 a w;have I:=λa w=>xt7 a w;have F:=λa w=>xt8 a w;have G:=λa w=>xt9 a w;have tO:=typeOfN;have tF:=typeOfF;have P:=assignableFN;have mU:=methodUnwrap;have nA:=noAs;have Y:=hasUw;have Z:=methodAssignableTo;have a25:=assignableN;have O:=valueOfN;have S:=valueOfNp;have T:=typeNp;have mK:=methodKind;have mE:=methodElem;have mI:=methodImplements;have N:=kindNp;have k25:=kindN;have C:=elemNp;have M:=implementsN;have n8:=isNilNp ⟨w.heap.size,0,none⟩ t ((w.alloc (.cells #[.pointer (some t)] 108)).alloc (.cells #[.pointer (some ⟨1,108,none⟩),.pointer (some ⟨w.heap.size,0,none⟩),.int .u64 150] 159)) b6;have j:0<w.heap.size:=tp w ⟨0,0,none⟩ B;have L:((w.alloc (.cells #[.pointer (some t)] 108)).alloc (.cells #[.pointer (some ⟨1,108,none⟩),.pointer (some ⟨w.heap.size,0,none⟩),.int .u64 150] 159)).cell? ⟨0,0,none⟩=some (.iface 190 (.agg #[.pointer (some ⟨1,41,none⟩)])):=by rw[tq _ _ ⟨0,0,none⟩ (by rw[tv];exact uh j),tq _ _ ⟨0,0,none⟩ j];exact B
 have u:t.block<w.heap.size:=by
  rcases wJ t.block w.heap.size with h|h
  .exact h
  .simp[World.cell?,W5 h]at o
 have Q:=elemVNp ⟨w.heap.size,0,none⟩ t ((((w.alloc (.cells #[.pointer (some t)] 108)).alloc (.cells #[.pointer (some ⟨1,108,none⟩),.pointer (some ⟨w.heap.size,0,none⟩),.int .u64 150] 159)).alloc (.cells #[.pointer (some ⟨1,108,none⟩),.pointer (some ⟨w.heap.size,0,none⟩),.int .u64 150] 159)).alloc (.cells #[.int .i64 c,.int .i64 k] 115)) (by rw[tq _ _ ⟨w.heap.size,0,none⟩ a9,tq _ _ ⟨w.heap.size,0,none⟩ a9];simp);have st:=setN t ⟨w.heap.size+1+1+1+1,0,none⟩ c y (((((w.alloc (.cells #[.pointer (some t)] 108)).alloc (.cells #[.pointer (some ⟨1,108,none⟩),.pointer (some ⟨w.heap.size,0,none⟩),.int .u64 150] 159)).alloc (.cells #[.pointer (some ⟨1,108,none⟩),.pointer (some ⟨w.heap.size,0,none⟩),.int .u64 150] 159)).alloc (.cells #[.int .i64 c,.int .i64 k] 115)).alloc (.cells #[.int .i64 c] 66))
  (by rw[tV _ _ _ _ b6];rfl)
  (by rw[tq _ _ t a9,tq _ _ t a9,tq _ _ t a9,tq _ _ t a9,tq _ _ t u];exact o)
  (by rw[tA _ _ t a9,tA _ _ t a9,tA _ _ t a9,tA _ _ t a9,tA _ _ t (Up u)];exact A)
 go_enter func47,ntmps47
 go_wp2;refine Tj 2 ?_;rw[tY]
 go_wp2;rw[tY]
 go_wp2;go_ret;exact⟨rfl,rfl⟩
end As
section
def zdd{f:XE}{a b:List En}:∀e∈ks f a b,e.rep∈srt (zM a++zM b):=λe j=>by unfold ks at j;obtain⟨r,o,h⟩:=ue.1 j;rw[(xz h).2.2];exact o
def BV(n h:Nat)(v:List En):Prop:=zsC v/\v.length<=n/\∀e∈v,e.holes.length<=h
def ji{n h:Nat}{v:List En}(j:BV n h v)(r:Nat):(zT v r).length<=2*h+3:=by
 unfold zT;cases hf:v.find? (λe=>e.rep == r)with
 |none=>simp
 |some e=>have o:=j.2.2 e (uD hf);have u:=kW e;simp only;omega
def BV.mono{n h m k:Nat}{v:List En}(j:BV n h v)(o:n<=m)(u:h<=k):BV m k v:=⟨j.1,V1 j.2.1 o,λe w=>V1 (j.2.2 e w) u⟩
def zl9(r c:Nat):List En:=[(Qi r [⟨c,c⟩]).1]
def zmc{c:Nat}(j:c<zk):Nrm [⟨c,c⟩]:=⟨X4 _,Zp _,j,trivial⟩
def zkS{r c:Nat}(u:r<zk)(o:c<zk):CanV (zl9 r c):=⟨λe j=>by
 simp only[zl9,wD]at j;subst j;exact zak u (zmc o) b6,by simp[zl9]⟩
def zoD{r c:Nat}(u:r<zk)(o:c<zk):BV 1 5 (zl9 r c):=⟨(zkS u o).right,Zp _,λe j=>by
 simp only[zl9,wD]at j;subst j;have:=J0 r [⟨c,c⟩];simpa using this⟩
def zoE{r c:Nat}(u:r<zk)(o:c<zk)(x:Nat):zT (zl9 r c) x=if r=x then [⟨c,c⟩] else []:=by
 have j:(Qi r [⟨c,c⟩]).1.rep=r:=by rw[qD b6]
 unfold zl9;rw[qm,j,knV_nil,JO u (zmc o) b6]
end
section
open Go.RowKit
attribute [local go_sem] Oper.semAt_some
abbrev Sv:=Option Addr×Nat×Nat
abbrev Fv:=Sv×Sv
def sv(x:Sv):Value:=.slice x.1 x.2.1 x.2.2
def Y4(p:Nat×Fv):Array Value:=#[.int .i64 (p.1:Nat),.agg #[sv p.2.1,sv p.2.2]]
def wl(j:Nat->Bool):Nat->List Fv->List (Nat×Fv)
 |_,[]=>[]
 |n,f::r=>if j n=true then (n,f)::wl j (n+1) r else wl j (n+1) r
def Kw(j:Nat->Bool):∀(l r:List Fv)(n:Nat),wl j n (l++r)=wl j n l++wl j (n+l.length) r
 |[],r,n=>by simp[wl]
 | f::l,r,n=>by
   have:=Kw j l r (n+1);rw[yb,wl,wl,this,wv,show n+1+l.length=n+(l.length+1) by omega];split<;>simp
def XF{hit:Nat->Bool}{l:List Fv}{k:Nat}(h:k<l.length):wl hit 0 (l.take (k+1))=wl hit 0 (l.take k)++(if hit k=true then [(k,l[k])] else []):=by rw[vj h,Kw,Wc,WZ a8,wn];simp[wl]
def zi8{j:Nat->Bool}{l:List Fv}{k:Nat}(h:k<l.length)(u:j k=true):wl j 0 (l.take k)++[(k,l[k])] <+: wl j 0 l:=by
 have o:=XF (hit:=j) h;rw[vD u]at o;rw[<-o]
 conv=>rhs;rw[<-Wb (k+1) l,Kw]
 exact List.prefix_append _ _
def PtF(w o j:Nat)(A B:World):Prop:=A.heap.size<=B.heap.size/\∀k,k<A.heap.size->(k<w\/k=o\/k=j\/∃u f,A.heap[k]?=some (.cells u 59 f))->B.heap[k]?=A.heap[k]?
def zeF(A:Nat)(w:World)(y:Option Addr)(o:Nat)(u:List Fv):Prop:=u.length<=o/\o<=maxLen/\(u≠[]->∃b j,y=some ⟨b,j,none⟩/\b<A/\∀i (h:i<u.length),w.cell? ⟨b,j+i*2,none⟩=some (sv u[i].1)/\w.cell? ⟨b,j+i*2+1,none⟩=some (sv u[i].2))
def zew(y:List Fv)(B:Nat->Bool)(av:Option Addr)(af Bk ok G oi P item:Nat)(H:World)(ao:zeF P H av af y)
 (aj:H.cell? ⟨Bk,ok,none⟩=some (.slice av y.length af)) (ai:H.cell? ⟨G,oi,none⟩=some (.int .u64 (item:Nat))) (an:P<=H.heap.size)
 (O:∀(w:World)(i:Nat)(h:i<y.length),(∀k,k<P->w.heap[k]?=H.heap[k]?)->P<=w.heap.size->Calls xT 45 #[sv y[i].1,.int .u64 (item:Nat)] w λe w'=>e=.returned (.bool (B i))/\Below w.heap.size w w') :
 v7 xT 120 #[.pointer (some ⟨Bk,ok,none⟩),.pointer (some ⟨G,oi,none⟩)] Y4 (λ_=>False) (PtF P Bk G) (wl B 0 y) H:=by
 intro l J Jx hJ ag hY h0;refine callsIn_wide.2 ?_;show Calls xT 120 #[.func (.yield l) #[] #[],.pointer (some ⟨Bk,ok,none⟩),.pointer (some ⟨G,oi,none⟩)] H _;have HJ:=qL hJ;have aB:=qL ag;have HY:=qL hY;have HH:=qL O;obtain⟨aC,ax,E⟩:=ao;have S:=qL E;unfold maxLen at ax;have aw:=aj;clear hJ ag hY O E;go_enter func120,ntmps120
 go_wp2_with fail
 go_loopg [8] y.length (λg x wr=>∃k:Nat,k<=y.length/\g=y.length-k/\x=.int .i64 k/\J (wl B 0 (y.take k)) wr/\(∀j,j<P->wr.heap[j]?=H.heap[j]?)/\wr.cell? ⟨G,oi,none⟩=some (.int .u64 (item:Nat))/\P<=wr.heap.size)
 case atStart=>exact⟨0,X4 _,rfl,rfl,by simpa[wl]using h0,λ_ _=>rfl,ai,an⟩
 case round=>
  obtain⟨k,hk,rfl,rfl,I,A,L,ay⟩:=hrel;clear h0 aw aj ai an;by_cases u:k<y.length
  .obtain⟨b,M,au,ak,N⟩:=S.o (λe=>by rw[e]at u;simp at u);subst au;obtain⟨c0,c1⟩:=N k u;have U:=XF (hit:=B) u;have F:B k=true->_:=zi8 u;have hH:=λw=>HH.o w k u;obtain⟨⟨⟨a0,Z,q0⟩,⟨X,m1,q1⟩⟩,hf⟩:∃f,f=y[k]:=⟨_,rfl⟩;rw[<-hf]at c0 c1 U F;simp only[<-hf]at hH;simp only[sv]at c0 c1 hH;have d0:wr.cell? ⟨b,M+k*2,none⟩=some (.slice a0 Z q0):=(tl (a:=⟨b,M+k*2,none⟩) (A b ak)).trans c0;have d1:wr.cell? ⟨b,M+k*2+1,none⟩=some (.slice X m1 q1):=(tl (a:=⟨b,M+k*2+1,none⟩) (A b ak)).trans c1;have e0:(wr.alloc (.cells #[.slice a0 Z q0,.slice X m1 q1] 59 (0,0))).cell? ⟨G,oi,none⟩=some (.int .u64 (item:Nat)):=(tl (a:=⟨G,oi,none⟩) (tu _ _ _ (tp _ _ L))).trans L;have ae:=qL U;have HP:=qL F;have C:=qL A;have Q:=qL L;have ab:=qL hH;have ac:=qL I;clear N U F A L hH c0 c1 hf I;have ad:qA (∀j,j<P->(wr.alloc (.cells #[.slice a0 Z q0,.slice X m1 q1] 59 (0,0))).heap[j]?=H.heap[j]?):=qL λj Y=>(tu _ _ _ a8).trans (C.o j Y);go_upto_region 3 with fail;refine(Tt (n:=8)).1 ?_;cases hh:B k with
   | false=>
     gi_wp2_with (refine⟨trivial,?_⟩;gi_at_call 45;refine(callsIn_wide.2 (ab.o _ ad.o a9)).mono ?_;rw[hh];rintro e V ⟨rfl,K⟩)
     refine⟨λ_ h=>(by cases h),?_⟩
     gi_wp2
     go_wp2;go_roundg (y.length-(k+1));case measure=>omega
     case rel=>have o:Keep (λ_=>False) wr V:=((Keep.refl _ _).alloc _).trans (Keep.of_below' K (Zp _));refine⟨k+1,u,rfl,b6,?_,λj Y=>(o.block j a8 id).trans (C.o j Y),o.cell_some Q.o id,V1 ay o.size⟩;rw[ae.o,hh];simp only[uA,UX,wY];exact HJ.o _ _ _ ac.o o
   | true=>
     gi_wp2_with (refine⟨trivial,?_⟩;gi_at_call 45;refine(callsIn_wide.2 (ab.o _ ad.o a9)).mono ?_;rw[hh];rintro e V ⟨rfl,K⟩
                  have o:Keep (λ_=>False) wr V:=((Keep.refl _ _).alloc _).trans (Keep.of_below' K (Zp _));have am:V.heap[wr.heap.size]?=some (.cells #[.slice a0 Z q0,.slice X m1 q1] 59 (0,0)):=(K.block _ b6).trans (tn _ _);have x0:V.cell? ⟨wr.heap.size,0,none⟩=some (.slice a0 Z q0):=(by simp[World.cell?,am]);have x1:V.cell? ⟨wr.heap.size,1,none⟩=some (.slice X m1 q1):=(by simp[World.cell?,am]);obtain⟨fn,aA,aq,az,hy,hR⟩:=HY.o _ (k,((a0,Z,q0),(X,m1,q1))) V (HJ.o _ _ _ ac.o o) (HP.o hh);simp only[Y4,sv]at hy)
     refine hR.mono ?_;rintro e w3 (⟨rfl,ar,T⟩|⟨rfl,ah⟩)
     .gi_wp2
      go_wp2;go_roundg (y.length-(k+1));case measure=>omega
      case rel=>refine⟨k+1,u,rfl,b6,?_,λj Y=>(T.2 j (by have:=o.size;omega) (.inl Y)).trans ((o.block j a8 id).trans (C.o j Y)),(tl (a:=⟨G,oi,none⟩) (T.2 G (Vm (tp _ _ Q.o) o.size) (.inr (.inr (.inl rfl))))).trans (o.cell_some Q.o id),by have:=o.size;have:=T.1;omega⟩;rw[ae.o,hh];simpa using ar
     .gi_wp2
      go_wp2;refine tz (tK rfl _ _ _) rfl ?_;exact⟨⟨_,rfl⟩,.inr ⟨_,HP.o hh,ah⟩⟩
  .obtain rfl:k=y.length:=a8
   go_wp2_with fail
   go_end0
   rw[Wo]at I;exact⟨⟨_,rfl⟩,.inl I⟩
attribute [local go_sem] Oper.semAt_some
def zex(a:Option Addr)(n c item:Nat)(w:World):Calls xT 86 #[.slice a n c,.int .u64 (item:Nat)] w λe w'=>e=.returned (.func (.func 120) #[] #[.pointer (some ⟨w.heap.size,0,none⟩),.pointer (some ⟨w.heap.size+1,0,none⟩)])/\w'=(w.alloc (.cells #[.slice a n c] 54)).alloc (.cells #[.int .u64 (item:Nat)] 36):=by
 go_enter func86,ntmps86
 go_wp2;go_ret;exact⟨rfl,rfl⟩
def znR{α:Type}{q:α->Bool}{l j:List α}(h:l <+: j)(o:l.any q=true):j.any q=true:=by obtain⟨r,rfl⟩:=h;rw[UE,o];rfl
def SH(n:Nat)(A B:World):Prop:=(∃v,Boxed A n 4 v)/\Keep (λk=>k=n) A B
def SH.pt{n C y w:Nat}{A B:World}(h:SH n A B)(I:C<=n)(E:y≠n)(F:w≠n):PtF C y w A B:=by
 obtain⟨⟨v,G⟩,hk⟩:=h;refine⟨hk.size,λk o j=>hk.block k o ?_⟩;rintro rfl;rcases j with j|j|j|⟨H,f,j⟩
 .omega
 .exact E j.symm
 .exact F j.symm
 .have u:A.heap[k]?=some (.cells #[v] 4 (0,0)):=G;rw[u]at j;cases j
def zn5(O:Option Addr)(T P item r c:Nat)(xs:List (Nat×Fv))(q:Nat×Fv->Bool)(w:World)
 (hit:∀W,(∀k,k<w.heap.size->W.heap[k]?=w.heap[k]?)->w.heap.size+5<=W.heap.size->W.cell? ⟨w.heap.size+3,0,none⟩=some (.slice O T P)->W.cell? ⟨w.heap.size+4,0,none⟩=some (.int .u64 (item:Nat)) ->
   v7 xT 120 #[.pointer (some ⟨w.heap.size+3,0,none⟩),.pointer (some ⟨w.heap.size+4,0,none⟩)] Y4 (λ_=>False) (PtF w.heap.size (w.heap.size+3) (w.heap.size+4)) xs W)
 (Q:∀W p,p∈xs->Below w.heap.size w W->Calls xT 87 #[sv p.2.2,.int .u64 (r:Nat),.int .u64 (c:Nat)] W λe W'=>e=.returned (.bool (q p))/\Below W.heap.size W W') :
 Calls xT 46 #[.slice O T P,.int .u64 (item:Nat),.int .u64 (r:Nat),.int .u64 (c:Nat)] w λe w'=>e=.returned (.bool (xs.any q))/\Below w.heap.size w w':=by
 have ae:=qL hit;have HH:=qL Q;clear hit Q;refine callsIn_wide.1 (t9 (n:=9) func46 rfl trivial ?_ rfl);simp only[ntmps46,WA,wv,Ww,Nat.reduceAdd,Nat.reduceSub,uu,uv,uG,uw,Yf,yb]
 gi_wp2_with (refine⟨trivial,?_⟩;gi_at_call 86;refine(callsIn_wide.2 (zex _ _ _ _ _)).mono ?_;rintro e w' ⟨rfl,rfl⟩)
 obtain⟨y,F⟩:=xt ((((((w.alloc (Obj.cells #[.int .u64 (r:Nat)] 36)).alloc (Obj.cells #[.int .u64 (c:Nat)] 36)).alloc (Obj.cells #[.bool false] 4)).alloc (Obj.cells #[.slice O T P] 54)).alloc (Obj.cells #[.int .u64 (item:Nat)] 36)));have ag:y.heap.size=w.heap.size+5:=by rw[<-F];simp
 have b0:Boxed y w.heap.size 36 (.int .u64 (r:Nat)):=by rw[<-F];exact((((tT w _ _).alloc _).alloc _).alloc _).alloc _
 have b1:Boxed y (w.heap.size+1) 36 (.int .u64 (c:Nat)):=by rw[<-F];have:=tT (w.alloc (Obj.cells #[.int .u64 (r:Nat)] 36)) 36 (.int .u64 (c:Nat));rw[tv]at this;exact((this.alloc _).alloc _).alloc _
 have b2:Boxed y (w.heap.size+2) 4 (.bool false):=by rw[<-F];have:=tT ((w.alloc (Obj.cells #[.int .u64 (r:Nat)] 36)).alloc (Obj.cells #[.int .u64 (c:Nat)] 36)) 4 (.bool false);simp only[tv]at this;exact(this.alloc _).alloc _
 have b3:Boxed y (w.heap.size+3) 54 (.slice O T P):=by rw[<-F];have:=tT (((w.alloc (Obj.cells #[.int .u64 (r:Nat)] 36)).alloc (Obj.cells #[.int .u64 (c:Nat)] 36)).alloc (Obj.cells #[.bool false] 4)) 54 (.slice O T P);simp only[tv]at this;exact this.alloc _
 have b4:Boxed y (w.heap.size+4) 36 (.int .u64 (item:Nat)):=by rw[<-F];have:=tT ((((w.alloc (Obj.cells #[.int .u64 (r:Nat)] 36)).alloc (Obj.cells #[.int .u64 (c:Nat)] 36)).alloc (Obj.cells #[.bool false] 4)).alloc (Obj.cells #[.slice O T P] 54)) 36 (.int .u64 (item:Nat));simp only[tv]at this;exact this
 have ab:Below w.heap.size w y:=by rw[<-F];exact(((((tr _ _).alloc (Zp _) _).alloc b6 _).alloc a9 _).alloc a9 _).alloc a9 _
 try simp only[tv]
 rw [F];clear F;refine Xt (w:=y) 120 #[.pointer (some ⟨w.heap.size+3,0,none⟩),.pointer (some ⟨w.heap.size+4,0,none⟩)] rfl (enters_of func120 dK rfl) Y4 (λ_=>rfl)
  (λ_=>False) (PtF w.heap.size (w.heap.size+3) (w.heap.size+4)) xs ?hit
  (SH (w.heap.size+2)) (λA B h k hk L=>h.2.block k L a8) (λA B h=>h.pt a8 a8 a8)
  ?hPt ?hPt0 ⟨id,id⟩
  (λpre W=>Boxed W w.heap.size 36 (.int .u64 (r:Nat))/\Boxed W (w.heap.size+1) 36 (.int .u64 (c:Nat))/\Boxed W (w.heap.size+2) 4 (.bool false)/\Below w.heap.size w W/\qA (pre.any q=false))
  (λcd pre W=>cd=.ret/\Boxed W (w.heap.size+2) 4 (.bool true)/\Below w.heap.size w W/\qA (pre.any q=true)) ?hI ?hIx ⟨b0,b1,b2,ab,qL rfl⟩
  (λpre x a' W=>(Boxed W w.heap.size 36 (.int .u64 (r:Nat))/\Boxed W (w.heap.size+1) 36 (.int .u64 (c:Nat))/\Boxed W (w.heap.size+2) 4 (.bool false)/\Below w.heap.size w W/\qA (pre.any q=false)) /\
    ∃U,W.heap[U]?=some (.cells #[sv x.2.1,sv x.2.2] 59 (0,0))/\y.heap.size+2<=U /\
    a'={ tmps:=#[.slice O T P,.int .u64 (item:Nat),.int .u64 (r:Nat),.int .u64 (c:Nat),undef,undef,.pointer (some ⟨w.heap.size,0,none⟩),.pointer (some ⟨w.heap.size+1,0,none⟩),.pointer (some ⟨w.heap.size+2,0,none⟩),undef,.pointer (some ⟨U,0,none⟩),.slice O T P,.int .u64 (item:Nat),.func (.func 120) #[] #[.pointer (some ⟨w.heap.size+3,0,none⟩),.pointer (some ⟨w.heap.size+4,0,none⟩)],.int .i64 (x.1:Nat),.agg #[sv x.2.1,sv x.2.2],undef,undef,undef,undef,undef],defers:=[] })
  ?hAx ?hassign ?hbody ?hdone ?hstop
 case hit=>intro W hk af;exact ae.o W (λk h=>(hk.block k a8 id).trans (ab.block k h)) a8 (hk.boxed b3 id).cell (hk.boxed b4 id).cell
 case hPt=>
  rintro A B C ⟨H,K⟩ ⟨j,u⟩;refine⟨V1 H j,λk hk G=>?_⟩;have e1:=K k hk G;refine(u k a8 ?_).trans e1;rcases G with G|G|G|⟨cs,f,G⟩
  .exact .inl G
  .exact .inr (.inl G)
  .exact .inr (.inr (.inl G))
  .exact .inr (.inr (.inr ⟨cs,f,by rw[e1];exact G⟩))
 case hPt0=>
  rintro A B hk ⟨o,ho⟩;refine⟨hk.size,λk L G=>hk.block k L ?_⟩;rintro rfl;rcases G with G|G|G|⟨cs,f,G⟩
  .omega
  .omega
  .omega
  .rw[ho]at G;cases G
 case hI=>rintro pre A B ⟨H,K,j,u,E⟩ V;have hk:Keep (λk=>k=y.heap.size\/k=y.heap.size+1) A B:=V.mono λ_ _ h=>h.elim False.elim id;exact⟨hk.boxed H a8,hk.boxed K a8,hk.boxed j a8,u.trans (hk.below u.size λk hk=>a8),E⟩
 case hIx=>rintro cd pre A B ⟨H,j,u,E⟩ V;have hk:Keep (λk=>k=y.heap.size\/k=y.heap.size+1) A B:=V.mono λ_ _ h=>h.elim False.elim id;exact⟨H,hk.boxed j a8,u.trans (hk.below u.size λk hk=>a8),E⟩
 case hAx=>rintro pre x a' A B ⟨⟨H,K,j,u,E⟩,U,h6,h7,rfl⟩ hk;exact⟨⟨hk.boxed H a8,hk.boxed K a8,hk.boxed j a8,u.trans (hk.below u.size λk hk=>a8),E⟩,U,hk.obj h6 a8,h7,rfl⟩
 case hassign=>
  rintro l pre ⟨i,⟨⟨x0,x1,x2⟩,⟨Y,Z,y2⟩⟩⟩ W X L hI;clear X;dsimp only[Y4,sv];have HX:=qL hI;clear hI
  gi_wp2
  obtain⟨H,K,j,u,E⟩:=HX.o;have N:∀o S,Keep S W (W.alloc o):=λo S=>(Keep.refl _ _).alloc _;exact⟨⟨⟨_,j⟩,N _ _⟩,⟨(N _ (λ_=>False)).boxed H id,(N _ (λ_=>False)).boxed K id,(N _ (λ_=>False)).boxed j id,u.alloc u.size _,E⟩,W.heap.size,tn W _,a8,rfl⟩
 case hbody=>
  rintro l pre ⟨i,⟨⟨x0,x1,x2⟩,⟨Y,Z,y2⟩⟩⟩ a' W X L ⟨⟨H,K,j,u,E⟩,U,h6,h7,rfl⟩;have hm:(i,((x0,x1,x2),(Y,Z,y2)))∈xs:=X.subset b6;have J:=HH.o W _ hm u;dsimp only[sv]at J h6⊢;have c0:=H.cell;have c1:=K.cell;have c3:W.cell? ⟨U,1,none⟩=some (.slice Y Z y2):=(by simp[World.cell?,h6]);have ad:(pre++[(i,((x0,x1,x2),(Y,Z,y2)))]).any q=q (i,((x0,x1,x2),(Y,Z,y2))):=(by rw[UE,E.o];simp);have HN:=qL ad;have HX:=qL (And.intro j u);have HY:=qL (And.intro H K);clear ad H K u E h6;cases hq:q (i,((x0,x1,x2),(Y,Z,y2)))with
  | true=>
    rw[hq]at J HN;have HS:=qL J;clear J hq j
    gi_wp2_with (refine⟨trivial,?_⟩;gi_at_call 87;refine(callsIn_wide.2 HS.o).mono ?_;rintro e W1 ⟨rfl,I⟩
                 have k1:Keep (λ_=>False) W W1:=Keep.of_below' I (Zp _);have j:=k1.boxed HX.o.1 id;have f3:=j.frozen;have d3:=j.cell)
    refine⟨⟨⟨_,HX.o.1⟩,(Keep.of_below' (S:=λk=>k=w.heap.size+2) I (Zp _)).setCell (p:=⟨w.heap.size+2,0,none⟩) (λ_=>rfl) _⟩,rfl,j.set _,(HX.o.2.trans (I.mono HX.o.2.size)).setCell b6 _,HN⟩
  | false=>
    rw[hq]at J HN;have HS:=qL J;clear J hq j
    gi_wp2_with (refine⟨trivial,?_⟩;gi_at_call 87;refine(callsIn_wide.2 HS.o).mono ?_;rintro e W1 ⟨rfl,I⟩)
    have k1:Keep (λ_=>False) W W1:=Keep.of_below' I (Zp _);exact⟨⟨⟨_,HX.o.1⟩,Keep.of_below' I (Zp _)⟩,k1.boxed HY.o.1 id,k1.boxed HY.o.2 id,k1.boxed HX.o.1 id,HX.o.2.trans (I.mono HX.o.2.size),HN⟩
 case hdone=>
  rintro W ⟨H,K,j,u,E⟩ hD;have c4:=j.cell;have f4:=j.frozen;have HX:=qL (And.intro j (And.intro u E.o));clear H K j u E
  gi_wp2
  obtain⟨j,u,E⟩:=HX.o;refine⟨b6,.inl ⟨_,_,rfl,Tb (by rw[tw _ _ _ _ a9];exact hD),?_⟩⟩;have M:Keep (λk=>k=w.heap.size+2\/k=y.heap.size) W ((W.setCell ⟨w.heap.size+2,0,none⟩ (.bool false)).putObj y.heap.size (.deferred none)):=((Keep.refl (λk=>k=w.heap.size+2\/k=y.heap.size) W).setCell (p:=⟨w.heap.size+2,0,none⟩) (λ_=>.inl rfl) _).putObj (λ_=>.inr rfl) _;have hr:((W.setCell ⟨w.heap.size+2,0,none⟩ (.bool false)).putObj y.heap.size (.deferred none)).cell? ⟨w.heap.size+2,0,none⟩=some (.bool false):=(by refine(tl ?_).trans (j.set (.bool false)).cell;exact tN (by show w.heap.size+2≠_;omega));refine⟨.bool false,by simp[results,Tryz.results46,go_sem,hr],?_,u.trans (M.below u.size λk hk=>a8)⟩;rw[E]
 case hstop=>
  rintro cd pre W ac ⟨rfl,j,u,E⟩ hD;have c4:=j.cell;have HX:=qL (And.intro j (And.intro u E.o));clear j u E
  gi_wp2
  obtain⟨j,u,E⟩:=HX.o;refine⟨b6,.inl ⟨_,_,rfl,Tb hD,?_⟩⟩;have M:Keep (λk=>k=y.heap.size) W (W.putObj y.heap.size (.deferred none)):=(Keep.refl (λk=>k=y.heap.size) W).putObj (λ_=>rfl) _;have hr:=(M.boxed j a8).cell;refine⟨.bool true,by simp[results,Tryz.results46,go_sem,hr],?_,u.trans (M.below u.size λk hk=>a8)⟩;rw[znR ac E]
def OwnI(base:Nat)(w:World)(v:Value)(j:List Nat):Prop:=w.ownsRow base 3 1 v j.length (j.map λx=>.int .i64 (x:Nat))
def OwnI.nil(base:Nat)(w:World):OwnI base w (.slice none 0 0) []:=tR _ _ _ _
def OwnI.keep{base:Nat}{S:Nat->Prop}{w w':World}{v:Value}{l:List Nat}(h:OwnI base w v l)(hb:Keep S w w')(hs:∀g,base<=g->g<w.heap.size->¬S g):OwnI base w' v l:=
 hb.ownsRow h λg j=>hs g (h.lt g j).1 (h.lt g j).2
def OwnI.shape{base:Nat}{w:World}{v:Value}{l:List Nat}(h:OwnI base w v l):∃j n c,v=.slice j n c:=by
 rcases h.2 with⟨rfl,_⟩|⟨g,o,u,rfl,_⟩
 .exact⟨_,_,_,rfl⟩
 .exact⟨_,_,_,rfl⟩
def Tryz.infoInt:(xT.info? 3).map (λi=>(i.zero,i.size,i.bytes))=some (some (Value.int .i64 0),1,8):=dK
def JY(base:Nat)(W:World)(v:Value)(l:List Nat)(i:Nat)(u w:Value)(o:OwnI base W v l)(B:base<=W.heap.size)(T:l.length<=1099511627776):
 Calls xT 179 #[v,.int .i64 (i:Nat),.agg #[u,w]] W λe L=>∃K,e=.returned K/\OwnI base L K (l++[i])/\Keep (λk=>base<=k/\∃O f,W.heap[k]?=some (.cells O 3 f)) W L:=by
 obtain⟨S,E,H,I,J⟩:=tP Tryz.infoInt;have y:=qL o;obtain⟨M,n,c,rfl⟩:=o.shape;clear o;go_enter func179,ntmps179
 have F:Keep (λ_=>False) W ((W.alloc (.cells #[u,w] 59)).alloc (.cells #[.int .i64 (i:Nat)] 3)):=((Keep.refl _ W).alloc _).alloc _;have G:((W.alloc (.cells #[u,w] 59)).alloc (.cells #[.int .i64 (i:Nat)] 3)).heap[W.heap.size+1]?=some (.cells #[.int .i64 (i:Nat)] 3 (0,0)):=by
  have:=tn (W.alloc (.cells #[u,w] 59)) (.cells #[.int .i64 (i:Nat)] 3)
  rwa[tv]at this
 have A:=qL (y.o.keep F λ_ _ _=>id)
 go_wp2_with (at_builtin;refine Td _ rfl _ _ 213 rfl base 3 S (.int .i64 0) 1 8 underlying213 E H I J rfl b8 _ _ _ rfl A.o ⟨W.heap.size+1,0,none⟩ 1 1 [.int .i64 (i:Nat)] rfl rfl (kw (cs:=#[.int .i64 (i:Nat)]) (t := 3) (fr:=(0,0)) G) dG c8 a8 a9 ?_;intro K U ho C _ _)
 go_ret;refine⟨_,rfl,by unfold OwnI;simpa using ho,(((Keep.refl _ W).alloc _).alloc _).grown C λk hk _=>?_⟩;have j:(Value.slice M n c).ownBlock=some k:=hk;refine⟨(y.o.lt k j).1,?_⟩;rcases y.o.2 with⟨e,_⟩|⟨g,N,P,e,_,Q,_⟩
 .rw[e]at j;cases j
 .rw[e]at j;have:g=k:=(by simpa[Value.ownBlock]using j);subst this;exact⟨_,_,Q⟩
attribute [local go_sem] Oper.semAt_some
def zaB(n:Nat)(W:World)(k:Nat):Prop:=n<=k/\∃j f,W.heap[k]?=some (.cells j 3 f)
def SF(j:Nat)(t:TypeId)(A B:World):Prop:=(∃v,Boxed A j t v)/\Keep (λk=>k=j\/zaB (j+4) A k) A B
def SF.pt{o E C:Nat}{t:TypeId}{A B:World}(h:SF o t A B)(J:E<o)(K:C<o)(ht:t ≠ 59)(hi : 3 ≠ 59):PtF o E C A B:=by
 obtain⟨⟨v,H⟩,hk⟩:=h;refine⟨hk.size,λk w j=>hk.block k w ?_⟩;rintro(rfl|⟨L,F,f,u⟩)
 .rcases j with j|j|j|⟨F,f,j⟩
  .omega
  .omega
  .omega
  .have y:A.heap[k]?=some (.cells #[v] t (0,0)):=H;rw[y]at j;cases j;exact ht rfl
 .rcases j with j|j|j|⟨G,I,j⟩
  .omega
  .omega
  .omega
  .rw[u]at j;cases j
def X8{α:Type}(V:Nat)(lb:Array Value)(Bk Bi:Nat)(xs:List (Nat×Fv))(w:World)(J:Option Addr)(K:Nat)(eg:∀T w,(callFunc V T).run xT w=.ok (.enter V T) w)
 (hit:∀W,Below w.heap.size w W->v7 xT V lb Y4 (λ_=>False) (PtF w.heap.size Bk Bi) xs W) (au:Bk<w.heap.size) (ar:Bi<w.heap.size)
 (E:World->Value->α->Prop) (step:α->Nat×Fv->α) (a0:α) (af:∀W,Below w.heap.size w W->E W (.slice J 0 K) a0) (ah:∀W u a,E W u a->∃ad n c,u=.slice ad n c)
 (ag:∀A B u a,E A u a->Keep (λk=>k=w.heap.size\/k=w.heap.size+2\/k=w.heap.size+3) A B->E B u a)
 (N:∀W u pre p,pre++[p] <+: xs->w.heap.size+4<=W.heap.size->Below w.heap.size w W->E W u (pre.foldl step a0)->Calls xT 145 #[u,.int .i64 (p.1:Nat),.agg #[sv p.2.1,sv p.2.2]] W λe W'=>
   ∃u',e=.returned u'/\E W' u' (step (pre.foldl step a0) p)/\Keep (zaB (w.heap.size+4) W) W W') :
 Calls xT 144 #[.func (.func V) #[] lb,.slice J 0 K,.func (.func 145) #[] #[]] w λe w'=>∃u,e=.returned u/\E w' u (xs.foldl step a0)/\Below w.heap.size w w':=by
 have an:=qL hit;have ak:=qL af;have U:=qL ah;have M:=qL ag;have aq:=qL N;clear hit af ah ag N;refine callsIn_wide.1 (t9 (n:=9) func144 rfl trivial ?_ rfl);simp only[ntmps144,WA,wv,Ww,Nat.reduceAdd,Nat.reduceSub,uu,uv,uG,uw,Yf,yb]
 gi_wp2
 obtain⟨I,L⟩:=xt (((w.alloc (Obj.cells #[Value.slice J 0 K] 57)).alloc (Obj.cells #[Value.func (Fn.func 145) #[] #[]] 227)));have ay:I.heap.size=w.heap.size+2:=by rw[<-L];simp
 have b0:Boxed I w.heap.size 57 (Value.slice J 0 K):=by rw[<-L];exact(tT w _ _).alloc _
 have b1:Boxed I (w.heap.size+1) 227 (Value.func (Fn.func 145) #[] #[]):=by rw[<-L];have:=tT (w.alloc (Obj.cells #[Value.slice J 0 K] 57)) 227 (Value.func (Fn.func 145) #[] #[]);rw[tv]at this;exact this
 have X:Below w.heap.size w I:=by rw[<-L];exact((tr _ _).alloc (Zp _) _).alloc b6 _
 try simp only[tv]
 rw [L];clear L;refine Xt (w:=I) V lb rfl eg Y4 (λ_=>rfl) (λ_=>False) (PtF w.heap.size Bk Bi) xs ?hit
  (SF w.heap.size 57) (λA B h k hk O=>h.2.block k O (by rintro(e|⟨e,_⟩)<;>omega)) (λA B h=>h.pt au ar b8 b8)
  ?hPt ?hPt0 ⟨id,id⟩
  (λpre W=>(∃u,Boxed W w.heap.size 57 u/\E W u (pre.foldl step a0))/\Boxed W (w.heap.size+1) 227 (Value.func (Fn.func 145) #[] #[])/\Below w.heap.size w W)
  (λ_ _ _=>False) ?hI (λ_ _ _ _ h _=>h) ⟨⟨_,b0,ak.o _ X⟩,b1,X⟩
  (λpre x a' W=>((∃u,Boxed W w.heap.size 57 u/\E W u (pre.foldl step a0))/\Boxed W (w.heap.size+1) 227 (Value.func (Fn.func 145) #[] #[])/\Below w.heap.size w W) /\
    ∃Q,W.heap[Q]?=some (.cells #[sv x.2.1,sv x.2.2] 59 (0,0))/\I.heap.size+2<=Q /\
    a'={ tmps:=#[Value.func (Fn.func V) #[] lb,Value.slice J 0 K,Value.func (Fn.func 145) #[] #[],undef,Value.pointer (some ⟨w.heap.size,0,none⟩),Value.pointer (some ⟨w.heap.size+1,0,none⟩),Value.slice none 0 0,.int .i64 (x.1:Nat),Value.pointer (some ⟨Q,0,none⟩),Value.func (Fn.func V) #[] lb,.int .i64 (x.1:Nat),.agg #[sv x.2.1,sv x.2.2],undef,undef,undef,undef,undef,undef],defers:=[] })
  ?hAx ?hassign ?hbody ?hdone (λ_ _ _ _ h _=>h.elim)
 case hit=>intro W hk ax;exact an.o W (X.trans (hk.below a8 λ_ _=>id))
 case hPt=>
  rintro A B C ⟨j,G⟩ ⟨H,y⟩;refine⟨V1 j H,λk hk F=>?_⟩;have e1:=G k hk F;refine(y k a8 ?_).trans e1;rcases F with F|F|F|⟨cs,f,F⟩
  .exact .inl F
  .exact .inr (.inl F)
  .exact .inr (.inr (.inl F))
  .exact .inr (.inr (.inr ⟨cs,f,by rw[e1];exact F⟩))
 case hPt0=>
  rintro A B hk ⟨o,ho⟩;refine⟨hk.size,λk O F=>hk.block k O ?_⟩;rintro rfl;rcases F with F|F|F|⟨cs,f,F⟩
  .omega
  .omega
  .omega
  .rw[ho]at F;cases F
 case hI=>rintro pre A B ⟨⟨u,j,G⟩,H,y⟩ av;have hk:Keep (λk=>k=I.heap.size\/k=I.heap.size+1) A B:=av.mono λ_ _ h=>h.elim False.elim id;exact⟨⟨u,hk.boxed j a8,M.o _ _ _ _ G (hk.mono λk _ h=>a8)⟩,hk.boxed H a8,y.trans (hk.below y.size λk hk=>a8)⟩
 case hAx=>rintro pre x a' A B ⟨⟨⟨u,j,G⟩,H,y⟩,Q,h5,h6,rfl⟩ hk;exact⟨⟨⟨u,hk.boxed j a8,M.o _ _ _ _ G (hk.mono λk _ h=>a8)⟩,hk.boxed H a8,y.trans (hk.below y.size λk hk=>a8)⟩,Q,hk.obj h5 a8,h6,rfl⟩
 case hassign=>
  rintro l pre ⟨i,⟨⟨x0,x1,x2⟩,⟨y0,y1,y2⟩⟩⟩ W ac O ⟨⟨u,j,G⟩,H,y⟩;clear ac;dsimp only[Y4,sv];have HX:=qL (And.intro j (And.intro G (And.intro H y)));clear j G H y
  gi_wp2
  obtain⟨j,G,H,y⟩:=HX.o;have P:∀o S,Keep S W (W.alloc o):=λo S=>(Keep.refl _ _).alloc _;refine⟨⟨⟨u,j⟩,P _ _⟩,⟨⟨u,(P _ (λ_=>False)).boxed j id,M.o _ _ _ _ G (P _ _)⟩,(P _ (λ_=>False)).boxed H id,y.alloc y.size _⟩,W.heap.size,tn W _,a8,rfl⟩
 case hbody=>
  rintro l pre ⟨i,⟨⟨x0,x1,x2⟩,⟨y0,y1,y2⟩⟩⟩ a' W ac O ⟨⟨⟨u,j,G⟩,H,y⟩,Q,h5,h6,rfl⟩;obtain⟨ua,un,uc,rfl⟩:=U.o _ _ _ G;have ae:=aq.o W _ pre _ ac a8 y G;dsimp only[sv]at ae h5⊢;have c0:=j.cell;have c1:=H.cell;have c2:W.cell? ⟨Q,0,none⟩=some (.slice x0 x1 x2):=(by simp[World.cell?,h5]);have c3:W.cell? ⟨Q,1,none⟩=some (.slice y0 y1 y2):=(by simp[World.cell?,h5]);have HS:=qL ae;have HX:=qL (And.intro j (And.intro H y));clear ae j G H y h5
  gi_wp2_with (refine⟨trivial,?_⟩;gi_at_call 145;refine(callsIn_wide.2 HS.o).mono ?_;rintro e W1 ⟨u',rfl,Y,Z⟩
               obtain⟨va,vn,vc,rfl⟩:=U.o _ _ _ Y;have j:Boxed W1 w.heap.size 57 (.slice ua un uc):=Z.boxed HX.o.1 (λh=>by have:=h.1;omega);have d0:=j.cell;have d1:=j.frozen;have am:=qL Y;have ao:=qL Z;have aj:=qL j;clear Y Z j)
  have aw:Keep (λk=>k=w.heap.size) W1 (W1.setCell ⟨w.heap.size,0,none⟩ (.slice va vn vc)):=(Keep.refl (λk=>k=w.heap.size) W1).setCell (p:=⟨w.heap.size,0,none⟩) (λ_=>rfl) _;obtain⟨j,H,y⟩:=HX.o;have ab:Keep (λk=>k=w.heap.size\/zaB (w.heap.size+4) W k) W (W1.setCell ⟨w.heap.size,0,none⟩ (.slice va vn vc)):=(ao.o.mono λk _ h=>.inr h).setCell (p:=⟨w.heap.size,0,none⟩) (λ_=>.inl rfl) _;refine⟨⟨⟨_,j⟩,ab⟩,⟨_,aj.o.set _,?_⟩,ab.boxed H (by rintro(e|⟨e,_⟩)<;>omega),y.trans (ab.below y.size λk hk=>by rintro(e|⟨e,_⟩)<;>omega)⟩;rw[WW];exact M.o _ _ _ _ am.o (aw.mono λk _ h=>.inl h)
 case hdone=>
  rintro W ⟨⟨u,j,G⟩,H,y⟩ hD;obtain⟨ua,un,uc,rfl⟩:=U.o _ _ _ G;have F:=j.cell;have HX:=qL (And.intro G y);clear j G H y
  gi_wp2
  refine⟨b6,.inl ⟨_,_,rfl,Tb hD,?_⟩⟩;have ai:Keep (λk=>k=I.heap.size) W (W.putObj I.heap.size (.deferred none)):=(Keep.refl (λk=>k=I.heap.size) W).putObj (λ_=>rfl) _;exact⟨_,tJ rfl _ _ _,_,rfl,M.o _ _ _ _ HX.o.1 (ai.mono λk _ h=>a8),HX.o.2.trans (ai.below HX.o.2.size λk hk=>a8)⟩
def X7{α:Type}(V:Nat)(lb:Array Value)(Bk Bi:Nat)(xs:List (Nat×Fv))(w:World)(J:Option Addr)(K:Nat)(eg:∀T w,(callFunc V T).run xT w=.ok (.enter V T) w)
 (hit:∀W,Below w.heap.size w W->v7 xT V lb Y4 (λ_=>False) (PtF w.heap.size Bk Bi) xs W) (au:Bk<w.heap.size) (ar:Bi<w.heap.size)
 (E:World->Value->α->Prop) (step:α->Nat×Fv->α) (a0:α) (af:∀W,Below w.heap.size w W->E W (.slice J 0 K) a0) (ah:∀W u a,E W u a->∃ad n c,u=.slice ad n c)
 (ag:∀A B u a,E A u a->Keep (λk=>k=w.heap.size\/k=w.heap.size+2\/k=w.heap.size+3) A B->E B u a)
 (N:∀W u pre p,pre++[p] <+: xs->w.heap.size+4<=W.heap.size->Below w.heap.size w W->E W u (pre.foldl step a0)->Calls xT 179 #[u,.int .i64 (p.1:Nat),.agg #[sv p.2.1,sv p.2.2]] W λe W'=>
   ∃u',e=.returned u'/\E W' u' (step (pre.foldl step a0) p)/\Keep (zaB (w.heap.size+4) W) W W') :
 Calls xT 178 #[.func (.func V) #[] lb,.slice J 0 K,.func (.func 179) #[] #[]] w λe w'=>∃u,e=.returned u/\E w' u (xs.foldl step a0)/\Below w.heap.size w w':=by
 have an:=qL hit;have ak:=qL af;have U:=qL ah;have M:=qL ag;have aq:=qL N;clear hit af ah ag N;refine callsIn_wide.1 (t9 (n:=9) func178 rfl trivial ?_ rfl);simp only[ntmps178,WA,wv,Ww,Nat.reduceAdd,Nat.reduceSub,uu,uv,uG,uw,Yf,yb]
 gi_wp2
 obtain⟨I,L⟩:=xt (((w.alloc (Obj.cells #[Value.slice J 0 K] 213)).alloc (Obj.cells #[Value.func (Fn.func 179) #[] #[]] 261)));have ay:I.heap.size=w.heap.size+2:=by rw[<-L];simp
 have b0:Boxed I w.heap.size 213 (Value.slice J 0 K):=by rw[<-L];exact(tT w _ _).alloc _
 have b1:Boxed I (w.heap.size+1) 261 (Value.func (Fn.func 179) #[] #[]):=by rw[<-L];have:=tT (w.alloc (Obj.cells #[Value.slice J 0 K] 213)) 261 (Value.func (Fn.func 179) #[] #[]);rw[tv]at this;exact this
 have X:Below w.heap.size w I:=by rw[<-L];exact((tr _ _).alloc (Zp _) _).alloc b6 _
 try simp only[tv]
 rw [L];clear L;refine Xt (w:=I) V lb rfl eg Y4 (λ_=>rfl) (λ_=>False) (PtF w.heap.size Bk Bi) xs ?hit
  (SF w.heap.size 213) (λA B h k hk O=>h.2.block k O (by rintro(e|⟨e,_⟩)<;>omega)) (λA B h=>h.pt au ar b8 b8)
  ?hPt ?hPt0 ⟨id,id⟩
  (λpre W=>(∃u,Boxed W w.heap.size 213 u/\E W u (pre.foldl step a0))/\Boxed W (w.heap.size+1) 261 (Value.func (Fn.func 179) #[] #[])/\Below w.heap.size w W)
  (λ_ _ _=>False) ?hI (λ_ _ _ _ h _=>h) ⟨⟨_,b0,ak.o _ X⟩,b1,X⟩
  (λpre x a' W=>((∃u,Boxed W w.heap.size 213 u/\E W u (pre.foldl step a0))/\Boxed W (w.heap.size+1) 261 (Value.func (Fn.func 179) #[] #[])/\Below w.heap.size w W) /\
    ∃Q,W.heap[Q]?=some (.cells #[sv x.2.1,sv x.2.2] 59 (0,0))/\I.heap.size+2<=Q /\
    a'={ tmps:=#[Value.func (Fn.func V) #[] lb,Value.slice J 0 K,Value.func (Fn.func 179) #[] #[],undef,Value.pointer (some ⟨w.heap.size,0,none⟩),Value.pointer (some ⟨w.heap.size+1,0,none⟩),Value.slice none 0 0,.int .i64 (x.1:Nat),Value.pointer (some ⟨Q,0,none⟩),Value.func (Fn.func V) #[] lb,.int .i64 (x.1:Nat),.agg #[sv x.2.1,sv x.2.2],undef,undef,undef,undef,undef,undef],defers:=[] })
  ?hAx ?hassign ?hbody ?hdone (λ_ _ _ _ h _=>h.elim)
 case hit=>intro W hk ax;exact an.o W (X.trans (hk.below a8 λ_ _=>id))
 case hPt=>
  rintro A B C ⟨j,G⟩ ⟨H,y⟩;refine⟨V1 j H,λk hk F=>?_⟩;have e1:=G k hk F;refine(y k a8 ?_).trans e1;rcases F with F|F|F|⟨cs,f,F⟩
  .exact .inl F
  .exact .inr (.inl F)
  .exact .inr (.inr (.inl F))
  .exact .inr (.inr (.inr ⟨cs,f,by rw[e1];exact F⟩))
 case hPt0=>
  rintro A B hk ⟨o,ho⟩;refine⟨hk.size,λk O F=>hk.block k O ?_⟩;rintro rfl;rcases F with F|F|F|⟨cs,f,F⟩
  .omega
  .omega
  .omega
  .rw[ho]at F;cases F
 case hI=>rintro pre A B ⟨⟨u,j,G⟩,H,y⟩ av;have hk:Keep (λk=>k=I.heap.size\/k=I.heap.size+1) A B:=av.mono λ_ _ h=>h.elim False.elim id;exact⟨⟨u,hk.boxed j a8,M.o _ _ _ _ G (hk.mono λk _ h=>a8)⟩,hk.boxed H a8,y.trans (hk.below y.size λk hk=>a8)⟩
 case hAx=>rintro pre x a' A B ⟨⟨⟨u,j,G⟩,H,y⟩,Q,h5,h6,rfl⟩ hk;exact⟨⟨⟨u,hk.boxed j a8,M.o _ _ _ _ G (hk.mono λk _ h=>a8)⟩,hk.boxed H a8,y.trans (hk.below y.size λk hk=>a8)⟩,Q,hk.obj h5 a8,h6,rfl⟩
 case hassign=>
  rintro l pre ⟨i,⟨⟨x0,x1,x2⟩,⟨y0,y1,y2⟩⟩⟩ W ac O ⟨⟨u,j,G⟩,H,y⟩;clear ac;dsimp only[Y4,sv];have HX:=qL (And.intro j (And.intro G (And.intro H y)));clear j G H y
  gi_wp2
  obtain⟨j,G,H,y⟩:=HX.o;have P:∀o S,Keep S W (W.alloc o):=λo S=>(Keep.refl _ _).alloc _;refine⟨⟨⟨u,j⟩,P _ _⟩,⟨⟨u,(P _ (λ_=>False)).boxed j id,M.o _ _ _ _ G (P _ _)⟩,(P _ (λ_=>False)).boxed H id,y.alloc y.size _⟩,W.heap.size,tn W _,a8,rfl⟩
 case hbody=>
  rintro l pre ⟨i,⟨⟨x0,x1,x2⟩,⟨y0,y1,y2⟩⟩⟩ a' W ac O ⟨⟨⟨u,j,G⟩,H,y⟩,Q,h5,h6,rfl⟩;obtain⟨ua,un,uc,rfl⟩:=U.o _ _ _ G;have ae:=aq.o W _ pre _ ac a8 y G;dsimp only[sv]at ae h5⊢;have c0:=j.cell;have c1:=H.cell;have c2:W.cell? ⟨Q,0,none⟩=some (.slice x0 x1 x2):=(by simp[World.cell?,h5]);have c3:W.cell? ⟨Q,1,none⟩=some (.slice y0 y1 y2):=(by simp[World.cell?,h5]);have HS:=qL ae;have HX:=qL (And.intro j (And.intro H y));clear ae j G H y h5
  gi_wp2_with (refine⟨trivial,?_⟩;gi_at_call 179;refine(callsIn_wide.2 HS.o).mono ?_;rintro e W1 ⟨u',rfl,Y,Z⟩
               obtain⟨va,vn,vc,rfl⟩:=U.o _ _ _ Y;have j:Boxed W1 w.heap.size 213 (.slice ua un uc):=Z.boxed HX.o.1 (λh=>by have:=h.1;omega);have d0:=j.cell;have d1:=j.frozen;have am:=qL Y;have ao:=qL Z;have aj:=qL j;clear Y Z j)
  have aw:Keep (λk=>k=w.heap.size) W1 (W1.setCell ⟨w.heap.size,0,none⟩ (.slice va vn vc)):=(Keep.refl (λk=>k=w.heap.size) W1).setCell (p:=⟨w.heap.size,0,none⟩) (λ_=>rfl) _;obtain⟨j,H,y⟩:=HX.o;have ab:Keep (λk=>k=w.heap.size\/zaB (w.heap.size+4) W k) W (W1.setCell ⟨w.heap.size,0,none⟩ (.slice va vn vc)):=(ao.o.mono λk _ h=>.inr h).setCell (p:=⟨w.heap.size,0,none⟩) (λ_=>.inl rfl) _;refine⟨⟨⟨_,j⟩,ab⟩,⟨_,aj.o.set _,?_⟩,ab.boxed H (by rintro(e|⟨e,_⟩)<;>omega),y.trans (ab.below y.size λk hk=>by rintro(e|⟨e,_⟩)<;>omega)⟩;rw[WW];exact M.o _ _ _ _ am.o (aw.mono λk _ h=>.inl h)
 case hdone=>
  rintro W ⟨⟨u,j,G⟩,H,y⟩ hD;obtain⟨ua,un,uc,rfl⟩:=U.o _ _ _ G;have F:=j.cell;have HX:=qL (And.intro G y);clear j G H y
  gi_wp2
  refine⟨b6,.inl ⟨_,_,rfl,Tb hD,?_⟩⟩;have ai:Keep (λk=>k=I.heap.size) W (W.putObj I.heap.size (.deferred none)):=(Keep.refl (λk=>k=I.heap.size) W).putObj (λ_=>rfl) _;exact⟨_,tJ rfl _ _ _,_,rfl,M.o _ _ _ _ HX.o.1 (ai.mono λk _ h=>a8),HX.o.2.trans (ai.below HX.o.2.size λk hk=>a8)⟩
def zgV(P:Program)(w:Nat)(u:List Nat)(id:Nat)(o:Array Oper)(j:Bool):PC:=(qx P w u (.region id o j)).getD .sk
def zgW(c:Operand):PO:=(po c).getD (.c .und)
def pcT(P:Program)(o:Nat)(j:List Nat)(k:Nat)(X:PC):Code->PC
 |.region id ops draw=>if id=k then X else zgV P o j id ops draw
 |.seq a b=>.sq (pcT P o j k X a) (pcT P o j k X b)
 |.cond c a b=>.cd (zgW c) (pcT P o j k X a) (pcT P o j k X b)
 |.block id a=>.bk id (pcT P o j k X a)
 |.loop a=>.lp [] (pcT P o j k X a)
 |.exit id=>.ex id
 |.ret=>.rt
 |.scope a=>pcT P o j k X a
 |_=>.sk
def zhs{P:Program}{f:FuncId}{fn:Func}(B:P.funcs[f]?=some fn)(j:List Nat){o:List PV}{r:PV}(n:Nat)(u:zbo P fn j n=true)(C:o.length=n)(w:∀p∈o,p.own=none)(k:Nat)(X:PC){c:Code}(A:xN fn=c)(E:qx P fn.ntmps j c=some (pcT P fn.ntmps j k X c))(y:pW P fn.ntmps True (pcT P fn.ntmps j k X c) (jG (zgk P fn) r) ⟨qQ 0 o,[]⟩):Cn P f o r:=by refine zgM B j n u C w ?_;unfold zbt;rw[A,E,WP];exact y
attribute [local go_sem] Oper.semAt_some
def zsw{w:World}{g:Nat}{o:Array Value}{T:TypeId}(h:w.heap[g]?=some (.cells o T (0,0)))(i:Nat)(v:Value):(w.setCell ⟨g,i,none⟩ v).heap[g]?=some (.cells (o.setIfInBounds i v) T (0,0)):=by obtain⟨j,hk⟩:=XV.1 h;show (w.heap.modify g _)[g]?=_;rw[Wd (by rw[Array.size_modify];exact j),Array.getElem_modify_self,hk];simp
structure Kd(base:Nat)(w w':World):Prop where
 below:Below base w w'
 cell:∀a v,w.cell? a=some v->∃v',w'.cell? a=some v'/\(v'=v\/((∃m,v=.int .u64 m)/\∃m',v'=.int .u64 m'))
 frz:∀a v,w.cell? a=some v->w'.frozen? a=w.frozen? a
section
variable {S T:Nat->Prop}{base b o:Nat}{w w':World}{v:Value}
end
def wpList_append_copy{w:World}{O:Array Oper}{rest:List Oper}{o:Oper}{a:Act}{Q:Exit->Act->World->Prop}(L:o.guard=none)(s x:Operand)
 (ho:o.op=.call { callee:=.builtin .append,args:=#[s,x],argTypes:=#[24,24] }) (i:TypeInfo) (z:Value) (y:Nat)
 (hi:xT.info? 61 = some i) (hz:i.zero=some z) (G:i.size=2) (X:i.bytes=y) (V:y<=64) (hzs:z.cells.size=2)
 (B:Nat) (hs:a.eval s=.slice (some ⟨B,0,none⟩) 0 0) (hB:w.heap[B]?=some (.cells #[] 61 (0,0))) (N:Nat) (ab:N<=B)
 {v:Value} {l:List Iv} (hx:a.eval x=v) (hr:RdR 0 w.heap.size w v l) (hl:l.length<=1099511627776)
 (h:∀S w',OwnR N w' S l->Below B w w'->wpList xT O Q rest (a.put o.dst S) w') :
 wpList xT O Q (o::rest) a w:=by
 have ae:B<w.heap.size:=(XV.1 hB).1;have A:w.ownsRow N 61 2 (.slice (some ⟨B,0,none⟩) 0 0) 0 []:=⟨rfl,.inr ⟨B,0,#[],rfl,ab,hB,Zp _,b8,rfl,rfl⟩⟩;have I:=hr.bound;obtain⟨T,U,rfl,ag,af,Y⟩:=hr;cases T with
 | none=>
   obtain rfl:l=[]:=by
    cases l with
    |nil=>rfl
    |cons s l=>obtain⟨b,C,e,_⟩:=Y b6;cases e
   refine TU L λK hK=>?_;have E:OwnR N w (.slice (some ⟨B,0,none⟩) 0 0) []:=⟨A,b6⟩;have hq:=hK _ _ (h _ _ E (tr _ _));clear A Y I h hK E;simp only[Ww]at hx;unfold Oper.wp execOp;simp only[ho,resolve,invoke,builtin,tE,tH,tx,uf,Wx,W6,hs,hx];go_simp;exact hq
 | some T=>
   refine Td (P:=xT) w L s x 24 ho N 61 i z 2 y underlying24 hi hz G X hzs b8 _ 0 [] hs A T l.length U (xw l) hx (y6 l) ?_ ?_ c8 ?_ a8 ?_
   .intro j u M;have Z:j<l.length*2:=by
     have:=(Zw.1 M).1
     rwa[y6]at this
    have ac:l≠[]:=(by intro e;subst e;simp at Z);obtain⟨b,C,e,_,_,F⟩:=Y ac;cases e;have H:(⟨b,C,none⟩:Addr).add j=⟨b,C+j,none⟩:=by unfold Addr.add;split<;>simp_all
    rw[H];have hk:j/2<l.length:=a8;obtain⟨g1,g2,_⟩:=F (j/2) hk;obtain⟨f1,f2⟩:=vz l (j/2) hk;rcases UN j with h0|h0
    .have e:j/2*2=j:=a8;rw[e]at g1 f1;rw[f1]at M;cases M;exact g1
    .have e:j/2*2+1=j:=a8;rw[show C+j/2*2+1=C+j from by omega]at g2;rw[e]at f2;rw[f2]at M;cases M;exact g2
   .intro u hu;simp[xw]at hu;obtain⟨s,_,rfl|rfl⟩:=hu<;>rfl
   .calc (0+l.length)*y<=1099511627776*64:=UO a8 V
     _<=140737488355328:=b8
   .intro S w' ho J _ hv;refine h S w' ⟨?_,I⟩ ⟨J.os,J.tape,J.output,J.size,λk hk=>J.block k a8 (by simp[Value.ownBlock];omega)⟩;simpa using ho
def zff(b:Addr)(n c:Nat)(w:World):(binOp .eql 24 (.slice (some b) n c) (.slice none 0 0)).run xT w=.ok (.bool false) w:=dK
def zqL(n c:Nat)(w:World):(binOp .eql 24 (.slice none n c) (.slice none 0 0)).run xT w=.ok (.bool true) w:=dK
def zeX{w:World}{v:Value}{l:List Iv}(G:RdR 0 w.heap.size w v l)(N:l.length<=1099511627776):
 Calls xT 72 #[v] w λe w'=>∃C,e=.returned C/\OwnR w.heap.size w' C l/\Below w.heap.size w w':=by
 obtain⟨Q,u,y,A,B⟩:=tP Tryz.infoIv;have K:=qL G;obtain⟨a,o,rfl,L,M,E⟩:=G;cases a with
 | none=>
   have H:=qL (show l=[] from wT λO=>by obtain⟨b,S,e,_⟩:=E O;cases e);have P:=zqL l.length o;clear L M E u y A B;go_enter func72,ntmps72
   go_wp2;go_ret;exact⟨_,rfl,by rw[H.o];exact OwnR.nil _ _,tr _ _⟩
 | some b=>
   clear E;have I:qA (RdR 0 (w.alloc (.cells #[] 61)).heap.size (w.alloc (.cells #[] 61)) (.slice (some b) l.length o) l):=qL (K.o.keep (Zp _) b6 λj _ h=>tu _ _ _ h);have J:=tn w (.cells #[] 61 (0,0));have P:=zff b l.length o;go_enter func72,ntmps72
   go_wp2_with (at_builtin;refine wpList_append_copy rfl _ _ rfl Q (.agg #[.int .u64 0,.int .u64 0]) 16 u y A B b8 rfl w.heap.size rfl J w.heap.size (Zp _) rfl I.o N ?_;intro C w' ho F)
   go_ret;exact⟨C,rfl,ho,((tr _ w).alloc (Zp _) (.cells #[] 61 (0,0))).trans F⟩
def zii{P:Program}{I:Nat}{ms:List Nat}{c:Code}{U:PC}(Y:qx P I ms c=some U){D0 D:Qk}{w0 w:World}(C:GL D0 w0)(a:Act)(L:Fr ⟨w0,D0,λ_=>False,C,a.defers⟩ D w)(X:∀b o,D b o->b<w.heap.size){rb:Nat}(M:w0.heap.size<=rb){x:Value}{p:PV}{e:TypeId}(K:w.heap[rb]?=some (.cells #[x] e (0,0)))(hx:Dat D w x p)(T:x.oneCell'=true)(J:∀o,¬D rb o)
 (N:a.tmps.size=I) (F:List (Nat×PV)) (O:∀t,(yr F t=.bx 0 0/\zB a t=.pointer (some ⟨rb,0,none⟩))\/Dat D w (zB a t) (yr F t)) (G:∀t,(yr F t).own=none) (hp:p.own=none) {Q:PX->PS->Prop} (S:pW P I True U Q ⟨F,[[p]]⟩) :
 c.wp P (QL ⟨w0,D0,λ_=>False,C,a.defers⟩ I Q) a w:=by
 have E:∀u q,zQ ⟨D,λ_=>rb⟩ ⟨F,[[p]]⟩ (zB a) w u q->q.own=none:=by
  rintro u q (⟨t,rfl,rfl⟩|⟨i,j,V,y,A,_⟩)
  .exact G t
  .match i,y with
   |0,y=>
     cases y;match j,A with
     |0,A=>cases A;exact hp
     |j+1,A=>simp at A
   |i+1,y=>simp at y
 refine Ql (B:=⟨w0,D0,λ_=>False,C,a.defers⟩) (λ_ _ h=>h) c U Y Q ⟨F,[[p]]⟩ ⟨D,λ_=>rb⟩ a w S ⟨⟨λt=>?_,λi V hi=>?_,λi j hi Z _=>?_,λu q h=>zr (E u q h),λu q u' q' b h _ ho=>absurd (E u q h) ho,λu q b i h ho=>absurd (E u q h) ho,X,λi _ o=>J o,L⟩,rfl,N⟩
 .show Rel D (λ_=>rb) 1 w (zB a t) (yr F t);rcases O t with⟨y,A⟩|h
  .rw[y,A];exact .inl (.inr ⟨0,0,rfl,b8,rfl⟩)
  .exact .dat h
 .match i,hi with
  |0,hi=>
    cases hi;refine⟨.inl M,#[x],e,K,rfl,λj q H=>?_⟩;match j,H with
    |0,H=>cases H;exact⟨.dat hx,T⟩
    |j+1,H=>simp at H
  |i+1,hi=>simp at hi
 .simp at hi Z;omega
def zih{P:Program}{nt:Nat}{c:Code}(G:(qx P nt [] c).isSome=true){D0 D:Qk}{w0 w:World}(j:GL D0 w0)(a:Act)(F:Fr ⟨w0,D0,λ_=>False,j,a.defers⟩ D w)(L:∀b o,D b o->b<w.heap.size){rb:Nat}(H:w0.heap.size<=rb){x:Value}{p:PV}{e:TypeId}(E:w.heap[rb]?=some (.cells #[x] e (0,0)))(N:Dat D w x p)(K:x.oneCell'=true)(C:∀o,¬D rb o)
 (I:a.tmps.size=nt) (B:List (Nat×PV)) (J:∀t,(yr B t=.bx 0 0/\zB a t=.pointer (some ⟨rb,0,none⟩))\/Dat D w (zB a t) (yr B t)) (u:∀t,(yr B t).own=none) (M:p.own=none) {Q:PX->PS->Prop} (A:pW P nt True ((qx P nt [] c).getD .sk) Q ⟨B,[[p]]⟩) :
 c.wp P (QL ⟨w0,D0,λ_=>False,j,a.defers⟩ nt Q) a w:=by
 obtain⟨O,y⟩:=wX.1 G;rw[y]at A;exact zii y j a F L H E N K C I B J u M A
def zfM{P:Program}{fn:Func}{Q:Nat}{x y:RV}{B:Bs}(U:yc P fn.results.toList=some [x,y]){p q:PV}{e:Exit}{a:Act}{w:World}(h:QL B Q (jG [x,y] (.tup [p,q])) e a w):
 (e=.normal\/e=.ret)/\a.defers=B.df/\∃(v:Value) (A:Qk),(results fn a.tmps).run P w=.ok v w/\Fr B A w/\(∀b o,A b o->b<w.heap.size)/\Dat A w v (.tup [p,q]):=by
 have H:∀s g,RA B Q g s a w->jC [x,y] s (.tup [p,q])->a.defers=B.df/\∃(v:Value) (A:Qk),(results fn a.tmps).run P w=.ok v w/\Fr B A w/\(∀b o,A b o->b<w.heap.size)/\Dat A w v (.tup [p,q]):=by
  intro s g K G;obtain⟨J,L,_⟩:=K;have j:(match YJ s [x,y]with|some S=>S.all PV.resD=true/\SubP 0 (.tup (S.map PV.sh)) (.tup [p,q])|none=>False):=by cases x<;>exact G
  have M:∀{I u},YJ s I=some u->u.length=I.length:=by
   intro I;induction I with
   |nil=>intro u h;cases h;rfl
   |cons x l ih=>intro u h;simp only[YJ,Z3,ZZ]at h;obtain⟨p,_,Y,N,rfl⟩:=h;simp[ih N]
  cases E:YJ s [x,y]with
  |none=>rw[E]at j;exact j.elim
  | some u=>
    rw[E]at j;obtain⟨F,C⟩:=j;obtain⟨us,V,O,_,X⟩:=Kj J U E F;have T:us.length=2:=(by rw[O,M E];rfl);match us,T with
    |[u1,u2],_=>refine⟨L,.tuple #[u1,u2],g.D,xZ fn _ V,J.fr,J.dlt,ze2 (ρ:=g.ρ) (SubP.rel C (nb:=0) (.dat (.tup _ _ (by simp[<-O]) λi p E=>?_)))⟩;simp only[wk,ZZ]at E;obtain⟨q,N,rfl⟩:=E;have:=X i q N;simpa[vw]using this
 cases e with
 |normal=>obtain⟨s,g,F,C⟩:=h;exact⟨.inl rfl,H s g F C⟩
 |ret=>obtain⟨s,g,F,C⟩:=h;exact⟨.inr rfl,H s g F C⟩
 |exit id=>obtain⟨s,g,F,C⟩:=h;exact C.elim
 |goto l=>exact h.elim
 |panic ch=>exact h.elim
 |outgrown=>exact h.elim
end
section
open Go.RowKit
instance kpoW:Pl.Kpo World:=⟨Keep qe,λw=>Keep.refl _ w,λ_ _ _ h k=>h.trans k⟩
namespace Pl
variable {Ω:Type}[Kpo Ω]
def walkE_mono{j:Oper->Act->Ω->(Act->Ω->Prop)->Prop}{a0:Act}{w0:Ω}{C:Ω->Prop}{E u:List (Option Tmp×VP Ω)->Prop}(w:∀env,E env->u env):∀(l:List Oper)(env:List (Option Tmp×VP Ω)),walkE j a0 w0 C E l env->walkE j a0 w0 C u l env
 |[],env,h=>w env h
 |o::l,env,⟨V,h1,h2,h3⟩=>⟨V,h1,h2,walkE_mono w l _ h3⟩
omit [Kpo Ω] in
def finG_mono{F j:Act->Ω->Prop}{w:Ω}(hF:∀a w,F a w->j a w):∀(env:List (Option Tmp×VP Ω))(a:Act),finG F w env a->finG j w env a
 |[],a,h=>hF a w h
 |(none,_)::r,a,h=>finG_mono hF r a h
 |(some d,V)::r,a,h=>λu o=>finG_mono hF r _ (h u o)
section
variable {P:Program}{Q:Exit->Act->World->Prop}{a0:Act}{w0:World}{C:World->Prop}{E:List (Option Tmp×VP World)->Prop}{l:List Oper}{o:Oper}{env:List (Option Tmp×VP World)}{f:Nat->Nat}
def wdetK(v:Value)(B:o.guard=none)(h:∀a w,C w->Keep qe w0 w->Rds env a0 (zA o) a w->(execOp a.eval o).run P w=.ok (.value v) w)
 (F:walkE (xC P Q) a0 w0 C E l (env++[(o.dst,λu _=>u=v)])):walkE (xC P Q) a0 w0 C E (jA f o::l) env:=
 ⟨λu _=>u=v,λ_ _ _ h _=>h,by
  have j:(jA f o).guard=none:=(by simp[jA,B]);unfold stepOk;rw[j];intro a w y hk G K A;show (jA f o).wp P a w K Q;rw[Xq];show o.upon P a K Q ((execOp a.eval o).run P w);rw[h a w y hk G];exact A v w (Keep.refl _ _) y rfl,F⟩
def wgenK(V:VP World)(hs:∀u w w',V u w->Keep qe w w'->V u w')(B:o.guard=none)
 (h:headOk (xC P Q) a0 w0 C env o V) (F:walkE (xC P Q) a0 w0 C E l (env++[(o.dst,V)])):walkE (xC P Q) a0 w0 C E (jA f o::l) env:=
 ⟨V,hs,by
  have j:(jA f o).guard=none:=(by simp[jA,B]);unfold stepOk;rw[j];intro a w A hk G K y;show (jA f o).wp P a w K Q;rw[Xq];exact h a w A hk G K y,F⟩
end
end Pl
def znC{P:Program}{id:Nat}{l:List Oper}{Q:Exit->Act->World->Prop}{a:Act}{w:World}(σ:List Nat)(y nt:Nat)(C:World->Prop)(hm:P.follows .mixedOrders=true)(hp:q9 l.length σ=true)
 (V:(zck (z8 l σ).toArray y 1 nt && yK (z8 l σ).toArray (y+1))=true) (ac:a.tmps.size=nt) (hC:C w.drew) (j u:Oper) (hcut:(z8 l σ)[y+1]?=some j) (N:(z8 l σ)[y]?=some u) (ab:j.guard=none) (O:u.guard=none) (H:List Oper) (M:(z8 l σ).drop (y+2)=H)
 (h:Pl.walkE (xC P Q) a w.drew C (λenv=>(∀w',C w'->Keep qe w.drew w'->Pl.finG (λa w=>wpList P (z8 l σ).toArray Q (j::H) a w) w' env a)/\∀w',C w'->Keep qe w.drew w'->Pl.finG (λa w=>j.wp P a w (λa w=>wpList P (z8 l σ).toArray Q (u::H) a w) Q) w' (env.take y) a) ((z8 l σ).take (y+1)) []):(Code.region id l.toArray true).wp P Q a w:=by
 refine TQ hm ?_;refine xd hp ?_;generalize z8 l σ=L at *;rw[V0]at V;obtain⟨ad,T,hR,G,A,F⟩:=KI V.1;have hs:y+2<=L.length:=dJ T
 have Z:L.drop (y+1)=j::H:=by rw[VS a8,M];rw[Zv a8]at hcut;rw[wA hcut]
 obtain⟨U,E⟩:∃U:Nat->Act->World->Prop,U=λc=>match c with|0=>wpList P L.toArray Q (u::H)|_=>wpList P L.toArray Q H:=⟨_,rfl⟩
 refine Pl.greadyC (Ω:=World) (ops:=L.toArray) (nh:=y) (r:=1) (a0:=a) (w0:=w.drew) (C:=C) rfl (xC P Q) (wpOp P L.toArray Q) (wpAny P .any L.toArray Q) (λa w=>Q .normal a w) (λk a w=>wpList P L.toArray Q (L.drop k) a w)
  ?_ (λi K K' a w hk hs=>Tq hk hs) (λB a w I J=>⟨I,J⟩) (λae B a w I J=>⟨I,J⟩) ?_ ?_ ad hR G A F V.2 T U ?_ ?_ ac hC (Pl.walkE_mono ?_ _ _ h)
 .intro i o K a w ho hs;unfold wpOp;simp only[ho];split
  .rename_i hw;rw[vD hw]at hs;exact .inl hs
  .rename_i hw;rw[Vq hw]at hs;exact hs
 .intro k a w hk ht;have S:k<L.length:=(dJ hk);simp only[VS S,wpList]at ht;unfold wpOp;simp only[wF,Zv S];exact ht
 .intro a w ht;simpa[wpList]using ht
 .intro c a w Y ht;obtain rfl:c=0:=a8;rw[E]at ht⊢;simp only[wpList,vD (show Region.wanted u (yielded L.toArray a.tmps)=true by simp[Region.wanted,O])]at ht;unfold wpOp;simp only[wF,ud,N];rw[vD (show Region.wanted u (yielded L.toArray a.tmps)=true by simp[Region.wanted,O])];exact ht
 .intro a w ht;rw[E]at ht;show wpList P L.toArray Q (L.drop (y+2)) a w;rw[M];exact ht
 .rintro env ⟨I,J⟩;refine⟨λw' Y hk=>?_,λc Y w' X hk=>?_⟩
  .rw[Z];exact I w' Y hk
  .obtain rfl:c=0:=a8;refine Pl.finG_mono (λa w h=>?_) _ _ (J w' X hk);unfold wpOp;simp only[wF,hcut];rw[vD (show Region.wanted j (yielded L.toArray a.tmps)=true by simp[Region.wanted,ab]),E];exact .inl h
end
section
open Go.RowKit Go.Sort
abbrev zg:Int->Value:=Value.int .u64
def Zb(x:Int)(w:World):Calls xT 195 #[.int .u64 x] w λe w'=>e=.returned (.bool false)/\w'=w:=by
 go_enter func195,ntmps195
 go_wp2;go_ret;exact⟨b6,rfl⟩
def za(x y:Int)(w:World):Calls xT 189 #[.int .u64 x,.int .u64 y] w λe w'=>e=.returned (.bool (Sort.ltInt x y))/\w'=w:=by
 go_enter func189,ntmps189
 go_wp2_with (go_at_call 195;refine(Zb _ _).mono ?_;rintro e w' ⟨rfl,rfl⟩)
 go_ret;exact⟨rfl,rfl⟩
def Zd(rb j X:Nat)(G:X<18446744073709551616)(w:World)(L:w.cell? ⟨rb,j,none⟩=some (.int .u64 X))(M:w.frozen? ⟨rb,j,none⟩=false):
 Calls xT 205 #[.pointer (some ⟨rb,j,none⟩)] w λe w'=>e=.returned (.int .u64 (xorNextN X:Nat))/\w'=(w.setCell ⟨rb,j,none⟩ (.int .u64 (xorNextN X:Nat))).drewN 3:=by
 obtain⟨A,o⟩:∃A:Nat,A=X ^^^ (X*8192%18446744073709551616):=⟨_,rfl⟩;obtain⟨B,u⟩:∃B:Nat,B=A ^^^ (A/128):=⟨_,rfl⟩;obtain⟨C,y⟩:∃C:Nat,C=B ^^^ (B*131072%18446744073709551616):=⟨_,rfl⟩;have I:A<18446744073709551616:=by rw[o];exact Nat.xor_lt_two_pow (n:=64) a8 a8
 have J:B<18446744073709551616:=by rw[u];exact Nat.xor_lt_two_pow (n:=64) a8 a8
 have e1:bits .xor .u64 (X:Int) (IntKind.u64.wrap ((X:Int)*8192))=(A:Int):=by rw[IntKind.wrap_u64,show ((X:Int)*8192%18446744073709551616)=((X*8192%18446744073709551616:Nat):Int) by omega,TS _ _ G a8,o]
 have e2:bits .xor .u64 (A:Int) ((A:Int)/128)=(B:Int):=by rw[show ((A:Int)/128)=((A/128:Nat):Int) by omega,TS _ _ I a8,u]
 have K:bits .xor .u64 (B:Int) (IntKind.u64.wrap ((B:Int)*131072))=(C:Int):=by rw[IntKind.wrap_u64,show ((B:Int)*131072%18446744073709551616)=((B*131072%18446744073709551616:Nat):Int) by omega,TS _ _ J a8,y]
 have E:xorNextN X=C:=by unfold xorNextN;simp only[];rw[<-o,<-u,<-y]
 rw[E];clear o u y E;have H:∀v F,(w.setCell ⟨rb,j,none⟩ v).setCell ⟨rb,j,none⟩ F=w.setCell ⟨rb,j,none⟩ F:=setCell_setCell w rb j;go_enter func205,ntmps205
 go_wp2;go_region;all_goals go_wp2
 all_goals go_region
 all_goals go_wp2
 all_goals go_region
 all_goals go_wp2
 go_ret;exact⟨rfl,rfl⟩
def kI(n:Nat)(o:n<4611686018427387904)(w:World):
 Calls xT 204 #[.int .i64 n] w λe w'=>e=.returned (.int .u64 ((1 <<< bitsLen n:Nat):Int))/\w'=w:=by
 have j:∀w,Calls xT 151 #[.int .u64 (n:Int)] w λe w'=>e=.returned (.int .i64 (bitsLen n:Nat))/\w'=w:=λw=>by
  have h:=ZC (n:Int) w a8 a8
  rwa[Int.toNat_natCast,bitLen_eq _ a8]at h
 have hk:bitsLen n<=62:=(bitsLen_le_iff n 62).2 a8;have u:=wrap_two_pow (bitsLen n) hk;go_enter func204,ntmps204
 go_wp2_with (first|(go_at_call 151;refine(j _).mono ?_;rintro e w' ⟨rfl,rfl⟩))
 go_ret;exact⟨rfl,rfl⟩
set_option maxRecDepth 1000000 in
def jB(zc j H:Nat)(d:Array Int)(a b:Nat)(w:World)(I:Holds zg w zc j d)(M:a<=b)(hb:b<=d.size)(O:d.size<4611686018427387904):
 Calls xT 187 #[.slice (some ⟨zc,j,none⟩) d.size H,.int .i64 a,.int .i64 b] w λe w'=>e=.returned (.tuple #[])/\∃n,w'=putRow zg (Sort.ahead w n) zc j (reverseRange d a b):=by
 go_enter func187,ntmps187
 go_wp2;go_loopg [6,7] (b-a) (λk P Q wr=>∃(i jn:Nat) (C:Int) (o:Array Int) (n:Nat),P=.int .i64 i/\Q=.int .i64 C/\((i:Int)<C->C=jn/\jn<d.size)/\(¬(i:Int)<C->¬i<jn)/\jn-i<=k /\
  o.size=d.size/\wr=putRow zg (Sort.ahead w n) zc j o/\reverseLoop i jn o=reverseLoop a (b-1) d)
 case atStart=>exact⟨a,b-1,(b:Int)-1,d,0,rfl,rfl,λh=>⟨a8,a8⟩,λh=>a8,a8,rfl,(Ta zg w zc j d I).symm,rfl⟩
 case round=>
  obtain⟨i,jn,C,o,n,rfl,rfl,K,L,hk,E,B,u⟩:=hrel;by_cases F:(i:Int)<C
  .obtain⟨rfl,N⟩:=K F;have J:i<jn:=a8;have y:Holds zg wr zc j o:=(by rw[B];exact Te zg _ zc j d o (tM zg w n zc j d I) E);obtain⟨S,fi⟩:=y i a8;obtain⟨T,U⟩:=y jn a8;have A:qA (wr=putRow zg (Sort.ahead w n) zc j o):=B;clear B y I K L
   go_wp2_with fail
   go_region
   go_wp2;go_roundg (jn-1-(i+1));case measure=>omega
   case rel=>
    rw[reverseLoop,vD J]at u;exact⟨i+1,jn-1,(jn:Int)-1,swp o i jn,n+1,b6,rfl,λh=>⟨a8,a8⟩,λh=>a8,Zp _,by rw[tQ];exact E,
     swap_world zg a8 a8 A.o (by simp[zg,tk,show jn<o.size by omega]) rfl,u⟩
  .have G:=L F
   go_wp2
   go_end0
   refine⟨rfl,n,?_⟩;rw[reverseLoop,Vq G]at u;rw[reverseRange,<-u]
end
end Go.Proofs.YtmpnbdhadjfbhaaGreatDoor
