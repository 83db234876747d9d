import Derived.Test.YtonhfknjcbakiaaGreatDoorB19
set_option maxHeartbeats 16000000
set_option linter.unusedVariables false
set_option linter.unusedSimpArgs false
set_option maxRecDepth 100000
namespace Go.Proofs.YtonhfknjcbakiaaGreatDoor.As
open Go.RowKit Go.Extern.Stop Go.Stop Go.Extern
theorem noAsD (v:Value) (a:TypeId) (w:World):(Instr.typeAssert (.iface 150 v) a 228 true).run Tryz.prog w=.ok (.tuple #[.nilIface,.bool false]) w:=run_typeAssert_lacksB Tryz.underlying228 (by kernel_rfl) (by kernel_rfl) v a w
theorem hasUwD (v:Value) (a:TypeId) (w:World):(Instr.typeAssert (.iface 150 v) a 222 true).run Tryz.prog w=.ok (.tuple #[.iface 150 v,.bool true]) w:=run_typeAssert_hasB Tryz.underlying222 (by kernel_rfl) v a w
theorem typeOfD (v:Value) (w:World):(ReflectliteType.typeOf #[.iface 150 v]).run Tryz.prog w=.ok (.iface 217 (.agg #[.pointer (some ⟨2,150,none⟩)])) w:=by kernel_rfl
theorem assignableDN (w:World):(ReflectliteType.relation "AssignableTo" ReflectliteType.assignableTo #[.agg #[.pointer (some ⟨2,150,none⟩)],.iface 217 (.agg #[.pointer (some ⟨2,82,none⟩)])]).run Tryz.prog w=.ok (.bool false) w:=by kernel_rfl
theorem assignableDF (w:World):(ReflectliteType.relation "AssignableTo" ReflectliteType.assignableTo #[.agg #[.pointer (some ⟨2,150,none⟩)],.iface 217 (.agg #[.pointer (some ⟨2,120,none⟩)])]).run Tryz.prog w=.ok (.bool false) w:=by kernel_rfl
theorem methodUnwrapD (s:ByteArray) (e:Value) (w:World):(Go.method 411 150 (.agg #[.string s,e]) "Unwrap").run Tryz.prog w=.ok (258,.agg #[.string s,e]) w:=by kernel_rfl
theorem as_DN (s:ByteArray) (c k:Int) (t:Addr) (y:Value) (w:World) (C:w.cell? ⟨0,0,none⟩=some (.iface 217 (.agg #[.pointer (some ⟨2,44,none⟩)]))) (j:w.cell? t=some y) (A:w.frozen? t=false) :
 Calls Tryz.prog 94 #[.iface 150 (.agg #[.string s,.iface 120 (.agg #[.int .i64 c,.int .i64 k])]),.iface 127 (.pointer (some t))] w fun ev U=>ev=.returned (.bool true)/\U=((((((w.alloc (.cells #[.pointer (some t)] 127)).alloc (.cells #[.pointer (some ⟨2,127,none⟩),.pointer (some ⟨w.heap.size,0,none⟩),.int .u64 150] 172)).alloc (.cells #[.pointer (some ⟨2,127,none⟩),.pointer (some ⟨w.heap.size,0,none⟩),.int .u64 150] 172)).alloc (.cells #[.string s,.iface 120 (.agg #[.int .i64 c,.int .i64 k])] 150)).alloc (.cells #[.int .i64 c,.int .i64 k] 120)).alloc (.cells #[.int .i64 c] 82)).setCell t (.int .i64 c):=by
 have h6:=fun a w=>xt0 a w
 have h7:=fun a w=>xt1 a w
 have h8:=fun a w=>xt2 a w
 have K:=fun a w=>xt3 a w
 have M:=fun a w=>xt4 a w
 have N:=fun a w=>xt5 a w
 have H:=fun a w=>xt6 a w
 have L:=fun a w=>xt7 a w
 have I:=fun a w=>xt8 a w
 have J:=fun a w=>xt9 a w
 have tO:=typeOfN
 have tF:=typeOfF
 have X:=assignableFN
 have mU:=methodUnwrap
 have nA:=noAs
 have hU:=hasUw
 have tD:=typeOfD
 have V:=assignableDN
 have mD:=methodUnwrapD
 have nD:=noAsD
 have hD:=hasUwD
 have mA:=methodAssignableTo
 have E:=assignableN
 have T:=valueOfN
 have Z:=valueOfNp
 have f7:=typeNp
 have mK:=methodKind
 have mE:=methodElem
 have mI:=methodImplements
 have S:=kindNp
 have Q:=kindN
 have F:=elemNp
 have P:=implementsN
 have n8:=isNilNp ⟨w.heap.size,0,none⟩ t ((w.alloc (.cells #[.pointer (some t)] 127)).alloc (.cells #[.pointer (some ⟨2,127,none⟩),.pointer (some ⟨w.heap.size,0,none⟩),.int .u64 150] 172)) (by simp)
 have B:0<w.heap.size:=by
  rcases Nat.eq_zero_or_pos w.heap.size with G | h
  ·simp [World.cell?,G] at C
  ·exact h
 have O:((w.alloc (.cells #[.pointer (some t)] 127)).alloc (.cells #[.pointer (some ⟨2,127,none⟩),.pointer (some ⟨w.heap.size,0,none⟩),.int .u64 150] 172)).cell? ⟨0,0,none⟩=some (.iface 217 (.agg #[.pointer (some ⟨2,44,none⟩)])):=by
  rw [World.cell?_alloc_lt _ _ ⟨0,0,none⟩ (by simp),World.cell?_alloc_lt _ _ ⟨0,0,none⟩ B];exact C
 have u:t.block<w.heap.size:=by
  rcases Nat.lt_or_ge t.block w.heap.size with h | h
  ·exact h
  ·simp [World.cell?,Array.getElem?_eq_none h] at j
 have Y:=elemVNp ⟨w.heap.size,0,none⟩ t (((((w.alloc (.cells #[.pointer (some t)] 127)).alloc (.cells #[.pointer (some ⟨2,127,none⟩),.pointer (some ⟨w.heap.size,0,none⟩),.int .u64 150] 172)).alloc (.cells #[.pointer (some ⟨2,127,none⟩),.pointer (some ⟨w.heap.size,0,none⟩),.int .u64 150] 172)).alloc (.cells #[.string s,.iface 120 (.agg #[.int .i64 c,.int .i64 k])] 150)).alloc (.cells #[.int .i64 c,.int .i64 k] 120)) (by rw [World.cell?_alloc_lt _ _ ⟨w.heap.size,0,none⟩ (by simp;omega),World.cell?_alloc_lt _ _ ⟨w.heap.size,0,none⟩ (by simp;omega),World.cell?_alloc_lt _ _ ⟨w.heap.size,0,none⟩ (by simp;omega)];simp)
 have st:=setN t ⟨w.heap.size+1+1+1+1+1,0,none⟩ c y ((((((w.alloc (.cells #[.pointer (some t)] 127)).alloc (.cells #[.pointer (some ⟨2,127,none⟩),.pointer (some ⟨w.heap.size,0,none⟩),.int .u64 150] 172)).alloc (.cells #[.pointer (some ⟨2,127,none⟩),.pointer (some ⟨w.heap.size,0,none⟩),.int .u64 150] 172)).alloc (.cells #[.string s,.iface 120 (.agg #[.int .i64 c,.int .i64 k])] 150)).alloc (.cells #[.int .i64 c,.int .i64 k] 120)).alloc (.cells #[.int .i64 c] 82))
  (by rw [World.cell?_alloc_at _ _ _ _ (by simp)];rfl)
  (by rw [World.cell?_alloc_lt _ _ t (by simp;omega),World.cell?_alloc_lt _ _ t (by simp;omega),World.cell?_alloc_lt _ _ t (by simp;omega),World.cell?_alloc_lt _ _ t (by simp;omega),World.cell?_alloc_lt _ _ t (by simp;omega),World.cell?_alloc_lt _ _ t u];exact j)
  (by rw [World.frozen?_alloc_old _ _ t (by simp;omega),World.frozen?_alloc_old _ _ t (by simp;omega),World.frozen?_alloc_old _ _ t (by simp;omega),World.frozen?_alloc_old _ _ t (by simp;omega),World.frozen?_alloc_old _ _ t (by simp;omega),World.frozen?_alloc_old _ _ t (Nat.ne_of_lt u)];exact A)
 go_enter Tryz.func94,Tryz.ntmps94
 go_wp2
 refine wp_loop_rounds 3 ?_
 rw [rounds_succ]
 go_wp2
 rw [rounds_succ]
 go_wp2
 rw [rounds_succ]
 go_wp2
 go_ret
 exact⟨rfl,rfl⟩
end Go.Proofs.YtonhfknjcbakiaaGreatDoor.As
namespace Go.Proofs.YtonhfknjcbakiaaGreatDoor.As
open Go.RowKit Go.Extern.Stop Go.Stop Go.Extern
theorem as_DF (s:ByteArray) (c k:Int) (T:Nat) (w:World) (y:w.cell? ⟨0,0,none⟩=some (.iface 217 (.agg #[.pointer (some ⟨2,44,none⟩)]))) (A:(w.cell? ⟨T,0,none⟩).isSome=true) (U:(w.cell? ⟨T,1,none⟩).isSome=true) (E:w.frozen? ⟨T,0,none⟩=false) (F:w.frozen? ⟨T,1,none⟩=false) :
 Calls Tryz.prog 94 #[.iface 150 (.agg #[.string s,.iface 120 (.agg #[.int .i64 c,.int .i64 k])]),.iface 123 (.pointer (some ⟨T,0,none⟩))] w fun ev X=>ev=.returned (.bool true)/\X=(((((w.alloc (.cells #[.pointer (some ⟨T,0,none⟩)] 123)).alloc (.cells #[.pointer (some ⟨2,123,none⟩),.pointer (some ⟨w.heap.size,0,none⟩),.int .u64 150] 172)).alloc (.cells #[.pointer (some ⟨2,123,none⟩),.pointer (some ⟨w.heap.size,0,none⟩),.int .u64 150] 172)).alloc (.cells #[.string s,.iface 120 (.agg #[.int .i64 c,.int .i64 k])] 150)).alloc (.cells #[.int .i64 c,.int .i64 k] 120)).setCells T 0 [.int .i64 c,.int .i64 k]:=by
 have h6:=fun a w=>xt0 a w
 have h7:=fun a w=>xt1 a w
 have h8:=fun a w=>xt2 a w
 have K:=fun a w=>xt3 a w
 have M:=fun a w=>xt4 a w
 have N:=fun a w=>xt5 a w
 have H:=fun a w=>xt6 a w
 have L:=fun a w=>xt7 a w
 have I:=fun a w=>xt8 a w
 have J:=fun a w=>xt9 a w
 have tO:=typeOfF
 have tD:=typeOfD
 have Y:=assignableDF
 have mD:=methodUnwrapD
 have nD:=noAsD
 have hD:=hasUwD
 have mA:=methodAssignableTo
 have B:=assignableF
 have V:=valueOfF
 have f6:=valueOfFp
 have f7:=typeFp
 have mK:=methodKind
 have mE:=methodElem
 have mI:=methodImplements
 have S:=kindFp
 have Q:=kindF
 have C:=elemFp
 have P:=implementsF
 have n8:=isNilFp ⟨w.heap.size,0,none⟩ ⟨T,0,none⟩ ((w.alloc (.cells #[.pointer (some ⟨T,0,none⟩)] 123)).alloc (.cells #[.pointer (some ⟨2,123,none⟩),.pointer (some ⟨w.heap.size,0,none⟩),.int .u64 150] 172)) (by simp)
 have u:0<w.heap.size:=by
  rcases Nat.eq_zero_or_pos w.heap.size with G | h
  ·simp [World.cell?,G] at y
  ·exact h
 have O:((w.alloc (.cells #[.pointer (some ⟨T,0,none⟩)] 123)).alloc (.cells #[.pointer (some ⟨2,123,none⟩),.pointer (some ⟨w.heap.size,0,none⟩),.int .u64 150] 172)).cell? ⟨0,0,none⟩=some (.iface 217 (.agg #[.pointer (some ⟨2,44,none⟩)])):=by
  rw [World.cell?_alloc_lt _ _ ⟨0,0,none⟩ (by simp),World.cell?_alloc_lt _ _ ⟨0,0,none⟩ u];exact y
 have j:T<w.heap.size:=by
  rcases Nat.lt_or_ge T w.heap.size with h | h
  ·exact h
  ·simp [World.cell?,Array.getElem?_eq_none h] at A
 have Z:=elemVFp ⟨w.heap.size,0,none⟩ ⟨T,0,none⟩ ((((w.alloc (.cells #[.pointer (some ⟨T,0,none⟩)] 123)).alloc (.cells #[.pointer (some ⟨2,123,none⟩),.pointer (some ⟨w.heap.size,0,none⟩),.int .u64 150] 172)).alloc (.cells #[.pointer (some ⟨2,123,none⟩),.pointer (some ⟨w.heap.size,0,none⟩),.int .u64 150] 172)).alloc (.cells #[.string s,.iface 120 (.agg #[.int .i64 c,.int .i64 k])] 150)) (by rw [World.cell?_alloc_lt _ _ ⟨w.heap.size,0,none⟩ (by simp;omega),World.cell?_alloc_lt _ _ ⟨w.heap.size,0,none⟩ (by simp;omega)];simp)
 have st:=setF T (w.heap.size+1+1+1+1) c k (((((w.alloc (.cells #[.pointer (some ⟨T,0,none⟩)] 123)).alloc (.cells #[.pointer (some ⟨2,123,none⟩),.pointer (some ⟨w.heap.size,0,none⟩),.int .u64 150] 172)).alloc (.cells #[.pointer (some ⟨2,123,none⟩),.pointer (some ⟨w.heap.size,0,none⟩),.int .u64 150] 172)).alloc (.cells #[.string s,.iface 120 (.agg #[.int .i64 c,.int .i64 k])] 150)).alloc (.cells #[.int .i64 c,.int .i64 k] 120))
  (by rw [World.cell?_alloc_at _ _ _ _ (by simp)];rfl)
  (by rw [World.cell?_alloc_at _ _ _ _ (by simp)];rfl)
  (by rw [World.cell?_alloc_lt _ _ ⟨T,0,none⟩ (by simp;omega),World.cell?_alloc_lt _ _ ⟨T,0,none⟩ (by simp;omega),World.cell?_alloc_lt _ _ ⟨T,0,none⟩ (by simp;omega),World.cell?_alloc_lt _ _ ⟨T,0,none⟩ (by simp;omega),World.cell?_alloc_lt _ _ ⟨T,0,none⟩ j];exact A)
  (by rw [World.cell?_alloc_lt _ _ ⟨T,1,none⟩ (by simp;omega),World.cell?_alloc_lt _ _ ⟨T,1,none⟩ (by simp;omega),World.cell?_alloc_lt _ _ ⟨T,1,none⟩ (by simp;omega),World.cell?_alloc_lt _ _ ⟨T,1,none⟩ (by simp;omega),World.cell?_alloc_lt _ _ ⟨T,1,none⟩ j];exact U)
  (by rw [World.frozen?_alloc_old _ _ ⟨T,0,none⟩ (by simp;omega),World.frozen?_alloc_old _ _ ⟨T,0,none⟩ (by simp;omega),World.frozen?_alloc_old _ _ ⟨T,0,none⟩ (by simp;omega),World.frozen?_alloc_old _ _ ⟨T,0,none⟩ (by simp;omega),World.frozen?_alloc_old _ _ ⟨T,0,none⟩ (Nat.ne_of_lt j)];exact E)
  (by rw [World.frozen?_alloc_old _ _ ⟨T,1,none⟩ (by simp;omega),World.frozen?_alloc_old _ _ ⟨T,1,none⟩ (by simp;omega),World.frozen?_alloc_old _ _ ⟨T,1,none⟩ (by simp;omega),World.frozen?_alloc_old _ _ ⟨T,1,none⟩ (by simp;omega),World.frozen?_alloc_old _ _ ⟨T,1,none⟩ (Nat.ne_of_lt j)];exact F)
 go_enter Tryz.func94,Tryz.ntmps94
 go_wp2
 refine wp_loop_rounds 2 ?_
 rw [rounds_succ]
 go_wp2
 rw [rounds_succ]
 go_wp2
 go_ret
 exact⟨rfl,rfl⟩
end Go.Proofs.YtonhfknjcbakiaaGreatDoor.As
namespace Go.Proofs.YtonhfknjcbakiaaGreatDoor.As
open Go.RowKit Go.Extern.Stop Go.Stop Go.Extern
theorem noIsD (v:Value) (a:TypeId) (w:World):(Instr.typeAssert (.iface 150 v) a 219 true).run Tryz.prog w=.ok (.tuple #[.nilIface,.bool false]) w:=run_typeAssert_lacksB Tryz.underlying219 (by kernel_rfl) (by kernel_rfl) v a w
theorem noIsF (v:Value) (a:TypeId) (w:World):(Instr.typeAssert (.iface 120 v) a 219 true).run Tryz.prog w=.ok (.tuple #[.nilIface,.bool false]) w:=run_typeAssert_lacksB Tryz.underlying219 (by kernel_rfl) (by kernel_rfl) v a w
theorem methodComparable (h:Value) (w:World):(Go.method 411 217 (.agg #[h]) "Comparable").run Tryz.prog w=.ok (264,.agg #[h]) w:=by kernel_rfl
theorem eqDN (x y:Value) (w:World):(binOp .eql 44 (.iface 150 x) (.iface 82 y)).run Tryz.prog w=.ok (.bool false) w:=by kernel_rfl
theorem eqFN (x y:Value) (w:World):(binOp .eql 44 (.iface 120 x) (.iface 82 y)).run Tryz.prog w=.ok (.bool false) w:=by kernel_rfl
theorem eqNN (c:Int) (w:World):(binOp .eql 44 (.iface 82 (.int .i64 c)) (.iface 82 (.int .i64 c))).run Tryz.prog w=.ok (.bool true) w:=by
 have h:(binOp .eql 44 (.iface 82 (.int .i64 c)) (.iface 82 (.int .i64 c))).run Tryz.prog w=.ok (.bool (c == c)) w:=by kernel_rfl
 rw [h,beq_self_eq_true]
theorem is_DN (s:ByteArray) (c k:Int) (w:World) :
 Calls Tryz.prog 139 #[.iface 150 (.agg #[.string s,.iface 120 (.agg #[.int .i64 c,.int .i64 k])]),.iface 82 (.int .i64 c),.bool true] w fun ev a=>ev=.returned (.bool true)/\a=(w.alloc (.cells #[.string s,.iface 120 (.agg #[.int .i64 c,.int .i64 k])] 150)).alloc (.cells #[.int .i64 c,.int .i64 k] 120):=by
 have C:=eqDN
 have E:=eqFN
 have F:=eqNN c
 have A:=noIsD
 have B:=noIsF
 have j:=hasUwD
 have hF:=hasUw
 have u:=methodUnwrapD
 have y:=methodUnwrap
 go_enter Tryz.func139,Tryz.ntmps139
 go_wp2
 refine wp_loop_rounds 3 ?_
 rw [rounds_succ]
 go_wp2
 rw [rounds_succ]
 go_wp2
 rw [rounds_succ]
 go_wp2
 go_ret
 exact⟨rfl,rfl⟩
theorem comparableN (w:World):(ReflectliteType.method (fun t=>do Rtype.noPackHeld "Comparable" t;(fun a:TypeInfo=>Value.bool a.comparable) <$> typeInfo t) #[.agg #[.pointer (some ⟨2,82,none⟩)]]).run Tryz.prog w=.ok (.bool true) w:=by kernel_rfl
theorem Is_DN (s:ByteArray) (c k:Int) (w:World) :
 Calls Tryz.prog 93 #[.iface 150 (.agg #[.string s,.iface 120 (.agg #[.int .i64 c,.int .i64 k])]),.iface 82 (.int .i64 c)] w fun ev a=>ev=.returned (.bool true)/\a=(w.alloc (.cells #[.string s,.iface 120 (.agg #[.int .i64 c,.int .i64 k])] 150)).alloc (.cells #[.int .i64 c,.int .i64 k] 120):=by
 have j:=@run_callFunc_extern Tryz.prog 138 _ ReflectliteType.typeOf Tryz.func138 (by kernel_rfl) (by kernel_rfl) (by kernel_rfl) (by kernel_rfl)
 have u:=@run_callFunc_extern Tryz.prog 264 _ (ReflectliteType.method (fun t=>do Rtype.noPackHeld "Comparable" t;pure (.bool (<-typeInfo t).comparable))) Tryz.func264 (by kernel_rfl) (by kernel_rfl) (by kernel_rfl) (by kernel_rfl)
 have B:=typeOfN
 have A:=methodComparable
 have y:=comparableN
 go_enter Tryz.func93,Tryz.ntmps93
 go_wp2_with (first
  | (go_at_call 139;refine(is_DN s c k _).mono ?_;rintro e a ⟨rfl,rfl⟩)
  | go_in)
 go_ret
 exact⟨rfl,rfl⟩
end Go.Proofs.YtonhfknjcbakiaaGreatDoor.As
