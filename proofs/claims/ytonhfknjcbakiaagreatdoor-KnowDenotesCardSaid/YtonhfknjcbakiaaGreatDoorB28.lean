import Derived.Test.YtonhfknjcbakiaaGreatDoorB19
set_option maxHeartbeats 16000000
set_option linter.unusedVariables false
set_option linter.unusedSimpArgs false
set_option maxRecDepth 100000
namespace Go.Proofs.YtonhfknjcbakiaaGreatDoor.As
open Go.RowKit Go.Extern.Stop Go.Stop Go.Extern
theorem noAsD (v:Value) (xT:TypeId) (w:World):(Instr.typeAssert (.iface 150 v) xT 228 true).run Tryz.prog w=.ok (.tuple #[.nilIface,.bool false]) w:=run_typeAssert_lacksB Tryz.underlying228 (by kernel_rfl) (by kernel_rfl) v xT w
theorem hasUwD (v:Value) (xT:TypeId) (w:World):(Instr.typeAssert (.iface 150 v) xT 222 true).run Tryz.prog w=.ok (.tuple #[.iface 150 v,.bool true]) w:=run_typeAssert_hasB Tryz.underlying222 (by kernel_rfl) v xT w
theorem typeOfD (v:Value) (w:World):(ReflectliteType.typeOf #[.iface 150 v]).run Tryz.prog w=.ok (.iface 217 (.agg #[.pointer (some ⟨2,150,none⟩)])) w:=by kernel_rfl
theorem assignableDN (w:World):(ReflectliteType.relation "AssignableTo" ReflectliteType.assignableTo #[.agg #[.pointer (some ⟨2,150,none⟩)],.iface 217 (.agg #[.pointer (some ⟨2,82,none⟩)])]).run Tryz.prog w=.ok (.bool false) w:=by kernel_rfl
theorem assignableDF (w:World):(ReflectliteType.relation "AssignableTo" ReflectliteType.assignableTo #[.agg #[.pointer (some ⟨2,150,none⟩)],.iface 217 (.agg #[.pointer (some ⟨2,120,none⟩)])]).run Tryz.prog w=.ok (.bool false) w:=by kernel_rfl
theorem methodUnwrapD (s:ByteArray) (e:Value) (w:World):(Go.method 411 150 (.agg #[.string s,e]) "Unwrap").run Tryz.prog w=.ok (258,.agg #[.string s,e]) w:=by kernel_rfl
theorem as_DN (s:ByteArray) (c k:Int) (t:Addr) (old:Value) (w:World) (hg:w.cell? ⟨0,0,none⟩=some (.iface 217 (.agg #[.pointer (some ⟨2,44,none⟩)]))) (ht0:w.cell? t=some old) (hf0:w.frozen? t=false) :
 Calls Tryz.prog 94 #[.iface 150 (.agg #[.string s,.iface 120 (.agg #[.int .i64 c,.int .i64 k])]),.iface 127 (.pointer (some t))] w fun ev w'=>ev=.returned (.bool true)/\w'=((((((w.alloc (.cells #[.pointer (some t)] 127)).alloc (.cells #[.pointer (some ⟨2,127,none⟩),.pointer (some ⟨w.heap.size,0,none⟩),.int .u64 150] 172)).alloc (.cells #[.pointer (some ⟨2,127,none⟩),.pointer (some ⟨w.heap.size,0,none⟩),.int .u64 150] 172)).alloc (.cells #[.string s,.iface 120 (.agg #[.int .i64 c,.int .i64 k])] 150)).alloc (.cells #[.int .i64 c,.int .i64 k] 120)).alloc (.cells #[.int .i64 c] 82)).setCell t (.int .i64 c):=by
 have h6:=fun a w=>xt0 a w
 have h7:=fun a w=>xt1 a w
 have h8:=fun a w=>xt2 a w
 have h27:=fun a w=>xt3 a w
 have h37:=fun a w=>xt4 a w
 have h38:=fun a w=>xt5 a w
 have h10:=fun a w=>xt6 a w
 have h35:=fun a w=>xt7 a w
 have h11:=fun a w=>xt8 a w
 have h12:=fun a w=>xt9 a w
 have tO:=typeOfN
 have tF:=typeOfF
 have aF:=assignableFN
 have mU:=methodUnwrap
 have nA:=noAs
 have hU:=hasUw
 have tD:=typeOfD
 have aD:=assignableDN
 have mD:=methodUnwrapD
 have nD:=noAsD
 have hD:=hasUwD
 have mA:=methodAssignableTo
 have a25:=assignableN
 have v25:=valueOfN
 have f6:=valueOfNp
 have f7:=typeNp
 have mK:=methodKind
 have mE:=methodElem
 have mI:=methodImplements
 have k27:=kindNp
 have k25:=kindN
 have e27:=elemNp
 have i25:=implementsN
 have n8:=isNilNp ⟨w.heap.size,0,none⟩ t ((w.alloc (.cells #[.pointer (some t)] 127)).alloc (.cells #[.pointer (some ⟨2,127,none⟩),.pointer (some ⟨w.heap.size,0,none⟩),.int .u64 150] 172)) (by simp)
 have hlt:0<w.heap.size:=by
  rcases Nat.eq_zero_or_pos w.heap.size with h0 | h
  ·simp [World.cell?,h0] at hg
  ·exact h
 have hg2:((w.alloc (.cells #[.pointer (some t)] 127)).alloc (.cells #[.pointer (some ⟨2,127,none⟩),.pointer (some ⟨w.heap.size,0,none⟩),.int .u64 150] 172)).cell? ⟨0,0,none⟩=some (.iface 217 (.agg #[.pointer (some ⟨2,44,none⟩)])):=by
  rw [World.cell?_alloc_lt _ _ ⟨0,0,none⟩ (by simp),World.cell?_alloc_lt _ _ ⟨0,0,none⟩ hlt];exact hg
 have htl:t.block<w.heap.size:=by
  rcases Nat.lt_or_ge t.block w.heap.size with h | h
  ·exact h
  ·simp [World.cell?,Array.getElem?_eq_none h] at ht0
 have el:=elemVNp ⟨w.heap.size,0,none⟩ t (((((w.alloc (.cells #[.pointer (some t)] 127)).alloc (.cells #[.pointer (some ⟨2,127,none⟩),.pointer (some ⟨w.heap.size,0,none⟩),.int .u64 150] 172)).alloc (.cells #[.pointer (some ⟨2,127,none⟩),.pointer (some ⟨w.heap.size,0,none⟩),.int .u64 150] 172)).alloc (.cells #[.string s,.iface 120 (.agg #[.int .i64 c,.int .i64 k])] 150)).alloc (.cells #[.int .i64 c,.int .i64 k] 120)) (by rw [World.cell?_alloc_lt _ _ ⟨w.heap.size,0,none⟩ (by simp;omega),World.cell?_alloc_lt _ _ ⟨w.heap.size,0,none⟩ (by simp;omega),World.cell?_alloc_lt _ _ ⟨w.heap.size,0,none⟩ (by simp;omega)];simp)
 have st:=setN t ⟨w.heap.size+1+1+1+1+1,0,none⟩ c old ((((((w.alloc (.cells #[.pointer (some t)] 127)).alloc (.cells #[.pointer (some ⟨2,127,none⟩),.pointer (some ⟨w.heap.size,0,none⟩),.int .u64 150] 172)).alloc (.cells #[.pointer (some ⟨2,127,none⟩),.pointer (some ⟨w.heap.size,0,none⟩),.int .u64 150] 172)).alloc (.cells #[.string s,.iface 120 (.agg #[.int .i64 c,.int .i64 k])] 150)).alloc (.cells #[.int .i64 c,.int .i64 k] 120)).alloc (.cells #[.int .i64 c] 82))
  (by rw [World.cell?_alloc_at _ _ _ _ (by simp)];rfl)
  (by rw [World.cell?_alloc_lt _ _ t (by simp;omega),World.cell?_alloc_lt _ _ t (by simp;omega),World.cell?_alloc_lt _ _ t (by simp;omega),World.cell?_alloc_lt _ _ t (by simp;omega),World.cell?_alloc_lt _ _ t (by simp;omega),World.cell?_alloc_lt _ _ t htl];exact ht0)
  (by rw [World.frozen?_alloc_old _ _ t (by simp;omega),World.frozen?_alloc_old _ _ t (by simp;omega),World.frozen?_alloc_old _ _ t (by simp;omega),World.frozen?_alloc_old _ _ t (by simp;omega),World.frozen?_alloc_old _ _ t (by simp;omega),World.frozen?_alloc_old _ _ t (Nat.ne_of_lt htl)];exact hf0)
 go_enter Tryz.func94,Tryz.ntmps94
 go_wp2
 refine wp_loop_rounds 3 ?_
 rw [rounds_succ]
 go_wp2
 rw [rounds_succ]
 go_wp2
 rw [rounds_succ]
 go_wp2
 go_ret
 exact⟨rfl,rfl⟩
end Go.Proofs.YtonhfknjcbakiaaGreatDoor.As
namespace Go.Proofs.YtonhfknjcbakiaaGreatDoor.As
open Go.RowKit Go.Extern.Stop Go.Stop Go.Extern
theorem as_DF (s:ByteArray) (c k:Int) (T:Nat) (w:World) (hg:w.cell? ⟨0,0,none⟩=some (.iface 217 (.agg #[.pointer (some ⟨2,44,none⟩)]))) (t0:(w.cell? ⟨T,0,none⟩).isSome=true) (t1:(w.cell? ⟨T,1,none⟩).isSome=true) (f0:w.frozen? ⟨T,0,none⟩=false) (f1:w.frozen? ⟨T,1,none⟩=false) :
 Calls Tryz.prog 94 #[.iface 150 (.agg #[.string s,.iface 120 (.agg #[.int .i64 c,.int .i64 k])]),.iface 123 (.pointer (some ⟨T,0,none⟩))] w fun ev w'=>ev=.returned (.bool true)/\w'=(((((w.alloc (.cells #[.pointer (some ⟨T,0,none⟩)] 123)).alloc (.cells #[.pointer (some ⟨2,123,none⟩),.pointer (some ⟨w.heap.size,0,none⟩),.int .u64 150] 172)).alloc (.cells #[.pointer (some ⟨2,123,none⟩),.pointer (some ⟨w.heap.size,0,none⟩),.int .u64 150] 172)).alloc (.cells #[.string s,.iface 120 (.agg #[.int .i64 c,.int .i64 k])] 150)).alloc (.cells #[.int .i64 c,.int .i64 k] 120)).setCells T 0 [.int .i64 c,.int .i64 k]:=by
 have h6:=fun a w=>xt0 a w
 have h7:=fun a w=>xt1 a w
 have h8:=fun a w=>xt2 a w
 have h27:=fun a w=>xt3 a w
 have h37:=fun a w=>xt4 a w
 have h38:=fun a w=>xt5 a w
 have h10:=fun a w=>xt6 a w
 have h35:=fun a w=>xt7 a w
 have h11:=fun a w=>xt8 a w
 have h12:=fun a w=>xt9 a w
 have tO:=typeOfF
 have tD:=typeOfD
 have aD:=assignableDF
 have mD:=methodUnwrapD
 have nD:=noAsD
 have hD:=hasUwD
 have mA:=methodAssignableTo
 have a25:=assignableF
 have v25:=valueOfF
 have f6:=valueOfFp
 have f7:=typeFp
 have mK:=methodKind
 have mE:=methodElem
 have mI:=methodImplements
 have k27:=kindFp
 have k25:=kindF
 have e27:=elemFp
 have i25:=implementsF
 have n8:=isNilFp ⟨w.heap.size,0,none⟩ ⟨T,0,none⟩ ((w.alloc (.cells #[.pointer (some ⟨T,0,none⟩)] 123)).alloc (.cells #[.pointer (some ⟨2,123,none⟩),.pointer (some ⟨w.heap.size,0,none⟩),.int .u64 150] 172)) (by simp)
 have hlt:0<w.heap.size:=by
  rcases Nat.eq_zero_or_pos w.heap.size with h0 | h
  ·simp [World.cell?,h0] at hg
  ·exact h
 have hg2:((w.alloc (.cells #[.pointer (some ⟨T,0,none⟩)] 123)).alloc (.cells #[.pointer (some ⟨2,123,none⟩),.pointer (some ⟨w.heap.size,0,none⟩),.int .u64 150] 172)).cell? ⟨0,0,none⟩=some (.iface 217 (.agg #[.pointer (some ⟨2,44,none⟩)])):=by
  rw [World.cell?_alloc_lt _ _ ⟨0,0,none⟩ (by simp),World.cell?_alloc_lt _ _ ⟨0,0,none⟩ hlt];exact hg
 have htl:T<w.heap.size:=by
  rcases Nat.lt_or_ge T w.heap.size with h | h
  ·exact h
  ·simp [World.cell?,Array.getElem?_eq_none h] at t0
 have el:=elemVFp ⟨w.heap.size,0,none⟩ ⟨T,0,none⟩ ((((w.alloc (.cells #[.pointer (some ⟨T,0,none⟩)] 123)).alloc (.cells #[.pointer (some ⟨2,123,none⟩),.pointer (some ⟨w.heap.size,0,none⟩),.int .u64 150] 172)).alloc (.cells #[.pointer (some ⟨2,123,none⟩),.pointer (some ⟨w.heap.size,0,none⟩),.int .u64 150] 172)).alloc (.cells #[.string s,.iface 120 (.agg #[.int .i64 c,.int .i64 k])] 150)) (by rw [World.cell?_alloc_lt _ _ ⟨w.heap.size,0,none⟩ (by simp;omega),World.cell?_alloc_lt _ _ ⟨w.heap.size,0,none⟩ (by simp;omega)];simp)
 have st:=setF T (w.heap.size+1+1+1+1) c k (((((w.alloc (.cells #[.pointer (some ⟨T,0,none⟩)] 123)).alloc (.cells #[.pointer (some ⟨2,123,none⟩),.pointer (some ⟨w.heap.size,0,none⟩),.int .u64 150] 172)).alloc (.cells #[.pointer (some ⟨2,123,none⟩),.pointer (some ⟨w.heap.size,0,none⟩),.int .u64 150] 172)).alloc (.cells #[.string s,.iface 120 (.agg #[.int .i64 c,.int .i64 k])] 150)).alloc (.cells #[.int .i64 c,.int .i64 k] 120))
  (by rw [World.cell?_alloc_at _ _ _ _ (by simp)];rfl)
  (by rw [World.cell?_alloc_at _ _ _ _ (by simp)];rfl)
  (by rw [World.cell?_alloc_lt _ _ ⟨T,0,none⟩ (by simp;omega),World.cell?_alloc_lt _ _ ⟨T,0,none⟩ (by simp;omega),World.cell?_alloc_lt _ _ ⟨T,0,none⟩ (by simp;omega),World.cell?_alloc_lt _ _ ⟨T,0,none⟩ (by simp;omega),World.cell?_alloc_lt _ _ ⟨T,0,none⟩ htl];exact t0)
  (by rw [World.cell?_alloc_lt _ _ ⟨T,1,none⟩ (by simp;omega),World.cell?_alloc_lt _ _ ⟨T,1,none⟩ (by simp;omega),World.cell?_alloc_lt _ _ ⟨T,1,none⟩ (by simp;omega),World.cell?_alloc_lt _ _ ⟨T,1,none⟩ (by simp;omega),World.cell?_alloc_lt _ _ ⟨T,1,none⟩ htl];exact t1)
  (by rw [World.frozen?_alloc_old _ _ ⟨T,0,none⟩ (by simp;omega),World.frozen?_alloc_old _ _ ⟨T,0,none⟩ (by simp;omega),World.frozen?_alloc_old _ _ ⟨T,0,none⟩ (by simp;omega),World.frozen?_alloc_old _ _ ⟨T,0,none⟩ (by simp;omega),World.frozen?_alloc_old _ _ ⟨T,0,none⟩ (Nat.ne_of_lt htl)];exact f0)
  (by rw [World.frozen?_alloc_old _ _ ⟨T,1,none⟩ (by simp;omega),World.frozen?_alloc_old _ _ ⟨T,1,none⟩ (by simp;omega),World.frozen?_alloc_old _ _ ⟨T,1,none⟩ (by simp;omega),World.frozen?_alloc_old _ _ ⟨T,1,none⟩ (by simp;omega),World.frozen?_alloc_old _ _ ⟨T,1,none⟩ (Nat.ne_of_lt htl)];exact f1)
 go_enter Tryz.func94,Tryz.ntmps94
 go_wp2
 refine wp_loop_rounds 2 ?_
 rw [rounds_succ]
 go_wp2
 rw [rounds_succ]
 go_wp2
 go_ret
 exact⟨rfl,rfl⟩
end Go.Proofs.YtonhfknjcbakiaaGreatDoor.As
namespace Go.Proofs.YtonhfknjcbakiaaGreatDoor.As
open Go.RowKit Go.Extern.Stop Go.Stop Go.Extern
end Go.Proofs.YtonhfknjcbakiaaGreatDoor.As
