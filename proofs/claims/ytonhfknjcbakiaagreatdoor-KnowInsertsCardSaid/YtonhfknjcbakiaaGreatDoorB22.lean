import Derived.WalkMore
import Derived.Test.YtonhfknjcbakiaaGreatDoorB7
set_option linter.unusedVariables false
set_option linter.unusedSimpArgs false
set_option maxRecDepth 100000
namespace Go.Proofs.YtonhfknjcbakiaaGreatDoor
open Go.RowKit
theorem kc {w:World} {O:Array Oper} {rest:List Oper} {o:Oper} {a:Act} {Q:Exit->Act->World->Prop} (L:o.guard=none) (s x:Operand)
 (ho:o.op=.call { callee:=.builtin .append,args:=#[s,x],argTypes:=#[30,30] }) (i:TypeInfo) (z:Value) (y:Nat)
 (hi:Tryz.prog.info? 36 = some i) (hz:i.zero=some z) (G:i.size=2) (Y:i.bytes=y) (X:y<=64) (hzs:z.cells.size=2)
 (B:Nat) (hs:a.eval s=.slice (some ⟨B,0,none⟩) 0 0) (hB:w.heap[B]? = some (.cells #[] 36 (0,0))) (N:Nat) (ac:N<=B)
 {v:Value} {l:List Iv} (hx:a.eval x=v) (hr:RdR 0 w.heap.size w v l) (hl:l.length<=1099511627776)
 (h:∀ T S,OwnR N S T l->Below B w S->wpList Tryz.prog O Q rest (a.put o.dst T) S) :
 wpList Tryz.prog O Q (o::rest) a w:=by
 have af:B<w.heap.size:=(Array.getElem?_eq_some_iff.1 hB).1
 have A:w.ownsRow N 36 2 (.slice (some ⟨B,0,none⟩) 0 0) 0 []:=⟨rfl,.inr ⟨B,0,#[],rfl,ac,hB,Nat.le_refl _,by decide,rfl,rfl⟩⟩
 have I:=hr.bound
 obtain⟨U,V,rfl,ah,ag,Z⟩:=hr
 cases U with
 | none=>
   obtain rfl:l=[]:=by
    cases l with
    | nil=>rfl
    | cons s l=>obtain⟨b,C,e,_⟩:=Z (by simp);cases e
   refine wpList_plain L fun K hK=>?_
   have E:OwnR N w (.slice (some ⟨B,0,none⟩) 0 0) []:=⟨A,by simp⟩
   have hq:=hK _ _ (h _ _ E (Below.refl _ _))
   clear A Z I h hK E
   simp only [List.length_nil] at hx
   unfold Oper.wp execOp
   simp only [ho,resolve,invoke,builtin,Sem.run_bind,Sem.run_pure,Result.andThen_ok,List.map_toArray,List.map_cons,List.map_nil,hs,hx]
   go_simp
   exact hq
 | some U=>
   refine wpList_append_own_at (P:=Tryz.prog) w L s x 30 ho N 36 i z 2 y Tryz.underlying30 hi hz G Y hzs (by decide) _ 0 [] hs A U l.length V (xw l) hx (y6 l) ?_ ?_ (by unfold maxLen;omega) ?_ (by omega) ?_
   ·intro j u M
    have ab:j<l.length * 2:=by
     have:=(List.getElem?_eq_some_iff.1 M).1
     rwa [y6] at this
    have ae:l≠[]:=by intro e;subst e;simp at ab
    obtain⟨b,C,e,_,_,F⟩:=Z ae
    cases e
    have H:(⟨b,C,none⟩:Addr).add j=⟨b,C+j,none⟩:=by unfold Addr.add;split<;>simp_all
    rw [H]
    have hk:j / 2<l.length:=by omega
    obtain⟨g1,g2,_⟩:=F (j / 2) hk
    obtain⟨f1,f2⟩:=vz l (j / 2) hk
    rcases Nat.mod_two_eq_zero_or_one j with h0 | h0
    ·have e:j / 2 * 2=j:=by omega
     rw [e] at g1 f1
     rw [f1] at M
     cases M
     exact g1
    ·have e:j / 2 * 2+1=j:=by omega
     rw [show C+j / 2 * 2+1=C+j from by omega] at g2
     rw [e] at f2
     rw [f2] at M
     cases M
     exact g2
   ·intro u hu
    simp [xw] at hu
    obtain⟨s,_,rfl | rfl⟩:=hu<;>rfl
   ·calc (0+l.length) * y<=1099511627776 * 64:=Nat.mul_le_mul (by omega) X
     _<=140737488355328:=by decide
   ·intro T S ho J _ hv
    refine h T S ⟨?_,I⟩ ⟨J.os,J.tape,J.output,J.size,fun k hk=>J.block k (by omega) (by simp [Value.ownBlock];omega)⟩
    simpa using ho
theorem zff (b:Addr) (n c:Nat) (w:World):(binOp .eql 30 (.slice (some b) n c) (.slice none 0 0)).run Tryz.prog w=.ok (.bool false) w:=by kernel_rfl
theorem zq5 (n c:Nat) (w:World):(binOp .eql 30 (.slice none n c) (.slice none 0 0)).run Tryz.prog w=.ok (.bool true) w:=by kernel_rfl
theorem zeX {w:World} {v:Value} {l:List Iv} (I:RdR 0 w.heap.size w v l) (hl:l.length<=1099511627776) :
 Calls Tryz.prog 59 #[v] w fun e H=>∃ E,e=.returned E/\OwnR w.heap.size H E l/\Below w.heap.size w H:=by
 obtain⟨S,y,A,B,C⟩:=info_parts Tryz.infoIv
 have M:=Lib.hid I
 obtain⟨a,u,rfl,N,O,F⟩:=I
 cases a with
 | none=>
   have J:=Lib.hid (show l=[] from Classical.byContradiction fun P=>by obtain⟨b,T,e,_⟩:=F P;cases e)
   have Q:=zq5 l.length u
   clear N O F y A B C
   go_enter Tryz.func59,Tryz.ntmps59
   go_wp2
   go_ret
   exact⟨_,rfl,by rw [J.out];exact OwnR.nil _ _,Below.refl _ _⟩
 | some b=>
   clear F
   have K:Hid (RdR 0 (w.alloc (.cells #[] 36)).heap.size (w.alloc (.cells #[] 36)) (.slice (some b) l.length u) l):=Lib.hid (M.out.keep (Nat.le_refl _) (by simp) fun j _ h=>Below.heap_alloc _ _ _ h)
   have L:=World.alloc_heap_new w (.cells #[] 36 (0,0))
   have Q:=zff b l.length u
   go_enter Tryz.func59,Tryz.ntmps59
   go_wp2_with (at_builtin;refine kc rfl _ _ rfl S (.agg #[.int .u64 0,.int .u64 0]) 16 y A B C (by decide) rfl w.heap.size rfl L w.heap.size (Nat.le_refl _) rfl K.out hl ?_;intro E H ho G)
   go_ret
   exact⟨E,rfl,ho,((Below.refl _ w).alloc (Nat.le_refl _) (.cells #[] 36 (0,0))).trans G⟩
end Go.Proofs.YtonhfknjcbakiaaGreatDoor
