import Derived.WalkMore
import Derived.Test.YtonhfknjcbakiaaGreatDoorB7
set_option linter.unusedVariables false
set_option linter.unusedSimpArgs false
set_option maxRecDepth 100000
namespace Go.Proofs.YtonhfknjcbakiaaGreatDoor
open Go.RowKit
theorem wpList_append_copy {w:World} {ops:Array Oper} {rest:List Oper} {o:Oper} {a:Act} {Q:Exit->Act->World->Prop} (hgd:o.guard=none) (s x:Operand)
 (ho:o.op=.call { callee:=.builtin .append,args:=#[s,x],argTypes:=#[30,30] }) (i:TypeInfo) (z:Value) (bytes:Nat)
 (hi:Tryz.prog.info? 36 = some i) (hz:i.zero=some z) (hsize:i.size=2) (hby:i.bytes=bytes) (hbb:bytes<=64) (hzs:z.cells.size=2)
 (B:Nat) (hs:a.eval s=.slice (some ⟨B,0,none⟩) 0 0) (hB:w.heap[B]? = some (.cells #[] 36 (0,0))) (n0:Nat) (hn0:n0<=B)
 {v:Value} {l:List Iv} (hx:a.eval x=v) (hr:RdR 0 w.heap.size w v l) (hl:l.length<=1099511627776)
 (h:∀ v' w',OwnR n0 w' v' l->Below B w w'->wpList Tryz.prog ops Q rest (a.put o.dst v') w') :
 wpList Tryz.prog ops Q (o::rest) a w:=by
 have hBl:B<w.heap.size:=(Array.getElem?_eq_some_iff.1 hB).1
 have hown:w.ownsRow n0 36 2 (.slice (some ⟨B,0,none⟩) 0 0) 0 []:=⟨rfl,.inr ⟨B,0,#[],rfl,hn0,hB,Nat.le_refl _,by decide,rfl,rfl⟩⟩
 have hbd:=hr.bound
 obtain⟨ad,cap,rfl,hlc,hcm,hc⟩:=hr
 cases ad with
 | none=>
   obtain rfl:l=[]:=by
    cases l with
    | nil=>rfl
    | cons s l=>obtain⟨b,off,e,_⟩:=hc (by simp);cases e
   refine wpList_plain hgd fun K hK=>?_
   have hfin:OwnR n0 w (.slice (some ⟨B,0,none⟩) 0 0) []:=⟨hown,by simp⟩
   have hq:=hK _ _ (h _ _ hfin (Below.refl _ _))
   clear hown hc hbd h hK hfin
   simp only [List.length_nil] at hx
   unfold Oper.wp execOp
   simp only [ho,resolve,invoke,builtin,Sem.run_bind,Sem.run_pure,Result.andThen_ok,List.map_toArray,List.map_cons,List.map_nil,hs,hx]
   go_simp
   exact hq
 | some ad=>
   refine wpList_append_own_at (P:=Tryz.prog) w hgd s x 30 ho n0 36 i z 2 bytes Tryz.underlying30 hi hz hsize hby hzs (by decide) _ 0 [] hs hown ad l.length cap (xw l) hx (y6 l) ?_ ?_ (by unfold maxLen;omega) ?_ (by omega) ?_
   ·intro j u hj
    have hlt:j<l.length * 2:=by
     have:=(List.getElem?_eq_some_iff.1 hj).1
     rwa [y6] at this
    have hne:l≠[]:=by intro e;subst e;simp at hlt
    obtain⟨b,off,e,_,_,hcell⟩:=hc hne
    cases e
    have hadd:(⟨b,off,none⟩:Addr).add j=⟨b,off+j,none⟩:=by unfold Addr.add;split<;>simp_all
    rw [hadd]
    have hk:j / 2<l.length:=by omega
    obtain⟨g1,g2,_⟩:=hcell (j / 2) hk
    obtain⟨f1,f2⟩:=vz l (j / 2) hk
    rcases Nat.mod_two_eq_zero_or_one j with h0 | h0
    ·have e:j / 2 * 2=j:=by omega
     rw [e] at g1 f1
     rw [f1] at hj
     cases hj
     exact g1
    ·have e:j / 2 * 2+1=j:=by omega
     rw [show off+j / 2 * 2+1=off+j from by omega] at g2
     rw [e] at f2
     rw [f2] at hj
     cases hj
     exact g2
   ·intro u hu
    simp [xw] at hu
    obtain⟨s,_,rfl | rfl⟩:=hu<;>rfl
   ·calc (0+l.length) * bytes<=1099511627776 * 64:=Nat.mul_le_mul (by omega) hbb
     _<=140737488355328:=by decide
   ·intro v' w' ho hg _ hv
    refine h v' w' ⟨?_,hbd⟩ ⟨hg.os,hg.tape,hg.output,hg.size,fun k hk=>hg.block k (by omega) (by simp [Value.ownBlock];omega)⟩
    simpa using ho
theorem zff (b off n c:Nat) (w:World):(binOp .eql 30 (.slice (some ⟨b,off,none⟩) n c) (.slice none 0 0)).run Tryz.prog w=.ok (.bool false) w:=by kernel_rfl
theorem zeX {w:World} {v:Value} {l:List Iv} (hr:RdR 0 w.heap.size w v l) (hl:l.length<=1099511627776) (hne:l≠[]) :
 Calls Tryz.prog 59 #[v] w fun e w'=>∃ v',e=.returned v'/\OwnR w.heap.size w' v' l/\Below w.heap.size w w':=by
 obtain⟨i0,hi0,hz0,hz1,hz2⟩:=info_parts Tryz.infoIv
 have HR:=Lib.hid hr
 obtain⟨a,cap,rfl,h1,h2,h3⟩:=hr
 obtain⟨b,off,rfl,_,hb,_⟩:=h3 hne
 clear h3
 have HA:Hid (RdR 0 (w.alloc (.cells #[] 36)).heap.size (w.alloc (.cells #[] 36)) (.slice (some ⟨b,off,none⟩) l.length cap) l):=Lib.hid (HR.out.keep (Nat.le_refl _) (by simp) fun j _ h=>Below.heap_alloc _ _ _ h)
 have HN:=World.alloc_heap_new w (.cells #[] 36 (0,0))
 have hq:=zff b off l.length cap
 go_enter Tryz.func59,Tryz.ntmps59
 go_wp2_with (at_builtin;refine wpList_append_copy rfl _ _ rfl i0 (.agg #[.int .u64 0,.int .u64 0]) 16 hi0 hz0 hz1 hz2 (by decide) rfl w.heap.size rfl HN w.heap.size (Nat.le_refl _) rfl HA.out hl ?_;intro v' w' ho hb')
 go_ret
 exact⟨v',rfl,ho,((Below.refl _ w).alloc (Nat.le_refl _) (.cells #[] 36 (0,0))).trans hb'⟩
end Go.Proofs.YtonhfknjcbakiaaGreatDoor
