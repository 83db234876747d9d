import Derived.WalkMore
import Derived.Test.YtonhfknjcbakiaaGreatDoorB21
set_option linter.unusedVariables false
set_option linter.unusedSimpArgs false
set_option maxRecDepth 100000
namespace Go.Proofs.YtonhfknjcbakiaaGreatDoor
open Go.RowKit
theorem zff (b:Addr) (n c:Nat) (w:World):(binOp .eql 30 (.slice (some b) n c) (.slice none 0 0)).run Tryz.prog w=.ok (.bool false) w:=by kernel_rfl
theorem zqL (n c:Nat) (w:World):(binOp .eql 30 (.slice none n c) (.slice none 0 0)).run Tryz.prog w=.ok (.bool true) w:=by kernel_rfl
theorem zeX {w:World} {v:Value} {l:List Iv} (hr:RdR 0 w.heap.size w v l) (hl:l.length<=1099511627776) :
 Calls Tryz.prog 59 #[v] w fun e w'=>∃ v',e=.returned v'/\OwnR w.heap.size w' v' l/\Below w.heap.size w w':=by
 obtain⟨i0,hi0,hz0,hz1,hz2⟩:=info_parts Tryz.infoIv
 have HR:=Lib.hid hr
 obtain⟨a,cap,rfl,h1,h2,h3⟩:=hr
 cases a with
 | none=>
   have H0:=Lib.hid (show l=[] from Classical.byContradiction fun hn=>by obtain⟨b,off,e,_⟩:=h3 hn;cases e)
   have hq:=zqL l.length cap
   clear h1 h2 h3 hi0 hz0 hz1 hz2
   go_enter Tryz.func59,Tryz.ntmps59
   go_wp2
   go_ret
   exact⟨_,rfl,by rw [H0.out];exact OwnR.nil _ _,Below.refl _ _⟩
 | some b=>
   clear h3
   have HA:Hid (RdR 0 (w.alloc (.cells #[] 36)).heap.size (w.alloc (.cells #[] 36)) (.slice (some b) l.length cap) l):=Lib.hid (HR.out.keep (Nat.le_refl _) (by simp) fun j _ h=>Below.heap_alloc _ _ _ h)
   have HN:=World.alloc_heap_new w (.cells #[] 36 (0,0))
   have hq:=zff b l.length cap
   go_enter Tryz.func59,Tryz.ntmps59
   go_wp2_with (at_builtin;refine kc rfl _ _ rfl i0 (.agg #[.int .u64 0,.int .u64 0]) 16 hi0 hz0 hz1 hz2 (by decide) rfl w.heap.size rfl HN w.heap.size (Nat.le_refl _) rfl HA.out hl ?_;intro v' w' ho hb')
   go_ret
   exact⟨v',rfl,ho,((Below.refl _ w).alloc (Nat.le_refl _) (.cells #[] 36 (0,0))).trans hb'⟩
end Go.Proofs.YtonhfknjcbakiaaGreatDoor
