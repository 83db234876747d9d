import Derived.Test.YtopfkkogooocgaaGreatB22
set_option linter.unusedVariables false
set_option linter.unusedSimpArgs false
set_option maxRecDepth 100000
namespace Go.Proofs.YtopfkkogooocgaaGreat
open Go.RowKit
attribute [local go_sem] Oper.semAt_some
theorem zex (a:Option Addr) (n c item:Nat) (w:World):Calls Tryz.prog 35 #[.slice a n c,.int .u64 (item:Nat)] w fun e w'=>e=.returned (.func (.func 56) #[] #[.pointer (some ⟨w.heap.size,0,none⟩),.pointer (some ⟨w.heap.size+1,0,none⟩)])/\w'=(w.alloc (.cells #[.slice a n c] 23)).alloc (.cells #[.int .u64 (item:Nat)] 33):=by
 go_enter Tryz.func35,Tryz.ntmps35
 go_wp2
 go_ret
 exact⟨rfl,rfl⟩
def SH (n:Nat) (A B:World):Prop:=(∃ v,Boxed A n 4 v)/\Keep (fun k=>k=n) A B
theorem SH.pt {n n0 Bk Bi:Nat} {A B:World} (h:SH n A B) (h0:n0<=n) (h1:Bk≠n) (h2:Bi≠n):PtF n0 Bk Bi A B:=by
 obtain⟨⟨v,hv⟩,hk⟩:=h
 refine⟨hk.size,fun k hlt hc=>hk.block k hlt ?_⟩
 rintro rfl
 rcases hc with hc | hc | hc | ⟨cs,f,hc⟩
 ·omega
 ·exact h1 hc.symm
 ·exact h2 hc.symm
 ·have hv':A.heap[k]? = some (.cells #[v] 4 (0,0)):=hv
  rw [hv'] at hc
  cases hc
end Go.Proofs.YtopfkkogooocgaaGreat
