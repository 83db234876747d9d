import Derived.Test.YtopfkkogooocgaaGreatB22
set_option linter.unusedVariables false
set_option linter.unusedSimpArgs false
set_option maxRecDepth 100000
namespace Go.Proofs.YtopfkkogooocgaaGreat
open Go.RowKit
def OwnI (base:Nat) (w:World) (v:Value) (xs:List Nat):Prop:=w.ownsRow base 3 1 v xs.length (xs.map fun x=>.int .i64 (x:Nat))
theorem OwnI.nil (base:Nat) (w:World):OwnI base w (.slice none 0 0) []:=World.ownsRow_nil _ _ _ _
theorem OwnI.keep {base:Nat} {S:Nat->Prop} {w w':World} {v:Value} {l:List Nat} (h:OwnI base w v l) (hb:Keep S w w') (hs:∀ g,base<=g->g<w.heap.size->¬ S g):OwnI base w' v l:=
 hb.ownsRow h fun g hg=>hs g (h.lt g hg).1 (h.lt g hg).2
theorem OwnI.shape {base:Nat} {w:World} {v:Value} {l:List Nat} (h:OwnI base w v l):∃ ad n c,v=.slice ad n c:=by
 rcases h.2 with⟨rfl,_⟩ | ⟨g,cap,cur,rfl,_⟩
 ·exact⟨_,_,_,rfl⟩
 ·exact⟨_,_,_,rfl⟩
theorem Tryz.infoInt:(Tryz.prog.info? 3).map (fun i=>(i.zero,i.size,i.bytes))=some (some (Value.int .i64 0),1,8):=by kernel_rfl
theorem JY (base:Nat) (W:World) (v:Value) (l:List Nat) (i:Nat) (x0 x1:Value) (hown:OwnI base W v l) (hbase:base<=W.heap.size) (hl:l.length<=1099511627776) :
 Calls Tryz.prog 53 #[v,.int .i64 (i:Nat),.agg #[x0,x1]] W fun e W'=>∃ v',e=.returned v'/\OwnI base W' v' (l++[i])/\Keep (fun k=>base<=k/\∃ cs f,W.heap[k]? = some (.cells cs 3 f)) W W':=by
 obtain⟨i0,hi0,hz0,hz1,hz2⟩:=info_parts Tryz.infoInt
 have HO:=Lib.hid hown
 obtain⟨ad,n,c,rfl⟩:=hown.shape
 clear hown
 go_enter Tryz.func53,Tryz.ntmps53
 have hk0:Keep (fun _=>False) W ((W.alloc (.cells #[x0,x1] 32)).alloc (.cells #[.int .i64 (i:Nat)] 3)):=((Keep.refl _ W).alloc _).alloc _
 have hnb:((W.alloc (.cells #[x0,x1] 32)).alloc (.cells #[.int .i64 (i:Nat)] 3)).heap[W.heap.size+1]? = some (.cells #[.int .i64 (i:Nat)] 3 (0,0)):=by
  have:=World.alloc_heap_new (W.alloc (.cells #[x0,x1] 32)) (.cells #[.int .i64 (i:Nat)] 3)
  rwa [World.size_alloc] at this
 have HO2:=Lib.hid (HO.out.keep hk0 fun _ _ _=>id)
 go_wp2_with (at_builtin;refine wpList_append_own_at _ rfl _ _ 60 rfl base 3 i0 (.int .i64 0) 1 8 Tryz.underlying60 hi0 hz0 hz1 hz2 rfl (by decide) _ _ _ rfl HO2.out ⟨W.heap.size+1,0,none⟩ 1 1 [.int .i64 (i:Nat)] rfl rfl (kw (cs:=#[.int .i64 (i:Nat)]) (t := 3) (fr:=(0,0)) hnb) (by simp [Value.oneCell']) (by unfold maxLen;omega) (by omega) (by simp;omega) ?_;intro v' w3 ho hgr _ _)
 go_ret
 refine⟨_,rfl,by unfold OwnI;simpa using ho,(((Keep.refl _ W).alloc _).alloc _).grown hgr fun k hk _=>?_⟩
 have hk2:(Value.slice ad n c).ownBlock=some k:=hk
 refine⟨(HO.out.lt k hk2).1,?_⟩
 rcases HO.out.2 with⟨e,_⟩ | ⟨g,cap,cur,e,_,hh,_⟩
 ·rw [e] at hk2;cases hk2
 ·rw [e] at hk2
  have:g=k:=by simpa [Value.ownBlock] using hk2
  subst this
  exact⟨_,_,hh⟩
end Go.Proofs.YtopfkkogooocgaaGreat
