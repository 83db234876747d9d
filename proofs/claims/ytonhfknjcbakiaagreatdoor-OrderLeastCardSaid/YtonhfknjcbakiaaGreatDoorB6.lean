import Derived.Test.YtonhfknjcbakiaaGreatDoorB5
set_option maxHeartbeats 16000000
set_option linter.unusedVariables false
set_option linter.unusedSimpArgs false
set_option maxRecDepth 100000
namespace Go.Proofs.YtonhfknjcbakiaaGreatDoor
open Go.RowKit
attribute [local go_sem] Oper.semAt_some
theorem Vu (a:Option Addr) (n c:Nat) (w:World):Calls Tryz.prog 214 #[.slice a n c] w fun e w'=>e=.returned (.func (.func 229) #[] #[.pointer (some ⟨w.heap.size,0,none⟩)])/\w'=w.alloc (.cells #[.slice a n c] 32):=by
 go_enter Tryz.func214,Tryz.ntmps214
 go_wp2
 go_ret
 exact⟨rfl,rfl⟩
def OwnN (base:Nat) (w:World) (v:Value) (xs:List Nat):Prop:=w.ownsRow base 24 1 v xs.length (xs.map fun x=>.int .u64 (x:Nat))
theorem OwnN.nil (base:Nat) (w:World):OwnN base w (.slice none 0 0) []:=World.ownsRow_nil _ _ _ _
theorem OwnN.keep {base:Nat} {S:Nat->Prop} {w w':World} {v:Value} {l:List Nat} (h:OwnN base w v l) (hb:Keep S w w') (hs:∀ g,base<=g->g<w.heap.size->¬ S g):OwnN base w' v l:=
 hb.ownsRow h fun g hg=>hs g (h.lt g hg).1 (h.lt g hg).2
theorem OwnN.mono {base base':Nat} {w:World} {v:Value} {l:List Nat} (h:OwnN base w v l) (hb:base'<=base):OwnN base' w v l:=by
 refine⟨h.1,?_⟩
 rcases h.2 with hn | ⟨g,cap,cur,hv,hg,r⟩
 ·exact .inl hn
 ·exact .inr ⟨g,cap,cur,hv,Nat.le_trans hb hg,r⟩
def SN (n0:Nat) (A B:World):Prop:=(∃ v,Boxed A n0 157 v)/\Keep (fun k=>k=n0\/(n0+4<=k/\∃ cs f,A.heap[k]? = some (.cells cs 24 f))) A B
theorem SN.pt {n0:Nat} {A B:World} (h:SN n0 A B):PtE n0 (n0+1) A B:=by
 obtain⟨⟨v,hv⟩,hk⟩:=h
 refine⟨hk.size,fun k hlt hc=>hk.block k hlt ?_⟩
 rintro(rfl | ⟨h4,cs,f,hcs⟩)
 ·rcases hc with hc | hc | ⟨cs,f,t,hc,ht⟩
  ·omega
  ·omega
  ·have hv':A.heap[k]? = some (.cells #[v] 157 (0,0)):=hv
   rw [hv'] at hc
   cases hc
   rcases ht with ht | ht<;>cases ht
 ·rcases hc with hc | hc | ⟨cs2,f2,t,hc,ht⟩
  ·omega
  ·omega
  ·rw [hcs] at hc
   cases hc
   rcases ht with ht | ht<;>cases ht
theorem Q5 {W w1:World} {n0:Nat} {v v':Value} {xs ys:List Nat} {tmp:Obj}
 (hv:Boxed W n0 157 v) (hrow:OwnN (n0+4) W v xs) (hown':w1.ownsRow (n0+4) 24 1 v' ys.length (ys.map fun x=>.int .u64 (x:Nat))) (hgrow:(W.alloc tmp).grownBy w1 v.ownBlock) :
 Boxed (w1.setCell ⟨n0,0,none⟩ v') n0 157 v'/\OwnN (n0+4) (w1.setCell ⟨n0,0,none⟩ v') v' ys/\SN n0 W (w1.setCell ⟨n0,0,none⟩ v'):=by
 have hte : 157 ≠ 24 := by decide
 obtain⟨h1,h2,h3,h4⟩:=qO hv hte hrow hown' hgrow
 refine⟨h2,h3,⟨v,hv⟩,?_⟩
 refine Keep.setCell (p:=⟨n0,0,none⟩) ?_ (fun _=>.inl rfl) _
 refine((Keep.refl _ W).alloc tmp).grown hgrow fun j ej _=>.inr ⟨(hrow.lt j ej).1,?_⟩
 rcases hrow.2 with⟨rfl,_⟩ | ⟨g,cap,cur,rfl,hg,hh,_⟩
 ·cases ej
 ·have:g=j:=by simpa [Value.ownBlock] using ej
  subst this
  exact⟨_,_,hh⟩
theorem Tryz.infoU:(Tryz.prog.info? 24).map (fun i=>(i.zero,i.size,i.bytes))=some (some (Value.int .u64 0),1,8):=by kernel_rfl
theorem Q4 (v:List En) (va:Value) (w:World) (hv:RdV w.heap.size w va v) (hlen:(zv v).length<=1073741824) :
 Calls Tryz.prog 200 #[va] w fun e w'=>∃ u,e=.returned u/\OwnN w.heap.size w' u (zv v)/\Below w.heap.size w w':=by
 have HV:=Lib.hid hv
 obtain⟨av,cap,rfl,_⟩:=hv
 refine callsIn_wide.1 (callsIn_of_wp_marks (n:=9) Tryz.func200 rfl trivial ?_ rfl)
 simp only [Tryz.ntmps200,List.size_toArray,List.length_cons,List.length_nil,Nat.reduceAdd,Nat.reduceSub,Array.replicate_succ,Array.replicate_zero,List.push_toArray,List.append_toArray,List.nil_append,List.cons_append]
 gi_wp2_with (refine⟨trivial,?_⟩;gi_at_call 214;refine(callsIn_wide.2 (Vu _ _ _ _)).mono ?_;rintro e w' ⟨rfl,rfl⟩)
 obtain⟨W0,hW0⟩:∃ W0,((w.alloc (Obj.cells #[Value.slice none 0 0] 157)).alloc (Obj.cells #[Value.slice av v.length cap] 32))=W0:=⟨_,rfl⟩
 have hsz:W0.heap.size=w.heap.size+2:=by rw [<-hW0];simp
 have b0:Boxed W0 w.heap.size 157 (Value.slice none 0 0):=by rw [<-hW0];exact(Boxed.new w _ _).alloc _
 have b1:Boxed W0 (w.heap.size+1) 32 (Value.slice av v.length cap):=by rw [<-hW0];have:=Boxed.new (w.alloc (Obj.cells #[Value.slice none 0 0] 157)) 32 (Value.slice av v.length cap);rw [World.size_alloc] at this;exact this
 have hB0:Below w.heap.size w W0:=by rw [<-hW0];exact((Below.refl _ _).alloc (Nat.le_refl _) _).alloc (by simp) _
 try simp only [World.size_alloc]
 rw [hW0]
 clear hW0
 refine Xt (w:=W0) 229 #[.pointer (some ⟨w.heap.size+1,0,none⟩)] rfl (enters_of Tryz.func229 (by kernel_rfl) rfl) (fun x:Nat=>#[.int .u64 x]) (fun _=>rfl)
  (fun _=>False) (PtE w.heap.size (w.heap.size+1)) (zv v) ?hit
  (SN w.heap.size) (fun A B h k hk hlt=>h.2.block k hlt (by rintro(e | ⟨e,_⟩)<;>omega)) (fun A B h=>h.pt)
  ?hPt ?hPt0 ⟨id,id⟩
  (fun pre W=>(∃ u,Boxed W w.heap.size 157 u/\OwnN (w.heap.size+4) W u pre)/\Below w.heap.size w W)
  (fun _ _ _=>False) ?hI (fun _ _ _ _ h _=>h) ⟨⟨_,b0,OwnN.nil _ _⟩,hB0⟩
  (fun pre x a' W=>((∃ u,Boxed W w.heap.size 157 u/\OwnN (w.heap.size+4) W u pre)/\Below w.heap.size w W) /\
    a'={ tmps:=#[Value.slice av v.length cap,undef,Value.slice none 0 0,Value.pointer (some ⟨w.heap.size,0,none⟩),.int .u64 (x:Nat),Value.slice av v.length cap,Value.func (Fn.func 229) #[] #[Value.pointer (some ⟨w.heap.size+1,0,none⟩)],.int .u64 (x:Nat),undef,undef,undef,undef,undef],defers:=[] })
  ?hAx ?hassign ?hbody ?hdone (fun _ _ _ _ h _=>h.elim)
 case hit=>
  intro W hk _
  exact Vt v _ (w.heap.size+1) w.heap.size W (RdV.keep HV.out fun k hk2=>((hB0.trans (hk.below (by omega) fun _ _=>id)).block k hk2)) (hk.boxed b1 id) (by have:=hk.size;omega)
 case hPt=>
  rintro A B C ⟨h1,h2⟩ ⟨h3,h4⟩
  refine⟨Nat.le_trans h1 h3,fun k hk hc=>?_⟩
  have e1:=h2 k hk hc
  refine(h4 k (by omega) ?_).trans e1
  rcases hc with hc | hc | ⟨cs,f,t,hc,ht⟩
  ·exact .inl hc
  ·exact .inr (.inl hc)
  ·exact .inr (.inr ⟨cs,f,t,by rw [e1];exact hc,ht⟩)
 case hPt0=>
  rintro A B hk ⟨o,ho⟩
  refine⟨hk.size,fun k hlt hc=>hk.block k hlt ?_⟩
  rintro rfl
  rcases hc with hc | hc | ⟨cs,f,t,hc,ht⟩
  ·omega
  ·omega
  ·rw [ho] at hc;cases hc
 case hI=>
  rintro pre A B ⟨⟨u,h1,h2⟩,h3⟩ hk0
  have hk:Keep (fun k=>k=W0.heap.size\/k=W0.heap.size+1) A B:=hk0.mono fun _ _ h=>h.elim False.elim id
  exact⟨⟨u,hk.boxed h1 (by omega),h2.keep hk (fun g hg _=>by omega)⟩,h3.trans (hk.below h3.size fun k hk=>by omega)⟩
 case hAx=>
  rintro pre x a' A B ⟨⟨⟨u,h1,h2⟩,h3⟩,rfl⟩ hk
  exact⟨⟨⟨u,hk.boxed h1 (by omega),h2.keep hk (fun g hg _=>by omega)⟩,h3.trans (hk.below h3.size fun k hk=>by omega)⟩,rfl⟩
 case hassign=>
  rintro l pre x W hpx hlt ⟨⟨u,h1,h2⟩,h3⟩
  clear hpx
  gi_wp2
  exact⟨⟨⟨u,h1⟩,Keep.refl _ _⟩,⟨⟨u,h1,h2⟩,h3⟩,trivial⟩
 case hbody=>
  rintro l pre x a' W hpx hlt ⟨⟨⟨u,h1,h2⟩,h3⟩,rfl⟩
  have hc:=h1.cell
  have hf:=h1.frozen
  obtain⟨i0,hi0,hz0,hz1,hz2⟩:=info_parts Tryz.infoU
  have hl:pre.length+1<=(zv v).length:=by have:=hpx.length_le;simpa using this
  gi_wp2_with (gi_at_builtin;refine wpListIn_append_own _ rfl _ _ 157 rfl (w.heap.size+4) 24 i0 (.int .u64 0) 1 8 Tryz.underlying157 hi0 hz0 hz1 hz2 rfl (by decide) _ _ _ rfl (h2.alloc _) ⟨W.heap.size,0,none⟩ 1 1 [.int .u64 (x:Nat)] rfl rfl (kw (cs:=#[.int .u64 (x:Nat)]) (t := 24) (fr:=(0,0)) (World.alloc_heap_new W _)) (by simp [Value.oneCell']) (by unfold maxLen;omega) (by omega) (by rw [World.size_alloc];omega) ?_;intro v' w3 hown' hgrow _;obtain⟨g',cap',rfl⟩:=ownsRow_succ hown';obtain⟨q2,q3,q4⟩:=Q5 (ys:=pre++[x]) h1 h2 (by simpa using hown') hgrow;have q1c:=(qO h1 (by decide) h2 hown' hgrow).1.cell;have q1f:=(qO h1 (by decide) h2 hown' hgrow).1.frozen)
  exact⟨q4,⟨_,q2,q3⟩,h3.trans (q4.2.below h3.size fun k hk=>by rintro(e | ⟨e,_⟩)<;>omega)⟩
 case hdone=>
  rintro W ⟨⟨u,h1,h2⟩,h3⟩ hD
  have hc:=h1.cell
  gi_wp2
  refine⟨by simp,.inl ⟨_,_,rfl,run_takeDeferred hD,?_⟩⟩
  have hkD:Keep (fun k=>k=W0.heap.size) W (W.putObj W0.heap.size (.deferred none)):=(Keep.refl (fun k=>k=W0.heap.size) W).putObj (fun _=>rfl) _
  exact⟨_,results_tmp rfl _ _ _,u,rfl,OwnN.mono (h2.keep hkD fun g hg _=>by omega) (by omega),h3.trans (hkD.below h3.size fun k hk=>by omega)⟩
end Go.Proofs.YtonhfknjcbakiaaGreatDoor
