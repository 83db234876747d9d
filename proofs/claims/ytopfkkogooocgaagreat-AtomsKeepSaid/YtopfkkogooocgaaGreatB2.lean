import Derived.RangeFuncNested
import Derived.RangeFuncBound
import Derived.RangeFuncCalls
import Derived.RangeFuncLeaves
import Derived.Shelf.Abstract
import Derived.Shelf.RegionOpen
import Derived.WalkKit
import Derived.OwnWalkIn
import Derived.TacticsInMore
import Derived.LoopNIn
import Derived.LoopIn
import Derived.Maps.AppendAt
import Derived.Lib.Hide
set_option linter.unusedVariables false
set_option linter.unusedSimpArgs false
namespace Go.Proofs.YtopfkkogooocgaaGreat
open Go.RowKit
structure Keep (S:Nat->Prop) (A B:World):Prop where
 os:B.os=A.os
 tape:B.tape=A.tape
 output:B.output=A.output
 size:A.heap.size<=B.heap.size
 block:∀ k,k<A.heap.size->¬ S k->B.heap[k]? = A.heap[k]?
namespace Keep
variable {S S':Nat->Prop} {A B C:World}
theorem refl (S:Nat->Prop) (A:World):Keep S A A:=⟨rfl,rfl,rfl,Nat.le_refl _,fun _ _ _=>rfl⟩
theorem trans (h:Keep S A B) (k:Keep S B C):Keep S A C:=
 ⟨k.os.trans h.os,k.tape.trans h.tape,k.output.trans h.output,Nat.le_trans h.size k.size,fun i hi hs=>(k.block i (Nat.lt_of_lt_of_le hi h.size) hs).trans (h.block i hi hs)⟩
theorem mono (h:Keep S A B) (hs:∀ k,k<A.heap.size->S k->S' k):Keep S' A B:=⟨h.os,h.tape,h.output,h.size,fun i hi hn=>h.block i hi fun e=>hn (hs i hi e)⟩
theorem drew (h:Keep S A B):Keep S A B.drew:=⟨h.os,h.tape,h.output,h.size,h.block⟩
theorem alloc (h:Keep S A B) (o:Obj):Keep S A (B.alloc o):=
 h.trans ⟨rfl,rfl,rfl,by simp,fun k hk _=>Below.heap_alloc _ _ _ hk⟩
theorem setCell (h:Keep S A B) {p:Addr} (hp:p.block<A.heap.size->S p.block) (u:Value):Keep S A (B.setCell p u):=
 ⟨h.os,h.tape,h.output,by show A.heap.size<=(B.heap.modify _ _).size;rw [Array.size_modify];exact h.size,fun k hk hs=>(Below.heap_setCell _ _ _ _ (fun e=>hs (by rw [e];exact hp (by rw [<-e];exact hk)))).trans (h.block k hk hs)⟩
theorem putObj (h:Keep S A B) {l:Nat} (hp:l<A.heap.size->S l) (o:Obj):Keep S A (B.putObj l o):=
 ⟨h.os,h.tape,h.output,by simpa using h.size,fun k hk hs=>(World.putObj_heap_other (fun e=>hs (by rw [e];exact hp (by rw [<-e];exact hk)))).trans (h.block k hk hs)⟩
theorem grown {row:Option Nat} (h:Keep S A B) (hg:B.grownBy C row) (hr:∀ k,row=some k->k<A.heap.size->S k):Keep S A C:=
 ⟨hg.os.trans h.os,hg.tape.trans h.tape,hg.output.trans h.output,Nat.le_trans h.size hg.size,fun k hk hs=>(hg.block k (Nat.lt_of_lt_of_le hk h.size) (fun e=>hs (hr k e.symm hk))).trans (h.block k hk hs)⟩
theorem below {n:Nat} (h:Keep S A B) (hn:n<=A.heap.size) (hs:∀ k,k<n->¬ S k):Below n A B:=
 ⟨h.os,h.tape,h.output,h.size,fun k hk=>h.block k (by omega) (hs k hk)⟩
theorem of_below {n:Nat} (h:Below n A B):Keep (fun k=>n<=k) A B:=⟨h.os,h.tape,h.output,h.size,fun k _ hs=>h.block k (by omega)⟩
theorem of_below' {n:Nat} (h:Below n A B) (hn:A.heap.size<=n):Keep S A B:=⟨h.os,h.tape,h.output,h.size,fun k hk _=>h.block k (by omega)⟩
theorem cell (h:Keep S A B) {p:Addr} (hp:p.block<A.heap.size) (hs:¬ S p.block):B.cell? p=A.cell? p:=World.cell?_of_block (h.block _ hp hs)
theorem frozen (h:Keep S A B) {p:Addr} (hp:p.block<A.heap.size) (hs:¬ S p.block):B.frozen? p=A.frozen? p:=World.frozen?_of_block (h.block _ hp hs)
theorem cell_some (h:Keep S A B) {p:Addr} {v:Value} (hv:A.cell? p=some v) (hs:¬ S p.block):B.cell? p=some v:=(h.cell (World.block_lt_of_cell? A p hv) hs).trans hv
theorem boxed (h:Keep S A B) {b:Nat} {t:TypeId} {v:Value} (hv:Boxed A b t v) (hs:¬ S b):Boxed B b t v:=(h.block b hv.lt hs).trans hv
theorem obj (h:Keep S A B) {b:Nat} {o:Obj} (hv:A.heap[b]? = some o) (hs:¬ S b):B.heap[b]? = some o:=(h.block b (Array.getElem?_eq_some_iff.1 hv).1 hs).trans hv
theorem ownsRow (h:Keep S A B) {base:Nat} {e:TypeId} {size:Nat} {v:Value} {n:Nat} {xs:List Value} (hv:A.ownsRow base e size v n xs) (hs:∀ g,v.ownBlock=some g->¬ S g):B.ownsRow base e size v n xs:=by
 refine⟨hv.1,?_⟩
 rcases hv.2 with hn | ⟨g,cap,cur,rfl,hb,hgg,rest⟩
 ·exact .inl hn
 ·exact .inr ⟨g,cap,cur,rfl,hb,h.obj hgg (hs g rfl),rest⟩
end Keep
def zbY {α:Type} (P:Program) (gf:Nat) (lb:Array Value) (encs:α->Array Value) (T Pr:Nat->Prop) (xs:List α) (W:World):Prop:=
 ∀(l:Nat) (J Jx:List α->World->Prop),
  (∀ pre A B,J pre A->Keep T A B->J pre B)->(∀ pre A B,Jx pre A->Keep T A B->Jx pre B) ->
  (∀ pre x W1,J pre W1->pre++[x] <+: xs->YieldAt Fence.wide 7 P l (encs x) W1 fun e W'=>
    (e=.returned (.bool true)/\J (pre++[x]) W'/\Keep (fun k=>¬ Pr k) W1 W')\/(e=.returned (.bool false)/\Jx (pre++[x]) W')) ->
  J [] W ->
  CallsIn Fence.wide 8 P gf (#[.func (.yield l) #[] #[]]++lb) W fun e W'=>(∃ v,e=.returned v)/\(J xs W'\/∃ pre,pre <+: xs/\Jx pre W')
def ziO {α:Type} (Sb:Nat->Prop) (I:List α->World->Prop) (Ix:Code->List α->World->Prop) (xs:List α) (W:World):Exit->Act->World->Prop
 | .normal,_,W'=>Keep Sb W W'/\I xs W'
 | .ret,_,W'=>Keep Sb W W'/\Ix .ret xs W'
 | .exit id,_,W'=>Keep Sb W W'/\Ix (.exit id) xs W'
 | .goto t,_,W'=>Keep Sb W W'/\Ix (.goto t) xs W'
 | .panic _,_,_=>False
 | .outgrown,_,_=>False
theorem ziP {α:Type} {P:Program} {g:Operand} {ps:Array Tmp} {assign body:Code} {Q:Exit->Act->World->Prop} {a:Act} {w:World}
 (gf:Nat) (lb:Array Value) (hg:a.eval g=.func (.func gf) #[] lb) (eg:∀ args w,(callFunc gf args).run P w=.ok (.enter gf args) w)
 (encs:α->Array Value) (hps:∀ x,(encs x).size=ps.size) (T Pr:Nat->Prop) (xs:List α)
 (hit:∀ W,Keep (fun _=>False) w W->W.heap.size=w.heap.size+2->zbY P gf lb encs T Pr xs W)
 (Sb:Nat->Prop) (hSb:∀ k,Sb k->¬ Pr k/\k≠w.heap.size/\k≠w.heap.size+1)
 (hPrD:¬ Pr (w.heap.size+1)) (hTD:¬ T w.heap.size/\¬ T (w.heap.size+1))
 (I:List α->World->Prop) (Ix:Code->List α->World->Prop)
 (hI:∀ pre A B,I pre A->Keep (fun k=>T k\/k=w.heap.size\/k=w.heap.size+1) A B->I pre B)
 (hIx:∀ c pre A B,Ix c pre A->Keep (fun k=>T k\/k=w.heap.size\/k=w.heap.size+1) A B->Ix c pre B)
 (h0:I [] w)
 (Ax:List α->α->Act->World->Prop)
 (hAx:∀ pre x a' A B,Ax pre x a' A->Keep (fun k=>k=w.heap.size+1) A B->Ax pre x a' B)
 (hassign:∀ l pre x W,pre++[x] <+: xs->w.heap.size+1<W.heap.size->I pre W ->
   assign.wpIn (Fence.wide.inRound l) 7 P (Exit.then (fun a' W'=>Keep Sb W W'/\Ax pre x a' W') (fun _ _ _=>False)) { tmps:=(ps.zip (encs x)).foldl (fun t (p,v)=>t.setIfInBounds p v) a.tmps,defers:=[] } W)
 (hbody:∀ l pre x a' W,pre++[x] <+: xs->w.heap.size+1<W.heap.size->Ax pre x a' W->body.wpIn (Fence.wide.inRound l) 7 P (ziO Sb I Ix (pre++[x]) W) a' W)
 (hdone:∀ W,I xs W->W.heap[w.heap.size]? = some (.deferred (some []))->Q .normal { a with defers:={ target:=.collected w.heap.size,args:=#[] }::a.defers } W)
 (hstop:∀ c pre W,pre <+: xs->Ix c pre W->W.heap[w.heap.size]? = some (.deferred (some []))->c.wpIn Fence.wide 9 P Q { a with defers:={ target:=.collected w.heap.size,args:=#[] }::a.defers } W) :
 (Code.rangeFunc g ps assign body).wpIn Fence.wide 9 P Q a w:=by
 refine wpIn_rangeFunc ?_
 intro fn hfn
 rw [show Fence.wide.round=none from rfl]
 obtain⟨rec,hrec⟩:∃ rec:LoopState->Option Code->Loop,rec=fun st pe=>{ state:=st,pending:=pe,fn,tmps:=a.tmps,params:=ps,assign,body,defers:=w.heap.size }:=⟨_,rfl⟩
 obtain⟨W1,hW1⟩:∃ W1,(w.alloc (.deferred (some []))).alloc (.loop (rec .ready none))=W1:=⟨_,rfl⟩
 have hL1:W1.heap[w.heap.size+1]? = some (.loop (rec .ready none)):=by
  rw [<-hW1];have:=World.alloc_heap_new (w.alloc (.deferred (some []))) (.loop (rec .ready none));rwa [World.size_alloc] at this
 have hK1:W1.heap[w.heap.size]? = some (.deferred (some [])):=by
  rw [<-hW1];exact(Below.heap_alloc _ _ _ (by simp)).trans (World.alloc_heap_new w _)
 have hkw:Keep (fun _=>False) w W1:=by rw [<-hW1];exact((Keep.refl _ _).alloc _).alloc _
 have hsz:W1.heap.size=w.heap.size+2:=by rw [<-hW1];simp
 have hI1:I [] W1:=hI _ _ _ h0 (hkw.mono fun _ _ h=>h.elim)
 refine⟨w.heap.size+1,[{ target:=.collected w.heap.size,args:=#[] }],W1,{ target:=.fn (.func gf) lb,args:=#[.func (.yield (w.heap.size+1)) #[] #[]] },W1,gf,
  #[.func (.yield (w.heap.size+1)) #[] #[]]++lb,W1,?_,?_,?_,?_,fun _=>by omega,?_⟩
 ·rw [<-hW1,hrec];exact run_enterLoop_outer _ _ _ _ _
 ·simp only [resolve,hg]
  simp [go_sem]
 ·intro f' _;trivial
 ·simp [invoke,go_sem,eg]
 ·refine(hit W1 hkw hsz (w.heap.size+1)
   (fun pre W=>I pre W/\W.heap[w.heap.size+1]? = some (.loop (rec .ready none))/\W.heap[w.heap.size]? = some (.deferred (some [])))
   (fun pre W=>∃ c,Ix c pre W/\W.heap[w.heap.size+1]? = some (.loop (rec .done (some c)))/\W.heap[w.heap.size]? = some (.deferred (some [])))
   ?_ ?_ ?_ ⟨hI1,hL1,hK1⟩).mono ?_
  ·rintro pre A B ⟨hi,hl,hk⟩ h
   exact⟨hI _ _ _ hi (h.mono fun _ _ e=>.inl e),h.obj hl hTD.2,h.obj hk hTD.1⟩
  ·rintro pre A B ⟨c,hi,hl,hk⟩ h
   exact⟨c,hIx _ _ _ _ hi (h.mono fun _ _ e=>.inl e),h.obj hl hTD.2,h.obj hk hTD.1⟩
  ·rintro pre x W ⟨hi,hl,hk⟩ hpx
   have hlt:w.heap.size+1<W.heap.size:=(Array.getElem?_eq_some_iff.1 hl).1
   have hy:=run_yield (P:=P) (args:=encs x) hl (by rw [hrec];exact hps x)
   rw [hrec] at hy
   refine⟨fn,_,assign,body,hy,roundIn_of_wpIn hfn (wpIn_mono (hassign _ pre x W hpx hlt hi) ?_)⟩
   intro e a1 Wa he
   cases e with
   | normal=>
     obtain⟨hka,hax⟩:=he
     have hla:Wa.heap[w.heap.size+1]? = some (.loop (rec .ready none)):=hka.obj hl fun h=>(hSb _ h).2.2 rfl
     have hda:Wa.heap[w.heap.size]? = some (.deferred (some [])):=hka.obj hk fun h=>(hSb _ h).2.1 rfl
     have hlta:w.heap.size+1<Wa.heap.size:=(Array.getElem?_eq_some_iff.1 hla).1
     refine⟨_,run_beginRound hla (by rw [hrec]),?_⟩
     obtain⟨W2,hW2⟩:∃ W2,Wa.putObj (w.heap.size+1) (.loop { rec .ready none with state:=.busy })=W2:=⟨_,rfl⟩
     rw [hW2]
     have hk2':Keep (fun k=>k=w.heap.size+1) Wa W2:=by rw [<-hW2];exact(Keep.refl (fun k=>k=w.heap.size+1) Wa).putObj (fun _=>rfl) _
     have hl2:W2.heap[w.heap.size+1]? = some (.loop { rec .ready none with state:=.busy }):=by rw [<-hW2];exact World.putObj_heap_same hlta
     have hd2:W2.heap[w.heap.size]? = some (.deferred (some [])):=hk2'.obj hda (by omega)
     refine wpIn_mono (hbody _ pre x a1 W2 hpx (by rw [<-hW2];simpa using hlta) (hAx _ _ _ _ _ hax hk2')) ?_
     have fin:∀(jump:Option Code) (W3:World),Keep Sb W2 W3->∃ W4,
      (Instr.endRound (w.heap.size+1) jump).run P W3=.ok (.bool jump.isNone) W4 /\
      W4.heap[w.heap.size+1]? = some (.loop (rec (if jump.isNone then .ready else .done) jump)) /\
      W4.heap[w.heap.size]? = some (.deferred (some []))/\Keep (fun k=>k=w.heap.size+1) W3 W4/\Keep (fun k=>¬ Pr k) W W4:=fun jump W3 hk3=>by
      have hl3:=hk3.obj hl2 fun h=>(hSb _ h).2.2 rfl
      have hd3:=hk3.obj hd2 fun h=>(hSb _ h).2.1 rfl
      have hr:=run_endRound (P:=P) jump hl3
      rw [hrec] at hr hl3 ⊢
      refine⟨_,hr,World.putObj_heap_same (Array.getElem?_eq_some_iff.1 hl3).1,(World.putObj_heap_other (by omega)).trans hd3,(Keep.refl (fun k=>k=w.heap.size+1) W3).putObj (fun _=>rfl) _,?_⟩
      have e1:Keep (fun k=>¬ Pr k) W Wa:=hka.mono fun k _ h=>(hSb k h).1
      have e2:Keep (fun k=>¬ Pr k) Wa W2:=hk2'.mono fun k _ h=>by cases h;exact hPrD
      have e3:Keep (fun k=>¬ Pr k) W2 W3:=hk3.mono fun k _ h=>(hSb k h).1
      exact(((e1.trans e2).trans e3)).putObj (fun _=>hPrD) _
     rintro e a3 W3 hp
     cases e with
     | normal=>
       obtain⟨hk3,hi3⟩:=hp
       obtain⟨W4,hr,hl4,hd4,hk4,hall⟩:=fin none W3 hk3
       exact⟨_,_,hr,.inl ⟨rfl,⟨hI _ _ _ hi3 (hk4.mono fun _ _ e=>.inr (.inr e)),hl4,hd4⟩,hall⟩⟩
     | ret=>
       obtain⟨hk3,hi3⟩:=hp
       obtain⟨W4,hr,hl4,hd4,hk4,hall⟩:=fin (some .ret) W3 hk3
       exact⟨_,_,hr,.inr ⟨rfl,.ret,hIx _ _ _ _ hi3 (hk4.mono fun _ _ e=>.inr (.inr e)),hl4,hd4⟩⟩
     | exit id=>
       obtain⟨hk3,hi3⟩:=hp
       obtain⟨W4,hr,hl4,hd4,hk4,hall⟩:=fin (some (.exit id)) W3 hk3
       exact⟨_,_,hr,.inr ⟨rfl,.exit id,hIx _ _ _ _ hi3 (hk4.mono fun _ _ e=>.inr (.inr e)),hl4,hd4⟩⟩
     | goto t=>
       obtain⟨hk3,hi3⟩:=hp
       obtain⟨W4,hr,hl4,hd4,hk4,hall⟩:=fin (some (.goto t)) W3 hk3
       exact⟨_,_,hr,.inr ⟨rfl,.goto t,hIx _ _ _ _ hi3 (hk4.mono fun _ _ e=>.inr (.inr e)),hl4,hd4⟩⟩
     | panic ch=>exact hp.elim
     | outgrown=>exact hp.elim
   | ret=>exact he.elim
   | exit id=>exact he.elim
   | goto t=>exact he.elim
   | panic ch=>exact he.elim
   | outgrown=>exact he.elim
  ·rintro e W2 ⟨⟨v,rfl⟩,(⟨hi,hl,hk⟩ | ⟨pre,hpre,c,hi,hl,hk⟩)⟩
   ·have hr:=run_endLoop (P:=P) hl (by rw [hrec];simp)
    refine⟨none,_,by rw [hrec] at hr;exact hr,hdone _ (hI _ _ _ hi ((Keep.refl _ _).putObj (fun _=>.inr (.inr rfl)) _)) ((World.putObj_heap_other (by omega)).trans hk)⟩
   ·have hr:=run_endLoop (P:=P) hl (by rw [hrec];simp)
    refine⟨some c,_,by rw [hrec] at hr;exact hr,hstop c pre _ hpre (hIx _ _ _ _ hi ((Keep.refl _ _).putObj (fun _=>.inr (.inr rfl)) _)) ((World.putObj_heap_other (by omega)).trans hk)⟩
end Go.Proofs.YtopfkkogooocgaaGreat
