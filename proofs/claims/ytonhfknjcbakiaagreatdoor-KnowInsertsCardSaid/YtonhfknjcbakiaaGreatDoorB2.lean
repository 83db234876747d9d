import Derived.RangeFuncNested
import Derived.RangeFuncBound
import Derived.RangeFuncCalls
import Derived.RangeFuncLeaves
import Derived.Shelf.Abstract
import Derived.Shelf.RegionOpen
import Derived.WalkKit
import Derived.OwnWalkIn
import Derived.TacticsInMore
import Derived.LoopNIn
import Derived.LoopIn
import Derived.Maps.AppendAt
import Derived.Lib.Hide
set_option linter.unusedVariables false
set_option linter.unusedSimpArgs false
namespace Go.Proofs.YtonhfknjcbakiaaGreatDoor
open Go.RowKit
structure Keep (S:Nat->Prop) (A B:World):Prop where
 os:B.os=A.os
 tape:B.tape=A.tape
 output:B.output=A.output
 size:A.heap.size<=B.heap.size
 block:∀ k,k<A.heap.size->¬ S k->B.heap[k]? = A.heap[k]?
namespace Keep
variable {S S':Nat->Prop} {A B C:World}
theorem refl (S:Nat->Prop) (A:World):Keep S A A:=⟨rfl,rfl,rfl,Nat.le_refl _,fun _ _ _=>rfl⟩
theorem trans (h:Keep S A B) (k:Keep S B C):Keep S A C:=
 ⟨k.os.trans h.os,k.tape.trans h.tape,k.output.trans h.output,Nat.le_trans h.size k.size,fun i hi hs=>(k.block i (Nat.lt_of_lt_of_le hi h.size) hs).trans (h.block i hi hs)⟩
theorem mono (h:Keep S A B) (hs:∀ k,k<A.heap.size->S k->S' k):Keep S' A B:=⟨h.os,h.tape,h.output,h.size,fun i hi a=>h.block i hi fun e=>a (hs i hi e)⟩
theorem drew (h:Keep S A B):Keep S A B.drew:=⟨h.os,h.tape,h.output,h.size,h.block⟩
theorem alloc (h:Keep S A B) (o:Obj):Keep S A (B.alloc o):=
 h.trans ⟨rfl,rfl,rfl,by simp,fun k hk _=>Below.heap_alloc _ _ _ hk⟩
theorem setCell (h:Keep S A B) {p:Addr} (a:p.block<A.heap.size->S p.block) (u:Value):Keep S A (B.setCell p u):=
 ⟨h.os,h.tape,h.output,by show A.heap.size<=(B.heap.modify _ _).size;rw [Array.size_modify];exact h.size,fun k hk hs=>(Below.heap_setCell _ _ _ _ (fun e=>hs (by rw [e];exact a (by rw [<-e];exact hk)))).trans (h.block k hk hs)⟩
theorem putObj (h:Keep S A B) {l:Nat} (a:l<A.heap.size->S l) (o:Obj):Keep S A (B.putObj l o):=
 ⟨h.os,h.tape,h.output,by simpa using h.size,fun k hk hs=>(World.putObj_heap_other (fun e=>hs (by rw [e];exact a (by rw [<-e];exact hk)))).trans (h.block k hk hs)⟩
theorem grown {j:Option Nat} (h:Keep S A B) (a:B.grownBy C j) (u:∀ k,j=some k->k<A.heap.size->S k):Keep S A C:=
 ⟨a.os.trans h.os,a.tape.trans h.tape,a.output.trans h.output,Nat.le_trans h.size a.size,fun k hk hs=>(a.block k (Nat.lt_of_lt_of_le hk h.size) (fun e=>hs (u k e.symm hk))).trans (h.block k hk hs)⟩
theorem below {n:Nat} (h:Keep S A B) (a:n<=A.heap.size) (hs:∀ k,k<n->¬ S k):Below n A B:=
 ⟨h.os,h.tape,h.output,h.size,fun k hk=>h.block k (by omega) (hs k hk)⟩
theorem of_below' {n:Nat} (h:Below n A B) (a:A.heap.size<=n):Keep S A B:=⟨h.os,h.tape,h.output,h.size,fun k hk _=>h.block k (by omega)⟩
theorem cell (h:Keep S A B) {p:Addr} (a:p.block<A.heap.size) (hs:¬ S p.block):B.cell? p=A.cell? p:=World.cell?_of_block (h.block _ a hs)
theorem frozen (h:Keep S A B) {p:Addr} (a:p.block<A.heap.size) (hs:¬ S p.block):B.frozen? p=A.frozen? p:=World.frozen?_of_block (h.block _ a hs)
theorem cell_some (h:Keep S A B) {p:Addr} {v:Value} (a:A.cell? p=some v) (hs:¬ S p.block):B.cell? p=some v:=(h.cell (World.block_lt_of_cell? A p a) hs).trans a
theorem boxed (h:Keep S A B) {b:Nat} {t:TypeId} {v:Value} (a:Boxed A b t v) (hs:¬ S b):Boxed B b t v:=(h.block b a.lt hs).trans a
theorem obj (h:Keep S A B) {b:Nat} {o:Obj} (a:A.heap[b]? = some o) (hs:¬ S b):B.heap[b]? = some o:=(h.block b (Array.getElem?_eq_some_iff.1 a).1 hs).trans a
theorem ownsRow (h:Keep S A B) {base:Nat} {e:TypeId} {size:Nat} {v:Value} {n:Nat} {y:List Value} (w:A.ownsRow base e size v n y) (hs:∀ g,v.ownBlock=some g->¬ S g):B.ownsRow base e size v n y:=by
 refine⟨w.1,?_⟩
 rcases w.2 with C | ⟨g,a,j,rfl,hb,u,rest⟩
 ·exact .inl C
 ·exact .inr ⟨g,a,j,rfl,hb,h.obj u (hs g rfl),rest⟩
end Keep
def zbY {α:Type} (P:Program) (E:Nat) (F:Array Value) (j:α->Array Value) (T C:Nat->Prop) (y:List α) (W:World):Prop:=
 ∀(l:Nat) (J u:List α->World->Prop),
  (∀ pre A B,J pre A->Keep T A B->J pre B)->(∀ pre A B,u pre A->Keep T A B->u pre B) ->
  (∀ pre x w,J pre w->pre++[x] <+: y->YieldAt Fence.wide 7 P l (j x) w fun e a=>
    (e=.returned (.bool true)/\J (pre++[x]) a/\Keep (fun k=>¬ C k) w a)\/(e=.returned (.bool false)/\u (pre++[x]) a)) ->
  J [] W ->
  CallsIn Fence.wide 8 P E (#[.func (.yield l) #[] #[]]++F) W fun e a=>(∃ v,e=.returned v)/\(J y a\/∃ pre,pre <+: y/\u pre a)
def ziO {α:Type} (Sb:Nat->Prop) (I:List α->World->Prop) (j:Code->List α->World->Prop) (a:List α) (W:World):Exit->Act->World->Prop
 | .normal,_,W'=>Keep Sb W W'/\I a W'
 | .ret,_,W'=>Keep Sb W W'/\j .ret a W'
 | .exit id,_,W'=>Keep Sb W W'/\j (.exit id) a W'
 | .goto t,_,W'=>Keep Sb W W'/\j (.goto t) a W'
 | .panic _,_,_=>False
 | .outgrown,_,_=>False
theorem ziP {α:Type} {P:Program} {g:Operand} {ps:Array Tmp} {assign body:Code} {Q:Exit->Act->World->Prop} {a:Act} {w:World}
 (gf:Nat) (lb:Array Value) (hg:a.eval g=.func (.func gf) #[] lb) (eg:∀ ad w,(callFunc gf ad).run P w=.ok (.enter gf ad) w)
 (K:α->Array Value) (aF:∀ x,(K x).size=ps.size) (T Pr:Nat->Prop) (xs:List α)
 (aC:∀ W,Keep (fun _=>False) w W->W.heap.size=w.heap.size+2->zbY P gf lb K T Pr xs W)
 (Sb:Nat->Prop) (M:∀ k,Sb k->¬ Pr k/\k≠w.heap.size/\k≠w.heap.size+1)
 (ae:¬ Pr (w.heap.size+1)) (ab:¬ T w.heap.size/\¬ T (w.heap.size+1))
 (I:List α->World->Prop) (Ix:Code->List α->World->Prop)
 (hI:∀ pre A B,I pre A->Keep (fun k=>T k\/k=w.heap.size\/k=w.heap.size+1) A B->I pre B)
 (S:∀ c pre A B,Ix c pre A->Keep (fun k=>T k\/k=w.heap.size\/k=w.heap.size+1) A B->Ix c pre B)
 (h0:I [] w)
 (Ax:List α->α->Act->World->Prop)
 (ar:∀ pre x a' A B,Ax pre x a' A->Keep (fun k=>k=w.heap.size+1) A B->Ax pre x a' B)
 (V:∀ l pre x W,pre++[x] <+: xs->w.heap.size+1<W.heap.size->I pre W ->
   assign.wpIn (Fence.wide.inRound l) 7 P (Exit.then (fun a' W'=>Keep Sb W W'/\Ax pre x a' W') (fun _ _ _=>False)) { tmps:=(ps.zip (K x)).foldl (fun t (p,v)=>t.setIfInBounds p v) a.tmps,defers:=[] } W)
 (ag:∀ l pre x a' W,pre++[x] <+: xs->w.heap.size+1<W.heap.size->Ax pre x a' W->body.wpIn (Fence.wide.inRound l) 7 P (ziO Sb I Ix (pre++[x]) W) a' W)
 (ah:∀ W,I xs W->W.heap[w.heap.size]? = some (.deferred (some []))->Q .normal { a with defers:={ target:=.collected w.heap.size,args:=#[] }::a.defers } W)
 (ak:∀ c pre W,pre <+: xs->Ix c pre W->W.heap[w.heap.size]? = some (.deferred (some []))->c.wpIn Fence.wide 9 P Q { a with defers:={ target:=.collected w.heap.size,args:=#[] }::a.defers } W) :
 (Code.rangeFunc g ps assign body).wpIn Fence.wide 9 P Q a w:=by
 refine wpIn_rangeFunc ?_
 intro fn aB
 rw [show Fence.wide.round=none from rfl]
 obtain⟨y,j⟩:∃ y:LoopState->Option Code->Loop,y=fun st pe=>{ state:=st,pending:=pe,fn,tmps:=a.tmps,params:=ps,assign,body,defers:=w.heap.size }:=⟨_,rfl⟩
 obtain⟨N,U⟩:∃ N,(w.alloc (.deferred (some []))).alloc (.loop (y .ready none))=N:=⟨_,rfl⟩
 have aw:N.heap[w.heap.size+1]? = some (.loop (y .ready none)):=by
  rw [<-U];have:=World.alloc_heap_new (w.alloc (.deferred (some []))) (.loop (y .ready none));rwa [World.size_alloc] at this
 have av:N.heap[w.heap.size]? = some (.deferred (some [])):=by
  rw [<-U];exact(Below.heap_alloc _ _ _ (by simp)).trans (World.alloc_heap_new w _)
 have am:Keep (fun _=>False) w N:=by rw [<-U];exact((Keep.refl _ _).alloc _).alloc _
 have aG:N.heap.size=w.heap.size+2:=by rw [<-U];simp
 have au:I [] N:=hI _ _ _ h0 (am.mono fun _ _ h=>h.elim)
 refine⟨w.heap.size+1,[{ target:=.collected w.heap.size,args:=#[] }],N,{ target:=.fn (.func gf) lb,args:=#[.func (.yield (w.heap.size+1)) #[] #[]] },N,gf,
  #[.func (.yield (w.heap.size+1)) #[] #[]]++lb,N,?_,?_,?_,?_,fun _=>by omega,?_⟩
 ·rw [<-U,j];exact run_enterLoop_outer _ _ _ _ _
 ·simp only [resolve,hg]
  simp [go_sem]
 ·intro f' _;trivial
 ·simp [invoke,go_sem,eg]
 ·refine(aC N am aG (w.heap.size+1)
   (fun pre W=>I pre W/\W.heap[w.heap.size+1]? = some (.loop (y .ready none))/\W.heap[w.heap.size]? = some (.deferred (some [])))
   (fun pre W=>∃ c,Ix c pre W/\W.heap[w.heap.size+1]? = some (.loop (y .done (some c)))/\W.heap[w.heap.size]? = some (.deferred (some [])))
   ?_ ?_ ?_ ⟨au,aw,av⟩).mono ?_
  ·rintro pre A B ⟨hi,hl,hk⟩ h
   exact⟨hI _ _ _ hi (h.mono fun _ _ e=>.inl e),h.obj hl ab.2,h.obj hk ab.1⟩
  ·rintro pre A B ⟨c,hi,hl,hk⟩ h
   exact⟨c,S _ _ _ _ hi (h.mono fun _ _ e=>.inl e),h.obj hl ab.2,h.obj hk ab.1⟩
  ·rintro pre x W ⟨hi,hl,hk⟩ aq
   have aE:w.heap.size+1<W.heap.size:=(Array.getElem?_eq_some_iff.1 hl).1
   have hy:=run_yield (P:=P) (args:=K x) hl (by rw [j];exact aF x)
   rw [j] at hy
   refine⟨fn,_,assign,body,hy,roundIn_of_wpIn aB (wpIn_mono (V _ pre x W aq aE hi) ?_)⟩
   intro e a1 Wa he
   cases e with
   | normal=>
     obtain⟨ai,ax⟩:=he
     have an:Wa.heap[w.heap.size+1]? = some (.loop (y .ready none)):=ai.obj hl fun h=>(M _ h).2.2 rfl
     have aA:Wa.heap[w.heap.size]? = some (.deferred (some [])):=ai.obj hk fun h=>(M _ h).2.1 rfl
     have af:w.heap.size+1<Wa.heap.size:=(Array.getElem?_eq_some_iff.1 an).1
     refine⟨_,run_beginRound an (by rw [j]),?_⟩
     obtain⟨Y,ac⟩:∃ Y,Wa.putObj (w.heap.size+1) (.loop { y .ready none with state:=.busy })=Y:=⟨_,rfl⟩
     rw [ac]
     have X:Keep (fun k=>k=w.heap.size+1) Wa Y:=by rw [<-ac];exact(Keep.refl (fun k=>k=w.heap.size+1) Wa).putObj (fun _=>rfl) _
     have aD:Y.heap[w.heap.size+1]? = some (.loop { y .ready none with state:=.busy }):=by rw [<-ac];exact World.putObj_heap_same af
     have ay:Y.heap[w.heap.size]? = some (.deferred (some [])):=X.obj aA (by omega)
     refine wpIn_mono (ag _ pre x a1 Y aq (by rw [<-ac];simpa using af) (ar _ _ _ _ _ ax X)) ?_
     have fin:∀(C:Option Code) (O:World),Keep Sb Y O->∃ Z,
      (Instr.endRound (w.heap.size+1) C).run P O=.ok (.bool C.isNone) Z /\
      Z.heap[w.heap.size+1]? = some (.loop (y (if C.isNone then .ready else .done) C)) /\
      Z.heap[w.heap.size]? = some (.deferred (some []))/\Keep (fun k=>k=w.heap.size+1) O Z/\Keep (fun k=>¬ Pr k) W Z:=fun C O u=>by
      have aj:=u.obj aD fun h=>(M _ h).2.2 rfl
      have az:=u.obj ay fun h=>(M _ h).2.1 rfl
      have E:=run_endRound (P:=P) C aj
      rw [j] at E aj ⊢
      refine⟨_,E,World.putObj_heap_same (Array.getElem?_eq_some_iff.1 aj).1,(World.putObj_heap_other (by omega)).trans az,(Keep.refl (fun k=>k=w.heap.size+1) O).putObj (fun _=>rfl) _,?_⟩
      have e1:Keep (fun k=>¬ Pr k) W Wa:=ai.mono fun k _ h=>(M k h).1
      have e2:Keep (fun k=>¬ Pr k) Wa Y:=X.mono fun k _ h=>by cases h;exact ae
      have e3:Keep (fun k=>¬ Pr k) Y O:=u.mono fun k _ h=>(M k h).1
      exact(((e1.trans e2).trans e3)).putObj (fun _=>ae) _
     rintro e a3 O hp
     cases e with
     | normal=>
       obtain⟨u,G⟩:=hp
       obtain⟨Z,E,J,F,H,L⟩:=fin none O u
       exact⟨_,_,E,.inl ⟨rfl,⟨hI _ _ _ G (H.mono fun _ _ e=>.inr (.inr e)),J,F⟩,L⟩⟩
     | ret=>
       obtain⟨u,G⟩:=hp
       obtain⟨Z,E,J,F,H,L⟩:=fin (some .ret) O u
       exact⟨_,_,E,.inr ⟨rfl,.ret,S _ _ _ _ G (H.mono fun _ _ e=>.inr (.inr e)),J,F⟩⟩
     | exit id=>
       obtain⟨u,G⟩:=hp
       obtain⟨Z,E,J,F,H,L⟩:=fin (some (.exit id)) O u
       exact⟨_,_,E,.inr ⟨rfl,.exit id,S _ _ _ _ G (H.mono fun _ _ e=>.inr (.inr e)),J,F⟩⟩
     | goto t=>
       obtain⟨u,G⟩:=hp
       obtain⟨Z,E,J,F,H,L⟩:=fin (some (.goto t)) O u
       exact⟨_,_,E,.inr ⟨rfl,.goto t,S _ _ _ _ G (H.mono fun _ _ e=>.inr (.inr e)),J,F⟩⟩
     | panic ch=>exact hp.elim
     | outgrown=>exact hp.elim
   | ret=>exact he.elim
   | exit id=>exact he.elim
   | goto t=>exact he.elim
   | panic ch=>exact he.elim
   | outgrown=>exact he.elim
  ·rintro e Y ⟨⟨v,rfl⟩,(⟨hi,hl,hk⟩ | ⟨pre,ao,c,hi,hl,hk⟩)⟩
   ·have E:=run_endLoop (P:=P) hl (by rw [j];simp)
    refine⟨none,_,by rw [j] at E;exact E,ah _ (hI _ _ _ hi ((Keep.refl _ _).putObj (fun _=>.inr (.inr rfl)) _)) ((World.putObj_heap_other (by omega)).trans hk)⟩
   ·have E:=run_endLoop (P:=P) hl (by rw [j];simp)
    refine⟨some c,_,by rw [j] at E;exact E,ak c pre _ ao (S _ _ _ _ hi ((Keep.refl _ _).putObj (fun _=>.inr (.inr rfl)) _)) ((World.putObj_heap_other (by omega)).trans hk)⟩
end Go.Proofs.YtonhfknjcbakiaaGreatDoor
namespace Go.Proofs.YtonhfknjcbakiaaGreatDoor
open Go.RowKit
def v7 {α:Type} (P:Program) (E:Nat) (F:Array Value) (j:α->Array Value) (T:Nat->Prop) (C:World->World->Prop) (y:List α) (W:World):Prop:=
 ∀(l:Nat) (J u:List α->World->Prop),
  (∀ pre A B,J pre A->Keep T A B->J pre B)->(∀ pre A B,u pre A->Keep T A B->u pre B) ->
  (∀ pre x w,J pre w->pre++[x] <+: y->YieldAt Fence.wide 7 P l (j x) w fun e a=>
    (e=.returned (.bool true)/\J (pre++[x]) a/\C w a)\/(e=.returned (.bool false)/\u (pre++[x]) a)) ->
  J [] W ->
  CallsIn Fence.wide 8 P E (#[.func (.yield l) #[] #[]]++F) W fun e a=>(∃ v,e=.returned v)/\(J y a\/∃ pre,pre <+: y/\u pre a)
def zgi {α:Type} (S:World->World->Prop) (I:List α->World->Prop) (j:Code->List α->World->Prop) (a:List α) (W:World):Exit->Act->World->Prop
 | .normal,_,W'=>S W W'/\I a W'
 | .ret,_,W'=>S W W'/\j .ret a W'
 | .exit id,_,W'=>S W W'/\j (.exit id) a W'
 | .goto t,_,W'=>S W W'/\j (.goto t) a W'
 | .panic _,_,_=>False
 | .outgrown,_,_=>False
theorem Xt {α:Type} {P:Program} {g:Operand} {ps:Array Tmp} {assign body:Code} {Q:Exit->Act->World->Prop} {a:Act} {w:World}
 (gf:Nat) (lb:Array Value) (hg:a.eval g=.func (.func gf) #[] lb) (eg:∀ af w,(callFunc gf af).run P w=.ok (.enter gf af) w)
 (L:α->Array Value) (aK:∀ x,(L x).size=ps.size) (T:Nat->Prop) (Pt:World->World->Prop) (xs:List α)
 (aJ:∀ W,Keep (fun _=>False) w W->W.heap.size=w.heap.size+2->v7 P gf lb L T Pt xs W)
 (S:World->World->Prop) (ab:∀ A B,S A B->∀ k,k=w.heap.size\/k=w.heap.size+1->k<A.heap.size->B.heap[k]? = A.heap[k]?) (aq:∀ A B,S A B->Pt A B)
 (ai:∀ A B C,Pt A B->Pt B C->Pt A C) (ag:∀ A B,Keep (fun k=>k=w.heap.size+1) A B->(∃ o,A.heap[w.heap.size+1]? = some (.loop o))->Pt A B) (ac:¬ T w.heap.size/\¬ T (w.heap.size+1))
 (I:List α->World->Prop) (Ix:Code->List α->World->Prop)
 (hI:∀ pre A B,I pre A->Keep (fun k=>T k\/k=w.heap.size\/k=w.heap.size+1) A B->I pre B)
 (U:∀ c pre A B,Ix c pre A->Keep (fun k=>T k\/k=w.heap.size\/k=w.heap.size+1) A B->Ix c pre B)
 (h0:I [] w)
 (Ax:List α->α->Act->World->Prop)
 (aA:∀ pre x a' A B,Ax pre x a' A->Keep (fun k=>k=w.heap.size+1) A B->Ax pre x a' B)
 (X:∀ l pre x W,pre++[x] <+: xs->w.heap.size+1<W.heap.size->I pre W ->
   assign.wpIn (Fence.wide.inRound l) 7 P (Exit.then (fun a' W'=>S W W'/\Ax pre x a' W') (fun _ _ _=>False)) { tmps:=(ps.zip (L x)).foldl (fun t (p,v)=>t.setIfInBounds p v) a.tmps,defers:=[] } W)
 (aj:∀ l pre x a' W,pre++[x] <+: xs->w.heap.size+1<W.heap.size->Ax pre x a' W->body.wpIn (Fence.wide.inRound l) 7 P (zgi S I Ix (pre++[x]) W) a' W)
 (ak:∀ W,I xs W->W.heap[w.heap.size]? = some (.deferred (some []))->Q .normal { a with defers:={ target:=.collected w.heap.size,args:=#[] }::a.defers } W)
 (ao:∀ c pre W,pre <+: xs->Ix c pre W->W.heap[w.heap.size]? = some (.deferred (some []))->c.wpIn Fence.wide 9 P Q { a with defers:={ target:=.collected w.heap.size,args:=#[] }::a.defers } W) :
 (Code.rangeFunc g ps assign body).wpIn Fence.wide 9 P Q a w:=by
 refine wpIn_rangeFunc ?_
 intro fn aI
 rw [show Fence.wide.round=none from rfl]
 obtain⟨y,j⟩:∃ y:LoopState->Option Code->Loop,y=fun st pe=>{ state:=st,pending:=pe,fn,tmps:=a.tmps,params:=ps,assign,body,defers:=w.heap.size }:=⟨_,rfl⟩
 obtain⟨N,V⟩:∃ N,(w.alloc (.deferred (some []))).alloc (.loop (y .ready none))=N:=⟨_,rfl⟩
 have aD:N.heap[w.heap.size+1]? = some (.loop (y .ready none)):=by
  rw [<-V];have:=World.alloc_heap_new (w.alloc (.deferred (some []))) (.loop (y .ready none));rwa [World.size_alloc] at this
 have aC:N.heap[w.heap.size]? = some (.deferred (some [])):=by
  rw [<-V];exact(Below.heap_alloc _ _ _ (by simp)).trans (World.alloc_heap_new w _)
 have ar:Keep (fun _=>False) w N:=by rw [<-V];exact((Keep.refl _ _).alloc _).alloc _
 have aL:N.heap.size=w.heap.size+2:=by rw [<-V];simp
 have aB:I [] N:=hI _ _ _ h0 (ar.mono fun _ _ h=>h.elim)
 refine⟨w.heap.size+1,[{ target:=.collected w.heap.size,args:=#[] }],N,{ target:=.fn (.func gf) lb,args:=#[.func (.yield (w.heap.size+1)) #[] #[]] },N,gf,
  #[.func (.yield (w.heap.size+1)) #[] #[]]++lb,N,?_,?_,?_,?_,fun _=>by omega,?_⟩
 ·rw [<-V,j];exact run_enterLoop_outer _ _ _ _ _
 ·simp only [resolve,hg]
  simp [go_sem]
 ·intro f' _;trivial
 ·simp [invoke,go_sem,eg]
 ·refine(aJ N ar aL (w.heap.size+1)
   (fun pre W=>I pre W/\W.heap[w.heap.size+1]? = some (.loop (y .ready none))/\W.heap[w.heap.size]? = some (.deferred (some [])))
   (fun pre W=>∃ c,Ix c pre W/\W.heap[w.heap.size+1]? = some (.loop (y .done (some c)))/\W.heap[w.heap.size]? = some (.deferred (some [])))
   ?_ ?_ ?_ ⟨aB,aD,aC⟩).mono ?_
  ·rintro pre A B ⟨hi,hl,hk⟩ h
   exact⟨hI _ _ _ hi (h.mono fun _ _ e=>.inl e),h.obj hl ac.2,h.obj hk ac.1⟩
  ·rintro pre A B ⟨c,hi,hl,hk⟩ h
   exact⟨c,U _ _ _ _ hi (h.mono fun _ _ e=>.inl e),h.obj hl ac.2,h.obj hk ac.1⟩
  ·rintro pre x W ⟨hi,hl,hk⟩ az
   have aw:w.heap.size+1<W.heap.size:=(Array.getElem?_eq_some_iff.1 hl).1
   have hy:=run_yield (P:=P) (args:=L x) hl (by rw [j];exact aK x)
   rw [j] at hy
   refine⟨fn,_,assign,body,hy,roundIn_of_wpIn aI (wpIn_mono (X _ pre x W az aw hi) ?_)⟩
   intro e a1 Wa he
   cases e with
   | normal=>
     obtain⟨am,aE⟩:=he
     have an:Wa.heap[w.heap.size+1]? = some (.loop (y .ready none)):=(ab _ _ am _ (.inr rfl) aw).trans hl
     have aH:Wa.heap[w.heap.size]? = some (.deferred (some [])):=(ab _ _ am _ (.inl rfl) (by omega)).trans hk
     have ah:w.heap.size+1<Wa.heap.size:=(Array.getElem?_eq_some_iff.1 an).1
     refine⟨_,run_beginRound an (by rw [j]),?_⟩
     obtain⟨Z,ad⟩:∃ Z,Wa.putObj (w.heap.size+1) (.loop { y .ready none with state:=.busy })=Z:=⟨_,rfl⟩
     rw [ad]
     have Y:Keep (fun k=>k=w.heap.size+1) Wa Z:=by rw [<-ad];exact(Keep.refl (fun k=>k=w.heap.size+1) Wa).putObj (fun _=>rfl) _
     have au:Z.heap[w.heap.size+1]? = some (.loop { y .ready none with state:=.busy }):=by rw [<-ad];exact World.putObj_heap_same ah
     have aF:Z.heap[w.heap.size]? = some (.deferred (some [])):=Y.obj aH (by omega)
     refine wpIn_mono (aj _ pre x a1 Z az (by rw [<-ad];simpa using ah) (aA _ _ _ _ _ aE Y)) ?_
     have fin:∀(E:Option Code) (O:World),S Z O->∃ W4,
      (Instr.endRound (w.heap.size+1) E).run P O=.ok (.bool E.isNone) W4 /\
      W4.heap[w.heap.size+1]? = some (.loop (y (if E.isNone then .ready else .done) E)) /\
      W4.heap[w.heap.size]? = some (.deferred (some []))/\Keep (fun k=>k=w.heap.size+1) O W4/\Pt W W4:=fun E O u=>by
      have ax:w.heap.size+1<Z.heap.size:=(Array.getElem?_eq_some_iff.1 au).1
      have ae:=(ab _ _ u _ (.inr rfl) ax).trans au
      have aG:=(ab _ _ u _ (.inl rfl) (by omega)).trans aF
      have F:=run_endRound (P:=P) E ae
      rw [j] at F ⊢
      have av:=ae
      rw [j] at av
      refine⟨_,F,World.putObj_heap_same (Array.getElem?_eq_some_iff.1 ae).1,(World.putObj_heap_other (by omega)).trans aG,(Keep.refl (fun k=>k=w.heap.size+1) O).putObj (fun _=>rfl) _,?_⟩
      exact ai _ _ _ (aq _ _ am) (ai _ _ _ (ag _ _ Y ⟨_,an⟩) (ai _ _ _ (aq _ _ u) (ag _ _ ((Keep.refl (fun k=>k=w.heap.size+1) O).putObj (fun _=>rfl) _) ⟨_,ae⟩)))
     rintro e a3 O hp
     cases e with
     | normal=>
       obtain⟨u,H⟩:=hp
       obtain⟨W4,F,K,G,J,M⟩:=fin none O u
       exact⟨_,_,F,.inl ⟨rfl,⟨hI _ _ _ H (J.mono fun _ _ e=>.inr (.inr e)),K,G⟩,M⟩⟩
     | ret=>
       obtain⟨u,H⟩:=hp
       obtain⟨W4,F,K,G,J,M⟩:=fin (some .ret) O u
       exact⟨_,_,F,.inr ⟨rfl,.ret,U _ _ _ _ H (J.mono fun _ _ e=>.inr (.inr e)),K,G⟩⟩
     | exit id=>
       obtain⟨u,H⟩:=hp
       obtain⟨W4,F,K,G,J,M⟩:=fin (some (.exit id)) O u
       exact⟨_,_,F,.inr ⟨rfl,.exit id,U _ _ _ _ H (J.mono fun _ _ e=>.inr (.inr e)),K,G⟩⟩
     | goto t=>
       obtain⟨u,H⟩:=hp
       obtain⟨W4,F,K,G,J,M⟩:=fin (some (.goto t)) O u
       exact⟨_,_,F,.inr ⟨rfl,.goto t,U _ _ _ _ H (J.mono fun _ _ e=>.inr (.inr e)),K,G⟩⟩
     | panic ch=>exact hp.elim
     | outgrown=>exact hp.elim
   | ret=>exact he.elim
   | exit id=>exact he.elim
   | goto t=>exact he.elim
   | panic ch=>exact he.elim
   | outgrown=>exact he.elim
  ·rintro e Z ⟨⟨v,rfl⟩,(⟨hi,hl,hk⟩ | ⟨pre,ay,c,hi,hl,hk⟩)⟩
   ·have F:=run_endLoop (P:=P) hl (by rw [j];simp)
    refine⟨none,_,by rw [j] at F;exact F,ak _ (hI _ _ _ hi ((Keep.refl _ _).putObj (fun _=>.inr (.inr rfl)) _)) ((World.putObj_heap_other (by omega)).trans hk)⟩
   ·have F:=run_endLoop (P:=P) hl (by rw [j];simp)
    refine⟨some c,_,by rw [j] at F;exact F,ao c pre _ ay (U _ _ _ _ hi ((Keep.refl _ _).putObj (fun _=>.inr (.inr rfl)) _)) ((World.putObj_heap_other (by omega)).trans hk)⟩
end Go.Proofs.YtonhfknjcbakiaaGreatDoor
