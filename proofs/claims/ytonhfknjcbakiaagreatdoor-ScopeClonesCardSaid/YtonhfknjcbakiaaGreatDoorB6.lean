import Derived.Test.YtonhfknjcbakiaaGreatDoorB2
set_option linter.unusedVariables false
set_option linter.unusedSimpArgs false
namespace Go.Proofs.YtonhfknjcbakiaaGreatDoor
open Go.RowKit
def v7 {α:Type} (P:Program) (gf:Nat) (lb:Array Value) (encs:α->Array Value) (T:Nat->Prop) (Pt:World->World->Prop) (xs:List α) (W:World):Prop:=
 ∀(l:Nat) (J Jx:List α->World->Prop),
  (∀ pre A B,J pre A->Keep T A B->J pre B)->(∀ pre A B,Jx pre A->Keep T A B->Jx pre B) ->
  (∀ pre x W1,J pre W1->pre++[x] <+: xs->YieldAt Fence.wide 7 P l (encs x) W1 fun e W'=>
    (e=.returned (.bool true)/\J (pre++[x]) W'/\Pt W1 W')\/(e=.returned (.bool false)/\Jx (pre++[x]) W')) ->
  J [] W ->
  CallsIn Fence.wide 8 P gf (#[.func (.yield l) #[] #[]]++lb) W fun e W'=>(∃ v,e=.returned v)/\(J xs W'\/∃ pre,pre <+: xs/\Jx pre W')
def zgi {α:Type} (S:World->World->Prop) (I:List α->World->Prop) (Ix:Code->List α->World->Prop) (xs:List α) (W:World):Exit->Act->World->Prop
 | .normal,_,W'=>S W W'/\I xs W'
 | .ret,_,W'=>S W W'/\Ix .ret xs W'
 | .exit id,_,W'=>S W W'/\Ix (.exit id) xs W'
 | .goto t,_,W'=>S W W'/\Ix (.goto t) xs W'
 | .panic _,_,_=>False
 | .outgrown,_,_=>False
theorem Xt {α:Type} {P:Program} {g:Operand} {ps:Array Tmp} {assign body:Code} {Q:Exit->Act->World->Prop} {a:Act} {w:World}
 (gf:Nat) (lb:Array Value) (hg:a.eval g=.func (.func gf) #[] lb) (eg:∀ args w,(callFunc gf args).run P w=.ok (.enter gf args) w)
 (encs:α->Array Value) (hps:∀ x,(encs x).size=ps.size) (T:Nat->Prop) (Pt:World->World->Prop) (xs:List α)
 (hit:∀ W,Keep (fun _=>False) w W->W.heap.size=w.heap.size+2->v7 P gf lb encs T Pt xs W)
 (S:World->World->Prop) (hS1:∀ A B,S A B->∀ k,k=w.heap.size\/k=w.heap.size+1->k<A.heap.size->B.heap[k]? = A.heap[k]?) (hS2:∀ A B,S A B->Pt A B)
 (hPt:∀ A B C,Pt A B->Pt B C->Pt A C) (hPt0:∀ A B,Keep (fun k=>k=w.heap.size+1) A B->(∃ o,A.heap[w.heap.size+1]? = some (.loop o))->Pt A B) (hTD:¬ T w.heap.size/\¬ T (w.heap.size+1))
 (I:List α->World->Prop) (Ix:Code->List α->World->Prop)
 (hI:∀ pre A B,I pre A->Keep (fun k=>T k\/k=w.heap.size\/k=w.heap.size+1) A B->I pre B)
 (hIx:∀ c pre A B,Ix c pre A->Keep (fun k=>T k\/k=w.heap.size\/k=w.heap.size+1) A B->Ix c pre B)
 (h0:I [] w)
 (Ax:List α->α->Act->World->Prop)
 (hAx:∀ pre x a' A B,Ax pre x a' A->Keep (fun k=>k=w.heap.size+1) A B->Ax pre x a' B)
 (hassign:∀ l pre x W,pre++[x] <+: xs->w.heap.size+1<W.heap.size->I pre W ->
   assign.wpIn (Fence.wide.inRound l) 7 P (Exit.then (fun a' W'=>S W W'/\Ax pre x a' W') (fun _ _ _=>False)) { tmps:=(ps.zip (encs x)).foldl (fun t (p,v)=>t.setIfInBounds p v) a.tmps,defers:=[] } W)
 (hbody:∀ l pre x a' W,pre++[x] <+: xs->w.heap.size+1<W.heap.size->Ax pre x a' W->body.wpIn (Fence.wide.inRound l) 7 P (zgi S I Ix (pre++[x]) W) a' W)
 (hdone:∀ W,I xs W->W.heap[w.heap.size]? = some (.deferred (some []))->Q .normal { a with defers:={ target:=.collected w.heap.size,args:=#[] }::a.defers } W)
 (hstop:∀ c pre W,pre <+: xs->Ix c pre W->W.heap[w.heap.size]? = some (.deferred (some []))->c.wpIn Fence.wide 9 P Q { a with defers:={ target:=.collected w.heap.size,args:=#[] }::a.defers } W) :
 (Code.rangeFunc g ps assign body).wpIn Fence.wide 9 P Q a w:=by
 refine wpIn_rangeFunc ?_
 intro fn hfn
 rw [show Fence.wide.round=none from rfl]
 obtain⟨rec,hrec⟩:∃ rec:LoopState->Option Code->Loop,rec=fun st pe=>{ state:=st,pending:=pe,fn,tmps:=a.tmps,params:=ps,assign,body,defers:=w.heap.size }:=⟨_,rfl⟩
 obtain⟨W1,hW1⟩:∃ W1,(w.alloc (.deferred (some []))).alloc (.loop (rec .ready none))=W1:=⟨_,rfl⟩
 have hL1:W1.heap[w.heap.size+1]? = some (.loop (rec .ready none)):=by
  rw [<-hW1];have:=World.alloc_heap_new (w.alloc (.deferred (some []))) (.loop (rec .ready none));rwa [World.size_alloc] at this
 have hK1:W1.heap[w.heap.size]? = some (.deferred (some [])):=by
  rw [<-hW1];exact(Below.heap_alloc _ _ _ (by simp)).trans (World.alloc_heap_new w _)
 have hkw:Keep (fun _=>False) w W1:=by rw [<-hW1];exact((Keep.refl _ _).alloc _).alloc _
 have hsz:W1.heap.size=w.heap.size+2:=by rw [<-hW1];simp
 have hI1:I [] W1:=hI _ _ _ h0 (hkw.mono fun _ _ h=>h.elim)
 refine⟨w.heap.size+1,[{ target:=.collected w.heap.size,args:=#[] }],W1,{ target:=.fn (.func gf) lb,args:=#[.func (.yield (w.heap.size+1)) #[] #[]] },W1,gf,
  #[.func (.yield (w.heap.size+1)) #[] #[]]++lb,W1,?_,?_,?_,?_,fun _=>by omega,?_⟩
 ·rw [<-hW1,hrec];exact run_enterLoop_outer _ _ _ _ _
 ·simp only [resolve,hg]
  simp [go_sem]
 ·intro f' _;trivial
 ·simp [invoke,go_sem,eg]
 ·refine(hit W1 hkw hsz (w.heap.size+1)
   (fun pre W=>I pre W/\W.heap[w.heap.size+1]? = some (.loop (rec .ready none))/\W.heap[w.heap.size]? = some (.deferred (some [])))
   (fun pre W=>∃ c,Ix c pre W/\W.heap[w.heap.size+1]? = some (.loop (rec .done (some c)))/\W.heap[w.heap.size]? = some (.deferred (some [])))
   ?_ ?_ ?_ ⟨hI1,hL1,hK1⟩).mono ?_
  ·rintro pre A B ⟨hi,hl,hk⟩ h
   exact⟨hI _ _ _ hi (h.mono fun _ _ e=>.inl e),h.obj hl hTD.2,h.obj hk hTD.1⟩
  ·rintro pre A B ⟨c,hi,hl,hk⟩ h
   exact⟨c,hIx _ _ _ _ hi (h.mono fun _ _ e=>.inl e),h.obj hl hTD.2,h.obj hk hTD.1⟩
  ·rintro pre x W ⟨hi,hl,hk⟩ hpx
   have hlt:w.heap.size+1<W.heap.size:=(Array.getElem?_eq_some_iff.1 hl).1
   have hy:=run_yield (P:=P) (args:=encs x) hl (by rw [hrec];exact hps x)
   rw [hrec] at hy
   refine⟨fn,_,assign,body,hy,roundIn_of_wpIn hfn (wpIn_mono (hassign _ pre x W hpx hlt hi) ?_)⟩
   intro e a1 Wa he
   cases e with
   | normal=>
     obtain⟨hka,hax⟩:=he
     have hla:Wa.heap[w.heap.size+1]? = some (.loop (rec .ready none)):=(hS1 _ _ hka _ (.inr rfl) hlt).trans hl
     have hda:Wa.heap[w.heap.size]? = some (.deferred (some [])):=(hS1 _ _ hka _ (.inl rfl) (by omega)).trans hk
     have hlta:w.heap.size+1<Wa.heap.size:=(Array.getElem?_eq_some_iff.1 hla).1
     refine⟨_,run_beginRound hla (by rw [hrec]),?_⟩
     obtain⟨W2,hW2⟩:∃ W2,Wa.putObj (w.heap.size+1) (.loop { rec .ready none with state:=.busy })=W2:=⟨_,rfl⟩
     rw [hW2]
     have hk2':Keep (fun k=>k=w.heap.size+1) Wa W2:=by rw [<-hW2];exact(Keep.refl (fun k=>k=w.heap.size+1) Wa).putObj (fun _=>rfl) _
     have hl2:W2.heap[w.heap.size+1]? = some (.loop { rec .ready none with state:=.busy }):=by rw [<-hW2];exact World.putObj_heap_same hlta
     have hd2:W2.heap[w.heap.size]? = some (.deferred (some [])):=hk2'.obj hda (by omega)
     refine wpIn_mono (hbody _ pre x a1 W2 hpx (by rw [<-hW2];simpa using hlta) (hAx _ _ _ _ _ hax hk2')) ?_
     have fin:∀(jump:Option Code) (W3:World),S W2 W3->∃ W4,
      (Instr.endRound (w.heap.size+1) jump).run P W3=.ok (.bool jump.isNone) W4 /\
      W4.heap[w.heap.size+1]? = some (.loop (rec (if jump.isNone then .ready else .done) jump)) /\
      W4.heap[w.heap.size]? = some (.deferred (some []))/\Keep (fun k=>k=w.heap.size+1) W3 W4/\Pt W W4:=fun jump W3 hk3=>by
      have hlt2:w.heap.size+1<W2.heap.size:=(Array.getElem?_eq_some_iff.1 hl2).1
      have hl3:=(hS1 _ _ hk3 _ (.inr rfl) hlt2).trans hl2
      have hd3:=(hS1 _ _ hk3 _ (.inl rfl) (by omega)).trans hd2
      have hr:=run_endRound (P:=P) jump hl3
      rw [hrec] at hr ⊢
      have hl3':=hl3
      rw [hrec] at hl3'
      refine⟨_,hr,World.putObj_heap_same (Array.getElem?_eq_some_iff.1 hl3).1,(World.putObj_heap_other (by omega)).trans hd3,(Keep.refl (fun k=>k=w.heap.size+1) W3).putObj (fun _=>rfl) _,?_⟩
      exact hPt _ _ _ (hS2 _ _ hka) (hPt _ _ _ (hPt0 _ _ hk2' ⟨_,hla⟩) (hPt _ _ _ (hS2 _ _ hk3) (hPt0 _ _ ((Keep.refl (fun k=>k=w.heap.size+1) W3).putObj (fun _=>rfl) _) ⟨_,hl3⟩)))
     rintro e a3 W3 hp
     cases e with
     | normal=>
       obtain⟨hk3,hi3⟩:=hp
       obtain⟨W4,hr,hl4,hd4,hk4,hall⟩:=fin none W3 hk3
       exact⟨_,_,hr,.inl ⟨rfl,⟨hI _ _ _ hi3 (hk4.mono fun _ _ e=>.inr (.inr e)),hl4,hd4⟩,hall⟩⟩
     | ret=>
       obtain⟨hk3,hi3⟩:=hp
       obtain⟨W4,hr,hl4,hd4,hk4,hall⟩:=fin (some .ret) W3 hk3
       exact⟨_,_,hr,.inr ⟨rfl,.ret,hIx _ _ _ _ hi3 (hk4.mono fun _ _ e=>.inr (.inr e)),hl4,hd4⟩⟩
     | exit id=>
       obtain⟨hk3,hi3⟩:=hp
       obtain⟨W4,hr,hl4,hd4,hk4,hall⟩:=fin (some (.exit id)) W3 hk3
       exact⟨_,_,hr,.inr ⟨rfl,.exit id,hIx _ _ _ _ hi3 (hk4.mono fun _ _ e=>.inr (.inr e)),hl4,hd4⟩⟩
     | goto t=>
       obtain⟨hk3,hi3⟩:=hp
       obtain⟨W4,hr,hl4,hd4,hk4,hall⟩:=fin (some (.goto t)) W3 hk3
       exact⟨_,_,hr,.inr ⟨rfl,.goto t,hIx _ _ _ _ hi3 (hk4.mono fun _ _ e=>.inr (.inr e)),hl4,hd4⟩⟩
     | panic ch=>exact hp.elim
     | outgrown=>exact hp.elim
   | ret=>exact he.elim
   | exit id=>exact he.elim
   | goto t=>exact he.elim
   | panic ch=>exact he.elim
   | outgrown=>exact he.elim
  ·rintro e W2 ⟨⟨v,rfl⟩,(⟨hi,hl,hk⟩ | ⟨pre,hpre,c,hi,hl,hk⟩)⟩
   ·have hr:=run_endLoop (P:=P) hl (by rw [hrec];simp)
    refine⟨none,_,by rw [hrec] at hr;exact hr,hdone _ (hI _ _ _ hi ((Keep.refl _ _).putObj (fun _=>.inr (.inr rfl)) _)) ((World.putObj_heap_other (by omega)).trans hk)⟩
   ·have hr:=run_endLoop (P:=P) hl (by rw [hrec];simp)
    refine⟨some c,_,by rw [hrec] at hr;exact hr,hstop c pre _ hpre (hIx _ _ _ _ hi ((Keep.refl _ _).putObj (fun _=>.inr (.inr rfl)) _)) ((World.putObj_heap_other (by omega)).trans hk)⟩
end Go.Proofs.YtonhfknjcbakiaaGreatDoor
