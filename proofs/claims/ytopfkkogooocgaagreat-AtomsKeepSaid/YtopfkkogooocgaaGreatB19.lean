import Derived.Deep.LoopGhost
import Derived.Deep.DeepCutAuto
import Derived.Deep.CutBlock
import Derived.Test.YtopfkkogooocgaaGreatB16
set_option maxHeartbeats 16000000
set_option linter.unusedVariables false
set_option linter.unusedSimpArgs false
set_option maxRecDepth 100000
namespace Go.Proofs.YtopfkkogooocgaaGreat
open Go.RowKit
def v7 {α:Type} (P:Program) (gf:Nat) (lb:Array Value) (encs:α->Array Value) (T:Nat->Prop) (Pt:World->World->Prop) (xs:List α) (W:World):Prop:=
 ∀(l:Nat) (J Jx:List α->World->Prop),
  (∀ pre A B,J pre A->Keep T A B->J pre B)->(∀ pre A B,Jx pre A->Keep T A B->Jx pre B) ->
  (∀ pre x W1,J pre W1->pre++[x] <+: xs->YieldAt Fence.wide 7 P l (encs x) W1 fun e W'=>
    (e=.returned (.bool true)/\J (pre++[x]) W'/\Pt W1 W')\/(e=.returned (.bool false)/\Jx (pre++[x]) W')) ->
  J [] W ->
  CallsIn Fence.wide 8 P gf (#[.func (.yield l) #[] #[]]++lb) W fun e W'=>(∃ v,e=.returned v)/\(J xs W'\/∃ pre,pre <+: xs/\Jx pre W')
def zgi {α:Type} (S:World->World->Prop) (I:List α->World->Prop) (Ix:Code->List α->World->Prop) (xs:List α) (W:World):Exit->Act->World->Prop
 | .normal,_,W'=>S W W'/\I xs W'
 | .ret,_,W'=>S W W'/\Ix .ret xs W'
 | .exit id,_,W'=>S W W'/\Ix (.exit id) xs W'
 | .goto t,_,W'=>S W W'/\Ix (.goto t) xs W'
 | .panic _,_,_=>False
 | .outgrown,_,_=>False
theorem Xt {α:Type} {P:Program} {g:Operand} {ps:Array Tmp} {assign body:Code} {Q:Exit->Act->World->Prop} {a:Act} {w:World}
 (gf:Nat) (lb:Array Value) (hg:a.eval g=.func (.func gf) #[] lb) (eg:∀ args w,(callFunc gf args).run P w=.ok (.enter gf args) w)
 (encs:α->Array Value) (hps:∀ x,(encs x).size=ps.size) (T:Nat->Prop) (Pt:World->World->Prop) (xs:List α)
 (hit:∀ W,Keep (fun _=>False) w W->W.heap.size=w.heap.size+2->v7 P gf lb encs T Pt xs W)
 (S:World->World->Prop) (hS1:∀ A B,S A B->∀ k,k=w.heap.size\/k=w.heap.size+1->k<A.heap.size->B.heap[k]? = A.heap[k]?) (hS2:∀ A B,S A B->Pt A B)
 (hPt:∀ A B C,Pt A B->Pt B C->Pt A C) (hPt0:∀ A B,Keep (fun k=>k=w.heap.size+1) A B->(∃ o,A.heap[w.heap.size+1]? = some (.loop o))->Pt A B) (hTD:¬ T w.heap.size/\¬ T (w.heap.size+1))
 (I:List α->World->Prop) (Ix:Code->List α->World->Prop)
 (hI:∀ pre A B,I pre A->Keep (fun k=>T k\/k=w.heap.size\/k=w.heap.size+1) A B->I pre B)
 (hIx:∀ c pre A B,Ix c pre A->Keep (fun k=>T k\/k=w.heap.size\/k=w.heap.size+1) A B->Ix c pre B)
 (h0:I [] w)
 (Ax:List α->α->Act->World->Prop)
 (hAx:∀ pre x a' A B,Ax pre x a' A->Keep (fun k=>k=w.heap.size+1) A B->Ax pre x a' B)
 (hassign:∀ l pre x W,pre++[x] <+: xs->w.heap.size+1<W.heap.size->I pre W ->
   assign.wpIn (Fence.wide.inRound l) 7 P (Exit.then (fun a' W'=>S W W'/\Ax pre x a' W') (fun _ _ _=>False)) { tmps:=(ps.zip (encs x)).foldl (fun t (p,v)=>t.setIfInBounds p v) a.tmps,defers:=[] } W)
 (hbody:∀ l pre x a' W,pre++[x] <+: xs->w.heap.size+1<W.heap.size->Ax pre x a' W->body.wpIn (Fence.wide.inRound l) 7 P (zgi S I Ix (pre++[x]) W) a' W)
 (hdone:∀ W,I xs W->W.heap[w.heap.size]? = some (.deferred (some []))->Q .normal { a with defers:={ target:=.collected w.heap.size,args:=#[] }::a.defers } W)
 (hstop:∀ c pre W,pre <+: xs->Ix c pre W->W.heap[w.heap.size]? = some (.deferred (some []))->c.wpIn Fence.wide 9 P Q { a with defers:={ target:=.collected w.heap.size,args:=#[] }::a.defers } W) :
 (Code.rangeFunc g ps assign body).wpIn Fence.wide 9 P Q a w:=by
 refine wpIn_rangeFunc ?_
 intro fn hfn
 rw [show Fence.wide.round=none from rfl]
 obtain⟨rec,hrec⟩:∃ rec:LoopState->Option Code->Loop,rec=fun st pe=>{ state:=st,pending:=pe,fn,tmps:=a.tmps,params:=ps,assign,body,defers:=w.heap.size }:=⟨_,rfl⟩
 obtain⟨W1,hW1⟩:∃ W1,(w.alloc (.deferred (some []))).alloc (.loop (rec .ready none))=W1:=⟨_,rfl⟩
 have hL1:W1.heap[w.heap.size+1]? = some (.loop (rec .ready none)):=by
  rw [<-hW1];have:=World.alloc_heap_new (w.alloc (.deferred (some []))) (.loop (rec .ready none));rwa [World.size_alloc] at this
 have hK1:W1.heap[w.heap.size]? = some (.deferred (some [])):=by
  rw [<-hW1];exact(Below.heap_alloc _ _ _ (by simp)).trans (World.alloc_heap_new w _)
 have hkw:Keep (fun _=>False) w W1:=by rw [<-hW1];exact((Keep.refl _ _).alloc _).alloc _
 have hsz:W1.heap.size=w.heap.size+2:=by rw [<-hW1];simp
 have hI1:I [] W1:=hI _ _ _ h0 (hkw.mono fun _ _ h=>h.elim)
 refine⟨w.heap.size+1,[{ target:=.collected w.heap.size,args:=#[] }],W1,{ target:=.fn (.func gf) lb,args:=#[.func (.yield (w.heap.size+1)) #[] #[]] },W1,gf,
  #[.func (.yield (w.heap.size+1)) #[] #[]]++lb,W1,?_,?_,?_,?_,fun _=>by omega,?_⟩
 ·rw [<-hW1,hrec];exact run_enterLoop_outer _ _ _ _ _
 ·simp only [resolve,hg]
  simp [go_sem]
 ·intro f' _;trivial
 ·simp [invoke,go_sem,eg]
 ·refine(hit W1 hkw hsz (w.heap.size+1)
   (fun pre W=>I pre W/\W.heap[w.heap.size+1]? = some (.loop (rec .ready none))/\W.heap[w.heap.size]? = some (.deferred (some [])))
   (fun pre W=>∃ c,Ix c pre W/\W.heap[w.heap.size+1]? = some (.loop (rec .done (some c)))/\W.heap[w.heap.size]? = some (.deferred (some [])))
   ?_ ?_ ?_ ⟨hI1,hL1,hK1⟩).mono ?_
  ·rintro pre A B ⟨hi,hl,hk⟩ h
   exact⟨hI _ _ _ hi (h.mono fun _ _ e=>.inl e),h.obj hl hTD.2,h.obj hk hTD.1⟩
  ·rintro pre A B ⟨c,hi,hl,hk⟩ h
   exact⟨c,hIx _ _ _ _ hi (h.mono fun _ _ e=>.inl e),h.obj hl hTD.2,h.obj hk hTD.1⟩
  ·rintro pre x W ⟨hi,hl,hk⟩ hpx
   have hlt:w.heap.size+1<W.heap.size:=(Array.getElem?_eq_some_iff.1 hl).1
   have hy:=run_yield (P:=P) (args:=encs x) hl (by rw [hrec];exact hps x)
   rw [hrec] at hy
   refine⟨fn,_,assign,body,hy,roundIn_of_wpIn hfn (wpIn_mono (hassign _ pre x W hpx hlt hi) ?_)⟩
   intro e a1 Wa he
   cases e with
   | normal=>
     obtain⟨hka,hax⟩:=he
     have hla:Wa.heap[w.heap.size+1]? = some (.loop (rec .ready none)):=(hS1 _ _ hka _ (.inr rfl) hlt).trans hl
     have hda:Wa.heap[w.heap.size]? = some (.deferred (some [])):=(hS1 _ _ hka _ (.inl rfl) (by omega)).trans hk
     have hlta:w.heap.size+1<Wa.heap.size:=(Array.getElem?_eq_some_iff.1 hla).1
     refine⟨_,run_beginRound hla (by rw [hrec]),?_⟩
     obtain⟨W2,hW2⟩:∃ W2,Wa.putObj (w.heap.size+1) (.loop { rec .ready none with state:=.busy })=W2:=⟨_,rfl⟩
     rw [hW2]
     have hk2':Keep (fun k=>k=w.heap.size+1) Wa W2:=by rw [<-hW2];exact(Keep.refl (fun k=>k=w.heap.size+1) Wa).putObj (fun _=>rfl) _
     have hl2:W2.heap[w.heap.size+1]? = some (.loop { rec .ready none with state:=.busy }):=by rw [<-hW2];exact World.putObj_heap_same hlta
     have hd2:W2.heap[w.heap.size]? = some (.deferred (some [])):=hk2'.obj hda (by omega)
     refine wpIn_mono (hbody _ pre x a1 W2 hpx (by rw [<-hW2];simpa using hlta) (hAx _ _ _ _ _ hax hk2')) ?_
     have fin:∀(jump:Option Code) (W3:World),S W2 W3->∃ W4,
      (Instr.endRound (w.heap.size+1) jump).run P W3=.ok (.bool jump.isNone) W4 /\
      W4.heap[w.heap.size+1]? = some (.loop (rec (if jump.isNone then .ready else .done) jump)) /\
      W4.heap[w.heap.size]? = some (.deferred (some []))/\Keep (fun k=>k=w.heap.size+1) W3 W4/\Pt W W4:=fun jump W3 hk3=>by
      have hlt2:w.heap.size+1<W2.heap.size:=(Array.getElem?_eq_some_iff.1 hl2).1
      have hl3:=(hS1 _ _ hk3 _ (.inr rfl) hlt2).trans hl2
      have hd3:=(hS1 _ _ hk3 _ (.inl rfl) (by omega)).trans hd2
      have hr:=run_endRound (P:=P) jump hl3
      rw [hrec] at hr ⊢
      have hl3':=hl3
      rw [hrec] at hl3'
      refine⟨_,hr,World.putObj_heap_same (Array.getElem?_eq_some_iff.1 hl3).1,(World.putObj_heap_other (by omega)).trans hd3,(Keep.refl (fun k=>k=w.heap.size+1) W3).putObj (fun _=>rfl) _,?_⟩
      exact hPt _ _ _ (hS2 _ _ hka) (hPt _ _ _ (hPt0 _ _ hk2' ⟨_,hla⟩) (hPt _ _ _ (hS2 _ _ hk3) (hPt0 _ _ ((Keep.refl (fun k=>k=w.heap.size+1) W3).putObj (fun _=>rfl) _) ⟨_,hl3⟩)))
     rintro e a3 W3 hp
     cases e with
     | normal=>
       obtain⟨hk3,hi3⟩:=hp
       obtain⟨W4,hr,hl4,hd4,hk4,hall⟩:=fin none W3 hk3
       exact⟨_,_,hr,.inl ⟨rfl,⟨hI _ _ _ hi3 (hk4.mono fun _ _ e=>.inr (.inr e)),hl4,hd4⟩,hall⟩⟩
     | ret=>
       obtain⟨hk3,hi3⟩:=hp
       obtain⟨W4,hr,hl4,hd4,hk4,hall⟩:=fin (some .ret) W3 hk3
       exact⟨_,_,hr,.inr ⟨rfl,.ret,hIx _ _ _ _ hi3 (hk4.mono fun _ _ e=>.inr (.inr e)),hl4,hd4⟩⟩
     | exit id=>
       obtain⟨hk3,hi3⟩:=hp
       obtain⟨W4,hr,hl4,hd4,hk4,hall⟩:=fin (some (.exit id)) W3 hk3
       exact⟨_,_,hr,.inr ⟨rfl,.exit id,hIx _ _ _ _ hi3 (hk4.mono fun _ _ e=>.inr (.inr e)),hl4,hd4⟩⟩
     | goto t=>
       obtain⟨hk3,hi3⟩:=hp
       obtain⟨W4,hr,hl4,hd4,hk4,hall⟩:=fin (some (.goto t)) W3 hk3
       exact⟨_,_,hr,.inr ⟨rfl,.goto t,hIx _ _ _ _ hi3 (hk4.mono fun _ _ e=>.inr (.inr e)),hl4,hd4⟩⟩
     | panic ch=>exact hp.elim
     | outgrown=>exact hp.elim
   | ret=>exact he.elim
   | exit id=>exact he.elim
   | goto t=>exact he.elim
   | panic ch=>exact he.elim
   | outgrown=>exact he.elim
  ·rintro e W2 ⟨⟨v,rfl⟩,(⟨hi,hl,hk⟩ | ⟨pre,hpre,c,hi,hl,hk⟩)⟩
   ·have hr:=run_endLoop (P:=P) hl (by rw [hrec];simp)
    refine⟨none,_,by rw [hrec] at hr;exact hr,hdone _ (hI _ _ _ hi ((Keep.refl _ _).putObj (fun _=>.inr (.inr rfl)) _)) ((World.putObj_heap_other (by omega)).trans hk)⟩
   ·have hr:=run_endLoop (P:=P) hl (by rw [hrec];simp)
    refine⟨some c,_,by rw [hrec] at hr;exact hr,hstop c pre _ hpre (hIx _ _ _ _ hi ((Keep.refl _ _).putObj (fun _=>.inr (.inr rfl)) _)) ((World.putObj_heap_other (by omega)).trans hk)⟩
def zC (e:En):List Nat:=e.rep::e.max::e.holes.length::e.holes.flatMap fun s=>[s.lo,s.hi]
def zv (v:List En):List Nat:=v.length::v.flatMap zC
def PtE (n0 Bv:Nat) (A B:World):Prop:=A.heap.size<=B.heap.size/\∀ k,k<A.heap.size->(k<n0\/k=Bv\/∃ cs f t,A.heap[k]? = some (.cells cs t f)/\(t = 37 \/ t = 35))->B.heap[k]? = A.heap[k]?
theorem RdV.pt {n0 Bv:Nat} {w w':World} {v:Value} {l:List En} (h:RdV n0 w v l) (hp:PtE n0 Bv w w') (hn:n0<=w.heap.size):RdV n0 w' v l:=h.keep fun k hk=>hp.2 k (by omega) (.inl hk)
theorem zko (x y z:Int) (w:World):(Instr.index 149 (.agg #[.int .u64 x,.int .u64 y,.int .u64 z]) (.int .i64 0)).run Tryz.prog w=.ok (.int .u64 x) w:=by kernel_rfl
theorem zkp (x y z:Int) (w:World):(Instr.index 149 (.agg #[.int .u64 x,.int .u64 y,.int .u64 z]) (.int .i64 1)).run Tryz.prog w=.ok (.int .u64 y) w:=by kernel_rfl
theorem zkq (x y z:Int) (w:World):(Instr.index 149 (.agg #[.int .u64 x,.int .u64 y,.int .u64 z]) (.int .i64 2)).run Tryz.prog w=.ok (.int .u64 z) w:=by kernel_rfl
theorem zfR {v:List En} {k:Nat} (h:k<v.length):zv v=(v.length::(v.take k).flatMap zC)++zC v[k]++(v.drop (k+1)).flatMap zC:=by
 unfold zv
 conv=>lhs;rw [<-List.take_append_drop k v,List.drop_eq_getElem_cons h,List.flatMap_append,List.flatMap_cons]
 simp
theorem Vt (v:List En) (va:Value) (Bv n0:Nat) (W0:World) (hv:RdV n0 W0 va v) (hb:Boxed W0 Bv 30 va) (hn0:n0<=W0.heap.size) :
 v7 Tryz.prog 105 #[.pointer (some ⟨Bv,0,none⟩)] (fun x:Nat=>#[.int .u64 x]) (fun _=>False) (PtE n0 Bv) (zv v) W0:=by
 intro l J Jx hJ hJx hY h0
 refine callsIn_wide.2 ?_
 show Calls Tryz.prog 105 #[.func (.yield l) #[] #[],.pointer (some ⟨Bv,0,none⟩)] W0 _
 have HJ:=Lib.hid hJ
 have HJx:=Lib.hid hJx
 have HY:=Lib.hid hY
 have HV:=Lib.hid hv
 clear hJ hJx hY
 have hvl:=hv.len
 obtain⟨av,cap,rfl,hlc,hcm,hcell⟩:=hv
 unfold maxLen at hcm
 have hM:=zw
 have hw0:IntKind.u64.wrap ((v.length:Nat):Int)=(v.length:Int):=ZR (by omega)
 have hc0:=hb.cell
 obtain⟨fn,tmps,assign,body,hy,hR⟩:=HY.out [] v.length W0 h0 ⟨v.flatMap zC,rfl⟩
 dsimp only at hy
 clear hM
 go_enter Tryz.func105,Tryz.ntmps105
 go_upto_region 0 with fail
 refine(wpIn_wide (n:=8)).1 ?_
 gi_wp2
 refine hR.mono ?_
 rintro e w1 (⟨rfl,hJ1,hk1⟩ | ⟨rfl,hJx1⟩)
 ·gi_wp2
  have hb1:Boxed w1 Bv 30 (.slice av v.length cap):=(hk1.2 Bv hb.lt (.inr (.inl rfl))).trans hb
  have HV1:=Lib.hid (HV.out.pt hk1 hn0)
  have hn1:n0<=w1.heap.size:=Nat.le_trans hn0 hk1.1
  have hc1:=hb1.cell
  clear hy hR hc0 hb hb1 h0
  go_wp2_with fail
  go_loopg [17] v.length (fun g x wr=>∃ k:Nat,k<=v.length/\g=v.length - k/\x=.int .i64 k/\J (v.length::(v.take k).flatMap zC) wr/\RdV n0 wr (.slice av v.length cap) v/\n0<=wr.heap.size)
  case atStart=>exact⟨0,Nat.zero_le _,rfl,rfl,by simpa using hJ1,HV1.out,hn1⟩
  case round=>
   obtain⟨k,hk,rfl,rfl,hJk,hVk,hnk⟩:=hrel
   obtain⟨wo,hwo⟩:∃ wo,wo=wr:=⟨_,rfl⟩
   subst hwo
   clear hJ1 HV1 hn1 hk1 hc1 hcell
   by_cases hlt:k<v.length
   ·obtain⟨a',cap',hav,_,_,hcl⟩:=hVk
    obtain⟨b,off,hab,_,hbn,hcel⟩:=hcl (by intro e;subst e;simp at hlt)
    obtain⟨rfl,_,rfl⟩:av=a'/\v.length=v.length/\cap=cap':=by simpa using hav
    subst hab
    obtain⟨c0,c1,⟨hv,c2,hvr⟩,hr1,hr2⟩:=hcel k hlt
    have HVk:Hid (RdV n0 wo (.slice (some ⟨b,off,none⟩) v.length cap) v):=⟨_,_,rfl,hlc,by unfold maxLen;exact hcm,fun _=>⟨b,off,rfl,Nat.zero_le _,hbn,hcel⟩⟩
    have HE:Hid (∃ e,e=v[k]):=⟨_,rfl⟩
    obtain⟨e,he⟩:=HE.out
    rw [<-he] at c0 c1 hvr hr1 hr2
    have HK:=Lib.hid he
    have hhl:=hvr.len
    obtain⟨ah,caph,rfl,hhc,hhm,hhcell⟩:=hvr
    unfold maxLen at hhm
    have hwh:IntKind.u64.wrap ((e.holes.length:Nat):Int)=(e.holes.length:Int):=ZR (by rw [zw];omega)
    have HH:Hid (RdR 0 n0 wo (.slice ah e.holes.length caph) e.holes):=⟨_,_,rfl,hhc,by unfold maxLen;exact hhm,hhcell⟩
    clear hcl hcel he HE hav hhcell
    have HP:Hid (zv v=(v.length::(v.take k).flatMap zC)++zC e++(v.drop (k+1)).flatMap zC):=by show zv v=_;rw [HK.out];exact zfR hlt
    go_wp2_with fail
    go_loopg [30] 3 (fun g x wr=>((g=3/\x=.int .i64 0/\J (v.length::(v.take k).flatMap zC) wr)\/(g=2/\x=.int .i64 1/\J ((v.length::(v.take k).flatMap zC)++[e.rep]) wr)\/(g=1/\x=.int .i64 2/\J ((v.length::(v.take k).flatMap zC)++[e.rep,e.max]) wr)\/(g=0/\x=.int .i64 3/\J ((v.length::(v.take k).flatMap zC)++[e.rep,e.max,e.holes.length]) wr)) /\
     RdV n0 wr (.slice (some ⟨b,off,none⟩) v.length cap) v/\n0<=wr.heap.size/\wr.heap[wo.heap.size]? = some (.cells #[.int .u64 e.rep,.int .u64 e.max,.slice ah e.holes.length caph] 37 (0,0))/\RdR 0 n0 wr (.slice ah e.holes.length caph) e.holes)
    case atStart=>exact⟨.inl ⟨rfl,rfl,HJ.out _ _ _ hJk ((Keep.refl _ _).alloc _)⟩,HVk.out.keep fun j hj=>Below.heap_alloc _ _ _ (by omega),by simp;omega,World.alloc_heap_new _ _,HH.out.keep (Nat.le_refl _) (Nat.le_refl _) fun j _ hj=>Below.heap_alloc _ _ _ (by omega)⟩
    case round=>
     obtain⟨hdis,hVt,hnt,hbt,hRt⟩:=hrel
     clear hJk
     have i0:=zko
     have i1:=zkp
     have i2:=zkq
     rcases hdis with⟨rfl,rfl,hJt⟩ | ⟨rfl,rfl,hJt⟩ | ⟨rfl,rfl,hJt⟩ | ⟨rfl,rfl,hJt⟩
     ·obtain⟨fn,tmps,assign,body,hy,hR⟩:=HY.out ((v.length::(v.take k).flatMap zC)) e.rep wr hJt ⟨e.max::e.holes.length::(e.holes.flatMap fun s=>[s.lo,s.hi])++(v.drop (k+1)).flatMap zC,by rw [HP.out];simp [zC]⟩
      try dsimp only at hy
      go_upto_region 7 with fail
      refine(wpIn_wide (n:=8)).1 ?_
      gi_wp2
      refine hR.mono ?_
      rintro e' w3 (⟨rfl,hJ3,hk3⟩ | ⟨rfl,hJx3⟩)
      ·gi_wp2
       go_wp2
       go_roundg 2
       case measure=>omega
       case rel=>exact⟨.inr (.inl ⟨rfl,rfl,by simpa using hJ3⟩),hVt.pt hk3 hnt,Nat.le_trans hnt hk3.1,(hk3.2 _ (Array.getElem?_eq_some_iff.1 hbt).1 (.inr (.inr ⟨_,_,_,hbt,.inl rfl⟩))).trans hbt,hRt.keep (Nat.le_refl _) (Nat.le_refl _) fun j _ hj=>hk3.2 j (by omega) (.inl hj)⟩
      ·gi_wp2
       go_wp2
       refine bodyPost_ret (results_none rfl _ _ _) rfl ?_
       exact⟨⟨_,rfl⟩,.inr ⟨((v.length::(v.take k).flatMap zC))++[e.rep],⟨e.max::e.holes.length::(e.holes.flatMap fun s=>[s.lo,s.hi])++(v.drop (k+1)).flatMap zC,by rw [HP.out];simp [zC]⟩,hJx3⟩⟩
     ·obtain⟨fn,tmps,assign,body,hy,hR⟩:=HY.out ((v.length::(v.take k).flatMap zC)++[e.rep]) e.max wr hJt ⟨e.holes.length::(e.holes.flatMap fun s=>[s.lo,s.hi])++(v.drop (k+1)).flatMap zC,by rw [HP.out];simp [zC]⟩
      try dsimp only at hy
      go_upto_region 7 with fail
      refine(wpIn_wide (n:=8)).1 ?_
      gi_wp2
      refine hR.mono ?_
      rintro e' w3 (⟨rfl,hJ3,hk3⟩ | ⟨rfl,hJx3⟩)
      ·gi_wp2
       go_wp2
       go_roundg 1
       case measure=>omega
       case rel=>exact⟨.inr (.inr (.inl ⟨rfl,rfl,by simpa using hJ3⟩)),hVt.pt hk3 hnt,Nat.le_trans hnt hk3.1,(hk3.2 _ (Array.getElem?_eq_some_iff.1 hbt).1 (.inr (.inr ⟨_,_,_,hbt,.inl rfl⟩))).trans hbt,hRt.keep (Nat.le_refl _) (Nat.le_refl _) fun j _ hj=>hk3.2 j (by omega) (.inl hj)⟩
      ·gi_wp2
       go_wp2
       refine bodyPost_ret (results_none rfl _ _ _) rfl ?_
       exact⟨⟨_,rfl⟩,.inr ⟨((v.length::(v.take k).flatMap zC)++[e.rep])++[e.max],⟨e.holes.length::(e.holes.flatMap fun s=>[s.lo,s.hi])++(v.drop (k+1)).flatMap zC,by rw [HP.out];simp [zC]⟩,hJx3⟩⟩
     ·obtain⟨fn,tmps,assign,body,hy,hR⟩:=HY.out ((v.length::(v.take k).flatMap zC)++[e.rep,e.max]) e.holes.length wr hJt ⟨(e.holes.flatMap fun s=>[s.lo,s.hi])++(v.drop (k+1)).flatMap zC,by rw [HP.out];simp [zC]⟩
      try dsimp only at hy
      go_upto_region 7 with fail
      refine(wpIn_wide (n:=8)).1 ?_
      gi_wp2
      refine hR.mono ?_
      rintro e' w3 (⟨rfl,hJ3,hk3⟩ | ⟨rfl,hJx3⟩)
      ·gi_wp2
       go_wp2
       go_roundg 0
       case measure=>omega
       case rel=>exact⟨.inr (.inr (.inr (⟨rfl,rfl,by simpa using hJ3⟩))),hVt.pt hk3 hnt,Nat.le_trans hnt hk3.1,(hk3.2 _ (Array.getElem?_eq_some_iff.1 hbt).1 (.inr (.inr ⟨_,_,_,hbt,.inl rfl⟩))).trans hbt,hRt.keep (Nat.le_refl _) (Nat.le_refl _) fun j _ hj=>hk3.2 j (by omega) (.inl hj)⟩
      ·gi_wp2
       go_wp2
       refine bodyPost_ret (results_none rfl _ _ _) rfl ?_
       exact⟨⟨_,rfl⟩,.inr ⟨((v.length::(v.take k).flatMap zC)++[e.rep,e.max])++[e.holes.length],⟨(e.holes.flatMap fun s=>[s.lo,s.hi])++(v.drop (k+1)).flatMap zC,by rw [HP.out];simp [zC]⟩,hJx3⟩⟩
     ·have d0:wr.cell? ⟨wo.heap.size,2,none⟩=some (.slice ah e.holes.length caph):=by simp [World.cell?,hbt]
      go_wp2_with fail
      go_loopg [41] e.holes.length (fun g x wr=>∃ j:Nat,j<=e.holes.length/\g=e.holes.length - j/\x=.int .i64 j/\J (((v.length::(v.take k).flatMap zC)++[e.rep,e.max,e.holes.length])++(e.holes.take j).flatMap fun s=>[s.lo,s.hi]) wr/\RdV n0 wr (.slice (some ⟨b,off,none⟩) v.length cap) v/\n0<=wr.heap.size/\RdR 0 n0 wr (.slice ah e.holes.length caph) e.holes)
      case atStart=>exact⟨0,Nat.zero_le _,rfl,rfl,by simpa using hJt,hVt,hnt,hRt⟩
      case round=>
       obtain⟨j,hj,rfl,rfl,hJj,hVj,hnj,hRj⟩:=hrel
       clear hJt hVt hnt hRt d0 hbt
       obtain⟨wo2,hwo2⟩:∃ wo,wo=wr:=⟨_,rfl⟩
       subst hwo2
       by_cases hjl:j<e.holes.length
       ·obtain⟨ah',caph',hah,_,_,hhc2⟩:=hRj
        obtain⟨bh,offh,hab2,_,hbh,hcel2⟩:=hhc2 (by intro e';rw [e'] at hjl;simp at hjl)
        obtain⟨rfl,rfl⟩:ah=ah'/\caph=caph':=by simpa using hah
        subst hab2
        obtain⟨c3,c4,s1,s2⟩:=hcel2 j hjl
        obtain⟨s,hs⟩:∃ s,s=e.holes[j]:=⟨_,rfl⟩
        rw [<-hs] at c3 c4 s1 s2
        have HS:=Lib.hid hs
        have HRj:Hid (RdR 0 n0 wo2 (.slice (some ⟨bh,offh,none⟩) e.holes.length caph) e.holes):=⟨_,_,rfl,hhc,by unfold maxLen;exact hhm,fun _=>⟨bh,offh,rfl,Nat.zero_le _,hbh,hcel2⟩⟩
        clear hs hhc2 hcel2 hah
        have HVj:=Lib.hid hVj
        clear hVj
        have hJ2:=HJ.out _ _ _ hJj ((Keep.refl _ wo2).alloc (.cells #[.int .u64 s.lo,.int .u64 s.hi] 35))
        have HF:Hid (zv v=((v.length::(v.take k).flatMap zC)++[e.rep,e.max,e.holes.length])++((e.holes.take j).flatMap fun s=>[s.lo,s.hi])++[s.lo,s.hi]++(((e.holes.drop (j+1)).flatMap fun s=>[s.lo,s.hi])++(v.drop (k+1)).flatMap zC)):=by
         show zv v=_
         rw [HP.out]
         unfold zC
         conv=>lhs;rw [<-List.take_append_drop j e.holes,List.drop_eq_getElem_cons hjl,<-HS.out]
         simp
         omega
        obtain⟨fn,tmps,assign,body,hy,hR⟩:=HY.out (((v.length::(v.take k).flatMap zC)++[e.rep,e.max,e.holes.length])++((e.holes.take j).flatMap fun s=>[s.lo,s.hi])) s.lo _ hJ2 ⟨s.hi::(((e.holes.drop (j+1)).flatMap fun s=>[s.lo,s.hi])++(v.drop (k+1)).flatMap zC),by rw [HF.out];simp only [List.append_assoc,List.cons_append,List.nil_append]⟩
        try dsimp only at hy
        go_upto_region 12 with fail
        refine(wpIn_wide (n:=8)).1 ?_
        gi_wp2
        refine hR.mono ?_
        rintro e' w3 (⟨rfl,hJ3,hk3⟩ | ⟨rfl,hJx3⟩)
        ·have hbx:w3.heap[wo2.heap.size]? = some (.cells #[.int .u64 s.lo,.int .u64 s.hi] 35 (0,0)):=(hk3.2 _ (by simp) (.inr (.inr ⟨_,_,_,World.alloc_heap_new _ _,.inr rfl⟩))).trans (World.alloc_heap_new _ _)
         have hd1:w3.cell? ⟨wo2.heap.size,1,none⟩=some (.int .u64 s.hi):=by simp [World.cell?,hbx]
         have hn3:n0<=w3.heap.size:=Nat.le_trans hnj (Nat.le_trans (by simp) hk3.1)
         have HB3:Hid (∀ q,q<n0->w3.heap[q]? = wo2.heap[q]?):=fun q hq=>(hk3.2 q (by simp;omega) (.inl hq)).trans (Below.heap_alloc _ _ _ (by omega))
         obtain⟨fn2,tmps2,assign2,body2,hy2,hR2⟩:=HY.out ((((v.length::(v.take k).flatMap zC)++[e.rep,e.max,e.holes.length])++((e.holes.take j).flatMap fun s=>[s.lo,s.hi]))++[s.lo]) s.hi w3 hJ3 ⟨(((e.holes.drop (j+1)).flatMap fun s=>[s.lo,s.hi])++(v.drop (k+1)).flatMap zC),by rw [HF.out];simp only [List.append_assoc,List.cons_append,List.nil_append]⟩
         try dsimp only at hy2
         clear hy hR
         gi_wp2
         refine hR2.mono ?_
         rintro e2 w4 (⟨rfl,hJ4,hk4⟩ | ⟨rfl,hJx4⟩)
         ·gi_wp2
          go_wp2
          go_roundg (e.holes.length - (j+1))
          case measure=>omega
          case rel=>
           have HB4:∀ q,q<n0->w4.heap[q]? = wo2.heap[q]?:=fun q hq=>(hk4.2 q (by omega) (.inl hq)).trans (HB3.out q hq)
           refine⟨j+1,by omega,rfl,by go_num,?_,HVj.out.keep HB4,Nat.le_trans hn3 hk4.1,HRj.out.keep (Nat.le_refl _) (Nat.le_refl _) fun q _ hq=>HB4 q hq⟩
           rw [List.take_succ_eq_append_getElem hjl,List.flatMap_append,<-HS.out]
           simpa using hJ4
         ·gi_wp2
          go_wp2
          refine bodyPost_ret (results_none rfl _ _ _) rfl ?_
          exact⟨⟨_,rfl⟩,.inr ⟨_,⟨(((e.holes.drop (j+1)).flatMap fun s=>[s.lo,s.hi])++(v.drop (k+1)).flatMap zC),by rw [HF.out];simp only [List.append_assoc,List.cons_append,List.nil_append]⟩,hJx4⟩⟩
        ·gi_wp2
         refine⟨fun f hf=>(by cases hf),?_⟩
         gi_wp2
         go_wp2
         refine bodyPost_ret (results_none rfl _ _ _) rfl ?_
         exact⟨⟨_,rfl⟩,.inr ⟨_,⟨s.hi::(((e.holes.drop (j+1)).flatMap fun s=>[s.lo,s.hi])++(v.drop (k+1)).flatMap zC),by rw [HF.out];simp only [List.append_assoc,List.cons_append,List.nil_append]⟩,hJx3⟩⟩
       ·obtain rfl:j=e.holes.length:=by omega
        go_wp2
        go_roundg (v.length - (k+1))
        case measure=>omega
        case rel=>
         refine⟨k+1,by omega,rfl,by go_num,?_,hVj,hnj⟩
         rw [List.take_succ_eq_append_getElem hlt,List.flatMap_append,<-HK.out]
         simpa [zC] using hJj
   ·obtain rfl:k=v.length:=by omega
    go_wp2
    refine bodyPost_end (results_none rfl _ _ _) rfl ?_
    rw [List.take_of_length_le (Nat.le_refl _)] at hJk
    exact⟨⟨_,rfl⟩,.inl hJk⟩
 ·gi_wp2
  go_wp2
  refine bodyPost_ret (results_none rfl _ _ _) rfl ?_
  exact⟨⟨_,rfl⟩,.inr ⟨[v.length],⟨v.flatMap zC,rfl⟩,hJx1⟩⟩
attribute [local go_sem] Oper.semAt_some
theorem Vu (a:Option Addr) (n c:Nat) (w:World):Calls Tryz.prog 87 #[.slice a n c] w fun e w'=>e=.returned (.func (.func 105) #[] #[.pointer (some ⟨w.heap.size,0,none⟩)])/\w'=w.alloc (.cells #[.slice a n c] 30):=by
 go_enter Tryz.func87,Tryz.ntmps87
 go_wp2
 go_ret
 exact⟨rfl,rfl⟩
def OwnN (base:Nat) (w:World) (v:Value) (xs:List Nat):Prop:=w.ownsRow base 33 1 v xs.length (xs.map fun x=>.int .u64 (x:Nat))
theorem OwnN.nil (base:Nat) (w:World):OwnN base w (.slice none 0 0) []:=World.ownsRow_nil _ _ _ _
theorem OwnN.keep {base:Nat} {S:Nat->Prop} {w w':World} {v:Value} {l:List Nat} (h:OwnN base w v l) (hb:Keep S w w') (hs:∀ g,base<=g->g<w.heap.size->¬ S g):OwnN base w' v l:=
 hb.ownsRow h fun g hg=>hs g (h.lt g hg).1 (h.lt g hg).2
theorem OwnN.mono {base base':Nat} {w:World} {v:Value} {l:List Nat} (h:OwnN base w v l) (hb:base'<=base):OwnN base' w v l:=by
 refine⟨h.1,?_⟩
 rcases h.2 with hn | ⟨g,cap,cur,hv,hg,r⟩
 ·exact .inl hn
 ·exact .inr ⟨g,cap,cur,hv,Nat.le_trans hb hg,r⟩
def SN (n0:Nat) (A B:World):Prop:=(∃ v,Boxed A n0 41 v)/\Keep (fun k=>k=n0\/(n0+4<=k/\∃ cs f,A.heap[k]? = some (.cells cs 33 f))) A B
theorem SN.pt {n0:Nat} {A B:World} (h:SN n0 A B):PtE n0 (n0+1) A B:=by
 obtain⟨⟨v,hv⟩,hk⟩:=h
 refine⟨hk.size,fun k hlt hc=>hk.block k hlt ?_⟩
 rintro(rfl | ⟨h4,cs,f,hcs⟩)
 ·rcases hc with hc | hc | ⟨cs,f,t,hc,ht⟩
  ·omega
  ·omega
  ·have hv':A.heap[k]? = some (.cells #[v] 41 (0,0)):=hv
   rw [hv'] at hc
   cases hc
   rcases ht with ht | ht<;>cases ht
 ·rcases hc with hc | hc | ⟨cs2,f2,t,hc,ht⟩
  ·omega
  ·omega
  ·rw [hcs] at hc
   cases hc
   rcases ht with ht | ht<;>cases ht
theorem Q5 {W w1:World} {n0:Nat} {v v':Value} {xs ys:List Nat} {tmp:Obj}
 (hv:Boxed W n0 41 v) (hrow:OwnN (n0+4) W v xs) (hown':w1.ownsRow (n0+4) 33 1 v' ys.length (ys.map fun x=>.int .u64 (x:Nat))) (hgrow:(W.alloc tmp).grownBy w1 v.ownBlock) :
 Boxed (w1.setCell ⟨n0,0,none⟩ v') n0 41 v'/\OwnN (n0+4) (w1.setCell ⟨n0,0,none⟩ v') v' ys/\SN n0 W (w1.setCell ⟨n0,0,none⟩ v'):=by
 have hte : 41 ≠ 33 := by decide
 obtain⟨h1,h2,h3,h4⟩:=qO hv hte hrow hown' hgrow
 refine⟨h2,h3,⟨v,hv⟩,?_⟩
 refine Keep.setCell (p:=⟨n0,0,none⟩) ?_ (fun _=>.inl rfl) _
 refine((Keep.refl _ W).alloc tmp).grown hgrow fun j ej _=>.inr ⟨(hrow.lt j ej).1,?_⟩
 rcases hrow.2 with⟨rfl,_⟩ | ⟨g,cap,cur,rfl,hg,hh,_⟩
 ·cases ej
 ·have:g=j:=by simpa [Value.ownBlock] using ej
  subst this
  exact⟨_,_,hh⟩
theorem Tryz.infoU:(Tryz.prog.info? 33).map (fun i=>(i.zero,i.size,i.bytes))=some (some (Value.int .u64 0),1,8):=by kernel_rfl
theorem Q4 (v:List En) (va:Value) (w:World) (hv:RdV w.heap.size w va v) (hlen:(zv v).length<=1073741824) :
 Calls Tryz.prog 60 #[va] w fun e w'=>∃ u,e=.returned u/\OwnN w.heap.size w' u (zv v)/\Below w.heap.size w w':=by
 have HV:=Lib.hid hv
 obtain⟨av,cap,rfl,_⟩:=hv
 refine callsIn_wide.1 (callsIn_of_wp_marks (n:=9) Tryz.func60 rfl trivial ?_ rfl)
 simp only [Tryz.ntmps60,List.size_toArray,List.length_cons,List.length_nil,Nat.reduceAdd,Nat.reduceSub,Array.replicate_succ,Array.replicate_zero,List.push_toArray,List.append_toArray,List.nil_append,List.cons_append]
 gi_wp2_with (refine⟨trivial,?_⟩;gi_at_call 87;refine(callsIn_wide.2 (Vu _ _ _ _)).mono ?_;rintro e w' ⟨rfl,rfl⟩)
 obtain⟨W0,hW0⟩:∃ W0,((w.alloc (Obj.cells #[Value.slice none 0 0] 41)).alloc (Obj.cells #[Value.slice av v.length cap] 30))=W0:=⟨_,rfl⟩
 have hsz:W0.heap.size=w.heap.size+2:=by rw [<-hW0];simp
 have b0:Boxed W0 w.heap.size 41 (Value.slice none 0 0):=by rw [<-hW0];exact(Boxed.new w _ _).alloc _
 have b1:Boxed W0 (w.heap.size+1) 30 (Value.slice av v.length cap):=by rw [<-hW0];have:=Boxed.new (w.alloc (Obj.cells #[Value.slice none 0 0] 41)) 30 (Value.slice av v.length cap);rw [World.size_alloc] at this;exact this
 have hB0:Below w.heap.size w W0:=by rw [<-hW0];exact((Below.refl _ _).alloc (Nat.le_refl _) _).alloc (by simp) _
 try simp only [World.size_alloc]
 rw [hW0]
 clear hW0
 refine Xt (w:=W0) 105 #[.pointer (some ⟨w.heap.size+1,0,none⟩)] rfl (enters_of Tryz.func105 (by kernel_rfl) rfl) (fun x:Nat=>#[.int .u64 x]) (fun _=>rfl)
  (fun _=>False) (PtE w.heap.size (w.heap.size+1)) (zv v) ?hit
  (SN w.heap.size) (fun A B h k hk hlt=>h.2.block k hlt (by rintro(e | ⟨e,_⟩)<;>omega)) (fun A B h=>h.pt)
  ?hPt ?hPt0 ⟨id,id⟩
  (fun pre W=>(∃ u,Boxed W w.heap.size 41 u/\OwnN (w.heap.size+4) W u pre)/\Below w.heap.size w W)
  (fun _ _ _=>False) ?hI (fun _ _ _ _ h _=>h) ⟨⟨_,b0,OwnN.nil _ _⟩,hB0⟩
  (fun pre x a' W=>((∃ u,Boxed W w.heap.size 41 u/\OwnN (w.heap.size+4) W u pre)/\Below w.heap.size w W) /\
    a'={ tmps:=#[Value.slice av v.length cap,undef,Value.slice none 0 0,Value.pointer (some ⟨w.heap.size,0,none⟩),.int .u64 (x:Nat),Value.slice av v.length cap,Value.func (Fn.func 105) #[] #[Value.pointer (some ⟨w.heap.size+1,0,none⟩)],.int .u64 (x:Nat),undef,undef,undef,undef,undef],defers:=[] })
  ?hAx ?hassign ?hbody ?hdone (fun _ _ _ _ h _=>h.elim)
 case hit=>
  intro W hk _
  exact Vt v _ (w.heap.size+1) w.heap.size W (RdV.keep HV.out fun k hk2=>((hB0.trans (hk.below (by omega) fun _ _=>id)).block k hk2)) (hk.boxed b1 id) (by have:=hk.size;omega)
 case hPt=>
  rintro A B C ⟨h1,h2⟩ ⟨h3,h4⟩
  refine⟨Nat.le_trans h1 h3,fun k hk hc=>?_⟩
  have e1:=h2 k hk hc
  refine(h4 k (by omega) ?_).trans e1
  rcases hc with hc | hc | ⟨cs,f,t,hc,ht⟩
  ·exact .inl hc
  ·exact .inr (.inl hc)
  ·exact .inr (.inr ⟨cs,f,t,by rw [e1];exact hc,ht⟩)
 case hPt0=>
  rintro A B hk ⟨o,ho⟩
  refine⟨hk.size,fun k hlt hc=>hk.block k hlt ?_⟩
  rintro rfl
  rcases hc with hc | hc | ⟨cs,f,t,hc,ht⟩
  ·omega
  ·omega
  ·rw [ho] at hc;cases hc
 case hI=>
  rintro pre A B ⟨⟨u,h1,h2⟩,h3⟩ hk0
  have hk:Keep (fun k=>k=W0.heap.size\/k=W0.heap.size+1) A B:=hk0.mono fun _ _ h=>h.elim False.elim id
  exact⟨⟨u,hk.boxed h1 (by omega),h2.keep hk (fun g hg _=>by omega)⟩,h3.trans (hk.below h3.size fun k hk=>by omega)⟩
 case hAx=>
  rintro pre x a' A B ⟨⟨⟨u,h1,h2⟩,h3⟩,rfl⟩ hk
  exact⟨⟨⟨u,hk.boxed h1 (by omega),h2.keep hk (fun g hg _=>by omega)⟩,h3.trans (hk.below h3.size fun k hk=>by omega)⟩,rfl⟩
 case hassign=>
  rintro l pre x W hpx hlt ⟨⟨u,h1,h2⟩,h3⟩
  clear hpx
  gi_wp2
  exact⟨⟨⟨u,h1⟩,Keep.refl _ _⟩,⟨⟨u,h1,h2⟩,h3⟩,trivial⟩
 case hbody=>
  rintro l pre x a' W hpx hlt ⟨⟨⟨u,h1,h2⟩,h3⟩,rfl⟩
  have hc:=h1.cell
  have hf:=h1.frozen
  obtain⟨i0,hi0,hz0,hz1,hz2⟩:=info_parts Tryz.infoU
  have hl:pre.length+1<=(zv v).length:=by have:=hpx.length_le;simpa using this
  gi_wp2_with (gi_at_builtin;refine wpListIn_append_own _ rfl _ _ 41 rfl (w.heap.size+4) 33 i0 (.int .u64 0) 1 8 Tryz.underlying41 hi0 hz0 hz1 hz2 rfl (by decide) _ _ _ rfl (h2.alloc _) ⟨W.heap.size,0,none⟩ 1 1 [.int .u64 (x:Nat)] rfl rfl (kw (cs:=#[.int .u64 (x:Nat)]) (t := 33) (fr:=(0,0)) (World.alloc_heap_new W _)) (by simp [Value.oneCell']) (by unfold maxLen;omega) (by omega) (by rw [World.size_alloc];omega) ?_;intro v' w3 hown' hgrow _;obtain⟨g',cap',rfl⟩:=ownsRow_succ hown';obtain⟨q2,q3,q4⟩:=Q5 (ys:=pre++[x]) h1 h2 (by simpa using hown') hgrow;have q1c:=(qO h1 (by decide) h2 hown' hgrow).1.cell;have q1f:=(qO h1 (by decide) h2 hown' hgrow).1.frozen)
  exact⟨q4,⟨_,q2,q3⟩,h3.trans (q4.2.below h3.size fun k hk=>by rintro(e | ⟨e,_⟩)<;>omega)⟩
 case hdone=>
  rintro W ⟨⟨u,h1,h2⟩,h3⟩ hD
  have hc:=h1.cell
  gi_wp2
  refine⟨by simp,.inl ⟨_,_,rfl,run_takeDeferred hD,?_⟩⟩
  have hkD:Keep (fun k=>k=W0.heap.size) W (W.putObj W0.heap.size (.deferred none)):=(Keep.refl (fun k=>k=W0.heap.size) W).putObj (fun _=>rfl) _
  exact⟨_,results_tmp rfl _ _ _,u,rfl,OwnN.mono (h2.keep hkD fun g hg _=>by omega) (by omega),h3.trans (hkD.below h3.size fun k hk=>by omega)⟩
end Go.Proofs.YtopfkkogooocgaaGreat
