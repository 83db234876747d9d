import Derived.Sort.Walk7a
import Derived.Stop.Asserts
import Derived.Laws.Cells
import Derived.Laws.IdiomCopy
import Derived.ChangeAt
import Derived.DataElems
import Derived.Deep.Slices
import Derived.WalkKit
import Derived.ProofKit
import Derived.Lib.SmallJoins
import Derived.Test.YtonhfknjcbakiaaGreatDoorB7
set_option maxHeartbeats 16000000
set_option linter.unusedVariables false
set_option linter.unusedSimpArgs false
set_option maxRecDepth 100000
namespace Go.Proofs.YtonhfknjcbakiaaGreatDoor
open Go.RowKit
def v7 {α:Type} (P:Program) (gf:Nat) (lb:Array Value) (encs:α->Array Value) (T:Nat->Prop) (Pt:World->World->Prop) (xs:List α) (W:World):Prop:=
 ∀(l:Nat) (J Jx:List α->World->Prop),
  (∀ pre A B,J pre A->Keep T A B->J pre B)->(∀ pre A B,Jx pre A->Keep T A B->Jx pre B) ->
  (∀ pre x W1,J pre W1->pre++[x] <+: xs->YieldAt Fence.wide 7 P l (encs x) W1 fun e W'=>
    (e=.returned (.bool true)/\J (pre++[x]) W'/\Pt W1 W')\/(e=.returned (.bool false)/\Jx (pre++[x]) W')) ->
  J [] W ->
  CallsIn Fence.wide 8 P gf (#[.func (.yield l) #[] #[]]++lb) W fun e W'=>(∃ v,e=.returned v)/\(J xs W'\/∃ pre,pre <+: xs/\Jx pre W')
def zgi {α:Type} (S:World->World->Prop) (I:List α->World->Prop) (Ix:Code->List α->World->Prop) (xs:List α) (W:World):Exit->Act->World->Prop
 | .normal,_,W'=>S W W'/\I xs W'
 | .ret,_,W'=>S W W'/\Ix .ret xs W'
 | .exit id,_,W'=>S W W'/\Ix (.exit id) xs W'
 | .goto t,_,W'=>S W W'/\Ix (.goto t) xs W'
 | .panic _,_,_=>False
 | .outgrown,_,_=>False
theorem Xt {α:Type} {P:Program} {g:Operand} {ps:Array Tmp} {assign body:Code} {Q:Exit->Act->World->Prop} {a:Act} {w:World}
 (gf:Nat) (lb:Array Value) (hg:a.eval g=.func (.func gf) #[] lb) (eg:∀ args w,(callFunc gf args).run P w=.ok (.enter gf args) w)
 (encs:α->Array Value) (hps:∀ x,(encs x).size=ps.size) (T:Nat->Prop) (Pt:World->World->Prop) (xs:List α)
 (hit:∀ W,Keep (fun _=>False) w W->W.heap.size=w.heap.size+2->v7 P gf lb encs T Pt xs W)
 (S:World->World->Prop) (hS1:∀ A B,S A B->∀ k,k=w.heap.size\/k=w.heap.size+1->k<A.heap.size->B.heap[k]? = A.heap[k]?) (hS2:∀ A B,S A B->Pt A B)
 (hPt:∀ A B C,Pt A B->Pt B C->Pt A C) (hPt0:∀ A B,Keep (fun k=>k=w.heap.size+1) A B->(∃ o,A.heap[w.heap.size+1]? = some (.loop o))->Pt A B) (hTD:¬ T w.heap.size/\¬ T (w.heap.size+1))
 (I:List α->World->Prop) (Ix:Code->List α->World->Prop)
 (hI:∀ pre A B,I pre A->Keep (fun k=>T k\/k=w.heap.size\/k=w.heap.size+1) A B->I pre B)
 (hIx:∀ c pre A B,Ix c pre A->Keep (fun k=>T k\/k=w.heap.size\/k=w.heap.size+1) A B->Ix c pre B)
 (h0:I [] w)
 (Ax:List α->α->Act->World->Prop)
 (hAx:∀ pre x a' A B,Ax pre x a' A->Keep (fun k=>k=w.heap.size+1) A B->Ax pre x a' B)
 (hassign:∀ l pre x W,pre++[x] <+: xs->w.heap.size+1<W.heap.size->I pre W ->
   assign.wpIn (Fence.wide.inRound l) 7 P (Exit.then (fun a' W'=>S W W'/\Ax pre x a' W') (fun _ _ _=>False)) { tmps:=(ps.zip (encs x)).foldl (fun t (p,v)=>t.setIfInBounds p v) a.tmps,defers:=[] } W)
 (hbody:∀ l pre x a' W,pre++[x] <+: xs->w.heap.size+1<W.heap.size->Ax pre x a' W->body.wpIn (Fence.wide.inRound l) 7 P (zgi S I Ix (pre++[x]) W) a' W)
 (hdone:∀ W,I xs W->W.heap[w.heap.size]? = some (.deferred (some []))->Q .normal { a with defers:={ target:=.collected w.heap.size,args:=#[] }::a.defers } W)
 (hstop:∀ c pre W,pre <+: xs->Ix c pre W->W.heap[w.heap.size]? = some (.deferred (some []))->c.wpIn Fence.wide 9 P Q { a with defers:={ target:=.collected w.heap.size,args:=#[] }::a.defers } W) :
 (Code.rangeFunc g ps assign body).wpIn Fence.wide 9 P Q a w:=by
 refine wpIn_rangeFunc ?_
 intro fn hfn
 rw [show Fence.wide.round=none from rfl]
 obtain⟨rec,hrec⟩:∃ rec:LoopState->Option Code->Loop,rec=fun st pe=>{ state:=st,pending:=pe,fn,tmps:=a.tmps,params:=ps,assign,body,defers:=w.heap.size }:=⟨_,rfl⟩
 obtain⟨W1,hW1⟩:∃ W1,(w.alloc (.deferred (some []))).alloc (.loop (rec .ready none))=W1:=⟨_,rfl⟩
 have hL1:W1.heap[w.heap.size+1]? = some (.loop (rec .ready none)):=by
  rw [<-hW1];have:=World.alloc_heap_new (w.alloc (.deferred (some []))) (.loop (rec .ready none));rwa [World.size_alloc] at this
 have hK1:W1.heap[w.heap.size]? = some (.deferred (some [])):=by
  rw [<-hW1];exact(Below.heap_alloc _ _ _ (by simp)).trans (World.alloc_heap_new w _)
 have hkw:Keep (fun _=>False) w W1:=by rw [<-hW1];exact((Keep.refl _ _).alloc _).alloc _
 have hsz:W1.heap.size=w.heap.size+2:=by rw [<-hW1];simp
 have hI1:I [] W1:=hI _ _ _ h0 (hkw.mono fun _ _ h=>h.elim)
 refine⟨w.heap.size+1,[{ target:=.collected w.heap.size,args:=#[] }],W1,{ target:=.fn (.func gf) lb,args:=#[.func (.yield (w.heap.size+1)) #[] #[]] },W1,gf,
  #[.func (.yield (w.heap.size+1)) #[] #[]]++lb,W1,?_,?_,?_,?_,fun _=>by omega,?_⟩
 ·rw [<-hW1,hrec];exact run_enterLoop_outer _ _ _ _ _
 ·simp only [resolve,hg]
  simp [go_sem]
 ·intro f' _;trivial
 ·simp [invoke,go_sem,eg]
 ·refine(hit W1 hkw hsz (w.heap.size+1)
   (fun pre W=>I pre W/\W.heap[w.heap.size+1]? = some (.loop (rec .ready none))/\W.heap[w.heap.size]? = some (.deferred (some [])))
   (fun pre W=>∃ c,Ix c pre W/\W.heap[w.heap.size+1]? = some (.loop (rec .done (some c)))/\W.heap[w.heap.size]? = some (.deferred (some [])))
   ?_ ?_ ?_ ⟨hI1,hL1,hK1⟩).mono ?_
  ·rintro pre A B ⟨hi,hl,hk⟩ h
   exact⟨hI _ _ _ hi (h.mono fun _ _ e=>.inl e),h.obj hl hTD.2,h.obj hk hTD.1⟩
  ·rintro pre A B ⟨c,hi,hl,hk⟩ h
   exact⟨c,hIx _ _ _ _ hi (h.mono fun _ _ e=>.inl e),h.obj hl hTD.2,h.obj hk hTD.1⟩
  ·rintro pre x W ⟨hi,hl,hk⟩ hpx
   have hlt:w.heap.size+1<W.heap.size:=(Array.getElem?_eq_some_iff.1 hl).1
   have hy:=run_yield (P:=P) (args:=encs x) hl (by rw [hrec];exact hps x)
   rw [hrec] at hy
   refine⟨fn,_,assign,body,hy,roundIn_of_wpIn hfn (wpIn_mono (hassign _ pre x W hpx hlt hi) ?_)⟩
   intro e a1 Wa he
   cases e with
   | normal=>
     obtain⟨hka,hax⟩:=he
     have hla:Wa.heap[w.heap.size+1]? = some (.loop (rec .ready none)):=(hS1 _ _ hka _ (.inr rfl) hlt).trans hl
     have hda:Wa.heap[w.heap.size]? = some (.deferred (some [])):=(hS1 _ _ hka _ (.inl rfl) (by omega)).trans hk
     have hlta:w.heap.size+1<Wa.heap.size:=(Array.getElem?_eq_some_iff.1 hla).1
     refine⟨_,run_beginRound hla (by rw [hrec]),?_⟩
     obtain⟨W2,hW2⟩:∃ W2,Wa.putObj (w.heap.size+1) (.loop { rec .ready none with state:=.busy })=W2:=⟨_,rfl⟩
     rw [hW2]
     have hk2':Keep (fun k=>k=w.heap.size+1) Wa W2:=by rw [<-hW2];exact(Keep.refl (fun k=>k=w.heap.size+1) Wa).putObj (fun _=>rfl) _
     have hl2:W2.heap[w.heap.size+1]? = some (.loop { rec .ready none with state:=.busy }):=by rw [<-hW2];exact World.putObj_heap_same hlta
     have hd2:W2.heap[w.heap.size]? = some (.deferred (some [])):=hk2'.obj hda (by omega)
     refine wpIn_mono (hbody _ pre x a1 W2 hpx (by rw [<-hW2];simpa using hlta) (hAx _ _ _ _ _ hax hk2')) ?_
     have fin:∀(jump:Option Code) (W3:World),S W2 W3->∃ W4,
      (Instr.endRound (w.heap.size+1) jump).run P W3=.ok (.bool jump.isNone) W4 /\
      W4.heap[w.heap.size+1]? = some (.loop (rec (if jump.isNone then .ready else .done) jump)) /\
      W4.heap[w.heap.size]? = some (.deferred (some []))/\Keep (fun k=>k=w.heap.size+1) W3 W4/\Pt W W4:=fun jump W3 hk3=>by
      have hlt2:w.heap.size+1<W2.heap.size:=(Array.getElem?_eq_some_iff.1 hl2).1
      have hl3:=(hS1 _ _ hk3 _ (.inr rfl) hlt2).trans hl2
      have hd3:=(hS1 _ _ hk3 _ (.inl rfl) (by omega)).trans hd2
      have hr:=run_endRound (P:=P) jump hl3
      rw [hrec] at hr ⊢
      have hl3':=hl3
      rw [hrec] at hl3'
      refine⟨_,hr,World.putObj_heap_same (Array.getElem?_eq_some_iff.1 hl3).1,(World.putObj_heap_other (by omega)).trans hd3,(Keep.refl (fun k=>k=w.heap.size+1) W3).putObj (fun _=>rfl) _,?_⟩
      exact hPt _ _ _ (hS2 _ _ hka) (hPt _ _ _ (hPt0 _ _ hk2' ⟨_,hla⟩) (hPt _ _ _ (hS2 _ _ hk3) (hPt0 _ _ ((Keep.refl (fun k=>k=w.heap.size+1) W3).putObj (fun _=>rfl) _) ⟨_,hl3⟩)))
     rintro e a3 W3 hp
     cases e with
     | normal=>
       obtain⟨hk3,hi3⟩:=hp
       obtain⟨W4,hr,hl4,hd4,hk4,hall⟩:=fin none W3 hk3
       exact⟨_,_,hr,.inl ⟨rfl,⟨hI _ _ _ hi3 (hk4.mono fun _ _ e=>.inr (.inr e)),hl4,hd4⟩,hall⟩⟩
     | ret=>
       obtain⟨hk3,hi3⟩:=hp
       obtain⟨W4,hr,hl4,hd4,hk4,hall⟩:=fin (some .ret) W3 hk3
       exact⟨_,_,hr,.inr ⟨rfl,.ret,hIx _ _ _ _ hi3 (hk4.mono fun _ _ e=>.inr (.inr e)),hl4,hd4⟩⟩
     | exit id=>
       obtain⟨hk3,hi3⟩:=hp
       obtain⟨W4,hr,hl4,hd4,hk4,hall⟩:=fin (some (.exit id)) W3 hk3
       exact⟨_,_,hr,.inr ⟨rfl,.exit id,hIx _ _ _ _ hi3 (hk4.mono fun _ _ e=>.inr (.inr e)),hl4,hd4⟩⟩
     | goto t=>
       obtain⟨hk3,hi3⟩:=hp
       obtain⟨W4,hr,hl4,hd4,hk4,hall⟩:=fin (some (.goto t)) W3 hk3
       exact⟨_,_,hr,.inr ⟨rfl,.goto t,hIx _ _ _ _ hi3 (hk4.mono fun _ _ e=>.inr (.inr e)),hl4,hd4⟩⟩
     | panic ch=>exact hp.elim
     | outgrown=>exact hp.elim
   | ret=>exact he.elim
   | exit id=>exact he.elim
   | goto t=>exact he.elim
   | panic ch=>exact he.elim
   | outgrown=>exact he.elim
  ·rintro e W2 ⟨⟨v,rfl⟩,(⟨hi,hl,hk⟩ | ⟨pre,hpre,c,hi,hl,hk⟩)⟩
   ·have hr:=run_endLoop (P:=P) hl (by rw [hrec];simp)
    refine⟨none,_,by rw [hrec] at hr;exact hr,hdone _ (hI _ _ _ hi ((Keep.refl _ _).putObj (fun _=>.inr (.inr rfl)) _)) ((World.putObj_heap_other (by omega)).trans hk)⟩
   ·have hr:=run_endLoop (P:=P) hl (by rw [hrec];simp)
    refine⟨some c,_,by rw [hrec] at hr;exact hr,hstop c pre _ hpre (hIx _ _ _ _ hi ((Keep.refl _ _).putObj (fun _=>.inr (.inr rfl)) _)) ((World.putObj_heap_other (by omega)).trans hk)⟩
end Go.Proofs.YtonhfknjcbakiaaGreatDoor
namespace Go.Proofs.YtonhfknjcbakiaaGreatDoor
open Go.RowKit Go.Sort
abbrev zg:Int->Value:=Value.int .u64
theorem Zb (x:Int) (w:World):Calls Tryz.prog 170 #[.int .u64 x] w fun e w'=>e=.returned (.bool false)/\w'=w:=by
 go_enter Tryz.func170,Tryz.ntmps170
 go_wp2
 go_ret
 exact⟨by simp,rfl⟩
theorem so_cmp_Less_int (x y:Int) (w:World):Calls Tryz.prog 207 #[.int .u64 x,.int .u64 y] w fun e w'=>e=.returned (.bool (Sort.ltInt x y))/\w'=w:=by
 go_enter Tryz.func207,Tryz.ntmps207
 go_wp2_with (go_at_call 170;refine(Zb _ _).mono ?_;rintro e w' ⟨rfl,rfl⟩)
 go_ret
 exact⟨rfl,rfl⟩
theorem Zd (rb ro X:Nat) (hX:X<18446744073709551616) (w:World) (hc:w.cell? ⟨rb,ro,none⟩=some (.int .u64 X)) (hf:w.frozen? ⟨rb,ro,none⟩=false) :
 Calls Tryz.prog 234 #[.pointer (some ⟨rb,ro,none⟩)] w fun e w'=>e=.returned (.int .u64 (xorNextN X:Nat))/\w'=(w.setCell ⟨rb,ro,none⟩ (.int .u64 (xorNextN X:Nat))).drewN 3:=by
 obtain⟨A,hA⟩:∃ A:Nat,A=X ^^^ (X * 8192 % 18446744073709551616):=⟨_,rfl⟩
 obtain⟨B,hB⟩:∃ B:Nat,B=A ^^^ (A / 128):=⟨_,rfl⟩
 obtain⟨C,hC⟩:∃ C:Nat,C=B ^^^ (B * 131072 % 18446744073709551616):=⟨_,rfl⟩
 have lA:A<18446744073709551616:=by rw [hA];exact Nat.xor_lt_two_pow (n:=64) (by omega) (by omega)
 have lB:B<18446744073709551616:=by rw [hB];exact Nat.xor_lt_two_pow (n:=64) (by omega) (by omega)
 have e1:bits .xor .u64 (X:Int) (IntKind.u64.wrap ((X:Int) * 8192))=(A:Int):=by
  rw [IntKind.wrap_u64,show ((X:Int) * 8192 % 18446744073709551616)=((X * 8192 % 18446744073709551616:Nat):Int) by omega,bits_xor_u64_nat _ _ hX (by omega),hA]
 have e2:bits .xor .u64 (A:Int) ((A:Int) / 128)=(B:Int):=by
  rw [show ((A:Int) / 128)=((A / 128:Nat):Int) by omega,bits_xor_u64_nat _ _ lA (by omega),hB]
 have e3:bits .xor .u64 (B:Int) (IntKind.u64.wrap ((B:Int) * 131072))=(C:Int):=by
  rw [IntKind.wrap_u64,show ((B:Int) * 131072 % 18446744073709551616)=((B * 131072 % 18446744073709551616:Nat):Int) by omega,bits_xor_u64_nat _ _ lB (by omega),hC]
 have hv:xorNextN X=C:=by unfold xorNextN;simp only [];rw [<-hA,<-hB,<-hC]
 rw [hv]
 clear hA hB hC hv
 have hss:∀ v v',(w.setCell ⟨rb,ro,none⟩ v).setCell ⟨rb,ro,none⟩ v'=w.setCell ⟨rb,ro,none⟩ v':=setCell_setCell w rb ro
 go_enter Tryz.func234,Tryz.ntmps234
 go_wp2
 go_region
 all_goals go_wp2
 all_goals go_region
 all_goals go_wp2
 all_goals go_region
 all_goals go_wp2
 go_ret
 exact⟨rfl,rfl⟩
theorem kI (n:Nat) (hn:n<4611686018427387904) (w:World) :
 Calls Tryz.prog 233 #[.int .i64 n] w fun e w'=>e=.returned (.int .u64 ((1 <<< bitsLen n:Nat):Int))/\w'=w:=by
 have hLen:∀ w,Calls Tryz.prog 212 #[.int .u64 (n:Int)] w fun e w'=>e=.returned (.int .i64 (bitsLen n:Nat))/\w'=w:=fun w=>by
  have h:=ZC (n:Int) w (by omega) (by omega)
  rwa [Int.toNat_natCast,bitLen_eq _ (by omega)] at h
 have hk:bitsLen n<=62:=(bitsLen_le_iff n 62).2 (by omega)
 have hp:=wrap_two_pow (bitsLen n) hk
 go_enter Tryz.func233,Tryz.ntmps233
 go_wp2_with (first | (go_at_call 212;refine(hLen _).mono ?_;rintro e w' ⟨rfl,rfl⟩))
 go_ret
 exact⟨rfl,rfl⟩
end Go.Proofs.YtonhfknjcbakiaaGreatDoor
namespace Go.Proofs.YtonhfknjcbakiaaGreatDoor.As
open Go.RowKit Go.Extern.Stop Go.Stop Go.Extern
theorem as_NN (c:Int) (t:Addr) (old:Value) (w:World) (hg:w.cell? ⟨0,0,none⟩=some (.iface 217 (.agg #[.pointer (some ⟨2,44,none⟩)]))) (ht0:w.cell? t=some old) (hf0:w.frozen? t=false) :
 Calls Tryz.prog 94 #[.iface 82 (.int .i64 c),.iface 127 (.pointer (some t))] w fun ev w'=>ev=.returned (.bool true)/\w'=((((w.alloc (.cells #[.pointer (some t)] 127)).alloc (.cells #[.pointer (some ⟨2,127,none⟩),.pointer (some ⟨w.heap.size,0,none⟩),.int .u64 150] 172)).alloc (.cells #[.pointer (some ⟨2,127,none⟩),.pointer (some ⟨w.heap.size,0,none⟩),.int .u64 150] 172)).alloc (.cells #[.int .i64 c] 82)).setCell t (.int .i64 c):=by
 have h6:=fun a w=>xt0 a w
 have h7:=fun a w=>xt1 a w
 have h8:=fun a w=>xt2 a w
 have h27:=fun a w=>xt3 a w
 have h37:=fun a w=>xt4 a w
 have h38:=fun a w=>xt5 a w
 have h10:=fun a w=>xt6 a w
 have h35:=fun a w=>xt7 a w
 have h11:=fun a w=>xt8 a w
 have h12:=fun a w=>xt9 a w
 have tO:=typeOfN
 have mA:=methodAssignableTo
 have a25:=assignableN
 have v25:=valueOfN
 have f6:=valueOfNp
 have f7:=typeNp
 have mK:=methodKind
 have mE:=methodElem
 have mI:=methodImplements
 have k27:=kindNp
 have k25:=kindN
 have e27:=elemNp
 have i25:=implementsN
 have n8:=isNilNp ⟨w.heap.size,0,none⟩ t ((w.alloc (.cells #[.pointer (some t)] 127)).alloc (.cells #[.pointer (some ⟨2,127,none⟩),.pointer (some ⟨w.heap.size,0,none⟩),.int .u64 150] 172)) (by simp)
 have hlt:0<w.heap.size:=by
  rcases Nat.eq_zero_or_pos w.heap.size with h0 | h
  ·simp [World.cell?,h0] at hg
  ·exact h
 have hg2:((w.alloc (.cells #[.pointer (some t)] 127)).alloc (.cells #[.pointer (some ⟨2,127,none⟩),.pointer (some ⟨w.heap.size,0,none⟩),.int .u64 150] 172)).cell? ⟨0,0,none⟩=some (.iface 217 (.agg #[.pointer (some ⟨2,44,none⟩)])):=by
  rw [World.cell?_alloc_lt _ _ ⟨0,0,none⟩ (by simp),World.cell?_alloc_lt _ _ ⟨0,0,none⟩ hlt];exact hg
 have htl:t.block<w.heap.size:=by
  rcases Nat.lt_or_ge t.block w.heap.size with h | h
  ·exact h
  ·simp [World.cell?,Array.getElem?_eq_none h] at ht0
 have el:=elemVNp ⟨w.heap.size,0,none⟩ t (((w.alloc (.cells #[.pointer (some t)] 127)).alloc (.cells #[.pointer (some ⟨2,127,none⟩),.pointer (some ⟨w.heap.size,0,none⟩),.int .u64 150] 172)).alloc (.cells #[.pointer (some ⟨2,127,none⟩),.pointer (some ⟨w.heap.size,0,none⟩),.int .u64 150] 172)) (by rw [World.cell?_alloc_lt _ _ ⟨w.heap.size,0,none⟩ (by simp;omega)];simp)
 have st:=setN t ⟨w.heap.size+1+1+1,0,none⟩ c old ((((w.alloc (.cells #[.pointer (some t)] 127)).alloc (.cells #[.pointer (some ⟨2,127,none⟩),.pointer (some ⟨w.heap.size,0,none⟩),.int .u64 150] 172)).alloc (.cells #[.pointer (some ⟨2,127,none⟩),.pointer (some ⟨w.heap.size,0,none⟩),.int .u64 150] 172)).alloc (.cells #[.int .i64 c] 82))
  (by rw [World.cell?_alloc_at _ _ _ _ (by simp)];rfl)
  (by rw [World.cell?_alloc_lt _ _ t (by simp;omega),World.cell?_alloc_lt _ _ t (by simp;omega),World.cell?_alloc_lt _ _ t (by simp;omega),World.cell?_alloc_lt _ _ t htl];exact ht0)
  (by rw [World.frozen?_alloc_old _ _ t (by simp;omega),World.frozen?_alloc_old _ _ t (by simp;omega),World.frozen?_alloc_old _ _ t (by simp;omega),World.frozen?_alloc_old _ _ t (Nat.ne_of_lt htl)];exact hf0)
 go_enter Tryz.func94,Tryz.ntmps94
 go_wp2
 refine wp_loop_rounds 1 ?_
 rw [rounds_succ]
 go_wp2
 go_ret
 exact⟨rfl,rfl⟩
end Go.Proofs.YtonhfknjcbakiaaGreatDoor.As
namespace Go.Proofs.YtonhfknjcbakiaaGreatDoor.As
open Go.RowKit Go.Extern.Stop Go.Stop Go.Extern
end Go.Proofs.YtonhfknjcbakiaaGreatDoor.As
namespace Go.Proofs.YtonhfknjcbakiaaGreatDoor.As
open Go.RowKit Go.Extern.Stop Go.Stop Go.Extern
theorem noAs (v:Value) (xT:TypeId) (w:World):(Instr.typeAssert (.iface 120 v) xT 228 true).run Tryz.prog w=.ok (.tuple #[.nilIface,.bool false]) w:=run_typeAssert_lacksB Tryz.underlying228 (by kernel_rfl) (by kernel_rfl) v xT w
theorem hasUw (v:Value) (xT:TypeId) (w:World):(Instr.typeAssert (.iface 120 v) xT 222 true).run Tryz.prog w=.ok (.tuple #[.iface 120 v,.bool true]) w:=run_typeAssert_hasB Tryz.underlying222 (by kernel_rfl) v xT w
theorem as_FN (c k:Int) (t:Addr) (old:Value) (w:World) (hg:w.cell? ⟨0,0,none⟩=some (.iface 217 (.agg #[.pointer (some ⟨2,44,none⟩)]))) (ht0:w.cell? t=some old) (hf0:w.frozen? t=false) :
 Calls Tryz.prog 94 #[.iface 120 (.agg #[.int .i64 c,.int .i64 k]),.iface 127 (.pointer (some t))] w fun ev w'=>ev=.returned (.bool true)/\w'=(((((w.alloc (.cells #[.pointer (some t)] 127)).alloc (.cells #[.pointer (some ⟨2,127,none⟩),.pointer (some ⟨w.heap.size,0,none⟩),.int .u64 150] 172)).alloc (.cells #[.pointer (some ⟨2,127,none⟩),.pointer (some ⟨w.heap.size,0,none⟩),.int .u64 150] 172)).alloc (.cells #[.int .i64 c,.int .i64 k] 120)).alloc (.cells #[.int .i64 c] 82)).setCell t (.int .i64 c):=by
 have h6:=fun a w=>xt0 a w
 have h7:=fun a w=>xt1 a w
 have h8:=fun a w=>xt2 a w
 have h27:=fun a w=>xt3 a w
 have h37:=fun a w=>xt4 a w
 have h38:=fun a w=>xt5 a w
 have h10:=fun a w=>xt6 a w
 have h35:=fun a w=>xt7 a w
 have h11:=fun a w=>xt8 a w
 have h12:=fun a w=>xt9 a w
 have tO:=typeOfN
 have tF:=typeOfF
 have aF:=assignableFN
 have mU:=methodUnwrap
 have nA:=noAs
 have hU:=hasUw
 have mA:=methodAssignableTo
 have a25:=assignableN
 have v25:=valueOfN
 have f6:=valueOfNp
 have f7:=typeNp
 have mK:=methodKind
 have mE:=methodElem
 have mI:=methodImplements
 have k27:=kindNp
 have k25:=kindN
 have e27:=elemNp
 have i25:=implementsN
 have n8:=isNilNp ⟨w.heap.size,0,none⟩ t ((w.alloc (.cells #[.pointer (some t)] 127)).alloc (.cells #[.pointer (some ⟨2,127,none⟩),.pointer (some ⟨w.heap.size,0,none⟩),.int .u64 150] 172)) (by simp)
 have hlt:0<w.heap.size:=by
  rcases Nat.eq_zero_or_pos w.heap.size with h0 | h
  ·simp [World.cell?,h0] at hg
  ·exact h
 have hg2:((w.alloc (.cells #[.pointer (some t)] 127)).alloc (.cells #[.pointer (some ⟨2,127,none⟩),.pointer (some ⟨w.heap.size,0,none⟩),.int .u64 150] 172)).cell? ⟨0,0,none⟩=some (.iface 217 (.agg #[.pointer (some ⟨2,44,none⟩)])):=by
  rw [World.cell?_alloc_lt _ _ ⟨0,0,none⟩ (by simp),World.cell?_alloc_lt _ _ ⟨0,0,none⟩ hlt];exact hg
 have htl:t.block<w.heap.size:=by
  rcases Nat.lt_or_ge t.block w.heap.size with h | h
  ·exact h
  ·simp [World.cell?,Array.getElem?_eq_none h] at ht0
 have el:=elemVNp ⟨w.heap.size,0,none⟩ t ((((w.alloc (.cells #[.pointer (some t)] 127)).alloc (.cells #[.pointer (some ⟨2,127,none⟩),.pointer (some ⟨w.heap.size,0,none⟩),.int .u64 150] 172)).alloc (.cells #[.pointer (some ⟨2,127,none⟩),.pointer (some ⟨w.heap.size,0,none⟩),.int .u64 150] 172)).alloc (.cells #[.int .i64 c,.int .i64 k] 120)) (by rw [World.cell?_alloc_lt _ _ ⟨w.heap.size,0,none⟩ (by simp;omega),World.cell?_alloc_lt _ _ ⟨w.heap.size,0,none⟩ (by simp;omega)];simp)
 have st:=setN t ⟨w.heap.size+1+1+1+1,0,none⟩ c old (((((w.alloc (.cells #[.pointer (some t)] 127)).alloc (.cells #[.pointer (some ⟨2,127,none⟩),.pointer (some ⟨w.heap.size,0,none⟩),.int .u64 150] 172)).alloc (.cells #[.pointer (some ⟨2,127,none⟩),.pointer (some ⟨w.heap.size,0,none⟩),.int .u64 150] 172)).alloc (.cells #[.int .i64 c,.int .i64 k] 120)).alloc (.cells #[.int .i64 c] 82))
  (by rw [World.cell?_alloc_at _ _ _ _ (by simp)];rfl)
  (by rw [World.cell?_alloc_lt _ _ t (by simp;omega),World.cell?_alloc_lt _ _ t (by simp;omega),World.cell?_alloc_lt _ _ t (by simp;omega),World.cell?_alloc_lt _ _ t (by simp;omega),World.cell?_alloc_lt _ _ t htl];exact ht0)
  (by rw [World.frozen?_alloc_old _ _ t (by simp;omega),World.frozen?_alloc_old _ _ t (by simp;omega),World.frozen?_alloc_old _ _ t (by simp;omega),World.frozen?_alloc_old _ _ t (by simp;omega),World.frozen?_alloc_old _ _ t (Nat.ne_of_lt htl)];exact hf0)
 go_enter Tryz.func94,Tryz.ntmps94
 go_wp2
 refine wp_loop_rounds 2 ?_
 rw [rounds_succ]
 go_wp2
 rw [rounds_succ]
 go_wp2
 go_ret
 exact⟨rfl,rfl⟩
end Go.Proofs.YtonhfknjcbakiaaGreatDoor.As
namespace Go.Proofs.YtonhfknjcbakiaaGreatDoor
open Go.ChangeShapes Go.WideShapes Go.ChangeAt Go.RowKit Go.Deep
section
variable {H:Type} {enc:TypeId × Value->H} {w:World} {base:Nat} {spare:Nat->Bool} {held:Bool}
instance : Inhabited Iv:=⟨⟨0,0⟩⟩
theorem zgC {n:Int} (h:(Lit.int .u64 n).wf=true):∃ x:Nat,n=x/\x<zk:=by
 simp [Lit.wf,IntKind.min,IntKind.max,IntKind.signed,IntKind.bits] at h
 exact⟨n.toNat,by omega,by rw [zw];omega⟩
theorem kM {t:TypeId} {fuel:Nat} {cs:List Value} {x:DataW H × List MemPlace} (ht:Tryz.prog.underlying t=some (.int .u64)) (h:DataW.trod enc Tryz.prog w base spare held fuel t cs=some x):∃ n:Nat,cs=[.int .u64 n]/\n<zk:=by
 obtain⟨n,rfl,_,hw⟩:=DataW.trod_int ht h
 obtain⟨m,rfl,hm⟩:=zgC hw
 exact⟨m,rfl,hm⟩
theorem zaC (a:Addr) (i:Nat):(a.add i).block=a.block:=by unfold Addr.add;split<;>rfl
theorem Za {α:Type} [Inhabited α] {t e:TypeId} {fuel sz:Nat} {cs:List Value} {x:DataW H × List MemPlace} (rd:World->Nat->Nat->α->Prop) (ht:Tryz.prog.underlying t=some (.slice e)) (hsz:Tryz.prog.cellsOf e=sz)
 (hel:∀(n:Nat) (a:Addr) (cs':List Value) (y:DataW H × List MemPlace),w.cells? base a sz=some cs'->DataW.trod enc Tryz.prog w base spare held n e cs'=some y->a.spot=none/\a.block<w.heap.size/\∃ x,rd w a.block a.off x)
 (h:DataW.trod enc Tryz.prog w base spare held fuel t cs=some x):∃ v l,cs=[v]/\RdSl sz rd 0 w.heap.size w v l:=by
 rcases open_slice ht h with⟨rfl,_⟩ | ⟨a,len,cap,m,n,D,Pl,rfl,hb,hl,hm,hmm,_,hx⟩
 ·exact⟨_,[],rfl,RdSl.nil _ _ (by decide)⟩
 have hlm:len<=m:=by rw [hmm];split<;>omega
 have each:∀ i,i<len->∃ y,(a.add (i * sz)).spot=none/\a.block<w.heap.size/\rd w a.block ((a.add (i * sz)).off) y:=by
  intro i hi
  obtain⟨cs',h1,h2⟩:=hx i (by omega)
  rw [hsz] at h1
  obtain⟨e1,e2,y,e3⟩:=hel _ _ _ _ h1 h2
  rw [zaC] at e2 e3
  exact⟨y,e1,e2,e3⟩
 obtain⟨f,hf⟩:=choose_lt each
 refine⟨_,(List.range len).map f,rfl,some a,cap,by simp,by simpa using hl,hm,fun hne=>?_⟩
 have hpos:0<len:=by
  rcases Nat.eq_zero_or_pos len with h0 | h0
  ·subst h0;simp at hne
  ·exact h0
 obtain⟨b,off,spot⟩:=a
 have hs:spot=none:=by
  have:=(hf 0 hpos).1
  simpa [Addr.add] using this
 subst hs
 refine⟨b,off,rfl,Nat.zero_le _,(hf 0 hpos).2.1,fun i hi=>?_⟩
 have hi':i<len:=by simpa using hi
 have:=(hf i hi').2.2
 have e:((⟨b,off,none⟩:Addr).add (i * sz)).off=off+i * sz:=by unfold Addr.add;split<;>simp_all
 rw [e] at this
 simpa using this
theorem YB {P:Program} {e:TypeId} {f0 f1:Field} {n:Nat} {a:Addr} {cs:List Value} {y:DataW H × List MemPlace} (he:P.underlying e=some (.struct #[f0,f1])) (o0:f0.offset=0) (o1:f1.offset=1) (c0:P.cellsOf f0.type=1) (c1:P.cellsOf f1.type=1)
 (h1:w.cells? base a 2=some cs) (h2:DataW.trod enc P w base spare held n e cs=some y) :
 ∃ v0 v1 k y0 y1,w.cell? a=some v0/\w.cell? (a.add 1)=some v1/\DataW.trod enc P w base spare held k f0.type [v0]=some y0/\DataW.trod enc P w base spare held k f1.type [v1]=some y1:=by
 obtain⟨_,hlen,hcell⟩:=World.cells?_some h1
 obtain⟨xs,k,_,_,_,hxl,hf⟩:=DataW.trod_struct he h2
 match xs,hxl,cs,hlen with
 | [y0,y1],_,[v0,v1],_=>
   have g0:=hf 0 f0 rfl
   have g1:=hf 1 f1 rfl
   simp [o0,o1,c0,c1] at g0 g1
   have e0:=hcell 0 (by omega)
   have e1:=hcell 1 (by omega)
   exact⟨v0,v1,k,y0,y1,by simpa [Addr.add] using e0,by simpa using e1,g0,g1⟩
theorem zfA {n:Nat} {a:Addr} {cs:List Value} {y:DataW H × List MemPlace} (h1:w.cells? base a 2=some cs) (h2:DataW.trod enc Tryz.prog w base spare held n 36 cs=some y):a.spot=none/\a.block<w.heap.size/\∃ s,rdIv w a.block a.off s:=by
 obtain⟨v0,v1,k,y0,y1,e0,e1,g0,g1⟩:=YB Tryz.underlying36 rfl rfl (by kernel_rfl) (by kernel_rfl) h1 h2
 obtain⟨lo,q0,hlo⟩:=kM Tryz.underlying24 g0
 obtain⟨hi,q1,hhi⟩:=kM Tryz.underlying24 g1
 obtain rfl:v0=_:=by simpa using q0
 obtain rfl:v1=_:=by simpa using q1
 obtain⟨b,off,spot⟩:=a
 obtain rfl:spot=none:=World.cell?_spot e0
 exact⟨rfl,World.block_lt_of_cell? _ _ e0,⟨lo,hi⟩,e0,by simpa [Addr.add] using e1,hlo,hhi⟩
theorem ZA {fuel:Nat} {cs:List Value} {x:DataW H × List MemPlace} (h:DataW.trod enc Tryz.prog w base spare held fuel 30 cs=some x):∃ v l,cs=[v]/\RdR 0 w.heap.size w v l:=
 Za rdIv Tryz.underlying30 (by kernel_rfl) (fun _ _ _ _ h1 h2=>zfA h1 h2) h
end
end Go.Proofs.YtonhfknjcbakiaaGreatDoor
namespace Go.Proofs.YtonhfknjcbakiaaGreatDoor
open Go.RowKit
inductive PO where
 | t (i:Nat)
 | c (p:PV)
 | f (f:FuncId)
def PS.ev (s:PS):PO->PV
 | .t i=>s.get i
 | .c p=>p
 | .f f=>.fn (.func f) [] []
def Q6:Value->PV
 | .slice none 0 0=>.sl [] .sh
 | v=>.v v
def ofV:Value->PV
 | .slice none 0 0=>.sl [] .z
 | .agg vs=>if vs.toList.all (·.oneCell') then .agg (vs.toList.map Q6) else .v (.agg vs)
 | v=>.v v
def po:Operand->Option PO
 | .tmp t=>some (.t t)
 | .const v=>some (.c (ofV v))
 | .func f=>some (.f f)
 | .global _=>none
inductive PK where
 | mv (x:PO)
 | bin (op:BinOp) (x y:PO)
 | beq (neg:Bool) (x y:PO)
 | eq2 (neg:Bool) (x y:PO) (n:Nat)
 | nil (neg:Bool) (x:PO)
 | not (x:PO)
 | cv (k:IntKind) (x:PO)
 | fa (x:PO) (off:Nat)
 | ia (x y:PO) (sz:Nat)
 | aa (x y:PO) (n sz:Nat)
 | ix (x y:PO) (n:Nat) (ag:Bool) (sz:Nat)
 | fl (x:PO) (off:Nat) (ag:Bool) (sz:Nat)
 | ld (x:PO) (ag:Bool) (sz:Nat)
 | nc (x:PO)
 | bd (zs:List PV) (ps:List (Nat × Nat × PO))
 | bs (sz:Nat) (ps:List PO)
 | ln (x:PO)
 | ex (x:PO) (i:Nat)
 | mf (f:Fn) (fs cs:List PO)
 | mi (t:TypeId) (x:PO)
 | pk (c x y:PO)
 | sc (x:PO) (lo hi:Option PO) (sz:Nat)
 | ap (x y:PO) (sz bytes:Nat)
 | mm (max:Bool) (x y:PO)
 | ca (f:FuncId) (xs:List PO)
 | cl (f:PO) (xs:List PO)
 | iv (x:PO) (m:String) (xs:List PO)
 | sb (op:BinOp) (x y:PO)
 | al (zs:List PV)
 | bo (x:PO)
 | st (x y:PO) (sz:Nat)
structure PI where
 d:Option Nat
 g:Option (Nat × Bool)
 k:PK
def Qb:TypeDesc->Bool
 | .struct _=>true
 | .array _ _=>true
 | _=>false
def XH (P:Program) (t:TypeId):Option (Bool × Nat):=(P.info? t).bind fun i=>(P.underlying t).map fun d=>(Qb d,i.size)
def Qu:List Operand->Option (List PO)
 | []=>some []
 | x::r=>(po x).bind fun y=>(Qu r).map fun l=>y::l
def poo:Option Operand->Option (Option PO)
 | none=>some none
 | some x=>(po x).map some
def Qq (P:Program) (fs:Array Field):List (Nat × Operand)->Option (List (Nat × Nat × PO))
 | []=>some []
 | (i,x)::r=>(fs[i]?).bind fun f=>(P.info? f.type).bind fun n=>(po x).bind fun y=>(Qq P fs r).map fun l=>(f.offset,n.size,y)::l
def Qp (sz:Nat):List (Nat × Operand)->Option (List (Nat × Nat × PO))
 | []=>some []
 | (i,x)::r=>(po x).bind fun y=>(Qp sz r).map fun l=>(i * sz,sz,y)::l
def xg (P:Program) (t:TypeId):Option (List PV):=(P.info? t).bind fun i=>i.zero.bind fun z=>if z.cells.toList.all (·.oneCell') then some (z.cells.toList.map Q6) else none
def jX (P:Program) (t:TypeId):Bool:=match P.underlying t with
 | some (.int _)=>true
 | _=>false
def K8 (P:Program):Nat->List Field->Bool
 | _,[]=>true
 | i,f::r=>(f.name != "_") && f.offset == i && jX P f.type && K8 P (i+1) r
def za9 (P:Program) (t:TypeId):Option Nat:=match P.underlying t with
 | some (.struct fs)=>if K8 P 0 fs.toList && !P.stoodInHeld t && !P.eqGuardType P.depth t then some fs.size else none
 | some (.array n e)=>if jX P e && (P.info? e).isSome && P.cellsOf e == 1 && !P.eqGuardType P.depth t then some n else none
 | _=>none
def JL:Operand->Bool
 | .const .nilIface=>true
 | _=>false
def zk3:BinOp->Bool
 | .add | .sub | .mul | .quo | .rem | .eql | .neq | .lss | .leq | .gtr | .geq | .shr=>true
 | _=>false
def zoQ:BinOp->Bool
 | .add | .eql | .neq=>true
 | _=>false
def zpq (P:Program) (t:TypeId):Bool:=match P.underlying t with
 | some .string=>true
 | _=>false
def zc6 (P:Program) (t:TypeId):Bool:=match P.underlying t with
 | some (.interface _)=>true
 | _=>false
def zh0 (P:Program) (t:TypeId):Bool:=match P.underlying t with
 | some .bool=>true
 | _=>false
def zmS (P:Program) (t:TypeId):Bool:=match P.underlying t with
 | some (.int _)=>true
 | _=>false
def XR (P:Program) (o:Oper):Option PK:=
 match o.op with
 | .move x=>(po x).map .mv
 | .assign x=>(po x).map .mv
 | .pick c a b=>(po c).bind fun c=>(po a).bind fun a=>(po b).map fun b=>.pk c a b
 | .alloc e=>(xg P e).map .al
 | .box _ x=>(po x).map .bo
 | .build t parts=>(xg P t).bind fun zs=>match P.underlying t with
   | some (.struct fs)=>if fs.toList.all (fun f=>(P.info? f.type).isSome) then (Qq P fs parts.toList).map fun ps=>.bd zs ps else none
   | some (.array _ e)=>(P.info? e).bind fun i=>(Qp i.size parts.toList).map fun ps=>.bd zs ps
   | _=>none
 | .buildSlice t n parts=>match P.underlying t with
   | some (.slice e)=>(P.info? e).bind fun i=>(xg P e).bind fun zs=>(Qu (parts.toList.map (·.2))).bind fun ps=>
     if parts.toList.map (·.1)=List.range n/\n * i.size<=16777216/\n<=16777216 then some (.bs i.size ps) else none
   | _=>none
 | .load t a=>(XH P t).bind fun(ag,n)=>if ag || n == 1 then (po a).map fun a=>.ld a ag n else none
 | .store t a v=>(XH P t).bind fun(_,n)=>(po a).bind fun a=>(po v).map fun v=>.st a v n
 | .nilCheck x=>(po x).map .nc
 | .binOp op t x y _=>(po x).bind fun x'=>(po y).bind fun y'=>
   if (op == .eql || op == .neq) && JL y && zc6 P t then some (.nil (op == .neq) x')
   else if (op == .eql || op == .neq) && (za9 P t).isSome then some (.eq2 (op == .neq) x' y' ((za9 P t).getD 0))
   else if (op == .eql || op == .neq) && zh0 P t then some (.beq (op == .neq) x' y')
   else if zk3 op && zmS P t then some (.bin op x' y')
   else if zoQ op && zpq P t then some (.sb op x' y') else none
 | .unOp .not _ x=>(po x).map .not
 | .convert s t x=>match P.underlying s,P.underlying t with
   | some (.int _),some (.int k)=>(po x).map (.cv k)
   | _,_=>none
 | .makeInterface t x=>match P.underlying t with
   | some (.interface _)=>none
   | some _=>(po x).map (.mi t)
   | none=>none
 | .makeFunc f fs cs=>(Qu fs.toList).bind fun fs=>(Qu cs.toList).map fun cs=>.mf f fs cs
 | .slice t x lo hi none=>match P.underlying t with
   | some (.slice e)=>(P.info? e).bind fun i=>(po x).bind fun x=>(poo lo).bind fun lo=>(poo hi).map fun hi=>.sc x lo hi i.size
   | _=>none
 | .fieldAddr t x f=>match P.underlying t with
   | some (.struct fs)=>(fs[f]?).bind fun fd=>(P.info? fd.type).bind fun i=>if i.size=0 then none else (po x).map fun x=>.fa x fd.offset
   | _=>none
 | .field t x f=>match P.underlying t with
   | some (.struct fs)=>(fs[f]?).bind fun fd=>(XH P fd.type).bind fun(ag,n)=>if ag || n == 1 then (po x).map fun x=>.fl x fd.offset ag n else none
   | _=>none
 | .indexAddr t x y=>match P.underlying t with
   | some (.slice e)=>(P.info? e).bind fun i=>(po x).bind fun x=>(po y).map fun y=>.ia x y i.size
   | some (.array n e)=>(P.info? e).bind fun i=>(po x).bind fun x=>(po y).map fun y=>.aa x y n i.size
   | _=>none
 | .index t x y=>match P.underlying t with
   | some (.array n e)=>(XH P e).bind fun(ag,k)=>if ag || k == 1 then (po x).bind fun x=>(po y).map fun y=>.ix x y n ag k else none
   | _=>none
 | .extract x i=>(po x).map fun x=>.ex x i
 | .call c=>match c.callee,c.args.toList,c.argTypes.toList with
   | .builtin .len,[x],[t]=>match P.underlying t with
     | some (.slice _)=>(po x).map .ln
     | _=>none
   | .builtin .append,[x,y],[t,t']=>match P.underlying t with
     | some (.slice e)=>(P.info? e).bind fun i=>if t=t'/\0<i.size/\0<i.bytes then (xg P e).bind fun zs=>if zs.length=i.size then (po x).bind fun x=>(po y).map fun y=>.ap x y i.size i.bytes else none else none
     | _=>none
   | .builtin .max,[x,y],_=>(po x).bind fun x=>(po y).map fun y=>.mm true x y
   | .builtin .min,[x,y],_=>(po x).bind fun x=>(po y).map fun y=>.mm false x y
   | .value (.func f),xs,_=>(Qu xs).map fun xs=>.ca f xs
   | .value (.tmp t),xs,_=>(Qu xs).map fun xs=>.cl (.t t) xs
   | .invoke (.tmp t) m,xs,_=>(Qu xs).map fun xs=>.iv (.t t) m xs
   | _,_,_=>none
 | .unOp .neg _ x=>(po x).map fun x'=>.bin .sub (.c (.v (.int .i64 0))) x'
 | _=>none
def Cn (P:Program) (f:FuncId) (ps:List PV) (r:PV):Prop:=
 (∀ args w,(callFunc f args).run P w=.ok (.enter f args) w) /\
 ∀(D:Nat->Nat->Prop) (w:World) (vs:Array Value),GL D w->(∀ b o,D b o->b<w.heap.size)->vs.size=ps.length->(∀(i:Nat) p,ps[i]? = some p->Dat D w (vs.getD i undef) p)->Calls P f vs w fun e w'=>
  ∃ v D',e=.returned v/\Below w.heap.size w w'/\(∀ b o,D b o->D' b o)/\(∀ b o,D' b o->D b o\/w.heap.size<=b)/\(∀ b o,D' b o->b<w'.heap.size)/\Dat D' w' v r/\yW D' (fun k=>w.heap.size<=k) w' v r
def OCn (P:Program) (f:FuncId) (es:List (List PV)) (sz:Nat) (ps:List PV) (rs:List (List PV)):Prop:=
 (∀ args w,(callFunc f args).run P w=.ok (.enter f args) w) /\
 ∀(D:Nat->Nat->Prop) (w:World) (v:Value) (vs:Array Value),GL D w->(∀ b o,D b o->b<w.heap.size)->vs.size=ps.length->(∀(i:Nat) p,ps[i]? = some p->Dat D w (vs.getD i undef) p)->Dat D w v (.sl es .sh)->yW D (fun _=>True) w v (.sl es (.r 0 sz)) ->
  Calls P f (#[v]++vs) w fun e w'=>∃ u D',e=.returned u/\(w'.os=w.os/\w'.tape=w.tape/\w'.output=w.output/\w.heap.size<=w'.heap.size)/\(∀ k,k<w.heap.size->zc v≠some k->w'.heap[k]? = w.heap[k]?) /\
   (∀ b o y,D b o->w.cell? ⟨b,o,none⟩=some y->w'.cell? ⟨b,o,none⟩=some y)/\(∀ b o,D b o->D' b o)/\(∀ b o,D' b o->D b o\/w.heap.size<=b\/zc v=some b)/\(∀ b o,D' b o->b<w'.heap.size) /\
   Dat D' w' u (.sl rs .sh)/\yW D' (fun k=>w.heap.size<=k\/zc v=some k) w' u (.sl rs (.r 0 sz))
def qW (p:PV) (K:List PV->Prop):Prop:=match p with
 | .agg cs=>K cs
 | .v x=>x.oneCell'=true/\K [.v x]
 | .sl es o=>K [.sl es o]
 | .cp cs o=>K [.cp cs o]
 | .bx i o=>K [.bx i o]
 | .fn f fs cs=>K [.fn f fs cs]
 | .ifc t x=>K [.ifc t x]
 | _=>False
def qV (p:PV) (K:Bool->Prop):Prop:=match p with
 | .v (.bool b)=>K b
 | _=>False
def vR (p:PV) (K:IntKind->Int->Prop):Prop:=match p with
 | .v (.int k n)=>K k n
 | _=>False
def QA (p:PV) (K:List (List PV)->Prop):Prop:=match p with
 | .sl es _=>K es
 | _=>False
def qar (k:IntKind) (n:Int) (K:PV->Prop):Prop:=match k with
 | .i64=>(-9223372036854775808<=n/\n<9223372036854775808)/\K (.v (.int .i64 n))
 | k=>K (.v (.int k (k.wrap n)))
def zgm (k:IntKind) (a b:Int):Int:=a.fdiv (2 ^ (min b.toNat k.bits))
def Xo (op:BinOp) (k:IntKind) (a b:Int) (K:PV->Prop):Prop:=match op with
 | .add=>qar k (a+b) K
 | .sub=>qar k (a - b) K
 | .mul=>qar k (a * b) K
 | .quo=>b≠0/\qar k (a.tdiv b) K
 | .rem=>b≠0/\K (.v (.int k (a.tmod b)))
 | .eql=>K (.v (.bool (decide (a=b))))
 | .neq=>K (.v (.bool (!decide (a=b))))
 | .lss=>K (.v (.bool (decide (a<b))))
 | .leq=>K (.v (.bool (decide (a<=b))))
 | .gtr=>K (.v (.bool (decide (b<a))))
 | .geq=>K (.v (.bool (decide (b<=a))))
 | .shr=>0<=b/\K (.v (.int k (zgm k a b)))
 | _=>False
def QB (op:BinOp) (p q:PV) (K:PV->Prop):Prop:=match p,q with
 | .v (.int k a),.v (.int k' b)=>k=k'/\Xo op k a b K
 | _,_=>False
def jy:List PV->List PV->Prop
 | [],[]=>True
 | .v (.int k _)::r,.v (.int k' _)::r'=>k=k'/\jy r r'
 | _,_=>False
def xQ:List PV->List PV->Bool
 | .v (.int _ a)::r,.v (.int _ b)::r'=>decide (a=b) && xQ r r'
 | _,_=>true
def zbz (neg:Bool) (m:Nat) (p q:PV) (K:PV->Prop):Prop:=match p,q with
 | .agg xs,.agg ys=>(xs.length=m/\jy xs ys)/\K (.v (.bool (neg != xQ xs ys)))
 | _,_=>False
def sbV (op:BinOp) (a b:ByteArray):PV:=match op with
 | .add=>.v (.string (a++b))
 | .eql=>.v (.bool (a.toList == b.toList))
 | _=>.v (.bool !(a.toList == b.toList))
def qsb (op:BinOp) (p q:PV) (K:PV->Prop):Prop:=match p,q with
 | .v (.string a),.v (.string b)=>a.size+b.size<=9223372036854775807/\K (sbV op a b)
 | _,_=>False
def Mth (P:Program) (t:TypeId) (m:String) (f:FuncId):Prop:=∀(v:Value) (args:Array Value) (w:World),(callMethod (.iface t v) m args).run P w=(callFunc f (#[v]++args)).run P w
def VI (cs:List PV) (o:Nat) (ag:Bool) (n:Nat) (K:PV->Prop):Prop:=match ag with
 | true=>o+n<=cs.length/\K (.agg ((cs.drop o).take n))
 | false=>match cs[o]? with
   | some p=>K p
   | none=>False
def zY (ps:List PV):Bool:=ps.all PV.isD
def XI (zs cs:List PV) (off:Nat):List PV:=zs.take off++cs++zs.drop (off+cs.length)
def vS (s:PS):List (Nat × Nat × PO)->List PV->(List PV->Prop)->Prop
 | [],zs,K=>K zs
 | (off,n,x)::r,zs,K=>qW (s.ev x) fun cs=>cs.length=n/\off+n<=zs.length/\zY cs=true/\vS s r (XI zs (cs.map PV.sh) off) K
def yP (s:PS) (sz:Nat):List PO->(List (List PV)->Prop)->Prop
 | [],K=>K []
 | x::r,K=>qW (s.ev x) fun cs=>cs.length=sz/\zY cs=true/\yP s sz r fun es=>K (cs.map PV.sh::es)
def Xw (lo:Option PO) (p:PV):Ow:=match lo,p with
 | none,.sl _ (.p i)=>.p i
 | _,_=>.sh
def qBd (s:PS) (y:Option PO) (n:Nat) (K:Nat->Prop):Prop:=match y with
 | none=>K n
 | some y=>vR (s.ev y) fun _ n=>0<=n/\K n.toNat
def PK.q (P:Program) (s:PS) (k:PK) (K:PV->Prop):Prop:=match k with
 | .mv x=>match x with
   | .t i=>K ((s.get i).pre i)
   | x=>K (s.ev x).strip
 | .bin op x y=>QB op (s.ev x) (s.ev y) K
 | .beq n x y=>qV (s.ev x) fun a=>qV (s.ev y) fun b=>K (.v (.bool (n != (a == b))))
 | .eq2 n x y m=>zbz n m (s.ev x) (s.ev y) K
 | .nil n x=>match s.ev x with
   | .v .nilIface=>K (.v (.bool (!n)))
   | .ifc _ _=>K (.v (.bool n))
   | _=>False
 | .not x=>qV (s.ev x) fun b=>K (.v (.bool (!b)))
 | .cv k x=>vR (s.ev x) fun _ n=>K (.v (.int k (k.wrap n)))
 | .fa x off=>match s.ev x with
   | .bx i o=>K (.bx i (o+off))
   | .cp cs o=>K (.cp cs (o+off))
   | _=>False
 | .ia x y sz=>QA (s.ev x) fun es=>vR (s.ev y) fun _ n=>0<=n/\match es[n.toNat]? with
   | some e=>e.length=sz/\K (.cp e 0)
   | none=>False
 | .aa x y n sz=>vR (s.ev y) fun _ m=>(0<=m/\m<n)/\match s.ev x with
   | .bx i o=>K (.bx i (o+m.toNat * sz))
   | .cp cs o=>K (.cp cs (o+m.toNat * sz))
   | _=>False
 | .ix x y n ag sz=>vR (s.ev y) fun _ m=>(0<=m/\m<n)/\match s.ev x with
   | .agg cs=>VI cs (m.toNat * sz) ag sz fun p=>K p.strip
   | _=>False
 | .fl x off ag n=>match s.ev x with
   | .agg cs=>VI cs off ag n fun p=>K p.strip
   | _=>False
 | .ld x ag n=>match s.ev x with
   | .cp cs o=>VI cs o ag n fun p=>K p.strip
   | .bx i o=>match s.b[i]? with
     | some cs=>zY ((cs.drop o).take n)=true/\VI cs o ag n fun p=>K p.strip
     | none=>False
   | _=>False
 | .nc x=>match s.ev x with
   | .bx i o=>K (.bx i o)
   | .cp cs o=>K (.cp cs o)
   | _=>False
 | .bd zs ps=>vS s ps zs fun cs=>K (.agg cs)
 | .bs sz ps=>yP s sz ps fun es=>K (.sl es .z)
 | .ln x=>QA (s.ev x) fun es=>K (.v (.int .i64 es.length))
 | .ex x i=>match s.ev x with
   | .tup cs=>match cs[i]? with
     | some p=>K p.strip
     | none=>False
   | _=>False
 | .mf f fs cs=>(fs.all (fun x=>(s.ev x).sh.isD || (s.ev x).sh.isB) && cs.all (fun x=>(s.ev x).sh.isD || (s.ev x).sh.isB))=true/\K (.fn f (fs.map fun x=>(s.ev x).sh) (cs.map fun x=>(s.ev x).sh))
 | .mi t x=>match (s.ev x).isD with
   | true=>K (.ifc t (s.ev x).sh)
   | false=>False
 | .pk c x y=>qV (s.ev c) fun b=>(b=true->K (s.ev x).strip)/\(b=false->K (s.ev y).strip)
 | .sc x lo hi sz=>QA (s.ev x) fun es=>qBd s hi es.length fun h=>qBd s lo 0 fun l=>l<=h/\h<=es.length/\(∀ e ∈ es,e.length=sz)/\K (.sl ((es.take h).drop l) (Xw lo (s.ev x)))
 | .mm m x y=>vR (s.ev x) fun k a=>vR (s.ev y) fun k' b=>k=k'/\K (.v (.int k (if m then (if b > a then b else a) else (if b<a then b else a))))
 | .ca f xs=>∃ r,Cn P f (xs.map fun x=>(s.ev x).sh) r/\zY (xs.map fun x=>(s.ev x).sh)=true/\K r.strip
 | .cl y xs=>match s.ev y with
   | .fn (.func f) fs cs=>∃ r,Cn P f (fs++(xs.map fun x=>(s.ev x).sh)++cs) r/\zY (fs++(xs.map fun x=>(s.ev x).sh)++cs)=true/\K r.strip
   | _=>False
 | .iv x m xs=>match s.ev x with
   | .ifc t p=>∃ f,Mth P t m f/\∃ r,Cn P f (p.sh::xs.map fun x=>(s.ev x).sh) r/\zY (p.sh::xs.map fun x=>(s.ev x).sh)=true/\K r.strip
   | _=>False
 | .sb op x y=>qsb op (s.ev x) (s.ev y) K
 | .ap x y sz by_=>match s.ev x with
   | .sl es .z=>QA (s.ev y) fun es'=>(∀ e ∈ es,e.length=sz)/\(∀ e ∈ es',e.length=sz)/\(es.length+es'.length) * by_<=140737488355328/\K (.sl (es++es') (.n sz))
   | _=>False
 | _=>False
def yC (y:PO) (p:PV) (cs:List PV):List PV:=match y,p with
 | .t _,.sl es o=>[.sl es o]
 | _,_=>cs.map PV.sh
def apO (es es':List (List PV)) (d sz:Nat):Ow:=match es,es' with
 | _::_,[]=>.sh
 | _,_=>.r d sz
def isT:PO->Bool
 | .t _=>true
 | _=>false
def PV.fz1 (b:List (List PV)):PV->PV
 | .bx i o=>.cp ((b[i]?.getD []).map PV.sh) o
 | p=>p
def PV.fz (b:List (List PV)):PV->PV
 | .fn f fs cs=>.fn f (fs.map (PV.fz1 b)) (cs.map (PV.fz1 b))
 | p=>p.fz1 b
def PS.fz (s:PS):PS:=⟨s.t.map fun y=>(y.1,y.2.fz s.b),[]⟩
def PK.e (P:Program) (k:PK) (d:Option Nat) (s:PS) (K:PS->Prop):Prop:=match k with
 | .mf f fs cs=>if (fs.any fun x=>(s.ev x).isB) || (cs.any fun x=>(s.ev x).isB) then s.b.all zY=true/\PK.q P s.fz (.mf f fs cs) fun p=>K (s.fz.put d p) else PK.q P s (.mf f fs cs) fun p=>K (s.put d p)
 | .mv (.t i)=>K (s.put d (s.get i))
 | .sc x lo hi sz=>PK.q P s (.sc x lo hi sz) fun p=>K (s.put d p.strip)
 | .ld x false 1=>match s.ev x with
   | .bx i o=>match s.b[i]? with
     | some cs=>match cs[o]? with
       | some p=>K (s.put d p)
       | none=>False
     | none=>False
   | _=>PK.q P s (.ld x false 1) fun p=>K (s.put d p)
 | .al zs=>K (PS.put ⟨s.t,s.b++[zs]⟩ d (.bx s.b.length 0))
 | .bs sz ps=>match d with
   | some d=>yP s sz ps fun es=>K (s.put (some d) (.sl es (.r d sz)))
   | none=>PK.q P s (.bs sz ps) fun p=>K (s.put d p)
 | .bo x=>qW (s.ev x) fun cs=>K (PS.put ⟨s.t,s.b++[cs.map PV.sh]⟩ d (.bx s.b.length 0))
 | .st x y sz=>match s.ev x with
   | .bx i o=>match s.b[i]? with
     | some cs=>qW (s.ev y) fun us=>us.length=sz/\o+sz<=cs.length/\K (PS.put ⟨s.t,s.b.set i (XI cs (yC y (s.ev y) us) o)⟩ d (.v undef))
     | none=>False
   | _=>False
 | .ap x y sz by_=>match s.ev x with
   | .sl es (.r n sz')=>sz'=sz/\isT x=true/\QA (s.ev y) fun es'=>(∀ e ∈ es',e.length=sz)/\(es.length+es'.length) * by_<=140737488355328/\K ((s.down n).put d (.sl (es++es') (.r n sz)))
   | .sl es .z=>match d with
     | some d=>QA (s.ev y) fun es'=>(∀ e ∈ es,e.length=sz)/\(∀ e ∈ es',e.length=sz)/\(es.length+es'.length) * by_<=140737488355328/\K (s.put (some d) (.sl (es++es') (apO es es' d sz)))
     | none=>PK.q P s (.ap x y sz by_) fun p=>K (s.put d p.strip)
   | _=>False
 | .ca f xs=>match xs with
   | .t i::xs'=>match s.get i with
     | .sl es (.r n sz)=>(∃ r,Cn P f (xs.map fun x=>(s.ev x).sh) r/\zY (xs.map fun x=>(s.ev x).sh)=true/\K (s.put d r))\/∃ rs,OCn P f es sz (xs'.map fun x=>(s.ev x).sh) rs/\zY (xs'.map fun x=>(s.ev x).sh)=true/\K ((s.down n).put d (.sl rs (.r n sz)))
     | _=>∃ r,Cn P f (xs.map fun x=>(s.ev x).sh) r/\zY (xs.map fun x=>(s.ev x).sh)=true/\K (s.put d r)
   | _=>∃ r,Cn P f (xs.map fun x=>(s.ev x).sh) r/\zY (xs.map fun x=>(s.ev x).sh)=true/\K (s.put d r)
 | k=>k.q P s fun p=>K (s.put d p)
end Go.Proofs.YtonhfknjcbakiaaGreatDoor
