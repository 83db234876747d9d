import Derived.WalkKit
import Derived.RangeFuncNested
import Derived.RangeFuncBound
import Derived.RangeFuncCalls
import Derived.RangeFuncLeaves
import Derived.Shelf.Abstract
import Derived.Shelf.RegionOpen
import Derived.OwnWalkIn
import Derived.TacticsInMore
import Derived.LoopNIn
import Derived.LoopIn
import Derived.Maps.AppendAt
import Derived.Lib.Hide
import Derived.Test.YtjdjjlkifdimkaaGreatDoorProg
import Derived.Deep.LoopGhost
import Derived.Deep.DeepCutAuto
import Derived.Deep.CutBlock
import Derived.Test.YtjdjjlkifdimkaaGreatDoorB0
set_option maxHeartbeats 16000000
set_option linter.all false
set_option maxRecDepth 100000
namespace Go.Proofs.YtjdjjlkifdimkaaGreatDoor
def dJ{p:Prop}(h:p:=by simp [Value.oneCell']):p:=h
def dF{p:Prop}(h:p:=by unfold maxLen;omega):p:=h
def dM{p:Prop}(h:p:=by kernel_rfl):p:=h
def tk:=@Go.World.cell?_of_block
def tl:=@Go.World.alloc_heap_new
def tn:=@Go.World.block_lt_of_cell?
def tq:=@Go.RowKit.Below.refl
def tr:=@Go.RowKit.Below.heap_alloc
def tu:=@Go.World.size_alloc
def tv:=@Go.RowKit.Below.heap_setCell
def tx:=@Go.bodyPost_ret
def tI:=@Go.results_tmp
def tJ:=@Go.results_none
def tL:=@Go.World.putObj_heap_other
def tN:=@Go.info_parts
def tQ:=@Go.Boxed.new
def tR:=@Go.World.ownsRow_nil
def tU:=@Go.run_takeDeferred
def tX:=@Go.callsIn_of_wp_marks
def Tc:=@Go.wpList_append_own_at
def Tj:=@Go.World.putObj_heap_same
def Ts:=@Go.wpIn_wide
def TC:=@Go.World.frozen?_of_block
def TZ:=@Go.run_endLoop
open Go.Proofs.Tryz
open Go.Proofs.Tryz renaming prog->xt
section
open Go.RowKit
def zmw:Option Value:=some (.iface 194 (.agg #[.pointer (some ⟨2,44,none⟩)]))
def GL(D:xT)(w:World):Prop:=∀x,zmw=some x->D 1 0/\w.cell? ⟨1,0,none⟩=some x
def GL.mono{D D':xT}{w w':World}(h:GL D w)(u:∀b o,D b o->D' b o)(y:∀b o x,D b o->w.cell? ⟨b,o,none⟩=some x->w'.cell? ⟨b,o,none⟩=some x):GL D' w':=λx j=>⟨u _ _ (h x j).1,y _ _ _ (h x j).1 (h x j).2⟩
end
section
open Go.RowKit
structure Keep(S:Nat->Prop)(A B:World):Prop where
 os:B.os=A.os
 tape:B.tape=A.tape
 output:B.output=A.output
 size:A.heap.size<=B.heap.size
 block:∀k,k<A.heap.size->¬S k->B.heap[k]?=A.heap[k]?
namespace Keep
variable {S S':Nat->Prop}{A B C:World}
def refl(S:Nat->Prop)(A:World):Keep S A A:=⟨rfl,rfl,rfl,Zp _,λ_ _ _=>rfl⟩
def trans(h:Keep S A B)(k:Keep S B C):Keep S A C:=
 ⟨k.os.trans h.os,k.tape.trans h.tape,k.output.trans h.output,VS h.size k.size,λi hi hs=>(k.block i (vw hi h.size) hs).trans (h.block i hi hs)⟩
def mono(h:Keep S A B)(hs:∀k,k<A.heap.size->S k->S' k):Keep S' A B:=⟨h.os,h.tape,h.output,h.size,λi hi j=>h.block i hi λe=>j (hs i hi e)⟩
def drew(h:Keep S A B):Keep S A B.drew:=⟨h.os,h.tape,h.output,h.size,h.block⟩
def alloc(h:Keep S A B)(o:Obj):Keep S A (B.alloc o):=
 h.trans ⟨rfl,rfl,rfl,b7,λk hk _=>tr _ _ _ hk⟩
def setCell(h:Keep S A B){p:Addr}(j:p.block<A.heap.size->S p.block)(u:Value):Keep S A (B.setCell p u):=
 ⟨h.os,h.tape,h.output,by show A.heap.size<=(B.heap.modify _ _).size;rw[Array.size_modify];exact h.size,λk hk hs=>(tv _ _ _ _ (λe=>hs (by rw[e];exact j (by rw[<-e];exact hk)))).trans (h.block k hk hs)⟩
def putObj(h:Keep S A B){l:Nat}(j:l<A.heap.size->S l)(o:Obj):Keep S A (B.putObj l o):=
 ⟨h.os,h.tape,h.output,dL h.size,λk hk hs=>(tL (λe=>hs (by rw[e];exact j (by rw[<-e];exact hk)))).trans (h.block k hk hs)⟩
def grown{o:Option Nat}(h:Keep S A B)(j:B.grownBy C o)(u:∀k,o=some k->k<A.heap.size->S k):Keep S A C:=
 ⟨j.os.trans h.os,j.tape.trans h.tape,j.output.trans h.output,VS h.size j.size,λk hk hs=>(j.block k (vw hk h.size) (λe=>hs (u k e.symm hk))).trans (h.block k hk hs)⟩
def below{n:Nat}(h:Keep S A B)(j:n<=A.heap.size)(hs:∀k,k<n->¬S k):Below n A B:=
 ⟨h.os,h.tape,h.output,h.size,λk hk=>h.block k a9 (hs k hk)⟩
def of_below'{n:Nat}(h:Below n A B)(j:A.heap.size<=n):Keep S A B:=⟨h.os,h.tape,h.output,h.size,λk hk _=>h.block k a9⟩
def cell(h:Keep S A B){p:Addr}(j:p.block<A.heap.size)(hs:¬S p.block):B.cell? p=A.cell? p:=tk (h.block _ j hs)
def frozen(h:Keep S A B){p:Addr}(j:p.block<A.heap.size)(hs:¬S p.block):B.frozen? p=A.frozen? p:=TC (h.block _ j hs)
def cell_some(h:Keep S A B){p:Addr}{v:Value}(j:A.cell? p=some v)(hs:¬S p.block):B.cell? p=some v:=(h.cell (tn A p j) hs).trans j
def boxed(h:Keep S A B){b:Nat}{t:TypeId}{v:Value}(j:Boxed A b t v)(hs:¬S b):Boxed B b t v:=(h.block b j.lt hs).trans j
def obj(h:Keep S A B){b:Nat}{o:Obj}(j:A.heap[b]?=some o)(hs:¬S b):B.heap[b]?=some o:=(h.block b (XE.1 j).1 hs).trans j
def ownsRow(h:Keep S A B){base:Nat}{e:TypeId}{size:Nat}{v:Value}{n:Nat}{y:List Value}(w:A.ownsRow base e size v n y)(hs:∀g,v.ownBlock=some g->¬S g):B.ownsRow base e size v n y:=by
 refine⟨w.1,?_⟩;rcases w.2 with C|⟨g,j,o,rfl,hb,u,rest⟩
 .exact .inl C
 .exact .inr ⟨g,j,o,rfl,hb,h.obj u (hs g rfl),rest⟩
end Keep
def zbY{α:Type}(P:Program)(E:Nat)(F:Array Value)(o:α->Array Value)(T C:Nat->Prop)(y:List α)(W:World):Prop:=
 ∀(l:Nat)(J u:List α->World->Prop),
  (∀pre A B,J pre A->Keep T A B->J pre B)->(∀pre A B,u pre A->Keep T A B->u pre B) ->
  (∀pre x w,J pre w->pre++[x] <+: y->YieldAt Fence.wide 7 P l (o x) w λe j=>
    (e=.returned (.bool true)/\J (pre++[x]) j/\Keep (λk=>¬C k) w j)\/(e=.returned (.bool false)/\u (pre++[x]) j)) ->
  J [] W ->
  CallsIn Fence.wide 8 P E (#[.func (.yield l) #[] #[]]++F) W λe j=>(∃v,e=.returned v)/\(J y j\/∃pre,pre <+: y/\u pre j)
def ziO{α:Type}(Sb:Nat->Prop)(I:List α->World->Prop)(o:Code->List α->World->Prop)(j:List α)(W:World):Exit->Act->World->Prop
 |.normal,_,W'=>Keep Sb W W'/\I j W'
 |.ret,_,W'=>Keep Sb W W'/\o .ret j W'
 |.exit id,_,W'=>Keep Sb W W'/\o (.exit id) j W'
 |.goto t,_,W'=>Keep Sb W W'/\o (.goto t) j W'
 |.panic _,_,_=>False
 |.outgrown,_,_=>False
def ziP{α:Type}{P:Program}{g:Operand}{ps:Array Tmp}{assign body:Code}{Q:Exit->Act->World->Prop}{a:Act}{w:World}
 (gf:Nat) (lb:Array Value) (hg:a.eval g=.func (.func gf) #[] lb) (eg:∀ad w,(callFunc gf ad).run P w=.ok (.enter gf ad) w)
 (J:α->Array Value) (aF:∀x,(J x).size=ps.size) (T Pr:Nat->Prop) (xs:List α)
 (aC:∀W,Keep (λ_=>False) w W->W.heap.size=w.heap.size+2->zbY P gf lb J T Pr xs W)
 (Sb:Nat->Prop) (L:∀k,Sb k->¬Pr k/\k≠w.heap.size/\k≠w.heap.size+1)
 (ae:¬Pr (w.heap.size+1)) (ab:¬T w.heap.size/\¬T (w.heap.size+1))
 (I:List α->World->Prop) (Ix:Code->List α->World->Prop)
 (hI:∀pre A B,I pre A->Keep (λk=>T k\/k=w.heap.size\/k=w.heap.size+1) A B->I pre B)
 (O:∀c pre A B,Ix c pre A->Keep (λk=>T k\/k=w.heap.size\/k=w.heap.size+1) A B->Ix c pre B)
 (h0:I [] w)
 (Ax:List α->α->Act->World->Prop)
 (ar:∀pre x a' A B,Ax pre x a' A->Keep (λk=>k=w.heap.size+1) A B->Ax pre x a' B)
 (U:∀l pre x W,pre++[x] <+: xs->w.heap.size+1<W.heap.size->I pre W ->
   assign.wpIn (Fence.wide.inRound l) 7 P (Exit.then (λa' W'=>Keep Sb W W'/\Ax pre x a' W') (λ_ _ _=>False)) { tmps:=(ps.zip (J x)).foldl (λt (p,v)=>t.setIfInBounds p v) a.tmps,defers:=[] } W)
 (ag:∀l pre x a' W,pre++[x] <+: xs->w.heap.size+1<W.heap.size->Ax pre x a' W->body.wpIn (Fence.wide.inRound l) 7 P (ziO Sb I Ix (pre++[x]) W) a' W)
 (ah:∀W,I xs W->W.heap[w.heap.size]?=some (.deferred (some []))->Q .normal { a with defers:={ target:=.collected w.heap.size,args:=#[] }::a.defers } W)
 (ak:∀c pre W,pre <+: xs->Ix c pre W->W.heap[w.heap.size]?=some (.deferred (some []))->c.wpIn Fence.wide 9 P Q { a with defers:={ target:=.collected w.heap.size,args:=#[] }::a.defers } W) :
 (Code.rangeFunc g ps assign body).wpIn Fence.wide 9 P Q a w:=by
 refine wpIn_rangeFunc ?_;intro fn aB;rw[show Fence.wide.round=none from rfl];obtain⟨u,j⟩:∃u:LoopState->Option Code->Loop,u=λst pe=>{ state:=st,pending:=pe,fn,tmps:=a.tmps,params:=ps,assign,body,defers:=w.heap.size }:=⟨_,rfl⟩;obtain⟨M,S⟩:=xn ((w.alloc (.deferred (some []))).alloc (.loop (u .ready none)));have aw:M.heap[w.heap.size+1]?=some (.loop (u .ready none)):=by
  rw[<-S];have:=tl (w.alloc (.deferred (some []))) (.loop (u .ready none));rwa[tu]at this
 have av:M.heap[w.heap.size]?=some (.deferred (some [])):=by rw[<-S];exact(tr _ _ _ b7).trans (tl w _)
 have am:Keep (λ_=>False) w M:=by rw[<-S];exact((Keep.refl _ _).alloc _).alloc _
 have aG:M.heap.size=w.heap.size+2:=by rw[<-S];simp
 have au:I [] M:=hI _ _ _ h0 (am.mono λ_ _ h=>h.elim);refine⟨w.heap.size+1,[{ target:=.collected w.heap.size,args:=#[] }],M,{ target:=.fn (.func gf) lb,args:=#[.func (.yield (w.heap.size+1)) #[] #[]] },M,gf,
  #[.func (.yield (w.heap.size+1)) #[] #[]]++lb,M,?_,?_,?_,?_,λ_=>a9,?_⟩
 .rw[<-S,j];exact run_enterLoop_outer _ _ _ _ _
 .simp only[resolve,hg];simp[go_sem]
 .intro f' _;trivial
 .simp[invoke,go_sem,eg]
 .refine(aC M am aG (w.heap.size+1)
   (λpre W=>I pre W/\W.heap[w.heap.size+1]?=some (.loop (u .ready none))/\W.heap[w.heap.size]?=some (.deferred (some [])))
   (λpre W=>∃c,Ix c pre W/\W.heap[w.heap.size+1]?=some (.loop (u .done (some c)))/\W.heap[w.heap.size]?=some (.deferred (some [])))
   ?_ ?_ ?_ ⟨au,aw,av⟩).mono ?_
  .rintro pre A B ⟨hi,X,hk⟩ h;exact⟨hI _ _ _ hi (h.mono λ_ _ e=>.inl e),h.obj X ab.2,h.obj hk ab.1⟩
  .rintro pre A B ⟨c,hi,X,hk⟩ h;exact⟨c,O _ _ _ _ hi (h.mono λ_ _ e=>.inl e),h.obj X ab.2,h.obj hk ab.1⟩
  .rintro pre x W ⟨hi,X,hk⟩ aq;have aE:w.heap.size+1<W.heap.size:=(XE.1 X).1;have hy:=run_yield (P:=P) (args:=J x) X (by rw[j];exact aF x);rw[j]at hy;refine⟨fn,_,assign,body,hy,roundIn_of_wpIn aB (wpIn_mono (U _ pre x W aq aE hi) ?_)⟩;intro e a1 Wa he;cases e with
   | normal=>
     obtain⟨ai,ax⟩:=he;have an:Wa.heap[w.heap.size+1]?=some (.loop (u .ready none)):=ai.obj X λh=>(L _ h).2.2 rfl;have aA:Wa.heap[w.heap.size]?=some (.deferred (some [])):=ai.obj hk λh=>(L _ h).2.1 rfl;have af:w.heap.size+1<Wa.heap.size:=(XE.1 an).1;refine⟨_,run_beginRound an (by rw[j]),?_⟩;obtain⟨Y,ac⟩:=xn (Wa.putObj (w.heap.size+1) (.loop { u .ready none with state:=.busy }));rw[ac];have V:Keep (λk=>k=w.heap.size+1) Wa Y:=(by rw[<-ac];exact(Keep.refl (λk=>k=w.heap.size+1) Wa).putObj (λ_=>rfl) _);have aD:Y.heap[w.heap.size+1]?=some (.loop { u .ready none with state:=.busy }):=(by rw[<-ac];exact Tj af);have ay:Y.heap[w.heap.size]?=some (.deferred (some [])):=V.obj aA a9;refine wpIn_mono (ag _ pre x a1 Y aq (by rw[<-ac];simpa using af) (ar _ _ _ _ _ ax V)) ?_;have fin:∀(y:Option Code)(N:World),Keep Sb Y N->∃Z,
      (Instr.endRound (w.heap.size+1) y).run P N=.ok (.bool y.isNone) Z /\
      Z.heap[w.heap.size+1]?=some (.loop (u (if y.isNone then .ready else .done) y)) /\
      Z.heap[w.heap.size]?=some (.deferred (some []))/\Keep (λk=>k=w.heap.size+1) N Z/\Keep (λk=>¬Pr k) W Z:=λy N o=>by
      have aj:=o.obj aD λh=>(L _ h).2.2 rfl;have az:=o.obj ay λh=>(L _ h).2.1 rfl;have C:=run_endRound (P:=P) y aj;rw[j]at C aj⊢;refine⟨_,C,Tj (XE.1 aj).1,(tL a9).trans az,(Keep.refl (λk=>k=w.heap.size+1) N).putObj (λ_=>rfl) _,?_⟩;have e1:Keep (λk=>¬Pr k) W Wa:=ai.mono λk _ h=>(L k h).1;have e2:Keep (λk=>¬Pr k) Wa Y:=V.mono λk _ h=>(by cases h;exact ae);have e3:Keep (λk=>¬Pr k) Y N:=o.mono λk _ h=>(L k h).1;exact(((e1.trans e2).trans e3)).putObj (λ_=>ae) _
     rintro e a3 N hp;cases e with
     |normal=>obtain⟨o,F⟩:=hp;obtain⟨Z,C,H,E,G,K⟩:=fin none N o;exact⟨_,_,C,.inl ⟨rfl,⟨hI _ _ _ F (G.mono λ_ _ e=>.inr (.inr e)),H,E⟩,K⟩⟩
     |ret=>obtain⟨o,F⟩:=hp;obtain⟨Z,C,H,E,G,K⟩:=fin (some .ret) N o;exact⟨_,_,C,.inr ⟨rfl,.ret,O _ _ _ _ F (G.mono λ_ _ e=>.inr (.inr e)),H,E⟩⟩
     |exit id=>obtain⟨o,F⟩:=hp;obtain⟨Z,C,H,E,G,K⟩:=fin (some (.exit id)) N o;exact⟨_,_,C,.inr ⟨rfl,.exit id,O _ _ _ _ F (G.mono λ_ _ e=>.inr (.inr e)),H,E⟩⟩
     |goto t=>obtain⟨o,F⟩:=hp;obtain⟨Z,C,H,E,G,K⟩:=fin (some (.goto t)) N o;exact⟨_,_,C,.inr ⟨rfl,.goto t,O _ _ _ _ F (G.mono λ_ _ e=>.inr (.inr e)),H,E⟩⟩
     |panic ch=>exact hp.elim
     |outgrown=>exact hp.elim
   |ret=>exact he.elim
   |exit id=>exact he.elim
   |goto t=>exact he.elim
   |panic ch=>exact he.elim
   |outgrown=>exact he.elim
  .rintro e Y ⟨⟨v,rfl⟩,(⟨hi,X,hk⟩|⟨pre,ao,c,hi,X,hk⟩)⟩
   .have C:=TZ (P:=P) X (by rw[j];simp);refine⟨none,_,by rw[j]at C;exact C,ah _ (hI _ _ _ hi ((Keep.refl _ _).putObj (λ_=>.inr (.inr rfl)) _)) ((tL a9).trans hk)⟩
   .have C:=TZ (P:=P) X (by rw[j];simp);refine⟨some c,_,by rw[j]at C;exact C,ak c pre _ ao (O _ _ _ _ hi ((Keep.refl _ _).putObj (λ_=>.inr (.inr rfl)) _)) ((tL a9).trans hk)⟩
end
section
open Go.RowKit
def v7{α:Type}(P:Program)(E:Nat)(F:Array Value)(o:α->Array Value)(T:Nat->Prop)(C:World->World->Prop)(y:List α)(W:World):Prop:=
 ∀(l:Nat)(J u:List α->World->Prop),
  (∀pre A B,J pre A->Keep T A B->J pre B)->(∀pre A B,u pre A->Keep T A B->u pre B) ->
  (∀pre x w,J pre w->pre++[x] <+: y->YieldAt Fence.wide 7 P l (o x) w λe j=>
    (e=.returned (.bool true)/\J (pre++[x]) j/\C w j)\/(e=.returned (.bool false)/\u (pre++[x]) j)) ->
  J [] W ->
  CallsIn Fence.wide 8 P E (#[.func (.yield l) #[] #[]]++F) W λe j=>(∃v,e=.returned v)/\(J y j\/∃pre,pre <+: y/\u pre j)
def zsL{α:Type}(P:Program)(G:Nat)(H:Array Value)(o:α->Array Value)(T:Nat->Prop)(F:World->World->Prop)(E:List α->α->Prop)(y w:List α->Prop)(W:World):Prop:=
 ∀(l:Nat)(J u:List α->World->Prop),
  (∀pre A B,J pre A->Keep T A B->J pre B)->(∀pre A B,u pre A->Keep T A B->u pre B) ->
  (∀pre x C,J pre C->E pre x->YieldAt Fence.wide 7 P l (o x) C λe j=>
    (e=.returned (.bool true)/\J (pre++[x]) j/\F C j)\/(e=.returned (.bool false)/\u (pre++[x]) j)) ->
  J [] W ->
  CallsIn Fence.wide 8 P G (#[.func (.yield l) #[] #[]]++H) W λe j=>(∃v,e=.returned v)/\((∃pre,y pre/\J pre j)\/∃pre,w pre/\u pre j)
def zgi{α:Type}(S:World->World->Prop)(I:List α->World->Prop)(o:Code->List α->World->Prop)(j:List α)(W:World):Exit->Act->World->Prop
 |.normal,_,W'=>S W W'/\I j W'
 |.ret,_,W'=>S W W'/\o .ret j W'
 |.exit id,_,W'=>S W W'/\o (.exit id) j W'
 |.goto t,_,W'=>S W W'/\o (.goto t) j W'
 |.panic _,_,_=>False
 |.outgrown,_,_=>False
def zsS{α:Type}{P:Program}{g:Operand}{ps:Array Tmp}{assign body:Code}{Q:Exit->Act->World->Prop}{a:Act}{w:World}
 (gf:Nat) (lb:Array Value) (hg:a.eval g=.func (.func gf) #[] lb) (eg:∀af w,(callFunc gf af).run P w=.ok (.enter gf af) w)
 (L:α->Array Value) (aN:∀x,(L x).size=ps.size) (T:Nat->Prop) (Pt:World->World->Prop) (Ok:List α->α->Prop) (ar aq:List α->Prop)
 (aM:∀W,Keep (λ_=>False) w W->W.heap.size=w.heap.size+2->zsL P gf lb L T Pt Ok ar aq W)
 (S:World->World->Prop) (ab:∀A B,S A B->∀k,k=w.heap.size\/k=w.heap.size+1->k<A.heap.size->B.heap[k]?=A.heap[k]?) (au:∀A B,S A B->Pt A B)
 (ai:∀A B C,Pt A B->Pt B C->Pt A C) (ag:∀A B,Keep (λk=>k=w.heap.size+1) A B->(∃o,A.heap[w.heap.size+1]?=some (.loop o))->Pt A B) (ac:¬T w.heap.size/\¬T (w.heap.size+1))
 (I:List α->World->Prop) (Ix:Code->List α->World->Prop)
 (hI:∀pre A B,I pre A->Keep (λk=>T k\/k=w.heap.size\/k=w.heap.size+1) A B->I pre B)
 (U:∀c pre A B,Ix c pre A->Keep (λk=>T k\/k=w.heap.size\/k=w.heap.size+1) A B->Ix c pre B)
 (h0:I [] w)
 (Ax:List α->α->Act->World->Prop)
 (aD:∀pre x a' A B,Ax pre x a' A->Keep (λk=>k=w.heap.size+1) A B->Ax pre x a' B)
 (X:∀l pre x W,Ok pre x->w.heap.size+1<W.heap.size->I pre W ->
   assign.wpIn (Fence.wide.inRound l) 7 P (Exit.then (λa' W'=>S W W'/\Ax pre x a' W') (λ_ _ _=>False)) { tmps:=(ps.zip (L x)).foldl (λt (p,v)=>t.setIfInBounds p v) a.tmps,defers:=[] } W)
 (aj:∀l pre x a' W,Ok pre x->w.heap.size+1<W.heap.size->Ax pre x a' W->body.wpIn (Fence.wide.inRound l) 7 P (zgi S I Ix (pre++[x]) W) a' W)
 (ak:∀pre W,ar pre->I pre W->W.heap[w.heap.size]?=some (.deferred (some []))->Q .normal { a with defers:={ target:=.collected w.heap.size,args:=#[] }::a.defers } W)
 (ao:∀c pre W,aq pre->Ix c pre W->W.heap[w.heap.size]?=some (.deferred (some []))->c.wpIn Fence.wide 9 P Q { a with defers:={ target:=.collected w.heap.size,args:=#[] }::a.defers } W) :
 (Code.rangeFunc g ps assign body).wpIn Fence.wide 9 P Q a w:=by
 refine wpIn_rangeFunc ?_;intro fn aL;rw[show Fence.wide.round=none from rfl];obtain⟨y,j⟩:∃y:LoopState->Option Code->Loop,y=λst pe=>{ state:=st,pending:=pe,fn,tmps:=a.tmps,params:=ps,assign,body,defers:=w.heap.size }:=⟨_,rfl⟩;obtain⟨N,V⟩:=xn ((w.alloc (.deferred (some []))).alloc (.loop (y .ready none)));have aG:N.heap[w.heap.size+1]?=some (.loop (y .ready none)):=by
  rw[<-V];have:=tl (w.alloc (.deferred (some []))) (.loop (y .ready none));rwa[tu]at this
 have aF:N.heap[w.heap.size]?=some (.deferred (some [])):=by rw[<-V];exact(tr _ _ _ b7).trans (tl w _)
 have aw:Keep (λ_=>False) w N:=by rw[<-V];exact((Keep.refl _ _).alloc _).alloc _
 have aO:N.heap.size=w.heap.size+2:=by rw[<-V];simp
 have aE:I [] N:=hI _ _ _ h0 (aw.mono λ_ _ h=>h.elim);refine⟨w.heap.size+1,[{ target:=.collected w.heap.size,args:=#[] }],N,{ target:=.fn (.func gf) lb,args:=#[.func (.yield (w.heap.size+1)) #[] #[]] },N,gf,
  #[.func (.yield (w.heap.size+1)) #[] #[]]++lb,N,?_,?_,?_,?_,λ_=>a9,?_⟩
 .rw[<-V,j];exact run_enterLoop_outer _ _ _ _ _
 .simp only[resolve,hg];simp[go_sem]
 .intro f' _;trivial
 .simp[invoke,go_sem,eg]
 .refine(aM N aw aO (w.heap.size+1)
   (λpre W=>I pre W/\W.heap[w.heap.size+1]?=some (.loop (y .ready none))/\W.heap[w.heap.size]?=some (.deferred (some [])))
   (λpre W=>∃c,Ix c pre W/\W.heap[w.heap.size+1]?=some (.loop (y .done (some c)))/\W.heap[w.heap.size]?=some (.deferred (some [])))
   ?_ ?_ ?_ ⟨aE,aG,aF⟩).mono ?_
  .rintro pre A B ⟨hi,Z,hk⟩ h;exact⟨hI _ _ _ hi (h.mono λ_ _ e=>.inl e),h.obj Z ac.2,h.obj hk ac.1⟩
  .rintro pre A B ⟨c,hi,Z,hk⟩ h;exact⟨c,U _ _ _ _ hi (h.mono λ_ _ e=>.inl e),h.obj Z ac.2,h.obj hk ac.1⟩
  .rintro pre x W ⟨hi,Z,hk⟩ aC;have az:w.heap.size+1<W.heap.size:=(XE.1 Z).1;have hy:=run_yield (P:=P) (args:=L x) Z (by rw[j];exact aN x);rw[j]at hy;refine⟨fn,_,assign,body,hy,roundIn_of_wpIn aL (wpIn_mono (X _ pre x W aC az hi) ?_)⟩;intro e a1 Wa he;cases e with
   | normal=>
     obtain⟨am,aH⟩:=he;have an:Wa.heap[w.heap.size+1]?=some (.loop (y .ready none)):=(ab _ _ am _ (.inr rfl) az).trans Z;have aK:Wa.heap[w.heap.size]?=some (.deferred (some [])):=(ab _ _ am _ (.inl rfl) a9).trans hk;have ah:w.heap.size+1<Wa.heap.size:=(XE.1 an).1;refine⟨_,run_beginRound an (by rw[j]),?_⟩;obtain⟨W2,ad⟩:=xn (Wa.putObj (w.heap.size+1) (.loop { y .ready none with state:=.busy }));rw[ad];have Y:Keep (λk=>k=w.heap.size+1) Wa W2:=(by rw[<-ad];exact(Keep.refl (λk=>k=w.heap.size+1) Wa).putObj (λ_=>rfl) _);have ax:W2.heap[w.heap.size+1]?=some (.loop { y .ready none with state:=.busy }):=(by rw[<-ad];exact Tj ah);have aI:W2.heap[w.heap.size]?=some (.deferred (some [])):=Y.obj aK a9;refine wpIn_mono (aj _ pre x a1 W2 aC (by rw[<-ad];simpa using ah) (aD _ _ _ _ _ aH Y)) ?_;have fin:∀(E:Option Code)(O:World),S W2 O->∃W4,
      (Instr.endRound (w.heap.size+1) E).run P O=.ok (.bool E.isNone) W4 /\
      W4.heap[w.heap.size+1]?=some (.loop (y (if E.isNone then .ready else .done) E)) /\
      W4.heap[w.heap.size]?=some (.deferred (some []))/\Keep (λk=>k=w.heap.size+1) O W4/\Pt W W4:=λE O u=>by
      have aA:w.heap.size+1<W2.heap.size:=(XE.1 ax).1;have ae:=(ab _ _ u _ (.inr rfl) aA).trans ax;have aJ:=(ab _ _ u _ (.inl rfl) a9).trans aI;have F:=run_endRound (P:=P) E ae;rw[j]at F⊢;have ay:=ae;rw[j]at ay;refine⟨_,F,Tj (XE.1 ae).1,(tL a9).trans aJ,(Keep.refl (λk=>k=w.heap.size+1) O).putObj (λ_=>rfl) _,?_⟩;exact ai _ _ _ (au _ _ am) (ai _ _ _ (ag _ _ Y ⟨_,an⟩) (ai _ _ _ (au _ _ u) (ag _ _ ((Keep.refl (λk=>k=w.heap.size+1) O).putObj (λ_=>rfl) _) ⟨_,ae⟩)))
     rintro e a3 O hp;cases e with
     |normal=>obtain⟨u,H⟩:=hp;obtain⟨W4,F,K,G,J,M⟩:=fin none O u;exact⟨_,_,F,.inl ⟨rfl,⟨hI _ _ _ H (J.mono λ_ _ e=>.inr (.inr e)),K,G⟩,M⟩⟩
     |ret=>obtain⟨u,H⟩:=hp;obtain⟨W4,F,K,G,J,M⟩:=fin (some .ret) O u;exact⟨_,_,F,.inr ⟨rfl,.ret,U _ _ _ _ H (J.mono λ_ _ e=>.inr (.inr e)),K,G⟩⟩
     |exit id=>obtain⟨u,H⟩:=hp;obtain⟨W4,F,K,G,J,M⟩:=fin (some (.exit id)) O u;exact⟨_,_,F,.inr ⟨rfl,.exit id,U _ _ _ _ H (J.mono λ_ _ e=>.inr (.inr e)),K,G⟩⟩
     |goto t=>obtain⟨u,H⟩:=hp;obtain⟨W4,F,K,G,J,M⟩:=fin (some (.goto t)) O u;exact⟨_,_,F,.inr ⟨rfl,.goto t,U _ _ _ _ H (J.mono λ_ _ e=>.inr (.inr e)),K,G⟩⟩
     |panic ch=>exact hp.elim
     |outgrown=>exact hp.elim
   |ret=>exact he.elim
   |exit id=>exact he.elim
   |goto t=>exact he.elim
   |panic ch=>exact he.elim
   |outgrown=>exact he.elim
  .rintro e W2 ⟨⟨v,rfl⟩,(⟨pre,av,hi,Z,hk⟩|⟨pre,aB,c,hi,Z,hk⟩)⟩
   .have F:=TZ (P:=P) Z (by rw[j];simp);refine⟨none,_,by rw[j]at F;exact F,ak _ _ av (hI _ _ _ hi ((Keep.refl _ _).putObj (λ_=>.inr (.inr rfl)) _)) ((tL a9).trans hk)⟩
   .have F:=TZ (P:=P) Z (by rw[j];simp);refine⟨some c,_,by rw[j]at F;exact F,ao c pre _ aB (U _ _ _ _ hi ((Keep.refl _ _).putObj (λ_=>.inr (.inr rfl)) _)) ((tL a9).trans hk)⟩
def Xt{α:Type}{P:Program}{g:Operand}{ps:Array Tmp}{j G:Code}{Q:Exit->Act->World->Prop}{a:Act}{w:World}
 (V:Nat) (lb:Array Value) (hg:a.eval g=.func (.func V) #[] lb) (eg:∀F w,(callFunc V F).run P w=.ok (.enter V F) w)
 (u:α->Array Value) (ag:∀x,(u x).size=ps.size) (T:Nat->Prop) (H:World->World->Prop) (E:List α)
 (af:∀W,Keep (λ_=>False) w W->W.heap.size=w.heap.size+2->v7 P V lb u T H E W)
 (S:World->World->Prop) (ac:∀A B,S A B->∀k,k=w.heap.size\/k=w.heap.size+1->k<A.heap.size->B.heap[k]?=A.heap[k]?) (ad:∀A B,S A B->H A B)
 (ab:∀A B C,H A B->H B C->H A C) (X:∀A B,Keep (λk=>k=w.heap.size+1) A B->(∃o,A.heap[w.heap.size+1]?=some (.loop o))->H A B) (ae:¬T w.heap.size/\¬T (w.heap.size+1))
 (I:List α->World->Prop) (U:Code->List α->World->Prop)
 (hI:∀pre A B,I pre A->Keep (λk=>T k\/k=w.heap.size\/k=w.heap.size+1) A B->I pre B)
 (Z:∀c pre A B,U c pre A->Keep (λk=>T k\/k=w.heap.size\/k=w.heap.size+1) A B->U c pre B)
 (h0:I [] w)
 (O:List α->α->Act->World->Prop)
 (Y:∀pre x K A B,O pre x K A->Keep (λk=>k=w.heap.size+1) A B->O pre x K B)
 (y:∀l pre x W,pre++[x] <+: E->w.heap.size+1<W.heap.size->I pre W ->
   j.wpIn (Fence.wide.inRound l) 7 P (Exit.then (λK W'=>S W W'/\O pre x K W') (λ_ _ _=>False)) { tmps:=(ps.zip (u x)).foldl (λt (p,v)=>t.setIfInBounds p v) a.tmps,defers:=[] } W)
 (L:∀l pre x K W,pre++[x] <+: E->w.heap.size+1<W.heap.size->O pre x K W->G.wpIn (Fence.wide.inRound l) 7 P (zgi S I U (pre++[x]) W) K W)
 (M:∀W,I E W->W.heap[w.heap.size]?=some (.deferred (some []))->Q .normal { a with defers:={ target:=.collected w.heap.size,args:=#[] }::a.defers } W)
 (N:∀c pre W,pre <+: E->U c pre W->W.heap[w.heap.size]?=some (.deferred (some []))->c.wpIn Fence.wide 9 P Q { a with defers:={ target:=.collected w.heap.size,args:=#[] }::a.defers } W) :
 (Code.rangeFunc g ps j G).wpIn Fence.wide 9 P Q a w:=
 zsS V lb hg eg u ag T H (λpre x=>pre++[x] <+: E) (·=E) (· <+: E) (λW h1 h2 l J Jx q1 q2 q3 q4=>(af W h1 h2 l J Jx q1 q2 q3 q4).mono λ_ _ h=>⟨h.1,h.2.imp (λh=>⟨E,rfl,h⟩) id⟩) S ac ad ab X ae I U hI Z h0 O Y y L (λpre W e=>by subst e;exact M W) N
end
section
def zk:Nat:=18446744073709551616
def zw:zk=18446744073709551616:=rfl
def xM:0<zk:=by rw[zw];omega
structure Iv where
 lo:Nat
 hi:Nat
deriving DecidableEq
def Iv.ext'{s t:Iv}(j:s.lo=t.lo)(o:s.hi=t.hi):s=t:=by cases s;cases t;simp_all
def mem(l:List Iv)(x:Nat):Bool:=l.any λs=>decide (s.lo<=x) && decide (x<=s.hi)
@[simp] theorem Xf (x:Nat):mem [] x=false:=rfl
def mem_cons(s:Iv)(l:List Iv)(x:Nat):mem (s::l) x=((decide (s.lo<=x) && decide (x<=s.hi)) || mem l x):=rfl
def yd(l k:List Iv)(x:Nat):mem (l++k) x=(mem l x || mem k x):=by simp[mem,uR]
def qf{l:List Iv}{x:Nat}:mem l x=true↔∃s∈l,s.lo<=x/\x<=s.hi:=by simp[mem]
def NF:Nat->List Iv->Prop
 |_,[]=>True
 |n,s::l=>n<=s.lo/\s.lo<=s.hi/\s.hi<zk/\NF (s.hi+2) l
def Nrm(l:List Iv):Prop:=NF 0 l
def NF.mono{l:List Iv}{n m:Nat}(h:NF n l)(j:m<=n):NF m l:=by
 cases l with
 |nil=>trivial
 |cons s l=>exact⟨VS j h.1,h.2.1,h.2.2.1,h.2.2.2⟩
def NF.tail{s:Iv}{l:List Iv}{n:Nat}(h:NF n (s::l)):NF n l:=h.2.2.2.mono (by have:=h.1;have:=h.2.1;omega)
def NF.lo_ge{l:List Iv}:∀{n:Nat},NF n l->∀s∈l,n<=s.lo/\s.lo<=s.hi/\s.hi<zk:=by
 induction l with
 |nil=>intro n _ s hs;cases hs
 | cons t l ih=>
   intro n h s hs;cases hs with
   |head=>exact⟨h.1,h.2.1,h.2.2.1⟩
   |tail _ hs=>have:=ih h.2.2.2 s hs;have:=h.1;have:=h.2.1;exact⟨a9,a9,a9⟩
def NF.mem_ge{l:List Iv}{n:Nat}(h:NF n l){x:Nat}(j:mem l x=true):n<=x/\x<zk:=by obtain⟨s,hs,o,u⟩:=qf.1 j;have:=h.lo_ge s hs;omega
def NF.mem_lt{l:List Iv}{n:Nat}(h:NF n l){x:Nat}(j:x<n):mem l x=false:=by
 cases e:mem l x with
 |false=>rfl
 |true=>have:=(h.mem_ge e).1;omega
def NF.unique:∀{a b:List Iv}{n:Nat},NF n a->NF n b->(∀x,mem a x=mem b x)->a=b
 |[],[],_,_,_,_=>rfl
 |[],s::l,_,_,hb,h=>by have:=h s.lo;have j:=hb.2.1;simp[mem_cons,j]at this
 |s::l,[],_,ha,_,h=>by have:=h s.lo;have j:=ha.2.1;simp[mem_cons,j]at this
 | s::l,t::k,n,ha,hb,h=>by
   have H:=ha.2.1;have I:=hb.2.1;have B:s.lo=t.lo:=by
    have j:=h s.lo;have G:=h t.lo;rw[mem_cons,mem_cons]at j G;have e1:mem l t.lo=true->s.hi+2<=t.lo:=λe=>(ha.2.2.2.mem_ge e).1;have e2:mem k s.lo=true->t.hi+2<=s.lo:=λe=>(hb.2.2.2.mem_ge e).1;cases c1:mem l t.lo<;>cases c2:mem k s.lo<;>simp_all<;>omega
   have A:s.hi=t.hi:=by
    rcases WK s.hi t.hi with K|y|J
    .exfalso;have j:=h (s.hi+1);have F:s.lo<=s.hi+1:=a9;have o:¬s.hi+1<=s.hi:=a9;have u:t.lo<=s.hi+1:=a9;have w:s.hi+1<=t.hi:=a9;rw[mem_cons,mem_cons,ha.2.2.2.mem_lt (show s.hi+1<s.hi+2 by omega)]at j;simp[o,u,w]at j
    .exact y
    .exfalso;have j:=h (t.hi+1);have F:t.lo<=t.hi+1:=a9;have o:¬t.hi+1<=t.hi:=a9;have u:s.lo<=t.hi+1:=a9;have w:t.hi+1<=s.hi:=a9;rw[mem_cons,mem_cons,hb.2.2.2.mem_lt (show t.hi+1<t.hi+2 by omega)]at j;simp[o,u,w]at j
   have C:s=t:=Iv.ext' B A;subst C;have:l=k:=NF.unique (n:=s.hi+2) ha.2.2.2 hb.2.2.2 λx=>by
    by_cases E:x<s.hi+2
    .rw[ha.2.2.2.mem_lt E,hb.2.2.2.mem_lt E]
    .have:=h x;rw[mem_cons,mem_cons]at this;have L:¬x<=s.hi:=a9;simpa[L]using this
   rw[this]
def Nrm.unique{a b:List Iv}(j:Nrm a)(hb:Nrm b)(h:∀x,x<zk->mem a x=mem b x):a=b:=
 NF.unique j hb λx=>by
  by_cases o:x<zk
  .exact h x o
  .have:∀{l},Nrm l->mem l x=false:=λ{l} hl=>by
    cases e:mem l x with
    |false=>rfl
    |true=>have:=(NF.mem_ge hl e).2;omega
   rw[this j,this hb]
def ye:List Iv->Nat->Option Nat
 |[],_=>none
 |s::l,x=>if x<s.lo then some s.lo else if s.hi+1<zk/\x<s.hi+1 then some (s.hi+1) else ye l x
def kv:Option Nat->Option Nat->Option Nat
 |none,b=>b
 |some x,none=>some x
 |some x,some y=>if y<x then some y else some x
def xr{l:List Iv}{x y:Nat}(h:ye l x=some y):x<y:=by
 induction l with
 |nil=>cases h
 | cons s l ih=>
   unfold ye at h;split at h
   .cases h;assumption
   .split at h
    .cases h;omega
    .exact ih h
def vJ{l:List Iv}{n x y:Nat}(j:NF n l)(h:ye l x=some y):y<zk:=by
 induction l generalizing n with
 |nil=>cases h
 | cons s l ih=>
   have o:=j.2.1;have u:=j.2.2.1;unfold ye at h;split at h
   .cases h;omega
   .split at h
    .cases h;omega
    .exact ih j.2.2.2 h
def xB{l:List Iv}{n x y z:Nat}(j:NF n l)(h:ye l x=some y)(C:x<=z)(A:z<y):mem l z=mem l x:=by
 induction l generalizing n with
 |nil=>cases h
 | cons s l ih=>
   have o:=j.2.1;unfold ye at h;split at h
   .rename_i hlt;cases h;rw[(j.2.2.2.mono (m:=s.lo) a9 |> λk:NF s.lo l=>(show NF s.lo (s::l) from ⟨Zp _,o,j.2.2.1,j.2.2.2⟩)).mem_lt A,
     (show NF s.lo (s::l) from ⟨Zp _,o,j.2.2.1,j.2.2.2⟩).mem_lt hlt]
   .split at h
    .rename_i hn hc;cases h;have e1:mem l z=false:=j.2.2.2.mem_lt a9;have e2:mem l x=false:=j.2.2.2.mem_lt a9;rw[mem_cons,mem_cons,e1,e2];have:(s.lo<=z)=True:=b6;have:(s.lo<=x)=True:=b6;have:(z<=s.hi)=True:=b6;have:(x<=s.hi)=True:=b6;simp[*]
    .rename_i hn hc;rw[mem_cons,mem_cons,ih j.2.2.2 h];have B:=j.2.2.1;by_cases E:s.hi+1<zk
     .have u:¬x<=s.hi:=a9;have w:¬z<=s.hi:=a9;simp[u,w]
     .exfalso;have:l=[]:=by
       cases l with
       |nil=>rfl
       |cons t l=>have:=j.2.2.2.1;have:=j.2.2.2.2.1;have:=j.2.2.2.2.2.1;omega
      subst this;cases h
def kx{l:List Iv}{n x z:Nat}(j:NF n l)(h:ye l x=none)(y:x<=z)(A:z<zk):mem l z=mem l x:=by
 induction l generalizing n with
 |nil=>rfl
 | cons s l ih=>
   have w:=j.2.2.1;unfold ye at h;split at h
   .cases h
   .split at h
    .cases h
    .rename_i hn hc;rw[mem_cons,mem_cons,ih j.2.2.2 h];by_cases B:s.hi+1<zk
     .have o:¬x<=s.hi:=a9;have u:¬z<=s.hi:=a9;simp[o,u]
     .have:(s.lo<=z)=True:=b6;have:(s.lo<=x)=True:=b6;have:(z<=s.hi)=True:=b6;have:(x<=s.hi)=True:=b6;simp[*]
def zdt{s:Iv}{l:List Iv}{x:Nat}(h:s.hi<x)(j:s.lo<=s.hi):ye (s::l) x=ye l x:=by
 conv=>lhs;unfold ye
 rw[vD a9,vD a9]
def QU(a b:List Iv):Nat->Nat->List (Iv×Bool×Bool)
 |0,_=>[]
 | f+1,x=>
   match kv (ye a x) (ye b x)with
   |none=>[(⟨x,zk-1⟩,mem a x,mem b x)]
   |some y=>(⟨x,y-1⟩,mem a x,mem b x)::QU a b f y
def yO(a b:List Iv):List (Iv×Bool×Bool):=QU a b zk 0
def Cov(a b:List Iv):Nat->List (Iv×Bool×Bool)->Prop
 |x,[]=>x=zk
 |x,(s,p,q)::r=>s.lo=x/\x<=s.hi/\s.hi<zk/\(∀z,x<=z->z<=s.hi->mem a z=p/\mem b z=q)/\Cov a b (s.hi+1) r
def zbl{a b:Option Nat}(h:kv a b=none):a=none/\b=none:=by
 cases a<;>cases b<;>simp[kv]at h⊢;split at h<;>cases h
def zf0{a b:List Iv}(o:Nrm a)(hb:Nrm b):∀(f x:Nat),x<zk->zk<=f+x->Cov a b x (QU a b f x):=by
 intro f;induction f with
 |zero=>intro x A B;omega
 | succ f ih=>
   intro x A B;unfold QU;cases hm:kv (ye a x) (ye b x)with
   | none=>
     obtain⟨E,F⟩:=zbl hm;refine⟨rfl,?_,?_,?_,?_⟩
     .show x<=zk-1;omega
     .show zk-1<zk;omega
     .intro z j z2;have w:z<zk:=(by have:z<=zk-1:=z2;omega);exact⟨kx o E j w,kx hb F j w⟩
     .show zk-1+1=zk;omega
   | some y=>
     have C:x<y/\y<zk/\∀z,x<=z->z<y->mem a z=mem a x/\mem b z=mem b x:=by
      cases ea:ye a x with
      |none=>rw[ea]at hm;have eb:ye b x=some y:=hm;refine⟨xr eb,vJ hb eb,λz j z2=>⟨kx o ea j (by have:=vJ hb eb;omega),xB hb eb j z2⟩⟩
      | some u=>
        cases eb:ye b x with
        |none=>rw[ea,eb]at hm;simp only[kv]at hm;cases hm;exact⟨xr ea,vJ o ea,λz j z2=>⟨xB o ea j z2,kx hb eb j (by have:=vJ o ea;omega)⟩⟩
        | some v=>
          rw[ea,eb]at hm;simp only[kv]at hm;split at hm
          .cases hm;exact⟨xr eb,vJ hb eb,λz j z2=>⟨xB o ea j a9,xB hb eb j z2⟩⟩
          .cases hm;exact⟨xr ea,vJ o ea,λz j z2=>⟨xB o ea j z2,xB hb eb j a9⟩⟩
     obtain⟨I,G,H⟩:=C;refine⟨rfl,?_,?_,?_,?_⟩
     .show x<=y-1;omega
     .show y-1<zk;omega
     .intro z j z2;have:z<=y-1:=z2;exact H z j a9
     .show Cov a b (y-1+1) _;rw[show y-1+1=y from by omega];exact ih y G a9
def j4{a b:List Iv}(j:Nrm a)(hb:Nrm b):Cov a b 0 (yO a b):=zf0 j hb zk 0 xM a9
def Q8(j:List Iv)(s:Iv):List Iv:=
 match j.getLast? with
 |none=>[s]
 |some t=>if t.hi+1=s.lo then j.dropLast++[⟨t.lo,s.hi⟩] else j++[s]
def qg(f:Q3)(j:List Iv):List (Iv×Bool×Bool)->List Iv
 |[]=>j
 |(s,p,q)::r=>qg f (if f p q then Q8 j s else j) r
def qy(f:Q3)(a b:List Iv):List Iv:=qg f [] (yO a b)
def yf(f:Q3)(j:List Iv)(o u:List (Iv×Bool×Bool)):qg f j (o++u)=qg f (qg f j o) u:=by
 induction o generalizing j with
 |nil=>rfl
 |cons x o ih=>obtain⟨s,p,q⟩:=x;simp only[yb,qg];exact ih _
def NF.snoc{l:List Iv}{s:Iv}{n:Nat}(h:NF n l)(j:∀t∈l,t.hi+2<=s.lo)(y:n<=s.lo)(o:s.lo<=s.hi)(w:s.hi<zk):NF n (l++[s]):=by
 induction l generalizing n with
 |nil=>exact⟨y,o,w,trivial⟩
 |cons t l ih=>exact⟨h.1,h.2.1,h.2.2.1,ih h.2.2.2 (λu A=>j u (by simp[A])) (j t b7)⟩
def NF.last_lt{l:List Iv}{t:Iv}:∀{n:Nat},NF n (l++[t])->∀u∈l,u.hi+2<=t.lo:=by
 induction l with
 |nil=>intro n _ u j;cases j
 | cons s l ih=>
   intro n h u j;cases j with
   |head=>exact(h.2.2.2.lo_ge t b7).1
   |tail _ j=>exact ih h.2.2.2 u j
def NF.init{l:List Iv}{t:Iv}:∀{n:Nat},NF n (l++[t])->NF n l:=by
 induction l with
 |nil=>intro n _;trivial
 |cons s l ih=>intro n h;exact⟨h.1,h.2.1,h.2.2.1,ih h.2.2.2⟩
def Xm{o:List Iv}{s:Iv}(h:Nrm o)(hs:∀t∈o,t.hi<s.lo)(y:s.lo<=s.hi)(w:s.hi<zk):
 Nrm (Q8 o s)/\(∀x,mem (Q8 o s) x=(mem o x || (decide (s.lo<=x) && decide (x<=s.hi))))/\∀t∈Q8 o s,t.hi<=s.hi:=by
 rcases Us o with rfl|⟨l,t,rfl⟩
 .refine⟨⟨X4 _,y,w,trivial⟩,λx=>by simp[Q8,mem_cons],λt ht=>?_⟩;simp[Q8]at ht;subst ht;exact Zp _
 .simp only[Ut]at *;have ht:=NF.lo_ge h t b7;have A:=hs t b7;unfold Q8;simp only[uZ,U7];by_cases e:t.hi+1=s.lo
  .rw[vj e];refine⟨NF.snoc (NF.init h) (λu j=>by have:=NF.last_lt h u j;show u.hi+2<=t.lo;omega) (X4 _) (by show t.lo<=s.hi;omega) w,λx=>?_,λu j=>?_⟩
   .rw[yd,yd,mem_cons,mem_cons,UC];congr 1;simp only[Xf,Bool.or_false];rw[Ww];simp;omega
   .simp at j;rcases j with j|rfl
    .have:=NF.last_lt h u j;omega
    .exact Zp _
  .rw[vD e];refine⟨NF.snoc h (λu j=>?_) (X4 _) y w,λx=>by rw[yd,mem_cons];simp,λu j=>?_⟩
   .simp at j;rcases j with j|rfl
    .have:=NF.last_lt h u j;omega
    .omega
   .simp at j;rcases j with j|rfl|rfl
    .have:=NF.last_lt h u j;omega
    .omega
    .exact Zp _
def Zt{f:Q3}{a b:List Iv}:∀(o:List (Iv×Bool×Bool))(x:Nat)(j:List Iv),Cov a b x o->Nrm j->(∀t∈j,t.hi<x) ->
 Nrm (qg f j o)/\∀z,z<zk->mem (qg f j o) z=if z<x then mem j z else f (mem a z) (mem b z):=by
 intro o;induction o with
 |nil=>intro x j A h _;refine⟨h,λz hz=>?_⟩;have:x=zk:=A;rw[vj a9];rfl
 | cons y o ih=>
   intro x j A h C;obtain⟨s,p,q⟩:=y;obtain⟨K,Q,L,w,H⟩:=A;have E:∀t∈j,t.hi<s.lo:=(by rw[K];exact C);have B:∀z,x<=z->mem j z=false:=λz hz=>by
    cases e:mem j z with
    |false=>rfl
    |true=>obtain⟨t,ht,_,M⟩:=qf.1 e;have:=C t ht;omega
   simp only[qg];by_cases e:f p q=true
   .rw[vj e];obtain⟨N,O,P⟩:=Xm h E a9 L;obtain⟨F,G⟩:=ih (s.hi+1) _ H N (λt ht=>by have:=P t ht;omega);refine⟨F,λz hz=>?_⟩;rw[G z hz,O z];by_cases u:z<x
    .rw[vj a9,vj u];have:¬s.lo<=z:=a9;simp[this]
    .rw[vD u];by_cases z2:z<s.hi+1
     .rw[vj z2,(w z a9 a9).1,(w z a9 a9).2,e];have I:s.lo<=z:=a9;have J:z<=s.hi:=a9;simp[I,J]
     .rw[vD z2]
   .rw[vD e];obtain⟨F,G⟩:=ih (s.hi+1) _ H h (λt ht=>by have:=C t ht;omega);refine⟨F,λz hz=>?_⟩;rw[G z hz];by_cases u:z<x
    .rw[vj a9,vj u]
    .rw[vD u];by_cases z2:z<s.hi+1
     .rw[vj z2,(w z a9 a9).1,(w z a9 a9).2];rw[B z a9];simpa using e
     .rw[vD z2]
def qH{f:Q3}{a b:List Iv}(j:Nrm a)(hb:Nrm b):Nrm (qy f a b):=(Zt (f:=f) _ 0 [] (j4 j hb) trivial (λ_ h=>by cases h)).1
def qj{f:Q3}{a b:List Iv}(j:Nrm a)(hb:Nrm b){x:Nat}(o:x<zk):mem (qy f a b) x=f (mem a x) (mem b x):=by
 have:=(Zt (f:=f) _ 0 [] (j4 j hb) trivial (λ_ h=>by cases h)).2 x o
 rwa[vD a9]at this
def vK{f:Q3}{a b c:List Iv}(j:Nrm a)(hb:Nrm b)(u:Nrm c)(h:∀x,x<zk->mem c x=f (mem a x) (mem b x)):qy f a b=c:=
 Nrm.unique (qH j hb) u λx o=>by rw[qj j hb o,h x o]
end
section
open Go.RowKit
def RdSl{α:Type}(sz:Nat)(rd:World->Nat->Nat->α->Prop)(lo hi:Nat)(w:World)(v:Value)(l:List α):Prop:=
 ∃a j,v=.slice a l.length j/\l.length<=j/\j<=maxLen/\(l≠[]->∃b o,a=some ⟨b,o,none⟩/\lo<=b/\b<hi/\∀i (h:i<l.length),rd w b (o+i*sz) l[i])
def RdSl.keep{α:Type}{sz:Nat}{rd y:World->Nat->Nat->α->Prop}{lo hi u j:Nat}{w w':World}{v:Value}{l:List α}(h:RdSl sz rd lo hi w v l)
 (O:u<=lo) (N:hi<=j) (L:∀b o x,lo<=b->b<hi->rd w b o x->y w' b o x):RdSl sz y u j w' v l:=by
 obtain⟨a,A,M,G,H,I⟩:=h;refine⟨a,A,M,G,H,λE=>?_⟩;obtain⟨b,F,J,B,C,K⟩:=I E;exact⟨b,F,J,a9,a9,λi hi=>L _ _ _ B C (K i hi)⟩
def RdSl.nil{α:Type}{sz:Nat}{rd:World->Nat->Nat->α->Prop}{lo hi:Nat}{w:World}(a:Option Addr)(j:Nat)(h:j<=maxLen):RdSl sz rd lo hi w (.slice a 0 j) []:=
 ⟨a,j,rfl,X4 _,h,λh=>absurd rfl h⟩
def RdSl.len{α:Type}{sz:Nat}{rd:World->Nat->Nat->α->Prop}{lo hi:Nat}{w:World}{v:Value}{l:List α}(h:RdSl sz rd lo hi w v l):l.length<=maxLen:=by obtain⟨a,j,A,o,u,y⟩:=h;omega
def rdIv(w:World)(b o:Nat)(s:Iv):Prop:=
 w.cell? ⟨b,o,none⟩=some (.int .u64 s.lo)/\w.cell? ⟨b,o+1,none⟩=some (.int .u64 s.hi)/\s.lo<zk/\s.hi<zk
def rdIv.keep{w w':World}{b o:Nat}{s:Iv}(h:rdIv w b o s)(hb:w'.heap[b]?=w.heap[b]?):rdIv w' b o s:=
 ⟨(tk (a:=⟨b,o,none⟩) hb).trans h.1,(tk (a:=⟨b,o+1,none⟩) hb).trans h.2.1,h.2.2⟩
def RdR(lo hi:Nat)(w:World)(v:Value)(l:List Iv):Prop:=RdSl 2 rdIv lo hi w v l
def RdR.keep{lo hi o j:Nat}{w w':World}{v:Value}{l:List Iv}(h:RdR lo hi w v l)(B:o<=lo)(A:hi<=j)(hb:∀b,lo<=b->b<hi->w'.heap[b]?=w.heap[b]?):RdR o j w' v l:=
 RdSl.keep h B A λb _ _ u y C=>C.keep (hb b u y)
def RdR.below{hi n:Nat}{w j:World}{v:Value}{l:List Iv}(h:RdR 0 hi w v l)(hb:Below n w j)(u:hi<=n):RdR 0 hi j v l:=
 h.keep (Zp _) (Zp _) λb _ o=>hb.block b a9
def RdR.bound{lo hi:Nat}{w:World}{v:Value}{l:List Iv}(h:RdR lo hi w v l):∀s∈l,s.lo<zk/\s.hi<zk:=by obtain⟨a,j,C,A,B,o⟩:=h;intro s hs;obtain⟨i,hi,rfl⟩:=Wd hs;obtain⟨b,y,_,_,_,u⟩:=o (by intro e;subst e;simp at hi);exact(u i hi).2.2
def xw(l:List Iv):List Value:=l.flatMap λs=>[.int .u64 s.lo,.int .u64 s.hi]
def y6(l:List Iv):(xw l).length=l.length*2:=by
 induction l with
 |nil=>rfl
 |cons s l ih=>simp[xw]at ih⊢;omega
def vy(l k:List Iv):xw (l++k)=xw l++xw k:=by simp[xw]
def vz(l:List Iv):∀(i:Nat)(h:i<l.length),(xw l)[i*2]?=some (.int .u64 l[i].lo)/\(xw l)[i*2+1]?=some (.int .u64 l[i].hi):=by
 induction l with
 |nil=>intro i h;simp at h
 | cons s l ih=>
   intro i h;cases i with
   |zero=>simp[xw]
   |succ i=>have:=ih i (dL h);have e:xw (s::l)=.int .u64 s.lo::.int .u64 s.hi::xw l:=rfl;rw[e,show (i+1)*2=i*2+1+1 from by omega];simpa using this
def OwnR(base:Nat)(w:World)(v:Value)(l:List Iv):Prop:=w.ownsRow base 64 2 v l.length (xw l)/\∀s∈l,s.lo<zk/\s.hi<zk
def OwnR.rd{base:Nat}{w:World}{v:Value}{l:List Iv}(h:OwnR base w v l):RdR base w.heap.size w v l:=by
 obtain⟨⟨G,B⟩,hb⟩:=h;rcases B with⟨rfl,A⟩|⟨g,j,y,rfl,E,u,F,C,hs,ht⟩
 .obtain rfl:l=[]:=wG A;exact RdSl.nil _ _ b9
 .refine⟨_,j,rfl,F,C,λ_=>⟨g,0,rfl,E,(XE.1 u).1,λi hi=>?_⟩⟩;have o:=vz l i hi;rw[<-ht,wm,wm,vj a9,vj a9]at o;refine⟨?_,?_,hb _ (Yf hi)⟩
  .simp only[World.cell?,u];simpa using o.1
  .simp only[World.cell?,u];simpa using o.2
def OwnR.nil(base:Nat)(w:World):OwnR base w (.slice none 0 0) []:=⟨tR _ _ _ _,λ_ h=>by cases h⟩
def OwnR.val{base:Nat}{w:World}{v:Value}{l:List Iv}(h:OwnR base w v l):∃a j,v=.slice a l.length j:=by obtain⟨a,j,e,_⟩:=h.rd;exact⟨a,j,e⟩
def OwnR.below{base n:Nat}{w j:World}{v:Value}{l:List Iv}(h:OwnR base w v l)(hb:Below n w j)(o:w.heap.size<=n):OwnR base j v l:=
 ⟨(Keep.of_below' (S:=λ_=>False) hb o).ownsRow h.1 λ_ _=>id,h.2⟩
def OwnR.keep{base:Nat}{S:Nat->Prop}{w w':World}{v:Value}{l:List Iv}(h:OwnR base w v l)(hb:Keep S w w')(hs:∀g,base<=g->¬S g):OwnR base w' v l:=
 ⟨hb.ownsRow h.1 λg j=>hs g ((h.1.lt g j).1),h.2⟩
def OwnR.mono{base j:Nat}{w:World}{v:Value}{l:List Iv}(h:OwnR base w v l)(hb:j<=base):OwnR j w v l:=by
 refine⟨⟨h.1.1,?_⟩,h.2⟩;rcases h.1.2 with y|⟨g,o,u,A,B,r⟩
 .exact .inl y
 .exact .inr ⟨g,o,u,A,a9,r⟩
def qO{W A:World}{G B:Nat}{t e:TypeId}{size:Nat}{v y:Value}{k m:Nat}{K I:List Value}{E:Obj}
 (H:Boxed W B t v) (F:t≠e) (w:W.ownsRow G e size v k K) (u:A.ownsRow G e size y m I) (o:(W.alloc E).grownBy A v.ownBlock) :
 Boxed A B t v/\Boxed (A.setCell ⟨B,0,none⟩ y) B t y/\(A.setCell ⟨B,0,none⟩ y).ownsRow G e size y m I/\Keep (λk=>k=B\/G<=k) W (A.setCell ⟨B,0,none⟩ y):=by
 have C:Boxed A B t v:=(H.alloc E).kept o (H.not_row F w);refine⟨C,C.set y,u.kept (grownBy_setCell' A B y) (.inr (C.not_row F u).symm),?_⟩;refine Keep.setCell (p:=⟨B,0,none⟩) ?_ (λ_=>.inl rfl) _;exact((Keep.refl _ W).alloc E).grown o λj J _=>.inr ((w.lt j J).1)
def kw{w:World}{B:Nat}{cs:Array Value}{t:TypeId}{fr:Nat×Nat}(hb:w.heap[B]?=some (.cells cs t fr)):∀j u,cs.toList[j]?=some u->w.cell? ((⟨B,0,none⟩:Addr).add j)=some u:=λj u y=>by
 have o:(⟨B,0,none⟩:Addr).add j=⟨B,j,none⟩:=by unfold Addr.add;split<;>simp_all
 rw[o];simp only[World.cell?,hb];simpa using y
def OwnR.snoc{base:Nat}{w o:World}{v j:Value}{l:List Iv}{s:Iv}(h:OwnR base w v l)(hs:s.lo<zk/\s.hi<zk)
 (ho:o.ownsRow base 64 2 j (l.length+1) (xw l++[.int .u64 s.lo,.int .u64 s.hi])):OwnR base o j (l++[s]):=by
 refine⟨?_,λt ht=>?_⟩
 .rw[vy,wi];exact ho
 .simp at ht;rcases ht with ht|rfl
  .exact h.2 t ht
  .exact hs
def Tryz.infoIv:(xt.info? 64).map (λi=>(i.zero,i.size,i.bytes))=some (some (Value.agg #[.int .u64 0,.int .u64 0]),2,16):=dM
def ZR{x:Nat}(h:x<zk):IntKind.u64.wrap (x:Int)=x:=by
 rw[zw]at h;simp[IntKind.wrap,IntKind.bits,IntKind.signed]<;>omega
def zeB:IntKind.u64.wrap (((zk-1:Nat):Int)+1)=0:=b9
def Jc{x y:Nat}(h:y<=x)(j:x<zk):IntKind.u64.wrap ((x:Int)-y)=((x-y:Nat):Int):=by rw[show ((x:Int)-y)=((x-y:Nat):Int) from by omega];exact ZR a9
def Zj{x:Nat}(h:1<=x)(j:x<zk):IntKind.u64.wrap ((x:Int)-1)=((x-1:Nat):Int):=Jc (y:=1) h j
def zbV{x:Nat}(j:x+1<zk):IntKind.u64.wrap ((x:Int)+1)=(x:Int)+1:=by
 have:=ZR (x:=x+1) j;push_cast at this;exact this
def kO(x:Nat)(w:World)(h:x+1<zk):Calls xt 51 #[.int .u64 x] w λe j=>e=.returned (.tuple #[.int .u64 ((x:Int)+1),.bool true])/\w=j:=by
 have o:=zbV h;have u:((x:Int)+1 != 0)=true:=b6
 go_enter func51,ntmps51
 go_wp2;go_ret2;exact⟨rfl,rfl⟩
def V9(w:World):Calls xt 51 #[.int .u64 ((zk-1:Nat):Int)] w λe j=>e=.returned (.tuple #[.int .u64 0,.bool false])/\w=j:=by
 have o:=zeB;generalize ((zk-1:Nat):Int)=m at *;go_enter func51,ntmps51
 go_wp2;go_ret2;exact⟨rfl,rfl⟩
def ya(a b:Nat)(w:World)(h:b<=a):Calls xt 116 #[.int .u64 a,.int .u64 b] w λe j=>e=.returned (.tuple #[.int .u64 0,.bool false])/\w=j:=by
 go_enter func116,ntmps116
 go_wp2;go_ret2;exact⟨rfl,rfl⟩
def yX(a b:Nat)(w:World)(h:a<b)(hb:b<zk):Calls xt 116 #[.int .u64 a,.int .u64 b] w λe u=>e=.returned (.tuple #[.int .u64 ((b-a-1:Nat):Int),.bool true])/\w=u:=by
 have A:=Jc (x:=b) (y:=a) a9 hb;have j:=Zj (x:=b-a) a9 a9;generalize b-a=d at *;have o:=qL j;clear j;go_enter func116,ntmps116
 go_wp2;rw[o.o];go_ret2;exact⟨rfl,rfl⟩
def relate(s t:Iv):Nat:=if s.hi<t.lo then (if s.hi+1=t.lo then 1 else 0) else if t.hi<s.lo then (if t.hi+1=s.lo then 3 else 4) else 2
def QF(s t:Iv)(w:World)(hs:s.lo<=s.hi)(ht:t.lo<=t.hi)(F:s.hi<zk)(G:t.hi<zk):
 Calls xt 77 #[.agg #[.int .u64 s.lo,.int .u64 s.hi],.agg #[.int .u64 t.lo,.int .u64 t.hi]] w λe u=>e=.returned (.int .i64 (relate s t))/\Below w.heap.size w u:=by
 have H:∀n:Nat,relate s t=n->qA (relate s t=n):=λ_ h=>h;by_cases B:s.hi<t.lo
 .by_cases A:s.hi+1=t.lo
  .have j:=qL A;clear A;have R:=H 1 (by unfold relate;rw[vj B,vj j.o]);have y:=qL (show t.lo-s.hi-1=0 by have:=j.o;omega);clear H;go_enter func77,ntmps77
   go_wp2_with (first|(go_at_call 116;with_reducible refine(yX s.hi t.lo _ a9 a9).mono ?_;rw[y.o];rintro e u ⟨rfl,rfl⟩)|(go_at_call 116;with_reducible refine(ya t.hi s.lo _ a9).mono ?_;rintro e u ⟨rfl,rfl⟩))
   go_ret;rw[R.o];exact⟨rfl,((tq _ _).alloc (Zp _) _).alloc b7 _⟩
  .have R:=H 0 (by unfold relate;rw[vj B,vD A]);obtain⟨g,o⟩:=xn (t.lo-s.hi-1);have E:0<g:=a9;have y:=qL o;clear o;clear H;go_enter func77,ntmps77
   go_wp2_with (first|(go_at_call 116;with_reducible refine(yX s.hi t.lo _ a9 a9).mono ?_;rw[y.o];rintro e u ⟨rfl,rfl⟩)|(go_at_call 116;with_reducible refine(ya t.hi s.lo _ a9).mono ?_;rintro e u ⟨rfl,rfl⟩))
   go_ret;rw[R.o];exact⟨rfl,((tq _ _).alloc (Zp _) _).alloc b7 _⟩
 .by_cases C:t.hi<s.lo
  .by_cases A:t.hi+1=s.lo
   .have j:=qL A;clear A;have R:=H 3 (by unfold relate;rw[vD B,vj C,vj j.o]);have y:=qL (show s.lo-t.hi-1=0 by have:=j.o;omega);clear H;go_enter func77,ntmps77
    go_wp2_with (first|(go_at_call 116;with_reducible refine(ya s.hi t.lo _ a9).mono ?_;rintro e u ⟨rfl,rfl⟩)|(go_at_call 116;with_reducible refine(yX t.hi s.lo _ a9 a9).mono ?_;rw[y.o];rintro e u ⟨rfl,rfl⟩))
    go_ret;rw[R.o];exact⟨rfl,((tq _ _).alloc (Zp _) _).alloc b7 _⟩
   .have R:=H 4 (by unfold relate;rw[vD B,vj C,vD A]);obtain⟨g,o⟩:=xn (s.lo-t.hi-1);have E:0<g:=a9;have y:=qL o;clear o;clear H;go_enter func77,ntmps77
    go_wp2_with (first|(go_at_call 116;with_reducible refine(ya s.hi t.lo _ a9).mono ?_;rintro e u ⟨rfl,rfl⟩)|(go_at_call 116;with_reducible refine(yX t.hi s.lo _ a9 a9).mono ?_;rw[y.o];rintro e u ⟨rfl,rfl⟩))
    go_ret;rw[R.o];exact⟨rfl,((tq _ _).alloc (Zp _) _).alloc b7 _⟩
  .have R:=H 2 (by unfold relate;rw[vD B,vD C]);clear H;go_enter func77,ntmps77
   go_wp2_with (first|(go_at_call 116;with_reducible refine(ya s.hi t.lo _ a9).mono ?_;rintro e u ⟨rfl,rfl⟩)|(go_at_call 116;with_reducible refine(ya t.hi s.lo _ a9).mono ?_;rintro e u ⟨rfl,rfl⟩))
   go_ret;rw[R.o];exact⟨rfl,((tq _ _).alloc (Zp _) _).alloc b7 _⟩
attribute [local go_sem] Oper.semAt_some
abbrev Sv:=Option Addr×Nat×Nat
abbrev Fv:=Sv×Sv
def sv(x:Sv):Value:=.slice x.1 x.2.1 x.2.2
def Y4(p:Nat×Fv):Array Value:=#[.int .i64 (p.1:Nat),.agg #[sv p.2.1,sv p.2.2]]
def wl(j:Nat->Bool):Nat->List Fv->List (Nat×Fv)
 |_,[]=>[]
 |n,f::r=>if j n=true then (n,f)::wl j (n+1) r else wl j (n+1) r
def Kw(j:Nat->Bool):∀(l r:List Fv)(n:Nat),wl j n (l++r)=wl j n l++wl j (n+l.length) r
 |[],r,n=>by simp[wl]
 | f::l,r,n=>by
   have:=Kw j l r (n+1);rw[yb,wl,wl,this,wn,show n+1+l.length=n+(l.length+1) by omega];split<;>simp
def XF{hit:Nat->Bool}{l:List Fv}{k:Nat}(h:k<l.length):wl hit 0 (l.take (k+1))=wl hit 0 (l.take k)++(if hit k=true then [(k,l[k])] else []):=by rw[X3 h,Kw,Wb,WY a9,wk];simp[wl]
def zi8{j:Nat->Bool}{l:List Fv}{k:Nat}(h:k<l.length)(u:j k=true):wl j 0 (l.take k)++[(k,l[k])] <+: wl j 0 l:=by
 have o:=XF (hit:=j) h;rw[vj u]at o;rw[<-o]
 conv=>rhs;rw[<-wZ (k+1) l,Kw]
 exact List.prefix_append _ _
def PtF(w o j:Nat)(A B:World):Prop:=A.heap.size<=B.heap.size/\∀k,k<A.heap.size->(k<w\/k=o\/k=j\/∃u f,A.heap[k]?=some (.cells u 50 f))->B.heap[k]?=A.heap[k]?
def zeF(A:Nat)(w:World)(y:Option Addr)(o:Nat)(u:List Fv):Prop:=u.length<=o/\o<=maxLen/\(u≠[]->∃b j,y=some ⟨b,j,none⟩/\b<A/\∀i (h:i<u.length),w.cell? ⟨b,j+i*2,none⟩=some (sv u[i].1)/\w.cell? ⟨b,j+i*2+1,none⟩=some (sv u[i].2))
def zew(y:List Fv)(B:Nat->Bool)(av:Option Addr)(af Bk ok G oi P item:Nat)(H:World)(ao:zeF P H av af y)
 (aj:H.cell? ⟨Bk,ok,none⟩=some (.slice av y.length af)) (ai:H.cell? ⟨G,oi,none⟩=some (.int .u64 (item:Nat))) (an:P<=H.heap.size)
 (O:∀(w:World)(i:Nat)(h:i<y.length),(∀k,k<P->w.heap[k]?=H.heap[k]?)->P<=w.heap.size->Calls xt 38 #[sv y[i].1,.int .u64 (item:Nat)] w λe w'=>e=.returned (.bool (B i))/\Below w.heap.size w w') :
 v7 xt 89 #[.pointer (some ⟨Bk,ok,none⟩),.pointer (some ⟨G,oi,none⟩)] Y4 (λ_=>False) (PtF P Bk G) (wl B 0 y) H:=by
 intro l J Jx hJ ag hY h0;refine callsIn_wide.2 ?_;show Calls xt 89 #[.func (.yield l) #[] #[],.pointer (some ⟨Bk,ok,none⟩),.pointer (some ⟨G,oi,none⟩)] H _;have HJ:=qL hJ;have aB:=qL ag;have HY:=qL hY;have HH:=qL O;obtain⟨aC,ax,E⟩:=ao;have S:=qL E;unfold maxLen at ax;have aw:=aj;clear hJ ag hY O E;go_enter func89,ntmps89
 go_wp2_with fail
 go_loopg [8] y.length (λg x wr=>∃k:Nat,k<=y.length/\g=y.length-k/\x=.int .i64 k/\J (wl B 0 (y.take k)) wr/\(∀j,j<P->wr.heap[j]?=H.heap[j]?)/\wr.cell? ⟨G,oi,none⟩=some (.int .u64 (item:Nat))/\P<=wr.heap.size)
 case atStart=>exact⟨0,X4 _,rfl,rfl,by simpa[wl]using h0,λ_ _=>rfl,ai,an⟩
 case round=>
  obtain⟨k,hk,rfl,rfl,I,A,L,ay⟩:=hrel;clear h0 aw aj ai an;by_cases u:k<y.length
  .obtain⟨b,M,au,ak,N⟩:=S.o (λe=>by rw[e]at u;simp at u);subst au;obtain⟨c0,c1⟩:=N k u;have U:=XF (hit:=B) u;have F:B k=true->_:=zi8 u;have hH:=λw=>HH.o w k u;obtain⟨⟨⟨X,m0,q0⟩,⟨Y,m1,q1⟩⟩,hf⟩:∃f,f=y[k]:=⟨_,rfl⟩;rw[<-hf]at c0 c1 U F;simp only[<-hf]at hH;simp only[sv]at c0 c1 hH;have d0:wr.cell? ⟨b,M+k*2,none⟩=some (.slice X m0 q0):=(tk (a:=⟨b,M+k*2,none⟩) (A b ak)).trans c0;have d1:wr.cell? ⟨b,M+k*2+1,none⟩=some (.slice Y m1 q1):=(tk (a:=⟨b,M+k*2+1,none⟩) (A b ak)).trans c1;have e0:(wr.alloc (.cells #[.slice X m0 q0,.slice Y m1 q1] 50 (0,0))).cell? ⟨G,oi,none⟩=some (.int .u64 (item:Nat)):=(tk (a:=⟨G,oi,none⟩) (tr _ _ _ (tn _ _ L))).trans L;have ae:=qL U;have HP:=qL F;have C:=qL A;have Q:=qL L;have ab:=qL hH;have ac:=qL I;clear N U F A L hH c0 c1 hf I;have ad:qA (∀j,j<P->(wr.alloc (.cells #[.slice X m0 q0,.slice Y m1 q1] 50 (0,0))).heap[j]?=H.heap[j]?):=qL λj Z=>(tr _ _ _ a9).trans (C.o j Z);go_upto_region 3 with fail;refine(Ts (n:=8)).1 ?_;cases hh:B k with
   | false=>
     gi_wp2_with (refine⟨trivial,?_⟩;gi_at_call 38;refine(callsIn_wide.2 (ab.o _ ad.o b6)).mono ?_;rw[hh];rintro e V ⟨rfl,K⟩)
     refine⟨λ_ h=>(by cases h),?_⟩
     gi_wp2
     go_wp2;go_roundg (y.length-(k+1));case measure=>omega
     case rel=>have o:Keep (λ_=>False) wr V:=((Keep.refl _ _).alloc _).trans (Keep.of_below' K (Zp _));refine⟨k+1,u,rfl,b7,?_,λj Z=>(o.block j a9 id).trans (C.o j Z),o.cell_some Q.o id,VS ay o.size⟩;rw[ae.o,hh];simp only[uD,UV,wX];exact HJ.o _ _ _ ac.o o
   | true=>
     gi_wp2_with (refine⟨trivial,?_⟩;gi_at_call 38;refine(callsIn_wide.2 (ab.o _ ad.o b6)).mono ?_;rw[hh];rintro e V ⟨rfl,K⟩
                  have o:Keep (λ_=>False) wr V:=((Keep.refl _ _).alloc _).trans (Keep.of_below' K (Zp _));have am:V.heap[wr.heap.size]?=some (.cells #[.slice X m0 q0,.slice Y m1 q1] 50 (0,0)):=(K.block _ b7).trans (tl _ _);have x0:V.cell? ⟨wr.heap.size,0,none⟩=some (.slice X m0 q0):=(by simp[World.cell?,am]);have x1:V.cell? ⟨wr.heap.size,1,none⟩=some (.slice Y m1 q1):=(by simp[World.cell?,am]);obtain⟨fn,aA,aq,az,hy,hR⟩:=HY.o _ (k,((X,m0,q0),(Y,m1,q1))) V (HJ.o _ _ _ ac.o o) (HP.o hh);simp only[Y4,sv]at hy)
     refine hR.mono ?_;rintro e w3 (⟨rfl,ar,T⟩|⟨rfl,ah⟩)
     .gi_wp2
      go_wp2;go_roundg (y.length-(k+1));case measure=>omega
      case rel=>refine⟨k+1,u,rfl,b7,?_,λj Z=>(T.2 j (by have:=o.size;omega) (.inl Z)).trans ((o.block j a9 id).trans (C.o j Z)),(tk (a:=⟨G,oi,none⟩) (T.2 G (vw (tn _ _ Q.o) o.size) (.inr (.inr (.inl rfl))))).trans (o.cell_some Q.o id),by have:=o.size;have:=T.1;omega⟩;rw[ae.o,hh];simpa using ar
     .gi_wp2
      go_wp2;refine tx (tJ rfl _ _ _) rfl ?_;exact⟨⟨_,rfl⟩,.inr ⟨_,HP.o hh,ah⟩⟩
  .obtain rfl:k=y.length:=a9
   go_wp2_with fail
   go_end0
   rw[Wk]at I;exact⟨⟨_,rfl⟩,.inl I⟩
attribute [local go_sem] Oper.semAt_some
def zex(a:Option Addr)(n c item:Nat)(w:World):Calls xt 47 #[.slice a n c,.int .u64 (item:Nat)] w λe j=>e=.returned (.func (.func 89) #[] #[.pointer (some ⟨w.heap.size,0,none⟩),.pointer (some ⟨w.heap.size+1,0,none⟩)])/\j=(w.alloc (.cells #[.slice a n c] 41)).alloc (.cells #[.int .u64 (item:Nat)] 36):=by
 go_enter func47,ntmps47
 go_wp2;go_ret;exact⟨rfl,rfl⟩
def znR{α:Type}{q:α->Bool}{l j:List α}(h:l <+: j)(o:l.any q=true):j.any q=true:=by obtain⟨r,rfl⟩:=h;rw[uR,o];rfl
def SH(n:Nat)(A B:World):Prop:=(∃v,Boxed A n 4 v)/\Keep (λk=>k=n) A B
def SH.pt{n C y w:Nat}{A B:World}(h:SH n A B)(I:C<=n)(E:y≠n)(F:w≠n):PtF C y w A B:=by
 obtain⟨⟨v,G⟩,hk⟩:=h;refine⟨hk.size,λk o j=>hk.block k o ?_⟩;rintro rfl;rcases j with j|j|j|⟨H,f,j⟩
 .omega
 .exact E j.symm
 .exact F j.symm
 .have u:A.heap[k]?=some (.cells #[v] 4 (0,0)):=G;rw[u]at j;cases j
def zn5(O:Option Addr)(T P item r c:Nat)(xs:List (Nat×Fv))(q:Nat×Fv->Bool)(w:World)
 (hit:∀W,(∀k,k<w.heap.size->W.heap[k]?=w.heap[k]?)->w.heap.size+5<=W.heap.size->W.cell? ⟨w.heap.size+3,0,none⟩=some (.slice O T P)->W.cell? ⟨w.heap.size+4,0,none⟩=some (.int .u64 (item:Nat)) ->
   v7 xt 89 #[.pointer (some ⟨w.heap.size+3,0,none⟩),.pointer (some ⟨w.heap.size+4,0,none⟩)] Y4 (λ_=>False) (PtF w.heap.size (w.heap.size+3) (w.heap.size+4)) xs W)
 (Q:∀W p,p∈xs->Below w.heap.size w W->Calls xt 48 #[sv p.2.2,.int .u64 (r:Nat),.int .u64 (c:Nat)] W λe W'=>e=.returned (.bool (q p))/\Below W.heap.size W W') :
 Calls xt 18 #[.slice O T P,.int .u64 (item:Nat),.int .u64 (r:Nat),.int .u64 (c:Nat)] w λe w'=>e=.returned (.bool (xs.any q))/\Below w.heap.size w w':=by
 have ae:=qL hit;have HH:=qL Q;clear hit Q;refine callsIn_wide.1 (tX (n:=9) func18 rfl trivial ?_ rfl);simp only[ntmps18,Wz,wn,Wp,Nat.reduceAdd,Nat.reduceSub,uf,ug,uy,ul,Y1,yb]
 gi_wp2_with (refine⟨trivial,?_⟩;gi_at_call 47;refine(callsIn_wide.2 (zex _ _ _ _ _)).mono ?_;rintro e w' ⟨rfl,rfl⟩)
 obtain⟨y,F⟩:=xn ((((((w.alloc (Obj.cells #[.int .u64 (r:Nat)] 36)).alloc (Obj.cells #[.int .u64 (c:Nat)] 36)).alloc (Obj.cells #[.bool false] 4)).alloc (Obj.cells #[.slice O T P] 41)).alloc (Obj.cells #[.int .u64 (item:Nat)] 36)));have ag:y.heap.size=w.heap.size+5:=by rw[<-F];simp
 have b0:Boxed y w.heap.size 36 (.int .u64 (r:Nat)):=by rw[<-F];exact((((tQ w _ _).alloc _).alloc _).alloc _).alloc _
 have b1:Boxed y (w.heap.size+1) 36 (.int .u64 (c:Nat)):=by rw[<-F];have:=tQ (w.alloc (Obj.cells #[.int .u64 (r:Nat)] 36)) 36 (.int .u64 (c:Nat));rw[tu]at this;exact((this.alloc _).alloc _).alloc _
 have b2:Boxed y (w.heap.size+2) 4 (.bool false):=by rw[<-F];have:=tQ ((w.alloc (Obj.cells #[.int .u64 (r:Nat)] 36)).alloc (Obj.cells #[.int .u64 (c:Nat)] 36)) 4 (.bool false);simp only[tu]at this;exact(this.alloc _).alloc _
 have b3:Boxed y (w.heap.size+3) 41 (.slice O T P):=by rw[<-F];have:=tQ (((w.alloc (Obj.cells #[.int .u64 (r:Nat)] 36)).alloc (Obj.cells #[.int .u64 (c:Nat)] 36)).alloc (Obj.cells #[.bool false] 4)) 41 (.slice O T P);simp only[tu]at this;exact this.alloc _
 have b4:Boxed y (w.heap.size+4) 36 (.int .u64 (item:Nat)):=by rw[<-F];have:=tQ ((((w.alloc (Obj.cells #[.int .u64 (r:Nat)] 36)).alloc (Obj.cells #[.int .u64 (c:Nat)] 36)).alloc (Obj.cells #[.bool false] 4)).alloc (Obj.cells #[.slice O T P] 41)) 36 (.int .u64 (item:Nat));simp only[tu]at this;exact this
 have ab:Below w.heap.size w y:=by rw[<-F];exact(((((tq _ _).alloc (Zp _) _).alloc b7 _).alloc b6 _).alloc b6 _).alloc b6 _
 try simp only[tu]
 rw [F];clear F;refine Xt (w:=y) 89 #[.pointer (some ⟨w.heap.size+3,0,none⟩),.pointer (some ⟨w.heap.size+4,0,none⟩)] rfl (enters_of func89 dM rfl) Y4 (λ_=>rfl)
  (λ_=>False) (PtF w.heap.size (w.heap.size+3) (w.heap.size+4)) xs ?hit
  (SH (w.heap.size+2)) (λA B h k hk L=>h.2.block k L a9) (λA B h=>h.pt a9 a9 a9)
  ?hPt ?hPt0 ⟨id,id⟩
  (λpre W=>Boxed W w.heap.size 36 (.int .u64 (r:Nat))/\Boxed W (w.heap.size+1) 36 (.int .u64 (c:Nat))/\Boxed W (w.heap.size+2) 4 (.bool false)/\Below w.heap.size w W/\qA (pre.any q=false))
  (λcd pre W=>cd=.ret/\Boxed W (w.heap.size+2) 4 (.bool true)/\Below w.heap.size w W/\qA (pre.any q=true)) ?hI ?hIx ⟨b0,b1,b2,ab,qL rfl⟩
  (λpre x a' W=>(Boxed W w.heap.size 36 (.int .u64 (r:Nat))/\Boxed W (w.heap.size+1) 36 (.int .u64 (c:Nat))/\Boxed W (w.heap.size+2) 4 (.bool false)/\Below w.heap.size w W/\qA (pre.any q=false)) /\
    ∃U,W.heap[U]?=some (.cells #[sv x.2.1,sv x.2.2] 50 (0,0))/\y.heap.size+2<=U /\
    a'={ tmps:=#[.slice O T P,.int .u64 (item:Nat),.int .u64 (r:Nat),.int .u64 (c:Nat),undef,undef,.pointer (some ⟨w.heap.size,0,none⟩),.pointer (some ⟨w.heap.size+1,0,none⟩),.pointer (some ⟨w.heap.size+2,0,none⟩),undef,.pointer (some ⟨U,0,none⟩),.slice O T P,.int .u64 (item:Nat),.func (.func 89) #[] #[.pointer (some ⟨w.heap.size+3,0,none⟩),.pointer (some ⟨w.heap.size+4,0,none⟩)],.int .i64 (x.1:Nat),.agg #[sv x.2.1,sv x.2.2],undef,undef,undef,undef,undef],defers:=[] })
  ?hAx ?hassign ?hbody ?hdone ?hstop
 case hit=>intro W hk af;exact ae.o W (λk h=>(hk.block k a9 id).trans (ab.block k h)) a9 (hk.boxed b3 id).cell (hk.boxed b4 id).cell
 case hPt=>
  rintro A B C ⟨H,K⟩ ⟨j,u⟩;refine⟨VS H j,λk hk G=>?_⟩;have e1:=K k hk G;refine(u k a9 ?_).trans e1;rcases G with G|G|G|⟨cs,f,G⟩
  .exact .inl G
  .exact .inr (.inl G)
  .exact .inr (.inr (.inl G))
  .exact .inr (.inr (.inr ⟨cs,f,by rw[e1];exact G⟩))
 case hPt0=>
  rintro A B hk ⟨o,ho⟩;refine⟨hk.size,λk L G=>hk.block k L ?_⟩;rintro rfl;rcases G with G|G|G|⟨cs,f,G⟩
  .omega
  .omega
  .omega
  .rw[ho]at G;cases G
 case hI=>rintro pre A B ⟨H,K,j,u,E⟩ V;have hk:Keep (λk=>k=y.heap.size\/k=y.heap.size+1) A B:=V.mono λ_ _ h=>h.elim False.elim id;exact⟨hk.boxed H a9,hk.boxed K a9,hk.boxed j a9,u.trans (hk.below u.size λk hk=>a9),E⟩
 case hIx=>rintro cd pre A B ⟨H,j,u,E⟩ V;have hk:Keep (λk=>k=y.heap.size\/k=y.heap.size+1) A B:=V.mono λ_ _ h=>h.elim False.elim id;exact⟨H,hk.boxed j a9,u.trans (hk.below u.size λk hk=>a9),E⟩
 case hAx=>rintro pre x a' A B ⟨⟨H,K,j,u,E⟩,U,h6,h7,rfl⟩ hk;exact⟨⟨hk.boxed H a9,hk.boxed K a9,hk.boxed j a9,u.trans (hk.below u.size λk hk=>a9),E⟩,U,hk.obj h6 a9,h7,rfl⟩
 case hassign=>
  rintro l pre ⟨i,⟨⟨x0,x1,x2⟩,⟨Y,Z,y2⟩⟩⟩ W X L hI;clear X;dsimp only[Y4,sv];have HX:=qL hI;clear hI
  gi_wp2
  obtain⟨H,K,j,u,E⟩:=HX.o;have N:∀o S,Keep S W (W.alloc o):=λo S=>(Keep.refl _ _).alloc _;exact⟨⟨⟨_,j⟩,N _ _⟩,⟨(N _ (λ_=>False)).boxed H id,(N _ (λ_=>False)).boxed K id,(N _ (λ_=>False)).boxed j id,u.alloc u.size _,E⟩,W.heap.size,tl W _,a9,rfl⟩
 case hbody=>
  rintro l pre ⟨i,⟨⟨x0,x1,x2⟩,⟨Y,Z,y2⟩⟩⟩ a' W X L ⟨⟨H,K,j,u,E⟩,U,h6,h7,rfl⟩;have hm:(i,((x0,x1,x2),(Y,Z,y2)))∈xs:=X.subset b7;have J:=HH.o W _ hm u;dsimp only[sv]at J h6⊢;have c0:=H.cell;have c1:=K.cell;have c3:W.cell? ⟨U,1,none⟩=some (.slice Y Z y2):=(by simp[World.cell?,h6]);have ad:(pre++[(i,((x0,x1,x2),(Y,Z,y2)))]).any q=q (i,((x0,x1,x2),(Y,Z,y2))):=(by rw[uR,E.o];simp);have HN:=qL ad;have HX:=qL (And.intro j u);have HY:=qL (And.intro H K);clear ad H K u E h6;cases hq:q (i,((x0,x1,x2),(Y,Z,y2)))with
  | true=>
    rw[hq]at J HN;have HS:=qL J;clear J hq j
    gi_wp2_with (refine⟨trivial,?_⟩;gi_at_call 48;refine(callsIn_wide.2 HS.o).mono ?_;rintro e W1 ⟨rfl,I⟩
                 have k1:Keep (λ_=>False) W W1:=Keep.of_below' I (Zp _);have j:=k1.boxed HX.o.1 id;have f3:=j.frozen;have d3:=j.cell)
    refine⟨⟨⟨_,HX.o.1⟩,(Keep.of_below' (S:=λk=>k=w.heap.size+2) I (Zp _)).setCell (p:=⟨w.heap.size+2,0,none⟩) (λ_=>rfl) _⟩,rfl,j.set _,(HX.o.2.trans (I.mono HX.o.2.size)).setCell b7 _,HN⟩
  | false=>
    rw[hq]at J HN;have HS:=qL J;clear J hq j
    gi_wp2_with (refine⟨trivial,?_⟩;gi_at_call 48;refine(callsIn_wide.2 HS.o).mono ?_;rintro e W1 ⟨rfl,I⟩)
    have k1:Keep (λ_=>False) W W1:=Keep.of_below' I (Zp _);exact⟨⟨⟨_,HX.o.1⟩,Keep.of_below' I (Zp _)⟩,k1.boxed HY.o.1 id,k1.boxed HY.o.2 id,k1.boxed HX.o.1 id,HX.o.2.trans (I.mono HX.o.2.size),HN⟩
 case hdone=>
  rintro W ⟨H,K,j,u,E⟩ hD;have c4:=j.cell;have f4:=j.frozen;have HX:=qL (And.intro j (And.intro u E.o));clear H K j u E
  gi_wp2
  obtain⟨j,u,E⟩:=HX.o;refine⟨b7,.inl ⟨_,_,rfl,tU (by rw[tv _ _ _ _ b6];exact hD),?_⟩⟩;have M:Keep (λk=>k=w.heap.size+2\/k=y.heap.size) W ((W.setCell ⟨w.heap.size+2,0,none⟩ (.bool false)).putObj y.heap.size (.deferred none)):=((Keep.refl (λk=>k=w.heap.size+2\/k=y.heap.size) W).setCell (p:=⟨w.heap.size+2,0,none⟩) (λ_=>.inl rfl) _).putObj (λ_=>.inr rfl) _;have hr:((W.setCell ⟨w.heap.size+2,0,none⟩ (.bool false)).putObj y.heap.size (.deferred none)).cell? ⟨w.heap.size+2,0,none⟩=some (.bool false):=(by refine(tk ?_).trans (j.set (.bool false)).cell;exact tL (by show w.heap.size+2≠_;omega));refine⟨.bool false,by simp[results,Tryz.results18,go_sem,hr],?_,u.trans (M.below u.size λk hk=>a9)⟩;rw[E]
 case hstop=>
  rintro cd pre W ac ⟨rfl,j,u,E⟩ hD;have c4:=j.cell;have HX:=qL (And.intro j (And.intro u E.o));clear j u E
  gi_wp2
  obtain⟨j,u,E⟩:=HX.o;refine⟨b7,.inl ⟨_,_,rfl,tU hD,?_⟩⟩;have M:Keep (λk=>k=y.heap.size) W (W.putObj y.heap.size (.deferred none)):=(Keep.refl (λk=>k=y.heap.size) W).putObj (λ_=>rfl) _;have hr:=(M.boxed j a9).cell;refine⟨.bool true,by simp[results,Tryz.results18,go_sem,hr],?_,u.trans (M.below u.size λk hk=>a9)⟩;rw[znR ac E]
def OwnI(base:Nat)(w:World)(v:Value)(j:List Nat):Prop:=w.ownsRow base 3 1 v j.length (j.map λx=>.int .i64 (x:Nat))
def OwnI.nil(base:Nat)(w:World):OwnI base w (.slice none 0 0) []:=tR _ _ _ _
def OwnI.keep{base:Nat}{S:Nat->Prop}{w w':World}{v:Value}{l:List Nat}(h:OwnI base w v l)(hb:Keep S w w')(hs:∀g,base<=g->g<w.heap.size->¬S g):OwnI base w' v l:=
 hb.ownsRow h λg j=>hs g (h.lt g j).1 (h.lt g j).2
def OwnI.shape{base:Nat}{w:World}{v:Value}{l:List Nat}(h:OwnI base w v l):∃j n c,v=.slice j n c:=by
 rcases h.2 with⟨rfl,_⟩|⟨g,o,u,rfl,_⟩
 .exact⟨_,_,_,rfl⟩
 .exact⟨_,_,_,rfl⟩
def Tryz.infoInt:(xt.info? 3).map (λi=>(i.zero,i.size,i.bytes))=some (some (Value.int .i64 0),1,8):=dM
def JY(base:Nat)(W:World)(v:Value)(l:List Nat)(i:Nat)(u w:Value)(o:OwnI base W v l)(B:base<=W.heap.size)(T:l.length<=1099511627776):
 Calls xt 193 #[v,.int .i64 (i:Nat),.agg #[u,w]] W λe L=>∃K,e=.returned K/\OwnI base L K (l++[i])/\Keep (λk=>base<=k/\∃O f,W.heap[k]?=some (.cells O 3 f)) W L:=by
 obtain⟨S,E,H,I,J⟩:=tN Tryz.infoInt;have y:=qL o;obtain⟨M,n,c,rfl⟩:=o.shape;clear o;go_enter func193,ntmps193
 have F:Keep (λ_=>False) W ((W.alloc (.cells #[u,w] 50)).alloc (.cells #[.int .i64 (i:Nat)] 3)):=((Keep.refl _ W).alloc _).alloc _;have G:((W.alloc (.cells #[u,w] 50)).alloc (.cells #[.int .i64 (i:Nat)] 3)).heap[W.heap.size+1]?=some (.cells #[.int .i64 (i:Nat)] 3 (0,0)):=by
  have:=tl (W.alloc (.cells #[u,w] 50)) (.cells #[.int .i64 (i:Nat)] 3)
  rwa[tu]at this
 have A:=qL (y.o.keep F λ_ _ _=>id)
 go_wp2_with (at_builtin;refine Tc _ rfl _ _ 223 rfl base 3 S (.int .i64 0) 1 8 underlying223 E H I J rfl b9 _ _ _ rfl A.o ⟨W.heap.size+1,0,none⟩ 1 1 [.int .i64 (i:Nat)] rfl rfl (kw (cs:=#[.int .i64 (i:Nat)]) (t := 3) (fr:=(0,0)) G) dJ dF a9 b6 ?_;intro K U ho C _ _)
 go_ret;refine⟨_,rfl,by unfold OwnI;simpa using ho,(((Keep.refl _ W).alloc _).alloc _).grown C λk hk _=>?_⟩;have j:(Value.slice M n c).ownBlock=some k:=hk;refine⟨(y.o.lt k j).1,?_⟩;rcases y.o.2 with⟨e,_⟩|⟨g,N,P,e,_,Q,_⟩
 .rw[e]at j;cases j
 .rw[e]at j;have:g=k:=(by simpa[Value.ownBlock]using j);subst this;exact⟨_,_,Q⟩
attribute [local go_sem] Oper.semAt_some
def zaB(n:Nat)(W:World)(k:Nat):Prop:=n<=k/\∃j f,W.heap[k]?=some (.cells j 3 f)
def SF(j:Nat)(t:TypeId)(A B:World):Prop:=(∃v,Boxed A j t v)/\Keep (λk=>k=j\/zaB (j+4) A k) A B
def SF.pt{o E C:Nat}{t:TypeId}{A B:World}(h:SF o t A B)(J:E<o)(K:C<o)(ht:t ≠ 50)(hi : 3 ≠ 50):PtF o E C A B:=by
 obtain⟨⟨v,H⟩,hk⟩:=h;refine⟨hk.size,λk w j=>hk.block k w ?_⟩;rintro(rfl|⟨L,F,f,u⟩)
 .rcases j with j|j|j|⟨F,f,j⟩
  .omega
  .omega
  .omega
  .have y:A.heap[k]?=some (.cells #[v] t (0,0)):=H;rw[y]at j;cases j;exact ht rfl
 .rcases j with j|j|j|⟨G,I,j⟩
  .omega
  .omega
  .omega
  .rw[u]at j;cases j
def X8{α:Type}(V:Nat)(lb:Array Value)(Bk Bi:Nat)(xs:List (Nat×Fv))(w:World)(J:Option Addr)(K:Nat)(eg:∀T w,(callFunc V T).run xt w=.ok (.enter V T) w)
 (hit:∀W,Below w.heap.size w W->v7 xt V lb Y4 (λ_=>False) (PtF w.heap.size Bk Bi) xs W) (au:Bk<w.heap.size) (ar:Bi<w.heap.size)
 (E:World->Value->α->Prop) (step:α->Nat×Fv->α) (a0:α) (af:∀W,Below w.heap.size w W->E W (.slice J 0 K) a0) (ah:∀W u a,E W u a->∃ad n c,u=.slice ad n c)
 (ag:∀A B u a,E A u a->Keep (λk=>k=w.heap.size\/k=w.heap.size+2\/k=w.heap.size+3) A B->E B u a)
 (N:∀W u pre p,pre++[p] <+: xs->w.heap.size+4<=W.heap.size->Below w.heap.size w W->E W u (pre.foldl step a0)->Calls xt 156 #[u,.int .i64 (p.1:Nat),.agg #[sv p.2.1,sv p.2.2]] W λe W'=>
   ∃u',e=.returned u'/\E W' u' (step (pre.foldl step a0) p)/\Keep (zaB (w.heap.size+4) W) W W') :
 Calls xt 155 #[.func (.func V) #[] lb,.slice J 0 K,.func (.func 156) #[] #[]] w λe w'=>∃u,e=.returned u/\E w' u (xs.foldl step a0)/\Below w.heap.size w w':=by
 have an:=qL hit;have ak:=qL af;have U:=qL ah;have M:=qL ag;have aq:=qL N;clear hit af ah ag N;refine callsIn_wide.1 (tX (n:=9) func155 rfl trivial ?_ rfl);simp only[ntmps155,Wz,wn,Wp,Nat.reduceAdd,Nat.reduceSub,uf,ug,uy,ul,Y1,yb]
 gi_wp2
 obtain⟨I,L⟩:=xn (((w.alloc (Obj.cells #[Value.slice J 0 K] 48)).alloc (Obj.cells #[Value.func (Fn.func 156) #[] #[]] 236)));have ay:I.heap.size=w.heap.size+2:=by rw[<-L];simp
 have b0:Boxed I w.heap.size 48 (Value.slice J 0 K):=by rw[<-L];exact(tQ w _ _).alloc _
 have b1:Boxed I (w.heap.size+1) 236 (Value.func (Fn.func 156) #[] #[]):=by rw[<-L];have:=tQ (w.alloc (Obj.cells #[Value.slice J 0 K] 48)) 236 (Value.func (Fn.func 156) #[] #[]);rw[tu]at this;exact this
 have X:Below w.heap.size w I:=by rw[<-L];exact((tq _ _).alloc (Zp _) _).alloc b7 _
 try simp only[tu]
 rw [L];clear L;refine Xt (w:=I) V lb rfl eg Y4 (λ_=>rfl) (λ_=>False) (PtF w.heap.size Bk Bi) xs ?hit
  (SF w.heap.size 48) (λA B h k hk O=>h.2.block k O (by rintro(e|⟨e,_⟩)<;>omega)) (λA B h=>h.pt au ar b9 b9)
  ?hPt ?hPt0 ⟨id,id⟩
  (λpre W=>(∃u,Boxed W w.heap.size 48 u/\E W u (pre.foldl step a0))/\Boxed W (w.heap.size+1) 236 (Value.func (Fn.func 156) #[] #[])/\Below w.heap.size w W)
  (λ_ _ _=>False) ?hI (λ_ _ _ _ h _=>h) ⟨⟨_,b0,ak.o _ X⟩,b1,X⟩
  (λpre x a' W=>((∃u,Boxed W w.heap.size 48 u/\E W u (pre.foldl step a0))/\Boxed W (w.heap.size+1) 236 (Value.func (Fn.func 156) #[] #[])/\Below w.heap.size w W) /\
    ∃Q,W.heap[Q]?=some (.cells #[sv x.2.1,sv x.2.2] 50 (0,0))/\I.heap.size+2<=Q /\
    a'={ tmps:=#[Value.func (Fn.func V) #[] lb,Value.slice J 0 K,Value.func (Fn.func 156) #[] #[],undef,Value.pointer (some ⟨w.heap.size,0,none⟩),Value.pointer (some ⟨w.heap.size+1,0,none⟩),Value.slice none 0 0,.int .i64 (x.1:Nat),Value.pointer (some ⟨Q,0,none⟩),Value.func (Fn.func V) #[] lb,.int .i64 (x.1:Nat),.agg #[sv x.2.1,sv x.2.2],undef,undef,undef,undef,undef,undef],defers:=[] })
  ?hAx ?hassign ?hbody ?hdone (λ_ _ _ _ h _=>h.elim)
 case hit=>intro W hk ax;exact an.o W (X.trans (hk.below a9 λ_ _=>id))
 case hPt=>
  rintro A B C ⟨j,G⟩ ⟨H,y⟩;refine⟨VS j H,λk hk F=>?_⟩;have e1:=G k hk F;refine(y k a9 ?_).trans e1;rcases F with F|F|F|⟨cs,f,F⟩
  .exact .inl F
  .exact .inr (.inl F)
  .exact .inr (.inr (.inl F))
  .exact .inr (.inr (.inr ⟨cs,f,by rw[e1];exact F⟩))
 case hPt0=>
  rintro A B hk ⟨o,ho⟩;refine⟨hk.size,λk O F=>hk.block k O ?_⟩;rintro rfl;rcases F with F|F|F|⟨cs,f,F⟩
  .omega
  .omega
  .omega
  .rw[ho]at F;cases F
 case hI=>rintro pre A B ⟨⟨u,j,G⟩,H,y⟩ av;have hk:Keep (λk=>k=I.heap.size\/k=I.heap.size+1) A B:=av.mono λ_ _ h=>h.elim False.elim id;exact⟨⟨u,hk.boxed j a9,M.o _ _ _ _ G (hk.mono λk _ h=>a9)⟩,hk.boxed H a9,y.trans (hk.below y.size λk hk=>a9)⟩
 case hAx=>rintro pre x a' A B ⟨⟨⟨u,j,G⟩,H,y⟩,Q,h5,h6,rfl⟩ hk;exact⟨⟨⟨u,hk.boxed j a9,M.o _ _ _ _ G (hk.mono λk _ h=>a9)⟩,hk.boxed H a9,y.trans (hk.below y.size λk hk=>a9)⟩,Q,hk.obj h5 a9,h6,rfl⟩
 case hassign=>
  rintro l pre ⟨i,⟨⟨x0,x1,x2⟩,⟨y0,y1,y2⟩⟩⟩ W ac O ⟨⟨u,j,G⟩,H,y⟩;clear ac;dsimp only[Y4,sv];have HX:=qL (And.intro j (And.intro G (And.intro H y)));clear j G H y
  gi_wp2
  obtain⟨j,G,H,y⟩:=HX.o;have P:∀o S,Keep S W (W.alloc o):=λo S=>(Keep.refl _ _).alloc _;refine⟨⟨⟨u,j⟩,P _ _⟩,⟨⟨u,(P _ (λ_=>False)).boxed j id,M.o _ _ _ _ G (P _ _)⟩,(P _ (λ_=>False)).boxed H id,y.alloc y.size _⟩,W.heap.size,tl W _,a9,rfl⟩
 case hbody=>
  rintro l pre ⟨i,⟨⟨x0,x1,x2⟩,⟨y0,y1,y2⟩⟩⟩ a' W ac O ⟨⟨⟨u,j,G⟩,H,y⟩,Q,h5,h6,rfl⟩;obtain⟨ua,un,uc,rfl⟩:=U.o _ _ _ G;have ae:=aq.o W _ pre _ ac a9 y G;dsimp only[sv]at ae h5⊢;have c0:=j.cell;have c1:=H.cell;have c2:W.cell? ⟨Q,0,none⟩=some (.slice x0 x1 x2):=(by simp[World.cell?,h5]);have c3:W.cell? ⟨Q,1,none⟩=some (.slice y0 y1 y2):=(by simp[World.cell?,h5]);have HS:=qL ae;have HX:=qL (And.intro j (And.intro H y));clear ae j G H y h5
  gi_wp2_with (refine⟨trivial,?_⟩;gi_at_call 156;refine(callsIn_wide.2 HS.o).mono ?_;rintro e W1 ⟨u',rfl,Y,Z⟩
               obtain⟨va,vn,vc,rfl⟩:=U.o _ _ _ Y;have j:Boxed W1 w.heap.size 48 (.slice ua un uc):=Z.boxed HX.o.1 (λh=>by have:=h.1;omega);have d0:=j.cell;have d1:=j.frozen;have am:=qL Y;have ao:=qL Z;have aj:=qL j;clear Y Z j)
  have aw:Keep (λk=>k=w.heap.size) W1 (W1.setCell ⟨w.heap.size,0,none⟩ (.slice va vn vc)):=(Keep.refl (λk=>k=w.heap.size) W1).setCell (p:=⟨w.heap.size,0,none⟩) (λ_=>rfl) _;obtain⟨j,H,y⟩:=HX.o;have ab:Keep (λk=>k=w.heap.size\/zaB (w.heap.size+4) W k) W (W1.setCell ⟨w.heap.size,0,none⟩ (.slice va vn vc)):=(ao.o.mono λk _ h=>.inr h).setCell (p:=⟨w.heap.size,0,none⟩) (λ_=>.inl rfl) _;refine⟨⟨⟨_,j⟩,ab⟩,⟨_,aj.o.set _,?_⟩,ab.boxed H (by rintro(e|⟨e,_⟩)<;>omega),y.trans (ab.below y.size λk hk=>by rintro(e|⟨e,_⟩)<;>omega)⟩;rw[WL];exact M.o _ _ _ _ am.o (aw.mono λk _ h=>.inl h)
 case hdone=>
  rintro W ⟨⟨u,j,G⟩,H,y⟩ hD;obtain⟨ua,un,uc,rfl⟩:=U.o _ _ _ G;have F:=j.cell;have HX:=qL (And.intro G y);clear j G H y
  gi_wp2
  refine⟨b7,.inl ⟨_,_,rfl,tU hD,?_⟩⟩;have ai:Keep (λk=>k=I.heap.size) W (W.putObj I.heap.size (.deferred none)):=(Keep.refl (λk=>k=I.heap.size) W).putObj (λ_=>rfl) _;exact⟨_,tI rfl _ _ _,_,rfl,M.o _ _ _ _ HX.o.1 (ai.mono λk _ h=>a9),HX.o.2.trans (ai.below HX.o.2.size λk hk=>a9)⟩
def X7{α:Type}(V:Nat)(lb:Array Value)(Bk Bi:Nat)(xs:List (Nat×Fv))(w:World)(J:Option Addr)(K:Nat)(eg:∀T w,(callFunc V T).run xt w=.ok (.enter V T) w)
 (hit:∀W,Below w.heap.size w W->v7 xt V lb Y4 (λ_=>False) (PtF w.heap.size Bk Bi) xs W) (au:Bk<w.heap.size) (ar:Bi<w.heap.size)
 (E:World->Value->α->Prop) (step:α->Nat×Fv->α) (a0:α) (af:∀W,Below w.heap.size w W->E W (.slice J 0 K) a0) (ah:∀W u a,E W u a->∃ad n c,u=.slice ad n c)
 (ag:∀A B u a,E A u a->Keep (λk=>k=w.heap.size\/k=w.heap.size+2\/k=w.heap.size+3) A B->E B u a)
 (N:∀W u pre p,pre++[p] <+: xs->w.heap.size+4<=W.heap.size->Below w.heap.size w W->E W u (pre.foldl step a0)->Calls xt 193 #[u,.int .i64 (p.1:Nat),.agg #[sv p.2.1,sv p.2.2]] W λe W'=>
   ∃u',e=.returned u'/\E W' u' (step (pre.foldl step a0) p)/\Keep (zaB (w.heap.size+4) W) W W') :
 Calls xt 192 #[.func (.func V) #[] lb,.slice J 0 K,.func (.func 193) #[] #[]] w λe w'=>∃u,e=.returned u/\E w' u (xs.foldl step a0)/\Below w.heap.size w w':=by
 have an:=qL hit;have ak:=qL af;have U:=qL ah;have M:=qL ag;have aq:=qL N;clear hit af ah ag N;refine callsIn_wide.1 (tX (n:=9) func192 rfl trivial ?_ rfl);simp only[ntmps192,Wz,wn,Wp,Nat.reduceAdd,Nat.reduceSub,uf,ug,uy,ul,Y1,yb]
 gi_wp2
 obtain⟨I,L⟩:=xn (((w.alloc (Obj.cells #[Value.slice J 0 K] 223)).alloc (Obj.cells #[Value.func (Fn.func 193) #[] #[]] 271)));have ay:I.heap.size=w.heap.size+2:=by rw[<-L];simp
 have b0:Boxed I w.heap.size 223 (Value.slice J 0 K):=by rw[<-L];exact(tQ w _ _).alloc _
 have b1:Boxed I (w.heap.size+1) 271 (Value.func (Fn.func 193) #[] #[]):=by rw[<-L];have:=tQ (w.alloc (Obj.cells #[Value.slice J 0 K] 223)) 271 (Value.func (Fn.func 193) #[] #[]);rw[tu]at this;exact this
 have X:Below w.heap.size w I:=by rw[<-L];exact((tq _ _).alloc (Zp _) _).alloc b7 _
 try simp only[tu]
 rw [L];clear L;refine Xt (w:=I) V lb rfl eg Y4 (λ_=>rfl) (λ_=>False) (PtF w.heap.size Bk Bi) xs ?hit
  (SF w.heap.size 223) (λA B h k hk O=>h.2.block k O (by rintro(e|⟨e,_⟩)<;>omega)) (λA B h=>h.pt au ar b9 b9)
  ?hPt ?hPt0 ⟨id,id⟩
  (λpre W=>(∃u,Boxed W w.heap.size 223 u/\E W u (pre.foldl step a0))/\Boxed W (w.heap.size+1) 271 (Value.func (Fn.func 193) #[] #[])/\Below w.heap.size w W)
  (λ_ _ _=>False) ?hI (λ_ _ _ _ h _=>h) ⟨⟨_,b0,ak.o _ X⟩,b1,X⟩
  (λpre x a' W=>((∃u,Boxed W w.heap.size 223 u/\E W u (pre.foldl step a0))/\Boxed W (w.heap.size+1) 271 (Value.func (Fn.func 193) #[] #[])/\Below w.heap.size w W) /\
    ∃Q,W.heap[Q]?=some (.cells #[sv x.2.1,sv x.2.2] 50 (0,0))/\I.heap.size+2<=Q /\
    a'={ tmps:=#[Value.func (Fn.func V) #[] lb,Value.slice J 0 K,Value.func (Fn.func 193) #[] #[],undef,Value.pointer (some ⟨w.heap.size,0,none⟩),Value.pointer (some ⟨w.heap.size+1,0,none⟩),Value.slice none 0 0,.int .i64 (x.1:Nat),Value.pointer (some ⟨Q,0,none⟩),Value.func (Fn.func V) #[] lb,.int .i64 (x.1:Nat),.agg #[sv x.2.1,sv x.2.2],undef,undef,undef,undef,undef,undef],defers:=[] })
  ?hAx ?hassign ?hbody ?hdone (λ_ _ _ _ h _=>h.elim)
 case hit=>intro W hk ax;exact an.o W (X.trans (hk.below a9 λ_ _=>id))
 case hPt=>
  rintro A B C ⟨j,G⟩ ⟨H,y⟩;refine⟨VS j H,λk hk F=>?_⟩;have e1:=G k hk F;refine(y k a9 ?_).trans e1;rcases F with F|F|F|⟨cs,f,F⟩
  .exact .inl F
  .exact .inr (.inl F)
  .exact .inr (.inr (.inl F))
  .exact .inr (.inr (.inr ⟨cs,f,by rw[e1];exact F⟩))
 case hPt0=>
  rintro A B hk ⟨o,ho⟩;refine⟨hk.size,λk O F=>hk.block k O ?_⟩;rintro rfl;rcases F with F|F|F|⟨cs,f,F⟩
  .omega
  .omega
  .omega
  .rw[ho]at F;cases F
 case hI=>rintro pre A B ⟨⟨u,j,G⟩,H,y⟩ av;have hk:Keep (λk=>k=I.heap.size\/k=I.heap.size+1) A B:=av.mono λ_ _ h=>h.elim False.elim id;exact⟨⟨u,hk.boxed j a9,M.o _ _ _ _ G (hk.mono λk _ h=>a9)⟩,hk.boxed H a9,y.trans (hk.below y.size λk hk=>a9)⟩
 case hAx=>rintro pre x a' A B ⟨⟨⟨u,j,G⟩,H,y⟩,Q,h5,h6,rfl⟩ hk;exact⟨⟨⟨u,hk.boxed j a9,M.o _ _ _ _ G (hk.mono λk _ h=>a9)⟩,hk.boxed H a9,y.trans (hk.below y.size λk hk=>a9)⟩,Q,hk.obj h5 a9,h6,rfl⟩
 case hassign=>
  rintro l pre ⟨i,⟨⟨x0,x1,x2⟩,⟨y0,y1,y2⟩⟩⟩ W ac O ⟨⟨u,j,G⟩,H,y⟩;clear ac;dsimp only[Y4,sv];have HX:=qL (And.intro j (And.intro G (And.intro H y)));clear j G H y
  gi_wp2
  obtain⟨j,G,H,y⟩:=HX.o;have P:∀o S,Keep S W (W.alloc o):=λo S=>(Keep.refl _ _).alloc _;refine⟨⟨⟨u,j⟩,P _ _⟩,⟨⟨u,(P _ (λ_=>False)).boxed j id,M.o _ _ _ _ G (P _ _)⟩,(P _ (λ_=>False)).boxed H id,y.alloc y.size _⟩,W.heap.size,tl W _,a9,rfl⟩
 case hbody=>
  rintro l pre ⟨i,⟨⟨x0,x1,x2⟩,⟨y0,y1,y2⟩⟩⟩ a' W ac O ⟨⟨⟨u,j,G⟩,H,y⟩,Q,h5,h6,rfl⟩;obtain⟨ua,un,uc,rfl⟩:=U.o _ _ _ G;have ae:=aq.o W _ pre _ ac a9 y G;dsimp only[sv]at ae h5⊢;have c0:=j.cell;have c1:=H.cell;have c2:W.cell? ⟨Q,0,none⟩=some (.slice x0 x1 x2):=(by simp[World.cell?,h5]);have c3:W.cell? ⟨Q,1,none⟩=some (.slice y0 y1 y2):=(by simp[World.cell?,h5]);have HS:=qL ae;have HX:=qL (And.intro j (And.intro H y));clear ae j G H y h5
  gi_wp2_with (refine⟨trivial,?_⟩;gi_at_call 193;refine(callsIn_wide.2 HS.o).mono ?_;rintro e W1 ⟨u',rfl,Y,Z⟩
               obtain⟨va,vn,vc,rfl⟩:=U.o _ _ _ Y;have j:Boxed W1 w.heap.size 223 (.slice ua un uc):=Z.boxed HX.o.1 (λh=>by have:=h.1;omega);have d0:=j.cell;have d1:=j.frozen;have am:=qL Y;have ao:=qL Z;have aj:=qL j;clear Y Z j)
  have aw:Keep (λk=>k=w.heap.size) W1 (W1.setCell ⟨w.heap.size,0,none⟩ (.slice va vn vc)):=(Keep.refl (λk=>k=w.heap.size) W1).setCell (p:=⟨w.heap.size,0,none⟩) (λ_=>rfl) _;obtain⟨j,H,y⟩:=HX.o;have ab:Keep (λk=>k=w.heap.size\/zaB (w.heap.size+4) W k) W (W1.setCell ⟨w.heap.size,0,none⟩ (.slice va vn vc)):=(ao.o.mono λk _ h=>.inr h).setCell (p:=⟨w.heap.size,0,none⟩) (λ_=>.inl rfl) _;refine⟨⟨⟨_,j⟩,ab⟩,⟨_,aj.o.set _,?_⟩,ab.boxed H (by rintro(e|⟨e,_⟩)<;>omega),y.trans (ab.below y.size λk hk=>by rintro(e|⟨e,_⟩)<;>omega)⟩;rw[WL];exact M.o _ _ _ _ am.o (aw.mono λk _ h=>.inl h)
 case hdone=>
  rintro W ⟨⟨u,j,G⟩,H,y⟩ hD;obtain⟨ua,un,uc,rfl⟩:=U.o _ _ _ G;have F:=j.cell;have HX:=qL (And.intro G y);clear j G H y
  gi_wp2
  refine⟨b7,.inl ⟨_,_,rfl,tU hD,?_⟩⟩;have ai:Keep (λk=>k=I.heap.size) W (W.putObj I.heap.size (.deferred none)):=(Keep.refl (λk=>k=I.heap.size) W).putObj (λ_=>rfl) _;exact⟨_,tI rfl _ _ _,_,rfl,M.o _ _ _ _ HX.o.1 (ai.mono λk _ h=>a9),HX.o.2.trans (ai.below HX.o.2.size λk hk=>a9)⟩
end
end Go.Proofs.YtjdjjlkifdimkaaGreatDoor
