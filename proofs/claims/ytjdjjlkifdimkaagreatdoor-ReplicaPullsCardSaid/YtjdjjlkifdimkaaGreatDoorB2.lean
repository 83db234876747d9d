import Derived.RangeFuncNested
import Derived.RangeFuncBound
import Derived.RangeFuncCalls
import Derived.RangeFuncLeaves
import Derived.Shelf.Abstract
import Derived.Shelf.RegionOpen
import Derived.WalkKit
import Derived.OwnWalkIn
import Derived.TacticsInMore
import Derived.LoopNIn
import Derived.LoopIn
import Derived.Maps.AppendAt
import Derived.Lib.Hide
import Derived.Laws.AppendOwn
import Derived.Test.YtjdjjlkifdimkaaGreatDoorB0
set_option linter.all false
namespace Go.Proofs.YtjdjjlkifdimkaaGreatDoor
def tw:=@Go.World.cell?_of_block
def tx:=@Go.World.alloc_heap_new
def tz:=@Go.World.block_lt_of_cell?
def tC:=@Go.RowKit.Below.heap_alloc
def tE:=@Go.World.size_alloc
def tG:=@Go.RowKit.Below.heap_setCell
def tW:=@Go.World.putObj_heap_other
def Ts:=@Go.World.putObj_heap_same
def TK:=@Go.World.frozen?_of_block
def T7:=@Go.run_endLoop
section
open Go.RowKit
structure Keep(S:Nat->Prop)(A B:World):Prop where
 os:B.os=A.os
 tape:B.tape=A.tape
 output:B.output=A.output
 size:A.heap.size<=B.heap.size
 block:∀k,k<A.heap.size->¬S k->B.heap[k]?=A.heap[k]?
namespace Keep
variable {S S':Nat->Prop}{A B C:World}
def refl(S:Nat->Prop)(A:World):Keep S A A:=⟨rfl,rfl,rfl,Zp _,λ_ _ _=>rfl⟩
def trans(h:Keep S A B)(k:Keep S B C):Keep S A C:=
 ⟨k.os.trans h.os,k.tape.trans h.tape,k.output.trans h.output,V3 h.size k.size,λi hi hs=>(k.block i (Vq hi h.size) hs).trans (h.block i hi hs)⟩
def mono(h:Keep S A B)(hs:∀k,k<A.heap.size->S k->S' k):Keep S' A B:=⟨h.os,h.tape,h.output,h.size,λi hi j=>h.block i hi λe=>j (hs i hi e)⟩
def drew(h:Keep S A B):Keep S A B.drew:=⟨h.os,h.tape,h.output,h.size,h.block⟩
def alloc(h:Keep S A B)(o:Obj):Keep S A (B.alloc o):=
 h.trans ⟨rfl,rfl,rfl,b8,λk hk _=>tC _ _ _ hk⟩
def setCell(h:Keep S A B){p:Addr}(j:p.block<A.heap.size->S p.block)(u:Value):Keep S A (B.setCell p u):=
 ⟨h.os,h.tape,h.output,by show A.heap.size<=(B.heap.modify _ _).size;rw[Array.size_modify];exact h.size,λk hk hs=>(tG _ _ _ _ (λe=>hs (by rw[e];exact j (by rw[<-e];exact hk)))).trans (h.block k hk hs)⟩
def putObj(h:Keep S A B){l:Nat}(j:l<A.heap.size->S l)(o:Obj):Keep S A (B.putObj l o):=
 ⟨h.os,h.tape,h.output,dM h.size,λk hk hs=>(tW (λe=>hs (by rw[e];exact j (by rw[<-e];exact hk)))).trans (h.block k hk hs)⟩
def grown{o:Option Nat}(h:Keep S A B)(j:B.grownBy C o)(u:∀k,o=some k->k<A.heap.size->S k):Keep S A C:=
 ⟨j.os.trans h.os,j.tape.trans h.tape,j.output.trans h.output,V3 h.size j.size,λk hk hs=>(j.block k (Vq hk h.size) (λe=>hs (u k e.symm hk))).trans (h.block k hk hs)⟩
def below{n:Nat}(h:Keep S A B)(j:n<=A.heap.size)(hs:∀k,k<n->¬S k):Below n A B:=
 ⟨h.os,h.tape,h.output,h.size,λk hk=>h.block k b6 (hs k hk)⟩
def of_below'{n:Nat}(h:Below n A B)(j:A.heap.size<=n):Keep S A B:=⟨h.os,h.tape,h.output,h.size,λk hk _=>h.block k b6⟩
def cell(h:Keep S A B){p:Addr}(j:p.block<A.heap.size)(hs:¬S p.block):B.cell? p=A.cell? p:=tw (h.block _ j hs)
def frozen(h:Keep S A B){p:Addr}(j:p.block<A.heap.size)(hs:¬S p.block):B.frozen? p=A.frozen? p:=TK (h.block _ j hs)
def cell_some(h:Keep S A B){p:Addr}{v:Value}(j:A.cell? p=some v)(hs:¬S p.block):B.cell? p=some v:=(h.cell (tz A p j) hs).trans j
def boxed(h:Keep S A B){b:Nat}{t:TypeId}{v:Value}(j:Boxed A b t v)(hs:¬S b):Boxed B b t v:=(h.block b j.lt hs).trans j
def obj(h:Keep S A B){b:Nat}{o:Obj}(j:A.heap[b]?=some o)(hs:¬S b):B.heap[b]?=some o:=(h.block b (Y1.1 j).1 hs).trans j
def ownsRow(h:Keep S A B){base:Nat}{e:TypeId}{size:Nat}{v:Value}{n:Nat}{y:List Value}(w:A.ownsRow base e size v n y)(hs:∀g,v.ownBlock=some g->¬S g):B.ownsRow base e size v n y:=by
 refine⟨w.1,?_⟩;rcases w.2 with C|⟨g,j,o,rfl,hb,u,rest⟩
 .exact .inl C
 .exact .inr ⟨g,j,o,rfl,hb,h.obj u (hs g rfl),rest⟩
end Keep
def zbY{α:Type}(P:Program)(E:Nat)(F:Array Value)(o:α->Array Value)(T C:Nat->Prop)(y:List α)(W:World):Prop:=
 ∀(l:Nat)(J u:List α->World->Prop),
  (∀pre A B,J pre A->Keep T A B->J pre B)->(∀pre A B,u pre A->Keep T A B->u pre B) ->
  (∀pre x w,J pre w->pre++[x] <+: y->YieldAt Fence.wide 7 P l (o x) w λe j=>
    (e=.returned (.bool true)/\J (pre++[x]) j/\Keep (λk=>¬C k) w j)\/(e=.returned (.bool false)/\u (pre++[x]) j)) ->
  J [] W ->
  CallsIn Fence.wide 8 P E (#[.func (.yield l) #[] #[]]++F) W λe j=>(∃v,e=.returned v)/\(J y j\/∃pre,pre <+: y/\u pre j)
def ziO{α:Type}(Sb:Nat->Prop)(I:List α->World->Prop)(o:Code->List α->World->Prop)(j:List α)(W:World):Exit->Act->World->Prop
 |.normal,_,W'=>Keep Sb W W'/\I j W'
 |.ret,_,W'=>Keep Sb W W'/\o .ret j W'
 |.exit id,_,W'=>Keep Sb W W'/\o (.exit id) j W'
 |.goto t,_,W'=>Keep Sb W W'/\o (.goto t) j W'
 |.panic _,_,_=>False
 |.outgrown,_,_=>False
def ziP{α:Type}{P:Program}{g:Operand}{ps:Array Tmp}{assign body:Code}{Q:Exit->Act->World->Prop}{a:Act}{w:World}
 (gf:Nat) (lb:Array Value) (hg:a.eval g=.func (.func gf) #[] lb) (eg:∀ad w,(callFunc gf ad).run P w=.ok (.enter gf ad) w)
 (J:α->Array Value) (aF:∀x,(J x).size=ps.size) (T Pr:Nat->Prop) (xs:List α)
 (aC:∀W,Keep (λ_=>False) w W->W.heap.size=w.heap.size+2->zbY P gf lb J T Pr xs W)
 (Sb:Nat->Prop) (L:∀k,Sb k->¬Pr k/\k≠w.heap.size/\k≠w.heap.size+1)
 (ae:¬Pr (w.heap.size+1)) (ab:¬T w.heap.size/\¬T (w.heap.size+1))
 (I:List α->World->Prop) (Ix:Code->List α->World->Prop)
 (hI:∀pre A B,I pre A->Keep (λk=>T k\/k=w.heap.size\/k=w.heap.size+1) A B->I pre B)
 (O:∀c pre A B,Ix c pre A->Keep (λk=>T k\/k=w.heap.size\/k=w.heap.size+1) A B->Ix c pre B)
 (h0:I [] w)
 (Ax:List α->α->Act->World->Prop)
 (ar:∀pre x a' A B,Ax pre x a' A->Keep (λk=>k=w.heap.size+1) A B->Ax pre x a' B)
 (U:∀l pre x W,pre++[x] <+: xs->w.heap.size+1<W.heap.size->I pre W ->
   assign.wpIn (Fence.wide.inRound l) 7 P (Exit.then (λa' W'=>Keep Sb W W'/\Ax pre x a' W') (λ_ _ _=>False)) { tmps:=(ps.zip (J x)).foldl (λt (p,v)=>t.setIfInBounds p v) a.tmps,defers:=[] } W)
 (ag:∀l pre x a' W,pre++[x] <+: xs->w.heap.size+1<W.heap.size->Ax pre x a' W->body.wpIn (Fence.wide.inRound l) 7 P (ziO Sb I Ix (pre++[x]) W) a' W)
 (ah:∀W,I xs W->W.heap[w.heap.size]?=some (.deferred (some []))->Q .normal { a with defers:={ target:=.collected w.heap.size,args:=#[] }::a.defers } W)
 (ak:∀c pre W,pre <+: xs->Ix c pre W->W.heap[w.heap.size]?=some (.deferred (some []))->c.wpIn Fence.wide 9 P Q { a with defers:={ target:=.collected w.heap.size,args:=#[] }::a.defers } W) :
 (Code.rangeFunc g ps assign body).wpIn Fence.wide 9 P Q a w:=by
 refine wpIn_rangeFunc ?_;intro fn aB;rw[show Fence.wide.round=none from rfl];obtain⟨u,j⟩:∃u:LoopState->Option Code->Loop,u=λst pe=>{ state:=st,pending:=pe,fn,tmps:=a.tmps,params:=ps,assign,body,defers:=w.heap.size }:=⟨_,rfl⟩;obtain⟨M,S⟩:=xt ((w.alloc (.deferred (some []))).alloc (.loop (u .ready none)));have aw:M.heap[w.heap.size+1]?=some (.loop (u .ready none)):=by
  rw[<-S];have:=tx (w.alloc (.deferred (some []))) (.loop (u .ready none));rwa[tE]at this
 have av:M.heap[w.heap.size]?=some (.deferred (some [])):=by rw[<-S];exact(tC _ _ _ b8).trans (tx w _)
 have am:Keep (λ_=>False) w M:=by rw[<-S];exact((Keep.refl _ _).alloc _).alloc _
 have aG:M.heap.size=w.heap.size+2:=by rw[<-S];simp
 have au:I [] M:=hI _ _ _ h0 (am.mono λ_ _ h=>h.elim);refine⟨w.heap.size+1,[{ target:=.collected w.heap.size,args:=#[] }],M,{ target:=.fn (.func gf) lb,args:=#[.func (.yield (w.heap.size+1)) #[] #[]] },M,gf,
  #[.func (.yield (w.heap.size+1)) #[] #[]]++lb,M,?_,?_,?_,?_,λ_=>b6,?_⟩
 .rw[<-S,j];exact run_enterLoop_outer _ _ _ _ _
 .simp only[resolve,hg];simp[go_sem]
 .intro f' _;trivial
 .simp[invoke,go_sem,eg]
 .refine(aC M am aG (w.heap.size+1)
   (λpre W=>I pre W/\W.heap[w.heap.size+1]?=some (.loop (u .ready none))/\W.heap[w.heap.size]?=some (.deferred (some [])))
   (λpre W=>∃c,Ix c pre W/\W.heap[w.heap.size+1]?=some (.loop (u .done (some c)))/\W.heap[w.heap.size]?=some (.deferred (some [])))
   ?_ ?_ ?_ ⟨au,aw,av⟩).mono ?_
  .rintro pre A B ⟨hi,X,hk⟩ h;exact⟨hI _ _ _ hi (h.mono λ_ _ e=>.inl e),h.obj X ab.2,h.obj hk ab.1⟩
  .rintro pre A B ⟨c,hi,X,hk⟩ h;exact⟨c,O _ _ _ _ hi (h.mono λ_ _ e=>.inl e),h.obj X ab.2,h.obj hk ab.1⟩
  .rintro pre x W ⟨hi,X,hk⟩ aq;have aE:w.heap.size+1<W.heap.size:=(Y1.1 X).1;have hy:=run_yield (P:=P) (args:=J x) X (by rw[j];exact aF x);rw[j]at hy;refine⟨fn,_,assign,body,hy,roundIn_of_wpIn aB (wpIn_mono (U _ pre x W aq aE hi) ?_)⟩;intro e a1 Wa he;cases e with
   | normal=>
     obtain⟨ai,ax⟩:=he;have an:Wa.heap[w.heap.size+1]?=some (.loop (u .ready none)):=ai.obj X λh=>(L _ h).2.2 rfl;have aA:Wa.heap[w.heap.size]?=some (.deferred (some [])):=ai.obj hk λh=>(L _ h).2.1 rfl;have af:w.heap.size+1<Wa.heap.size:=(Y1.1 an).1;refine⟨_,run_beginRound an (by rw[j]),?_⟩;obtain⟨Y,ac⟩:=xt (Wa.putObj (w.heap.size+1) (.loop { u .ready none with state:=.busy }));rw[ac];have V:Keep (λk=>k=w.heap.size+1) Wa Y:=(by rw[<-ac];exact(Keep.refl (λk=>k=w.heap.size+1) Wa).putObj (λ_=>rfl) _);have aD:Y.heap[w.heap.size+1]?=some (.loop { u .ready none with state:=.busy }):=(by rw[<-ac];exact Ts af);have ay:Y.heap[w.heap.size]?=some (.deferred (some [])):=V.obj aA b6;refine wpIn_mono (ag _ pre x a1 Y aq (by rw[<-ac];simpa using af) (ar _ _ _ _ _ ax V)) ?_;have fin:∀(y:Option Code)(N:World),Keep Sb Y N->∃Z,
      (Instr.endRound (w.heap.size+1) y).run P N=.ok (.bool y.isNone) Z /\
      Z.heap[w.heap.size+1]?=some (.loop (u (if y.isNone then .ready else .done) y)) /\
      Z.heap[w.heap.size]?=some (.deferred (some []))/\Keep (λk=>k=w.heap.size+1) N Z/\Keep (λk=>¬Pr k) W Z:=λy N o=>by
      have aj:=o.obj aD λh=>(L _ h).2.2 rfl;have az:=o.obj ay λh=>(L _ h).2.1 rfl;have C:=run_endRound (P:=P) y aj;rw[j]at C aj⊢;refine⟨_,C,Ts (Y1.1 aj).1,(tW b6).trans az,(Keep.refl (λk=>k=w.heap.size+1) N).putObj (λ_=>rfl) _,?_⟩;have e1:Keep (λk=>¬Pr k) W Wa:=ai.mono λk _ h=>(L k h).1;have e2:Keep (λk=>¬Pr k) Wa Y:=V.mono λk _ h=>(by cases h;exact ae);have e3:Keep (λk=>¬Pr k) Y N:=o.mono λk _ h=>(L k h).1;exact(((e1.trans e2).trans e3)).putObj (λ_=>ae) _
     rintro e a3 N hp;cases e with
     |normal=>obtain⟨o,F⟩:=hp;obtain⟨Z,C,H,E,G,K⟩:=fin none N o;exact⟨_,_,C,.inl ⟨rfl,⟨hI _ _ _ F (G.mono λ_ _ e=>.inr (.inr e)),H,E⟩,K⟩⟩
     |ret=>obtain⟨o,F⟩:=hp;obtain⟨Z,C,H,E,G,K⟩:=fin (some .ret) N o;exact⟨_,_,C,.inr ⟨rfl,.ret,O _ _ _ _ F (G.mono λ_ _ e=>.inr (.inr e)),H,E⟩⟩
     |exit id=>obtain⟨o,F⟩:=hp;obtain⟨Z,C,H,E,G,K⟩:=fin (some (.exit id)) N o;exact⟨_,_,C,.inr ⟨rfl,.exit id,O _ _ _ _ F (G.mono λ_ _ e=>.inr (.inr e)),H,E⟩⟩
     |goto t=>obtain⟨o,F⟩:=hp;obtain⟨Z,C,H,E,G,K⟩:=fin (some (.goto t)) N o;exact⟨_,_,C,.inr ⟨rfl,.goto t,O _ _ _ _ F (G.mono λ_ _ e=>.inr (.inr e)),H,E⟩⟩
     |panic ch=>exact hp.elim
     |outgrown=>exact hp.elim
   |ret=>exact he.elim
   |exit id=>exact he.elim
   |goto t=>exact he.elim
   |panic ch=>exact he.elim
   |outgrown=>exact he.elim
  .rintro e Y ⟨⟨v,rfl⟩,(⟨hi,X,hk⟩|⟨pre,ao,c,hi,X,hk⟩)⟩
   .have C:=T7 (P:=P) X (by rw[j];simp);refine⟨none,_,by rw[j]at C;exact C,ah _ (hI _ _ _ hi ((Keep.refl _ _).putObj (λ_=>.inr (.inr rfl)) _)) ((tW b6).trans hk)⟩
   .have C:=T7 (P:=P) X (by rw[j];simp);refine⟨some c,_,by rw[j]at C;exact C,ak c pre _ ao (O _ _ _ _ hi ((Keep.refl _ _).putObj (λ_=>.inr (.inr rfl)) _)) ((tW b6).trans hk)⟩
end
section
open Go.RowKit
abbrev VP:=Value->World->Prop
abbrev qe:Nat->Prop:=λ_=>False
def zJ(ops:Array Oper)(j:Nat):Option Tmp:=(ops[j]?).bind (·.dst)
def edge(ops:Array Oper)(i j:Nat):Bool:=match ops[i]? with|some o=>o.after.any λe=>Region.binds .any e && e.on == j|none=>false
def zA(o:Oper):List Tmp:=o.op.operands.toList.filterMap λ| .tmp t=>some t|_=>none
def RdEq(a:Act)(t:Tmp)(u:Value):Prop:=a.eval (.tmp t)=u/\a.tmps.getD t undef=u/\a.tmps[t]?.getD undef=u
def RdEq.of{a:Act}{t:Tmp}{u:Value}(h:a.tmps.getD t undef=u):RdEq a t u:=⟨h,h,by rw[<-h];simp⟩
def XG(ops:Array Oper)(nh:Nat)(t:Tmp):Option Nat:=(List.range nh).find? λj=>zJ ops j == some t
def yB(ops:Array Oper)(nh i:Nat)(t:Tmp):Bool:=
 match XG ops nh t with
 |some j=>if j<i then edge ops i j else if i<j then edge ops j i else true
 |none=>true
def xk(ops:Array Oper)(nh u:Nat):Bool:=
 decide (nh<=ops.size) &&
 (List.range nh).all λi=>
   match ops[i]? with
   |none=>false
   | some o=>((zA o).all (yB ops nh i)) &&
     (match o.guard with|none=>true|some (j,_)=>decide (j<i) && edge ops i j && (zJ ops j).isSome) &&
     (match o.dst with|none=>true|some d=>decide (d<u) && (List.range nh).all λj=>decide (j=i) || !(zJ ops j == some d)) &&
     (decide (nh=ops.size) || (List.range (nh+1)).any λj=>decide (i<j) && edge ops j i)
def yK(ops:Array Oper)(nh:Nat):Bool:=(List.range ops.size).all λt=>(decide (t<=nh) || edge ops t (t-1)) && match ops[t]? with|some o=>o.after.all λe=>!Region.binds .any e || decide (e.on<t)|none=>false
section
variable {ops:Array Oper}{nh:Nat}
def Z1{i j:Nat}{o:Oper}(ho:ops[i]?=some o):edge ops i j=true↔∃e∈o.after,Region.binds .any e=true/\e.on=j:=by
 unfold edge;simp only[ho];rw[Array.any_eq_true'];constructor
 .rintro⟨e,u,hb⟩;simp only[wh,tu]at hb;exact⟨e,u,hb.1,hb.2⟩
 .rintro⟨e,u,hb,rfl⟩;exact⟨e,u,by simp[hb]⟩
def zx{j:Array Bool}{i:Nat}(h:j.getD i true=false):j.getD i false=false/\i<j.size:=by
 rcases wO i j.size with o|o
 .simp[o]at h⊢;exact h
 .simp[ue o]at h
def zfm{j:Array Bool}{i:Nat}(h:j.getD i false=false)(hi:i<j.size):j.getD i true=false:=by simp[hi]at h⊢;exact h
def zl{j:Array Bool}{i:Nat}(hi:i<j.size):(j.setIfInBounds i true).getD i false=true:=by simp[hi]
def zj{o:Array Bool}{i j:Nat}(h:j≠i):(o.setIfInBounds i true).getD j false=o.getD j false:=by simp[ur (Um h)]
def yh{a:Act}{d:Tmp}{u:Value}(h:d<a.tmps.size):(a.put (some d) u).tmps.getD d undef=u:=by simp[Act.put,h]
def qn{a:Act}{d t:Tmp}{u:Value}(h:t≠d):(a.put (some d) u).tmps.getD t undef=a.tmps.getD t undef:=by simp[Act.put,ur (Um h)]
def chk_at{C i:Nat}(h:xk ops nh C=true)(hi:i<nh):∃o,ops[i]?=some o/\(∀t∈zA o,yB ops nh i t=true) /\
 (∀j b,o.guard=some (j,b)->j<i/\edge ops i j=true/\(zJ ops j).isSome)/\(∀d,o.dst=some d->d<C/\∀j,j<nh->zJ ops j=some d->j=i) /\
 (nh=ops.size\/∃j,j<=nh/\i<j/\edge ops j i=true):=by
 unfold xk at h;simp only[wh,wP,WW]at h;have h:=h.2 i hi;cases ho:ops[i]? with
 |none=>simp[ho]at h
 | some o=>
   simp only[ho,wh,wP,WM,wJ,UC,WW]at h;obtain⟨⟨⟨E,u⟩,w⟩,y⟩:=h;refine⟨o,rfl,E,?_,?_,?_⟩
   .intro j b I;simp only[I,wh,wJ]at u;exact⟨u.1.1,u.1.2,u.2⟩
   .intro d H;simp only[H,wh,wJ,wP,WW,WM,Wq,uh]at w;exact⟨w.1,λj B e=>(w.2 j B).resolve_right λA=>A e⟩
   .rcases y with y|⟨j,B,F,G⟩
    .exact .inl y
    .exact .inr ⟨j,b6,F,G⟩
def xf{t:Tmp}{j:Nat}(h:XG ops nh t=some j):j<nh/\zJ ops j=some t:=by have o:=List.find?_some h;have u:=uL h;simp at o u;exact⟨u,o⟩
def jw{t:Tmp}{j:Nat}(u:j<nh)(h:zJ ops j=some t):∃o,XG ops nh t=some o:=by
 cases hw:XG ops nh t with
 |some o=>exact⟨o,rfl⟩
 |none=>have:=uW.1 hw j (dM u);simp[h]at this
def Act.ext'{a b:Act}(hs:a.tmps.size=b.tmps.size)(o:a.defers=b.defers)(h:∀t,t<b.tmps.size->a.tmps.getD t undef=b.tmps.getD t undef):a=b:=by
 obtain⟨w,A⟩:=a;obtain⟨y,db⟩:=b;simp only at hs o h;subst o;have:w=y:=Array.ext hs λi u j=>by have:=h i j;simpa[u,j]using this
 rw[this]
def yS{j:Nat}{d:Tmp}{tmps:Array Value}(o:zJ ops j=some d)(hs:d<tmps.size):yielded ops tmps j=match tmps.getD d undef with|.bool b=>some b|_=>none:=by
 unfold yielded;unfold zJ at o;rw[o];simp only[Option.bind_some,Wj hs,wC,WX];split<;>simp_all
def qP{t:Nat}(h:yK ops nh=true)(ht:t<ops.size):(t<=nh\/edge ops t (t-1)=true)/\∀j,edge ops t j=true->j<t:=by
 unfold yK at h;rw[wP]at h;have h:=h t (dM ht);simp only[wh,WM,wJ]at h;refine⟨h.1,λj y=>?_⟩;have u:=h.2;cases ho:ops[t]? with
 |none=>simp[ho]at u
 |some o=>simp only[ho,Array.all_eq_true']at u;obtain⟨e,w,hb,rfl⟩:=(Z1 ho).1 y;have:=u e w;simpa[hb]using this
def zo{i:Nat}{u:Array Bool}(h:i∈Region.ready .any ops u):u.getD i true=false/\i<ops.size/\(∃o,ops[i]?=some o)/\∀j,edge ops i j=true->u.getD j false=true:=by obtain⟨w,o,ho,y⟩:=mem_ready.1 h;refine⟨w,(Y1.1 ho).1,⟨o,ho⟩,λj B=>?_⟩;obtain⟨e,A,hb,rfl⟩:=(Z1 ho).1 B;exact y e A hb
def zd1{i:Nat}{u:Array Bool}{o:Oper}(ho:ops[i]?=some o)(w:u.getD i true=false)(y:∀j,edge ops i j=true->u.getD j false=true):i∈Region.ready .any ops u:=
 mem_ready.2 ⟨w,o,ho,λe A hb=>y _ ((Z1 ho).2 ⟨e,A,hb,rfl⟩)⟩
def qh{o:Array Bool}(w:yK ops nh=true)(hs:o.size=ops.size):∀(i:Nat),i<ops.size->o.getD i false=false->∃k,k∈Region.ready .any ops o:=by
 intro i;induction i using Nat.strongRecOn with
 | _ i ih=>
   intro hi A;by_cases u:∀j,edge ops i j=true->o.getD j false=true
   .exact⟨i,zd1 (Wj hi) (zfm A b6) u⟩
   .have:∃j,edge ops i j=true/\o.getD j false=false:=by
     apply wY;intro B;refine u λj y=>?_;cases h:o.getD j false with
     |true=>rfl
     |false=>exact absurd ⟨j,y,h⟩ B
    obtain⟨j,y,C⟩:=this;have:=(qP w hi).2 j y;exact ih j this b6 C
def qM:∀(l S:List Nat),l.Nodup->l⊆S->l.length<=S.length
 |[],_,_,_=>vj _
 |x::l,S,hn,hs=>by have j:x∈S:=hs b8;have u:l⊆S.erase x:=λy o=>(W9 (λe=>(UM.1 hn).1 (by rw[<-e];exact o))).2 (hs (by simp[o]));have:=qM l (S.erase x) (UM.1 hn).2 u;rw[WK j]at this;have:=um j;simp;omega
end
structure Hd(p:Prop):Prop where
 h:p
end
namespace Pl
open Go.RowKit
set_option linter.unusedSectionVars false
abbrev VP(Ω:Type):=Value->Ω->Prop
class Kpo (Ω:Type) where
 kp:Ω->Ω->Prop
 refl:∀w,kp w w
 trans:∀a b c,kp a b->kp b c->kp a c
variable {Ω:Type}[Kpo Ω]
def lk:List (Option Tmp×VP Ω)->Tmp->Option (VP Ω)
 |[],_=>none
 |(d,V)::r,t=>if d=some t then some V else lk r t
def Rds(j:List (Option Tmp×VP Ω))(a0:Act):List Tmp->Act->Ω->Prop
 |[],_,_=>True
 |t::ts,a,w=>(match lk j t with|some V=>∃u,RdEq a t u/\V u w|none=>RdEq a t (a0.tmps.getD t undef))/\Rds j a0 ts a w
def headOk(A:Oper->Act->Ω->(Act->Ω->Prop)->Prop)(a0:Act)(w0:Ω)(C:Ω->Prop)(y:List (Option Tmp×VP Ω))(o:Oper)(V:VP Ω):Prop:=
 ∀a w,C w->Kpo.kp w0 w->Rds y a0 (zA o) a w->∀K:Act->Ω->Prop,(∀u j,Kpo.kp w j->C j->V u j->K (a.put o.dst u) j)->A o a w K
def isV(o:List (Option Tmp×VP Ω))(j:Nat)(x:Value):Prop:=match o[j]? with|some (_,V)=>∀u w,V u w->u=x|none=>False
def stepOk(y:Oper->Act->Ω->(Act->Ω->Prop)->Prop)(a0:Act)(w0:Ω)(C:Ω->Prop)(w:List (Option Tmp×VP Ω))(o:Oper)(V:VP Ω):Prop:=
 match o.guard with
 |none=>headOk y a0 w0 C w o V
 |some (j,b)=>(isV w j (.bool b)/\headOk y a0 w0 C w o V)\/((isV w j (.bool !b)\/isV w j undef)/\V=λu _=>u=undef)
def finG(F:Act->Ω->Prop)(w:Ω):List (Option Tmp×VP Ω)->Act->Prop
 |[],a=>F a w
 |(none,_)::r,a=>finG F w r a
 |(some d,V)::r,a=>∀u,V u w->finG F w r (a.put (some d) u)
def walkG(j:Oper->Act->Ω->(Act->Ω->Prop)->Prop)(a0:Act)(w0:Ω)(C:Ω->Prop)(F:Act->Ω->Prop):List Oper->List (Option Tmp×VP Ω)->Prop
 |[],env=>∀w,C w->Kpo.kp w0 w->finG F w env a0
 |o::l,env=>∃V:VP Ω,(∀u w y,V u w->Kpo.kp w y->V u y)/\stepOk j a0 w0 C env o V/\walkG j a0 w0 C F l (env++[(o.dst,V)])
structure GI(ops:Array Oper)(nh:Nat)(a0:Act)(w0:Ω)(C:Ω->Prop)(env:List (Option Tmp×VP Ω))(listed:Array Bool)(a:Act)(w:Ω):Prop where
 size:listed.size=ops.size
 closed:∀i j,listed.getD i false=true->edge ops i j=true->listed.getD j false=true
 heads:∀i,listed.getD i false=true->i<nh
 c:C w
 keep:Kpo.kp w0 w
 vals:∀j d V,listed.getD j false=true->env[j]?=some (some d,V)->V (a.tmps.getD d undef) w
 rest:∀t,(∀j,listed.getD j false=true->zJ ops j≠some t)->a.tmps.getD t undef=a0.tmps.getD t undef
 tsize:a.tmps.size=a0.tmps.size
 defers:a.defers=a0.defers
section
variable {ops:Array Oper}{nh:Nat}{a0:Act}{w0:Ω}{C:Ω->Prop}
def lk_some{o:List (Option Tmp×VP Ω)}{t:Tmp}{V:VP Ω}(h:lk o t=some V):∃j:Nat,o[j]?=some (some t,V):=by
 induction o with
 |nil=>cases h
 | cons x r ih=>
   obtain⟨d,w⟩:=x;unfold lk at h;split at h
   .rename_i e;cases h;exact⟨0,by simp[e]⟩
   .obtain⟨j,u⟩:=ih h;exact⟨j+1,dM u⟩
def lk_none{o:List (Option Tmp×VP Ω)}{t:Tmp}(h:lk o t=none):∀(j:Nat) V,o[j]?≠some (some t,V):=by
 induction o with
 |nil=>intro j V;simp
 | cons x r ih=>
   obtain⟨d,w⟩:=x;unfold lk at h;split at h
   .cases h
   .rename_i e;intro j V;cases j with
    |zero=>simp;intro u;exact absurd u e
    |succ j=>simpa using ih h j V
def ChkR(ops:Array Oper)(nh u:Nat):Prop:=∀i,i<nh->∃o,ops[i]?=some o/\(∀t∈zA o,yB ops nh i t=true) /\
 (∀j b,o.guard=some (j,b)->j<i/\edge ops i j=true/\(zJ ops j).isSome)/\(∀d,o.dst=some d->d<u/\∀j,j<nh->zJ ops j=some d->j=i)
omit [Kpo Ω] in
def chkR_of{j:Nat}(h:xk ops nh j=true):ChkR ops nh j:=λi hi=>by obtain⟨o,u,w,y,A,_⟩:=chk_at h hi;exact⟨o,u,w,y,A⟩
def GI.rds{nt i:Nat}{o:Oper}{env G:List (Option Tmp×VP Ω)}{y:Array Bool}{a:Act}{w:Ω}(U:GI ops nh a0 w0 C G y a w)(H:ChkR ops nh nt)
 (hi:i<nh) (ho:ops[i]?=some o) (Q:y.getD i false=false) (F:∀j,edge ops i j=true->y.getD j false=true)
 (N:env.length=i) (O:∀j:Nat,j<i->G[j]?=env[j]?) (I:∀(j:Nat) x,env[j]?=some x->zJ ops j=x.1) :
 ∀T:List Tmp,(∀t∈T,yB ops nh i t=true)->Rds env a0 T a w:=by
 intro T;induction T with
 |nil=>intro _;trivial
 | cons t T ih=>
   intro P;refine⟨?_,ih λt' h'=>P t' (by simp[h'])⟩;have B:=P t b8;unfold yB at B;cases hl:lk env t with
   |some V=>obtain⟨j,Y⟩:=lk_some hl;have K:j<i:=(by rw[<-N];exact(ZZ.1 Y).1);have u:=I j _ Y;obtain⟨A,S⟩:=jw (nh:=nh) (show j<nh by omega) u;obtain⟨Z,w2⟩:=xf S;obtain⟨oj,J,_,_,X⟩:=H j (show j<nh by omega);have:A=j:=(X t (by unfold zJ at u;rw[J]at u;exact u)).2 A Z w2;subst this;simp only[S,VS K]at B;have:=U.vals A t V (F A B) (by rw[O A K];exact Y);exact⟨_,RdEq.of rfl,this⟩
   | none=>
     refine RdEq.of (U.rest t λj E u=>?_);have M:=U.heads j E;obtain⟨A,S⟩:=jw M u;obtain⟨Z,w2⟩:=xf S;obtain⟨oj,J,_,_,X⟩:=H _ M;have:A=j:=(X t (by unfold zJ at u;rw[J]at u;exact u)).2 A Z w2;subst this;simp only[S]at B;by_cases h1:A<i
     .have L:A<env.length:=b6;have:=I A _ (Zv L);rw[u]at this;exact lk_none hl A env[A].2 (by rw[Zv L];congr 1;exact Us this.symm rfl)
     .rw[V2 h1]at B;by_cases h2:i<A
      .rw[VS h2]at B;have:=U.closed A i E B;rw[Q]at this;cases this
      .have:A=i:=b6;subst this;rw[Q]at E;cases E
def GI.step{nt i:Nat}{o:Oper}{V:VP Ω}{B:List (Option Tmp×VP Ω)}{y:Array Bool}{a:Act}{w J:Ω}{u:Value}(E:GI ops nh a0 w0 C B y a w)(L:ChkR ops nh nt)
 (U:a0.tmps.size=nt) (hi:i<nh) (ho:ops[i]?=some o) (Z:y.getD i true=false) (I:∀j,edge ops i j=true->y.getD j false=true)
 (Y:∀(j:Nat) d V,B[j]?=some (d,V)->∀u w J,V u w->Kpo.kp w J->V u J) (N:∀(j:Nat) x,B[j]?=some x->zJ ops j=x.1)
 (hV:B[i]?=some (o.dst,V)) (hk:Kpo.kp w J) (hc:C J) (hu:V u J):GI ops nh a0 w0 C B (y.setIfInBounds i true) (a.put o.dst u) J:=by
 obtain⟨hf,O⟩:=zx Z;have T:∀j,(y.setIfInBounds i true).getD j false=true->j=i\/y.getD j false=true:=λj A=>by
  by_cases e:j=i
  .exact .inl e
  .exact .inr (by rwa[zj e]at A)
 have H:∀j,y.getD j false=true->(y.setIfInBounds i true).getD j false=true:=λj A=>by
  by_cases e:j=i
  .subst e;exact zl O
  .rwa[zj e]
 obtain⟨P,X,_,_,hd⟩:=L _ hi;obtain rfl:P=o:=wH (X.symm.trans ho);refine⟨by simp[E.size],?_,?_,hc,Kpo.trans _ _ _ E.keep hk,?_,?_,?_,?_⟩
 .intro j k A he;rcases T j A with rfl|A
  .exact H _ (I k he)
  .exact H _ (E.closed j k A he)
 .intro j A;rcases T j A with rfl|A
  .exact hi
  .exact E.heads j A
 .intro j d V' A F;have Q:=N j _ F;rcases T j A with rfl|G
  .have K:=hV.symm.trans F;simp only[wS,U3]at K;obtain⟨M,rfl⟩:=K;rw[M,yh (by rw[E.tsize,U];exact(hd d M).1)];exact hu
  .have:=Y j _ _ F _ _ _ (E.vals j d V' G F) hk;cases hod:P.dst with
   |none=>exact this
   | some d'=>
     rw[qn]
     .exact this
     .intro e;subst e;have S:=E.heads j G;have:=(hd d hod).2 j S Q;subst this;rw[hf]at G;cases G
 .intro t ht;cases hod:P.dst with
  |none=>exact E.rest t λj A=>ht j (H j A)
  | some d'=>
    rw[qn]
    .exact E.rest t λj A=>ht j (H j A)
    .intro e;subst e;exact ht i (zl O) (by unfold zJ;rw[ho];exact hod)
 .rw[<-E.tsize];cases P.dst<;>simp[Act.put]
 .rw[<-E.defers];cases P.dst<;>simp[Act.put]
def fillA(a:Act)(b:Act)(x:Option Tmp×VP Ω):Act:=match x.1 with|none=>b|some d=>b.put (some d) (a.tmps.getD d undef)
def finG_fill{F:Act->Ω->Prop}{w:Ω}{a:Act}:∀(j:List (Option Tmp×VP Ω))(b:Act),finG F w j b->(∀d V,(some d,V)∈j->V (a.tmps.getD d undef) w)->F (j.foldl (fillA a) b) w
 |[],_,h,_=>h
 |(none,_)::r,b,h,hv=>finG_fill r b h λd V o=>hv d V (by simp[o])
 |(some d,V)::r,b,h,hv=>finG_fill r _ (h _ (hv d V b8)) λd V o=>hv d V (by simp[o])
def fill_getD{a:Act}(t:Tmp):∀(o:List (Option Tmp×VP Ω))(b:Act),t<b.tmps.size->((∃V,(some t,V)∈o)\/b.tmps.getD t undef=a.tmps.getD t undef) ->
 (o.foldl (fillA a) b).tmps.getD t undef=a.tmps.getD t undef
 |[],b,_,h=>h.resolve_left (by rintro⟨V,j⟩;cases j)
 |(none,V)::r,b,hs,h=>fill_getD t r b hs (by
     rcases h with⟨u,j⟩|h
     .simp at j;exact .inl ⟨u,j⟩
     .exact .inr h)
 |(some d,V)::r,b,hs,h=>fill_getD t r (b.put (some d) (a.tmps.getD d undef)) (by simpa[Act.put]using hs) (by
     by_cases e:t=d
     .subst e;exact .inr (yh hs)
     .rcases h with⟨u,j⟩|h
      .simp[e]at j;exact .inl ⟨u,j⟩
      .exact .inr ((qn e).trans h))
def fill_size{a:Act}:∀(j:List (Option Tmp×VP Ω))(b:Act),(j.foldl (fillA a) b).tmps.size=b.tmps.size/\(j.foldl (fillA a) b).defers=b.defers
 |[],_=>⟨rfl,rfl⟩
 |(none,_)::r,b=>fill_size r b
 |(some d,V)::r,b=>by have:=fill_size (a:=a) r (b.put (some d) (a.tmps.getD d undef));exact⟨this.1.trans (by simp[Act.put]),this.2.trans (by simp[Act.put])⟩
def GI.fin{F:Act->Ω->Prop}{o:List (Option Tmp×VP Ω)}{u:Array Bool}{a:Act}{w:Ω}(y:GI ops nh a0 w0 C o u a w)(H:o.length=nh)
 (E:∀(j:Nat) x,o[j]?=some x->zJ ops j=x.1) (B:∀i,i<nh->u.getD i false=true)
 (M:finG F w o a0):F a w:=by
 have K:=finG_fill (a:=a) o a0 M λd V O=>by obtain⟨j,A⟩:=wN O;exact y.vals j d V (B j (by rw[<-H];exact(ZZ.1 A).1)) A
 have L:o.foldl (fillA a) a0=a:=by
  obtain⟨P,Q⟩:=fill_size (a:=a) o a0;refine Act.ext' (P.trans y.tsize.symm) (Q.trans y.defers.symm) λt ht=>fill_getD t o a0 (by rw[<-y.tsize];exact ht) ?_;by_cases J:∃j,u.getD j false=true/\zJ ops j=some t
  .obtain⟨j,A,I⟩:=J;have N:=y.heads j A;have G:j<o.length:=b6;have:=E j _ (Zv G);rw[I]at this;exact .inl ⟨o[j].2,by rw[show (some t,o[j].2)=o[j] from Us this rfl];exact X3 G⟩
  .exact .inr (y.rest t λj A I=>J ⟨j,A,I⟩).symm
 rwa[L]at K
def isV_of{u o:List (Option Tmp×VP Ω)}{i j:Nat}{x:Value}(h:isV u j x)(w:∀j:Nat,j<i->o[j]?=u[j]?)(y:j<i):isV o j x:=by unfold isV at *;rw[w j y];exact h
def gcore{nt:Nat}(av:Oper->Act->Ω->(Act->Ω->Prop)->Prop)(step:Nat->(Act->Ω->Prop)->Act->Ω->Prop)(W:Nat->Array Bool->Act->Ω->Prop)(Qn:Act->Ω->Prop)(T:Nat->Act->Ω->Prop)
 (ag:∀i o K a w,ops[i]?=some o->(if Region.wanted o (yielded ops a.tmps) then av o a w K else K (a.put o.dst undef) w)->step i K a w)
 (af:∀i K K' a w,(∀a w,K a w->K' a w)->step i K a w->step i K' a w)
 (ay:∀y a w,Region.ready .any ops y=[]->Qn a w->W 0 y a w)
 (hW:∀A y a w,(Region.ready .any ops y=[]->Qn a w)->(∀i∈Region.ready .any ops y,step i (W A (y.setIfInBounds i true)) a w)->W (A+1) y a w)
 (hT:∀k a w,k<ops.size->T k a w->step k (T (k+1)) a w) (ah:∀a w,T ops.size a w->Qn a w)
 (G:xk ops nh nt=true) (P:yK ops nh=true) (aG:nh<=ops.size) (aq:a0.tmps.size=nt) (B:List (Option Tmp×VP Ω)) (an:B.length=nh)
 (aM:∀(j:Nat) d V,B[j]?=some (d,V)->∀u w X,V u w->Kpo.kp w X->V u X) (H:∀(j:Nat) x,B[j]?=some x->zJ ops j=x.1)
 (aK:∀(i:Nat) o V,ops[i]?=some o->B[i]?=some (o.dst,V)->stepOk av a0 w0 C (B.take i) o V)
 (ak:∀w,C w->Kpo.kp w0 w->finG (T nh) w B a0) :
 ∀(A:Nat)(y:Array Bool)(a:Act)(w:Ω)(S:List Nat),GI ops nh a0 w0 C B y a w->(∀i,i<ops.size->y.getD i false=false->i∈S)->S.length<=A->W A y a w:=by
 -- the tail
 have tail:∀(A k:Nat)(y:Array Bool)(a:Act)(w:Ω),y.size=ops.size->(∀i,y.getD i false=true↔i<k)->nh<=k->k<=ops.size->ops.size-k<=A->T k a w->W A y a w:=by
  intro A;induction A with
  |zero=>intro k y a w hs hl _ hk hf ht;obtain rfl:k=ops.size:=b6;refine ay _ _ _ ?_ (ah _ _ ht);refine WA.2 λi hi=>?_;obtain⟨J,O,_⟩:=zo hi;have:=(zx J).1;rw[(hl i).2 O]at this;cases this
  | succ A ih=>
    intro k y a w hs hl hn hk hf ht;by_cases aE:k=ops.size
    .subst aE;have ao:Region.ready .any ops y=[]:=WA.2 λi hi=>by obtain⟨J,O,_⟩:=zo hi;have:=(zx J).1;rw[(hl i).2 O]at this;cases this
     exact hW _ _ _ _ (λ_=>ah _ _ ht) λi hi=>by rw[ao]at hi;cases hi
    .refine hW _ _ _ _ (λh0=>?_) λi hi=>?_
     .exfalso;have hu:y.getD k false=false:=by
       cases h:y.getD k false with
       |false=>rfl
       |true=>have:=(hl k).1 h;omega
      obtain⟨j,L⟩:=qh P hs k b6 hu;rw[h0]at L;cases L
     .obtain⟨J,O,_,Y⟩:=zo hi;have aS:¬i<k:=λh=>(by have:=(zx J).1;rw[(hl i).2 h]at this;cases this);have:i=k:=by
       rcases (qP P O).1 with h|h
       .omega
       .have:=(hl _).1 (Y _ h);omega
      subst this;refine af _ _ _ _ _ (λa' X aN=>ih (i+1) _ _ _ (by simp[hs]) (λj=>?_) b6 b6 b6 aN) (hT i a w O ht);by_cases e:j=i
      .subst e;simp[zl (zx J).2]
      .rw[zj e,hl];omega
 intro A;have aw:∀(y:Array Bool)(a:Act)(w:Ω),GI ops nh a0 w0 C B y a w->nh∈Region.ready .any ops y->∀(n i:Nat),nh-i=n->i<nh->y.getD i false=true:=by
  intro y a w F hr n;obtain⟨J,O,_,Y⟩:=zo hr;induction n using Nat.strongRecOn with
  |_ n ih=>
    intro i hn hi;obtain⟨_,_,_,_,_,h4⟩:=chk_at G hi;rcases h4 with h4|⟨j,L,aR,he⟩
    .omega
    .by_cases e:j=nh
     .subst e;exact Y i he
     .exact F.closed j i (ih (nh-j) b6 j rfl b6) he
 have full:∀(A:Nat)(y:Array Bool)(a:Act)(w:Ω),GI ops nh a0 w0 C B y a w->(∀i,i<nh->y.getD i false=true)->ops.size-nh<=A->W A y a w:=by intro A y a w F E hf;exact tail A nh y a w F.size (λi=>⟨F.heads i,E i⟩) (Zp _) aG hf (F.fin an H E (ak w F.c F.keep))
 induction A with
 | zero=>
   intro y a w S F hS hf;have E:∀i,i<ops.size->y.getD i false=true:=λi hi=>by
    cases h:y.getD i false with
    |true=>rfl
    |false=>have:=hS i hi h;rw[wM (b6:S.length=0)]at this;cases this
   have:nh=ops.size:=(by apply wY;intro aT;have:=F.heads nh (E nh b6);omega);exact full 0 y a w F (λi hi=>E i b6) b6
 | succ A ih=>
   intro y a w S F hS hf;by_cases E:∀i,i<nh->y.getD i false=true
   ·-- all of the head has come
    refine full _ y a w F E ?_;have ar:(List.range' nh (ops.size-nh))⊆S:=λi hi=>by
     simp only[uN]at hi;refine hS i b6 ?_;cases h:y.getD i false with
     |false=>rfl
     |true=>have:=F.heads i h;omega
    have aF:(List.range' nh (ops.size-nh)).Nodup:=Ub;have:=qM _ _ aF ar;simp at this;omega
   ·have au:∃i,i<nh/\y.getD i false=false:=by
     apply wY;intro hn;refine E λi hi=>?_;cases h:y.getD i false with
     |true=>rfl
     |false=>exact absurd ⟨i,hi,h⟩ hn
    refine hW _ _ _ _ (λh0=>?_) λi hi=>?_
    .exfalso;obtain⟨i,hi,hu⟩:=au;obtain⟨j,L⟩:=qh P F.size i b6 hu;rw[h0]at L;cases L
    .obtain⟨J,O,⟨o,ho⟩,Y⟩:=zo hi;have ad:i<nh:=by
      apply wY;intro aQ;have aH:i=nh:=by
       rcases (qP P O).1 with h|h
       .omega
       .have:=F.heads _ (Y _ h);omega
      subst aH;obtain⟨j,L,hu⟩:=au;rw[aw y a w F hi _ j rfl L]at hu;cases hu
     obtain⟨o',aI,aL,aB,_,_⟩:=chk_at G ad;obtain rfl:o'=o:=wH (aI.symm.trans ho);have am:i<B.length:=b6;have ai:B[i]?=some (o'.dst,B[i].2):=(by have:=H i _ (Zv am);unfold zJ at this;rw[ho]at this;rw[Zv am];exact WU some (Us this.symm rfl));have Z:∀j:Nat,j<i->B[j]?=(B.take i)[j]?:=λj L=>(by rw[wA,VS L]);have ab:=F.rds (env:=B.take i) (chkR_of G) ad ho (zx J).1 Y b7 Z (λj x I=>H j x (by rw[wA]at I;split at I;exact I;cases I)) (zA o') aL;have M:=aK i o' _ ho ai;have ac:∀u X,Kpo.kp w X->C X->B[i].2 u X->W A (y.setIfInBounds i true) (a.put o'.dst u) X:=λu X hk hc hu=>
      ih _ _ _ (S.erase i) (F.step (chkR_of G) aq ad ho J Y aM H ai hk hc hu) (λj L U=>by
       have Q:j≠i:=λe=>(by subst e;rw[zl (zx J).2]at U;cases U);rw[zj Q]at U;exact(W9 Q).2 (hS j L U)) (by rw[WK (hS i O (zx J).1)];omega)
     refine ag i o' _ a w ho ?_;unfold stepOk at M;cases hgu:o'.guard with
     |none=>simp only[hgu]at M;rw[VS (by simp[Region.wanted,hgu])];exact M a w F.c F.keep ab _ ac
     | some jb=>
       obtain⟨j,b⟩:=jb;simp only[hgu]at M;obtain⟨Q,aD,aC⟩:=aB j b hgu;obtain⟨d,hd⟩:=Wd.1 aC;have ae:j<B.length:=b6;have aj:=H j _ (Zv ae);rw[hd]at aj;have aO:=F.vals j d B[j].2 (Y j aD) (by rw[Zv ae];exact WU some (Us aj.symm rfl));obtain⟨oj,aJ,_,_,az,_⟩:=chk_at G (show j<nh by omega);have aA:d<a.tmps.size:=(by rw[F.tsize,aq];exact(az d (by unfold zJ at hd;rw[aJ]at hd;exact hd)).1);have hy:=yS (tmps:=a.tmps) hd aA;have N:∀x,isV (B.take i) j x->a.tmps.getD d undef=x:=λx I=>(by have:=isV_of I Z Q;unfold isV at this;rw[Zv ae]at this;exact this _ _ aO);rcases M with⟨I,hh⟩|⟨I,ax⟩
       .have:=N _ I;rw[this]at hy;rw[VS (by simp[Region.wanted,hgu,hy])];exact hh a w F.c F.keep ab _ ac
       .have aP:yielded ops a.tmps j≠some b:=by
         rcases I with I|I
         .have:=N _ I;rw[this]at hy;rw[hy];cases b<;>simp
         .have:=N _ I;rw[this]at hy;rw[hy];simp[undef]
        rw[V2 (by simp[Region.wanted,hgu];exact aP)];exact ac undef w (Kpo.refl _) F.c (by rw[ax])
def gcoreF{nt:Nat}(aD:Oper->Act->Ω->(Act->Ω->Prop)->Prop)(step:Nat->(Act->Ω->Prop)->Act->Ω->Prop)(W:Nat->Array Bool->Act->Ω->Prop)(Qn:Act->Ω->Prop)(T:Nat->Act->Ω->Prop)
 (aq:∀i o K a w,ops[i]?=some o->(if Region.wanted o (yielded ops a.tmps) then aD o a w K else K (a.put o.dst undef) w)->step i K a w)
 (J:∀i K K' a w,(∀a w,K a w->K' a w)->step i K a w->step i K' a w)
 (aG:∀y a w,Region.ready .any ops y=[]->Qn a w->W 0 y a w)
 (hW:∀A y a w,(Region.ready .any ops y=[]->Qn a w)->(∀i∈Region.ready .any ops y,step i (W A (y.setIfInBounds i true)) a w)->W (A+1) y a w)
 (hT:∀k a w,k<ops.size->T k a w->step k (T (k+1)) a w) (ar:∀a w,T ops.size a w->Qn a w)
 (L:ChkR ops (nh+1) nt) (am:∀i,i<nh->∃j,j<=nh+1/\i<j/\j≠nh/\edge ops j i=true) (ah:nh+2<ops.size->edge ops (nh+2) nh=true) (P:yK ops (nh+1)=true) (aQ:nh+2<=ops.size) (aB:a0.tmps.size=nt) (B:List (Option Tmp×VP Ω)) (ay:B.length=nh+1)
 (aW:∀(j:Nat) d V,B[j]?=some (d,V)->∀u w Z,V u w->Kpo.kp w Z->V u Z) (H:∀(j:Nat) x,B[j]?=some x->zJ ops j=x.1)
 (aU:∀(i:Nat) o V,ops[i]?=some o->B[i]?=some (o.dst,V)->stepOk aD a0 w0 C (B.take i) o V)
 (aw:∀w,C w->Kpo.kp w0 w->finG (T (nh+1)) w B a0) (ai:∀w,C w->Kpo.kp w0 w->finG (λa w=>step (nh+1) (λa w=>step nh (T (nh+2)) a w) a w) w (B.take nh) a0) :
 ∀(A:Nat)(y:Array Bool)(a:Act)(w:Ω)(S:List Nat),GI ops (nh+1) a0 w0 C B y a w->(∀i,i<ops.size->y.getD i false=false->i∈S)->S.length<=A->W A y a w:=by
 -- the tail
 have tail:∀(A k:Nat)(y:Array Bool)(a:Act)(w:Ω),y.size=ops.size->(∀i,y.getD i false=true↔i<k)->nh+1<=k->k<=ops.size->ops.size-k<=A->T k a w->W A y a w:=by
  intro A;induction A with
  |zero=>intro k y a w hs hl _ hk hf ht;obtain rfl:k=ops.size:=b6;refine aG _ _ _ ?_ (ar _ _ ht);refine WA.2 λi hi=>?_;obtain⟨N,O,_⟩:=zo hi;have:=(zx N).1;rw[(hl i).2 O]at this;cases this
  | succ A ih=>
    intro k y a w hs hl hn hk hf ht;by_cases aN:k=ops.size
    .subst aN;have aA:Region.ready .any ops y=[]:=WA.2 λi hi=>by obtain⟨N,O,_⟩:=zo hi;have:=(zx N).1;rw[(hl i).2 O]at this;cases this
     exact hW _ _ _ _ (λ_=>ar _ _ ht) λi hi=>by rw[aA]at hi;cases hi
    .refine hW _ _ _ _ (λh0=>?_) λi hi=>?_
     .exfalso;have M:y.getD k false=false:=by
       cases h:y.getD k false with
       |false=>rfl
       |true=>have:=(hl k).1 h;omega
      obtain⟨j,G⟩:=qh P hs k b6 M;rw[h0]at G;cases G
     .obtain⟨N,O,_,h3⟩:=zo hi;have be:¬i<k:=λh=>(by have:=(zx N).1;rw[(hl i).2 h]at this;cases this);have:i=k:=by
       rcases (qP P O).1 with h|h
       .omega
       .have:=(hl _).1 (h3 _ h);omega
      subst this;refine J _ _ _ _ _ (λa' Z aX=>ih (i+1) _ _ _ (by simp[hs]) (λj=>?_) b6 b6 b6 aX) (hT i a w O ht);by_cases e:j=i
      .subst e;simp[zl (zx N).2]
      .rw[zj e,hl];omega
 intro A;have aE:∀(y:Array Bool)(a:Act)(w:Ω),GI ops (nh+1) a0 w0 C B y a w->nh+1∈Region.ready .any ops y->∀(n i:Nat),nh+1-i=n->i<nh->y.getD i false=true:=by
  intro y a w E hr n;obtain⟨N,O,_,h3⟩:=zo hr;induction n using Nat.strongRecOn with
  |_ n ih=>
    intro i hn hi;obtain⟨j,G,bc,bg,he⟩:=am i hi;by_cases e:j=nh+1
    .subst e;exact h3 i he
    .exact E.closed j i (ih (nh+1-j) b6 j rfl b6) he
 have full:∀(A:Nat)(y:Array Bool)(a:Act)(w:Ω),GI ops (nh+1) a0 w0 C B y a w->(∀i,i<nh+1->y.getD i false=true)->ops.size-(nh+1)<=A->W A y a w:=by intro A y a w E F hf;exact tail A (nh+1) y a w E.size (λi=>⟨E.heads i,F i⟩) (Zp _) b6 hf (E.fin ay H F (aw w E.c E.keep))
 induction A with
 | zero=>
   intro y a w S E hS hf;have F:∀i,i<ops.size->y.getD i false=true:=λi hi=>by
    cases h:y.getD i false with
    |true=>rfl
    |false=>have:=hS i hi h;rw[wM (b6:S.length=0)]at this;cases this
   exfalso;have:=E.heads (nh+1) (F (nh+1) b6);omega
 | succ A ih=>
   intro y a w S E hS hf;by_cases F:∀i,i<nh+1->y.getD i false=true
   ·-- all of the head has come
    refine full _ y a w E F ?_;have X:(List.range' (nh+1) (ops.size-(nh+1)))⊆S:=λi hi=>by
     simp only[uN]at hi;refine hS i b6 ?_;cases h:y.getD i false with
     |false=>rfl
     |true=>have:=E.heads i h;omega
    have an:(List.range' (nh+1) (ops.size-(nh+1))).Nodup:=Ub;have:=qM _ _ an X;simp at this;omega
   ·have aC:∃i,i<nh+1/\y.getD i false=false:=by
     apply wY;intro hn;refine F λi hi=>?_;cases h:y.getD i false with
     |true=>rfl
     |false=>exact absurd ⟨i,hi,h⟩ hn
    refine hW _ _ _ _ (λh0=>?_) λi hi=>?_
    .exfalso;obtain⟨i,hi,M⟩:=aC;obtain⟨j,G⟩:=qh P E.size i b6 M;rw[h0]at G;cases G
    .obtain⟨N,O,⟨o,ho⟩,h3⟩:=zo hi;by_cases ba:¬i<nh+1
     ·-- the tail begins before the floating operation
      have aR:i=nh+1:=by
       rcases (qP P O).1 with h|h
       .omega
       .have:=E.heads _ (h3 _ h);omega
      subst aR;have hs:=aE y a w E hi;have ao:y.getD nh false=false:=by
       obtain⟨j,G,M⟩:=aC;by_cases e:j=nh
       .subst e;exact M
       .rw[hs _ j rfl b6]at M;cases M
      have az:∀j,y.getD j false=true->j<nh:=λj G=>by
       have:=E.heads j G;by_cases e:j=nh
       .rw[e,ao]at G;cases G
       .omega
      have aJ:GI ops nh a0 w0 C (B.take nh) y a w:=⟨E.size,E.closed,az,E.c,E.keep,λj d V G hV=>E.vals j d V G (by rw[wA]at hV;split at hV;exact hV;cases hV),E.rest,E.tsize,E.defers⟩;have hB:=aJ.fin b7 (λj x I=>H j x (by rw[wA]at I;split at I;exact I;cases I)) (λj G=>hs _ j rfl G) (ai w E.c E.keep);have aO:y.getD (nh+1) false=false:=(zx N).1;refine J _ _ _ _ _ (λa' Z h'=>?_) hB;have aP:nh∈S:=hS nh b6 ao;have bi:nh+1∈S:=hS (nh+1) O aO;have bh:2+(ops.size-(nh+2))<=S.length:=by
       have X:(nh::List.range' (nh+1) (ops.size-(nh+1)))⊆S:=λi hi=>by
        rcases wm.1 hi with rfl|hi
        .exact aP
        .simp only[uN]at hi;refine hS i b6 ?_;cases h:y.getD i false with
         |false=>rfl
         |true=>have:=E.heads i h;omega
       have an:(nh::List.range' (nh+1) (ops.size-(nh+1))).Nodup:=UM.2 ⟨λh=>by simp only[uN]at h;omega,Ub⟩;have:=qM _ _ an X;simp at this;omega
      obtain⟨f',rfl⟩:∃f',A=f'+1:=⟨A-1,b6⟩;have ag:(y.setIfInBounds (nh+1) true).size=ops.size:=(by simp[E.size]);have ad:(y.setIfInBounds (nh+1) true).getD nh false=false:=(by rw[zj b6];exact ao);refine hW _ _ _ _ (λh0=>?_) λi hi=>?_
      .exfalso;obtain⟨j,G⟩:=qh P ag nh b6 ad;rw[h0]at G;cases G
      .obtain⟨k1,k2,_,k3⟩:=zo hi;have Q:i=nh:=by
        have M:=(zx k1).1;rcases WR i nh with h|h|h
        .rw[zj b6,hs _ i rfl h]at M;cases M
        .exact h
        .exfalso;by_cases e:i=nh+1
         .subst e;rw[zl (by rw[E.size];exact O)]at M;cases M
         .by_cases e2:i=nh+2
          .subst e2;have:=k3 nh (ah k2);rw[ad]at this;cases this
          .rcases (qP P k2).1 with h4|h4
           .omega
           .have h5:=k3 _ h4;rw[zj b6]at h5;have:=E.heads _ h5;omega
       subst Q;refine J _ _ _ _ _ (λa2 w2 ht=>tail f' (i+2) _ _ _ (by simp[E.size]) (λj=>?_) b6 aQ b6 ht) h';by_cases e:j=i
       .subst e;rw[zl (by rw[ag];omega)];simp
       .rw[zj e];by_cases e2:j=i+1
        .subst e2;rw[zl (by rw[E.size];exact O)];simp
        .rw[zj e2];constructor
         .intro h;have:=E.heads j h;omega
         .intro h;exact hs _ j rfl b6
     have Q:i<nh+1:=b6;obtain⟨o',aS,aV,aK,_⟩:=L _ Q;obtain rfl:o'=o:=wH (aS.symm.trans ho);have ax:i<B.length:=b6;have au:B[i]?=some (o'.dst,B[i].2):=(by have:=H i _ (Zv ax);unfold zJ at this;rw[ho]at this;rw[Zv ax];exact WU some (Us this.symm rfl));have ae:∀j:Nat,j<i->B[j]?=(B.take i)[j]?:=λj G=>(by rw[wA,VS G]);have af:=E.rds (env:=B.take i) L Q ho (zx N).1 h3 b7 ae (λj x I=>H j x (by rw[wA]at I;split at I;exact I;cases I)) (zA o') aV;have U:=aU i o' _ ho au;have aj:∀u Z,Kpo.kp w Z->C Z->B[i].2 u Z->W A (y.setIfInBounds i true) (a.put o'.dst u) Z:=λu Z hk hc M=>
      ih _ _ _ (S.erase i) (E.step L aB Q ho N h3 aW H au hk hc M) (λj G ac=>by
       have ab:j≠i:=λe=>(by subst e;rw[zl (zx N).2]at ac;cases ac);rw[zj ab]at ac;exact(W9 ab).2 (hS j G ac)) (by rw[WK (hS i O (zx N).1)];omega)
     refine aq i o' _ a w ho ?_;unfold stepOk at U;cases hgu:o'.guard with
     |none=>simp only[hgu]at U;rw[VS (by simp[Region.wanted,hgu])];exact U a w E.c E.keep af _ aj
     | some jb=>
       obtain⟨j,b⟩:=jb;simp only[hgu]at U;obtain⟨ab,aM,aL⟩:=aK j b hgu;obtain⟨d,hd⟩:=Wd.1 aL;have ak:j<B.length:=b6;have av:=H j _ (Zv ak);rw[hd]at av;have aY:=E.vals j d B[j].2 (h3 j aM) (by rw[Zv ak];exact WU some (Us av.symm rfl));obtain⟨oj,aT,_,_,aH⟩:=L j (show j<nh+1 by omega);have aI:d<a.tmps.size:=(by rw[E.tsize,aB];exact(aH d (by unfold zJ at hd;rw[aT]at hd;exact hd)).1);have hy:=yS (tmps:=a.tmps) hd aI;have Y:∀x,isV (B.take i) j x->a.tmps.getD d undef=x:=λx I=>(by have:=isV_of I ae ab;unfold isV at this;rw[Zv ak]at this;exact this _ _ aY);rcases U with⟨I,hh⟩|⟨I,aF⟩
       .have:=Y _ I;rw[this]at hy;rw[VS (by simp[Region.wanted,hgu,hy])];exact hh a w E.c E.keep af _ aj
       .have aZ:yielded ops a.tmps j≠some b:=by
         rcases I with I|I
         .have:=Y _ I;rw[this]at hy;rw[hy];cases b<;>simp
         .have:=Y _ I;rw[this]at hy;rw[hy];simp[undef]
        rw[V2 (by simp[Region.wanted,hgu];exact aZ)];exact aj undef w (Kpo.refl _) E.c (by rw[aF])
def walkG_env{A:Oper->Act->Ω->(Act->Ω->Prop)->Prop}{F:Act->Ω->Prop}:∀(l:List Oper)(j:List (Option Tmp×VP Ω)),walkG A a0 w0 C F l j ->
 ∃r:List (Option Tmp×VP Ω),r.length=l.length/\(∀(i:Nat) o,l[i]?=some o->∃V,r[i]?=some (o.dst,V)/\(∀u w E,V u w->Kpo.kp w E->V u E)/\stepOk A a0 w0 C (j++r.take i) o V) /\
  (∀w,C w->Kpo.kp w0 w->finG F w (j++r) a0)
 |[],j,h=>⟨[],rfl,(λi o ho=>by simp at ho),by rw[We];exact h⟩
 | o::l,j,⟨V,hs,hk,hw⟩=>by
   obtain⟨r,K,L,M⟩:=walkG_env l _ hw;refine⟨(o.dst,V)::r,by simp[K],λi B y=>?_,dM M⟩;cases i with
   |zero=>obtain rfl:o=B:=(dM y);exact⟨V,rfl,hs,dM hk⟩
   |succ i=>obtain⟨G,H,I,J⟩:=L i B (dM y);exact⟨G,dM H,I,dM J⟩
def gcoreC{nt r:Nat}(aD:Oper->Act->Ω->(Act->Ω->Prop)->Prop)(step:Nat->(Act->Ω->Prop)->Act->Ω->Prop)(W:Nat->Array Bool->Act->Ω->Prop)(Qn:Act->Ω->Prop)(T:Nat->Act->Ω->Prop)
 (ao:∀i o K a w,ops[i]?=some o->(if Region.wanted o (yielded ops a.tmps) then aD o a w K else K (a.put o.dst undef) w)->step i K a w)
 (L:∀i K K' a w,(∀a w,K a w->K' a w)->step i K a w->step i K' a w)
 (aH:∀y a w,Region.ready .any ops y=[]->Qn a w->W 0 y a w)
 (hW:∀A y a w,(Region.ready .any ops y=[]->Qn a w)->(∀i∈Region.ready .any ops y,step i (W A (y.setIfInBounds i true)) a w)->W (A+1) y a w)
 (hT:∀k a w,k<ops.size->T k a w->step k (T (k+1)) a w) (au:∀a w,T ops.size a w->Qn a w)
 (bp:1<=r) (N:ChkR ops (nh+r) nt) (am:∀i,i<nh->∃j,j<=nh+r/\i<j/\¬(nh<=j/\j<nh+r)/\edge ops j i=true) (M:∀i,nh<=i->i+1<nh+r->edge ops (i+1) i=true) (ah:nh+r+1<ops.size->edge ops (nh+r+1) (nh+r-1)=true) (O:yK ops (nh+r)=true) (bl:nh+r+1<=ops.size)
 (CT:Nat->Act->Ω->Prop) (aF:∀c a w,c<r->CT c a w->step (nh+c) (CT (c+1)) a w) (ar:∀a w,CT r a w->T (nh+r+1) a w) (aC:a0.tmps.size=nt) (B:List (Option Tmp×VP Ω)) (az:B.length=nh+r)
 (aW:∀(j:Nat) d V,B[j]?=some (d,V)->∀u w w',V u w->Kpo.kp w w'->V u w') (H:∀(j:Nat) x,B[j]?=some x->zJ ops j=x.1)
 (aT:∀(i:Nat) o V,ops[i]?=some o->B[i]?=some (o.dst,V)->stepOk aD a0 w0 C (B.take i) o V)
 (ax:∀w,C w->Kpo.kp w0 w->finG (T (nh+r)) w B a0) (ai:∀c,c<r->∀w,C w->Kpo.kp w0 w->finG (λa w=>step (nh+r) (CT c) a w) w (B.take (nh+c)) a0) :
 ∀(A:Nat)(y:Array Bool)(a:Act)(w:Ω)(S:List Nat),GI ops (nh+r) a0 w0 C B y a w->(∀i,i<ops.size->y.getD i false=false->i∈S)->S.length<=A->W A y a w:=by
 -- the tail
 have tail:∀(A k:Nat)(y:Array Bool)(a:Act)(w:Ω),y.size=ops.size->(∀i,y.getD i false=true↔i<k)->nh+r<=k->k<=ops.size->ops.size-k<=A->T k a w->W A y a w:=by
  intro A;induction A with
  |zero=>intro k y a w hs G _ hk hf ht;obtain rfl:k=ops.size:=b6;refine aH _ _ _ ?_ (au _ _ ht);refine WA.2 λi hi=>?_;obtain⟨P,Q,_⟩:=zo hi;have:=(zx P).1;rw[(G i).2 Q]at this;cases this
  | succ A ih=>
    intro k y a w hs G hn hk hf ht;by_cases aP:k=ops.size
    .subst aP;have aB:Region.ready .any ops y=[]:=WA.2 λi hi=>by obtain⟨P,Q,_⟩:=zo hi;have:=(zx P).1;rw[(G i).2 Q]at this;cases this
     exact hW _ _ _ _ (λ_=>au _ _ ht) λi hi=>by rw[aB]at hi;cases hi
    .refine hW _ _ _ _ (λh0=>?_) λi hi=>?_
     .exfalso;have hu:y.getD k false=false:=by
       cases h:y.getD k false with
       |false=>rfl
       |true=>have:=(G k).1 h;omega
      obtain⟨j,I⟩:=qh O hs k b6 hu;rw[h0]at I;cases I
     .obtain⟨P,Q,_,h3⟩:=zo hi;have bh:¬i<k:=λh=>(by have:=(zx P).1;rw[(G i).2 h]at this;cases this);have:i=k:=by
       rcases (qP O Q).1 with h|h
       .omega
       .have:=(G _).1 (h3 _ h);omega
      subst this;refine L _ _ _ _ _ (λa' w' aX=>ih (i+1) _ _ _ (by simp[hs]) (λj=>?_) b6 b6 b6 aX) (hT i a w Q ht);by_cases e:j=i
      .subst e;simp[zl (zx P).2]
      .rw[zj e,G];omega
 intro A;have aE:∀(y:Array Bool)(a:Act)(w:Ω),GI ops (nh+r) a0 w0 C B y a w->nh+r∈Region.ready .any ops y->∀(n i:Nat),nh+r-i=n->i<nh->y.getD i false=true:=by
  intro y a w E hr n;obtain⟨P,Q,_,h3⟩:=zo hr;induction n using Nat.strongRecOn with
  |_ n ih=>
    intro i hn hi;obtain⟨j,I,bg,bi,he⟩:=am i hi;by_cases e:j=nh+r
    .subst e;exact h3 i he
    .exact E.closed j i (ih (nh+r-j) b6 j rfl b6) he
 -- what floats,behind the first of the tail
 have aq:∀(n c A:Nat)(y:Array Bool)(a:Act)(w:Ω),r-c=n->c<=r->y.size=ops.size->(∀i,y.getD i false=true↔i<nh+c\/i=nh+r)->(r-c)+(ops.size-(nh+r+1))<=A->CT c a w->W A y a w:=by
  intro n;induction n with
  |zero=>intro c A y a w hn hc hs G hf ht;obtain rfl:c=r:=b6;exact tail A (nh+c+1) y a w hs (λi=>by rw[G];omega) b6 b6 b6 (ar a w ht)
  | succ n ih=>
    intro c A y a w hn hc hs G hf ht;obtain⟨f',rfl⟩:∃f',A=f'+1:=⟨A-1,b6⟩;have ae:y.getD (nh+c) false=false:=by
     cases h:y.getD (nh+c) false with
     |false=>rfl
     |true=>have:=(G _).1 h;omega
    refine hW _ _ _ _ (λh0=>?_) λi hi=>?_
    .exfalso;obtain⟨j,I⟩:=qh O hs (nh+c) b6 ae;rw[h0]at I;cases I
    .obtain⟨k1,k2,_,k3⟩:=zo hi;have hu:=(zx k1).1;have U:i=nh+c:=by
      have bn:¬(i<nh+c\/i=nh+r):=λh=>(by rw[(G i).2 h]at hu;cases hu);rcases WR i (nh+c)with h|h|h
      .omega
      .exact h
      .exfalso;by_cases e:i<nh+r
       .have:=(G _).1 (k3 (i-1) (by have:=M (i-1) b6 b6;rwa[show i-1+1=i by omega]at this));omega
       .by_cases e2:i=nh+r+1
        .subst e2;have:=(G _).1 (k3 _ (ah k2));omega
        .rcases (qP O k2).1 with h4|h4
         .omega
         .have:=(G _).1 (k3 _ h4);omega
     subst U;refine L _ _ _ _ _ (λa2 w2 aY=>ih (c+1) f' _ _ _ b6 b6 (by simp[hs]) (λj=>?_) b6 aY) (aF c a w b6 ht);by_cases e:j=nh+c
     .subst e;rw[zl (by rw[hs];omega)];simp
     .rw[zj e,G];omega
 have full:∀(A:Nat)(y:Array Bool)(a:Act)(w:Ω),GI ops (nh+r) a0 w0 C B y a w->(∀i,i<nh+r->y.getD i false=true)->ops.size-(nh+r)<=A->W A y a w:=by intro A y a w E F hf;exact tail A (nh+r) y a w E.size (λi=>⟨E.heads i,F i⟩) (Zp _) b6 hf (E.fin az H F (ax w E.c E.keep))
 induction A with
 | zero=>
   intro y a w S E hS hf;have F:∀i,i<ops.size->y.getD i false=true:=λi hi=>by
    cases h:y.getD i false with
    |true=>rfl
    |false=>have:=hS i hi h;rw[wM (b6:S.length=0)]at this;cases this
   exfalso;have:=E.heads (nh+r) (F (nh+r) b6);omega
 | succ A ih=>
   intro y a w S E hS hf;by_cases F:∀i,i<nh+r->y.getD i false=true
   ·-- all of the head has come
    refine full _ y a w E F ?_;have Z:(List.range' (nh+r) (ops.size-(nh+r)))⊆S:=λi hi=>by
     simp only[uN]at hi;refine hS i b6 ?_;cases h:y.getD i false with
     |false=>rfl
     |true=>have:=E.heads i h;omega
    have an:(List.range' (nh+r) (ops.size-(nh+r))).Nodup:=Ub;have:=qM _ _ an Z;simp at this;omega
   ·have ae:∃i,i<nh+r/\y.getD i false=false:=by
     apply wY;intro hn;refine F λi hi=>?_;cases h:y.getD i false with
     |true=>rfl
     |false=>exact absurd ⟨i,hi,h⟩ hn
    refine hW _ _ _ _ (λh0=>?_) λi hi=>?_
    .exfalso;obtain⟨i,hi,hu⟩:=ae;obtain⟨j,I⟩:=qh O E.size i b6 hu;rw[h0]at I;cases I
    ·obtain⟨P,Q,⟨o,ho⟩,h3⟩:=zo hi;by_cases bc:¬i<nh+r
     ·-- the tail begins before what floats
      have aQ:i=nh+r:=by
       rcases (qP O Q).1 with h|h
       .omega
       .have:=E.heads _ (h3 _ h);omega
      subst aQ;have hs:=aE y a w E hi
      -- how much of it has come
      have zdg:∃c,c<r/\y.getD (nh+c) false=false/\∀i,i<nh+c->y.getD i false=true:=by
       obtain⟨j,I,hu⟩:=ae;have:∀n c,c+n=r->(∀i,i<nh+c->y.getD i false=true)->∃c,c<r/\y.getD (nh+c) false=false/\∀i,i<nh+c->y.getD i false=true:=by
        intro n;induction n with
        |zero=>intro c hc G;rw[G j b6]at hu;cases hu
        | succ n ih=>
          intro c hc G;cases h:y.getD (nh+c) false with
          |false=>exact⟨c,b6,h,G⟩
          | true=>
            refine ih (c+1) b6 λi hi=>?_;by_cases e:i=nh+c
            .rw[e];exact h
            .exact G i b6
       exact this r 0 b6 λi hi=>hs _ i rfl b6
      obtain⟨c,hc,aU,aA⟩:=zdg;have aM:∀k,nh+c+k<nh+r->y.getD (nh+c+k) false=false:=by
       intro k;induction k with
       |zero=>intro _;exact aU
       | succ k ih=>
         intro hk;cases h:y.getD (nh+c+(k+1)) false with
         |false=>rfl
         |true=>have:=E.closed _ _ h (M (nh+c+k) b6 b6);rw[ih b6]at this;cases this
      have X:∀j,y.getD j false=true->j<nh+c:=λj I=>(by have:=E.heads j I;apply wY;intro be;have:=aM (j-(nh+c)) b6;rw[show nh+c+(j-(nh+c))=j by omega,I]at this;cases this);have aK:GI ops (nh+c) a0 w0 C (B.take (nh+c)) y a w:=⟨E.size,E.closed,X,E.c,E.keep,λj d V I hV=>E.vals j d V I (by rw[wA]at hV;split at hV;exact hV;cases hV),E.rest,E.tsize,E.defers⟩;have hB:=aK.fin b7 (λj x J=>H j x (by rw[wA]at J;split at J;exact J;cases J)) aA (ai c hc w E.c E.keep);refine L _ _ _ _ _ (λa' w' h'=>?_) hB;have bj:(r-c)+(ops.size-(nh+r))<=S.length:=by
       have Z:(List.range' (nh+c) (ops.size-(nh+c)))⊆S:=λi hi=>by
        simp only[uN]at hi;refine hS i b6 ?_;cases h:y.getD i false with
        |false=>rfl
        |true=>have:=X i h;omega
       have an:(List.range' (nh+c) (ops.size-(nh+c))).Nodup:=Ub;have:=qM _ _ an Z;simp at this;omega
      refine aq (r-c) c A _ a' w' rfl b6 (by simp[E.size]) (λj=>?_) b6 h';by_cases e:j=nh+r
      .subst e;rw[zl (by rw[E.size];exact Q)];simp
      .rw[zj e];constructor
       .intro h;exact .inl (X j h)
       .intro h;exact aA j b6
     have U:i<nh+r:=b6;obtain⟨o',aR,aV,aL,_⟩:=N _ U;obtain rfl:o'=o:=wH (aR.symm.trans ho);have ay:i<B.length:=b6;have av:B[i]?=some (o'.dst,B[i].2):=(by have:=H i _ (Zv ay);unfold zJ at this;rw[ho]at this;rw[Zv ay];exact WU some (Us this.symm rfl));have af:∀j:Nat,j<i->B[j]?=(B.take i)[j]?:=λj I=>(by rw[wA,VS I]);have ag:=E.rds (env:=B.take i) N U ho (zx P).1 h3 b7 af (λj x J=>H j x (by rw[wA]at J;split at J;exact J;cases J)) (zA o') aV;have Y:=aT i o' _ ho av;have aj:∀u w',Kpo.kp w w'->C w'->B[i].2 u w'->W A (y.setIfInBounds i true) (a.put o'.dst u) w':=λu w' hk hc hu=>
      ih _ _ _ (S.erase i) (E.step N aC U ho P h3 aW H av hk hc hu) (λj I ad=>by
       have ac:j≠i:=λe=>(by subst e;rw[zl (zx P).2]at ad;cases ad);rw[zj ac]at ad;exact(W9 ac).2 (hS j I ad)) (by rw[WK (hS i Q (zx P).1)];omega)
     refine ao i o' _ a w ho ?_;unfold stepOk at Y;cases hgu:o'.guard with
     |none=>simp only[hgu]at Y;rw[VS (by simp[Region.wanted,hgu])];exact Y a w E.c E.keep ag _ aj
     | some jb=>
       obtain⟨j,b⟩:=jb;simp only[hgu]at Y;obtain⟨ac,aO,aN⟩:=aL j b hgu;obtain⟨d,hd⟩:=Wd.1 aN;have ak:j<B.length:=b6;have aw:=H j _ (Zv ak);rw[hd]at aw;have aZ:=E.vals j d B[j].2 (h3 j aO) (by rw[Zv ak];exact WU some (Us aw.symm rfl));obtain⟨oj,aS,_,_,aI⟩:=N j (show j<nh+r by omega);have aJ:d<a.tmps.size:=(by rw[E.tsize,aC];exact(aI d (by unfold zJ at hd;rw[aS]at hd;exact hd)).1);have hy:=yS (tmps:=a.tmps) hd aJ;have ab:∀x,isV (B.take i) j x->a.tmps.getD d undef=x:=λx J=>(by have:=isV_of J af ac;unfold isV at this;rw[Zv ak]at this;exact this _ _ aZ);rcases Y with⟨J,hh⟩|⟨J,aG⟩
       .have:=ab _ J;rw[this]at hy;rw[VS (by simp[Region.wanted,hgu,hy])];exact hh a w E.c E.keep ag _ aj
       .have ba:yielded ops a.tmps j≠some b:=by
         rcases J with J|J
         .have:=ab _ J;rw[this]at hy;rw[hy];cases b<;>simp
         .have:=ab _ J;rw[this]at hy;rw[hy];simp[undef]
        rw[V2 (by simp[Region.wanted,hgu];exact ba)];exact aj undef w (Kpo.refl _) E.c (by rw[aG])
def walkE(j:Oper->Act->Ω->(Act->Ω->Prop)->Prop)(a0:Act)(w0:Ω)(C:Ω->Prop)(E:List (Option Tmp×VP Ω)->Prop):List Oper->List (Option Tmp×VP Ω)->Prop
 |[],env=>E env
 |o::l,env=>∃V:VP Ω,(∀u w y,V u w->Kpo.kp w y->V u y)/\stepOk j a0 w0 C env o V/\walkE j a0 w0 C E l (env++[(o.dst,V)])
def walkG_of{u:Oper->Act->Ω->(Act->Ω->Prop)->Prop}{F:Act->Ω->Prop}:∀(l:List Oper)(j:List (Option Tmp×VP Ω)),walkE u a0 w0 C (λj=>∀w,C w->Kpo.kp w0 w->finG F w j a0) l j->walkG u a0 w0 C F l j
 |[],j,h=>h
 |o::l,j,⟨V,h1,h2,h3⟩=>⟨V,h1,h2,walkG_of l _ h3⟩
def walkE_env{A:Oper->Act->Ω->(Act->Ω->Prop)->Prop}{E:List (Option Tmp×VP Ω)->Prop}:∀(l:List Oper)(j:List (Option Tmp×VP Ω)),walkE A a0 w0 C E l j ->
 ∃r:List (Option Tmp×VP Ω),r.length=l.length/\(∀(i:Nat) o,l[i]?=some o->∃V,r[i]?=some (o.dst,V)/\(∀u w F,V u w->Kpo.kp w F->V u F)/\stepOk A a0 w0 C (j++r.take i) o V) /\
  E (j++r)
 |[],j,h=>⟨[],rfl,(λi o ho=>by simp at ho),by rw[We];exact h⟩
 | o::l,j,⟨V,hs,hk,hw⟩=>by
   obtain⟨r,K,L,M⟩:=walkE_env l _ hw;refine⟨(o.dst,V)::r,by simp[K],λi B y=>?_,dM M⟩;cases i with
   |zero=>obtain rfl:o=B:=(dM y);exact⟨V,rfl,hs,dM hk⟩
   |succ i=>obtain⟨G,H,I,J⟩:=L i B (dM y);exact⟨G,dM H,I,dM J⟩
def gready{nt:Nat}{l:List Oper}(hO:ops=l.toArray)(G:Oper->Act->Ω->(Act->Ω->Prop)->Prop)(step:Nat->(Act->Ω->Prop)->Act->Ω->Prop)(W:Nat->Array Bool->Act->Ω->Prop)(O:Act->Ω->Prop)(T:Nat->Act->Ω->Prop)
 (J:∀i o K a w,ops[i]?=some o->(if Region.wanted o (yielded ops a.tmps) then G o a w K else K (a.put o.dst undef) w)->step i K a w)
 (I:∀i K K' a w,(∀a w,K a w->K' a w)->step i K a w->step i K' a w)
 (Y:∀y a w,Region.ready .any ops y=[]->O a w->W 0 y a w)
 (hW:∀H y a w,(Region.ready .any ops y=[]->O a w)->(∀i∈Region.ready .any ops y,step i (W H (y.setIfInBounds i true)) a w)->W (H+1) y a w)
 (hT:∀k a w,k<ops.size->T k a w->step k (T (k+1)) a w) (X:∀a w,T ops.size a w->O a w)
 (A:xk ops nh nt=true) (Z:yK ops nh=true) (ab:a0.tmps.size=nt) (hC:C w0)
 (h:walkG G a0 w0 C (T nh) (l.take nh) []):W ops.size (Array.replicate ops.size false) a0 w0:=by
 subst hO;have N:nh<=l.toArray.size:=by unfold xk at A;simp only[wh,wJ]at A;exact A.1
 have ac:nh<=l.length:=dM N
 obtain⟨F,h1,h2,h3⟩:=walkG_env _ _ h;have B:F.length=nh:=by rw[h1];simp;omega
 have get:∀i:Nat,i<nh->∃o V,l[i]?=some o/\F[i]?=some (o.dst,V)/\(∀u w w',V u w->Kpo.kp w w'->V u w')/\stepOk G a0 w0 C (F.take i) o V:=λi hi=>by have M:i<l.length:=b6;obtain⟨V,g⟩:=h2 i l[i] (by rw[wA,VS hi];exact Zv M);exact⟨l[i],V,Zv M,dM g⟩
 refine gcore (nt:=nt) G step W O T J I Y hW hT X A Z N ab F B (λj d V E=>?_) (λj x E=>?_) (λi o V ho Q=>?_) (dM h3) _ _ _ _ (List.range l.toArray.size) ?_ (λi hi _=>dM hi) b8
 .obtain⟨o,V',P,L,S,U⟩:=get j (by rw[<-B];exact(ZZ.1 E).1);rw[L]at E;cases E;exact S
 .obtain⟨o,V',P,L,S,U⟩:=get j (by rw[<-B];exact(ZZ.1 E).1);rw[L]at E;cases E;unfold zJ;simp[P]
 .obtain⟨o',V',P,L,S,U⟩:=get i (by rw[<-B];exact(ZZ.1 Q).1);have e1:o'=o:=(by have:l[i]?=some o:=(dM ho);rw[P]at this;exact wH this);subst e1;rw[L]at Q;simp only[wS,U3,Ut]at Q;subst Q;exact U
 .have hf:∀i:Nat,(Array.replicate l.toArray.size false).getD i false=false:=λi=>by
   simp only[wC,uy];split<;>rfl
  exact⟨b8,(λi j hi=>by rw[hf]at hi;cases hi),(λi hi=>by rw[hf]at hi;cases hi),hC,Kpo.refl _,(λj d V E=>by rw[hf]at E;cases E),λ_ _=>rfl,rfl,rfl⟩
def greadyF{nt:Nat}{l:List Oper}(hO:ops=l.toArray)(F:Oper->Act->Ω->(Act->Ω->Prop)->Prop)(step:Nat->(Act->Ω->Prop)->Act->Ω->Prop)(W:Nat->Array Bool->Act->Ω->Prop)(Q:Act->Ω->Prop)(T:Nat->Act->Ω->Prop)
 (L:∀i o K a w,ops[i]?=some o->(if Region.wanted o (yielded ops a.tmps) then F o a w K else K (a.put o.dst undef) w)->step i K a w)
 (J:∀i K K' a w,(∀a w,K a w->K' a w)->step i K a w->step i K' a w)
 (ab:∀y a w,Region.ready .any ops y=[]->Q a w->W 0 y a w)
 (hW:∀G y a w,(Region.ready .any ops y=[]->Q a w)->(∀i∈Region.ready .any ops y,step i (W G (y.setIfInBounds i true)) a w)->W (G+1) y a w)
 (hT:∀k a w,k<ops.size->T k a w->step k (T (k+1)) a w) (Z:∀a w,T ops.size a w->Q a w)
 (N:ChkR ops (nh+1) nt) (I:∀i,i<nh->∃j,j<=nh+1/\i<j/\j≠nh/\edge ops j i=true) (H:nh+2<ops.size->edge ops (nh+2) nh=true) (ac:yK ops (nh+1)=true) (P:nh+2<=ops.size) (ad:a0.tmps.size=nt) (hC:C w0)
 (h:walkE F a0 w0 C (λA=>(∀w,C w->Kpo.kp w0 w->finG (T (nh+1)) w A a0)/\∀w,C w->Kpo.kp w0 w->finG (λa w=>step (nh+1) (λa w=>step nh (T (nh+2)) a w) a w) w (A.take nh) a0) (l.take (nh+1)) []):W ops.size (Array.replicate ops.size false) a0 w0:=by
 subst hO;have ae:nh+2<=l.length:=dM P
 obtain⟨A,h1,h2,h3⟩:=walkE_env _ _ h;have B:A.length=nh+1:=by rw[h1];simp;omega
 have get:∀i:Nat,i<nh+1->∃o V,l[i]?=some o/\A[i]?=some (o.dst,V)/\(∀u w w',V u w->Kpo.kp w w'->V u w')/\stepOk F a0 w0 C (A.take i) o V:=λi hi=>by have O:i<l.length:=b6;obtain⟨V,g⟩:=h2 i l[i] (by rw[wA,VS hi];exact Zv O);exact⟨l[i],V,Zv O,dM g⟩
 refine gcoreF (nt:=nt) F step W Q T L J ab hW hT Z N I H ac P ad A B (λj d V E=>?_) (λj x E=>?_) (λi o V ho U=>?_) (dM h3.1) (dM h3.2) _ _ _ _ (List.range l.toArray.size) ?_ (λi hi _=>dM hi) b8
 .obtain⟨o,V',S,M,X,Y⟩:=get j (by rw[<-B];exact(ZZ.1 E).1);rw[M]at E;cases E;exact X
 .obtain⟨o,V',S,M,X,Y⟩:=get j (by rw[<-B];exact(ZZ.1 E).1);rw[M]at E;cases E;unfold zJ;simp[S]
 .obtain⟨o',V',S,M,X,Y⟩:=get i (by rw[<-B];exact(ZZ.1 U).1);have e1:o'=o:=(by have:l[i]?=some o:=(dM ho);rw[S]at this;exact wH this);subst e1;rw[M]at U;simp only[wS,U3,Ut]at U;subst U;exact Y
 .have hf:∀i:Nat,(Array.replicate l.toArray.size false).getD i false=false:=λi=>by
   simp only[wC,uy];split<;>rfl
  exact⟨b8,(λi j hi=>by rw[hf]at hi;cases hi),(λi hi=>by rw[hf]at hi;cases hi),hC,Kpo.refl _,(λj d V E=>by rw[hf]at E;cases E),λ_ _=>rfl,rfl,rfl⟩
def greadyC{nt r:Nat}{l:List Oper}(hO:ops=l.toArray)(G:Oper->Act->Ω->(Act->Ω->Prop)->Prop)(step:Nat->(Act->Ω->Prop)->Act->Ω->Prop)(W:Nat->Array Bool->Act->Ω->Prop)(X:Act->Ω->Prop)(T:Nat->Act->Ω->Prop)
 (M:∀i o K a w,ops[i]?=some o->(if Region.wanted o (yielded ops a.tmps) then G o a w K else K (a.put o.dst undef) w)->step i K a w)
 (L:∀i K K' a w,(∀a w,K a w->K' a w)->step i K a w->step i K' a w)
 (ad:∀y a w,Region.ready .any ops y=[]->X a w->W 0 y a w)
 (hW:∀H y a w,(Region.ready .any ops y=[]->X a w)->(∀i∈Region.ready .any ops y,step i (W H (y.setIfInBounds i true)) a w)->W (H+1) y a w)
 (hT:∀k a w,k<ops.size->T k a w->step k (T (k+1)) a w) (ac:∀a w,T ops.size a w->X a w)
 (ag:1<=r) (Q:ChkR ops (nh+r) nt) (J:∀i,i<nh->∃j,j<=nh+r/\i<j/\¬(nh<=j/\j<nh+r)/\edge ops j i=true) (F:∀i,nh<=i->i+1<nh+r->edge ops (i+1) i=true) (I:nh+r+1<ops.size->edge ops (nh+r+1) (nh+r-1)=true) (ae:yK ops (nh+r)=true) (U:nh+r+1<=ops.size)
 (N:Nat->Act->Ω->Prop) (ab:∀c a w,c<r->N c a w->step (nh+c) (N (c+1)) a w) (P:∀a w,N r a w->T (nh+r+1) a w) (af:a0.tmps.size=nt) (hC:C w0)
 (h:walkE G a0 w0 C (λA=>(∀w,C w->Kpo.kp w0 w->finG (T (nh+r)) w A a0)/\∀c,c<r->∀w,C w->Kpo.kp w0 w->finG (λa w=>step (nh+r) (N c) a w) w (A.take (nh+c)) a0) (l.take (nh+r)) []):W ops.size (Array.replicate ops.size false) a0 w0:=by
 subst hO;have ah:nh+r+1<=l.length:=dM U
 obtain⟨A,h1,h2,h3⟩:=walkE_env _ _ h;have B:A.length=nh+r:=by rw[h1];simp;omega
 have get:∀i:Nat,i<nh+r->∃o V,l[i]?=some o/\A[i]?=some (o.dst,V)/\(∀u w w',V u w->Kpo.kp w w'->V u w')/\stepOk G a0 w0 C (A.take i) o V:=λi hi=>by have S:i<l.length:=b6;obtain⟨V,g⟩:=h2 i l[i] (by rw[wA,VS hi];exact Zv S);exact⟨l[i],V,Zv S,dM g⟩
 refine gcoreC (nt:=nt) G step W X T M L ad hW hT ac ag Q J F I ae U N ab P af A B (λj d V E=>?_) (λj x E=>?_) (λi o V ho Z=>?_) (dM h3.1) (dM h3.2) _ _ _ _ (List.range l.toArray.size) ?_ (λi hi _=>dM hi) b8
 .obtain⟨o,V',Y,O,g3,g4⟩:=get j (by rw[<-B];exact(ZZ.1 E).1);rw[O]at E;cases E;exact g3
 .obtain⟨o,V',Y,O,g3,g4⟩:=get j (by rw[<-B];exact(ZZ.1 E).1);rw[O]at E;cases E;unfold zJ;simp[Y]
 .obtain⟨o',V',Y,O,g3,g4⟩:=get i (by rw[<-B];exact(ZZ.1 Z).1);have e1:o'=o:=(by have:l[i]?=some o:=(dM ho);rw[Y]at this;exact wH this);subst e1;rw[O]at Z;simp only[wS,U3,Ut]at Z;subst Z;exact g4
 .have hf:∀i:Nat,(Array.replicate l.toArray.size false).getD i false=false:=λi=>by
   simp only[wC,uy];split<;>rfl
  exact⟨b8,(λi j hi=>by rw[hf]at hi;cases hi),(λi hi=>by rw[hf]at hi;cases hi),hC,Kpo.refl _,(λj d V E=>by rw[hf]at E;cases E),λ_ _=>rfl,rfl,rfl⟩
end
end Pl
section
open Go.RowKit
def zmw:Option Value:=some (.iface 194 (.agg #[.pointer (some ⟨2,44,none⟩)]))
def GL(D:Qk)(w:World):Prop:=∀x,zmw=some x->D 1 0/\w.cell? ⟨1,0,none⟩=some x
def GL.mono{D D':Qk}{w w':World}(h:GL D w)(u:∀b o,D b o->D' b o)(y:∀b o x,D b o->w.cell? ⟨b,o,none⟩=some x->w'.cell? ⟨b,o,none⟩=some x):GL D' w':=λx j=>⟨u _ _ (h x j).1,y _ _ _ (h x j).1 (h x j).2⟩
inductive Ow where
 |sh
 |z
 |n (sz:Nat)
 |p (i:Nat)
 |r (n sz:Nat)
inductive PV where
 |v (x:Value)
 |agg (cs:List PV)
 |tup (cs:List PV)
 |sl (es:List (List PV)) (o:Ow)
 |cp (cs:List PV) (o:Nat)
 |bx (i o:Nat)
 |fn (f:Fn) (fs cs:List PV)
 |ifc (t:TypeId) (x:PV)
 |und
inductive Dat(D:Qk)(w:World):Value->PV->Prop where
 |v (x:Value):Dat D w x (.v x)
 |und (x:Value):Dat D w x .und
 |agg (vs:Array Value) (cs:List PV) (hs:vs.size=cs.length) (h1:∀i,i<cs.length->(vs.getD i undef).oneCell'=true) (h:∀(i:Nat)(p:PV),cs[i]?=some p->Dat D w (vs.getD i undef) p):Dat D w (.agg vs) (.agg cs)
 |tup (vs:Array Value) (cs:List PV) (hs:vs.size=cs.length) (h:∀(i:Nat)(p:PV),cs[i]?=some p->Dat D w (vs.getD i undef) p):Dat D w (.tuple vs) (.tup cs)
 |fn (f:Fn) (va vb:Array Value) (fs cs:List PV) (h1:va.size=fs.length) (h2:vb.size=cs.length) (h3:∀(i:Nat)(p:PV),fs[i]?=some p->Dat D w (va.getD i undef) p) (h4:∀(i:Nat)(p:PV),cs[i]?=some p->Dat D w (vb.getD i undef) p):Dat D w (.func f va vb) (.fn f fs cs)
 |ifc (t:TypeId) (x:Value) (p:PV) (h:Dat D w x p):Dat D w (.iface t x) (.ifc t p)
 |sl (a:Option Addr) (cap sz:Nat) (es:List (List PV)) (o:Ow) (b off:Nat) (u:Nat->Value) (hc:es.length<=cap) (hz:o=.z->cap=es.length) (hm:cap<=maxLen) (ha:es≠[]->a=some ⟨b,off,none⟩)
    (hsz:∀(i:Nat)(e:List PV),es[i]?=some e->e.length=sz) (hD:∀j,j<es.length*sz->D b (off+j)/\w.cell? ⟨b,off+j,none⟩=some (u j)/\(u j).oneCell'=true)
    (h:∀(i:Nat)(e:List PV)(j:Nat)(p:PV),es[i]?=some e->e[j]?=some p->Dat D w (u (i*sz+j)) p):Dat D w (.slice a es.length cap) (.sl es o)
 |cp (b off:Nat) (cs:List PV) (o:Nat) (u:Nat->Value) (hD:∀j,j<cs.length->D b (off+j)/\w.cell? ⟨b,off+j,none⟩=some (u j)/\(u j).oneCell'=true)
    (h:∀(j:Nat)(p:PV),cs[j]?=some p->Dat D w (u j) p):Dat D w (.pointer (some ⟨b,off+o,none⟩)) (.cp cs o)
def Dat.mono{D D':Qk}{w w':World}{x:Value}{p:PV}(h:Dat D w x p)(A:∀b o,D b o->D' b o)(B:∀b o x,D b o->w.cell? ⟨b,o,none⟩=some x->w'.cell? ⟨b,o,none⟩=some x):Dat D' w' x p:=by
 induction h with
 |v x=>exact .v x
 |und x=>exact .und x
 |agg vs cs hs h1 _ ih=>exact .agg vs cs hs h1 ih
 |tup vs cs hs _ ih=>exact .tup vs cs hs ih
 |fn f va vb fs cs h1 h2 _ _ ih1 ih2=>exact .fn f va vb fs cs h1 h2 ih1 ih2
 |ifc t x p _ ih=>exact .ifc t x p ih
 |sl a cap sz es o b off u hc hz hm ha hsz hd _ ih=>exact .sl a cap sz es o b off u hc hz hm ha hsz (λj y=>⟨A _ _ (hd j y).1,B _ _ _ (hd j y).1 (hd j y).2.1,(hd j y).2.2⟩) ih
 |cp b off cs o u hd _ ih=>exact .cp b off cs o u (λj y=>⟨A _ _ (hd j y).1,B _ _ _ (hd j y).1 (hd j y).2.1,(hd j y).2.2⟩) ih
def Rel1(D:Qk)(ρ:Nat->Nat)(j:Nat)(w:World)(x:Value)(p:PV):Prop:=
 Dat D w x p\/∃i o,p=.bx i o/\i<j/\x=.pointer (some ⟨ρ i,o,none⟩)
def Rel(D:Qk)(ρ:Nat->Nat)(nb:Nat)(w:World)(x:Value)(p:PV):Prop:=
 Rel1 D ρ nb w x p\/∃f u y o j,p=.fn f o j/\x=.func f u y/\u.size=o.length/\y.size=j.length/\(∀i q,o[i]?=some q->Rel1 D ρ nb w (u.getD i undef) q)/\(∀i q,j[i]?=some q->Rel1 D ρ nb w (y.getD i undef) q)
def Rel1.mono{D D':Qk}{ρ ρ':Nat->Nat}{u j:Nat}{w w':World}{x:Value}{p:PV}(h:Rel1 D ρ u w x p)(y:∀b o,D b o->D' b o)(A:∀b o x,D b o->w.cell? ⟨b,o,none⟩=some x->w'.cell? ⟨b,o,none⟩=some x)
 (C:u<=j) (B:∀i,i<u->ρ' i=ρ i):Rel1 D' ρ' j w' x p:=by
 rcases h with h|⟨i,o,rfl,hi,rfl⟩
 .exact .inl (h.mono y A)
 .exact .inr ⟨i,o,rfl,b6,by rw[B i hi]⟩
def Rel.mono{D D':Qk}{ρ ρ':Nat->Nat}{E j:Nat}{w w':World}{x:Value}{p:PV}(h:Rel D ρ E w x p)(u:∀b o,D b o->D' b o)(B:∀b o x,D b o->w.cell? ⟨b,o,none⟩=some x->w'.cell? ⟨b,o,none⟩=some x)
 (y:E<=j) (C:∀i,i<E->ρ' i=ρ i):Rel D' ρ' j w' x p:=by
 rcases h with h|⟨f,L,M,G,F,rfl,rfl,H,I,J,K⟩
 .exact .inl (h.mono u B y C)
 .exact .inr ⟨f,L,M,G,F,rfl,rfl,H,I,λi q A=>(J i q A).mono u B y C,λi q A=>(K i q A).mono u B y C⟩
def Rel.dat{D:Qk}{ρ:Nat->Nat}{nb:Nat}{w:World}{x:Value}{p:PV}(h:Dat D w x p):Rel D ρ nb w x p:=.inl (.inl h)
def PV.own:PV->Option Nat
 |.sl _ (.r n _)=>some n
 |_=>none
def PV.isB:PV->Bool
 |.bx _ _=>true
 |_=>false
def PV.isD:PV->Bool
 |.bx _ _=>false
 |.fn _ fs cs=>fs.all (λp=>!p.isB) && cs.all (λp=>!p.isB)
 |_=>true
def PV.strip:PV->PV
 |.sl es (.r _ _)=>.sl es .sh
 |.sl es (.n _)=>.sl es .sh
 |.sl es (.p _)=>.sl es .sh
 |p=>p
def PV.sh:PV->PV
 |.sl es _=>.sl es .sh
 |p=>p
def PV.strip_own(p:PV):p.strip.own=none:=by
 cases p<;>try rfl
 rename_i o;cases o<;>rfl
def PV.isN:PV->Bool
 |.sl _ (.n _)=>true
 |.sl _ (.p _)=>true
 |_=>false
def PV.strip_isN(p:PV):p.strip.isN=false:=by
 cases p<;>try rfl
 rename_i o;cases o<;>rfl
def NewOk(A:Nat->Value)(y:Nat)(w:World)(x:Value):PV->Prop
 |.sl es (.p i)=>∃u len j,A i=.slice u len j/\x=.slice u es.length j
 |.sl es (.n sz)=>(∃u,x=.slice u es.length es.length)\/∃g j o e,y<=g/\x=.slice (some ⟨g,0,none⟩) es.length j/\w.heap[g]?=some (.cells o e (0,0))/\o.size=j*sz
 |_=>True
def xA{u:Nat->Value}{j:Nat}{w:World}{x:Value}{p:PV}(h:p.isN=false):NewOk u j w x p:=by
 cases p<;>try trivial
 rename_i o;cases o<;>first|trivial|cases h
def NewOk.mono{C:Nat->Value}{A B:Nat}{w w':World}{x:Value}{p:PV}(h:NewOk C A w x p)(I:B<=A)(G:∀k,k<w.heap.size->w'.heap[k]?=w.heap[k]?):NewOk C B w' x p:=by
 cases p<;>try trivial
 rename_i es o;cases o<;>first|exact h|skip
 rcases h with h|⟨g,j,u,e,H,E,y,F⟩
 .exact .inl h
 .exact .inr ⟨g,j,u,e,b6,E,(G g (Y1.1 y).1).trans y,F⟩
def Dat.strip{D:Qk}{w:World}{x:Value}{p:PV}(h:Dat D w x p):Dat D w x p.strip:=by
 cases h with
 | sl a cap sz es o b off u hc hz hm ha hsz hD h=>
   cases o with
   |sh=>exact .sl a cap sz es _ b off u hc hz hm ha hsz hD h
   |z=>exact .sl a cap sz es _ b off u hc hz hm ha hsz hD h
   |n m=>exact .sl a cap sz es _ b off u hc (λh=>by cases h) hm ha hsz hD h
   |p m=>exact .sl a cap sz es _ b off u hc (λh=>by cases h) hm ha hsz hD h
   |r n m=>exact .sl a cap sz es _ b off u hc (λh=>by cases h) hm ha hsz hD h
 |v x=>exact .v x
 |und x=>exact .und x
 |agg vs cs hs h1 h=>exact .agg vs cs hs h1 h
 |tup vs cs hs h=>exact .tup vs cs hs h
 |fn f va vb fs cs h1 h2 h3 h4=>exact .fn f va vb fs cs h1 h2 h3 h4
 |ifc t x p h=>exact .ifc t x p h
 |cp b off cs o u hD h=>exact .cp b off cs o u hD h
def Dat.sh{D:Qk}{w:World}{x:Value}{p:PV}(h:Dat D w x p):Dat D w x p.sh:=by
 cases h with
 |sl a cap sz es o b off u hc hz hm ha hsz hD h=>exact .sl a cap sz es _ b off u hc (λh=>by cases h) hm ha hsz hD h
 |v x=>exact .v x
 |und x=>exact .und x
 |agg vs cs hs h1 h=>exact .agg vs cs hs h1 h
 |tup vs cs hs h=>exact .tup vs cs hs h
 |fn f va vb fs cs h1 h2 h3 h4=>exact .fn f va vb fs cs h1 h2 h3 h4
 |ifc t x p h=>exact .ifc t x p h
 |cp b off cs o u hD h=>exact .cp b off cs o u hD h
def Dat.owned{D:Qk}{w:World}{x:Value}{j:List (List PV)}{k:Ow}(h:Dat D w x (.sl j k))(n m:Nat):Dat D w x (.sl j (.r n m)):=by
 cases h with
 |sl a cap sz j o b off u hc hz hm ha hsz hD h=>exact .sl a cap sz j _ b off u hc (λh=>by cases h) hm ha hsz hD h
def PV.sh_own(p:PV):p.sh.own=none:=by cases p<;>rfl
def PV.sh_isD(p:PV):p.sh.isD=p.isD:=by cases p<;>rfl
def Rel1.strip{D:Qk}{ρ:Nat->Nat}{j:Nat}{w:World}{x:Value}{p:PV}(h:Rel1 D ρ j w x p):Rel1 D ρ j w x p.strip:=by
 rcases h with h|⟨i,o,rfl,hi,rfl⟩
 .exact .inl h.strip
 .exact .inr ⟨i,o,rfl,hi,rfl⟩
def Rel.strip{D:Qk}{ρ:Nat->Nat}{j:Nat}{w:World}{x:Value}{p:PV}(h:Rel D ρ j w x p):Rel D ρ j w x p.strip:=by
 rcases h with h|⟨f,y,A,u,o,rfl,h⟩
 .exact .inl h.strip
 .exact .inr ⟨f,y,A,u,o,rfl,h⟩
def yW(D:Qk)(W:Nat->Prop)(w:World)(x:Value):PV->Prop
 |.sl es (.r _ sz)=>(∃a,x=.slice a 0 0/\es=[])\/∃g j u e,x=.slice (some ⟨g,0,none⟩) es.length j/\W g/\w.heap[g]?=some (.cells u e (0,0))/\u.size=j*sz/\(∀e∈es,e.length=sz)/\∀o,es.length*sz<=o->¬D g o
 |_=>True
def zr{D:Qk}{W:Nat->Prop}{w:World}{x:Value}{p:PV}(h:p.own=none):yW D W w x p:=by
 cases p<;>try trivial
 rename_i o;cases o<;>first|trivial|cases h
def zc:Value->Option Nat
 |.slice (some a) _ (_+1)=>some a.block
 |_=>Option.none
def Dat.restrict{D:Qk}{w:World}{x:Value}{p:PV}(h:Dat D w x p):Dat (λb o=>D b o/\b<w.heap.size) w x p:=by
 induction h with
 |v x=>exact .v x
 |und x=>exact .und x
 |agg vs cs hs h1 _ ih=>exact .agg vs cs hs h1 ih
 |tup vs cs hs _ ih=>exact .tup vs cs hs ih
 |fn f va vb fs cs h1 h2 _ _ ih1 ih2=>exact .fn f va vb fs cs h1 h2 ih1 ih2
 |ifc t x p _ ih=>exact .ifc t x p ih
 |sl a cap sz es o b off u hc hz hm ha hsz hd _ ih=>exact .sl a cap sz es o b off u hc hz hm ha hsz (λj y=>⟨⟨(hd j y).1,tz w ⟨b,off+j,_⟩ (hd j y).2.1⟩,(hd j y).2⟩) ih
 |cp b off cs o u hd _ ih=>exact .cp b off cs o u (λj y=>⟨⟨(hd j y).1,tz w ⟨b,off+j,_⟩ (hd j y).2.1⟩,(hd j y).2⟩) ih
def Rel1.restrict{D:Qk}{ρ:Nat->Nat}{j:Nat}{w:World}{x:Value}{p:PV}(h:Rel1 D ρ j w x p):Rel1 (λb o=>D b o/\b<w.heap.size) ρ j w x p:=by
 rcases h with h|h
 .exact .inl h.restrict
 .exact .inr h
def Rel.restrict{D:Qk}{ρ:Nat->Nat}{u:Nat}{w:World}{x:Value}{p:PV}(h:Rel D ρ u w x p):Rel (λb o=>D b o/\b<w.heap.size) ρ u w x p:=by
 rcases h with h|⟨f,I,J,A,y,B,C,E,F,G,H⟩
 .exact .inl h.restrict
 .exact .inr ⟨f,I,J,A,y,B,C,E,F,λi q j=>(G i q j).restrict,λi q j=>(H i q j).restrict⟩
def Dat.isD{D:Qk}{w:World}{x:Value}{p:PV}(h:Dat D w x p):p.isD=true:=by
 have o:∀{x p},Dat D w x p->p.isB=false:=λh=>by cases h<;>rfl
 cases h<;>try rfl
 rename_i f va vb fs cs h1 h2 h3 h4;simp only[PV.isD,wh,wP,Wq];exact⟨λp j=>by obtain⟨i,hi⟩:=wN j;exact o (h3 i p hi),λp j=>by obtain⟨i,hi⟩:=wN j;exact o (h4 i p hi)⟩
def Rel1.data{D:Qk}{ρ:Nat->Nat}{u:Nat}{w:World}{x:Value}{p:PV}(h:Rel1 D ρ u w x p)(j:p.isB=false):Dat D w x p:=by
 rcases h with h|⟨i,o,rfl,_⟩
 .exact h
 .cases j
def Rel.data{D:Qk}{ρ:Nat->Nat}{G:Nat}{w:World}{x:Value}{p:PV}(h:Rel D ρ G w x p)(u:p.isD=true):Dat D w x p:=by
 rcases h with h|⟨f,H,I,A,y,rfl,rfl,B,C,E,F⟩
 .rcases h with h|⟨i,o,rfl,_⟩
  .exact h
  .cases u
 .simp only[PV.isD,wh,wP,Wq]at u;exact .fn f H I A y B C (λi q j=>(E i q j).data (u.1 q (wQ j))) (λi q j=>(F i q j).data (u.2 q (wQ j)))
def Rel.v_inv{D:Qk}{ρ:Nat->Nat}{j:Nat}{w:World}{x y:Value}(h:Rel D ρ j w x (.v y)):x=y:=by
 rcases h with(h|⟨i,o,h,_⟩)|⟨f,va,vb,fs,cs,h,_⟩
 .cases h;rfl
 .cases h
 .cases h
def PV.pre(i:Nat):PV->PV
 |.sl es (.r _ _)=>.sl es (.p i)
 |p=>p.strip
def PV.pre_or(i:Nat)(p:PV):p.pre i=p.strip\/∃j n m,p=.sl j (.r n m)/\p.pre i=.sl j (.p i):=by
 cases p<;>try exact .inl rfl
 rename_i j o;cases o<;>first|exact .inl rfl|exact .inr ⟨_,_,_,rfl,rfl⟩
def PV.clean:PV->PV
 |.sl es (.n _)=>.sl es .sh
 |.sl es (.p _)=>.sl es .sh
 |p=>p
def PV.clean_or(p:PV):p.clean=p.strip\/p.clean=p:=by
 cases p<;>try exact .inr rfl
 rename_i es o;cases o<;>first|exact .inl rfl|exact .inr rfl
def PV.clean_isN(p:PV):p.clean.isN=false:=by
 cases p<;>try rfl
 rename_i es o;cases o<;>rfl
end
end Go.Proofs.YtjdjjlkifdimkaaGreatDoor
