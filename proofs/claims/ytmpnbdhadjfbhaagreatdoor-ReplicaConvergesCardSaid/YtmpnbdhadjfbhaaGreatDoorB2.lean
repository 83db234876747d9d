import Derived.RangeFuncNested
import Derived.RangeFuncBound
import Derived.RangeFuncCalls
import Derived.RangeFuncLeaves
import Derived.Shelf.Abstract
import Derived.Shelf.RegionOpen
import Derived.WalkKit
import Derived.OwnWalkIn
import Derived.TacticsInMore
import Derived.LoopNIn
import Derived.LoopIn
import Derived.Maps.AppendAt
import Derived.Lib.Hide
import Derived.Test.YtmpnbdhadjfbhaaGreatDoorProg
import Derived.ChangeAt
import Derived.DataElems
import Derived.Deep.Slices
import Derived.ProofKit
import Derived.Lib.SmallJoins
import Derived.Test.YtmpnbdhadjfbhaaGreatDoorB0
set_option linter.all false
set_option maxRecDepth 100000
namespace Go.Proofs.YtmpnbdhadjfbhaaGreatDoor
def dK{p:Prop}(h:p:=by kernel_rfl):p:=h
def tl:=@Go.World.cell?_of_block
def tn:=@Go.World.alloc_heap_new
def tp:=@Go.World.block_lt_of_cell?
def tu:=@Go.RowKit.Below.heap_alloc
def tv:=@Go.World.size_alloc
def tw:=@Go.RowKit.Below.heap_setCell
def tN:=@Go.World.putObj_heap_other
def tR:=@Go.World.ownsRow_nil
def Tk:=@Go.World.putObj_heap_same
def TD:=@Go.World.frozen?_of_block
def T0:=@Go.run_endLoop
open Go.Proofs.Tryz
open Go.Proofs.Tryz renaming prog->xT
section
open Go.RowKit
structure Keep(S:Nat->Prop)(A B:World):Prop where
 os:B.os=A.os
 tape:B.tape=A.tape
 output:B.output=A.output
 size:A.heap.size<=B.heap.size
 block:∀k,k<A.heap.size->¬S k->B.heap[k]?=A.heap[k]?
namespace Keep
variable {S S':Nat->Prop}{A B C:World}
def refl(S:Nat->Prop)(A:World):Keep S A A:=⟨rfl,rfl,rfl,Zp _,λ_ _ _=>rfl⟩
def trans(h:Keep S A B)(k:Keep S B C):Keep S A C:=
 ⟨k.os.trans h.os,k.tape.trans h.tape,k.output.trans h.output,V1 h.size k.size,λi hi hs=>(k.block i (Vm hi h.size) hs).trans (h.block i hi hs)⟩
def mono(h:Keep S A B)(hs:∀k,k<A.heap.size->S k->S' k):Keep S' A B:=⟨h.os,h.tape,h.output,h.size,λi hi j=>h.block i hi λe=>j (hs i hi e)⟩
def drew(h:Keep S A B):Keep S A B.drew:=⟨h.os,h.tape,h.output,h.size,h.block⟩
def alloc(h:Keep S A B)(o:Obj):Keep S A (B.alloc o):=
 h.trans ⟨rfl,rfl,rfl,b6,λk hk _=>tu _ _ _ hk⟩
def setCell(h:Keep S A B){p:Addr}(j:p.block<A.heap.size->S p.block)(u:Value):Keep S A (B.setCell p u):=
 ⟨h.os,h.tape,h.output,by show A.heap.size<=(B.heap.modify _ _).size;rw[Array.size_modify];exact h.size,λk hk hs=>(tw _ _ _ _ (λe=>hs (by rw[e];exact j (by rw[<-e];exact hk)))).trans (h.block k hk hs)⟩
def putObj(h:Keep S A B){l:Nat}(j:l<A.heap.size->S l)(o:Obj):Keep S A (B.putObj l o):=
 ⟨h.os,h.tape,h.output,dJ h.size,λk hk hs=>(tN (λe=>hs (by rw[e];exact j (by rw[<-e];exact hk)))).trans (h.block k hk hs)⟩
def grown{o:Option Nat}(h:Keep S A B)(j:B.grownBy C o)(u:∀k,o=some k->k<A.heap.size->S k):Keep S A C:=
 ⟨j.os.trans h.os,j.tape.trans h.tape,j.output.trans h.output,V1 h.size j.size,λk hk hs=>(j.block k (Vm hk h.size) (λe=>hs (u k e.symm hk))).trans (h.block k hk hs)⟩
def below{n:Nat}(h:Keep S A B)(j:n<=A.heap.size)(hs:∀k,k<n->¬S k):Below n A B:=
 ⟨h.os,h.tape,h.output,h.size,λk hk=>h.block k a8 (hs k hk)⟩
def of_below'{n:Nat}(h:Below n A B)(j:A.heap.size<=n):Keep S A B:=⟨h.os,h.tape,h.output,h.size,λk hk _=>h.block k a8⟩
def cell(h:Keep S A B){p:Addr}(j:p.block<A.heap.size)(hs:¬S p.block):B.cell? p=A.cell? p:=tl (h.block _ j hs)
def frozen(h:Keep S A B){p:Addr}(j:p.block<A.heap.size)(hs:¬S p.block):B.frozen? p=A.frozen? p:=TD (h.block _ j hs)
def cell_some(h:Keep S A B){p:Addr}{v:Value}(j:A.cell? p=some v)(hs:¬S p.block):B.cell? p=some v:=(h.cell (tp A p j) hs).trans j
def boxed(h:Keep S A B){b:Nat}{t:TypeId}{v:Value}(j:Boxed A b t v)(hs:¬S b):Boxed B b t v:=(h.block b j.lt hs).trans j
def obj(h:Keep S A B){b:Nat}{o:Obj}(j:A.heap[b]?=some o)(hs:¬S b):B.heap[b]?=some o:=(h.block b (XV.1 j).1 hs).trans j
def ownsRow(h:Keep S A B){base:Nat}{e:TypeId}{size:Nat}{v:Value}{n:Nat}{y:List Value}(w:A.ownsRow base e size v n y)(hs:∀g,v.ownBlock=some g->¬S g):B.ownsRow base e size v n y:=by
 refine⟨w.1,?_⟩;rcases w.2 with C|⟨g,j,o,rfl,hb,u,rest⟩
 .exact .inl C
 .exact .inr ⟨g,j,o,rfl,hb,h.obj u (hs g rfl),rest⟩
end Keep
def zbY{α:Type}(P:Program)(E:Nat)(F:Array Value)(o:α->Array Value)(T C:Nat->Prop)(y:List α)(W:World):Prop:=
 ∀(l:Nat)(J u:List α->World->Prop),
  (∀pre A B,J pre A->Keep T A B->J pre B)->(∀pre A B,u pre A->Keep T A B->u pre B) ->
  (∀pre x w,J pre w->pre++[x] <+: y->YieldAt Fence.wide 7 P l (o x) w λe j=>
    (e=.returned (.bool true)/\J (pre++[x]) j/\Keep (λk=>¬C k) w j)\/(e=.returned (.bool false)/\u (pre++[x]) j)) ->
  J [] W ->
  CallsIn Fence.wide 8 P E (#[.func (.yield l) #[] #[]]++F) W λe j=>(∃v,e=.returned v)/\(J y j\/∃pre,pre <+: y/\u pre j)
def ziO{α:Type}(Sb:Nat->Prop)(I:List α->World->Prop)(o:Code->List α->World->Prop)(j:List α)(W:World):Exit->Act->World->Prop
 |.normal,_,W'=>Keep Sb W W'/\I j W'
 |.ret,_,W'=>Keep Sb W W'/\o .ret j W'
 |.exit id,_,W'=>Keep Sb W W'/\o (.exit id) j W'
 |.goto t,_,W'=>Keep Sb W W'/\o (.goto t) j W'
 |.panic _,_,_=>False
 |.outgrown,_,_=>False
def ziP{α:Type}{P:Program}{g:Operand}{ps:Array Tmp}{assign body:Code}{Q:Exit->Act->World->Prop}{a:Act}{w:World}
 (gf:Nat) (lb:Array Value) (hg:a.eval g=.func (.func gf) #[] lb) (eg:∀ad w,(callFunc gf ad).run P w=.ok (.enter gf ad) w)
 (J:α->Array Value) (aF:∀x,(J x).size=ps.size) (T Pr:Nat->Prop) (xs:List α)
 (aC:∀W,Keep (λ_=>False) w W->W.heap.size=w.heap.size+2->zbY P gf lb J T Pr xs W)
 (Sb:Nat->Prop) (L:∀k,Sb k->¬Pr k/\k≠w.heap.size/\k≠w.heap.size+1)
 (ae:¬Pr (w.heap.size+1)) (ab:¬T w.heap.size/\¬T (w.heap.size+1))
 (I:List α->World->Prop) (Ix:Code->List α->World->Prop)
 (hI:∀pre A B,I pre A->Keep (λk=>T k\/k=w.heap.size\/k=w.heap.size+1) A B->I pre B)
 (O:∀c pre A B,Ix c pre A->Keep (λk=>T k\/k=w.heap.size\/k=w.heap.size+1) A B->Ix c pre B)
 (h0:I [] w)
 (Ax:List α->α->Act->World->Prop)
 (ar:∀pre x a' A B,Ax pre x a' A->Keep (λk=>k=w.heap.size+1) A B->Ax pre x a' B)
 (U:∀l pre x W,pre++[x] <+: xs->w.heap.size+1<W.heap.size->I pre W ->
   assign.wpIn (Fence.wide.inRound l) 7 P (Exit.then (λa' W'=>Keep Sb W W'/\Ax pre x a' W') (λ_ _ _=>False)) { tmps:=(ps.zip (J x)).foldl (λt (p,v)=>t.setIfInBounds p v) a.tmps,defers:=[] } W)
 (ag:∀l pre x a' W,pre++[x] <+: xs->w.heap.size+1<W.heap.size->Ax pre x a' W->body.wpIn (Fence.wide.inRound l) 7 P (ziO Sb I Ix (pre++[x]) W) a' W)
 (ah:∀W,I xs W->W.heap[w.heap.size]?=some (.deferred (some []))->Q .normal { a with defers:={ target:=.collected w.heap.size,args:=#[] }::a.defers } W)
 (ak:∀c pre W,pre <+: xs->Ix c pre W->W.heap[w.heap.size]?=some (.deferred (some []))->c.wpIn Fence.wide 9 P Q { a with defers:={ target:=.collected w.heap.size,args:=#[] }::a.defers } W) :
 (Code.rangeFunc g ps assign body).wpIn Fence.wide 9 P Q a w:=by
 refine wpIn_rangeFunc ?_;intro fn aB;rw[show Fence.wide.round=none from rfl];obtain⟨u,j⟩:∃u:LoopState->Option Code->Loop,u=λst pe=>{ state:=st,pending:=pe,fn,tmps:=a.tmps,params:=ps,assign,body,defers:=w.heap.size }:=⟨_,rfl⟩;obtain⟨M,S⟩:=xt ((w.alloc (.deferred (some []))).alloc (.loop (u .ready none)));have aw:M.heap[w.heap.size+1]?=some (.loop (u .ready none)):=by
  rw[<-S];have:=tn (w.alloc (.deferred (some []))) (.loop (u .ready none));rwa[tv]at this
 have av:M.heap[w.heap.size]?=some (.deferred (some [])):=by rw[<-S];exact(tu _ _ _ b6).trans (tn w _)
 have am:Keep (λ_=>False) w M:=by rw[<-S];exact((Keep.refl _ _).alloc _).alloc _
 have aG:M.heap.size=w.heap.size+2:=by rw[<-S];simp
 have au:I [] M:=hI _ _ _ h0 (am.mono λ_ _ h=>h.elim);refine⟨w.heap.size+1,[{ target:=.collected w.heap.size,args:=#[] }],M,{ target:=.fn (.func gf) lb,args:=#[.func (.yield (w.heap.size+1)) #[] #[]] },M,gf,
  #[.func (.yield (w.heap.size+1)) #[] #[]]++lb,M,?_,?_,?_,?_,λ_=>a8,?_⟩
 .rw[<-S,j];exact run_enterLoop_outer _ _ _ _ _
 .simp only[resolve,hg];simp[go_sem]
 .intro f' _;trivial
 .simp[invoke,go_sem,eg]
 .refine(aC M am aG (w.heap.size+1)
   (λpre W=>I pre W/\W.heap[w.heap.size+1]?=some (.loop (u .ready none))/\W.heap[w.heap.size]?=some (.deferred (some [])))
   (λpre W=>∃c,Ix c pre W/\W.heap[w.heap.size+1]?=some (.loop (u .done (some c)))/\W.heap[w.heap.size]?=some (.deferred (some [])))
   ?_ ?_ ?_ ⟨au,aw,av⟩).mono ?_
  .rintro pre A B ⟨hi,X,hk⟩ h;exact⟨hI _ _ _ hi (h.mono λ_ _ e=>.inl e),h.obj X ab.2,h.obj hk ab.1⟩
  .rintro pre A B ⟨c,hi,X,hk⟩ h;exact⟨c,O _ _ _ _ hi (h.mono λ_ _ e=>.inl e),h.obj X ab.2,h.obj hk ab.1⟩
  .rintro pre x W ⟨hi,X,hk⟩ aq;have aE:w.heap.size+1<W.heap.size:=(XV.1 X).1;have hy:=run_yield (P:=P) (args:=J x) X (by rw[j];exact aF x);rw[j]at hy;refine⟨fn,_,assign,body,hy,roundIn_of_wpIn aB (wpIn_mono (U _ pre x W aq aE hi) ?_)⟩;intro e a1 Wa he;cases e with
   | normal=>
     obtain⟨ai,ax⟩:=he;have an:Wa.heap[w.heap.size+1]?=some (.loop (u .ready none)):=ai.obj X λh=>(L _ h).2.2 rfl;have aA:Wa.heap[w.heap.size]?=some (.deferred (some [])):=ai.obj hk λh=>(L _ h).2.1 rfl;have af:w.heap.size+1<Wa.heap.size:=(XV.1 an).1;refine⟨_,run_beginRound an (by rw[j]),?_⟩;obtain⟨Y,ac⟩:=xt (Wa.putObj (w.heap.size+1) (.loop { u .ready none with state:=.busy }));rw[ac];have V:Keep (λk=>k=w.heap.size+1) Wa Y:=(by rw[<-ac];exact(Keep.refl (λk=>k=w.heap.size+1) Wa).putObj (λ_=>rfl) _);have aD:Y.heap[w.heap.size+1]?=some (.loop { u .ready none with state:=.busy }):=(by rw[<-ac];exact Tk af);have ay:Y.heap[w.heap.size]?=some (.deferred (some [])):=V.obj aA a8;refine wpIn_mono (ag _ pre x a1 Y aq (by rw[<-ac];simpa using af) (ar _ _ _ _ _ ax V)) ?_;have fin:∀(y:Option Code)(N:World),Keep Sb Y N->∃Z,
      (Instr.endRound (w.heap.size+1) y).run P N=.ok (.bool y.isNone) Z /\
      Z.heap[w.heap.size+1]?=some (.loop (u (if y.isNone then .ready else .done) y)) /\
      Z.heap[w.heap.size]?=some (.deferred (some []))/\Keep (λk=>k=w.heap.size+1) N Z/\Keep (λk=>¬Pr k) W Z:=λy N o=>by
      have aj:=o.obj aD λh=>(L _ h).2.2 rfl;have az:=o.obj ay λh=>(L _ h).2.1 rfl;have C:=run_endRound (P:=P) y aj;rw[j]at C aj⊢;refine⟨_,C,Tk (XV.1 aj).1,(tN a8).trans az,(Keep.refl (λk=>k=w.heap.size+1) N).putObj (λ_=>rfl) _,?_⟩;have e1:Keep (λk=>¬Pr k) W Wa:=ai.mono λk _ h=>(L k h).1;have e2:Keep (λk=>¬Pr k) Wa Y:=V.mono λk _ h=>(by cases h;exact ae);have e3:Keep (λk=>¬Pr k) Y N:=o.mono λk _ h=>(L k h).1;exact(((e1.trans e2).trans e3)).putObj (λ_=>ae) _
     rintro e a3 N hp;cases e with
     |normal=>obtain⟨o,F⟩:=hp;obtain⟨Z,C,H,E,G,K⟩:=fin none N o;exact⟨_,_,C,.inl ⟨rfl,⟨hI _ _ _ F (G.mono λ_ _ e=>.inr (.inr e)),H,E⟩,K⟩⟩
     |ret=>obtain⟨o,F⟩:=hp;obtain⟨Z,C,H,E,G,K⟩:=fin (some .ret) N o;exact⟨_,_,C,.inr ⟨rfl,.ret,O _ _ _ _ F (G.mono λ_ _ e=>.inr (.inr e)),H,E⟩⟩
     |exit id=>obtain⟨o,F⟩:=hp;obtain⟨Z,C,H,E,G,K⟩:=fin (some (.exit id)) N o;exact⟨_,_,C,.inr ⟨rfl,.exit id,O _ _ _ _ F (G.mono λ_ _ e=>.inr (.inr e)),H,E⟩⟩
     |goto t=>obtain⟨o,F⟩:=hp;obtain⟨Z,C,H,E,G,K⟩:=fin (some (.goto t)) N o;exact⟨_,_,C,.inr ⟨rfl,.goto t,O _ _ _ _ F (G.mono λ_ _ e=>.inr (.inr e)),H,E⟩⟩
     |panic ch=>exact hp.elim
     |outgrown=>exact hp.elim
   |ret=>exact he.elim
   |exit id=>exact he.elim
   |goto t=>exact he.elim
   |panic ch=>exact he.elim
   |outgrown=>exact he.elim
  .rintro e Y ⟨⟨v,rfl⟩,(⟨hi,X,hk⟩|⟨pre,ao,c,hi,X,hk⟩)⟩
   .have C:=T0 (P:=P) X (by rw[j];simp);refine⟨none,_,by rw[j]at C;exact C,ah _ (hI _ _ _ hi ((Keep.refl _ _).putObj (λ_=>.inr (.inr rfl)) _)) ((tN a8).trans hk)⟩
   .have C:=T0 (P:=P) X (by rw[j];simp);refine⟨some c,_,by rw[j]at C;exact C,ak c pre _ ao (O _ _ _ _ hi ((Keep.refl _ _).putObj (λ_=>.inr (.inr rfl)) _)) ((tN a8).trans hk)⟩
end
section
def zk:Nat:=18446744073709551616
def zw:zk=18446744073709551616:=rfl
def xM:0<zk:=by rw[zw];omega
structure Iv where
 lo:Nat
 hi:Nat
deriving DecidableEq
def Iv.ext'{s t:Iv}(j:s.lo=t.lo)(o:s.hi=t.hi):s=t:=by cases s;cases t;simp_all
def mem(l:List Iv)(x:Nat):Bool:=l.any λs=>decide (s.lo<=x) && decide (x<=s.hi)
@[simp] theorem Xf (x:Nat):mem [] x=false:=rfl
def mem_cons(s:Iv)(l:List Iv)(x:Nat):mem (s::l) x=((decide (s.lo<=x) && decide (x<=s.hi)) || mem l x):=rfl
def yd(l k:List Iv)(x:Nat):mem (l++k) x=(mem l x || mem k x):=by simp[mem,UE]
def qf{l:List Iv}{x:Nat}:mem l x=true↔∃s∈l,s.lo<=x/\x<=s.hi:=by simp[mem]
def NF:Nat->List Iv->Prop
 |_,[]=>True
 |n,s::l=>n<=s.lo/\s.lo<=s.hi/\s.hi<zk/\NF (s.hi+2) l
def Nrm(l:List Iv):Prop:=NF 0 l
def NF.mono{l:List Iv}{n m:Nat}(h:NF n l)(j:m<=n):NF m l:=by
 cases l with
 |nil=>trivial
 |cons s l=>exact⟨V1 j h.1,h.2.1,h.2.2.1,h.2.2.2⟩
def NF.tail{s:Iv}{l:List Iv}{n:Nat}(h:NF n (s::l)):NF n l:=h.2.2.2.mono (by have:=h.1;have:=h.2.1;omega)
def NF.lo_ge{l:List Iv}:∀{n:Nat},NF n l->∀s∈l,n<=s.lo/\s.lo<=s.hi/\s.hi<zk:=by
 induction l with
 |nil=>intro n _ s hs;cases hs
 | cons t l ih=>
   intro n h s hs;cases hs with
   |head=>exact⟨h.1,h.2.1,h.2.2.1⟩
   |tail _ hs=>have:=ih h.2.2.2 s hs;have:=h.1;have:=h.2.1;exact⟨a8,a8,a8⟩
def NF.mem_ge{l:List Iv}{n:Nat}(h:NF n l){x:Nat}(j:mem l x=true):n<=x/\x<zk:=by obtain⟨s,hs,o,u⟩:=qf.1 j;have:=h.lo_ge s hs;omega
def NF.mem_lt{l:List Iv}{n:Nat}(h:NF n l){x:Nat}(j:x<n):mem l x=false:=by
 cases e:mem l x with
 |false=>rfl
 |true=>have:=(h.mem_ge e).1;omega
def NF.unique:∀{a b:List Iv}{n:Nat},NF n a->NF n b->(∀x,mem a x=mem b x)->a=b
 |[],[],_,_,_,_=>rfl
 |[],s::l,_,_,hb,h=>by have:=h s.lo;have j:=hb.2.1;simp[mem_cons,j]at this
 |s::l,[],_,ha,_,h=>by have:=h s.lo;have j:=ha.2.1;simp[mem_cons,j]at this
 | s::l,t::k,n,ha,hb,h=>by
   have H:=ha.2.1;have I:=hb.2.1;have B:s.lo=t.lo:=by
    have j:=h s.lo;have G:=h t.lo;rw[mem_cons,mem_cons]at j G;have e1:mem l t.lo=true->s.hi+2<=t.lo:=λe=>(ha.2.2.2.mem_ge e).1;have e2:mem k s.lo=true->t.hi+2<=s.lo:=λe=>(hb.2.2.2.mem_ge e).1;cases c1:mem l t.lo<;>cases c2:mem k s.lo<;>simp_all<;>omega
   have A:s.hi=t.hi:=by
    rcases WL s.hi t.hi with K|y|J
    .exfalso;have j:=h (s.hi+1);have F:s.lo<=s.hi+1:=a8;have o:¬s.hi+1<=s.hi:=a8;have u:t.lo<=s.hi+1:=a8;have w:s.hi+1<=t.hi:=a8;rw[mem_cons,mem_cons,ha.2.2.2.mem_lt (show s.hi+1<s.hi+2 by omega)]at j;simp[o,u,w]at j
    .exact y
    .exfalso;have j:=h (t.hi+1);have F:t.lo<=t.hi+1:=a8;have o:¬t.hi+1<=t.hi:=a8;have u:s.lo<=t.hi+1:=a8;have w:t.hi+1<=s.hi:=a8;rw[mem_cons,mem_cons,hb.2.2.2.mem_lt (show t.hi+1<t.hi+2 by omega)]at j;simp[o,u,w]at j
   have C:s=t:=Iv.ext' B A;subst C;have:l=k:=NF.unique (n:=s.hi+2) ha.2.2.2 hb.2.2.2 λx=>by
    by_cases E:x<s.hi+2
    .rw[ha.2.2.2.mem_lt E,hb.2.2.2.mem_lt E]
    .have:=h x;rw[mem_cons,mem_cons]at this;have L:¬x<=s.hi:=a8;simpa[L]using this
   rw[this]
def Nrm.unique{a b:List Iv}(j:Nrm a)(hb:Nrm b)(h:∀x,x<zk->mem a x=mem b x):a=b:=
 NF.unique j hb λx=>by
  by_cases o:x<zk
  .exact h x o
  .have:∀{l},Nrm l->mem l x=false:=λ{l} hl=>by
    cases e:mem l x with
    |false=>rfl
    |true=>have:=(NF.mem_ge hl e).2;omega
   rw[this j,this hb]
def ye:List Iv->Nat->Option Nat
 |[],_=>none
 |s::l,x=>if x<s.lo then some s.lo else if s.hi+1<zk/\x<s.hi+1 then some (s.hi+1) else ye l x
def kv:Option Nat->Option Nat->Option Nat
 |none,b=>b
 |some x,none=>some x
 |some x,some y=>if y<x then some y else some x
def xr{l:List Iv}{x y:Nat}(h:ye l x=some y):x<y:=by
 induction l with
 |nil=>cases h
 | cons s l ih=>
   unfold ye at h;split at h
   .cases h;assumption
   .split at h
    .cases h;omega
    .exact ih h
def vJ{l:List Iv}{n x y:Nat}(j:NF n l)(h:ye l x=some y):y<zk:=by
 induction l generalizing n with
 |nil=>cases h
 | cons s l ih=>
   have o:=j.2.1;have u:=j.2.2.1;unfold ye at h;split at h
   .cases h;omega
   .split at h
    .cases h;omega
    .exact ih j.2.2.2 h
def xB{l:List Iv}{n x y z:Nat}(j:NF n l)(h:ye l x=some y)(C:x<=z)(A:z<y):mem l z=mem l x:=by
 induction l generalizing n with
 |nil=>cases h
 | cons s l ih=>
   have o:=j.2.1;unfold ye at h;split at h
   .rename_i hlt;cases h;rw[(j.2.2.2.mono (m:=s.lo) a8 |> λk:NF s.lo l=>(show NF s.lo (s::l) from ⟨Zp _,o,j.2.2.1,j.2.2.2⟩)).mem_lt A,
     (show NF s.lo (s::l) from ⟨Zp _,o,j.2.2.1,j.2.2.2⟩).mem_lt hlt]
   .split at h
    .rename_i hn hc;cases h;have e1:mem l z=false:=j.2.2.2.mem_lt a8;have e2:mem l x=false:=j.2.2.2.mem_lt a8;rw[mem_cons,mem_cons,e1,e2];have:(s.lo<=z)=True:=a9;have:(s.lo<=x)=True:=a9;have:(z<=s.hi)=True:=a9;have:(x<=s.hi)=True:=a9;simp[*]
    .rename_i hn hc;rw[mem_cons,mem_cons,ih j.2.2.2 h];have B:=j.2.2.1;by_cases E:s.hi+1<zk
     .have u:¬x<=s.hi:=a8;have w:¬z<=s.hi:=a8;simp[u,w]
     .exfalso;have:l=[]:=by
       cases l with
       |nil=>rfl
       |cons t l=>have:=j.2.2.2.1;have:=j.2.2.2.2.1;have:=j.2.2.2.2.2.1;omega
      subst this;cases h
def kx{l:List Iv}{n x z:Nat}(j:NF n l)(h:ye l x=none)(y:x<=z)(A:z<zk):mem l z=mem l x:=by
 induction l generalizing n with
 |nil=>rfl
 | cons s l ih=>
   have w:=j.2.2.1;unfold ye at h;split at h
   .cases h
   .split at h
    .cases h
    .rename_i hn hc;rw[mem_cons,mem_cons,ih j.2.2.2 h];by_cases B:s.hi+1<zk
     .have o:¬x<=s.hi:=a8;have u:¬z<=s.hi:=a8;simp[o,u]
     .have:(s.lo<=z)=True:=a9;have:(s.lo<=x)=True:=a9;have:(z<=s.hi)=True:=a9;have:(x<=s.hi)=True:=a9;simp[*]
def zdt{s:Iv}{l:List Iv}{x:Nat}(h:s.hi<x)(j:s.lo<=s.hi):ye (s::l) x=ye l x:=by
 conv=>lhs;unfold ye
 rw[Vq a8,Vq a8]
def QU(a b:List Iv):Nat->Nat->List (Iv×Bool×Bool)
 |0,_=>[]
 | f+1,x=>
   match kv (ye a x) (ye b x)with
   |none=>[(⟨x,zk-1⟩,mem a x,mem b x)]
   |some y=>(⟨x,y-1⟩,mem a x,mem b x)::QU a b f y
def yO(a b:List Iv):List (Iv×Bool×Bool):=QU a b zk 0
def Cov(a b:List Iv):Nat->List (Iv×Bool×Bool)->Prop
 |x,[]=>x=zk
 |x,(s,p,q)::r=>s.lo=x/\x<=s.hi/\s.hi<zk/\(∀z,x<=z->z<=s.hi->mem a z=p/\mem b z=q)/\Cov a b (s.hi+1) r
def zbl{a b:Option Nat}(h:kv a b=none):a=none/\b=none:=by
 cases a<;>cases b<;>simp[kv]at h⊢;split at h<;>cases h
def zf0{a b:List Iv}(o:Nrm a)(hb:Nrm b):∀(f x:Nat),x<zk->zk<=f+x->Cov a b x (QU a b f x):=by
 intro f;induction f with
 |zero=>intro x A B;omega
 | succ f ih=>
   intro x A B;unfold QU;cases hm:kv (ye a x) (ye b x)with
   | none=>
     obtain⟨E,F⟩:=zbl hm;refine⟨rfl,?_,?_,?_,?_⟩
     .show x<=zk-1;omega
     .show zk-1<zk;omega
     .intro z j z2;have w:z<zk:=(by have:z<=zk-1:=z2;omega);exact⟨kx o E j w,kx hb F j w⟩
     .show zk-1+1=zk;omega
   | some y=>
     have C:x<y/\y<zk/\∀z,x<=z->z<y->mem a z=mem a x/\mem b z=mem b x:=by
      cases ea:ye a x with
      |none=>rw[ea]at hm;have eb:ye b x=some y:=hm;refine⟨xr eb,vJ hb eb,λz j z2=>⟨kx o ea j (by have:=vJ hb eb;omega),xB hb eb j z2⟩⟩
      | some u=>
        cases eb:ye b x with
        |none=>rw[ea,eb]at hm;simp only[kv]at hm;cases hm;exact⟨xr ea,vJ o ea,λz j z2=>⟨xB o ea j z2,kx hb eb j (by have:=vJ o ea;omega)⟩⟩
        | some v=>
          rw[ea,eb]at hm;simp only[kv]at hm;split at hm
          .cases hm;exact⟨xr eb,vJ hb eb,λz j z2=>⟨xB o ea j a8,xB hb eb j z2⟩⟩
          .cases hm;exact⟨xr ea,vJ o ea,λz j z2=>⟨xB o ea j z2,xB hb eb j a8⟩⟩
     obtain⟨I,G,H⟩:=C;refine⟨rfl,?_,?_,?_,?_⟩
     .show x<=y-1;omega
     .show y-1<zk;omega
     .intro z j z2;have:z<=y-1:=z2;exact H z j a8
     .show Cov a b (y-1+1) _;rw[show y-1+1=y from by omega];exact ih y G a8
def j4{a b:List Iv}(j:Nrm a)(hb:Nrm b):Cov a b 0 (yO a b):=zf0 j hb zk 0 xM a8
def Q8(j:List Iv)(s:Iv):List Iv:=
 match j.getLast? with
 |none=>[s]
 |some t=>if t.hi+1=s.lo then j.dropLast++[⟨t.lo,s.hi⟩] else j++[s]
def qg(f:XE)(j:List Iv):List (Iv×Bool×Bool)->List Iv
 |[]=>j
 |(s,p,q)::r=>qg f (if f p q then Q8 j s else j) r
def qy(f:XE)(a b:List Iv):List Iv:=qg f [] (yO a b)
def yf(f:XE)(j:List Iv)(o u:List (Iv×Bool×Bool)):qg f j (o++u)=qg f (qg f j o) u:=by
 induction o generalizing j with
 |nil=>rfl
 |cons x o ih=>obtain⟨s,p,q⟩:=x;simp only[yb,qg];exact ih _
def NF.snoc{l:List Iv}{s:Iv}{n:Nat}(h:NF n l)(j:∀t∈l,t.hi+2<=s.lo)(y:n<=s.lo)(o:s.lo<=s.hi)(w:s.hi<zk):NF n (l++[s]):=by
 induction l generalizing n with
 |nil=>exact⟨y,o,w,trivial⟩
 |cons t l ih=>exact⟨h.1,h.2.1,h.2.2.1,ih h.2.2.2 (λu A=>j u (by simp[A])) (j t b6)⟩
def NF.last_lt{l:List Iv}{t:Iv}:∀{n:Nat},NF n (l++[t])->∀u∈l,u.hi+2<=t.lo:=by
 induction l with
 |nil=>intro n _ u j;cases j
 | cons s l ih=>
   intro n h u j;cases j with
   |head=>exact(h.2.2.2.lo_ge t b6).1
   |tail _ j=>exact ih h.2.2.2 u j
def NF.init{l:List Iv}{t:Iv}:∀{n:Nat},NF n (l++[t])->NF n l:=by
 induction l with
 |nil=>intro n _;trivial
 |cons s l ih=>intro n h;exact⟨h.1,h.2.1,h.2.2.1,ih h.2.2.2⟩
def Xm{o:List Iv}{s:Iv}(h:Nrm o)(hs:∀t∈o,t.hi<s.lo)(y:s.lo<=s.hi)(w:s.hi<zk):
 Nrm (Q8 o s)/\(∀x,mem (Q8 o s) x=(mem o x || (decide (s.lo<=x) && decide (x<=s.hi))))/\∀t∈Q8 o s,t.hi<=s.hi:=by
 rcases Ut o with rfl|⟨l,t,rfl⟩
 .refine⟨⟨X4 _,y,w,trivial⟩,λx=>by simp[Q8,mem_cons],λt ht=>?_⟩;simp[Q8]at ht;subst ht;exact Zp _
 .simp only[Uu]at *;have ht:=NF.lo_ge h t b6;have A:=hs t b6;unfold Q8;simp only[u0,ta];by_cases e:t.hi+1=s.lo
  .rw[vD e];refine⟨NF.snoc (NF.init h) (λu j=>by have:=NF.last_lt h u j;show u.hi+2<=t.lo;omega) (X4 _) (by show t.lo<=s.hi;omega) w,λx=>?_,λu j=>?_⟩
   .rw[yd,yd,mem_cons,mem_cons,UD];congr 1;simp only[Xf,Bool.or_false];rw[Wz];simp;omega
   .simp at j;rcases j with j|rfl
    .have:=NF.last_lt h u j;omega
    .exact Zp _
  .rw[Vq e];refine⟨NF.snoc h (λu j=>?_) (X4 _) y w,λx=>by rw[yd,mem_cons];simp,λu j=>?_⟩
   .simp at j;rcases j with j|rfl
    .have:=NF.last_lt h u j;omega
    .omega
   .simp at j;rcases j with j|rfl|rfl
    .have:=NF.last_lt h u j;omega
    .omega
    .exact Zp _
def Zt{f:XE}{a b:List Iv}:∀(o:List (Iv×Bool×Bool))(x:Nat)(j:List Iv),Cov a b x o->Nrm j->(∀t∈j,t.hi<x) ->
 Nrm (qg f j o)/\∀z,z<zk->mem (qg f j o) z=if z<x then mem j z else f (mem a z) (mem b z):=by
 intro o;induction o with
 |nil=>intro x j A h _;refine⟨h,λz hz=>?_⟩;have:x=zk:=A;rw[vD a8];rfl
 | cons y o ih=>
   intro x j A h C;obtain⟨s,p,q⟩:=y;obtain⟨K,Q,L,w,H⟩:=A;have E:∀t∈j,t.hi<s.lo:=(by rw[K];exact C);have B:∀z,x<=z->mem j z=false:=λz hz=>by
    cases e:mem j z with
    |false=>rfl
    |true=>obtain⟨t,ht,_,M⟩:=qf.1 e;have:=C t ht;omega
   simp only[qg];by_cases e:f p q=true
   .rw[vD e];obtain⟨N,O,P⟩:=Xm h E a8 L;obtain⟨F,G⟩:=ih (s.hi+1) _ H N (λt ht=>by have:=P t ht;omega);refine⟨F,λz hz=>?_⟩;rw[G z hz,O z];by_cases u:z<x
    .rw[vD a8,vD u];have:¬s.lo<=z:=a8;simp[this]
    .rw[Vq u];by_cases z2:z<s.hi+1
     .rw[vD z2,(w z a8 a8).1,(w z a8 a8).2,e];have I:s.lo<=z:=a8;have J:z<=s.hi:=a8;simp[I,J]
     .rw[Vq z2]
   .rw[Vq e];obtain⟨F,G⟩:=ih (s.hi+1) _ H h (λt ht=>by have:=C t ht;omega);refine⟨F,λz hz=>?_⟩;rw[G z hz];by_cases u:z<x
    .rw[vD a8,vD u]
    .rw[Vq u];by_cases z2:z<s.hi+1
     .rw[vD z2,(w z a8 a8).1,(w z a8 a8).2];rw[B z a8];simpa using e
     .rw[Vq z2]
def qH{f:XE}{a b:List Iv}(j:Nrm a)(hb:Nrm b):Nrm (qy f a b):=(Zt (f:=f) _ 0 [] (j4 j hb) trivial (λ_ h=>by cases h)).1
def qj{f:XE}{a b:List Iv}(j:Nrm a)(hb:Nrm b){x:Nat}(o:x<zk):mem (qy f a b) x=f (mem a x) (mem b x):=by
 have:=(Zt (f:=f) _ 0 [] (j4 j hb) trivial (λ_ h=>by cases h)).2 x o
 rwa[Vq a8]at this
def vK{f:XE}{a b c:List Iv}(j:Nrm a)(hb:Nrm b)(u:Nrm c)(h:∀x,x<zk->mem c x=f (mem a x) (mem b x)):qy f a b=c:=
 Nrm.unique (qH j hb) u λx o=>by rw[qj j hb o,h x o]
end
section
open Go.RowKit
def RdSl{α:Type}(u:Nat)(rd:World->Nat->Nat->α->Prop)(lo hi:Nat)(w:World)(v:Value)(l:List α):Prop:=
 ∃a j,v=.slice a l.length j/\l.length<=j/\j<=maxLen/\(l≠[]->∃b o,a=some ⟨b,o,none⟩/\lo<=b/\b<hi/\∀i (h:i<l.length),rd w b (o+i*u) l[i])
def RdSl.keep{α:Type}{G:Nat}{rd y:World->Nat->Nat->α->Prop}{lo hi u j:Nat}{w w':World}{v:Value}{l:List α}(h:RdSl G rd lo hi w v l)
 (P:u<=lo) (O:hi<=j) (M:∀b o x,lo<=b->b<hi->rd w b o x->y w' b o x):RdSl G y u j w' v l:=by
 obtain⟨a,A,N,H,I,J⟩:=h;refine⟨a,A,N,H,I,λE=>?_⟩;obtain⟨b,F,K,B,C,L⟩:=J E;exact⟨b,F,K,a8,a8,λi hi=>M _ _ _ B C (L i hi)⟩
def RdSl.nil{α:Type}{o:Nat}{rd:World->Nat->Nat->α->Prop}{lo hi:Nat}{w:World}(a:Option Addr)(j:Nat)(h:j<=maxLen):RdSl o rd lo hi w (.slice a 0 j) []:=
 ⟨a,j,rfl,X4 _,h,λh=>absurd rfl h⟩
def RdSl.len{α:Type}{o:Nat}{rd:World->Nat->Nat->α->Prop}{lo hi:Nat}{w:World}{v:Value}{l:List α}(h:RdSl o rd lo hi w v l):l.length<=maxLen:=by obtain⟨a,j,B,u,y,A⟩:=h;omega
def rdIv(w:World)(b o:Nat)(s:Iv):Prop:=
 w.cell? ⟨b,o,none⟩=some (.int .u64 s.lo)/\w.cell? ⟨b,o+1,none⟩=some (.int .u64 s.hi)/\s.lo<zk/\s.hi<zk
def rdIv.keep{w w':World}{b o:Nat}{s:Iv}(h:rdIv w b o s)(hb:w'.heap[b]?=w.heap[b]?):rdIv w' b o s:=
 ⟨(tl (a:=⟨b,o,none⟩) hb).trans h.1,(tl (a:=⟨b,o+1,none⟩) hb).trans h.2.1,h.2.2⟩
def RdR(lo hi:Nat)(w:World)(v:Value)(l:List Iv):Prop:=RdSl 2 rdIv lo hi w v l
def RdR.keep{lo hi o j:Nat}{w w':World}{v:Value}{l:List Iv}(h:RdR lo hi w v l)(B:o<=lo)(A:hi<=j)(hb:∀b,lo<=b->b<hi->w'.heap[b]?=w.heap[b]?):RdR o j w' v l:=
 RdSl.keep h B A λb _ _ u y C=>C.keep (hb b u y)
def RdR.below{hi n:Nat}{w j:World}{v:Value}{l:List Iv}(h:RdR 0 hi w v l)(hb:Below n w j)(u:hi<=n):RdR 0 hi j v l:=
 h.keep (Zp _) (Zp _) λb _ o=>hb.block b a8
def RdR.bound{lo hi:Nat}{w:World}{v:Value}{l:List Iv}(h:RdR lo hi w v l):∀s∈l,s.lo<zk/\s.hi<zk:=by obtain⟨a,j,C,A,B,o⟩:=h;intro s hs;obtain⟨i,hi,rfl⟩:=Wj hs;obtain⟨b,y,_,_,_,u⟩:=o (by intro e;subst e;simp at hi);exact(u i hi).2.2
def xw(l:List Iv):List Value:=l.flatMap λs=>[.int .u64 s.lo,.int .u64 s.hi]
def y6(l:List Iv):(xw l).length=l.length*2:=by
 induction l with
 |nil=>rfl
 |cons s l ih=>simp[xw]at ih⊢;omega
def vy(l k:List Iv):xw (l++k)=xw l++xw k:=by simp[xw]
def vz(l:List Iv):∀(i:Nat)(h:i<l.length),(xw l)[i*2]?=some (.int .u64 l[i].lo)/\(xw l)[i*2+1]?=some (.int .u64 l[i].hi):=by
 induction l with
 |nil=>intro i h;simp at h
 | cons s l ih=>
   intro i h;cases i with
   |zero=>simp[xw]
   |succ i=>have:=ih i (dJ h);have e:xw (s::l)=.int .u64 s.lo::.int .u64 s.hi::xw l:=rfl;rw[e,show (i+1)*2=i*2+1+1 from by omega];simpa using this
def OwnR(base:Nat)(w:World)(v:Value)(l:List Iv):Prop:=w.ownsRow base 61 2 v l.length (xw l)/\∀s∈l,s.lo<zk/\s.hi<zk
def OwnR.rd{base:Nat}{w:World}{v:Value}{l:List Iv}(h:OwnR base w v l):RdR base w.heap.size w v l:=by
 obtain⟨⟨G,B⟩,hb⟩:=h;rcases B with⟨rfl,A⟩|⟨g,j,y,rfl,E,u,F,C,hs,ht⟩
 .obtain rfl:l=[]:=wH A;exact RdSl.nil _ _ b8
 .refine⟨_,j,rfl,F,C,λ_=>⟨g,0,rfl,E,(XV.1 u).1,λi hi=>?_⟩⟩;have o:=vz l i hi;rw[<-ht,wt,wt,vD a8,vD a8]at o;refine⟨?_,?_,hb _ (Y1 hi)⟩
  .simp only[World.cell?,u];simpa using o.1
  .simp only[World.cell?,u];simpa using o.2
def OwnR.nil(base:Nat)(w:World):OwnR base w (.slice none 0 0) []:=⟨tR _ _ _ _,λ_ h=>by cases h⟩
def OwnR.val{base:Nat}{w:World}{v:Value}{l:List Iv}(h:OwnR base w v l):∃a j,v=.slice a l.length j:=by obtain⟨a,j,e,_⟩:=h.rd;exact⟨a,j,e⟩
def OwnR.below{base n:Nat}{w j:World}{v:Value}{l:List Iv}(h:OwnR base w v l)(hb:Below n w j)(o:w.heap.size<=n):OwnR base j v l:=
 ⟨(Keep.of_below' (S:=λ_=>False) hb o).ownsRow h.1 λ_ _=>id,h.2⟩
def OwnR.keep{base:Nat}{S:Nat->Prop}{w w':World}{v:Value}{l:List Iv}(h:OwnR base w v l)(hb:Keep S w w')(hs:∀g,base<=g->¬S g):OwnR base w' v l:=
 ⟨hb.ownsRow h.1 λg j=>hs g ((h.1.lt g j).1),h.2⟩
def OwnR.mono{base j:Nat}{w:World}{v:Value}{l:List Iv}(h:OwnR base w v l)(hb:j<=base):OwnR j w v l:=by
 refine⟨⟨h.1.1,?_⟩,h.2⟩;rcases h.1.2 with y|⟨g,o,u,A,B,r⟩
 .exact .inl y
 .exact .inr ⟨g,o,u,A,a8,r⟩
def qO{W A:World}{G B:Nat}{t e:TypeId}{size:Nat}{v y:Value}{k m:Nat}{K I:List Value}{E:Obj}
 (H:Boxed W B t v) (F:t≠e) (w:W.ownsRow G e size v k K) (u:A.ownsRow G e size y m I) (o:(W.alloc E).grownBy A v.ownBlock) :
 Boxed A B t v/\Boxed (A.setCell ⟨B,0,none⟩ y) B t y/\(A.setCell ⟨B,0,none⟩ y).ownsRow G e size y m I/\Keep (λk=>k=B\/G<=k) W (A.setCell ⟨B,0,none⟩ y):=by
 have C:Boxed A B t v:=(H.alloc E).kept o (H.not_row F w);refine⟨C,C.set y,u.kept (grownBy_setCell' A B y) (.inr (C.not_row F u).symm),?_⟩;refine Keep.setCell (p:=⟨B,0,none⟩) ?_ (λ_=>.inl rfl) _;exact((Keep.refl _ W).alloc E).grown o λj J _=>.inr ((w.lt j J).1)
def kw{w:World}{B:Nat}{cs:Array Value}{t:TypeId}{fr:Nat×Nat}(hb:w.heap[B]?=some (.cells cs t fr)):∀j u,cs.toList[j]?=some u->w.cell? ((⟨B,0,none⟩:Addr).add j)=some u:=λj u y=>by
 have o:(⟨B,0,none⟩:Addr).add j=⟨B,j,none⟩:=by unfold Addr.add;split<;>simp_all
 rw[o];simp only[World.cell?,hb];simpa using y
def OwnR.snoc{base:Nat}{w o:World}{v j:Value}{l:List Iv}{s:Iv}(h:OwnR base w v l)(hs:s.lo<zk/\s.hi<zk)
 (ho:o.ownsRow base 61 2 j (l.length+1) (xw l++[.int .u64 s.lo,.int .u64 s.hi])):OwnR base o j (l++[s]):=by
 refine⟨?_,λt ht=>?_⟩
 .rw[vy,wj];exact ho
 .simp at ht;rcases ht with ht|rfl
  .exact h.2 t ht
  .exact hs
def Tryz.infoIv:(xT.info? 61).map (λi=>(i.zero,i.size,i.bytes))=some (some (Value.agg #[.int .u64 0,.int .u64 0]),2,16):=dK
def ZR{x:Nat}(h:x<zk):IntKind.u64.wrap (x:Int)=x:=by
 rw[zw]at h;simp[IntKind.wrap,IntKind.bits,IntKind.signed]<;>omega
end
section
open Go.ChangeShapes Go.WideShapes Go.ChangeAt Go.RowKit Go.Deep
section
variable {H:Type}{enc:TypeId×Value->H}{w:World}{base:Nat}{spare:Nat->Bool}{held:Bool}
instance : Inhabited Iv:=⟨⟨0,0⟩⟩
def zgC{n:Int}(h:(Lit.int .u64 n).wf=true):∃x:Nat,n=x/\x<zk:=by simp[Lit.wf,IntKind.min,IntKind.max,IntKind.signed,IntKind.bits]at h;exact⟨n.toNat,a8,by rw[zw];omega⟩
def kM{t:TypeId}{j:Nat}{o:List Value}{x:DataW H×List MemPlace}(ht:xT.underlying t=some (.int .u64))(h:DataW.trod enc xT w base spare held j t o=some x):∃n:Nat,o=[.int .u64 n]/\n<zk:=by obtain⟨n,rfl,_,y⟩:=DataW.trod_int ht h;obtain⟨m,rfl,u⟩:=zgC y;exact⟨m,rfl,u⟩
def zaC(a:Addr)(i:Nat):(a.add i).block=a.block:=by unfold Addr.add;split<;>rfl
def Za{α:Type}[Inhabited α]{t e:TypeId}{C A:Nat}{O:List Value}{x:DataW H×List MemPlace}(rd:World->Nat->Nat->α->Prop)(ht:xT.underlying t=some (.slice e))(N:xT.cellsOf e=A)
 (I:∀(n:Nat)(a:Addr)(o:List Value)(y:DataW H×List MemPlace),w.cells? base a A=some o->DataW.trod enc xT w base spare held n e o=some y->a.spot=none/\a.block<w.heap.size/\∃x,rd w a.block a.off x)
 (h:DataW.trod enc xT w base spare held C t O=some x):∃v l,O=[v]/\RdSl A rd 0 w.heap.size w v l:=by
 rcases open_slice ht h with⟨rfl,_⟩|⟨a,len,F,m,n,D,Y,rfl,hb,T,V,L,_,X⟩
 .exact⟨_,[],rfl,RdSl.nil _ _ b8⟩
 have U:len<=m:=by rw[L];split<;>omega
 have B:∀i,i<len->∃y,(a.add (i*A)).spot=none/\a.block<w.heap.size/\rd w a.block ((a.add (i*A)).off) y:=by intro i hi;obtain⟨o,Q,S⟩:=X i a8;rw[N]at Q;obtain⟨e1,e2,y,P⟩:=I _ _ _ _ Q S;rw[zaC]at e2 P;exact⟨y,e1,e2,P⟩
 obtain⟨f,J⟩:=choose_lt B;refine⟨_,(List.range len).map f,rfl,some a,F,b6,dJ T,V,λM=>?_⟩;have j:0<len:=by
  rcases WC len with G|G
  .subst G;simp at M
  .exact G
 obtain⟨b,u,E⟩:=a;have hs:E=none:=by have:=(J 0 j).1;simpa[Addr.add]using this
 subst hs;refine⟨b,u,rfl,X4 _,(J 0 j).2.1,λi hi=>?_⟩;have K:i<len:=dJ hi
 have:=(J i K).2.2;have e:((⟨b,u,none⟩:Addr).add (i*A)).off=u+i*A:=by unfold Addr.add;split<;>simp_all
 rw[e]at this;simpa using this
def YB{P:Program}{e:TypeId}{o u:Field}{n:Nat}{a:Addr}{E:List Value}{y:DataW H×List MemPlace}(T:P.underlying e=some (.struct #[o,u]))(U:o.offset=0)(V:u.offset=1)(M:P.cellsOf o.type=1)(N:P.cellsOf u.type=1)
 (Q:w.cells? base a 2=some E) (S:DataW.trod enc P w base spare held n e E=some y) :
 ∃B C k G I,w.cell? a=some B/\w.cell? (a.add 1)=some C/\DataW.trod enc P w base spare held k o.type [B]=some G/\DataW.trod enc P w base spare held k u.type [C]=some I:=by
 obtain⟨_,A,j⟩:=World.cells?_some Q;obtain⟨X,k,_,_,_,F,L⟩:=DataW.trod_struct T S;match X,F,E,A with
 |[G,I],_,[B,C],_=>have J:=L 0 o rfl;have K:=L 1 u rfl;simp[U,V,M,N]at J K;have O:=j 0 a8;have e1:=j 1 a8;exact⟨B,C,k,G,I,by simpa[Addr.add]using O,dJ e1,J,K⟩
def zfA{n:Nat}{a:Addr}{B:List Value}{y:DataW H×List MemPlace}(F:w.cells? base a 2=some B)(G:DataW.trod enc xT w base spare held n 61 B=some y):a.spot=none/\a.block<w.heap.size/\∃s,rdIv w a.block a.off s:=by
 obtain⟨L,M,k,N,O,o,e1,C,E⟩:=YB underlying61 rfl rfl dK dK F G;obtain⟨lo,J,A⟩:=kM underlying36 C;obtain⟨hi,K,u⟩:=kM underlying36 E;obtain rfl:L=_:=dJ J
 obtain rfl:M=_:=dJ K
 obtain⟨b,I,j⟩:=a;obtain rfl:j=none:=World.cell?_spot o;exact⟨rfl,tp _ _ o,⟨lo,hi⟩,o,by simpa[Addr.add]using e1,A,u⟩
def ZA{j:Nat}{o:List Value}{x:DataW H×List MemPlace}(h:DataW.trod enc xT w base spare held j 24 o=some x):∃v l,o=[v]/\RdR 0 w.heap.size w v l:=
 Za rdIv underlying24 dK (λ_ _ _ _ u y=>zfA u y) h
def zpo{r:Reach}{y:Nat}{v:Value}{d:DataW H}{E:List MemPlace}(j:Value.okWide xT w r y 24 v)(h:DataW.Trod enc xT w base spare held 24 v d E):∃l,RdR 0 w.heap.size w v l:=by obtain⟨a,len,A,rfl⟩:=okWide_slice underlying24 j;obtain⟨o,B⟩:=h;obtain⟨v,l,u,C⟩:=ZA B;simp[Value.cells]at u;exact⟨l,by rw[u];exact C⟩
end
end
section
open Go.RowKit
abbrev VP:=Value->World->Prop
abbrev qe:Nat->Prop:=λ_=>False
def zJ(ops:Array Oper)(j:Nat):Option Tmp:=(ops[j]?).bind (·.dst)
def edge(ops:Array Oper)(i j:Nat):Bool:=match ops[i]? with|some o=>o.after.any λe=>Region.binds .any e && e.on == j|none=>false
def zA(o:Oper):List Tmp:=o.op.operands.toList.filterMap λ| .tmp t=>some t|_=>none
def RdEq(a:Act)(t:Tmp)(u:Value):Prop:=a.eval (.tmp t)=u/\a.tmps.getD t undef=u/\a.tmps[t]?.getD undef=u
def RdEq.of{a:Act}{t:Tmp}{u:Value}(h:a.tmps.getD t undef=u):RdEq a t u:=⟨h,h,by rw[<-h];simp⟩
def XG(ops:Array Oper)(nh:Nat)(t:Tmp):Option Nat:=(List.range nh).find? λj=>zJ ops j == some t
def yB(ops:Array Oper)(nh i:Nat)(t:Tmp):Bool:=
 match XG ops nh t with
 |some j=>if j<i then edge ops i j else if i<j then edge ops j i else true
 |none=>true
def xk(ops:Array Oper)(nh u:Nat):Bool:=
 decide (nh<=ops.size) &&
 (List.range nh).all λi=>
   match ops[i]? with
   |none=>false
   | some o=>((zA o).all (yB ops nh i)) &&
     (match o.guard with|none=>true|some (j,_)=>decide (j<i) && edge ops i j && (zJ ops j).isSome) &&
     (match o.dst with|none=>true|some d=>decide (d<u) && (List.range nh).all λj=>decide (j=i) || !(zJ ops j == some d)) &&
     (decide (nh=ops.size) || (List.range (nh+1)).any λj=>decide (i<j) && edge ops j i)
def yK(ops:Array Oper)(nh:Nat):Bool:=(List.range ops.size).all λt=>(decide (t<=nh) || edge ops t (t-1)) && match ops[t]? with|some o=>o.after.all λe=>!Region.binds .any e || decide (e.on<t)|none=>false
section
variable {ops:Array Oper}{nh:Nat}
def Z1{i j:Nat}{o:Oper}(ho:ops[i]?=some o):edge ops i j=true↔∃e∈o.after,Region.binds .any e=true/\e.on=j:=by
 unfold edge;simp only[ho];rw[Array.any_eq_true'];constructor
 .rintro⟨e,u,hb⟩;simp only[V0,tj]at hb;exact⟨e,u,hb.1,hb.2⟩
 .rintro⟨e,u,hb,rfl⟩;exact⟨e,u,by simp[hb]⟩
def zx{j:Array Bool}{i:Nat}(h:j.getD i true=false):j.getD i false=false/\i<j.size:=by
 rcases wJ i j.size with o|o
 .simp[o]at h⊢;exact h
 .simp[W5 o]at h
def zfm{j:Array Bool}{i:Nat}(h:j.getD i false=false)(hi:i<j.size):j.getD i true=false:=by simp[hi]at h⊢;exact h
def zl{j:Array Bool}{i:Nat}(hi:i<j.size):(j.setIfInBounds i true).getD i false=true:=by simp[hi]
def zj{o:Array Bool}{i j:Nat}(h:j≠i):(o.setIfInBounds i true).getD j false=o.getD j false:=by simp[ui (uP h)]
def yh{a:Act}{d:Tmp}{u:Value}(h:d<a.tmps.size):(a.put (some d) u).tmps.getD d undef=u:=by simp[Act.put,h]
def qn{a:Act}{d t:Tmp}{u:Value}(h:t≠d):(a.put (some d) u).tmps.getD t undef=a.tmps.getD t undef:=by simp[Act.put,ui (uP h)]
def chk_at{C i:Nat}(h:xk ops nh C=true)(hi:i<nh):∃o,ops[i]?=some o/\(∀t∈zA o,yB ops nh i t=true) /\
 (∀j b,o.guard=some (j,b)->j<i/\edge ops i j=true/\(zJ ops j).isSome)/\(∀d,o.dst=some d->d<C/\∀j,j<nh->zJ ops j=some d->j=i) /\
 (nh=ops.size\/∃j,j<=nh/\i<j/\edge ops j i=true):=by
 unfold xk at h;simp only[V0,wK,WO]at h;have h:=h.2 i hi;cases ho:ops[i]? with
 |none=>simp[ho]at h
 | some o=>
   simp only[ho,V0,wK,WH,wG,Uw,WO]at h;obtain⟨⟨⟨E,u⟩,w⟩,y⟩:=h;refine⟨o,rfl,E,?_,?_,?_⟩
   .intro j b I;simp only[I,V0,wG]at u;exact⟨u.1.1,u.1.2,u.2⟩
   .intro d H;simp only[H,V0,wG,wK,WO,WH,Wk,W9]at w;exact⟨w.1,λj B e=>(w.2 j B).resolve_right λA=>A e⟩
   .rcases y with y|⟨j,B,F,G⟩
    .exact .inl y
    .exact .inr ⟨j,a8,F,G⟩
def xf{t:Tmp}{j:Nat}(h:XG ops nh t=some j):j<nh/\zJ ops j=some t:=by have o:=List.find?_some h;have u:=uD h;simp at o u;exact⟨u,o⟩
def jw{t:Tmp}{j:Nat}(u:j<nh)(h:zJ ops j=some t):∃o,XG ops nh t=some o:=by
 cases hw:XG ops nh t with
 |some o=>exact⟨o,rfl⟩
 |none=>have:=uQ.1 hw j (dJ u);simp[h]at this
def Act.ext'{a b:Act}(hs:a.tmps.size=b.tmps.size)(o:a.defers=b.defers)(h:∀t,t<b.tmps.size->a.tmps.getD t undef=b.tmps.getD t undef):a=b:=by
 obtain⟨w,A⟩:=a;obtain⟨y,db⟩:=b;simp only at hs o h;subst o;have:w=y:=Array.ext hs λi u j=>by have:=h i j;simpa[u,j]using this
 rw[this]
def yS{j:Nat}{d:Tmp}{tmps:Array Value}(o:zJ ops j=some d)(hs:d<tmps.size):yielded ops tmps j=match tmps.getD d undef with|.bool b=>some b|_=>none:=by
 unfold yielded;unfold zJ at o;rw[o];simp only[Option.bind_some,Wd hs,wu,WP];split<;>simp_all
def qP{t:Nat}(h:yK ops nh=true)(ht:t<ops.size):(t<=nh\/edge ops t (t-1)=true)/\∀j,edge ops t j=true->j<t:=by
 unfold yK at h;rw[wK]at h;have h:=h t (dJ ht);simp only[V0,WH,wG]at h;refine⟨h.1,λj y=>?_⟩;have u:=h.2;cases ho:ops[t]? with
 |none=>simp[ho]at u
 |some o=>simp only[ho,Array.all_eq_true']at u;obtain⟨e,w,hb,rfl⟩:=(Z1 ho).1 y;have:=u e w;simpa[hb]using this
def zo{i:Nat}{u:Array Bool}(h:i∈Region.ready .any ops u):u.getD i true=false/\i<ops.size/\(∃o,ops[i]?=some o)/\∀j,edge ops i j=true->u.getD j false=true:=by obtain⟨w,o,ho,y⟩:=mem_ready.1 h;refine⟨w,(XV.1 ho).1,⟨o,ho⟩,λj B=>?_⟩;obtain⟨e,A,hb,rfl⟩:=(Z1 ho).1 B;exact y e A hb
def zd1{i:Nat}{u:Array Bool}{o:Oper}(ho:ops[i]?=some o)(w:u.getD i true=false)(y:∀j,edge ops i j=true->u.getD j false=true):i∈Region.ready .any ops u:=
 mem_ready.2 ⟨w,o,ho,λe A hb=>y _ ((Z1 ho).2 ⟨e,A,hb,rfl⟩)⟩
def qh{o:Array Bool}(w:yK ops nh=true)(hs:o.size=ops.size):∀(i:Nat),i<ops.size->o.getD i false=false->∃k,k∈Region.ready .any ops o:=by
 intro i;induction i using Nat.strongRecOn with
 | _ i ih=>
   intro hi A;by_cases u:∀j,edge ops i j=true->o.getD j false=true
   .exact⟨i,zd1 (Wd hi) (zfm A a8) u⟩
   .have:∃j,edge ops i j=true/\o.getD j false=false:=by
     apply wT;intro B;refine u λj y=>?_;cases h:o.getD j false with
     |true=>rfl
     |false=>exact absurd ⟨j,y,h⟩ B
    obtain⟨j,y,C⟩:=this;have:=(qP w hi).2 j y;exact ih j this a8 C
def qM:∀(l S:List Nat),l.Nodup->l⊆S->l.length<=S.length
 |[],_,_,_=>X4 _
 |x::l,S,hn,hs=>by have j:x∈S:=hs b6;have u:l⊆S.erase x:=λy o=>(WX (λe=>(UF.1 hn).1 (by rw[<-e];exact o))).2 (hs (by simp[o]));have:=qM l (S.erase x) (UF.1 hn).2 u;rw[WF j]at this;have:=ug j;simp;omega
end
structure Hd(p:Prop):Prop where
 h:p
end
end Go.Proofs.YtmpnbdhadjfbhaaGreatDoor
