import Derived.Test.YtbhngpjkakcgfaaGreatDoorB11
set_option maxHeartbeats 16000000
set_option linter.all false
set_option maxRecDepth 100000
namespace Go.Proofs.YtbhngpjkakcgfaaGreatDoor
open Go.Proofs.Tryz renaming prog->xT
namespace As
open Go.RowKit Go.Extern.Stop Go.Stop Go.Extern
def noIsN(v:Value)(j:TypeId)(w:World):(Instr.typeAssert (.iface 49 v) j 176 true).run xT w=.ok (.tuple #[.nilIface,.bool false]) w:=tY Tryz.underlying176 dK dK v j w
def noUwN(v:Value)(j:TypeId)(w:World):(Instr.typeAssert (.iface 49 v) j 179 true).run xT w=.ok (.tuple #[.nilIface,.bool false]) w:=tY Tryz.underlying179 dK dK v j w
def noUmN(v:Value)(j:TypeId)(w:World):(Instr.typeAssert (.iface 49 v) j 181 true).run xT w=.ok (.tuple #[.nilIface,.bool false]) w:=tY Tryz.underlying181 dK dK v j w
def eqN2(c t:Int)(w:World):(binOp .eql 44 (.iface 49 (.int .i64 c)) (.iface 49 (.int .i64 t))).run xT w=.ok (.bool (c == t)) w:=dK
def is_FN(c k t:Int)(w:World):Calls xT 65 #[.iface 96 (.agg #[.int .i64 c,.int .i64 k]),.iface 49 (.int .i64 t),.bool true] w λev A=>ev=.returned (.bool (c == t))/\Below w.heap.size w A:=by
 have G:=eqFN;have y:=eqN2 c t;have E:=noIsF;have F:=noIsN;have H:=noUwN;have C:=noUmN;have hF:=hasUw;have B:=methodUnwrap;obtain⟨r,j⟩:=xm ((c == t));rw[<-j]at y;have u:=qL j;clear j;go_enter Tryz.func65,Tryz.ntmps65
 go_wp2;refine Tn 3 ?_;rw[tZ]
 go_wp2;rw[tZ];cases r with
 |false=>go_wp2;refine tz (tK rfl _ _ _) rfl ?_;rw[<-u.o];exact⟨rfl,(tu _ w).alloc (Zp _) _⟩
 |true=>go_wp2;refine tz (tK rfl _ _ _) rfl ?_;rw[<-u.o];exact⟨rfl,(tu _ w).alloc (Zp _) _⟩
def Is_FN(c k t:Int)(w:World):Calls xT 30 #[.iface 96 (.agg #[.int .i64 c,.int .i64 k]),.iface 49 (.int .i64 t)] w λev j=>ev=.returned (.bool (c == t))/\Below w.heap.size w j:=by
 have u:=@run_callFunc_extern xT 64 _ ReflectliteType.typeOf Tryz.func64 dK dK dK dK
 have y:=@run_callFunc_extern xT 240 _ (ReflectliteType.method (λt=>do Rtype.noPackHeld "Comparable" t;pure (.bool (<-typeInfo t).comparable))) Tryz.func240 dK dK dK dK
 have C:=typeOfN;have B:=methodComparable;have A:=comparableN;go_enter Tryz.func30,Tryz.ntmps30
 go_wp2_with (first
  |(go_at_call 65;refine(is_FN c k t _).mono ?_;rintro e j ⟨rfl,hb⟩)
  |go_in)
 go_ret;exact⟨rfl,hb⟩
def eqNil(t:TypeId)(v:Value)(w:World):(binOp .eql 44 .nilIface (.iface t v)).run xT w=.ok (.bool false) w:=dK
def Is_nil(t:Int)(w:World):Calls xT 30 #[.nilIface,.iface 49 (.int .i64 t)] w λev j=>ev=.returned (.bool false)/\j=w:=by
 have q:=eqNil;go_enter Tryz.func30,Tryz.ntmps30
 go_wp2;go_ret;exact⟨rfl,rfl⟩
end As
section
open Go.RowKit
abbrev Wm:=World×List Nat×Nat
@[reducible] def zsK (Sw:Nat->Prop):Pl.Kpo Wm:=⟨λx y=>Keep Sw x.1 y.1/\(∀k∈x.2.1,k∈y.2.1)/\(1∈x.2.1->y.2.2=x.2.2),λx=>⟨Keep.refl _ _,λ_ h=>h,λ_=>rfl⟩,λa b c h k=>⟨h.1.trans k.1,λ_ e=>k.2.1 _ (h.2.1 _ e),λe=>(k.2.2 (h.2.1 _ e)).trans (h.2.2 e)⟩⟩
def opX(mk:Oper->Option Nat)(P:Program)(Q:Exit->Act->World->Prop)(o:Oper)(a:Act)(x:Wm)(K:Act->Wm->Prop):Prop:=
 match mk o with
 |none=>o.wp P a x.1 (λj u=>K j (u,x.2)) Q
 |some k=>k∉x.2.1->∃g,o.wp P a x.1 (λj u=>K j (u,k::x.2.1,g)) Q
def zvT(l:List Oper)(mk:Oper->Option Nat):Bool:=(List.range l.length).all λi=>(List.range l.length).all λj=>decide (i=j) || (match mk (l.getD i default)with|none=>true|some k=>!(mk (l.getD j default) == some k))
def zvg{l:List Oper}{mk:Oper->Option Nat}(h:zvT l mk=true){i j k:Nat}(hi:i<l.length)(y:j<l.length)(u:mk (l.getD i default)=some k)(w:mk (l.getD j default)=some k):i=j:=by unfold zvT at h;simp only[wL,WN]at h;have h:=h i hi j y;rw[u,w]at h;simpa using h
def zuu(l:List Oper)(mk:Oper->Option Nat)(x:Wm):Prop:=∀i,i<l.length->∀k,mk (l.getD i default)=some k->(l.getD i default).guard=none->k∈x.2.1
def zvo{Sw:Nat->Prop}{P:Program}{id:Nat}{l:List Oper}{Q:Exit->Act->World->Prop}{a:Act}{w:World}(mk:Oper->Option Nat)(nt:Nat)(C:Wm->Prop)(hm:P.follows .mixedOrders=true)
 (F:(xk l.toArray l.length nt && yK l.toArray l.length && zvT l mk)=true) (X:a.tmps.size=nt) (hC:C (w.drew,[],0))
 (h:@Pl.walkG Wm (zsK Sw) (opX mk P Q) a (w.drew,[],0) C (λa x=>l.length=l.length/\(zuu l mk x->Q .normal a x.1)) l []):(Code.region id l.toArray true).wp P Q a w:=by
 simp only[Vq]at F;refine TT hm ?_;have ab:=@Pl.gready Wm (zsK Sw) l.toArray l.length a (w.drew,[],0) C nt l rfl (opX mk P Q)
  (λi K a x=>(∀k,mk (l.getD i default)=some k->k∉x.2.1)->wpOp P l.toArray Q i (λH L=>∃r:List Nat×Nat,(∀k∈r.1,k∈x.2.1\/mk (l.getD i default)=some k)/\(∀k∈x.2.1,k∈r.1)/\(∀k,mk (l.getD i default)=some k->(l.getD i default).guard=none->k∈r.1)/\K H (L,r)) a x.1)
  (λB u a x=>u.size=l.length->(∀k∈x.2.1,∃j,j<l.length/\u.getD j false=true/\mk (l.getD j default)=some k)->(∀j,u.getD j false=true->∀k,mk (l.getD j default)=some k->(l.getD j default).guard=none->k∈x.2.1)->wpAny P .any l.toArray Q B u a x.1)
  (λa x=>zuu l mk x->Q .normal a x.1) (λk a x=>k=l.length/\(zuu l mk x->Q .normal a x.1)) ?_ ?_ ?_ ?_ ?_ ?_ F.1.1 F.1.2 X hC (by rw[Wp];exact h)
 .simpa using ab b6 (λk hk=>by cases hk) (λj G=>by
   simp only[ww,uo]at G;split at G<;>cases G)
 .intro i o K a x ho hs hk;have hd:l.getD i default=o:=by rw[wF]at ho;rw[Q9,ho];rfl
  unfold wpOp;simp only[ho];split
  .rename_i hw;rw[vj hw]at hs;left;unfold opX at hs;rw[hd]at hk⊢;cases hmo:mk o with
   |none=>simp only[hmo]at hs;exact Tw (λH L h=>⟨x.2,λk h=>.inl h,λk h=>h,(λk h=>by cases h),h⟩) hs
   |some k=>simp only[hmo]at hs;obtain⟨g,hs⟩:=hs (hk k hmo);exact Tw (λH L h=>⟨(k::x.2.1,g),λO h=>(wh.1 h).elim (λe=>.inr (by rw[e])) .inl,λO h=>Wo _ h,(λO h _=>by cases h;exact WH),h⟩) hs
  .rename_i hw;rw[Vm hw]at hs;refine⟨x.2,λk h=>.inl h,λk h=>h,λk _ A=>?_,hs⟩;rw[hd]at A;exact absurd (by simp[Region.wanted,A]) hw
 .intro i K K' a x hk hs V;exact Tt (λH L ⟨r,E,I,h3,h4⟩=>⟨r,E,I,h3,hk _ _ h4⟩) (hs V)
 .intro u a x E I hz S M;refine⟨E,I λi hi k hk A=>M i ?_ k hk A⟩;cases hf:u.getD i false with
  |true=>rfl
  |false=>obtain⟨O,y⟩:=qh F.1.2 (dJ hz) i (dJ hi) hf;rw[E]at y;cases y
 .intro B u a x E I hz S M;refine⟨λhr=>E hr λi hi k hk A=>M i ?_ k hk A,λi hi=>?_⟩
  .cases hf:u.getD i false with
   |true=>rfl
   |false=>obtain⟨O,y⟩:=qh F.1.2 (dJ hz) i (dJ hi) hf;rw[hr]at y;cases y
  obtain⟨Y,U,_,_⟩:=zo hi;have J:i<l.length:=(dJ U);have V:∀k,mk (l.getD i default)=some k->k∉x.2.1:=λk hk T=>(by obtain⟨j,Z,N,j3⟩:=S k T;have:=zvg F.2 J Z hk j3;subst this;rw[(zx Y).1]at N;cases N);refine Tt (λH L=>?_) (I i hi V);rintro⟨r,r1,r2,r3,r4⟩;refine r4 (dJ hz) (λk hk=>?_) λj G k hk A=>?_
  .rcases r1 k hk with h|h
   .obtain⟨j,Z,N,j3⟩:=S k h;refine⟨j,Z,?_,j3⟩;by_cases e:j=i
    .subst e;exact zl (zx Y).2
    .rw[zj e];exact N
   .exact⟨i,J,zl (zx Y).2,h⟩
  .by_cases e:j=i
   .subst e;exact r3 k hk A
   .rw[zj e]at G;exact r2 k (M j G k hk A)
 .rintro k a x hk ⟨rfl,_⟩;simp at hk
 .rintro a x ⟨_,h⟩;exact h
section
variable {Sw:Nat->Prop}{mk:Oper->Option Nat}{P:Program}{Q:Exit->Act->World->Prop}{a0:Act}{x0:Wm}{C:Wm->Prop}{F:Act->Wm->Prop}{l:List Oper}{o:Oper}{env:List (Option Tmp×Pl.VP Wm)}
def zvB(v:Value)(j:mk o=none)(h:∀a w,Keep Sw x0.1 w.1->@Pl.Rds Wm env a0 (zA o) a w->(execOp a.eval o).run P w.1=.ok (.value v) w.1):@Pl.headOk Wm (zsK Sw) (opX mk P Q) a0 x0 C env o (λu _=>u=v):=by intro a w A hk B K y;unfold opX;rw[j];show o.upon P a _ Q ((execOp a.eval o).run P w.1);rw[h a w hk.1 B];exact y v w ((zsK Sw).refl _) A rfl
def ztp(v:Value)(j:mk o=none)(y:o.guard=none)(h:∀a (w:Wm),Keep Sw x0.1 w.1->@Pl.Rds Wm env a0 (zA o) a w->(execOp a.eval o).run P w.1=.ok (.value v) w.1)
 (A:@Pl.walkG Wm (zsK Sw) (opX mk P Q) a0 x0 C F l (env++[(o.dst,λu _=>u=v)])):@Pl.walkG Wm (zsK Sw) (opX mk P Q) a0 x0 C F (o::l) env:=
 ⟨_,λ_ _ _ h _=>h,by unfold Pl.stepOk;rw[y];exact zvB v j h,A⟩
def ztS{j:Nat}{d:Option Tmp}{v y:Value}(h:env[j]?=some (d,λu _=>u=v))(e:v=y):@Pl.isV Wm env j y:=by unfold Pl.isV;rw[h];exact λu _ h=>h.trans e
def zvI{j:Nat}{b:Bool}(v:Value)(y:mk o=none)(A:o.guard=some (j,b))(B:@Pl.isV Wm env j (.bool b))(h:∀a (w:Wm),Keep Sw x0.1 w.1->@Pl.Rds Wm env a0 (zA o) a w->(execOp a.eval o).run P w.1=.ok (.value v) w.1)
 (E:@Pl.walkG Wm (zsK Sw) (opX mk P Q) a0 x0 C F l (env++[(o.dst,λu _=>u=v)])):@Pl.walkG Wm (zsK Sw) (opX mk P Q) a0 x0 C F (o::l) env:=
 ⟨_,λ_ _ _ h _=>h,by unfold Pl.stepOk;rw[A];exact .inl ⟨B,zvB v y h⟩,E⟩
def zt0(V:Pl.VP Wm)(hs:∀u w j,V u w->(zsK Sw).kp w j->V u j)(y:o.guard=none)
 (h:@Pl.headOk Wm (zsK Sw) (opX mk P Q) a0 x0 C env o V) (A:@Pl.walkG Wm (zsK Sw) (opX mk P Q) a0 x0 C F l (env++[(o.dst,V)])):@Pl.walkG Wm (zsK Sw) (opX mk P Q) a0 x0 C F (o::l) env:=
 ⟨V,hs,by unfold Pl.stepOk;rw[y];exact h,A⟩
def zws{j:Nat}{b:Bool}(V:Pl.VP Wm)(hs:∀u w y,V u w->(zsK Sw).kp w y->V u y)(A:o.guard=some (j,b))(B:@Pl.isV Wm env j (.bool b))
 (h:@Pl.headOk Wm (zsK Sw) (opX mk P Q) a0 x0 C env o V) (E:@Pl.walkG Wm (zsK Sw) (opX mk P Q) a0 x0 C F l (env++[(o.dst,V)])):@Pl.walkG Wm (zsK Sw) (opX mk P Q) a0 x0 C F (o::l) env:=
 ⟨V,hs,by unfold Pl.stepOk;rw[A];exact .inl ⟨B,h⟩,E⟩
end
structure HX(w0:World)(R:World->World->Prop)(y z:Array Value)(t:TypeId)(x:Wm):Prop where
 pre:0∉x.2.1->Below w0.heap.size w0 x.1
 post:0∈x.2.1->∃w5 w6,Below w0.heap.size w0 w5/\R w5 w6/\w6.heap.size<=x.1.heap.size/\Keep (λk=>1∈x.2.1/\k=x.2.2) w6 x.1/\(1∈x.2.1->x.2.2<w5.heap.size\/w6.heap.size<=x.2.2)
 var:1∈x.2.1->w0.heap.size<=x.2.2/\x.1.heap[x.2.2]?=some (.cells (if 2∈x.2.1 then y else z) t (0,0))
 two:2∈x.2.1->1∈x.2.1
section
variable {S Sw:Nat->Prop}{mk:Oper->Option Nat}{P:Program}{Q:Exit->Act->World->Prop}{a0:Act}{w0:World}{R:World->World->Prop}{y z:Array Value}{t:TypeId}{o:Oper}{env:List (Option Tmp×Pl.VP Wm)}
def HX.start:HX w0 R y z t (w0.drew,[],0):=⟨λ_=>(tu _ _).drew,(λh=>by cases h),(λh=>by cases h),(λh=>by cases h)⟩
def zue{f:FuncId}{c:Call}{O:Array Value}{v:Value}(M:mk o=some 0)(ho:o.op=.call c)(hc:c.callee=.value (.func f))(hv:∀a (x:Wm),@Pl.Rds Wm env a0 (zA o) a x->c.args.map a.eval=O)(he:∀j w,(callFunc f j).run P w=.ok (.enter f j) w)
 (C:∀W,Below w0.heap.size w0 W->Calls P f O W λe L=>e=.returned v/\R W L) (Z:∀A B,R A B->Keep S A B) (F:∀k,S k->Sw k/\k<w0.heap.size) :
 @Pl.headOk Wm (zsK Sw) (opX mk P Q) a0 (w0.drew,[],0) (HX w0 R y z t) env o (λu x=>u=v/\0∈x.2.1):=by
 intro a x J hk hr K Y;unfold opX;rw[M];intro X;refine⟨x.2.2,?_⟩;have T:=J.pre X;have N:(execOp a.eval o).run P x.1=.ok (.enter f O) x.1:=by simp only[execOp,ho,resolve,hc,hv a x hr,Deferred.ofValue,Act.eval,tG,tI,tA,invoke];simpa using he _ _
 unfold Oper.wp;rw[N,t9];refine(C _ T).mono ?_;rintro e L ⟨rfl,E⟩;have G:=Z _ _ E;have H:∀{k},k≠0->k∈(0::x.2.1)->k∈x.2.1:=λhk h=>(wh.1 h).resolve_left hk;refine Y v (L,0::x.2.1,x.2.2) ⟨G.mono λk _ h=>(F k h).1,λk h=>Wo _ h,λ_=>rfl⟩ ⟨λh=>absurd WH h,λ_=>⟨x.1,L,T,E,Zp _,Keep.refl _ _,λh=>.inl (XE.1 (J.var (H b8 h)).2).1⟩,λh=>?_,λh=>Wo _ (J.two (H b8 h))⟩ ⟨rfl,WH⟩;obtain⟨U,V⟩:=J.var (H b8 h);refine⟨U,?_⟩;have:=G.obj V λh=>by have:=(F _ h).2;omega
 by_cases I:2∈x.2.1
 .rw[vj I]at this;rw[vj (Wo _ I)];exact this
 .rw[Vm I]at this;rw[Vm λh=>I (H b8 h)];exact this
def zuX(C:mk o=some 1)(j:∀(a:Act)(w:World),(execOp a.eval o).run P w=.ok (.value (.pointer (some ⟨w.heap.size,0,none⟩))) (w.alloc (.cells z t))):
 @Pl.headOk Wm (zsK Sw) (opX mk P Q) a0 (w0.drew,[],0) (HX w0 R y z t) env o (λu x=>u=.pointer (some ⟨x.2.2,0,none⟩)/\1∈x.2.1):=by
 intro a x E hk S K M;unfold opX;rw[C];intro B;refine⟨x.1.heap.size,?_⟩;have F:∀{k},k≠1->k∈(1::x.2.1)->k∈x.2.1:=λhk h=>(wh.1 h).resolve_left hk;have A:w0.heap.size<=x.1.heap.size:=hk.1.size;unfold Oper.wp;rw[j];refine M _ (x.1.alloc (.cells z t),1::x.2.1,x.1.heap.size) ⟨(Keep.refl _ _).alloc _,λk h=>Wo _ h,λh=>absurd h B⟩ ⟨λh=>(E.pre λL=>h (Wo _ L)).alloc A _,λh=>?_,λ_=>⟨A,?_⟩,λ_=>WH⟩ ⟨rfl,WH⟩
 .obtain⟨N,O,G,H,I,J,_⟩:=E.post (F b8 h);exact⟨N,O,G,H,by simp only[tw];omega,(J.mono λk _ h=>absurd h.1 B).alloc _,λ_=>.inr I⟩
 .rw[Vm λh=>B (E.two (F b8 h))];exact tp _ _
def zuY(C:mk o=some 2)(F:∀a (x:Wm),@Pl.Rds Wm env a0 (zA o) a x->1∈x.2.1/\∀w,w.heap[x.2.2]?=some (.cells z t (0,0))->∃u,(execOp a.eval o).run P w=.ok .skip u/\u.heap[x.2.2]?=some (.cells y t (0,0))/\Keep (λk=>k=x.2.2) w u)(B:∀k,w0.heap.size<=k->Sw k):
 @Pl.headOk Wm (zsK Sw) (opX mk P Q) a0 (w0.drew,[],0) (HX w0 R y z t) env o (λ_ _=>True):=by
 intro a x H hk S K N;unfold opX;rw[C];intro M;refine⟨x.2.2,?_⟩;have O:∀{k},k≠2->k∈(2::x.2.1)->k∈x.2.1:=λhk h=>(wh.1 h).resolve_left hk;obtain⟨A,G⟩:=F a x S;obtain⟨I,J⟩:=H.var A;rw[Vm M]at J;obtain⟨u,E,T,j⟩:=G x.1 J;unfold Oper.wp;rw[E];refine N _ (u,2::x.2.1,x.2.2) ⟨j.mono λk _ e=>B k (by rw[e];exact I),λk h=>Wo _ h,λ_=>rfl⟩ ⟨λh=>(H.pre λL=>h (Wo _ L)).trans (j.below (by have:=hk.1.size;exact this) λk hk e=>a8),λh=>?_,λ_=>⟨I,by rw[vj WH];exact T⟩,λ_=>Wo _ A⟩ trivial;obtain⟨w5,w6,U,V,X,Y,Z⟩:=H.post (O b8 h);exact⟨w5,w6,U,V,V0 X j.size,(Y.mono λk _ e=>⟨Wo _ e.1,e.2⟩).trans (j.mono λk _ e=>⟨Wo _ A,e⟩),λ_=>Z A⟩
end
def mkD(c:Nat)(v:Option Nat)(s:Bool)(o:Oper):Option Nat:=match o.dst with
 |some d=>if d=c then some 0 else if some d=v then some 1 else none
 |none=>if s=true then some 2 else none
def exM{α:Type}{A B v:α}{q:Prop}:(∃u,(A=u/\B=u)/\u=v/\q)->A=v/\B=v:=λ⟨_,h,e,_⟩=>by rw[<-e];exact h
def zt6{Sw:Nat->Prop}{c:Value}{k:Nat}:∀(u:Value)(w j:Wm),(fun(u:Value) (x:Wm)=>u=c/\k∈x.2.1) u w->(zsK Sw).kp w j->(fun(u:Value) (x:Wm)=>u=c/\k∈x.2.1) u j:=λ_ _ _ h hk=>⟨h.1,hk.2.1 _ h.2⟩
def zwr{Sw:Nat->Prop}:∀(u:Value)(w j:Wm),(fun(u:Value) (x:Wm)=>u=.pointer (some ⟨x.2.2,0,none⟩)/\1∈x.2.1) u w->(zsK Sw).kp w j->(fun(u:Value) (x:Wm)=>u=.pointer (some ⟨x.2.2,0,none⟩)/\1∈x.2.1) u j:=λ_ _ _ h hk=>⟨by rw[hk.2.2 h.2];exact h.1,hk.2.1 _ h.2⟩
end
end Go.Proofs.YtbhngpjkakcgfaaGreatDoor
