import Derived.Test.YtbhngpjkakcgfaaGreatDoorB11
import Derived.Test.YtbhngpjkakcgfaaGreatDoorB18
set_option maxHeartbeats 16000000
set_option linter.all false
set_option maxRecDepth 100000
namespace Go.Proofs.YtbhngpjkakcgfaaGreatDoor
def dF{p:Prop}(h:p:=by simp [Value.ownBlock]<;>omega):p:=h
def tV:=@Go.World.cell?_setCell_same
def Ti:=@Go.run_append_own_at
open Go.Proofs.Tryz renaming prog->xT
section
open Go.RowKit
def zfH(u:Nat)(j:List PV)(o:Nat):JU u (.cp j o)=true:=rfl
attribute [go_sem] zfH
def za0(e:En)(hb:∀s∈e.holes,s.lo<zk/\s.hi<zk)(u:e.holes.length<=1152921504606846976)(j:(Zl e.holes).1=0\/Cn xT 11 [Z2 2] (.v (.int .i64 2))):Cn xT 136 [.cp (ec e) 0] (jS (Zl e.holes).1 (Zl e.holes).2):=by refine zt Tryz.func136 1 ?_;refine pw ?_;refine .c (rcheck_c e.holes hb u j) ?_;exact ym _ _
def zaZ(e:En)(A:e.holes.length<=1152921504606846976):Cn xT 135 [.cp (ec e) 0] (jS (hk e.max e.holes 0).1 (hk e.max e.holes 0).2):=by
 refine zt Tryz.func135 1 ?_;refine pw ?_;refine pLoop.go (λk=>k<=e.holes.length/\hk e.max e.holes 0=hk e.max (e.holes.drop k) k) (λk=>[(7,.v (.int .i64 (k:Nat)))]) (λ_=>[]) (λk=>e.holes.length-k) 0 [7] ?_ ?_ ?_
 .exact⟨X3 _,rfl⟩
 .exact pd
 .rintro k ⟨y,j⟩;refine pw ?_;refine .i ?_ ?_<;>intro u<;>(try simp only[zb]at u)<;>first|refine pw ?_|exact pd
  .rw[K3 u]at j;refine .i ?_ ?_<;>intro w<;>(try simp only[zb]at w)<;>first|refine pw ?_|exact pd
   .rw[j,vj w];refine .c (jT 4 (k:Nat)) ?_;exact ym _ _
   .rw[Vm a8]at j;exact⟨k+1,⟨u,j⟩,a8,rfl⟩
  .rw[wA u]at j;rw[j];exact .eq _ rfl
def yk{x:Nat×Int}(h:x.1=0):jS x.1 x.2=.v .nilIface:=vj h
def vu{x:Nat×Int}(h:x.1≠0):jS x.1 x.2=.ifc 96 (.agg [.v (.int .i64 x.1),.v (.int .i64 x.2)]):=Vm h
def zcJ(e:En)(hb:∀s∈e.holes,s.lo<zk/\s.hi<zk)(u:e.holes.length<=1152921504606846976)(A:(Zl e.holes).1=0\/Cn xT 11 [Z2 2] (.v (.int .i64 2))):Cn xT 98 [ep e] (jS (yV e).1 (yV e).2):=by
 refine zt Tryz.func98 1 ?_;refine pw ?_;refine pLoop.go (λk=>k<=2/\(1<=k->(Zl e.holes).1=0)/\(2<=k->(yV e).1=0)) (λk=>[(12,.v (.int .i64 (k:Nat)))]) (λ_=>[]) (λk=>2-k) 0 [12] ?_ ?_ ?_
 .exact⟨a8,λh=>absurd h a8,λh=>absurd h a8⟩
 .exact pd
 .rintro k ⟨B,w,y⟩;obtain rfl|rfl|rfl:k=0\/k=1\/k=2:=a8
  .refine pw ?_;refine .rd (za0 e hb u A) rfl ?_;by_cases hz:(Zl e.holes).1=0
   .rw[yk hz];refine pw ?_;exact⟨1,⟨a8,λ_=>hz,λh=>absurd h a8⟩,a8,rfl⟩
   .have e1:yV e=Zl e.holes:=Vm hz;rw[e1,vu hz];exact pd
  .have hz:=w a8;have e1:yV e=hk e.max e.holes 0:=vj hz;refine pw ?_;refine .rd (zaZ e u) rfl ?_;by_cases j:(hk e.max e.holes 0).1=0
   .rw[yk j];refine pw ?_;exact⟨2,⟨a8,λ_=>hz,λ_=>by rw[e1];exact j⟩,a8,rfl⟩
   .rw[e1,vu j];exact pd
  .have hz:=y a8;rw[yk hz];exact pd
def znN(e:En)(c:Nat)(w:e.holes.length<=1152921504606846976):Cn xT 112 [ep e,.v (.int .u64 c)] (.v (.bool (decide (c<=e.max) && !mem e.holes c))):=by
 refine zt Tryz.func112 2 ?_;refine pw ?_;refine .i ?_ ?_<;>intro u<;>(try simp only[zb]at u)<;>first|refine pw ?_|exact pd
 .refine .c (kU e.holes c w) ?_;simp[u]
 .have j:¬c<=e.max:=a8;simp[j]
def Jg{e:En}(h:zO e):ZL e:=⟨h.1.lt,h.2.2.1,h.2.2.2⟩
section
variable (a b:En)(c:Nat)(ha:ZL a)(hb:ZL b)(hc:c<zk)
include ha hb hc
end
def HG(w:World):Prop:=w.cell? ⟨0,0,none⟩=some (.iface 174 (.agg #[.pointer (some ⟨1,44,none⟩)]))
def HG.of{D:Qk}{w:World}(h:GL D w):HG w:=(h _ rfl).2
def HG.pos{w:World}(h:HG w):0<w.heap.size:=tq w ⟨0,0,none⟩ h
def HG.alloc{w:World}(h:HG w)(o:Obj):HG (w.alloc o):=by unfold HG;rw[tr _ _ ⟨0,0,none⟩ h.pos];exact h
def KK{f:FuncId}{C:List PV}{r:PV}(H:r.own=none)(u:∀j w,(callFunc f j).run xT w=.ok (.enter f j) w)
 (h:∀(D:Qk)(w:World)(y:Array Value),HG w->(∀b o,D b o->b<w.heap.size)->y.size=C.length->(∀(i:Nat) p,C[i]?=some p->Dat D w (y.getD i undef) p) ->
   Calls xT f y w λe A=>∃v,e=.returned v/\Below w.heap.size w A/\Dat (λb o=>D b o\/(w.heap.size<=b/\b<A.heap.size)) A v r):Cn xT f C r:=by
 refine⟨u,λD w y G E B F=>(h D w y (.of G) E B F).mono ?_⟩;rintro e A ⟨v,rfl,hb,I⟩;exact⟨v,_,rfl,hb,λb o h=>.inl h,λb o h=>h.imp id UQ,λb o h=>h.elim (λh=>vw (E b o h) hb.size) ub,I,zr H⟩
def zjw{j:Array Value}(h:j.size=1):j=#[j.getD 0 undef]:=by
 obtain⟨l⟩:=j;match l,h with
 |[x],_=>rfl
def zb4(c:Int)(w:World)(y:HG w):Calls xT 36 #[.iface 49 (.int .i64 c),.iface 94 (.pointer (some ⟨w.heap.size,0,none⟩))] (w.alloc (.cells #[.int .i64 0] 49))
 λev j=>ev=.returned (.bool true)/\Below w.heap.size w j/\j.cell? ⟨w.heap.size,0,none⟩=some (.int .i64 c):=by
 refine(As.as_NN c ⟨w.heap.size,0,none⟩ (.int .i64 0) _ (y.alloc _) b6 b6).mono ?_;rintro ev j ⟨rfl,rfl⟩;refine⟨rfl,?_,?_⟩
 .refine tX (((((((tu _ w).alloc ?_ _).alloc ?_ _).alloc ?_ _).alloc ?_ _).alloc ?_ _)) ?_ _<;>simp<;>omega
 .refine tV _ _ _ (u:=.int .i64 0) ?_;rw[tr _ _ ⟨w.heap.size,0,none⟩ a9,tr _ _ ⟨w.heap.size,0,none⟩ a9,tr _ _ ⟨w.heap.size,0,none⟩ a9,tr _ _ ⟨w.heap.size,0,none⟩ b6];simp
def zb3(c k:Int)(w:World)(y:HG w):Calls xT 36 #[.iface 96 (.agg #[.int .i64 c,.int .i64 k]),.iface 94 (.pointer (some ⟨w.heap.size,0,none⟩))] (w.alloc (.cells #[.int .i64 0] 49))
 λev j=>ev=.returned (.bool true)/\Below w.heap.size w j/\j.cell? ⟨w.heap.size,0,none⟩=some (.int .i64 c):=by
 refine(As.as_FN c k ⟨w.heap.size,0,none⟩ (.int .i64 0) _ (y.alloc _) b6 b6).mono ?_;rintro ev j ⟨rfl,rfl⟩;refine⟨rfl,?_,?_⟩
 .refine tX ((((((((tu _ w).alloc ?_ _).alloc ?_ _).alloc ?_ _).alloc ?_ _).alloc ?_ _).alloc ?_ _)) ?_ _<;>simp<;>omega
 .refine tV _ _ _ (u:=.int .i64 0) ?_;rw[tr _ _ ⟨w.heap.size,0,none⟩ a9,tr _ _ ⟨w.heap.size,0,none⟩ a9,tr _ _ ⟨w.heap.size,0,none⟩ a9,tr _ _ ⟨w.heap.size,0,none⟩ a9,tr _ _ ⟨w.heap.size,0,none⟩ b6];simp
def zcs(w:World):Calls xT 11 #[.nilIface] w λe j=>e=.returned (.int .i64 0)/\Below w.heap.size w j:=by
 go_enter Tryz.func11,Tryz.ntmps11
 go_wp2;go_ret;exact⟨rfl,(tu _ w).alloc (Zp _) _⟩
def zhu(c:Int)(w:World)(j:HG w):Calls xT 11 #[.iface 49 (.int .i64 c)] w λe u=>e=.returned (.int .i64 c)/\Below w.heap.size w u:=by
 go_enter Tryz.func11,Tryz.ntmps11
 go_wp2_with (go_at_call 36;refine(zb4 c w j).mono ?_;rintro e y ⟨rfl,hb,hc⟩)
 go_ret;exact⟨rfl,hb⟩
def zht(c k:Int)(w:World)(j:HG w):Calls xT 11 #[.iface 96 (.agg #[.int .i64 c,.int .i64 k])] w λe u=>e=.returned (.int .i64 c)/\Below w.heap.size w u:=by
 go_enter Tryz.func11,Tryz.ntmps11
 go_wp2_with (go_at_call 36;refine(zb3 c k w j).mono ?_;rintro e y ⟨rfl,hb,hc⟩)
 go_ret;exact⟨rfl,hb⟩
def z2:Obj:=.cells #[.int .i64 0,.int .i64 0] 96
def zaW{D:Qk}{w:World}{v:Value}{c:Int}{t:TypeId}(h:Dat D w v (.ifc t (.v (.int .i64 c)))):v=.iface t (.int .i64 c):=by
 cases h with
 |ifc t x p h=>rw[h.v_inv]
def zaX{D:Qk}{w:World}{v:Value}{c k:Int}{t:TypeId}(h:Dat D w v (.ifc t (.agg [.v (.int .i64 c),.v (.int .i64 k)]))):v=.iface t (.agg #[.int .i64 c,.int .i64 k]):=by
 cases h with
 | ifc t x p h=>
   generalize hc:[PV.v (.int .i64 c),PV.v (.int .i64 k)]=cs at h;cases h with
   | agg us cs hs _ h=>
     subst hc;obtain⟨l⟩:=us;match l,hs with
     |[x,y],_=>have j:=(h 0 _ rfl).v_inv;have e1:=(h 1 _ rfl).v_inv;simp at j e1;rw[j,e1]
def KL(c:Nat):Cn xT 11 [Z2 c] (.v (.int .i64 c)):=by refine KK rfl (enters_of Tryz.func11 dK rfl) λD w B y A j u=>?_;rw[zjw j,zaW (u 0 _ rfl)];refine(zhu c w y).mono ?_;rintro e C ⟨rfl,hb⟩;exact⟨_,rfl,hb,.v _⟩
def Ju(c:Nat)(k:Int):Cn xT 11 [jS c k] (.v (.int .i64 c)):=by
 refine KK rfl (enters_of Tryz.func11 dK rfl) λD w E A C u y=>?_;have j:=y 0 _ rfl;unfold jS at j;rw[zjw u];by_cases hc:c=0
 .rw[vj hc]at j;subst hc;rw[j.v_inv];refine(zcs w).mono ?_;rintro e B ⟨rfl,hb⟩;exact⟨_,rfl,hb,.v _⟩
 .rw[Vm hc]at j;rw[zaX j];refine(zht c k w A).mono ?_;rintro e B ⟨rfl,hb⟩;exact⟨_,rfl,hb,.v _⟩
def zcd(e:En)(h:zO e)(u:e.holes.length<=10000):Cn xT 161 [ep e] (.tup [ep (kP e).1,.v (.bool (kP e).2)]):=by have j:=kW e;refine zt Tryz.func161 1 ?_;refine pw ?_;refine .c (Vl e h a8) ?_;refine .c (zg1 e.rep (kn e) (qT h) a8) ?_;rfl
def JF(v:List En):Bool:=v.all (λe=>decide (e.holes.length<=30)) && decide (v.length<=20)
def prv(v:List En)(k:Nat):Nat:=match v[k-1]? with
 |some p=>p.rep
 |none=>0
def Xl{v:List En}{k:Nat}(h:k-1<v.length):prv v k=v[k-1].rep:=by simp[prv,Zv h]
def hkV(v:List En):Nat->List En->Nat×Int
 |_,[]=>(0,-1)
 |k,e::r=>if (yV e).1≠0 then ((yV e).1,(k:Int)) else if 0<k/\e.rep<=prv v k then (3,(k:Int)) else hkV v (k+1) r
def jx(v:List En):Nat×Int:=hkV v 0 v
def Ve(v:List En):∀(k:Nat)(r:List En),r=v.drop k->((hkV v k r).1=0↔(∀e∈r,(yV e).1=0)/\∀j (h:j<v.length),k<=j->0<j->v[j-1].rep<v[j].rep)
 |k,[],h=>by have I:=ud List.length h;simp at I;simp only[hkV,List.not_mem_nil,false_implies,implies_true,Um,true_iff];intro j E hk;omega
 | k,e::r,h=>by
   have I:=ud List.length h;simp at I;have hk:k<v.length:=a8;rw[vD hk,Wu]at h;obtain⟨J,M⟩:=h;have ih:=Ve v (k+1) r M;unfold hkV;by_cases C:(yV e).1≠0
   .rw[vj C];constructor
    .intro h;exact absurd h C
    .rintro⟨u,_⟩;exact absurd (u e b6) C
   ·rw [Vm C];have F:(yV e).1=0:=a8;by_cases u:0<k/\e.rep<=prv v k
    .rw[vj u];constructor
     .intro h;cases h
     .rintro⟨_,y⟩;have:=y k hk (Zp _) u.1;have G:=u.2;have K:=ud En.rep J;rw[Xl a8]at G;omega
    .rw[Vm u,ih];constructor
     .rintro⟨y,H⟩;refine⟨λf A=>?_,λj E B w=>?_⟩
      .rcases wh.1 A with rfl|A
       .exact F
       .exact y f A
      .rcases uB B with rfl|L
       .rw[Xl a8,J]at u;omega
       .exact H j E a8 w
     .rintro⟨y,H⟩;exact⟨λf A=>y f (by simp[A]),λj E B w=>H j E a8 w⟩
def zb0{v:List En}(h:∀j (h:j<v.length),0<j->v[j-1].rep<v[j].rep):v.Pairwise λa b=>a.rep<b.rep:=by
 rw[wQ];intro i j hi A u;induction j with
 |zero=>omega
 | succ j ih=>
   have w:=h (j+1) A a8;simp only[Nat.add_sub_cancel]at w;rcases uB (Nat.le_of_lt_succ u)with rfl|y
   .exact w
   .have:=ih a8 y;omega
def XP{v:List En}(hb:∀e∈v,ZL e):(jx v).1=0↔zsC v:=by
 unfold jx;rw[Ve v 0 v rfl];have C:∀e∈v,(yV e).1=0↔zO e:=λe u=>by have:=VU (hb e u).1 (hb e u).2.1 (hb e u).2.2;unfold Xu at this;simpa using this
 constructor
 .rintro⟨w,y⟩;exact⟨λe u=>(C e u).1 (w e u),zb0 λj A B=>y j A (X3 _) B⟩
 .rintro⟨w,y⟩;refine⟨λe u=>(C e u).2 (w e u),λj A _ B=>?_⟩;exact wQ.1 y (j-1) j a8 A a8
def fdV(r:Nat):Nat->List En->Int
 |_,[] =>-1
 |k,e::t=>if e.rep=r then (k:Int) else fdV r (k+1) t
def X2(r:Nat):∀(l:List En)(k:Nat),(fdV r k l=-1/\∀e∈l,e.rep≠r)\/∃(i:Nat) (h:i<l.length),fdV r k l=((k+i:Nat):Int)/\l[i].rep=r
 |[],k=>.inl ⟨rfl,λ_ h=>by cases h⟩
 | e::t,k=>by
   unfold fdV;by_cases h:e.rep=r
   .rw[vj h];exact .inr ⟨0,b6,b6,h⟩
   .rw[Vm h];rcases X2 r t (k+1)with⟨j,u⟩|⟨i,hi,j,u⟩
    .refine .inl ⟨j,λf w=>?_⟩;rcases wh.1 w with rfl|w
     .exact h
     .exact u f w
    .exact .inr ⟨i+1,dJ hi,by rw[j];omega,dJ u⟩
def zoo{v:List En}(h:zsC v)(r:Nat):∃i,i<=v.length/\(∀j,(h:j<v.length)->j<i->v[j].rep<r)/\(∀j,(h:j<v.length)->i<=j->r<=v[j].rep):=by
 have F:=wQ.1 h.2;obtain⟨i,B,C,E⟩:=KV (λj=>∃h:j<v.length,v[j].rep<r) v.length λa b hab hb ⟨h4,h5⟩=>by
  refine⟨a8,?_⟩;rcases uC hab with u|u
  .have:=F a b a8 hb u;omega
  .subst u;exact h5
 exact⟨i,B,λj y A=>(C j A).2,λj y w=>ul λh=>E j w y ⟨y,h⟩⟩
def zoj{v:List En}(C:zsC v){r i:Nat}(y:∀j,(h:j<v.length)->j<i->v[j].rep<r)(A:∀j,(h:j<v.length)->i<=j->r<=v[j].rep):
 fdV r 0 v=if h:i<v.length then (if v[i].rep=r then (i:Int) else -1) else -1:=by
 have B:=wQ.1 C.2;rcases X2 r v 0 with⟨e1,e2⟩|⟨j,w,e1,e2⟩
 .rw[e1];split
  .rename_i h;rw[Vm (e2 _ (Yf h))]
  .rfl
 .have u:i<=j:=ul λh=>(by have:=y j w h;omega);have:i=j:=by
   rcases uC u with h|h
   .have E:=B i j a8 w h;have F:=A i a8 (Zp _);omega
   .exact h
  subst this;rw[uj w,vj e2,e1,wn]
def zh8{v:List En}(j:zsC v){r i:Nat}(hi:i<v.length)(h:v[i].rep=r):zT v r=kn v[i]:=by rw[<-h];exact kq j.2 (Yf hi)
def zZ:List Nat->List Nat->Int
 |[],[]=>0
 |[],_::_ =>-1
 |_::_,[]=>1
 |a::x,b::y=>if a<b then -1 else if b<a then 1 else zZ x y
def ZV:∀a b,zZ b a=- zZ a b
 |[],[]=>rfl
 |[],_::_=>rfl
 |_::_,[]=>rfl
 | a::x,b::y=>by
   unfold zZ;split
   .rw[Vm a8];try rfl
   .split
    .rfl
    .exact ZV x y
def cmpL_zero:∀a b,zZ a b=0↔a=b
 |[],[]=>by simp[zZ]
 |[],_::_=>by simp[zZ]
 |_::_,[]=>by simp[zZ]
 | a::x,b::y=>by
   unfold zZ;rw[Wu];split
   .constructor
    .intro h;cases h
    .rintro⟨h,_⟩;omega
   .split
    .constructor
     .intro h;cases h
     .rintro⟨h,_⟩;omega
    .rw[cmpL_zero x y];constructor
     .intro h;exact⟨a8,h⟩
     .exact ub
def ZW:∀a b c,zZ a b<=0->zZ b c<=0->zZ a c<=0
 |[],_,[],_,_=>by simp[zZ]
 |[],_,_::_,_,_=>by simp[zZ]
 |_::_,[],_,h,_=>by simp[zZ]at h
 |_::_,_::_,[],_,h=>by simp[zZ]at h
 | a::x,b::y,c::z,h1,h2=>by
   unfold zZ at h1 h2⊢;split
   .omega
   .split at h1
    .split at h2
     .omega
     .split at h2
      .omega
      .omega
    .split at h1
     .omega
     .split at h2
      .omega
      .split at h2
       .omega
       .rw[Vm a8];exact ZW x y z h1 h2
def Yn:∀{a b:List Iv},a.flatMap (λs=>[s.lo,s.hi])=b.flatMap (λs=>[s.lo,s.hi])->a=b
 |[],[],_=>rfl
 |[],_::_,h=>by simp at h
 |_::_,[],h=>by simp at h
 |s::a,t::b,h=>by simp only[Wg,yb,Y1,Wu]at h;rw[Iv.ext' h.1 h.2.1,Yn h.2.2]
def xx(a:List Iv):(a.flatMap (λs=>[s.lo,s.hi])).length=2*a.length:=by
 induction a with
 |nil=>rfl
 |cons s a ih=>simp only[Wg,wk,wy,Wx,ih];omega
def YA:∀{a b:List En} ,a.length=b.length->a.flatMap zC=b.flatMap zC->a=b
 |[],[],_,_=>rfl
 |[],_::_,h,_=>by simp at h
 |_::_,[],h,_=>by simp at h
 |e::a,f::b,hl,h=>by simp only[Wg,zC,yb,Wu]at h;obtain⟨u,w,y,A⟩:=h;have j:=List.append_inj A (by rw[xx,xx,y]);rw[En.ext' u w (Yn j.1),YA (dJ hl) j.2]
def Vv{a b:List En}(h:zv a=zv b):a=b:=by unfold zv at h;simp only[Wu]at h;exact YA h.1 h.2
def ZJ(v:List En)(i:Nat):List Nat:=v.length::(v.take i).flatMap zC
def Q7(v:List En)(i:Nat)(h:i<v.length)(j:Nat):List Nat:=ZJ v i++[v[i].rep,v[i].max,v[i].holes.length]++(v[i].holes.take j).flatMap λs=>[s.lo,s.hi]
def ziE(v:List En):ZJ v 0=[v.length]:=by simp[ZJ]
def VF{v:List En}{i:Nat}(h:¬i<v.length):ZJ v i=zv v:=by unfold ZJ zv;rw[wm a8]
def ziD{v:List En}{i:Nat}(h:i<v.length):Q7 v i h 0=ZJ v i++[v[i].rep,v[i].max,v[i].holes.length]:=by simp[Q7]
def zbu{v:List En}{i:Nat}(h:i<v.length){j:Nat}(u:j<v[i].holes.length):Q7 v i h (j+1)=Q7 v i h j++[v[i].holes[j].lo,v[i].holes[j].hi]:=by unfold Q7;rw[X4 u,Wl];simp
def zdH{v:List En}{i:Nat}(h:i<v.length){j:Nat}(u:¬j<v[i].holes.length):Q7 v i h j=ZJ v (i+1):=by unfold Q7 ZJ;rw[wm (l:=v[i].holes) (i:=j) a8,X4 h,Wl];simp[zC]
def vQ{v:List En}(h:∀e∈v,e.holes.length<=1048576):∀i,i<=v.length->(ZJ v i).length<=1+2097155*i
 |0,_=>by simp[ZJ]
 |i+1,hi=>by have ih:=vQ h i a8;have j:=h _ (Yf (show i<v.length by omega));unfold ZJ at ih⊢;rw[X4 (show i<v.length by omega),Wl];simp only[wy,wk,Wg,Uw,wZ,zC,xx]at ih⊢;omega
def zdI{v:List En}(hb:∀e∈v,e.holes.length<=1048576){i:Nat}(h:i<v.length){j:Nat}(u:j<=v[i].holes.length):(Q7 v i h j).length<=4+2097155*i+2*j:=by have:=vQ hb i a8;unfold Q7;simp only[wk,wy,Wx,xx,Wd];omega
def zj5(v:List En)(w:v.length<=9223372036854775807):Cn xT 20 [vp v] (.v (.bool (JF v))):=by
 refine zt Tryz.func20 1 ?_;refine pw ?_;refine pLoop.go (λk=>k<=v.length/\JF v=((v.drop k).all (λe=>decide (e.holes.length<=30)) && decide (v.length<=20))) (λk=>[(3,.v (.int .i64 (k:Nat)))]) (λ_=>[]) (λk=>v.length-k) 0 [3] ?_ ?_ ?_
 .exact⟨X3 _,rfl⟩
 .exact pd
 .rintro k ⟨hk,j⟩;refine pw ?_;refine .i ?_ ?_<;>intro h<;>(try simp only[zb]at h)<;>first|refine pw ?_|exact pd
  .rw[vD h,UW]at j;refine pw ?_;refine .i ?_ ?_<;>intro u<;>(try simp only[zb]at u)<;>first|refine pw ?_|exact pd
   .rw[j,Wy a8];rfl
   .rw[uu a8,UD]at j;exact⟨k+1,⟨h,j⟩,a8,rfl⟩
  .rw[j,wA a8];simp;omega
def zdn(x:Nat):Cn xT 163 [.v (.int .u64 x)] (.v (.bool false)):=by refine zt Tryz.func163 1 ?_;exact pd
def zdm(x:Int):Cn xT 208 [.v (.int .i64 x)] (.v (.bool false)):=by refine zt Tryz.func208 1 ?_;exact pd
def XQ(x y:Nat):Cn xT 137 [.v (.int .u64 x),.v (.int .u64 y)] (.v (.int .i64 (if x<y then -1 else if y<x then 1 else 0))):=by
 refine zt Tryz.func137 2 ?_;refine pw ?_;refine .c (zdn x) ?_;refine .c (zdn y) ?_;refine .i ?_ ?_<;>intro j<;>(try simp only[zb]at j)<;>first|refine pw ?_|exact pd
 .rw[vj j]
 .rw[Vm a8];refine .i ?_ ?_<;>intro u<;>(try simp only[zb]at u)<;>first|refine pw ?_|exact pd
  .rw[vj u]
  .rw[Vm a8]
def zhq(x y:Nat):Cn xT 204 [.v (.int .i64 x),.v (.int .i64 y)] (.v (.int .i64 (if x<y then -1 else if y<x then 1 else 0))):=by
 refine zt Tryz.func204 2 ?_;refine pw ?_;refine .c (zdm x) ?_;refine .c (zdm y) ?_;refine .i ?_ ?_<;>intro j<;>(try simp only[zb]at j)<;>first|refine pw ?_|exact pd
 .rw[vj j]
 .rw[Vm a8];refine .i ?_ ?_<;>intro u<;>(try simp only[zb]at u)<;>first|refine pw ?_|exact pd
  .rw[vj u]
  .rw[Vm a8]
def zkx(r:Nat)(e:En):Cn xT 99 [.v (.int .u64 r),ep e] (.v (.int .i64 (if e.rep<r then -1 else if r<e.rep then 1 else 0))):=by refine zt Tryz.func99 2 ?_;refine pw ?_;exact .d (XQ e.rep r)
def zfV(a b:List Nat)(ha:a.length<=1152921504606846976)(hb:b.length<=1152921504606846976):Cn xT 196 [ns a,ns b] (.v (.int .i64 (zZ a b))):=by
 refine zt Tryz.func196 2 ?_;refine pw ?_;obtain⟨m,e1,H,I,B⟩:∃m:Nat,(if b.length<a.length then (b.length:Int) else (a.length:Int))=(m:Int)/\m<=a.length/\m<=b.length/\(m=a.length\/m=b.length):=by
  by_cases h:b.length<a.length
  .exact⟨b.length,vj h,a8,a8,.inr rfl⟩
  .exact⟨a.length,Vm h,a8,a8,.inl rfl⟩
 rw[e1];refine pLoop.go (λk=>k<=m/\zZ a b=zZ (a.drop k) (b.drop k)) (λk=>[(11,.v (.int .i64 (k:Nat)))]) (λ_=>[]) (λk=>m-k) 0 [11] ?_ ?_ ?_
 .exact⟨X3 _,rfl⟩
 .exact pd
 .rintro k ⟨hk,j⟩;refine pw ?_;refine .i ?_ ?_<;>intro h<;>(try simp only[zb]at h)<;>first|refine pw ?_|exact pd
  .have C:k<a.length:=a8;have E:k<b.length:=a8;rw[vD C,vD E,zZ]at j;refine pw ?_;refine .i ?_ ?_<;>intro F<;>(try simp only[zb]at F)<;>first|refine pw ?_|exact pd
   .refine .c (XQ a[k] b[k]) ?_;rw[j];by_cases u:a[k]<b[k]
    .rw[vj u,vj u]
    .rw[Vm u,Vm u,vj a8,vj a8]
   .rw[Vm a8,Vm a8]at j;exact⟨k+1,⟨h,j⟩,a8,rfl⟩
  .refine .c (zhq a.length b.length) ?_;have G:a.drop k=[]\/b.drop k=[]:=by
    rcases B with B|B
    .exact .inl (wA a8)
    .exact .inr (wA a8)
   have w:(a.drop k).length=a.length-k:=W8;have A:(b.drop k).length=b.length-k:=W8;rw[j];generalize a.drop k=x at *;generalize b.drop k=y at *;rcases G with rfl|rfl
   .cases y with
    |nil=>simp at w A;rw[Vm a8,Vm a8];rfl
    |cons c y=>simp at w A;rw[vj a8];rfl
   .cases x with
    |nil=>simp at w A;rw[Vm a8,Vm a8];rfl
    |cons c y=>simp at w A;rw[Vm a8,vj a8];rfl
def Ks(a b:List En)(ha:∀e∈a,ZL e)(hb:∀e∈b,ZL e)(j:(zv a).length<=1073741824)(u:(zv b).length<=1073741824):Cn xT 180 [vp a,vp b] (.v (.int .i64 (zZ (zv a) (zv b)))):=by refine zt Tryz.func180 2 ?_;refine pw ?_;refine .c (Yz a ha j) ?_;refine .c (Yz b hb u) ?_;exact .d (zfV (zv a) (zv b) a8 a8)
def zbB(v:List En)(r:Nat)(w:v.length<=1152921504606846976):Cn xT 111 [vp v,.v (.int .u64 r)] (.v (.int .i64 (fdV r 0 v))):=by
 refine zt Tryz.func111 2 ?_;refine pw ?_;refine pLoop.go (λk=>k<=v.length/\fdV r 0 v=fdV r k (v.drop k)) (λk=>[(5,.v (.int .i64 (k:Nat)))]) (λ_=>[]) (λk=>v.length-k) 0 [5] ?_ ?_ ?_
 .exact⟨X3 _,rfl⟩
 .exact pd
 .rintro k ⟨hk,j⟩;refine pw ?_;refine .i ?_ ?_<;>intro h<;>(try simp only[zb]at h)<;>first|refine pw ?_|exact pd
  .rw[vD h,fdV]at j;refine pw ?_;refine .i ?_ ?_<;>intro u<;>(try simp only[zb]at u)<;>first|refine pw ?_|exact pd
   .rw[j,vj u]
   .rw[Vm u]at j;exact⟨k+1,⟨h,j⟩,a8,rfl⟩
  .rw[j,wA a8];rfl
def kfn:PV:=.cp [.fn (.func 99) [] []] 0
attribute [go_sem] kfn
def znQ(e:En)(r:Nat):Cn xT 142 [ep e,.v (.int .u64 r),kfn] (.v (.int .i64 (if e.rep<r then -1 else if r<e.rep then 1 else 0))):=by refine zt Tryz.func142 3 ?_;refine pw ?_;exact .d (zkx r e)
def zoR(v:List En)(r:Nat)(i:Nat)(hi:i<=v.length)(H:∀j,(h:j<v.length)->j<i->v[j].rep<r)(A:∀j,(h:j<v.length)->i<=j->r<=v[j].rep)(I:v.length<=1152921504606846976):
 Cn xT 141 [vp v,.v (.int .u64 r),.fn (.func 142) [] [kfn]] (.tup [.v (.int .i64 i),.v (.bool (if h:i<v.length then decide (v[i].rep=r) else false))]):=by
 refine zt Tryz.func141 3 ?_;refine pw ?_;refine pLoop.go (λp:Nat×Nat=>p.1<=i/\i<=p.2/\p.2<=v.length) (λp=>[(9,.v (.int .i64 (p.1:Nat))),(10,.v (.int .i64 (p.2:Nat)))]) (λ_=>[]) (λp=>p.2-p.1) (0,v.length) [9,10] ?_ ?_ ?_
 .exact⟨X3 _,hi,Zp _⟩
 .exact pd
 .rintro⟨p,q⟩ ⟨C,E,F⟩;simp only at C E F;refine pw ?_;refine .i ?_ ?_<;>intro h<;>(try simp only[zb]at h)<;>first|refine pw ?_|exact pd
  .have B:(p+q)/2<v.length:=a8;have G:=H _ B;have y:=A _ B;refine pw ?_;refine .c (znQ v[(p+q)/2] r) ?_;refine .i ?_ ?_<;>intro u<;>(try simp only[zb]at u)<;>first|refine pw ?_|exact pd
   .refine⟨((p+q)/2+1,q),⟨?_,E,F⟩,by simp only;omega,rfl,rfl⟩;simp only;refine Ua λw=>?_;have:=y w;rw[Vm a8]at u;split at u<;>omega
   .refine⟨(p,(p+q)/2),⟨C,?_,by simp only;omega⟩,by simp only;omega,rfl,rfl⟩;simp only;refine ul λw=>?_;have:=G w;rw[vj this]at u;omega
  .obtain rfl:p=i:=a8;obtain rfl:q=p:=a8;refine .i ?_ ?_<;>intro u<;>(try simp only[zb]at u)<;>first|refine pw ?_|exact pd
   .refine .c (znQ v[q] r) ?_;have y:=A _ u (Zp _);rw[uj u,Vm a8];by_cases w:v[q].rep=r
    .rw[Vm a8,uu w];simp
    .rw[vj a8,Wy w];simp
   .rw[UK a8]
def zoK(v:List En)(r:Nat)(y:zsC v)(A:v.length<=1152921504606846976):Cn xT 107 [vp v,.v (.int .u64 r)] (.v (.int .i64 (fdV r 0 v))):=by
 obtain⟨i,hi,u,w⟩:=zoo y r;rw[zoj y u w];refine zt Tryz.func107 2 ?_;refine pw ?_;refine .c (zoR v r i hi u w A) ?_;by_cases h:i<v.length
 .rw[uj h,uj h];refine .i ?_ ?_<;>intro j<;>(try simp only[zb]at j)<;>first|refine pw ?_|exact pd
  .rw[Vm j]
  .rw[vj j]
 .rw[UK h,UK h];exact pd
def zo6(v:List En)(r c:Nat)(j:zsC v)(hc:c<zk)(w:v.length<=1152921504606846976)(u:∀e∈v,e.holes.length<=1152921504606846976):Cn xT 70 [vp v,.v (.int .u64 r),.v (.int .u64 c)] (.v (.bool (mem (zT v r) c))):=by
 refine zt Tryz.func70 3 ?_;refine pw ?_;refine .rd (zoK v r j w) rfl ?_;rcases X2 r v 0 with⟨e1,e2⟩|⟨i,hi,e1,e2⟩
 .rw[e1,qC e2];refine pw ?_;rfl
 .rw[e1,zh8 j hi e2,vC (j.1 _ (Yf hi)) hc,wn];refine pw ?_;exact .d (zoS v[i] c (j.1 _ (Yf hi)) (u _ (Yf hi)))
def zl8(v:List En)(r c:Nat)(j:zsC v)(hc:c<zk)(w:v.length<=1152921504606846976)(u:∀e∈v,e.holes.length<=1152921504606846976):Cn xT 77 [vp v,.v (.int .u64 r),.v (.int .u64 c)] (.v (.bool (mem (zT v r) c))):=by
 refine zt Tryz.func77 3 ?_;refine pw ?_;refine .rd (zbB v r w) rfl ?_;rcases X2 r v 0 with⟨e1,e2⟩|⟨i,hi,e1,e2⟩
 .rw[e1,qC e2];refine pw ?_;rfl
 .rw[e1,zh8 j hi e2,vC (j.1 _ (Yf hi)) hc,wn];refine pw ?_;exact .d (znN v[i] c (u _ (Yf hi)))
def Kb(v:List En)(hb:∀e∈v,ZL e)(C:v.length<=9223372036854775807)(A:∀e∈v,e.holes.length<=9223372036854775807):Cn xT 35 [vp v] (.tup [.v (.int .i64 (jx v).1),.v (.int .i64 (jx v).2)]):=by
 refine zt Tryz.func35 1 ?_;refine pw ?_;refine pLoop.go (λk=>k<=v.length/\jx v=hkV v k (v.drop k)) (λk=>[(4,.v (.int .i64 (k:Nat)))]) (λ_=>[]) (λk=>v.length-k) 0 [4] ?_ ?_ ?_
 .exact⟨X3 _,rfl⟩
 .exact pd
 .rintro k ⟨hk,j⟩;refine pw ?_;refine .i ?_ ?_<;>intro h<;>(try simp only[zb]at h)<;>first|refine pw ?_|exact pd
  .rw[vD h,hkV]at j;refine pw ?_;refine .c (zcj v[k] (A _ (Yf h)) (hb _ (Yf h)).1) ?_;refine .i ?_ ?_<;>intro y<;>(try simp only[zb]at y)<;>first|refine pw ?_|exact pd
   .rw[vj a8]at j;rw[j]
   .rw[Vm a8]at j;refine .i ?_ ?_<;>intro u<;>(try simp only[zb]at u)<;>first|refine pw ?_|exact pd
    .have B:=Xl (v:=v) (k:=k) a8;rw[B]at j;refine pw ?_;refine .i ?_ ?_<;>intro w<;>(try simp only[zb]at w)<;>first|refine pw ?_|exact pd
     .rw[vj ⟨u,w⟩]at j;rw[j];rfl
     .rw[Vm (λh=>a8)]at j;exact⟨k+1,⟨h,j⟩,a8,rfl⟩
    .rw[Vm (λh=>a8)]at j;exact⟨k+1,⟨h,j⟩,a8,rfl⟩
  .rw[j,wA a8];rfl
def zes(v:List En)(hb:∀e∈v,ZL e)(G:v.length<=1152921504606846976)(E:∀e∈v,e.holes.length<=1152921504606846976):Cn xT 61 [vp v] (jS (jx v).1 (jx v).2):=by
 refine zt Tryz.func61 1 ?_;refine pw ?_;refine pLoop.go (λk=>k<=v.length/\jx v=hkV v k (v.drop k)) (λk=>[(8,.v (.int .i64 (k:Nat)))]) (λ_=>[]) (λk=>v.length-k) 0 [8] ?_ ?_ ?_
 .exact⟨X3 _,rfl⟩
 .exact pd
 .rintro k ⟨hk,j⟩;refine pw ?_;refine .i ?_ ?_<;>intro h<;>(try simp only[zb]at h)<;>first|refine pw ?_|exact pd
  ·rw [vD h,hkV]at j;have y:=hb _ (Yf h);have A:=E _ (Yf h);have u:=Ju (yV v[k]).1 (yV v[k]).2;refine pw ?_;refine .rd (zcJ v[k] y.1 A (.inr (KL 2))) rfl ?_;by_cases hz:(yV v[k]).1=0
   .rw[yk hz];rw[Vm a8]at j;refine pw ?_;refine .i ?_ ?_<;>intro B<;>(try simp only[zb]at B)<;>first|refine pw ?_|exact pd
    .have F:=Xl (v:=v) (k:=k) a8;rw[F]at j;refine pw ?_;refine .c (zkx v[k-1].rep v[k]) ?_;refine .i ?_ ?_<;>intro w<;>(try simp only[zb]at w)<;>first|refine pw ?_|exact pd
     .have C:v[k].rep<=v[k-1].rep:=by split at w<;>(try split at w)<;>omega
      rw[vj ⟨B,C⟩]at j;rw[j];refine .c (jT 3 k) ?_;exact ym _ _
     .have C:¬v[k].rep<=v[k-1].rep:=by split at w<;>(try split at w)<;>omega
      rw[Vm (λh=>a8)]at j;exact⟨k+1,⟨h,j⟩,a8,rfl⟩
    .rw[Vm (λh=>a8)]at j;exact⟨k+1,⟨h,j⟩,a8,rfl⟩
   .rw[vj hz]at j;rw[j];rw[vu hz]at u⊢;refine pw ?_
    (first|refine .c (u) ?_|refine .o (u) ?_)
    refine .c (jT (yV v[k]).1 k) ?_;exact ym _ _
  .rw[j,wA a8];exact .eq _ rfl
def yY{v:List En}{k:Nat}(h:k<v.length):zi (v.take (k+1))=if (kP v[k]).2 then zi (v.take k)++[(kP v[k]).1] else zi (v.take k):=by
 unfold zi;rw[X4 h,U8];simp only[uI,UR,QX];split
 .rename_i h1;split at h1
  .cases h1
  .rename_i h2;rw[Vm h2,wZ]
 .rename_i h1;split at h1
  .rename_i h2;cases h1;rw[vj h2]
  .cases h1
def ZU(v:List En)(k:Nat):(zi (v.take k)).length<=k:=by have:=Ud QX (v.take k);have j:(v.take k).length<=k:=uK _ _;unfold zi;omega
def zer(v:List En)(y:zsC v)(A:v.length<=1048576)(w:∀e∈v,e.holes.length<=10000):Cn xT 147 [vp v] (vp (zi v)):=by
 refine zt Tryz.func147 1 ?_;refine pw ?_;refine pLoop.go (λk=>k<=v.length) (λk=>[(3,.sl ((zi (v.take k)).map ec) (.r 23 3)),(10,.v (.int .i64 (k:Nat)))]) (λ_=>[]) (λk=>v.length-k) 0 [3,10] ?_ ?_ ?_
 .exact X3 _
 .refine pw ?_;rfl
 .rintro k hk;have u:=ZU v k;refine pw ?_;refine .i ?_ ?_<;>intro h<;>(try simp only[zb]at h)<;>first|refine pw ?_|exact pd
  .refine .c (zeP v[k] (y.1 _ (Yf h)) (w _ (Yf h))) ?_;refine .i ?_ ?_<;>intro j<;>(try simp only[zb]at j)<;>first|refine pw ?_|exact pd
   .refine⟨k+1,h,a8,?_,rfl⟩;rw[yY h,vj j];simp;rfl
   .refine⟨k+1,h,a8,?_,rfl⟩;rw[yY h,Vm (dJ j)]
  .rw[wm a8]
def Ka(v:List En)(y:zsC v)(A:v.length<=1048576)(w:∀e∈v,e.holes.length<=10000):Cn xT 131 [vp v] (vp (zi v)):=by
 refine zt Tryz.func131 1 ?_;refine pw ?_;refine pLoop.go (λk=>k<=v.length) (λk=>[(3,.sl ((zi (v.take k)).map ec) (.r 25 3)),(4,.v (.int .i64 (k:Nat)))]) (λ_=>[]) (λk=>v.length-k) 0 [3,4] ?_ ?_ ?_
 .exact X3 _
 .refine pw ?_;rfl
 .rintro k hk;have u:=ZU v k;refine pw ?_;refine .i ?_ ?_<;>intro h<;>(try simp only[zb]at h)<;>first|refine pw ?_|exact pd
  .refine .c (zcd v[k] (y.1 _ (Yf h)) (w _ (Yf h))) ?_;refine .i ?_ ?_<;>intro j<;>(try simp only[zb]at j)<;>first|refine pw ?_|exact pd
   .refine⟨k+1,h,a8,?_,rfl⟩;rw[yY h,vj j];simp;rfl
   .refine⟨k+1,h,a8,?_,rfl⟩;rw[yY h,Vm (dJ j)]
  .rw[wm a8]
def us(l:List Nat):PV:=.sl (l.map yN) .sh
attribute [go_sem] us
def zik(x:Nat):Cn xT 200 [.v (.int .u64 x)] (.v (.bool false)):=by refine zt Tryz.func200 1 ?_;exact pd
def zie(x y:Nat):Cn xT 170 [.v (.int .u64 x),.v (.int .u64 y)] (.v (.bool (decide (x<y)))):=by refine zt Tryz.func170 2 ?_;refine pw ?_;exact .d (zdn x)
def zaI(l:List Nat)(x i:Nat)(hi:i<=l.length)(E:∀j,(h:j<l.length)->j<i->l[j]<x)(F:∀j,(h:j<l.length)->i<=j->x<=l[j])(G:l.length<=1152921504606846976):
 Cn xT 188 [us l,.v (.int .u64 x)] (.tup [.v (.int .i64 i),.v (.bool (decide (l[i]?=some x)))]):=by
 refine zt Tryz.func188 2 ?_;refine pw ?_;refine pLoop.go (λp:Nat×Nat=>p.1<=i/\i<=p.2/\p.2<=l.length) (λp=>[(7,.v (.int .i64 (p.1:Nat))),(8,.v (.int .i64 (p.2:Nat)))]) (λ_=>[]) (λp=>p.2-p.1) (0,l.length) [7,8] ?_ ?_ ?_
 .exact⟨X3 _,hi,Zp _⟩
 .exact pd
 .rintro⟨p,q⟩ ⟨A,B,C⟩;simp only at A B C;refine pw ?_;refine .i ?_ ?_<;>intro h<;>(try simp only[zb]at h)<;>first|refine pw ?_|exact pd
  .have y:(p+q)/2<l.length:=a8;refine pw ?_;refine .c (zie l[(p+q)/2] x) ?_;refine .i ?_ ?_<;>intro w<;>(try simp only[zb]at w)<;>first|refine pw ?_|exact pd
   .refine⟨((p+q)/2+1,q),⟨?_,B,C⟩,by simp only;omega,rfl,rfl⟩;simp only;refine Ua λu=>?_;have:=F _ y u;omega
   .refine⟨(p,(p+q)/2),⟨A,?_,by simp only;omega⟩,by simp only;omega,rfl,rfl⟩;simp only;refine ul λu=>?_;have:=E _ y u;omega
  .obtain rfl:p=i:=a8;obtain rfl:q=p:=a8;refine .i ?_ ?_<;>intro w<;>(try simp only[zb]at w)<;>first|refine pw ?_|exact pd
   .rw[show l[q]?=some l[q] from Zv w];refine .i ?_ ?_<;>intro u<;>(try simp only[zb]at u)<;>first|refine pw ?_|exact pd
    .simp[u]
    .refine .c (zik l[q]) ?_;simp[u]
   .rw[show l[q]?=none from WW a8];simp
end
section
open Go.RowKit Go.Maps
attribute [-go_sem] z7
def XY{D:Qk}{w:World}{x a b:Value}(h:Dat D w x (.tup [.v a,.v b])):x=.tuple #[a,b]:=by
 cases h with
 | tup vs cs hs h=>
   obtain⟨l⟩:=vs;match l,hs with
   |[p,q],_=>have j:=(h 0 _ rfl).v_inv;have e1:=(h 1 _ rfl).v_inv;simp at j e1;rw[j,e1]
def zhv{D:Qk}{w:World}{x:Value}{e:En}(h:Dat D w x (ep e)):∃j u,x=.agg #[.int .u64 e.rep,.int .u64 e.max,.slice j e.holes.length u]/\Dat D w (.slice j e.holes.length u) (rg e.holes):=by
 have A:Dat D w x (.agg [.v (.int .u64 e.rep),.v (.int .u64 e.max),rg e.holes]):=h;cases A with
 | agg vs cs hs _ h=>
   obtain⟨l⟩:=vs;match l,hs with
   |[p,q,r],_=>have y:=(h 0 _ rfl).v_inv;have e1:=(h 1 _ rfl).v_inv;have e2:=h 2 _ rfl;simp at y e1 e2;obtain⟨j,u,rfl⟩:=zK e2;rw[y,e1];exact⟨j,u,rfl,e2⟩
def Yk{D:Qk}{w:World}{x:Value}{e:En}{b:Bool}(h:Dat D w x (.tup [ep e,.v (.bool b)])):∃j u,x=.tuple #[.agg #[.int .u64 e.rep,.int .u64 e.max,.slice j e.holes.length u],.bool b]/\Dat D w (.slice j e.holes.length u) (rg e.holes):=by
 cases h with
 | tup vs cs hs h=>
   obtain⟨l⟩:=vs;match l,hs with
   |[p,q],_=>have y:=h 0 _ rfl;have e1:=(h 1 _ rfl).v_inv;simp at y e1;obtain⟨j,u,rfl,A⟩:=zhv y;rw[e1];exact⟨j,u,rfl,A⟩
def jP{f:FuncId}{A:List PV}{r:PV}(h:Cn xT f A r){D:Qk}{w:World}{vs:Array Value}(E:GL D w)(C:∀b o,D b o->b<w.heap.size)(y:vs.size=A.length)(u:∀(i:Nat) p,A[i]?=some p->Dat D w (vs.getD i undef) p):
 Calls xT f vs w λe j=>∃v,e=.returned v/\Below w.heap.size w j/\Dat (λb o=>D b o\/(w.heap.size<=b/\b<j.heap.size)) j v r:=by
 refine(h.2 D w vs E C y u).mono ?_;rintro e j ⟨v,H,rfl,hb,_,F,G,u,_⟩;exact⟨v,rfl,hb,u.mono (λb o h=>(F b o h).imp id λB=>⟨B,G b o h⟩) λ_ _ _ _ h=>h⟩
def OwnU.keep{base:Nat}{w w':World}{v:Value}{l:List Nat}(h:OwnU base w v l)(hb:∀g,v.ownBlock=some g->w'.heap[g]?=w.heap[g]?):OwnU base w' v l:=by
 refine⟨h.1,?_⟩;rcases h.2 with h|⟨g,j,u,e,y,hc,r⟩
 .exact .inl h
 .exact .inr ⟨g,j,u,e,y,(hb g (by rw[e];rfl)).trans hc,r⟩
def OwnU.lt{base:Nat}{w:World}{v:Value}{l:List Nat}(h:OwnU base w v l):∀g,v.ownBlock=some g->base<=g/\g<w.heap.size:=λg j=>World.ownsRow.lt h g j
def KC(x:Nat):∀{l:List Nat},YN l->∃i,i<=l.length/\(∀j,(h:j<l.length)->j<i->l[j]<x)/\(∀j,(h:j<l.length)->i<=j->x<=l[j])
 |[],_=>⟨0,Zp _,λj h=>absurd h b6,λj h=>absurd h b6⟩
 | y::l,h=>by
   have ⟨h1,h2⟩:=wi.1 h;by_cases C:y<x
   .obtain⟨i,hi,E,F⟩:=KC x h2;refine⟨i+1,a9,λj u B=>?_,λj u A=>?_⟩
    .match j with
     |0=>exact C
     |j+1=>exact E j (dJ u) a8
    .match j with
     |0=>omega
     |j+1=>exact F j (dJ u) a8
   .refine⟨0,X3 _,λj _ u=>a8,λj u _=>?_⟩;match j with
    |0=>simp;omega
    |j+1=>have w:j<l.length:=(dJ u);have:=h1 _ (Yf w);simp only[WM];omega
def zmj{C:Qk}{base:Nat}{w:World}{v:Value}{l:List Nat}(x i:Nat)(y:OwnU base w v l)(F:∀b o,C b o->b<w.heap.size)(G:GL C w)(hi:i<=l.length)(A:∀j,(h:j<l.length)->j<i->l[j]<x)(B:∀j,(h:j<l.length)->i<=j->x<=l[j])(I:l.length<=1152921504606846976):
 Calls xT 188 #[v,.int .u64 (x:Nat)] w λe E=>(∃b,e=.returned (.tuple #[.int .i64 (i:Nat),.bool b]))/\Below w.heap.size w E:=by
 refine(jP (zaI l x i hi A B I) (D:=λb o=>C b o\/(base<=b/\b<w.heap.size)) (G.mono (λ_ _ h=>.inl h) λ_ _ _ _ h=>h) (λb o h=>h.elim (F b o) ub) rfl (λj p u=>?_)).mono ?_
 .match j,u with
  |0,u=>cases u;exact vL y λb o A B=>.inr ⟨A,B⟩
  |1,u=>cases u;exact .v _
  |j+2,u=>simp at u
 .rintro e E ⟨v,rfl,hb,H⟩;rw[XY H];exact⟨⟨_,rfl⟩,hb⟩
def zaD{C:Qk}{base rb:Nat}{w:World}{v:Value}{xs:List Nat}(x:Nat)(y:OwnU base w v (srt xs))(A:Boxed w rb 237 v)(ad:rb<base)(G:x∉xs)(hl:(srt xs).length<=4194304)(V:base<=w.heap.size)(hC:∀b o,C b o->b<w.heap.size)(hG:GL C w):
 Calls xT 153 #[.pointer (some ⟨rb,0,none⟩),.int .u64 (x:Nat)] w λe w'=>(∃u,e=.returned u)/\∃v',Boxed w' rb 237 v'/\OwnU base w' v' (srt (xs++[x]))/\Keep (λk=>k=rb\/base<=k) w w':=by
 obtain⟨i,hi,Y,Z⟩:=KC x (yi xs);have Q:=qL (zmj x i y hC hG hi Y Z a8);have F:srt (xs++[x])=(srt xs).take i++x::(srt xs).drop i:=kJ hi (λk hk X=>by
  have h1:=Z k hk X;have h2:(srt xs)[k]≠x:=λe=>G (qr.1 (e▸Yf hk));omega) (by
  rcases Wi i with h0|h0
  .exact .inl h0
  .exact .inr ⟨a8,Y _ a8 a8⟩)
 have HI:=qL F;have L:=qL y;have HX:=qL A;have c0:=A.cell;have N:=A.lt;clear F y A hC hG Y Z G;have H:True:=trivial;have I:True:=trivial;go_enter Tryz.func153,Tryz.ntmps153
 go_wp2_with (first
  | (go_at_call 188;have _t:=H;refine Q.o.mono ?_;rintro e P ⟨⟨bb,rfl⟩,J⟩
     have c1:P.cell? ⟨rb,0,none⟩=some v:=(tn (a:=⟨rb,0,none⟩) (J.block rb N)).trans c0;have j:=qL J;clear J H)
  | (go_at_call 189;have _t:=I
     refine(Y9 base P.heap.size _ _ v (srt xs) x i hi (L.o.keep λg O=>by rw[tv _ _ _ (vw (L.o.lt g O).2 j.o.size),j.o.block g (L.o.lt g O).2]) (tp P _) (λe=>by have h8:=(L.o.lt _ e).2;have h9:=j.o.size;omega) a8 (by have:=j.o.size;simp;omega)).mono ?_;rintro e w3 ⟨v',rfl,B,K,_⟩;have E:Boxed w3 rb 237 v:=((show Boxed P rb _ v from (j.o.block rb N).trans HX.o).alloc _).kept K (λe=>by have:=(L.o.lt rb e.symm).1;omega);have c3:=E.cell;have f3:=E.frozen;have U:=qL E;have T:=qL ((((Keep.of_below' (S:=λk=>k=rb\/base<=k) j.o (Zp _)).alloc _).grown K λk hk _=>.inr (L.o.lt k hk).1));rw[<-HI.o]at B;obtain⟨g3,ab,ac,rfl,_⟩:=(show _\/_ from B.cases).resolve_left (λh=>by have:=h.2;rw[HI.o]at this;simp at this);have M:=qL B;clear E K B I)
  |go_in)
 go_end0
 exact⟨⟨_,rfl⟩,_,U.o.set _,M.o.keep λg O=>tx _ _ _ _ (by have:=(M.o.lt g O).1;show g≠rb;omega),T.o.setCell (λ_=>.inl rfl) _⟩
def jL{n:Nat}{A B C:World}{S:Nat->Prop}(h:Below n A B)(hk:Keep S B C)(hs:∀k,k<n->¬S k)(u:n<=A.heap.size):Below n A C:=
 ⟨hk.os.trans h.os,hk.tape.trans h.tape,hk.output.trans h.output,V0 h.size hk.size,λk j=>(hk.block k (by have:=h.size;omega) (hs k j)).trans (h.block k j)⟩
def yD{w A:World}{b r n YV:Nat}{D:DV}{left:Lit->Bool}(h:w.ranges xT 38 rV b r n D left YV)(hb:A.heap[b]?=w.heap[b]?)(I:A.heap[r]?=w.heap[r]?):A.ranges xT 38 rV b r n D left YV:=by obtain⟨C,j,u,y,B,E,F,hs,H,G,rest⟩:=h;exact⟨C,j,u,y,B,hb.trans E,F,hs,H,I.trans G,rest⟩
def zhV:∀(j:Value)(kl:Lit),keyOf xT 38 j=some kl->∃x:{r:Nat // r<zk},j=Value.int .u64 (x.1:Nat):=λj kl h=>by obtain⟨x,rfl,_,u⟩:=Maps.keyOf_int_inv Tryz.underlying38 h;simp[Lit.wf,IntKind.min,IntKind.max,IntKind.signed,IntKind.bits]at u;refine⟨⟨x.toNat,by rw[zw];omega⟩,?_⟩;rw[th a8]
def QM{left:Lit->Bool}{r x:Nat}:(left (kR r) && !(kR r).sameKey (kR x))=false↔left (kR r)=false\/r=x:=by
 have h:(kR r).sameKey (kR x)=decide (r=x):=by simp[kR,Lit.sameKey];omega
 rw[h];cases left (kR r)<;>simp
def zeK:∀(r j:List Nat),YN r->(∀y∈r,y∈j)->r.length<=j.length:=by
 intro r;induction r with
 |nil=>intro j _ _;exact X3 _
 | cons x r ih=>
   intro j h w;have u:=wi.1 h;have:=ih (j.erase x) u.2 λy B=>by have C:=u.1 y B;exact(WY a8).2 (w y (by simp[B]))
   have A:x∈j:=w x b6;rw[WG A]at this;have:=uh A;simp;omega
def zkr(j A:Option Addr)(y C u B:Nat)(w:World):(Instr.index 239 (.agg #[.slice j y u,.slice A C B]) (.int .i64 0)).run xT w=.ok (.slice j y u) w:=dK
def zks(A j:Option Addr)(C y B u:Nat)(w:World):(Instr.index 239 (.agg #[.slice A C B,.slice j y u]) (.int .i64 1)).run xT w=.ok (.slice j y u) w:=dK
def zkk:(xT.info? 109).map (λi=>(i.zero,i.size,i.bytes))=some (some (.agg #[.int .u64 0,.int .u64 0,.slice none 0 0]),3,40):=dK
def OwnU.shape{base:Nat}{w:World}{v:Value}{l:List Nat}(h:OwnU base w v l):∃y u,v=.slice y l.length u/\l.length<=u/\u<=maxLen/\(l≠[]->∃g,y=some ⟨g,0,none⟩/\g<w.heap.size/\∀j (A:j<l.length),w.cell? ⟨g,j,none⟩=some (.int .u64 (l[j]:Nat))):=by
 rcases h.cases with⟨rfl,rfl⟩|⟨g,u,B,rfl,G,C,H,E,F,I,J⟩
 .exact⟨none,0,rfl,Zp _,X3 _,λh=>absurd rfl h⟩
 .refine⟨_,u,rfl,E,F,λ_=>⟨g,rfl,C,λj A=>?_⟩⟩;have:=tJ h (g:=g) rfl j (uV l[j]) (by rw[wj,Zv A];rfl);rw[zh,wn]at this;exact this
def zac{f:Bool->Bool->Bool}{a b:List En}{r:Nat}{e:En}{ok:Bool}(h:Qi r (qy f (zT a r) (zT b r))=(e,ok)):vE f a b r=if ok=true then some e else none:=by unfold vE Xd;rw[h]
def KZ{f:Bool->Bool->Bool}{a b:List En}{L:List Nat}{k:Nat}(hk:k<L.length):(L.take (k+1)).filterMap (vE f a b)=(L.take k).filterMap (vE f a b)++(vE f a b L[k]).toList:=by
 rw[X4 hk,U8,uI,UR];cases vE f a b L[k]<;>rfl
def Ja{P:Program}{f:FuncId}{t:Tmp}{xs:List Operand}{c:Call}{o:Oper}{a:Act}{w:World}{K:Act->World->Prop}{Q:Exit->Act->World->Prop}(ho:o.op=.call c)(hc:c.callee=.value (.tmp t))(B:a.eval (.tmp t)=.func (.func f) #[] #[])(ha:c.args.toList=xs)
 (y:∀j w,(callFunc f j).run P w=.ok (.enter f j) w)
 (h:Calls P f (xs.map a.eval).toArray w λe u=>match e with|.returned v=>K (a.put o.dst v) u|.panicked chain=>Q (.panic chain) a u|.outgrown=>LetsOut Q):o.wp P a w K Q:=by
 have A:(execOp a.eval o).run P w=.ok (.enter f (xs.map a.eval).toArray) w:=by have e:c.args.map a.eval=(xs.map a.eval).toArray:=WE.1 (by rw[WT,ha]);simp only[execOp,ho,resolve,hc,e,B,Deferred.ofValue,tG,tI,tA,invoke];rw[show (#[]++(xs.map a.eval).toArray++#[]:Array Value)=(xs.map a.eval).toArray from by simp];exact y _ _
 unfold Oper.wp;rw[A,t9];exact h.mono (λe C h=>by cases e<;>exact h)
def Zi{P:Program}{w:World}{o:Oper}{a:Act}{K:Act->World->Prop}{Q:Exit->Act->World->Prop}(s x:Operand)(t:TypeId)
 (ho:o.op=.call { callee:=.builtin .append,args:=#[s,x],argTypes:=#[t,t] })
 (base:Nat) (e:TypeId) (i:TypeInfo) (z:Value) (size A:Nat) (ht:P.underlying t=some (.slice e)) (hi:P.info? e=some i) (hz:i.zero=some z)
 (F:i.size=size) (M:i.bytes=A) (hzs:z.cells.size=size) (N:0<size)
 (v:Value) (n:Nat) (O:List Value) (hs:a.eval s=v) (H:w.ownsRow base e size v n O)
 (J:Addr) (m c:Nat) (y:List Value) (hx:a.eval x=.slice (some J) m c) (Y:y.length=m*size) (E:∀j u,y[j]?=some u->w.cell? (J.add j)=some u) (S:∀u∈y,u.oneCell'=true)
 (L:n+m<=maxLen) (B:(n+m)*A<=140737488355328) (C:base<=w.heap.size)
 (h:∀G I,I.ownsRow base e size G (n+m) (O++y)->w.grownBy I v.ownBlock->(G=.slice none 0 0↔v=.slice none 0 0/\m=0)->(G.ownBlock=v.ownBlock\/G.ownBlock=some w.heap.size)->K (a.put o.dst G) I) :
 o.wp P a w K Q:=by
 obtain⟨G,I,Z,T,U,V,X⟩:=Ti (P:=P) w base t o.type e i z size A ht hi hz F M hzs N v n O H J m c y Y E S L B C;unfold Oper.wp execOp;simp only[ho,resolve,invoke,builtin,tG,tI,tA,ug,Wz,W7,hs,hx,Z];exact h G I T U V X
def zcD(C:Qk)(a b:List En)(va vb:Value)(w:World)(f:Bool->Bool->Bool)(op:FuncId)(aT:∀r,Cn xT op [rg (zT a r),rg (zT b r)] (rg (qy f (zT a r) (zT b r))))
 (ha:SmV a) (hb:SmV b) (ra:RdF C w.heap.size w va a) (rb:RdF C w.heap.size w vb b) (hC:∀b o,C b o->b<w.heap.size) (hG:GL C w) :
 Calls xT 120 #[va,vb,.func (.func op) #[] #[]] w λe w'=>∃v,e=.returned v/\Below w.heap.size w w'/\Dat (DL C w.heap.size w') w' v (vp (ks f a b)):=by
 have ch:=qL (J4 C a b va vb w ha hb ra rb hC hG);have bX:=qL hG;have aw:=(aT 0).1;have cg:=qL aT;have HM:=qL (Xr ha.1 hb.1);obtain⟨I,K⟩:=xm (zM a++zM b);have cr:I.length<=2097152:=by have h1:=ha.2.1;have h2:=hb.2.1;rw[K];simp[zM];omega
 have ax:ks f a b=(srt I).filterMap (vE f a b):=by rw[K];rfl
 rw[<-K]at HM;have bh:=qL ax;have cH:=qL K;clear hG ra rb aT ax;have aA:True:=trivial;have aB:True:=trivial;go_enter Tryz.func120,Tryz.ntmps120
 go_wp2_with (first
  | (go_at_call 152;have _t:=aA;refine ch.o.mono ?_;rintro e J ⟨rfl,bt,D,A,ab⟩
     rw[<-K]at ab;have cW:w.heap.size<J.heap.size:=A.lt;have cc:=qL A;have bi:=qL ab;have bR:=qL bt;clear A ab bt aA)
  |(at_range;have _t:=aB;refine TI _ rfl _ 234 rfl 38 239 vF Tryz.underlying234 rV w.heap.size (a.length+b.length) D rfl (cc.o.alloc _) ?_;intro w2 ak Q cC;clear aB)
  |go_in)
 go_frame
 simp only[tw]at ak cC⊢;clear K;have cP:=qL Q;have au:Boxed w2 J.heap.size 237 (.slice none 0 0):=(tU J _ _).kept Q b6;have bc:qA (∀k,k<J.heap.size->w2.heap[k]?=J.heap[k]?):=qL λk hk=>(Q.block k a9 b6).trans (tv _ _ _ hk);have bS:=qL (jL bR.o (S:=λ_=>False) ⟨Q.os,Q.tape,Q.output,V0 b6 Q.size,λk hk _=>bc.o k hk⟩ (λ_ _ h=>h) (Zp _));clear Q;go_loopg [9] (Maps.size D) (λg x wr=>∃left xs v,wr.ranges xT 38 rV w.heap.size (J.heap.size+1) (a.length+b.length) D left g/\(∀r,r∈xs↔r∈I/\left (kR r)=false)/\(∀r,left (kR r)=true->r∈I) /\
  OwnU (J.heap.size+2) wr v (srt xs)/\Boxed wr J.heap.size 237 v/\Keep (λk=>J.heap.size<=k) w2 wr)
 case atStart=>
  have ab:=bi.o;refine⟨Maps.has D,[],.slice none 0 0,ak,λr=>?_,λr h=>?_,?_,au,Keep.refl _ _⟩
  .rw[(ab.2 r).1];simp
  .rw[(ab.2 r).1]at h;simpa using h
  .rw[XB];exact tS _ _ _ _
 case round=>
  obtain⟨left,xs,v,bM,aV,bF,A,bw,hK⟩:=hrel;obtain⟨wl,cE⟩:∃x,x=wr:=⟨_,rfl⟩;subst cE;have bj:=qL bM;have ao:=qL aV;have aF:=qL bF;have af:=qL A;have aD:=qL bw;have bZ:=qL hK;have bN:(srt xs).length<=2097152:=V0 (zeK _ I (yi xs) λy hy=>((aV y).1 (qr.1 hy)).1) cr;have cJ:w2.heap.size<=wl.heap.size:=hK.size;have cb:qA (∀k,k<J.heap.size->wl.heap[k]?=J.heap[k]?):=qL λk hk=>(hK.block k a8 a8).trans (bc.o k hk);have aW:=qL (jL bS.o hK (λk hk=>a8) (Zp _));have aZ:qA (GL C wl):=qL (bX.o.mono (λ_ _ h=>h) λj o x B V=>(tn (a:=⟨j,o,none⟩) (aW.o.block j (hC j o B))).trans V);clear ak au bM aV bF A bw hK
  go_wp2_with (first
   |(at_next;refine TD _ rfl _ rfl 38 vF rV (λr:{r:Nat // r<zk}=>Value.int .u64 (r.1:Nat)) (λc:Value=>c) zhV (λv y _=>⟨v,rfl⟩) w.heap.size (J.heap.size+1) (a.length+b.length) D left gk rfl bj.o ?_ ?_)
   |go_in)
  ·intro cS bE;have hL:srt xs=srt I:=XA (yi I) λy=>(by rw[qr,ao.o y,bE];simp);have Y:=af.o;rw[hL]at Y bN;have c0:=aD.o.cell;have A:=bj.o.owns;have HO:=qL A;clear A bE hL af ao aF;obtain⟨L,aJ⟩:=xm (srt I);rw[<-aJ]at Y bN;obtain⟨ad,cR,rfl,cI,cq,bz⟩:=Y.shape;unfold maxLen at cq;have bU:=qL bz;have bg:=qL aJ;clear bz aJ Y
   go_wp2_with fail
   go_loopg [10,29] L.length (λg y x wr=>∃k,k<=L.length/\g=L.length-k/\x=.int .i64 k/\OutE C w.heap.size wl.heap.size wr y ((L.take k).filterMap (vE f a b))/\Keep (λk=>wl.heap.size<=k) wl wr)
   case atStart=>exact⟨0,X3 _,rfl,rfl,OutE.start _ _ _ _,Keep.refl _ _⟩
   case round=>
    obtain⟨k,hk,rfl,rfl,ay,br⟩:=hrel;have ac:=qL br;have F:=qL ay;clear br ay;have cK:=ac.o.size;have am:qA (∀j,j<wl.heap.size->wr.heap[j]?=wl.heap[j]?):=qL λj B=>ac.o.block j B a8;have bT:=qL (jL aW.o ac.o (λk hk=>a8) (Zp _));by_cases M:k<L.length
    .obtain⟨g,cn,ct,Z⟩:=bU.o (λe=>by rw[e]at M;simp at M);subst cn;obtain⟨r,hr⟩:=xm (L[k]);have cB:r<zk:=HM.o r (by rw[hr,<-bg.o];exact Yf M);have ck:wr.cell? ⟨g,k,none⟩=some (.int .u64 (r:Nat)):=(by rw[hr];exact(tn (a:=⟨g,k,none⟩) (am.o g ct)).trans (Z k M));obtain⟨s0,s1,aq,aL,aM⟩:=(bi.o.2 r).2;obtain⟨a0,n0,rfl⟩:=zK aL;obtain⟨a1,n1,rfl⟩:=zK aM;have aQ:=Qf (yg HO.o (am.o _ a8)) cB aq;have aR:∀j o x,DL C w.heap.size J j o->J.cell? ⟨j,o,none⟩=some x->wr.cell? ⟨j,o,none⟩=some x:=λj o x B V=>(by have bB:=tq J ⟨j,o,none⟩ V;exact(tn (a:=⟨j,o,none⟩) ((am.o j (vw bB a8)).trans (cb.o j bB))).trans V);have aN:∀j o,DL C w.heap.size J j o->DX C w.heap.size wr u10 j o:=λj o B=>⟨B.imp id λh=>⟨h.1,a8⟩,λe=>by
      have h5:=(F.o.owns j e).1;rcases B with B|B
      .have:=hC j o B;omega
      .omega⟩
     have ag:∀j o,DX C w.heap.size wr u10 j o->j<wr.heap.size:=λj o h=>h.1.elim (λh=>by have:=hC j o h;omega) ub;have aI:GL (DX C w.heap.size wr u10) wr:=aZ.o.mono (λj o h=>⟨.inl h,λe=>by have h5:=(F.o.owns j e).1;have:=hC j o h;omega⟩) λj o x B V=>(tn (a:=⟨j,o,none⟩) (am.o j (by have:=hC j o B;omega))).trans V;have an:=qL ag;have ba:=qL aI;have ae:=qL (jP (cg.o r) aI ag (vs:=#[.slice a0 (zT a r).length n0,.slice a1 (zT b r).length n1]) rfl (λi p H=>by
      match i,H with
      |0,H=>cases H;exact aL.mono aN aR
      |1,H=>cases H;exact aM.mono aN aR
      |i+2,H=>simp at H))
     have bJ:Nrm (qy f (zT a r) (zT b r)):=qH (qi ha.1 r) (qi hb.1 r);have cA:(qy f (zT a r) (zT b r)).length<=80100:=(by have h1:=xR f (zT a r) (zT b r);have h2:=ji (n:=1048576) (h:=10000) ha r;have h3:=ji (n:=1048576) (h:=10000) hb r;omega);have aS:=zjT r (qy f (zT a r) (zT b r)) bJ a8;obtain⟨e,ok,hE⟩:∃e ok,Qi r (qy f (zT a r) (zT b r))=(e,ok):=⟨_,_,rfl⟩;rw[hE]at aS;have aG:=qL aS;have bG:=zac (f:=f) (a:=a) (b:=b) hE;have aU:=KZ (f:=f) (a:=a) (b:=b) M;rw[<-hr,bG]at aU;have bn:=qL aU;have cV:e.holes.length<=1000000:=(by have:=J0 r (qy f (zT a r) (zT b r));rw[hE]at this;simp only at this;omega);have cy:(zT a r).length<=maxLen:=(by have:=ji (n:=1048576) (h:=10000) ha r;unfold maxLen;omega);have cz:(zT b r).length<=maxLen:=(by have:=ji (n:=1048576) (h:=10000) hb r;unfold maxLen;omega);unfold maxLen at cy cz;have i0:=zkr a0 a1 (zT a r).length (zT b r).length n0 n1;have i1:=zks a0 a1 (zT a r).length (zT b r).length n0 n1;obtain⟨ls,bH⟩:=xm (qy f (zT a r) (zT b r));rw[<-bH]at aG ae cA;clear aS hE bG aU aq aL aM aR aN Z ag aI bJ hr bH;have cL:True:=trivial;have cM:True:=trivial;have cN:True:=trivial;cases ok with
     | false=>
       go_wp2_with fail
       refine Ja (t:=35) (f:=op) (xs:=[.tmp 39,.tmp 43]) rfl rfl rfl rfl aw ?_;refine ae.o.mono ?_;rintro e' w3 ⟨v3,rfl,G,U⟩;obtain⟨a3,n3,rfl⟩:=zK U;have E:=qL G;have aE:=qL U;clear G U;dsimp only
       go_wp2_with fail
       refine(jP aG.o (D:=λj o=>DX C w.heap.size wr u10 j o\/(wr.heap.size<=j/\j<w3.heap.size)) (ba.o.mono (λ_ _ h=>.inl h) λj o x B V=>(tn (a:=⟨j,o,none⟩) (E.o.block j (an.o j o B))).trans V) (λj o h=>h.elim (λh=>vw (an.o j o h) E.o.size) ub) rfl (λi p H=>?_)).mono ?_
       .match i,H with
        |0,H=>cases H;exact .v _
        |1,H=>cases H;exact aE.o
        |i+2,H=>simp at H
       rintro e' X ⟨v4,rfl,ah,ai⟩;obtain⟨N,O,rfl,P⟩:=Yk ai;have T:=qL ah;have aY:=qL P;clear ah ai P;dsimp only
       go_wp2_with fail
       go_roundg (L.length-(k+1));case measure=>omega
       case rel=>
        have cj:=E.o.size;have cm:=T.o.size;refine⟨k+1,M,rfl,b6,?_,ac.o.trans (((Keep.of_below' E.o (Zp _)).trans (Keep.of_below' T.o (Zp _))).alloc _)⟩;rw[bn.o];simp only[uD,UZ,Option.toList_none,wZ];exact F.o.keep a9 λj B=>by rw[tv _ _ _ a8,T.o.block j a8,E.o.block j B]
     | true=>
       go_wp2_with fail
       refine Ja (t:=35) (f:=op) (xs:=[.tmp 39,.tmp 43]) rfl rfl rfl rfl aw ?_;refine ae.o.mono ?_;rintro e' w3 ⟨v3,rfl,G,U⟩;obtain⟨a3,n3,rfl⟩:=zK U;have E:=qL G;have aE:=qL U;clear G U;dsimp only
       go_wp2_with fail
       refine(jP aG.o (D:=λj o=>DX C w.heap.size wr u10 j o\/(wr.heap.size<=j/\j<w3.heap.size)) (ba.o.mono (λ_ _ h=>.inl h) λj o x B V=>(tn (a:=⟨j,o,none⟩) (E.o.block j (an.o j o B))).trans V) (λj o h=>h.elim (λh=>vw (an.o j o h) E.o.size) ub) rfl (λi p H=>?_)).mono ?_
       .match i,H with
        |0,H=>cases H;exact .v _
        |1,H=>cases H;exact aE.o
        |i+2,H=>simp at H
       rintro e' X ⟨v4,rfl,ah,ai⟩;obtain⟨N,O,rfl,P⟩:=Yk ai;have T:=qL ah;have aY:=qL P;clear ah ai P;dsimp only
       go_wp2_with fail
       have bO:((X.alloc (.cells #[.int .u64 e.rep,.int .u64 e.max,.slice N e.holes.length O] 109)).alloc (.cells #[.int .u64 e.rep,.int .u64 e.max,.slice N e.holes.length O] 109)).heap.size=X.heap.size+2:=b6;have cj:=E.o.size;have cm:=T.o.size;have aK:∀j,j<wr.heap.size->((X.alloc (.cells #[.int .u64 e.rep,.int .u64 e.max,.slice N e.holes.length O] 109)).alloc (.cells #[.int .u64 e.rep,.int .u64 e.max,.slice N e.holes.length O] 109)).heap[j]?=wr.heap[j]?:=λj B=>(by rw[tv _ _ _ a9,tv _ _ _ a8,T.o.block j a8,E.o.block j B]);obtain⟨cG,aH,bq⟩:=F.o.keep a8 aK;have bI:((X.alloc (.cells #[.int .u64 e.rep,.int .u64 e.max,.slice N e.holes.length O] 109)).alloc (.cells #[.int .u64 e.rep,.int .u64 e.max,.slice N e.holes.length O] 109)).heap[X.heap.size+1]?=some (.cells #[.int .u64 e.rep,.int .u64 e.max,.slice N e.holes.length O] 109 (0,0)):=by
        have:=tp (X.alloc (.cells #[.int .u64 e.rep,.int .u64 e.max,.slice N e.holes.length O] 109)) (.cells #[.int .u64 e.rep,.int .u64 e.max,.slice N e.holes.length O] 109)
        rwa[tw]at this
       have bA:Dat (DX C w.heap.size ((X.alloc (.cells #[.int .u64 e.rep,.int .u64 e.max,.slice N e.holes.length O] 109)).alloc (.cells #[.int .u64 e.rep,.int .u64 e.max,.slice N e.holes.length O] 109)) u10) ((X.alloc (.cells #[.int .u64 e.rep,.int .u64 e.max,.slice N e.holes.length O] 109)).alloc (.cells #[.int .u64 e.rep,.int .u64 e.max,.slice N e.holes.length O] 109)) (.slice N e.holes.length O) (rg e.holes):=by
        refine aY.o.mono (λj o h=>?_) λj o x h V=>?_
        .have bP:wr.heap.size<=j->j<X.heap.size->DX C w.heap.size ((X.alloc (.cells #[.int .u64 e.rep,.int .u64 e.max,.slice N e.holes.length O] 109)).alloc (.cells #[.int .u64 e.rep,.int .u64 e.max,.slice N e.holes.length O] 109)) u10 j o:=λh1 h2=>⟨.inr ⟨a8,a8⟩,λh=>by have:=(F.o.owns j h).2;omega⟩;rcases h with(h|h)|h
         .exact⟨h.1.imp id λh=>⟨h.1,a8⟩,h.2⟩
         .exact bP h.1 a8
         .exact bP a8 h.2
        .have bC:=tq X ⟨j,o,none⟩ V;exact(tn (a:=⟨j,o,none⟩) (by rw[tv _ _ _ (by simp;exact Uq bC),tv _ _ _ bC])).trans V
       have cU:((L.take k).filterMap (vE f a b)).length<=k:=V0 (Ud _ _) a9;obtain⟨ie,cu,cF,cD,co⟩:=tQ zkk;refine Zi _ _ 70 rfl wl.heap.size 109 ie _ 3 40 Tryz.underlying70 cu cF cD co rfl b8 _ _ cG rfl aH ⟨X.heap.size+1,0,none⟩ 1 1 [.int .u64 e.rep,.int .u64 e.max,.slice N e.holes.length O] rfl rfl (λj u B=>by
        rw[zh,wn];exact(zW bI j u (dJ B)).1) (λu hu=>by simp at hu;rcases hu with rfl|rfl|rfl<;>rfl) c8 a8 a8 ?_
       intro v6 w6 bL aP _ ar;have ci:=qL (OutE.push (mb:=w.heap.size) bq aH bA hC a8 bL aP ar);have bW:=qL aP;have cO:=qL aK;have cQ:=qL bO;have cf:=qL (λj (h:u10.ownBlock=some j)=>(F.o.owns j h).1);clear bL aP ar aH bq bA bI aK bO
       go_wp2_with fail
       go_roundg (L.length-(k+1));case measure=>omega
       case rel=>refine⟨k+1,M,rfl,b6,?_,ac.o.trans ((((((Keep.of_below' E.o (Zp _)).trans (Keep.of_below' T.o (Zp _))).alloc _).alloc _).grown bW.o λj B _=>cf.o j B))⟩;rw[bn.o];simp only[UL,Option.toList_some];exact ci.o
    .obtain rfl:k=L.length:=a8
     go_wp2_with fail
     refine tz (tK rfl _ _ _) rfl ?_;have h:=F.o.dat a8;rw[Wp,bg.o,<-bh.o]at h;exact⟨_,rfl,bT.o,h⟩
  .intro x V c kl y ys w3 bp aj aQ hv aq az M aO cX cs;try dsimp only at aj cs⊢
   obtain rfl:kl=kR x:=(by have:=(Zq V).symm.trans aj;simpa using this.symm);have bl:=qL az;have bY:=qL ((bZ.o.grown aO (λk hk _=>by cases hk;omega)));have G:∀k,k≠J.heap.size+1->k<wl.heap.size->w3.heap[k]?=wl.heap[k]?:=λk hk cx=>aO.block k cx (λe=>hk (by cases e;rfl));have E:=qL G;have bu:=aD.o.lt;have bQ:=qL (zaD (C:=C) (base:=J.heap.size+2) (rb:=J.heap.size) (w:=w3) (v:=v) (xs:=xs) x (af.o.keep λg hg=>G g (by have:=(af.o.lt g hg).1;omega) (af.o.lt g hg).2) ((G _ a8 bu).trans aD.o) a8 (λh=>by have:=((ao.o x).1 h).2;rw[aQ]at this;cases this) a8 a8
    (λb o h=>by have:=hC b o h;omega) (aZ.o.mono (λ_ _ h=>h) λj o y B hy=>(tn (a:=⟨j,o,none⟩) (G j (by have:=hC j o B;omega) (by have:=hC j o B;omega))).trans hy))
   clear aj hv aq az aO G;have aC:True:=trivial
   go_wp2_with (first
    |(go_at_call 153;have _t:=aC;refine bQ.o.mono ?_;rintro e X ⟨⟨u,rfl⟩,v',av,bK,bD⟩;have aX:=qL av;have ce:=qL bK;have be:=qL bD;clear av bK bD aC)
    |go_in)
   go_roundg bp;case measure=>exact M
   case rel=>
    have hm:∀k,k<w3.heap.size->k≠J.heap.size->k<J.heap.size+2->X.heap[k]?=w3.heap[k]?:=λk hk h1 h2=>be.o.block k hk a8;refine⟨_,xs++[x],v',yD bl.o (hm _ a8 a8 a8) (hm _ a8 a8 a8),λr=>?_,λr h=>?_,ce.o,aX.o,bY.o.trans (be.o.mono λk _ h=>a8)⟩
    .rw[QM,wE,ao.o r,wI];constructor
     .rintro(⟨h1,h2⟩|rfl)
      .exact⟨h1,.inl h2⟩
      .exact⟨aF.o _ aQ,.inr rfl⟩
     .rintro⟨h1,h2|h2⟩
      .exact .inl ⟨h1,h2⟩
      .exact .inr h2
    .exact aF.o r (by cases h0:left (kR r)with|true=>rfl|false=>rw[h0]at h;simp at h)
def yZ{f:FuncId}{C:List PV}{r:PV}(H:r.own=none)(u:∀j w,(callFunc f j).run xT w=.ok (.enter f j) w)
 (h:∀(D:Qk)(w:World)(y:Array Value),GL D w->(∀b o,D b o->b<w.heap.size)->y.size=C.length->(∀(i:Nat) p,C[i]?=some p->Dat D w (y.getD i undef) p) ->
   Calls xT f y w λe A=>∃v,e=.returned v/\Below w.heap.size w A/\Dat (λb o=>D b o\/(w.heap.size<=b/\b<A.heap.size)) A v r):Cn xT f C r:=by
 refine⟨u,λD w y F E B G=>(h D w y F E B G).mono ?_⟩;rintro e A ⟨v,rfl,hb,I⟩;exact⟨v,_,rfl,hb,λb o h=>.inl h,λb o h=>h.imp id UQ,λb o h=>h.elim (λh=>vw (E b o h) hb.size) ub,I,zr H⟩
def zjx{j:Array Value}(h:j.size=3):j=#[j.getD 0 undef,j.getD 1 undef,j.getD 2 undef]:=by
 obtain⟨l⟩:=j;match l,h with
 |[x,y,z],_=>rfl
def zcA{D:Qk}{w:World}{x:Value}{f:Fn}(h:Dat D w x (.fn f [] [])):x=.func f #[] #[]:=by
 cases h with
 |fn f va vb fs cs h1 h2 _ _=>rw[Ur.1 h1,Ur.1 h2]
def SmV.bd{v:List En}(h:SmV v):∀e∈v,ZL e:=λe j=>Jg (h.1.1 e j)
def zde(a b:List En)(f:Bool->Bool->Bool)(op:FuncId)(A:∀r,Cn xT op [rg (zT a r),rg (zT b r)] (rg (qy f (zT a r) (zT b r))))(ha:SmV a)(hb:SmV b):
 Cn xT 120 [vp a,vp b,.fn (.func op) [] []] (vp (ks f a b)):=by
 refine yZ rfl (enters_of Tryz.func120 dK rfl) λD w E C u B j=>?_;rw[zjx B,zcA (j 2 _ rfl)];refine(zcD D a b _ _ w f op A ha hb (dat_rdf (j 0 _ rfl) u ha.bd) (dat_rdf (j 1 _ rfl) u hb.bd) u C).mono ?_;rintro e F ⟨v,rfl,y,j⟩;exact⟨v,rfl,y,j.mono (λb o h=>h.imp id λh=>⟨a8,h.2⟩) λ_ _ _ _ h=>h⟩
def qS{v:List En}(h:SmV v)(r:Nat):Nrm (zT v r)/\(zT v r).length<=20003:=⟨qi h.1 r,ji (n:=1048576) (h:=10000) h r⟩
def zdc(a b:List En)(ha:SmV a)(hb:SmV b):Cn xT 86 [vp a,vp b] (vp (ks zn a b)):=by
 have h:=zde a b zn 121 (λr=>zaz _ _ (qS ha r).1 (qS hb r).1 (by have:=(qS ha r).2;have:=(qS hb r).2;omega)) ha hb;refine zt Tryz.func86 2 ?_;refine pw ?_
 (first|exact .d (h)|exact .q (h))
def zim{D:Qk}{w:World}{v:Value}{l:List Nat}(h:Dat D w v (ns l)):∃G y,v=.slice G l.length y/\l.length<=y/\y<=maxLen/\(l≠[]->∃b A,G=some ⟨b,A,none⟩/\∀j (J:j<l.length),D b (A+j)/\w.cell? ⟨b,A+j,none⟩=some (.int .u64 (l[j]:Nat))):=by
 unfold ns at h;generalize I:l.map yN=es at h;cases h with
 |sl a y sz es o b A u hc hz hm ha hsz hd hx=>have K:es.length=l.length:=(by rw[<-I];simp);refine⟨a,y,by rw[K],a8,hm,λF=>?_⟩;have B:0<l.length:=wW.2 F;have g:∀i (h:i<l.length),es[i]?=some (yN l[i]):=λi h=>(by rw[<-I];exact xo h);obtain rfl:1=sz:=hsz 0 _ (g 0 B);have E:es≠[]:=(by intro e;subst e;simp at K;omega);refine⟨b,A,ha E,λj J=>?_⟩;have L:=(hx j _ 0 _ (g j J) rfl).v_inv;obtain⟨H,C,_⟩:=hd (j*1+0) a8;rw[L]at C;simp only[Uh,ue]at H C;exact⟨H,C⟩
def ve{P:Program}(w:World)(t y e:TypeId)(i:TypeInfo)(ht:P.underlying t=some (.slice e))(hi:P.info? e=some i)(j:Option Addr)(n cp c:Nat)(u:n<=cp):
 (Builtin.append_ #[t,t] y #[.slice j n cp,.slice none 0 c]).run P w=.ok (.slice j n cp) w:=by
 cases j<;>simp[Builtin.append_,tH ht,sizeOf,typeInfo,hi,Builtin.lenOf,Builtin.firstCells,u,storeCells]
def zbE(w:World)(t N:TypeId)(ht:xT.underlying t=some (.slice 38))(base:Nat)(v:Value)(n:Nat)(O:List Value)(A:w.ownsRow base 38 1 v n O)(H:Option Addr)(m c:Nat)(y:List Value)(Q:y.length=m)
 (C:(m=0/\H=none)\/∃a,H=some a/\∀j u,y[j]?=some u->w.cell? (a.add j)=some u) (V:∀u∈y,u.oneCell'=true) (X:n+m<=17179869184) (B:base<=w.heap.size) :
 ∃E G,(Builtin.append_ #[t,t] N #[v,.slice H m c]).run xT w=.ok E G/\G.ownsRow base 38 1 E (n+m) (O++y)/\w.grownBy G v.ownBlock/\(E.ownBlock=v.ownBlock\/E.ownBlock=some w.heap.size):=by
 obtain⟨S,F,K,L,M⟩:=tQ Vf;rcases C with⟨rfl,rfl⟩|⟨a,rfl,Y⟩
 .obtain rfl:y=[]:=wX.1 Q;obtain⟨I,cp,rfl,J⟩:∃I cp,v=.slice I n cp/\n<=cp:=by
   rcases A.2 with⟨rfl,rfl⟩|⟨g,T,U,rfl,_,_,h,_⟩
   .exact⟨none,0,rfl,Zp _⟩
   .exact⟨_,_,rfl,h⟩
  exact⟨_,w,ve w t N _ S ht F I n cp c J,dJ A,jW _ _,.inl rfl⟩
 .obtain⟨E,G,Z,r2,r3,_,r5⟩:=Ti (P:=xT) w base t N 38 S _ 1 8 ht F K L M rfl b8 v n O A a m c y (dJ Q) Y V c8 a8 B;exact⟨E,G,Z,r2,r3,r5⟩
def xK{G:Array Oper}{o:Oper}{a:Act}{w:World}{K:Act->World->Prop}{Q:Exit->Act->World->Prop}{E:Prop}(s x:Operand)(t:TypeId)(L:o.guard=none)
 (ho:o.op=.call { callee:=.builtin .append,args:=#[s,x],argTypes:=#[t,t] }) (ht:xT.underlying t=some (.slice 38)) (base:Nat) (v:Value) (n:Nat) (M:List Value) (hs:a.eval s=v) (F:w.ownsRow base 38 1 v n M)
 (I:Option Addr) (m c:Nat) (y:List Value) (X:a.eval x=.slice I m c) (T:y.length=m) (B:(m=0/\I=none)\/∃a,I=some a/\∀j u,y[j]?=some u->w.cell? (a.add j)=some u) (N:∀u∈y,u.oneCell'=true) (J:n+m<=17179869184) (A:base<=w.heap.size)
 (h:∀C H,H.ownsRow base 38 1 C (n+m) (M++y)->w.grownBy H v.ownBlock->(C.ownBlock=v.ownBlock\/C.ownBlock=some w.heap.size)->K (a.put o.dst C) H):if Region.wanted o (yielded G a.tmps)=true then Oper.wp xT o a w K Q else E:=by
 have V:Region.wanted o (yielded G a.tmps)=true:=by simp[Region.wanted,L]
 rw[vj V];obtain⟨C,H,U,O,P,S⟩:=zbE w t o.type ht base v n M F I m c y T B N J A;unfold Oper.wp execOp;simp only[ho,resolve,invoke,builtin,tG,tI,tA,ug,Wz,W7,hs,X,U];exact h C H O P S
def zdy{w:World}{base A:Nat}(j:base<=A)(h:w.heap[A]?=some (.cells #[] 38 (0,0))):w.ownsRow base 38 1 (.slice (some ⟨A,0,none⟩) 0 0) 0 []:=⟨rfl,.inr ⟨A,0,#[],rfl,j,h,Zp _,X3 _,rfl,rfl⟩⟩
def yw(w:World)(o j:Obj):((w.alloc o).alloc j).heap[w.heap.size]?=some o:=(tv _ _ _ b6).trans (tp w o)
def yx(w:World)(o j:Obj):((w.alloc o).alloc j).heap[w.heap.size+1]?=some j:=by
 have:=tp (w.alloc o) j
 rwa[tw]at this
def YR(w:World)(o:Obj):Below w.heap.size w (w.drew.alloc o):=⟨rfl,rfl,rfl,b6,λk hk=>tv w.drew _ _ hk⟩
def XM(w:World)(o j:Obj):Below w.heap.size w ((w.drew.alloc o).alloc j):=(YR w o).alloc b6 _
def zbw(C:Qk)(N:List Nat)(x:Nat)(va:Value)(w:World)(hl:(srt N).length<=4194304)(hd:Dat C w va (ns (srt N)))(hC:∀b o,C b o->b<w.heap.size):
 Calls xT 127 #[va,.int .u64 (x:Nat)] w λe w'=>∃v,e=.returned v/\Below w.heap.size w w'/\Dat (λb o=>C b o\/(w.heap.size<=b/\b<w'.heap.size)) w' v (ns (srt (N++[x]))):=by
 obtain⟨l,ac⟩:=xm (srt N);have HD:=qL hd;rw[<-ac]at hl hd;have F:=qL ac;obtain⟨Y,O,rfl,aI,aD,au⟩:=zim hd;have ai:=qL au;clear hd ac au;unfold maxLen at aD;go_enter Tryz.func127,Tryz.ntmps127
 go_wp2_with fail
 go_loopg [5] l.length (λg y wr=>wr=w/\∃k,k<=l.length/\g=l.length-k/\y=.int .i64 k/\∀j,(h:j<l.length)->j<k->l[j]<x)
 case atStart=>exact⟨rfl,0,X3 _,rfl,rfl,λj _ h=>absurd h a8⟩
 case round=>
  obtain⟨rfl,k,hk,rfl,rfl,B⟩:=hrel;have HJ:=qL B;clear B;by_cases S:k<l.length
  .obtain⟨b,G,rfl,H⟩:=ai.o (λe=>by rw[e]at S;simp at S);have ar:=(H k S).2;obtain⟨y,Z⟩:=xm (l[k]);rw[<-Z]at ar;have HY:=qL Z;have aj:=qL H;clear Z H;by_cases h2:y<x
   .go_wp2_with fail
    go_roundg (l.length-(k+1));case measure=>omega
    case rel=>
     refine⟨rfl,k+1,S,rfl,b6,λj aE aJ=>?_⟩;rcases wK j k with h3|h3
     .exact HJ.o j aE h3
     .obtain rfl:j=k:=a8;rw[<-HY.o];exact h2
   .by_cases h3:y=x
    .go_wp2_with fail
     refine tz (tK rfl _ _ _) rfl ?_;have av:x∈srt N:=(by rw[<-F.o,<-h3,HY.o];exact Yf S);rw[zaw av];exact⟨_,rfl,tu _ _,HD.o.mono (λ_ _ h=>.inl h) λ_ _ _ _ h=>h⟩
    .go_wp2_with fail
     have af:xT.follows .mixedOrders=true:=dK;have V:∀u∈(l.take k).map uV,u.oneCell'=true:=QN;have ae:∀u∈(l.drop k).map uV,u.oneCell'=true:=QN;have M:∀u∈[uV x],u.oneCell'=true:=λu hu=>(by simp at hu;subst hu;rfl);have L:∀W:World,Below wr.heap.size wr W->∀j (B:j<l.length),W.cell? ⟨b,G+j,none⟩=some (uV l[j]):=λW hB j B=>(tn (a:=⟨b,G+j,none⟩) (hB.block b (hC _ _ (aj.o j B).1))).trans (aj.o j B).2;have aw:∀W:World,Below wr.heap.size wr W->(k=0/\(some (⟨b,G,none⟩:Addr))=none)\/∃a,some (⟨b,G,none⟩:Addr)=some a/\∀j u,((l.take k).map uV)[j]?=some u->W.cell? (a.add j)=some u:=λW hB=>.inr ⟨_,rfl,λj u h=>by
      rw[wj]at h;obtain⟨y,Z,rfl⟩:=ZZ.1 h;obtain⟨B,rfl⟩:=Zw.1 Z;rw[zh,uW];exact L W hB j (by simp at B;omega)⟩
     have ax:∀W:World,Below wr.heap.size wr W->(l.length-k=0/\(some (⟨b,G+k,none⟩:Addr))=none)\/∃a,some (⟨b,G+k,none⟩:Addr)=some a/\∀j u,((l.drop k).map uV)[j]?=some u->W.cell? (a.add j)=some u:=λW hB=>.inr ⟨_,rfl,λj u h=>by
      rw[wj]at h;obtain⟨y,Z,rfl⟩:=ZZ.1 h;obtain⟨B,rfl⟩:=Zw.1 Z;rw[zh,Us,show G+k+j=G+(k+j) by omega];exact L W hB (k+j) (by simp at B;omega)⟩
     have az:=qL aw;have aA:=qL ax;have ar:¬(O=k):=a8;have aK:k<=O:=a8;have aL:k<=l.length:=a8;have I:∀v w,w.ownsRow wr.heap.size 38 1 v (k+1+(l.length-k)) ((l.take k).map uV++([uV x]++(l.drop k).map uV))->OwnN wr.heap.size w v (srt (N++[x])):=λv w h=>by
      have hi:=kJ (xs:=N) (x:=x) (at_:=k) (by rw[<-F.o];omega) (λj h5 h6=>by
       have h7:l[k]<=(srt N)[j]:=by
        rcases uB h6 with h8|h8
        .subst h8;simp only[F.o];exact Zp _
        .have:=jJ (yi N) h5 h8;simp only[F.o];omega
       have:=HY.o;omega) (by
       rcases Wi k with h5|h5
       .exact .inl h5
       .refine .inr ⟨by rw[<-F.o];omega,?_⟩;have h6:=HJ.o (k-1) a8 a8;simpa only[F.o]using h6)
      rw[hi,<-F.o];unfold OwnN;have e:(l.take k++x::l.drop k).length=k+1+(l.length-k):=a9;rw[e];show w.ownsRow wr.heap.size 38 1 v _ (List.map uV _);rw[WI,Wz];exact h
     have P:=qL I;clear I aw ax L;go_region_law_o (first
      | (refine xK (.tmp 33) (.tmp 36) 133 rfl rfl Tryz.underlying133 wr.heap.size (.slice (some ⟨_,0,none⟩) 0 0) 0 [] rfl (zdy a8 (by first|exact tp _ _|exact tp wr _|exact yw _ _ _|exact yx _ _ _|exact yw wr _ _|exact yx wr _ _)) _ k _ ((l.take k).map uV) rfl dE (az.o _ (by first|exact YR _ _|exact XM _ _ _)) V a8 dE ?_
         intro aF X E A an;have b1:Below wr.heap.size wr X:=by first|exact(YR wr _).grown A dE (λj B=>by simp[Value.ownBlock]at B;omega)|exact(XM wr _ _).grown A dE (λj B=>by simp[Value.ownBlock]at B;omega))
      | (refine xK (.tmp 37) (.tmp 39) 133 rfl rfl Tryz.underlying133 wr.heap.size _ (0+k) ([]++(l.take k).map uV) rfl (by first|exact E|exact E.alloc _) _ 1 _ [uV x] rfl rfl (.inr ⟨_,rfl,vH (vt := 38) (by first|exact tp X _|exact(A.block _ dE dF).trans (yw wr _ _)|exact(A.block _ dE dF).trans (yx wr _ _))⟩) M a8 (by have:=A.size;simp at this⊢<;>omega) ?_
         intro aG ah K J ao;have b2:Below wr.heap.size wr ah:=by first|exact b1.grown J b1.size (λj B=>(E.lt j B).1)|exact(b1.alloc b1.size _).grown J (by have:=b1.size;simp<;>omega) (λj B=>(E.lt j B).1))
      | (refine xK (.tmp 40) (.tmp 43) 133 rfl rfl Tryz.underlying133 wr.heap.size _ (0+k+1) ([]++(l.take k).map uV++[uV x]) rfl K _ (l.length-k) _ ((l.drop k).map uV) rfl dE (aA.o _ b2) ae a8 b2.size ?_
         intro ag aH U Q aq;have b3:=b2.grown Q b2.size λj B=>(K.lt j B).1))
     all_goals (go_wp2;all_goals (refine tz (tK rfl _ _ _) rfl ?_;exact⟨ag,rfl,b3,vL (base:=wr.heap.size) (P.o _ _ (dJ U)) λb o h1 h2=>.inr ⟨h1,h2⟩⟩))
  .obtain rfl:k=l.length:=a8
   go_wp2_with fail
   have af:xT.follows .mixedOrders=true:=dK;obtain⟨ak,ab,am⟩:∃ak ab,(ak,ab)=(if O=l.length then Y else Option.map (λx=>x.add l.length) Y,O-l.length):=⟨_,_,rfl⟩;have aM:l.length+1<=17179869184:=a8;have V:∀u∈l.map uV,u.oneCell'=true:=QN;have M:∀u∈[uV x],u.oneCell'=true:=λu hu=>(by simp at hu;subst hu;rfl);have ay:∀W:World,Below wr.heap.size wr W->(l.length=0/\Y=none)\/∃a,Y=some a/\∀j u,(l.map uV)[j]?=some u->W.cell? (a.add j)=some u:=λW hB=>by
    by_cases h0:l=[]
    .subst h0;cases Y with
     |none=>exact .inl ⟨rfl,rfl⟩
     |some a=>exact .inr ⟨a,rfl,λj u h=>by simp at h⟩
    .obtain⟨b,G,rfl,hc⟩:=ai.o h0;refine .inr ⟨_,rfl,λj u h=>?_⟩;rw[wj]at h;obtain⟨y,Z,rfl⟩:=ZZ.1 h;obtain⟨B,rfl⟩:=Zw.1 Z;rw[zh];exact(tn (a:=⟨b,G+j,none⟩) (hB.block b (hC _ _ (hc j B).1))).trans (hc j B).2
   have T:(0=0/\(if O=l.length then Y else Option.map (λx=>x.add l.length) Y)=none)\/∃a,(if O=l.length then Y else Option.map (λx=>x.add l.length) Y)=some a:=by
    cases Y<;>simp;split<;>simp
   have aB:=qL ay;have aC:=qL T;clear ay T am;have I:∀v w,w.ownsRow wr.heap.size 38 1 v (l.length+1) (l.map uV++[uV x])->OwnN wr.heap.size w v (srt (N++[x])):=λv w h=>by
    have hi:=kJ (xs:=N) (x:=x) (at_:=(srt N).length) (Zp _) (λj h1 h2=>a8) (by
     rcases Wi (srt N).length with h5|h5
     .exact .inl h5
     .refine .inr ⟨a8,?_⟩;have h6:=HJ.o ((srt N).length-1) (by rw[F.o];omega) (by rw[F.o];omega);simpa only[F.o]using h6)
    rw[hi,<-F.o,Wp,uL];unfold OwnN;rw[wk,uS];show w.ownsRow wr.heap.size 38 1 v _ (List.map uV _);rw[WI];exact h
   have P:=qL I;clear I;go_region_law_o (first
    | (refine xK (.tmp 33) (.tmp 36) 133 rfl rfl Tryz.underlying133 wr.heap.size (.slice (some ⟨_,0,none⟩) 0 0) 0 [] rfl (zdy a8 (by first|exact tp _ _|exact tp wr _|exact yw _ _ _|exact yx _ _ _|exact yw wr _ _|exact yx wr _ _)) _ l.length _ (l.map uV) rfl dE (aB.o _ (by first|exact YR _ _|exact XM _ _ _)) V a8 dE ?_
       intro aF X E A an;have b1:Below wr.heap.size wr X:=by first|exact(YR wr _).grown A dE (λj B=>by simp[Value.ownBlock]at B;omega)|exact(XM wr _ _).grown A dE (λj B=>by simp[Value.ownBlock]at B;omega))
    | (refine xK (.tmp 37) (.tmp 39) 133 rfl rfl Tryz.underlying133 wr.heap.size _ (0+l.length) ([]++l.map uV) rfl (by first|exact E|exact E.alloc _) _ 1 _ [uV x] rfl rfl (.inr ⟨_,rfl,vH (vt := 38) (by first|exact tp X _|exact(A.block _ dE dF).trans (yw wr _ _)|exact(A.block _ dE dF).trans (yx wr _ _))⟩) M a8 (by have:=A.size;simp at this⊢<;>omega) ?_
       intro aG ah K J ao;have b2:Below wr.heap.size wr ah:=by first|exact b1.grown J b1.size (λj B=>(E.lt j B).1)|exact(b1.alloc b1.size _).grown J (by have:=b1.size;simp<;>omega) (λj B=>(E.lt j B).1))
    | (refine xK (.tmp 40) (.tmp 43) 133 rfl rfl Tryz.underlying133 wr.heap.size _ (0+l.length+1) ([]++l.map uV++[uV x]) rfl K _ 0 _ ([]) rfl dE (by rcases aC.o with h|⟨a,h⟩;exact .inl h;exact .inr ⟨a,h,λj u B=>by simp at B⟩) b6 a8 b2.size ?_
       intro ag aH U Q aq;have b3:=b2.grown Q b2.size λj B=>(K.lt j B).1))
   all_goals (go_wp2;all_goals (refine tz (tK rfl _ _ _) rfl ?_;exact⟨ag,rfl,b3,vL (base:=wr.heap.size) (P.o _ _ (dJ U)) λb o h1 h2=>.inr ⟨h1,h2⟩⟩))
end
section
open Go.RowKit Go.Sort
def OwnU.base{base j:Nat}{w:World}{v:Value}{l:List Nat}(h:OwnU base w v l)(hb:j<=base):OwnU j w v l:=by
 refine⟨h.1,?_⟩;rcases h.2 with h|⟨g,u,y,e,A,r⟩
 .exact .inl h
 .exact .inr ⟨g,u,y,e,V0 hb A,r⟩
def zeb{w:World}{base:Nat}{v:Value}{l:List Nat}(h:OwnU base w v l)(U:l≠[])(hl:l.length<4611686018427387904):∃X,X.Perm l/\X.Pairwise (·<=·) /\
 Calls xT 102 #[v] w λe Y=>e=.returned (.tuple #[])/\OwnU base Y v X/\w.grownBy Y v.ownBlock:=by
 obtain⟨F,hzs⟩:∃F:List Int,F=l.map λx:Nat=>(x:Int):=⟨_,rfl⟩;have K:F.length=l.length:=by rw[hzs];simp
 obtain⟨A,J⟩:∃A:List Int,A=F.mergeSort λx y=>decide (x<=y):=⟨_,rfl⟩;have u:A.Perm F:=by rw[J];exact List.mergeSort_perm _ _
 have H:A.Pairwise (λx y=>x<=y):=by
  have:=List.pairwise_mergeSort (le:=fun(x y:Int)=>decide (x<=y)) (λa b c Z Q=>by simp at *;omega) (λa b=>a9) F;rw[<-J]at this;exact this.imp λh=>dJ h
 have E:∀z∈A,∃x:Nat,x∈l/\z=(x:Int):=λz hz=>by have:=u.mem_iff.1 hz;rw[hzs,wC]at this;obtain⟨x,V,rfl⟩:=this;exact⟨x,V,rfl⟩
 have T:(A.map Int.toNat).map (λx:Nat=>(x:Int))=A:=by rw[u0];refine(UI (g:=id) λz hz=>?_).trans (List.map_id _);obtain⟨x,_,rfl⟩:=E z hz;simp
 refine⟨A.map Int.toNat,?_,?_,?_⟩
 .have:=u.map Int.toNat
  rw[hzs,u0]at this
  rwa[show l.map (Int.toNat∘λx:Nat=>(x:Int))=l from (UI (g:=id) λ_ _=>rfl).trans (List.map_id _)]at this
 .rw[uv];exact H.imp λh=>a8
 .rcases h.cases with⟨_,h0⟩|⟨g,L,B,rfl,Z,Q,S,h4,h5,h6,h7⟩
  .exact absurd h0 U
  .have hH:Holds zg w g 0 F.toArray:=(by intro j M;have N:j<l.length:=(by rw[<-K];simpa using M);refine⟨?_,by simp[World.frozen?,S]⟩;have q:(B.toList.take l.length)[j]?=(l.map uV)[j]?:=(by rw[h7]);rw[UX N]at q;simp only[World.cell?,S,wn];simp only[Option.isSome_none,uD,UZ];rw[<-uR,q];simp[N,hzs,uV]);have hc:=j7 g 0 L F w hH Q a8;rw[K]at hc;refine hc.mono ?_;rintro e Y ⟨rfl,n,os,rfl⟩;rw[<-J];have C:A.length=l.length:=(by rw[u.length_eq,K]);have G:(Sort.grow (Sort.putRow zg (Sort.ahead w n) g 0 A.toArray) os).heap[g]?=some (.cells (Sort.putCells zg 0 A.toArray B) 38 (0,0)):=(by rw[Sort.heap_grow_old _ _ (dJ Q)];simp[Sort.putRow,Sort.mapBlock,Sort.ahead,U9,S,Sort.onCells]);have I:(Sort.putCells zg 0 A.toArray B).toList.take l.length=(A.map Int.toNat).map uV:=by
    apply Un;intro j;by_cases M:j<l.length
    .rw[UX M,uR];have O:j<A.length:=a8;obtain⟨x,_,V⟩:=E A[j] (Yf O);simp[Sort.putCells,O,show j<B.size by omega,uV,V]
    .rw[List.getElem?_take_eq_none a8,WW a9]
   refine⟨rfl,⟨by simp[C],.inr ⟨g,L,_,by simp[C],Z,G,by simpa[C]using h4,h5,by simp[Sort.putCells,h6],?_⟩⟩,⟨rfl,rfl,rfl,b6,λj M P=>?_⟩⟩
   .rw[wu,Uh,C];exact I
   .rw[Sort.heap_grow_old _ _ (dJ M)];have:g≠j:=λe=>P (by rw[<-e];rfl);simp[Sort.putRow,Sort.mapBlock,Sort.ahead,U9,this]
end
end Go.Proofs.YtbhngpjkakcgfaaGreatDoor
