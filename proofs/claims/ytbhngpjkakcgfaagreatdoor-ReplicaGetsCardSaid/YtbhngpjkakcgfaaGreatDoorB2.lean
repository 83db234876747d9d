import Derived.RangeFuncNested
import Derived.RangeFuncBound
import Derived.RangeFuncCalls
import Derived.RangeFuncLeaves
import Derived.Shelf.Abstract
import Derived.Shelf.RegionOpen
import Derived.WalkKit
import Derived.OwnWalkIn
import Derived.TacticsInMore
import Derived.LoopNIn
import Derived.LoopIn
import Derived.Maps.AppendAt
import Derived.Lib.Hide
import Derived.Test.YtbhngpjkakcgfaaGreatDoorB0
set_option linter.all false
namespace Go.Proofs.YtbhngpjkakcgfaaGreatDoor
def tn:=@Go.World.cell?_of_block
def tp:=@Go.World.alloc_heap_new
def tq:=@Go.World.block_lt_of_cell?
def tv:=@Go.RowKit.Below.heap_alloc
def tw:=@Go.World.size_alloc
def tx:=@Go.RowKit.Below.heap_setCell
def tP:=@Go.World.putObj_heap_other
def To:=@Go.World.putObj_heap_same
def TE:=@Go.World.frozen?_of_block
def T3:=@Go.run_endLoop
section
def zk:Nat:=18446744073709551616
def zw:zk=18446744073709551616:=rfl
def xM:0<zk:=by rw[zw];omega
structure Iv where
 lo:Nat
 hi:Nat
deriving DecidableEq
def Iv.ext'{s t:Iv}(j:s.lo=t.lo)(u:s.hi=t.hi):s=t:=by cases s;cases t;simp_all
def mem(l:List Iv)(x:Nat):Bool:=l.any λs=>decide (s.lo<=x) && decide (x<=s.hi)
@[simp] theorem Xf (x:Nat):mem [] x=false:=rfl
def mem_cons(s:Iv)(l:List Iv)(x:Nat):mem (s::l) x=((decide (s.lo<=x) && decide (x<=s.hi)) || mem l x):=rfl
def yd(l k:List Iv)(x:Nat):mem (l++k) x=(mem l x || mem k x):=by simp[mem,UE]
def qf{l:List Iv}{x:Nat}:mem l x=true↔∃s∈l,s.lo<=x/\x<=s.hi:=by simp[mem]
def NF:Nat->List Iv->Prop
 |_,[]=>True
 |n,s::l=>n<=s.lo/\s.lo<=s.hi/\s.hi<zk/\NF (s.hi+2) l
def Nrm(l:List Iv):Prop:=NF 0 l
def NF.mono{l:List Iv}{n m:Nat}(h:NF n l)(j:m<=n):NF m l:=by
 cases l with
 |nil=>trivial
 |cons s l=>exact⟨V0 j h.1,h.2.1,h.2.2.1,h.2.2.2⟩
def NF.tail{s:Iv}{l:List Iv}{n:Nat}(h:NF n (s::l)):NF n l:=h.2.2.2.mono (by have:=h.1;have:=h.2.1;omega)
def NF.lo_ge{l:List Iv}:∀{n:Nat},NF n l->∀s∈l,n<=s.lo/\s.lo<=s.hi/\s.hi<zk:=by
 induction l with
 |nil=>intro n _ s hs;cases hs
 | cons t l ih=>
   intro n h s hs;cases hs with
   |head=>exact⟨h.1,h.2.1,h.2.2.1⟩
   |tail _ hs=>have:=ih h.2.2.2 s hs;have:=h.1;have:=h.2.1;exact⟨a8,a8,a8⟩
def NF.mem_ge{l:List Iv}{n:Nat}(h:NF n l){x:Nat}(j:mem l x=true):n<=x/\x<zk:=by obtain⟨s,hs,u,w⟩:=qf.1 j;have:=h.lo_ge s hs;omega
def NF.mem_lt{l:List Iv}{n:Nat}(h:NF n l){x:Nat}(j:x<n):mem l x=false:=by
 cases e:mem l x with
 |false=>rfl
 |true=>have:=(h.mem_ge e).1;omega
def NF.unique:∀{a b:List Iv}{n:Nat},NF n a->NF n b->(∀x,mem a x=mem b x)->a=b
 |[],[],_,_,_,_=>rfl
 |[],s::l,_,_,hb,h=>by have:=h s.lo;have j:=hb.2.1;simp[mem_cons,j]at this
 |s::l,[],_,ha,_,h=>by have:=h s.lo;have j:=ha.2.1;simp[mem_cons,j]at this
 | s::l,t::k,n,ha,hb,h=>by
   have I:=ha.2.1;have J:=hb.2.1;have C:s.lo=t.lo:=by
    have j:=h s.lo;have H:=h t.lo;rw[mem_cons,mem_cons]at j H;have e1:mem l t.lo=true->s.hi+2<=t.lo:=λe=>(ha.2.2.2.mem_ge e).1;have e2:mem k s.lo=true->t.hi+2<=s.lo:=λe=>(hb.2.2.2.mem_ge e).1;cases c1:mem l t.lo<;>cases c2:mem k s.lo<;>simp_all<;>omega
   have B:s.hi=t.hi:=by
    rcases WK s.hi t.hi with L|A|K
    .exfalso;have j:=h (s.hi+1);have G:s.lo<=s.hi+1:=a8;have u:¬s.hi+1<=s.hi:=a8;have w:t.lo<=s.hi+1:=a8;have y:s.hi+1<=t.hi:=a8;rw[mem_cons,mem_cons,ha.2.2.2.mem_lt (show s.hi+1<s.hi+2 by omega)]at j;simp[u,w,y]at j
    .exact A
    .exfalso;have j:=h (t.hi+1);have G:t.lo<=t.hi+1:=a8;have u:¬t.hi+1<=t.hi:=a8;have w:s.lo<=t.hi+1:=a8;have y:t.hi+1<=s.hi:=a8;rw[mem_cons,mem_cons,hb.2.2.2.mem_lt (show t.hi+1<t.hi+2 by omega)]at j;simp[u,w,y]at j
   have E:s=t:=Iv.ext' C B;subst E;have:l=k:=NF.unique (n:=s.hi+2) ha.2.2.2 hb.2.2.2 λx=>by
    by_cases F:x<s.hi+2
    .rw[ha.2.2.2.mem_lt F,hb.2.2.2.mem_lt F]
    .have:=h x;rw[mem_cons,mem_cons]at this;have M:¬x<=s.hi:=a8;simpa[M]using this
   rw[this]
def Nrm.unique{a b:List Iv}(j:Nrm a)(hb:Nrm b)(h:∀x,x<zk->mem a x=mem b x):a=b:=
 NF.unique j hb λx=>by
  by_cases u:x<zk
  .exact h x u
  .have:∀{l},Nrm l->mem l x=false:=λ{l} hl=>by
    cases e:mem l x with
    |false=>rfl
    |true=>have:=(NF.mem_ge hl e).2;omega
   rw[this j,this hb]
def ye:List Iv->Nat->Option Nat
 |[],_=>none
 |s::l,x=>if x<s.lo then some s.lo else if s.hi+1<zk/\x<s.hi+1 then some (s.hi+1) else ye l x
def kv:Option Nat->Option Nat->Option Nat
 |none,b=>b
 |some x,none=>some x
 |some x,some y=>if y<x then some y else some x
def xr{l:List Iv}{x y:Nat}(h:ye l x=some y):x<y:=by
 induction l with
 |nil=>cases h
 | cons s l ih=>
   unfold ye at h;split at h
   .cases h;assumption
   .split at h
    .cases h;omega
    .exact ih h
def vJ{l:List Iv}{n x y:Nat}(j:NF n l)(h:ye l x=some y):y<zk:=by
 induction l generalizing n with
 |nil=>cases h
 | cons s l ih=>
   have u:=j.2.1;have w:=j.2.2.1;unfold ye at h;split at h
   .cases h;omega
   .split at h
    .cases h;omega
    .exact ih j.2.2.2 h
def xB{l:List Iv}{n x y z:Nat}(j:NF n l)(h:ye l x=some y)(E:x<=z)(B:z<y):mem l z=mem l x:=by
 induction l generalizing n with
 |nil=>cases h
 | cons s l ih=>
   have u:=j.2.1;unfold ye at h;split at h
   .rename_i hlt;cases h;rw[(j.2.2.2.mono (m:=s.lo) a8 |> λk:NF s.lo l=>(show NF s.lo (s::l) from ⟨Zp _,u,j.2.2.1,j.2.2.2⟩)).mem_lt B,
     (show NF s.lo (s::l) from ⟨Zp _,u,j.2.2.1,j.2.2.2⟩).mem_lt hlt]
   .split at h
    .rename_i hn hc;cases h;have e1:mem l z=false:=j.2.2.2.mem_lt a8;have e2:mem l x=false:=j.2.2.2.mem_lt a8;rw[mem_cons,mem_cons,e1,e2];have:(s.lo<=z)=True:=a9;have:(s.lo<=x)=True:=a9;have:(z<=s.hi)=True:=a9;have:(x<=s.hi)=True:=a9;simp[*]
    .rename_i hn hc;rw[mem_cons,mem_cons,ih j.2.2.2 h];have C:=j.2.2.1;by_cases F:s.hi+1<zk
     .have w:¬x<=s.hi:=a8;have A:¬z<=s.hi:=a8;simp[w,A]
     .exfalso;have:l=[]:=by
       cases l with
       |nil=>rfl
       |cons t l=>have:=j.2.2.2.1;have:=j.2.2.2.2.1;have:=j.2.2.2.2.2.1;omega
      subst this;cases h
def kx{l:List Iv}{n x z:Nat}(j:NF n l)(h:ye l x=none)(A:x<=z)(B:z<zk):mem l z=mem l x:=by
 induction l generalizing n with
 |nil=>rfl
 | cons s l ih=>
   have y:=j.2.2.1;unfold ye at h;split at h
   .cases h
   .split at h
    .cases h
    .rename_i hn hc;rw[mem_cons,mem_cons,ih j.2.2.2 h];by_cases C:s.hi+1<zk
     .have u:¬x<=s.hi:=a8;have w:¬z<=s.hi:=a8;simp[u,w]
     .have:(s.lo<=z)=True:=a9;have:(s.lo<=x)=True:=a9;have:(z<=s.hi)=True:=a9;have:(x<=s.hi)=True:=a9;simp[*]
def zdt{s:Iv}{l:List Iv}{x:Nat}(h:s.hi<x)(j:s.lo<=s.hi):ye (s::l) x=ye l x:=by
 conv=>lhs;unfold ye
 rw[Vm a8,Vm a8]
def QU(a b:List Iv):Nat->Nat->List (Iv×Bool×Bool)
 |0,_=>[]
 | f+1,x=>
   match kv (ye a x) (ye b x)with
   |none=>[(⟨x,zk-1⟩,mem a x,mem b x)]
   |some y=>(⟨x,y-1⟩,mem a x,mem b x)::QU a b f y
def yO(a b:List Iv):List (Iv×Bool×Bool):=QU a b zk 0
def Cov(a b:List Iv):Nat->List (Iv×Bool×Bool)->Prop
 |x,[]=>x=zk
 |x,(s,p,q)::r=>s.lo=x/\x<=s.hi/\s.hi<zk/\(∀z,x<=z->z<=s.hi->mem a z=p/\mem b z=q)/\Cov a b (s.hi+1) r
def zbl{a b:Option Nat}(h:kv a b=none):a=none/\b=none:=by
 cases a<;>cases b<;>simp[kv]at h⊢;split at h<;>cases h
def zf0{a b:List Iv}(w:Nrm a)(hb:Nrm b):∀(f x:Nat),x<zk->zk<=f+x->Cov a b x (QU a b f x):=by
 intro f;induction f with
 |zero=>intro x B C;omega
 | succ f ih=>
   intro x B C;unfold QU;cases hm:kv (ye a x) (ye b x)with
   | none=>
     obtain⟨F,G⟩:=zbl hm;refine⟨rfl,?_,?_,?_,?_⟩
     .show x<=zk-1;omega
     .show zk-1<zk;omega
     .intro z j z2;have A:z<zk:=(by have:z<=zk-1:=z2;omega);exact⟨kx w F j A,kx hb G j A⟩
     .show zk-1+1=zk;omega
   | some y=>
     have E:x<y/\y<zk/\∀z,x<=z->z<y->mem a z=mem a x/\mem b z=mem b x:=by
      cases ea:ye a x with
      |none=>rw[ea]at hm;have eb:ye b x=some y:=hm;refine⟨xr eb,vJ hb eb,λz j z2=>⟨kx w ea j (by have:=vJ hb eb;omega),xB hb eb j z2⟩⟩
      | some u=>
        cases eb:ye b x with
        |none=>rw[ea,eb]at hm;simp only[kv]at hm;cases hm;exact⟨xr ea,vJ w ea,λz j z2=>⟨xB w ea j z2,kx hb eb j (by have:=vJ w ea;omega)⟩⟩
        | some v=>
          rw[ea,eb]at hm;simp only[kv]at hm;split at hm
          .cases hm;exact⟨xr eb,vJ hb eb,λz j z2=>⟨xB w ea j a8,xB hb eb j z2⟩⟩
          .cases hm;exact⟨xr ea,vJ w ea,λz j z2=>⟨xB w ea j z2,xB hb eb j a8⟩⟩
     obtain⟨J,H,I⟩:=E;refine⟨rfl,?_,?_,?_,?_⟩
     .show x<=y-1;omega
     .show y-1<zk;omega
     .intro z j z2;have:z<=y-1:=z2;exact I z j a8
     .show Cov a b (y-1+1) _;rw[show y-1+1=y from by omega];exact ih y H a8
def j4{a b:List Iv}(j:Nrm a)(hb:Nrm b):Cov a b 0 (yO a b):=zf0 j hb zk 0 xM a8
def Q8(j:List Iv)(s:Iv):List Iv:=
 match j.getLast? with
 |none=>[s]
 |some t=>if t.hi+1=s.lo then j.dropLast++[⟨t.lo,s.hi⟩] else j++[s]
def qg(f:Bool->Bool->Bool)(j:List Iv):List (Iv×Bool×Bool)->List Iv
 |[]=>j
 |(s,p,q)::r=>qg f (if f p q then Q8 j s else j) r
def qy(f:Bool->Bool->Bool)(a b:List Iv):List Iv:=qg f [] (yO a b)
def yf(f:Bool->Bool->Bool)(j:List Iv)(u w:List (Iv×Bool×Bool)):qg f j (u++w)=qg f (qg f j u) w:=by
 induction u generalizing j with
 |nil=>rfl
 |cons x u ih=>obtain⟨s,p,q⟩:=x;simp only[yb,qg];exact ih _
def NF.snoc{l:List Iv}{s:Iv}{n:Nat}(h:NF n l)(j:∀t∈l,t.hi+2<=s.lo)(A:n<=s.lo)(w:s.lo<=s.hi)(y:s.hi<zk):NF n (l++[s]):=by
 induction l generalizing n with
 |nil=>exact⟨A,w,y,trivial⟩
 |cons t l ih=>exact⟨h.1,h.2.1,h.2.2.1,ih h.2.2.2 (λu B=>j u (by simp[B])) (j t b6)⟩
def NF.last_lt{l:List Iv}{t:Iv}:∀{n:Nat},NF n (l++[t])->∀u∈l,u.hi+2<=t.lo:=by
 induction l with
 |nil=>intro n _ u j;cases j
 | cons s l ih=>
   intro n h u j;cases j with
   |head=>exact(h.2.2.2.lo_ge t b6).1
   |tail _ j=>exact ih h.2.2.2 u j
def NF.init{l:List Iv}{t:Iv}:∀{n:Nat},NF n (l++[t])->NF n l:=by
 induction l with
 |nil=>intro n _;trivial
 |cons s l ih=>intro n h;exact⟨h.1,h.2.1,h.2.2.1,ih h.2.2.2⟩
def Xm{w:List Iv}{s:Iv}(h:Nrm w)(hs:∀t∈w,t.hi<s.lo)(A:s.lo<=s.hi)(y:s.hi<zk):
 Nrm (Q8 w s)/\(∀x,mem (Q8 w s) x=(mem w x || (decide (s.lo<=x) && decide (x<=s.hi))))/\∀t∈Q8 w s,t.hi<=s.hi:=by
 rcases Ut w with rfl|⟨l,t,rfl⟩
 .refine⟨⟨X3 _,A,y,trivial⟩,λx=>by simp[Q8,mem_cons],λt ht=>?_⟩;simp[Q8]at ht;subst ht;exact Zp _
 .simp only[Uu]at *;have ht:=NF.lo_ge h t b6;have B:=hs t b6;unfold Q8;simp only[uX,tb];by_cases e:t.hi+1=s.lo
  .rw[vj e];refine⟨NF.snoc (NF.init h) (λu j=>by have:=NF.last_lt h u j;show u.hi+2<=t.lo;omega) (X3 _) (by show t.lo<=s.hi;omega) y,λx=>?_,λu j=>?_⟩
   .rw[yd,yd,mem_cons,mem_cons,UC];congr 1;simp only[Xf,Bool.or_false];rw[WC];simp;omega
   .simp at j;rcases j with j|rfl
    .have:=NF.last_lt h u j;omega
    .exact Zp _
  .rw[Vm e];refine⟨NF.snoc h (λu j=>?_) (X3 _) A y,λx=>by rw[yd,mem_cons];simp,λu j=>?_⟩
   .simp at j;rcases j with j|rfl
    .have:=NF.last_lt h u j;omega
    .omega
   .simp at j;rcases j with j|rfl|rfl
    .have:=NF.last_lt h u j;omega
    .omega
    .exact Zp _
def Zt{f:Bool->Bool->Bool}{a b:List Iv}:∀(u:List (Iv×Bool×Bool))(x:Nat)(j:List Iv),Cov a b x u->Nrm j->(∀t∈j,t.hi<x) ->
 Nrm (qg f j u)/\∀z,z<zk->mem (qg f j u) z=if z<x then mem j z else f (mem a z) (mem b z):=by
 intro u;induction u with
 |nil=>intro x j B h _;refine⟨h,λz hz=>?_⟩;have:x=zk:=B;rw[vj a8];rfl
 | cons y u ih=>
   intro x j B h E;obtain⟨s,p,q⟩:=y;obtain⟨L,S,M,A,I⟩:=B;have F:∀t∈j,t.hi<s.lo:=(by rw[L];exact E);have C:∀z,x<=z->mem j z=false:=λz hz=>by
    cases e:mem j z with
    |false=>rfl
    |true=>obtain⟨t,ht,_,N⟩:=qf.1 e;have:=E t ht;omega
   simp only[qg];by_cases e:f p q=true
   .rw[vj e];obtain⟨O,P,Q⟩:=Xm h F a8 M;obtain⟨G,H⟩:=ih (s.hi+1) _ I O (λt ht=>by have:=Q t ht;omega);refine⟨G,λz hz=>?_⟩;rw[H z hz,P z];by_cases w:z<x
    .rw[vj a8,vj w];have:¬s.lo<=z:=a8;simp[this]
    .rw[Vm w];by_cases z2:z<s.hi+1
     .rw[vj z2,(A z a8 a8).1,(A z a8 a8).2,e];have J:s.lo<=z:=a8;have K:z<=s.hi:=a8;simp[J,K]
     .rw[Vm z2]
   .rw[Vm e];obtain⟨G,H⟩:=ih (s.hi+1) _ I h (λt ht=>by have:=E t ht;omega);refine⟨G,λz hz=>?_⟩;rw[H z hz];by_cases w:z<x
    .rw[vj a8,vj w]
    .rw[Vm w];by_cases z2:z<s.hi+1
     .rw[vj z2,(A z a8 a8).1,(A z a8 a8).2];rw[C z a8];simpa using e
     .rw[Vm z2]
def qH{f:Bool->Bool->Bool}{a b:List Iv}(j:Nrm a)(hb:Nrm b):Nrm (qy f a b):=(Zt (f:=f) _ 0 [] (j4 j hb) trivial (λ_ h=>by cases h)).1
def qj{f:Bool->Bool->Bool}{a b:List Iv}(j:Nrm a)(hb:Nrm b){x:Nat}(u:x<zk):mem (qy f a b) x=f (mem a x) (mem b x):=by
 have:=(Zt (f:=f) _ 0 [] (j4 j hb) trivial (λ_ h=>by cases h)).2 x u
 rwa[Vm a8]at this
def vK{f:Bool->Bool->Bool}{a b c:List Iv}(j:Nrm a)(hb:Nrm b)(w:Nrm c)(h:∀x,x<zk->mem c x=f (mem a x) (mem b x)):qy f a b=c:=
 Nrm.unique (qH j hb) w λx u=>by rw[qj j hb u,h x u]
def YN(l:List Nat):Prop:=l.Pairwise (· < ·)
def jK:∀{a b:List Nat},YN a->YN b->(∀x,x∈a↔x∈b)->a=b
 |[],[],_,_,_=>rfl
 |[],y::b,_,_,h=>absurd ((h y).2 b6) b6
 |x::a,[],_,_,h=>absurd ((h x).1 b6) b6
 | x::a,y::b,ha,hb,h=>by
   have j:=wi.1 ha;have u:=wi.1 hb;have B:x=y:=by
    have w:=(h x).1 b6;have A:=(h y).2 b6;simp at w A;rcases w with w|w
    .exact w
    .rcases A with A|A
     .exact A.symm
     .have:=u.1 x w;have:=j.1 y A;omega
   subst B;congr 1;refine jK j.2 u.2 λz=>?_;have:=h z;simp at this;constructor
   .intro hz;rcases this.1 (.inr hz)with e|e
    .have:=j.1 z hz;omega
    .exact e
   .intro hz;rcases this.2 (.inr hz)with e|e
    .have:=u.1 z hz;omega
    .exact e
def Y6:∀u:List Nat,∃r,YN r/\∀y,y∈r↔y∈u
 |[]=>⟨[],List.Pairwise.nil,λ_=>U1⟩
 | x::u=>by
   obtain⟨r,w,A⟩:=Y6 u;refine⟨r.filter (·<x)++x::r.filter (x < ·),?_,λy=>?_⟩
   .refine uY.2 ⟨w.filter _,wi.2 ⟨λy j=>by simpa using (WB.1 j).2,w.filter _⟩,λy j z hz=>?_⟩;have:=(WB.1 j).2;simp at this hz;rcases hz with rfl|hz<;>omega
   .simp only[wE,WB,wh,A,wG];by_cases e:y=x
    .simp[e]
    .rcases wK y x with h|h
     .simp[h,e];omega
     .have:x<y:=a8;simp[this,e];omega
noncomputable def srt (j:List Nat):List Nat:=Classical.choose (Y6 j)
def yi(j:List Nat):YN (srt j):=(Uv (Y6 j)).1
def qr{j:List Nat}{y:Nat}:y∈srt j↔y∈j:=(Uv (Y6 j)).2 y
def XA{j r:List Nat}(h:YN r)(u:∀y,y∈r↔y∈j):srt j=r:=jK (yi j) h λy=>by rw[qr,u]
def XB:srt []=[]:=XA List.Pairwise.nil λ_=>U1
def jJ{l:List Nat}(h:YN l){i j:Nat}(u:j<l.length)(hi:i<j):l[i]<l[j]:=wQ.1 h i j a8 u hi
def kJ{xs:List Nat}{x at_:Nat}(F:at_<=(srt xs).length)(E:∀k (h:k<(srt xs).length),at_<=k->x<(srt xs)[k])(A:at_=0\/∃h:at_-1<(srt xs).length,(srt xs)[at_-1]<x):
 srt (xs++[x])=(srt xs).take at_++x::(srt xs).drop at_:=by
 have B:=yi xs;have w:∀y∈(srt xs).take at_,y<x:=λy j=>by
  obtain⟨i,hi,rfl⟩:=Wk j;simp at hi⊢;rcases A with A|⟨h,A⟩
  .omega
  .rcases wK i (at_-1)with C|C
   .have:=jJ B h C;omega
   .have:i=at_-1:=a8;subst this;exact A
 have u:∀y∈(srt xs).drop at_,x<y:=λy j=>by obtain⟨i,hi,rfl⟩:=Wk j;simp at hi⊢;exact E _ a8 a8
 refine XA (uY.2 ⟨B.sublist (List.take_sublist _ _),wi.2 ⟨λy j=>u y j,B.sublist (List.drop_sublist _ _)⟩,λy j z hz=>?_⟩) λy=>?_
 .simp at hz;rcases hz with rfl|hz
  .exact w y j
  .exact UJ (w y j) (u z hz)
 .have:y∈(srt xs).take at_++(srt xs).drop at_↔y∈xs:=(by rw[Wc];exact qr);simp only[wE,wh,List.not_mem_nil,or_false]at this⊢;constructor
  .rintro(h|h|h)
   .exact .inl (this.1 (.inl h))
   .exact .inr h
   .exact .inl (this.1 (.inr h))
  .rintro(h|h)
   .rcases this.2 h with h|h
    .exact .inl h
    .exact .inr (.inr h)
   .exact .inr (.inl h)
def zaw{j:List Nat}{x:Nat}(h:x∈srt j):srt (j++[x])=srt j:=XA (yi j) λy=>by rw[qr]at *;simp;intro e;subst e;exact h
def ju(j:List Nat):(srt j).length<=j.length:=by
 have w:∀(r j:List Nat),YN r->(∀y∈r,y∈j)->r.length<=j.length:=by
  intro r;induction r with
  |nil=>intro j _ _;exact X3 _
  | cons x r ih=>
    intro j h B;have A:=wi.1 h;have:=ih (j.erase x) A.2 λy u=>by have E:=A.1 y u;exact(WY a8).2 (B y (by simp[u]))
    have C:x∈j:=B x b6;rw[WG C]at this;have:=uh C;simp;omega
 exact w _ _ (yi j) λy u=>qr.1 u
def jQ(s:Iv):List Nat:=s.lo::if s.hi<zk-1 then [s.hi+1] else []
def z6(l:List Iv):List Nat:=l.flatMap jQ
def yU(j:List (List Iv)):List Nat:=0::j.flatMap z6
noncomputable def zH (j:List (List Iv)):List Nat:=srt (yU j)
def zcy(s:Iv):(jQ s).length<=2:=by unfold jQ;split<;>simp
def vq(l:List Iv):(z6 l).length<=2*l.length:=by
 induction l with
 |nil=>simp[z6]
 |cons s l ih=>have:=zcy s;simp only[z6,Wg,wk,wy]at ih⊢;omega
def zaU{l:List Iv}{k:Nat}(h:k<l.length):z6 (l.take (k+1))=z6 (l.take k)++jQ l[k]:=by unfold z6;rw[X4 h,Wl];simp only[Wg,Uw,wZ]
def Qh{l:List Iv}(u:∀s∈l,s.lo<=s.hi/\s.hi<zk){x y:Nat}(B:x<=y)(E:y<zk)(j:∀c∈z6 l,c<=x\/y<c):mem l y=mem l x:=by
 induction l with
 |nil=>rfl
 | cons s l ih=>
   have hs:=u s b6;rw[mem_cons,mem_cons,ih (λt ht=>u t (by simp[ht])) λc h=>j c (by simp[z6]at h⊢;exact .inr h)];congr 1;have C:=j s.lo (by simp[z6,jQ]);have w:s.hi<zk-1->s.hi+1<=x\/y<s.hi+1:=λh=>j (s.hi+1) (by simp[z6,jQ,h]);rw[WC];simp only[Vq,wG];by_cases A:s.hi<zk-1
   .have:=w A;omega
   .omega
def Qj:Nat->Bool->Bool->Bool
 |0,a,b=>a || b
 |1,a,b=>a && b
 |_,a,b=>a && !b
def KD(st:List Nat)(i:Nat):Nat:=if h:i<st.length then st[i] else zk
structure DoInv(f:Bool->Bool->Bool)(a b:List Iv)(st:List Nat)(i:Nat)(out:List Iv):Prop where
 nrm:Nrm out
 lt:∀t∈out,t.hi<KD st i
 mm:∀x,x<KD st i->mem out x=f (mem a x) (mem b x)
 len:out.length<=i
def zgd(j:List Iv)(s:Iv):(Q8 j s).length<=j.length+1:=by
 unfold Q8;split
 .simp
 .split<;>simp<;>omega
def DoInv.step{f:Bool->Bool->Bool}{a b:List Iv}{st:List Nat}{i:Nat}{w:List Iv}(h:DoInv f a b st i w)(H:Nrm a)(hb:Nrm b)(hs:YN st)(B:∀x∈st,x<zk)(E:∀c,c∈z6 a\/c∈z6 b->c∈st)(hi:i<st.length):
 (f (mem a st[i]) (mem b st[i])=true->DoInv f a b st (i+1) (Q8 w ⟨st[i],if h:i+1<st.length then st[i+1]-1 else zk-1⟩))/\(f (mem a st[i]) (mem b st[i])=false->DoInv f a b st (i+1) w):=by
 have G:KD st i=st[i]:=uj hi;have P:=zw;have J:st[i]<zk:=B _ (Yf _);have e1:(if h:i+1<st.length then st[i+1]-1 else zk-1)+1=KD st (i+1)/\st[i]<KD st (i+1)/\KD st (i+1)<=zk:=by
  unfold KD;split
  .rename_i h;have:=jJ hs h (UY i);have:=B _ (Yf h);omega
  .omega
 obtain⟨e1,e2,O⟩:=e1;have hcut:∀x,st[i]<=x->x<KD st (i+1)->∀c∈st,c<=st[i]\/x<c:=λx A y c E=>by
  obtain⟨j,I,rfl⟩:=Wk E;rcases WK j i with h|h|h
  .have:=jJ hs hi h;omega
  .subst h;omega
  .right;unfold KD at y;split at y
   .rcases uB (show i+1<=j from h)with u|u
    .subst u;exact y
    .have:=jJ hs I u;omega
   .omega
 have ra:∀s∈a,s.lo<=s.hi/\s.hi<zk:=λs hs=>by have:=NF.lo_ge H s hs;omega
 have rb:∀s∈b,s.lo<=s.hi/\s.hi<zk:=λs hs=>by have:=NF.lo_ge hb s hs;omega
 have same:∀x,st[i]<=x->x<KD st (i+1)->mem a x=mem a st[i]/\mem b x=mem b st[i]:=λx A y=>
  ⟨Qh ra A a8 λc h=>hcut x A y c (E c (.inl h)),Qh rb A a8 λc h=>hcut x A y c (E c (.inr h))⟩
 constructor
 .intro F;obtain⟨L,M,N⟩:=Xm (s:=⟨st[i],if h:i+1<st.length then st[i+1]-1 else zk-1⟩) h.nrm (λt ht=>by have:=h.lt t ht;rw[G]at this;exact this) (by show st[i]<=(if h:i+1<st.length then st[i+1]-1 else zk-1);omega) (by show (if h:i+1<st.length then st[i+1]-1 else zk-1)<zk;omega);refine⟨L,λt ht=>by have:=N t ht;show t.hi<_;simp only at this;omega,λx C=>?_,V0 (zgd _ _) (by have:=h.len;omega)⟩;rw[M x];simp only;rcases wK x st[i]with u|u
  .rw[h.mm x a8];have:¬st[i]<=x:=a8;simp[this]
  .rw[(same x u C).1,(same x u C).2,F];have:x<=(if h:i+1<st.length then st[i+1]-1 else zk-1):=a8;simp[u,this]
 .intro F;refine⟨h.nrm,λt ht=>by have:=h.lt t ht;omega,λx C=>?_,by have:=h.len;omega⟩;rcases wK x st[i]with u|u
  .exact h.mm x a8
  .rw[(same x u C).1,(same x u C).2,F];cases e:mem w x with
   |false=>rfl
   |true=>obtain⟨t,ht,_,K⟩:=qf.1 e;have:=h.lt t ht;omega
def DoInv.done{f:Bool->Bool->Bool}{a b:List Iv}{st:List Nat}{j:List Iv}(h:DoInv f a b st st.length j)(u:Nrm a)(hb:Nrm b):j=qy f a b:=
 (vK u hb h.nrm λx w=>h.mm x (by unfold KD;rw[UK a8];exact w)).symm
def x8(j:List (List Iv)):YN (zH j):=yi _
def VY(j:List (List Iv)):∃h:0<(zH j).length,(zH j)[0]=0:=by
 have u:0∈zH j:=qr.2 (by simp[yU]);obtain⟨i,hi,e⟩:=Wk u;refine⟨a8,?_⟩;rcases Wi i with h|h
 .subst h;exact e
 .have:=jJ (x8 j) hi h;omega
def Ze{u:List (List Iv)}(h:∀l∈u,∀s∈l,s.lo<zk):∀x∈zH u,x<zk:=λx y=>by
 have:=qr.1 y;simp only[yU,wh,uk,z6,jQ]at this;rcases this with rfl|⟨l,w,s,hs,j⟩
 .exact xM
 .rcases j with rfl|j
  .exact h l w s hs
  .split at j
   .simp at j;omega
   .cases j
def DoInv.zero{f:Bool->Bool->Bool}{a b:List Iv}(j:List (List Iv)):DoInv f a b (zH j) 0 []:=by
 obtain⟨h,e⟩:=VY j;have:KD (zH j) 0=0:=by unfold KD;rw[uj h,e]
 exact⟨trivial,(λ_ h=>by cases h),λx u=>a8,Zp _⟩
def kA(u:List (List Iv))(i j:Nat):List Nat:=0::((u.take i).flatMap z6++z6 ((u[i]?.getD []).take j))
def zf6(j:List (List Iv)):kA j 0 0=[0]:=by simp[kA,z6]
def XW(a b:List Iv):z6 (a++b)=z6 a++z6 b:=by simp[z6]
def zbv{u:List (List Iv)}{i j:Nat}(h:i<u.length)(w:u[i].length<=j):kA u i j=kA u (i+1) 0:=by unfold kA;rw[Zv h,WQ,wm w,X4 h,Wl];simp[z6]
def YF{u:List (List Iv)}{i j:Nat}(h:i<u.length)(w:j<u[i].length):kA u i (j+1)=kA u i j++jQ u[i][j]:=by unfold kA;rw[Zv h,WQ,zaU w];simp
def zdJ{j:List (List Iv)}{i:Nat}(h:j.length<=i):kA j i 0=yU j:=by unfold kA yU;rw[wm h];simp[z6]
def zdK{u:List (List Iv)}{i:Nat}(j:Nat)(h:i<u.length):(kA u i j).length<=(yU u).length:=by
 have e:u.flatMap z6=(u.take i).flatMap z6++(z6 (u[i].take j)++z6 (u[i].drop j)++(u.drop (i+1)).flatMap z6):=by
  rw[<-XW,Wc]
  conv=>lhs;rw[<-Wc i u,vD h,Wl,Wg]
 unfold kA yU;rw[e,Zv h,WQ];simp
end
section
open Go.RowKit
structure Keep(S:Nat->Prop)(A B:World):Prop where
 os:B.os=A.os
 tape:B.tape=A.tape
 output:B.output=A.output
 size:A.heap.size<=B.heap.size
 block:∀k,k<A.heap.size->¬S k->B.heap[k]?=A.heap[k]?
namespace Keep
variable {S S':Nat->Prop}{A B C:World}
def refl(S:Nat->Prop)(A:World):Keep S A A:=⟨rfl,rfl,rfl,Zp _,λ_ _ _=>rfl⟩
def trans(h:Keep S A B)(k:Keep S B C):Keep S A C:=
 ⟨k.os.trans h.os,k.tape.trans h.tape,k.output.trans h.output,V0 h.size k.size,λi hi hs=>(k.block i (vw hi h.size) hs).trans (h.block i hi hs)⟩
def mono(h:Keep S A B)(hs:∀k,k<A.heap.size->S k->S' k):Keep S' A B:=⟨h.os,h.tape,h.output,h.size,λi hi j=>h.block i hi λe=>j (hs i hi e)⟩
def drew(h:Keep S A B):Keep S A B.drew:=⟨h.os,h.tape,h.output,h.size,h.block⟩
def alloc(h:Keep S A B)(o:Obj):Keep S A (B.alloc o):=
 h.trans ⟨rfl,rfl,rfl,b6,λk hk _=>tv _ _ _ hk⟩
def setCell(h:Keep S A B){p:Addr}(j:p.block<A.heap.size->S p.block)(u:Value):Keep S A (B.setCell p u):=
 ⟨h.os,h.tape,h.output,by show A.heap.size<=(B.heap.modify _ _).size;rw[Array.size_modify];exact h.size,λk hk hs=>(tx _ _ _ _ (λe=>hs (by rw[e];exact j (by rw[<-e];exact hk)))).trans (h.block k hk hs)⟩
def putObj(h:Keep S A B){l:Nat}(j:l<A.heap.size->S l)(o:Obj):Keep S A (B.putObj l o):=
 ⟨h.os,h.tape,h.output,dJ h.size,λk hk hs=>(tP (λe=>hs (by rw[e];exact j (by rw[<-e];exact hk)))).trans (h.block k hk hs)⟩
def grown{u:Option Nat}(h:Keep S A B)(j:B.grownBy C u)(w:∀k,u=some k->k<A.heap.size->S k):Keep S A C:=
 ⟨j.os.trans h.os,j.tape.trans h.tape,j.output.trans h.output,V0 h.size j.size,λk hk hs=>(j.block k (vw hk h.size) (λe=>hs (w k e.symm hk))).trans (h.block k hk hs)⟩
def below{n:Nat}(h:Keep S A B)(j:n<=A.heap.size)(hs:∀k,k<n->¬S k):Below n A B:=
 ⟨h.os,h.tape,h.output,h.size,λk hk=>h.block k a8 (hs k hk)⟩
def of_below'{n:Nat}(h:Below n A B)(j:A.heap.size<=n):Keep S A B:=⟨h.os,h.tape,h.output,h.size,λk hk _=>h.block k a8⟩
def cell(h:Keep S A B){p:Addr}(j:p.block<A.heap.size)(hs:¬S p.block):B.cell? p=A.cell? p:=tn (h.block _ j hs)
def frozen(h:Keep S A B){p:Addr}(j:p.block<A.heap.size)(hs:¬S p.block):B.frozen? p=A.frozen? p:=TE (h.block _ j hs)
def cell_some(h:Keep S A B){p:Addr}{v:Value}(j:A.cell? p=some v)(hs:¬S p.block):B.cell? p=some v:=(h.cell (tq A p j) hs).trans j
def boxed(h:Keep S A B){b:Nat}{t:TypeId}{v:Value}(j:Boxed A b t v)(hs:¬S b):Boxed B b t v:=(h.block b j.lt hs).trans j
def obj(h:Keep S A B){b:Nat}{o:Obj}(j:A.heap[b]?=some o)(hs:¬S b):B.heap[b]?=some o:=(h.block b (XE.1 j).1 hs).trans j
def ownsRow(h:Keep S A B){base:Nat}{e:TypeId}{size:Nat}{v:Value}{n:Nat}{C:List Value}(y:A.ownsRow base e size v n C)(hs:∀g,v.ownBlock=some g->¬S g):B.ownsRow base e size v n C:=by
 refine⟨y.1,?_⟩;rcases y.2 with E|⟨g,j,u,rfl,hb,w,rest⟩
 .exact .inl E
 .exact .inr ⟨g,j,u,rfl,hb,h.obj w (hs g rfl),rest⟩
end Keep
def zbY{α:Type}(P:Program)(F:Nat)(G:Array Value)(u:α->Array Value)(T E:Nat->Prop)(C:List α)(W:World):Prop:=
 ∀(l:Nat)(J w:List α->World->Prop),
  (∀pre A B,J pre A->Keep T A B->J pre B)->(∀pre A B,w pre A->Keep T A B->w pre B) ->
  (∀pre x y,J pre y->pre++[x] <+: C->YieldAt Fence.wide 7 P l (u x) y λe j=>
    (e=.returned (.bool true)/\J (pre++[x]) j/\Keep (λk=>¬E k) y j)\/(e=.returned (.bool false)/\w (pre++[x]) j)) ->
  J [] W ->
  CallsIn Fence.wide 8 P F (#[.func (.yield l) #[] #[]]++G) W λe j=>(∃v,e=.returned v)/\(J C j\/∃pre,pre <+: C/\w pre j)
def ziO{α:Type}(Sb:Nat->Prop)(I:List α->World->Prop)(u:Code->List α->World->Prop)(j:List α)(W:World):Exit->Act->World->Prop
 |.normal,_,W'=>Keep Sb W W'/\I j W'
 |.ret,_,W'=>Keep Sb W W'/\u .ret j W'
 |.exit id,_,W'=>Keep Sb W W'/\u (.exit id) j W'
 |.goto t,_,W'=>Keep Sb W W'/\u (.goto t) j W'
 |.panic _,_,_=>False
 |.outgrown,_,_=>False
def ziP{α:Type}{P:Program}{g:Operand}{ps:Array Tmp}{assign body:Code}{Q:Exit->Act->World->Prop}{a:Act}{w:World}
 (gf:Nat) (lb:Array Value) (hg:a.eval g=.func (.func gf) #[] lb) (eg:∀ad w,(callFunc gf ad).run P w=.ok (.enter gf ad) w)
 (K:α->Array Value) (aF:∀x,(K x).size=ps.size) (T Pr:Nat->Prop) (xs:List α)
 (aC:∀W,Keep (λ_=>False) w W->W.heap.size=w.heap.size+2->zbY P gf lb K T Pr xs W)
 (Sb:Nat->Prop) (M:∀k,Sb k->¬Pr k/\k≠w.heap.size/\k≠w.heap.size+1)
 (ae:¬Pr (w.heap.size+1)) (ab:¬T w.heap.size/\¬T (w.heap.size+1))
 (I:List α->World->Prop) (Ix:Code->List α->World->Prop)
 (hI:∀pre A B,I pre A->Keep (λk=>T k\/k=w.heap.size\/k=w.heap.size+1) A B->I pre B)
 (S:∀c pre A B,Ix c pre A->Keep (λk=>T k\/k=w.heap.size\/k=w.heap.size+1) A B->Ix c pre B)
 (h0:I [] w)
 (Ax:List α->α->Act->World->Prop)
 (ar:∀pre x a' A B,Ax pre x a' A->Keep (λk=>k=w.heap.size+1) A B->Ax pre x a' B)
 (V:∀l pre x W,pre++[x] <+: xs->w.heap.size+1<W.heap.size->I pre W ->
   assign.wpIn (Fence.wide.inRound l) 7 P (Exit.then (λa' W'=>Keep Sb W W'/\Ax pre x a' W') (λ_ _ _=>False)) { tmps:=(ps.zip (K x)).foldl (λt (p,v)=>t.setIfInBounds p v) a.tmps,defers:=[] } W)
 (ag:∀l pre x a' W,pre++[x] <+: xs->w.heap.size+1<W.heap.size->Ax pre x a' W->body.wpIn (Fence.wide.inRound l) 7 P (ziO Sb I Ix (pre++[x]) W) a' W)
 (ah:∀W,I xs W->W.heap[w.heap.size]?=some (.deferred (some []))->Q .normal { a with defers:={ target:=.collected w.heap.size,args:=#[] }::a.defers } W)
 (ak:∀c pre W,pre <+: xs->Ix c pre W->W.heap[w.heap.size]?=some (.deferred (some []))->c.wpIn Fence.wide 9 P Q { a with defers:={ target:=.collected w.heap.size,args:=#[] }::a.defers } W) :
 (Code.rangeFunc g ps assign body).wpIn Fence.wide 9 P Q a w:=by
 refine wpIn_rangeFunc ?_;intro fn aB;rw[show Fence.wide.round=none from rfl];obtain⟨y,j⟩:∃y:LoopState->Option Code->Loop,y=λst pe=>{ state:=st,pending:=pe,fn,tmps:=a.tmps,params:=ps,assign,body,defers:=w.heap.size }:=⟨_,rfl⟩;obtain⟨N,U⟩:=xt ((w.alloc (.deferred (some []))).alloc (.loop (y .ready none)));have aw:N.heap[w.heap.size+1]?=some (.loop (y .ready none)):=by
  rw[<-U];have:=tp (w.alloc (.deferred (some []))) (.loop (y .ready none));rwa[tw]at this
 have av:N.heap[w.heap.size]?=some (.deferred (some [])):=by rw[<-U];exact(tv _ _ _ b6).trans (tp w _)
 have am:Keep (λ_=>False) w N:=by rw[<-U];exact((Keep.refl _ _).alloc _).alloc _
 have aG:N.heap.size=w.heap.size+2:=by rw[<-U];simp
 have au:I [] N:=hI _ _ _ h0 (am.mono λ_ _ h=>h.elim);refine⟨w.heap.size+1,[{ target:=.collected w.heap.size,args:=#[] }],N,{ target:=.fn (.func gf) lb,args:=#[.func (.yield (w.heap.size+1)) #[] #[]] },N,gf,
  #[.func (.yield (w.heap.size+1)) #[] #[]]++lb,N,?_,?_,?_,?_,λ_=>a8,?_⟩
 .rw[<-U,j];exact run_enterLoop_outer _ _ _ _ _
 .simp only[resolve,hg];simp[go_sem]
 .intro f' _;trivial
 .simp[invoke,go_sem,eg]
 .refine(aC N am aG (w.heap.size+1)
   (λpre W=>I pre W/\W.heap[w.heap.size+1]?=some (.loop (y .ready none))/\W.heap[w.heap.size]?=some (.deferred (some [])))
   (λpre W=>∃c,Ix c pre W/\W.heap[w.heap.size+1]?=some (.loop (y .done (some c)))/\W.heap[w.heap.size]?=some (.deferred (some [])))
   ?_ ?_ ?_ ⟨au,aw,av⟩).mono ?_
  .rintro pre A B ⟨hi,Y,hk⟩ h;exact⟨hI _ _ _ hi (h.mono λ_ _ e=>.inl e),h.obj Y ab.2,h.obj hk ab.1⟩
  .rintro pre A B ⟨c,hi,Y,hk⟩ h;exact⟨c,S _ _ _ _ hi (h.mono λ_ _ e=>.inl e),h.obj Y ab.2,h.obj hk ab.1⟩
  .rintro pre x W ⟨hi,Y,hk⟩ aq;have aE:w.heap.size+1<W.heap.size:=(XE.1 Y).1;have hy:=run_yield (P:=P) (args:=K x) Y (by rw[j];exact aF x);rw[j]at hy;refine⟨fn,_,assign,body,hy,roundIn_of_wpIn aB (wpIn_mono (V _ pre x W aq aE hi) ?_)⟩;intro e a1 Wa he;cases e with
   | normal=>
     obtain⟨ai,ax⟩:=he;have an:Wa.heap[w.heap.size+1]?=some (.loop (y .ready none)):=ai.obj Y λh=>(M _ h).2.2 rfl;have aA:Wa.heap[w.heap.size]?=some (.deferred (some [])):=ai.obj hk λh=>(M _ h).2.1 rfl;have af:w.heap.size+1<Wa.heap.size:=(XE.1 an).1;refine⟨_,run_beginRound an (by rw[j]),?_⟩;obtain⟨Z,ac⟩:=xt (Wa.putObj (w.heap.size+1) (.loop { y .ready none with state:=.busy }));rw[ac];have X:Keep (λk=>k=w.heap.size+1) Wa Z:=(by rw[<-ac];exact(Keep.refl (λk=>k=w.heap.size+1) Wa).putObj (λ_=>rfl) _);have aD:Z.heap[w.heap.size+1]?=some (.loop { y .ready none with state:=.busy }):=(by rw[<-ac];exact To af);have ay:Z.heap[w.heap.size]?=some (.deferred (some [])):=X.obj aA a8;refine wpIn_mono (ag _ pre x a1 Z aq (by rw[<-ac];simpa using af) (ar _ _ _ _ _ ax X)) ?_;have fin:∀(C:Option Code)(O:World),Keep Sb Z O->∃W4,
      (Instr.endRound (w.heap.size+1) C).run P O=.ok (.bool C.isNone) W4 /\
      W4.heap[w.heap.size+1]?=some (.loop (y (if C.isNone then .ready else .done) C)) /\
      W4.heap[w.heap.size]?=some (.deferred (some []))/\Keep (λk=>k=w.heap.size+1) O W4/\Keep (λk=>¬Pr k) W W4:=λC O u=>by
      have aj:=u.obj aD λh=>(M _ h).2.2 rfl;have az:=u.obj ay λh=>(M _ h).2.1 rfl;have E:=run_endRound (P:=P) C aj;rw[j]at E aj⊢;refine⟨_,E,To (XE.1 aj).1,(tP a8).trans az,(Keep.refl (λk=>k=w.heap.size+1) O).putObj (λ_=>rfl) _,?_⟩;have e1:Keep (λk=>¬Pr k) W Wa:=ai.mono λk _ h=>(M k h).1;have e2:Keep (λk=>¬Pr k) Wa Z:=X.mono λk _ h=>(by cases h;exact ae);have e3:Keep (λk=>¬Pr k) Z O:=u.mono λk _ h=>(M k h).1;exact(((e1.trans e2).trans e3)).putObj (λ_=>ae) _
     rintro e a3 O hp;cases e with
     |normal=>obtain⟨u,G⟩:=hp;obtain⟨W4,E,J,F,H,L⟩:=fin none O u;exact⟨_,_,E,.inl ⟨rfl,⟨hI _ _ _ G (H.mono λ_ _ e=>.inr (.inr e)),J,F⟩,L⟩⟩
     |ret=>obtain⟨u,G⟩:=hp;obtain⟨W4,E,J,F,H,L⟩:=fin (some .ret) O u;exact⟨_,_,E,.inr ⟨rfl,.ret,S _ _ _ _ G (H.mono λ_ _ e=>.inr (.inr e)),J,F⟩⟩
     |exit id=>obtain⟨u,G⟩:=hp;obtain⟨W4,E,J,F,H,L⟩:=fin (some (.exit id)) O u;exact⟨_,_,E,.inr ⟨rfl,.exit id,S _ _ _ _ G (H.mono λ_ _ e=>.inr (.inr e)),J,F⟩⟩
     |goto t=>obtain⟨u,G⟩:=hp;obtain⟨W4,E,J,F,H,L⟩:=fin (some (.goto t)) O u;exact⟨_,_,E,.inr ⟨rfl,.goto t,S _ _ _ _ G (H.mono λ_ _ e=>.inr (.inr e)),J,F⟩⟩
     |panic ch=>exact hp.elim
     |outgrown=>exact hp.elim
   |ret=>exact he.elim
   |exit id=>exact he.elim
   |goto t=>exact he.elim
   |panic ch=>exact he.elim
   |outgrown=>exact he.elim
  .rintro e Z ⟨⟨v,rfl⟩,(⟨hi,Y,hk⟩|⟨pre,ao,c,hi,Y,hk⟩)⟩
   .have E:=T3 (P:=P) Y (by rw[j];simp);refine⟨none,_,by rw[j]at E;exact E,ah _ (hI _ _ _ hi ((Keep.refl _ _).putObj (λ_=>.inr (.inr rfl)) _)) ((tP a8).trans hk)⟩
   .have E:=T3 (P:=P) Y (by rw[j];simp);refine⟨some c,_,by rw[j]at E;exact E,ak c pre _ ao (S _ _ _ _ hi ((Keep.refl _ _).putObj (λ_=>.inr (.inr rfl)) _)) ((tP a8).trans hk)⟩
end
section
open Go.RowKit
abbrev VP:=Value->World->Prop
abbrev qe:Nat->Prop:=λ_=>False
def zJ(ops:Array Oper)(j:Nat):Option Tmp:=(ops[j]?).bind (·.dst)
def edge(ops:Array Oper)(i j:Nat):Bool:=match ops[i]? with|some o=>o.after.any λe=>Region.binds .any e && e.on == j|none=>false
def zA(o:Oper):List Tmp:=o.op.operands.toList.filterMap λ| .tmp t=>some t|_=>none
def RdEq(a:Act)(t:Tmp)(u:Value):Prop:=a.eval (.tmp t)=u/\a.tmps.getD t undef=u/\a.tmps[t]?.getD undef=u
def RdEq.of{a:Act}{t:Tmp}{u:Value}(h:a.tmps.getD t undef=u):RdEq a t u:=⟨h,h,by rw[<-h];simp⟩
def XG(ops:Array Oper)(nh:Nat)(t:Tmp):Option Nat:=(List.range nh).find? λj=>zJ ops j == some t
def yB(ops:Array Oper)(nh i:Nat)(t:Tmp):Bool:=
 match XG ops nh t with
 |some j=>if j<i then edge ops i j else if i<j then edge ops j i else true
 |none=>true
def xk(ops:Array Oper)(nh u:Nat):Bool:=
 decide (nh<=ops.size) &&
 (List.range nh).all λi=>
   match ops[i]? with
   |none=>false
   | some o=>((zA o).all (yB ops nh i)) &&
     (match o.guard with|none=>true|some (j,_)=>decide (j<i) && edge ops i j && (zJ ops j).isSome) &&
     (match o.dst with|none=>true|some d=>decide (d<u) && (List.range nh).all λj=>decide (j=i) || !(zJ ops j == some d)) &&
     (decide (nh=ops.size) || (List.range (nh+1)).any λj=>decide (i<j) && edge ops j i)
def yK(ops:Array Oper)(nh:Nat):Bool:=(List.range ops.size).all λt=>(decide (t<=nh) || edge ops t (t-1)) && match ops[t]? with|some o=>o.after.all λe=>!Region.binds .any e || decide (e.on<t)|none=>false
section
variable {ops:Array Oper}{nh:Nat}
def Z1{i j:Nat}{o:Oper}(ho:ops[i]?=some o):edge ops i j=true↔∃e∈o.after,Region.binds .any e=true/\e.on=j:=by
 unfold edge;simp only[ho];rw[Array.any_eq_true'];constructor
 .rintro⟨e,u,hb⟩;simp only[Vq,tk]at hb;exact⟨e,u,hb.1,hb.2⟩
 .rintro⟨e,u,hb,rfl⟩;exact⟨e,u,by simp[hb]⟩
def zx{j:Array Bool}{i:Nat}(h:j.getD i true=false):j.getD i false=false/\i<j.size:=by
 rcases wK i j.size with u|u
 .simp[u]at h⊢;exact h
 .simp[W6 u]at h
def zfm{j:Array Bool}{i:Nat}(h:j.getD i false=false)(hi:i<j.size):j.getD i true=false:=by simp[hi]at h⊢;exact h
def zl{j:Array Bool}{i:Nat}(hi:i<j.size):(j.setIfInBounds i true).getD i false=true:=by simp[hi]
def zj{u:Array Bool}{i j:Nat}(h:j≠i):(u.setIfInBounds i true).getD j false=u.getD j false:=by simp[ui (Uk h)]
def yh{a:Act}{d:Tmp}{u:Value}(h:d<a.tmps.size):(a.put (some d) u).tmps.getD d undef=u:=by simp[Act.put,h]
def qn{a:Act}{d t:Tmp}{u:Value}(h:t≠d):(a.put (some d) u).tmps.getD t undef=a.tmps.getD t undef:=by simp[Act.put,ui (Uk h)]
def chk_at{C i:Nat}(h:xk ops nh C=true)(hi:i<nh):∃o,ops[i]?=some o/\(∀t∈zA o,yB ops nh i t=true) /\
 (∀j b,o.guard=some (j,b)->j<i/\edge ops i j=true/\(zJ ops j).isSome)/\(∀d,o.dst=some d->d<C/\∀j,j<nh->zJ ops j=some d->j=i) /\
 (nh=ops.size\/∃j,j<=nh/\i<j/\edge ops j i=true):=by
 unfold xk at h;simp only[Vq,wL,WN]at h;have h:=h.2 i hi;cases ho:ops[i]? with
 |none=>simp[ho]at h
 | some o=>
   simp only[ho,Vq,wL,WO,wG,Ux,WN]at h;obtain⟨⟨⟨E,u⟩,w⟩,y⟩:=h;refine⟨o,rfl,E,?_,?_,?_⟩
   .intro j b I;simp only[I,Vq,wG]at u;exact⟨u.1.1,u.1.2,u.2⟩
   .intro d H;simp only[H,Vq,wG,wL,WN,WO,Wn,W9]at w;exact⟨w.1,λj B e=>(w.2 j B).resolve_right λA=>A e⟩
   .rcases y with y|⟨j,B,F,G⟩
    .exact .inl y
    .exact .inr ⟨j,a8,F,G⟩
def xf{t:Tmp}{j:Nat}(h:XG ops nh t=some j):j<nh/\zJ ops j=some t:=by have u:=List.find?_some h;have w:=uE h;simp at u w;exact⟨w,u⟩
def jw{t:Tmp}{j:Nat}(w:j<nh)(h:zJ ops j=some t):∃u,XG ops nh t=some u:=by
 cases hw:XG ops nh t with
 |some u=>exact⟨u,rfl⟩
 |none=>have:=Ug.1 hw j (dJ w);simp[h]at this
def Act.ext'{a b:Act}(hs:a.tmps.size=b.tmps.size)(u:a.defers=b.defers)(h:∀t,t<b.tmps.size->a.tmps.getD t undef=b.tmps.getD t undef):a=b:=by
 obtain⟨y,B⟩:=a;obtain⟨A,db⟩:=b;simp only at hs u h;subst u;have:y=A:=Array.ext hs λi w j=>by have:=h i j;simpa[w,j]using this
 rw[this]
def yS{j:Nat}{d:Tmp}{tmps:Array Value}(u:zJ ops j=some d)(hs:d<tmps.size):yielded ops tmps j=match tmps.getD d undef with|.bool b=>some b|_=>none:=by
 unfold yielded;unfold zJ at u;rw[u];simp only[Option.bind_some,We hs,ww,WQ];split<;>simp_all
def qP{t:Nat}(h:yK ops nh=true)(ht:t<ops.size):(t<=nh\/edge ops t (t-1)=true)/\∀j,edge ops t j=true->j<t:=by
 unfold yK at h;rw[wL]at h;have h:=h t (dJ ht);simp only[Vq,WO,wG]at h;refine⟨h.1,λj y=>?_⟩;have u:=h.2;cases ho:ops[t]? with
 |none=>simp[ho]at u
 |some o=>simp only[ho,Array.all_eq_true']at u;obtain⟨e,w,hb,rfl⟩:=(Z1 ho).1 y;have:=u e w;simpa[hb]using this
def zo{i:Nat}{u:Array Bool}(h:i∈Region.ready .any ops u):u.getD i true=false/\i<ops.size/\(∃o,ops[i]?=some o)/\∀j,edge ops i j=true->u.getD j false=true:=by obtain⟨w,o,ho,y⟩:=mem_ready.1 h;refine⟨w,(XE.1 ho).1,⟨o,ho⟩,λj B=>?_⟩;obtain⟨e,A,hb,rfl⟩:=(Z1 ho).1 B;exact y e A hb
def zd1{i:Nat}{u:Array Bool}{o:Oper}(ho:ops[i]?=some o)(w:u.getD i true=false)(y:∀j,edge ops i j=true->u.getD j false=true):i∈Region.ready .any ops u:=
 mem_ready.2 ⟨w,o,ho,λe A hb=>y _ ((Z1 ho).2 ⟨e,A,hb,rfl⟩)⟩
def qh{u:Array Bool}(y:yK ops nh=true)(hs:u.size=ops.size):∀(i:Nat),i<ops.size->u.getD i false=false->∃k,k∈Region.ready .any ops u:=by
 intro i;induction i using Nat.strongRecOn with
 | _ i ih=>
   intro hi B;by_cases w:∀j,edge ops i j=true->u.getD j false=true
   .exact⟨i,zd1 (We hi) (zfm B a8) w⟩
   .have:∃j,edge ops i j=true/\u.getD j false=false:=by
     apply wU;intro C;refine w λj A=>?_;cases h:u.getD j false with
     |true=>rfl
     |false=>exact absurd ⟨j,A,h⟩ C
    obtain⟨j,A,E⟩:=this;have:=(qP y hi).2 j A;exact ih j this a8 E
def qM:∀(l S:List Nat),l.Nodup->l⊆S->l.length<=S.length
 |[],_,_,_=>X3 _
 |x::l,S,hn,hs=>by have j:x∈S:=hs b6;have w:l⊆S.erase x:=λy u=>(WY (λe=>(UF.1 hn).1 (by rw[<-e];exact u))).2 (hs (by simp[u]));have:=qM l (S.erase x) (UF.1 hn).2 w;rw[WG j]at this;have:=uh j;simp;omega
end
structure Hd(p:Prop):Prop where
 h:p
end
end Go.Proofs.YtbhngpjkakcgfaaGreatDoor
