import Derived.Deep.RegionWith
import Derived.LoopN
import Derived.Test.YtjdjjlkifdimkaaGreatDoorB22
set_option maxHeartbeats 16000000
set_option linter.all false
set_option maxRecDepth 100000
namespace Go.Proofs.YtjdjjlkifdimkaaGreatDoor
def To:=@Go.heap_alloc2_old
def Ty:=@Go.heap_alloc2_new
open Go.RowKit
open Go.Proofs.Tryz
open Go.Proofs.Tryz renaming prog->xt
section
def Kn.proj{C:Qk}{R:List Nat}{n m:Nat}{k:List Fg}{items:List Iv}(h:Kn C R n k)(hi:Nrm items)(A:2*n+2*(k.length*items.length)<=m):Kn C R m (zl5 k items):=by
 have u:=zoG hi h.r;have w:=h.m;have y:=h.l;refine⟨znX h.r hi,λg o=>?_,λg o=>?_,a9,?_⟩
 .obtain⟨f,j,rfl⟩:=wy.1 o;exact h.ik f j
 .obtain⟨f,j,rfl⟩:=wy.1 o;exact h.s f j
 .unfold zl5;rw[wt];omega
def zqU{C:Qk}{R:List Nat}{n:Nat}(k:List Fg)(h:Kn C R n k)(ok:OkX C R)(j:n<=40000):Cn xt 105 [kp k] (kp (zbx k)):=by show Cn xt 105 [kp k] (kp (zL (jq k)));refine zt func105 1 ?_;refine pw ?_;refine .c (zqR k (h.ok12 ok a9)) ?_;exact .d (Kc (jq k) (h.refine ok) ok a9)
def zqV(k:List Fg)(items:List Iv){j:Nat}(h:j<k.length):((zl5 k items).take (j+1)).map fc=((zl5 k items).take j).map fc++[fc ⟨qy fMeet k[j].items items,k[j].vec⟩]:=by have u:(zl5 k items).length=k.length:=wt _;have o:(zl5 k items)[j]'a9=⟨qy fMeet k[j].items items,k[j].vec⟩:=UA _;rw[X3 a9,WI,o];rfl
def zqQ{C:Qk}{R:List Nat}{n m:Nat}(k:List Fg)(items:List Iv)(hk:Kn C R n k)(hi:Nrm items)(A:items.length<=100000)(G:Kn C R m (zl5 k items))(ok:OkX C R)(J:n<=100000)(F:m<=40000):Cn xt 62 [kp k,rg items] (kp (znF k items)):=by
 have B:=hk.l;have w:=zqU (zl5 k items) G ok F;have H:(zl5 k items).length=k.length:=wt _;refine zt func62 2 ?_;refine pw ?_;refine pLoop.go (λj=>j<=k.length) (λj=>[(5,.sl (((zl5 k items).take j).map fc) (.r 28 2)),(6,.v (.int .i64 (j:Nat)))]) (λ_=>[]) (λj=>k.length-j) 0 [5,6] ?_ ?_ ?_
 .exact X4 _
 .exact pd
 .rintro j I;refine pw ?_;refine .i ?_ ?_<;>intro h<;>first|refine pw ?_|exact pd
  .have y:=zqV k items h;have u:=Yf h;have E:k[j].items.length<=100000:=(by have:=yv u;have:=hk.m;omega);refine .c (zq2 k[j].items items (hk.r _ u).1 hi a9 a9) ?_;refine cutP.full rfl ?_ rfl ?_ ?_
   .exact pd
   .exact pd
   .refine pw ?_;exact⟨j+1,h,a9,y.symm,rfl⟩
  .have o:Cn xt 105 [.sl (((zl5 k items).take j).map fc) .sh] (kp (znF k items)):=(by rw[wj a9];exact w)
   (first|exact .d (o)|exact .q (o))
def EdI(E:List Nat)(k:List Fg):Prop:=∀f∈k,∀x,Ed f.items x->x∈E
def zsx{E:List Nat}{k:List Fg}(h:RightK k)(B:EdI E k)(u:0∈E):∀x∈zq k,x∈E:=λx G=>by
 obtain⟨w,y⟩:=(vZ h).1 G;by_cases e:x=0
 .rw[e];exact u
 have A:=y.resolve_left e;have:∃f∈k,mem f.items (x-1)≠mem f.items x:=wP λF=>by have:qX k (x-1) x=true:=qo.2 λf j=>wP λC=>F ⟨f,j,C⟩;rw[A]at this;cases this
 obtain⟨f,j,o⟩:=this;exact B f j x ⟨w,by rw[vD e];exact λe=>o e.symm⟩
def zsj{E:List Nat}{k:List Fg}(h:RightK k)(A:EdI E k)(w:0∈E):(zu k).length<=E.length/\∀s∈zu k,∀x,Ed [s] x->x∈E:=by
 have hs:=zsx h A w;have u:(cutsK k).length=(zq k).length:=vO _;have B:=Ji _ _ (xc k) hs;constructor
 .have:(zu k).length<=(cutsK k).length:=WC _ _;omega
 .intro s C x o;obtain⟨i,hi,rfl⟩:=Wd (Wq.1 C).1;have j:i<(zq k).length:=a9;have e:(cutsK k)[i]=⟨(zq k)[i],if h:i+1<(zq k).length then (zq k)[i+1]-1 else zk-1⟩:=Vx (zq k) i j;have F:=o.1;rw[e]at o;rcases zhC o with rfl|y
  .exact hs _ (Yf j)
  .split at y
   .rename_i h3;have G:=wI.1 (xc k) i (i+1) j h3 a9;rw[show x=(zq k)[i+1] by omega];exact hs _ (Yf h3)
   .have:=xM;omega
def zsu{E:List Nat}:∀{o:List Fg}{f:Fg},(∀g∈o,Nrm g.items)->Nrm f.items->EdI E o->(∀x,Ed f.items x->x∈E)->EdI E (qN o f)
 |[],f,_,_,_,hf=>λg u=>by simp only[qN,wD]at u;subst u;exact hf
 | g::o,f,hn,hnf,ho,hf=>by
   have w:=zsu (o:=o) (f:=f) (λx j=>hn x (by simp[j])) hnf (λx j=>ho x (by simp[j])) hf;have u:=ho g b7;unfold qN;split
   .intro x j;rcases V3.1 j with rfl|j
    .exact u
    .exact w x j
   .split
    .intro x j;rcases V3.1 j with rfl|j
     .exact λy A=>(zcM rfl (hn g b7) hnf A).elim (u y) (hf y)
     .exact ho x (by simp[j])
    .intro x j;rcases V3.1 j with rfl|j
     .exact hf
     .exact ho x j
def zsf{E:List Nat}:∀{k o:List Fg},GrpI o->RightK k->EdI E o->EdI E k->EdI E (k.foldl yo o)
 |[],_,_,_,ho,_=>ho
 | f::k,o,j,hr,ho,hk=>by
   have u:=hr f b7;rw[WH];refine zsf (Yr j u).1 (λg j=>hr g (by simp[j])) ?_ λg j=>hk g (by simp[j]);unfold yo;split
   .exact ho
   .exact zsu (λg h=>(j.ok g h).2.2.1) u.1 ho (hk f b7)
def zsl{E:List Nat}{k:List Fg}(h:RightK k)(j:EdI E k):EdI E (zL k):=zsf GrpI.nil h (λf h=>by cases h) j
structure Ke(C:Qk)(R E:List Nat)(k:List Fg):Prop where
 can:CanK k
 ik:IK C R k
 s:∀f∈k,SmV f.vec
 ed:EdI E k
 m:qE k<=E.length
 l:k.length<=E.length
section
variable {C:Qk}{R E:List Nat}{a b k:List Fg}
def Ke.r(h:Ke C R E k):RightK k:=h.can.right
def Ke.kn(h:Ke C R E k):Kn C R E.length k:=⟨h.r,h.ik,h.s,h.m,h.l⟩
def Ke.nil:Ke C R E []:=⟨zaJ,(λf h=>by cases h),(λf h=>by cases h),(λf h=>by cases h),X4 _,X4 _⟩
def Ke.do{f:Q3}(B:f false false=false)(j:Ke C R E a)(hb:Ke C R E b)(ok:OkX C R)(w:0∈E):Ke C R E (vh f a b):=by
 have F:=j.r.app hb.r;have A:EdI E (a++b):=λf h=>(wA.1 h).elim (j.ed f) (hb.ed f);obtain⟨G,y⟩:=zsj F A w;have u:=xU (f:=f) j.r hb.r;have hk:=Kn.do B j.kn hb.kn ok;have o:=jU u;refine⟨ze5 j.r hb.r,hk.ik,hk.s,zsl u λg o=>?_,?_,?_⟩
 .obtain⟨s,hs,rfl⟩:=wy.1 o;exact y s hs
 .have:qE (yy f a b)=(zu (a++b)).length:=Zf _ _;unfold vh;omega
 .have:(yy f a b).length=(zu (a++b)).length:=wt _;unfold vh;omega
def Ke.canonP{n:Nat}(hk:Kn C R n k)(A:EdI E k)(ok:OkX C R)(w:0∈E):Ke C R E (zbx k):=by
 obtain⟨B,y⟩:=zsj hk.r A w;have u:=Yb hk.r;have j:=hk.canon ok;have o:=jU u;refine⟨zbX hk.r,j.ik,j.s,zsl u λg o=>?_,?_,?_⟩
 .obtain⟨s,hs,rfl⟩:=wy.1 o;exact y s hs
 .have:qE (jq k)=(zu k).length:=Zf _ _;unfold zbx;omega
 .have:(jq k).length=(zu k).length:=wt _;unfold zbx;omega
def zsF{items:List Iv}(h:Ke C R E k)(hi:Nrm items)(o:∀x,Ed items x->x∈E):EdI E (zl5 k items):=λg u=>by obtain⟨f,j,rfl⟩:=wy.1 u;exact λx w=>(zcM rfl (h.r f j).1 hi w).elim (h.ed f j x) (o x)
end
structure Rs where
 id:Nat
 recs:List Rc
 known:List Fg
 next:Nat
def zs7(x y:Rc):Bool:=decide (y.ctr<x.ctr) || (decide (x.ctr=y.ctr) && decide (y.rep<x.rep))
def zsq(s:Rs)(i:Nat):Nat:=match zrZ s.recs i with
 |some x=>if s.next<=x.ctr then x.ctr+1 else s.next
 |none=>s.next
def ztL(s:Rs)(i:Nat)(v:ByteArray):Rc:=⟨i,s.id,zsq s i,v⟩
noncomputable def ztM (s:Rs) (i:Nat) (v:ByteArray):Rs:=⟨s.id,zr4 s.recs (ztL s i v),vh zn s.known (znP i s.id (zsq s i)),zsq s i+1⟩
def zs0(s:Rs)(known:List Fg)(items:List Iv):List Rc:=s.recs.filter λx=>mem items x.item && !hasK known x.item x.rep x.ctr
def zse(l:List Rc)(x:Rc):List Rc:=match zrZ l x.item with
 |some y=>if zs7 x y=true then zr4 l x else l
 |none=>zr4 l x
noncomputable def ztt (s f:Rs) (items:List Iv):Rs:=⟨s.id,(zs0 f s.known items).foldl zse s.recs,vh zn s.known (znF f.known items),s.next⟩
structure Env25(C:Qk)(R E I:List Nat):Prop where
 ok:OkX C R
 c:∀r x,x<=26->x∈C r
 z:0∈E
 e:E.length<=1000
 i:I.length<=25
 m:∀i∈I,i<zk/\i∈E/\(i+1<zk->i+1∈E)
structure Ok25(C:Qk)(R E I:List Nat)(n:Nat)(s:Rs):Prop where
 k:Ke C R E s.known
 a:zr8 s.recs
 x:∀x∈s.recs,x.item∈I/\x.rep<zk/\x.ctr<n/\x.val.size<=100
 n:s.next<=n
 i:s.id<zk/\s.id∈R
def zsA{l:List Rc}{I:List Nat}(h:zr8 l)(j:∀x∈l,x.item∈I):l.length<=I.length:=by
 have:=Ji (l.map Rc.item) I (uz.2 h) λy u=>by obtain⟨x,o,rfl⟩:=wy.1 u;exact j x o
 simpa using this
section
variable {C:Qk}{R E I:List Nat}{n:Nat}{s f:Rs}
def Ok25.len(h:Ok25 C R E I n s)(e:Env25 C R E I):s.recs.length<=25:=by have:=zsA h.a λx j=>(h.x x j).1;have:=e.i;omega
def Ok25.ctr(h:Ok25 C R E I n s)(i:Nat):zsq s i<=n:=by
 unfold zsq;have:=h.n;cases hg:zrZ s.recs i with
 |none=>exact this
 | some x=>
   have j:=(h.x x (zsB hg).1).2.2.1;dsimp only;split
   .omega
   .exact this
def Ok25.mono{m:Nat}(h:Ok25 C R E I n s)(o:n<=m):Ok25 C R E I m s:=
 ⟨h.k,h.a,λx j=>by have:=h.x x j;exact⟨this.1,this.2.1,a9,this.2.2.2⟩,by have:=h.n;omega,h.i⟩
def ztd(e:Env25 C R E I){i r c:Nat}(hi:i∈I)(H:r<zk)(K:r∈R)(N:c<=25):Ke C R E (znP i r c):=by
 have M:=zw;obtain⟨A,B,F⟩:=e.m i hi;have u:c<zk:=a9
 have L:1<=E.length:=uj e.z;have o:=zkS H u;have G:IV C R (zl9 r c):=by
  refine⟨o.right,λq x w=>?_,λy J=>?_⟩
  .rw[zoE H u]at w;split at w
   .rcases zhC w with rfl|rfl
    .exact e.c _ _ a9
    .exact e.c _ _ a9
   .exact absurd w zcL
  .simp only[zl9,wD]at J;subst J;rw[qD b7];exact K
 refine⟨⟨⟨λg j=>?_,by simp[znP]⟩,by simp[znP,xh]⟩,λg j=>?_,λg j=>?_,λg j x w=>?_,?_,?_⟩
 .simp only[znP,wD]at j;subst j;exact⟨o,by simp[zl9],qG (Zp _) A,b7⟩
 .simp only[znP,wD]at j;subst j;exact G
 .simp only[znP,wD]at j;subst j;exact zoF H u
 .simp only[znP,wD]at j;subst j;rcases zhC w with rfl|rfl
  .exact B
  .exact F w.1
 .simp[znP,qE];omega
 .simp[znP];omega
def Ok25.put(h:Ok25 C R E I n s)(e:Env25 C R E I){i:Nat}{v:ByteArray}(hi:i∈I)(o:v.size<=100)(w:n<=25):Ok25 C R E I (n+1) (ztM s i v):=by
 have u:=h.ctr i;refine⟨h.k.do rfl (ztd e hi h.i.1 h.i.2 a9) e.ok e.z,zr6 h.a,λx j=>?_,by show zsq s i+1<=n+1;omega,h.i⟩;rcases zr3 j with rfl|j
 .exact⟨hi,h.i.1,by show zsq s i<n+1;omega,o⟩
 .have:=h.x x j;exact⟨this.1,this.2.1,a9,this.2.2.2⟩
def zsz{l:List Rc}{x y:Rc}(h:y∈zse l x):y=x\/y∈l:=by
 unfold zse at h;split at h
 .split at h
  .exact zr3 h
  .exact .inr h
 .exact zr3 h
def zsy{l:List Rc}{x:Rc}(h:zr8 l):zr8 (zse l x):=by
 unfold zse;split
 .split
  .exact zr6 h
  .exact h
 .exact zr6 h
def zsa:∀{m l:List Rc},zr8 l->zr8 (m.foldl zse l)/\∀x∈m.foldl zse l,x∈m\/x∈l
 |[],l,h=>⟨h,λx o=>.inr o⟩
 | y::m,l,h=>by
   obtain⟨u,w⟩:=zsa (m:=m) (zsy (x:=y) h);refine⟨u,λx o=>?_⟩;rcases w x o with j|j
   .exact .inl (by simp[j])
   .exact(zsz j).imp (λe=>by simp[e]) id
def zsR{k:List Fg}(h:Ke C R E k)(e:Env25 C R E I){items:List Iv}(hi:Nrm items)(o:∀x,Ed items x->x∈E)(u:items.length<=10):Ke C R E (znF k items)/\Kn C R 22000 (zl5 k items):=by have w:=h.l;have y:=h.m;have A:=e.e;have B:k.length*items.length<=1000*10:=UM a9 u;have j:Kn C R 22000 (zl5 k items):=Kn.proj h.kn hi a9;exact⟨Ke.canonP j (zsF h hi o) e.ok e.z,j⟩
def Ok25.pull(h:Ok25 C R E I n s)(o:Ok25 C R E I n f)(e:Env25 C R E I){items:List Iv}(hi:Nrm items)(y:∀x,Ed items x->x∈E)(A:items.length<=10):Ok25 C R E I n (ztt s f items):=by
 obtain⟨u,w⟩:=zsa (m:=zs0 f s.known items) h.a;refine⟨h.k.do rfl (zsR o.k e hi y A).1 e.ok e.z,u,λx B=>?_,h.n,h.i⟩;rcases w x B with j|j
 .exact o.x x (Wq.1 j).1
 .exact h.x x j
end
end
section
attribute [-go_sem] z7
def cn_bool{f:FuncId}{A:List PV}{b:Bool}(F:Cn xt f A (.v (.bool b))){D:xT}{w:World}{vs:Array Value}(E:GL D w)(C:∀b o,D b o->b<w.heap.size)(y:vs.size=A.length)(j:∀(i:Nat) p,A[i]?=some p->Dat D w (vs.getD i undef) p):
 Calls xt f vs w λe B=>e=.returned (.bool b)/\Below w.heap.size w B:=by
 refine(jP F E C y j).mono ?_;rintro e B ⟨u,rfl,hb,j⟩;have e:=(Rel.dat (ρ:=λ_=>0) (nb:=0) j).v_inv;rw[e];exact⟨rfl,hb⟩
def wp_some{P:Program}{c:Code}{a:Act}{W:World}{Q:Exit->Act->World->Prop}{R:World->Prop}(h:R W)(k:∀W,R W->c.wp P Q a W):c.wp P Q a W:=k W h
def Nw(D:xT)(w j:World):Nat->Nat->Prop:=λb o=>D b o\/(w.heap.size<=b/\b<j.heap.size)
def Gd(D:xT)(w:World):Prop:=GL D w/\∀b o,D b o->b<w.heap.size
def Rpl(D:xT)(t:Nat)(w:World)(b m:Nat)(s:Rs):Prop:=
 ∃ka j,w.heap[b]?=some (.cells #[.int .u64 s.id,.map (some m),.slice ka s.known.length j,.int .u64 s.next,.bool false] 91 (0,0))/\MR t m w s.recs/\Dat D w (.slice ka s.known.length j) (kp s.known)
def Gd.keep{D:xT}{S:Nat->Prop}{w w':World}(h:Gd D w)(hk:Keep S w w')(u:∀b o,D b o->¬S b):Gd D w':=
 ⟨h.1.mono (λ_ _ h=>h) λb o x j y=>hk.cell_some y (u b o j),λb o j=>vw (h.2 b o j) hk.size⟩
def Gd.new{D:xT}{w w0 j:World}(h:Gd D j)(hs:w0.heap.size<=j.heap.size):Gd (Nw D w0 j) j:=⟨h.1.mono (λ_ _ h=>.inl h) λ_ _ _ _ h=>h,λb o u=>u.elim (h.2 b o) W9⟩
def Rpl.keep{D D':xT}{S:Nat->Prop}{t b m:Nat}{w w':World}{s:Rs}(h:Rpl D t w b m s)(hk:Keep S w w')(hb:¬S b)(C:¬S m)(u:∀b o,D b o->D' b o/\¬S b):Rpl D' t w' b m s:=by obtain⟨ka,F,y,j,A⟩:=h;exact⟨ka,F,hk.obj y hb,j.keep (hk.block m j.lt C),A.mono (λb o h=>(u b o h).1) λb o x B E=>hk.cell_some E (u b o B).2⟩
def Rpl.mono{D:xT}{t j b m:Nat}{w:World}{s:Rs}(h:Rpl D t w b m s)(ht:t<=j):Rpl D j w b m s:=by obtain⟨ka,A,o,u,y⟩:=h;exact⟨ka,A,o,u.mono ht,y⟩
def zuI(id:Nat)(D:xT)(w:World):Calls xt 20 #[.int .u64 (id:Nat)] w λe o=>e=.returned (.pointer (some ⟨w.heap.size+1,0,none⟩))/\Below w.heap.size w o/\o.heap.size=w.heap.size+2/\Rpl D 0 o (w.heap.size+1) w.heap.size ⟨id,[],[],0⟩:=by
 have u:=@run_makeMap xt
 go_enter func20,ntmps20
 go_wp2;refine tx (tI rfl _ _ _) rfl ?_;exact⟨rfl,((tq _ w).alloc (Zp _) _).alloc b7 _,b7,none,0,Ty _ _ _,(MR.made w).keep (tr _ _ _ b7),.sl none 0 1 [] .sh 0 0 (λ_=>undef) (Zp _) (λh=>by cases h) b9 (λh=>absurd rfl h) (λi e h=>by simp at h) (λj h=>by simp at h) (λi e j p h=>by simp at h)⟩
def zte{D:xT}{t b m n:Nat}{w:World}{s:Rs}(K:Rpl D t w b m s)(F:Gd D w)(hb:CanK s.known)(I:s.known.length<=1000000)(hz:∀f∈s.known,f.items.length<=1000000/\f.vec.length<=1000000/\∀e∈f.vec,e.holes.length<=1000000):
 Calls xt 10 #[.pointer (some ⟨b,0,none⟩)] w λe C=>∃v,e=.returned v/\Below w.heap.size w C/\Dat (Nw D w C) C v (kp s.known):=by
 obtain⟨ka,L,y,A,E⟩:=K;have G:=zrM s.known E F.2 (λf H=>⟨(hb.right f H).1.lt,(hb.gi.ok f H).1.bd⟩) I hz;have O:w.cell? ⟨b,2,none⟩=some (.slice ka s.known.length L):=(zW y 2 _ rfl).1;have J:=qL G;clear G y A E F hb I hz;go_enter func10,ntmps10
 go_wp2_with (go_at_call 28;refine J.o.mono ?_;rintro e P ⟨u,rfl,B,j⟩;obtain⟨M,N,rfl,_⟩:=RwF.shape j)
 go_ret;exact⟨_,rfl,B,KO.dat j λb o y A=>.inr ⟨y,A⟩⟩
def zs4{fn:Func}{p u:Tmp}{o t:TypeId}{A:Array Field}{w:World}{g:Nat}{cs:Array Value}{j:Array Value}(h:fn.results=#[.cell p o,.tmp u])(C:j.getD p undef=.pointer (some ⟨g,0,none⟩))(B:w.heap[g]?=some (.cells cs t (0,0)))
 (E:xt.underlying o=some (.struct A)) (hi:(xt.info? o).map (·.size)=some cs.size):(results fn j).run xt w=.ok (.tuple #[.agg cs,j.getD u undef]) w:=by
 have y:j[p]?.getD undef=.pointer (some ⟨g,0,none⟩):=dL C
 simp[results,h,y,asAddr,run_loadVar_row w g t o cs (0,0) _ B E rfl hi]
def zwk{D:xT}{t b m:Nat}{w:World}{s:Rs}{i:Nat}(I:Rpl D t w b m s)(hi:i<zk):Calls xt 19 #[.pointer (some ⟨b,0,none⟩),.int .u64 (i:Nat)] w λe J=>e=.returned (.tuple #[rcv ((zrZ s.recs i).getD zRc),.bool (zrZ s.recs i).isSome])/\Below w.heap.size w J:=by
 obtain⟨ka,K,j,u,H⟩:=I;have F:w.cell? ⟨b,1,none⟩=some (.map (some m)):=(zW j 1 _ rfl).1;have E:=qL u;have B:=u.lt;have A:=(XE.1 j).1;have G:∀o,(w.alloc o).cell? ⟨b,1,none⟩=some (.map (some m)):=λo=>(tk (a:=⟨b,1,none⟩) (tr _ _ _ A)).trans F;clear j u H;go_enter func19,ntmps19
 go_wp2_with (at_lookup;refine zsX rfl _ _ rfl rfl (E.o.keep (tr _ _ _ B)) hi rfl (λC=>?_) λy C=>?_)
 .refine tx (zs4 rfl rfl (To _ _ _) underlying66 dM) rfl ?_;rw[C];exact⟨rfl,((tq _ w).alloc (Zp _) _).alloc b7 _⟩
 .refine tx (zs4 rfl rfl (To _ _ _) underlying66 dM) rfl ?_;rw[C];exact⟨rfl,((tq _ w).alloc (Zp _) _).alloc b7 _⟩
def zti{D:xT}{w:World}{v:Value}{k:List Fg}(h:Dat D w v (.tup [kp k,.v .nilIface])):∃a c,v=.tuple #[.slice a k.length c,.nilIface]/\Dat D w (.slice a k.length c) (kp k):=by
 cases h with
 | tup vs cs hs h=>
   have d0:=h 0 _ rfl;have o:=(h 1 _ rfl).v_inv;obtain⟨⟨a,n,c⟩,e,j⟩:=kH d0;obtain⟨l⟩:=vs;match l,hs with
   |[x,y],_=>simp at d0 o e;subst e;subst o;rw[wt]at j;simp only at j;subst j;exact⟨a,c,rfl,d0⟩
def zuD{C:Qk}{R E I:List Nat}{D:xT}{w:World}{x:Value}{k:List Fg}(e:Env25 C R E I)(hk:Ke C R E k){i r c:Nat}(hi:i∈I)(B:r<zk)(F:r∈R)(G:c<=25)(A:Gd D w)(d:Dat D w x (kp k)):
 Calls xt 52 #[x,.int .u64 (i:Nat),.int .u64 (r:Nat),.int .u64 (c:Nat)] w λe y=>∃a u,e=.returned (.tuple #[.slice a (vh zn k (znP i r c)).length u,.nilIface])/\Below w.heap.size w y/\Dat (Nw D w y) y (.slice a (vh zn k (znP i r c)).length u) (kp (vh zn k (znP i r c))):=by
 refine(jP (znJ k i r c B (by have:=zw;omega) hk.kn (ztd e hi B F G).kn e.ok (by have:=e.e;omega)) A.1 A.2 rfl λj p o=>?_).mono ?_
 .match j,o with
  |0,o=>cases o;exact d
  |1,o=>cases o;exact .v _
  |2,o=>cases o;exact .v _
  |3,o=>cases o;exact .v _
  |j+4,o=>simp at o
 .rintro e y ⟨v,rfl,hb,H⟩;obtain⟨a,u,rfl,h⟩:=zti H;exact⟨a,u,rfl,hb,h⟩
def zt8{x c:Nat}(h:c=x+1)(o:c<zk)(w:World):Calls xt 51 #[.int .u64 (x:Nat)] w λe j=>e=.returned (.tuple #[.int .u64 (c:Nat),.bool true])/\j=w:=by have:=zw;refine(zdr x a9 w).mono ?_;rintro e j ⟨rfl,rfl⟩;rw[h];exact⟨rfl,rfl⟩
def SlK(D:xT)(j:World)(k:List Fg)(u:Value)(W:World):Prop:=∃a c,u=.slice a k.length c/\Dat (Nw D j W) W (.slice a k.length c) (kp k)
def TuK(D:xT)(j:World)(k:List Fg)(u:Value)(W:World):Prop:=∃a c,u=.tuple #[.slice a k.length c,.nilIface]/\Dat (Nw D j W) W (.slice a k.length c) (kp k)
def Nw.dat{D:xT}{j A B:World}{x:Value}{p:PV}(h:Dat (Nw D j A) A x p)(hk:Keep qe A B):Dat (Nw D j B) B x p:=h.mono (λb o h=>h.imp id λh=>⟨h.1,vw h.2 hk.size⟩) λb o x _ u=>hk.cell_some u id
def SlK.stab{D:xT}{j:World}{k:List Fg}(u:Value)(A B:World)(h:SlK D j k u A)(hk:Keep qe A B):SlK D j k u B:=by obtain⟨a,c,e,h⟩:=h;exact⟨a,c,e,Nw.dat h hk⟩
def TuK.stab{D:xT}{j:World}{k:List Fg}(u:Value)(A B:World)(h:TuK D j k u A)(hk:Keep qe A B):TuK D j k u B:=by obtain⟨a,c,e,h⟩:=h;exact⟨a,c,e,Nw.dat h hk⟩
def zvG{C:Qk}{R E I:List Nat}{n t b m i:Nat}{D:xT}{w:World}{s:Rs}{v:ByteArray}(e:Env25 C R E I)(h:Ok25 C R E I n s)(hn:n<=25)(hi:i∈I)(hR:Rpl D t w b m s)(hG:Gd D w)(bH:∀o,¬D b o)(bJ:∀o,¬D m o)(aB:b≠m)(ht:t<1000000):
 Calls xt 22 #[.pointer (some ⟨b,0,none⟩),.int .u64 (i:Nat),.string v] w λe w'=>e=.returned (.tuple #[rcv (ztL s i v),.nilIface])/\Keep (λk=>k=b\/k=m) w w'/\Rpl (Nw D w w') (t+1) w' b m (ztM s i v):=by
 have hM:=zw;have aq:=(e.m i hi).1;obtain⟨ka,kc,h1,h2,h3⟩:=hR;have U:=(XE.1 h1).1;have aw:=h2.lt;obtain⟨c,G⟩:=xm (zsq s i);have bR:c<=n:=by rw[G];exact h.ctr i
 obtain⟨nx,aH⟩:=xm (s.next);obtain⟨kl,au⟩:=xm (s.known.length);have aD:(zrZ s.recs i=none/\c=nx)\/(∃y,zrZ s.recs i=some y/\y.ctr<nx/\c=nx)\/(∃y,zrZ s.recs i=some y/\nx<=y.ctr/\c=y.ctr+1):=by
  rw[G,aH];unfold zsq;cases hg:zrZ s.recs i with
  |none=>exact .inl ⟨rfl,rfl⟩
  | some y=>
    dsimp only;by_cases av:s.next<=y.ctr
    .exact .inr (.inr ⟨y,rfl,av,by rw[vj av]⟩)
    .exact .inr (.inl ⟨y,rfl,a9,by rw[vD av]⟩)
 have ag:=λW (hW:Below w.heap.size w W)=>zuD (w:=W) (c:=c) e h.k hi h.i.1 h.i.2 a9 (hG.keep (Keep.of_below' (S:=qe) hW (Zp _)) λ_ _ _=>id) (h3.mono (λ_ _ h=>h) λb o x J hx=>(tk (a:=⟨b,o,none⟩) (hW.block b (hG.2 b o J))).trans hx);obtain⟨kr,aF⟩:=xm (vh zn s.known (znP i s.id c));have bn:=qL aF;have bl:=qL au;rw[<-au,<-aF]at ag;have aG:ztL s i v=⟨i,s.id,c,v⟩:=by unfold ztL;rw[<-G]
 have aW:ztM s i v=⟨s.id,zr4 s.recs ⟨i,s.id,c,v⟩,vh zn s.known (znP i s.id c),c+1⟩:=by unfold ztM;rw[aG,<-G]
 have c0:w.cell? ⟨b,0,none⟩=some (.int .u64 s.id):=(zW h1 0 _ rfl).1;have c1:w.cell? ⟨b,1,none⟩=some (.map (some m)):=(zW h1 1 _ rfl).1;have c2:w.cell? ⟨b,2,none⟩=some (.slice ka kl kc):=by rw[au];exact(zW h1 2 _ rfl).1
 have c3:w.cell? ⟨b,3,none⟩=some (.int .u64 nx):=by rw[aH];exact(zW h1 3 _ rfl).1
 have c4:w.cell? ⟨b,4,none⟩=some (.bool false):=(zW h1 4 _ rfl).1;have H1:=qL h1;have HM:=qL h2;have bi:=qL ag;have br:=qL h;have bq:=qL aG;have bt:=qL aW;have HG:=qL hG;obtain⟨F,af⟩:∃q,q=s.id:=⟨_,rfl⟩;have ab:=qL af;rw[<-af]at c0;have bM:xt.follows .mixedOrders=true:=dM
 clear h1 h2 h3 ag h aG aW hG G aH au af aF;go_enter func22,ntmps22
 go_wp2_with fail
 go_region;obtain⟨w1,ah⟩:=xm ((w.alloc (.cells #[.int .u64 0,.int .u64 0,.int .u64 0,.string ⟨#[]⟩] 66)).drew);have az:Below w.heap.size w w1:=by rw[ah];exact((tq _ w).alloc (Zp _) _).drew
 have bK:w1.heap.size=w.heap.size+1:=by rw[ah];exact tu _ _
 have aY:w1.heap[w.heap.size]?=some (.cells #[.int .u64 0,.int .u64 0,.int .u64 0,.string ⟨#[]⟩] 66 (0,0)):=by rw[ah];exact tl w _
 have d1:w1.cell? ⟨b,1,none⟩=some (.map (some m)):=(tk (a:=⟨b,1,none⟩) (az.block b U)).trans c1;have ak:=qL az;have bz:=qL aY;rw[<-ah];clear ah az aY;have ax:∀(o:Obj)(W:World),W=w1.alloc o->Below w.heap.size w W/\W.heap.size=w.heap.size+2/\W.heap[w.heap.size]?=some (.cells #[.int .u64 0,.int .u64 0,.int .u64 0,.string ⟨#[]⟩] 66 (0,0)):=λo W hW=>by rw[hW];exact⟨ak.o.alloc a9 _,by rw[tu,bK],(tr _ _ _ a9).trans bz.o⟩
 have aO:=qL ax;clear ax;rcases aD with⟨hq,V⟩|⟨y,hq,av,V⟩|⟨y,hq,bS,V⟩;case' inl=>
  subst V
  go_wp2_with (at_lookup;refine zsX rfl _ _ rfl rfl (HM.o.keep (ak.o.block m aw)) aq rfl (λ_=>?_) λy Q=>by rw[hq]at Q;cases Q)
 case' inr.inl=>
  subst V
  go_wp2_with (at_lookup;refine zsX rfl _ _ rfl rfl (HM.o.keep (ak.o.block m aw)) aq rfl (λQ=>by rw[hq]at Q;cases Q) λy' Q=>?_;rw[hq]at Q;cases Q)
 case' inr.inr=>
  have bg:=qL V;clear V
  go_wp2_with (first
   |(at_lookup;refine zsX rfl _ _ rfl rfl (HM.o.keep (ak.o.block m aw)) aq rfl (λQ=>by rw[hq]at Q;cases Q) λy' Q=>?_;rw[hq]at Q;cases Q)
   |(go_at_call 51;refine(zt8 bg.o a9 _).mono ?_;rintro e w3 ⟨rfl,rfl⟩))
 all_goals
  refine wp_some (R:=λW=>Below w.heap.size w W/\W.heap.size=w.heap.size+2/\W.heap[w.heap.size]?=some (.cells #[.int .u64 0,.int .u64 0,.int .u64 0,.string ⟨#[]⟩] 66 (0,0))) (aO.o _ _ rfl) ?_;rintro j ⟨an,bT,aZ⟩;have e0:j.cell? ⟨b,0,none⟩=some (.int .u64 F):=(tk (a:=⟨b,0,none⟩) (an.block b U)).trans c0;have e2:j.cell? ⟨b,2,none⟩=some (.slice ka kl kc):=(tk (a:=⟨b,2,none⟩) (an.block b U)).trans c2;have aP:=qL λW (hW:Below w.heap.size w W)=>bi.o W hW;rw[<-ab.o]at aP;have am:=qL an;have bA:=qL aZ;have aU:Below j.heap.size j j.drew:=(tq _ _).drew;clear an aZ;refine Kg (Sw:=qe) 16 109 (λw9=>Below j.heap.size j w9/\w9.cell? ⟨b,0,none⟩=some (.int .u64 F)/\w9.cell? ⟨b,2,none⟩=some (.slice ka kl kc)) dM dM rfl ⟨aU,e0,e2⟩ ?_;simp only[wO,wY];refine Jz ?_;refine V7 (TuK D j kr) TuK.stab rfl ?_ ?_
  .intro a5 A G hk Y K N;have HK:=qL N;clear N;simp[Rds,zA,lk,Op.operands,Call.operands,RdEq]at Y;go_simp;refine(aP.o A (am.o.trans (G.1.mono am.o.size))).mono ?_;rintro e w3 ⟨H,k3,rfl,aT,ao⟩;have aE:Keep qe A w3:=Keep.of_below' aT (Zp _);exact HK.o _ _ aE ⟨G.1.trans (aT.mono G.1.size),aE.cell_some G.2.1 id,aE.cell_some G.2.2 id⟩ ⟨H,k3,rfl,ao.mono (λb o h=>h.imp id λh=>⟨VS G.1.size h.1,h.2⟩) λ_ _ _ _ h=>h⟩
  simp only[Y1,yb];refine Jz ?_;refine V7 (TuK D j kr) TuK.stab rfl ?_ ?_
  .intro a5 A G hk Y K N;have HK:=qL N;clear N;simp[Rds,zA,lk,Op.operands,Call.operands,RdEq]at Y;obtain⟨_,⟨e1,e2⟩,H,k3,rfl,J⟩:=Y;go_simp;exact HK.o _ _ (Keep.refl _ _) G ⟨H,k3,rfl,J⟩
  simp only[Y1,yb];refine Jz ?_;refine V7 (SlK D j kr) SlK.stab rfl ?_ ?_
  .intro a5 A G hk Y K N;have HK:=qL N;clear N;simp[Rds,zA,lk,Op.operands,Call.operands,RdEq]at Y;obtain⟨_,⟨e1,e2⟩,H,k3,rfl,J⟩:=Y;go_simp;exact HK.o _ _ (Keep.refl _ _) G ⟨H,k3,rfl,J⟩
  simp only[Y1,yb];refine Jz ?_;refine V7 (λu _=>u=.nilIface) (yj _) rfl ?_ ?_
  .intro a5 A G hk Y K N;have HK:=qL N;clear N;simp[Rds,zA,lk,Op.operands,Call.operands,RdEq]at Y;obtain⟨_,⟨e1,e2⟩,H,k3,rfl,J⟩:=Y;go_simp;exact HK.o _ _ (Keep.refl _ _) G rfl
  simp only[Y1,yb];refine Jz ?_;refine V7 (SlK D j kr) SlK.stab rfl ?_ ?_
  .intro a5 A G hk Y K N;have HK:=qL N;clear N;simp[Rds,zA,lk,Op.operands,Call.operands,RdEq]at Y;obtain⟨_,⟨e1,e2⟩,H,k3,rfl,J⟩:=Y;go_simp;exact HK.o _ _ (Keep.refl _ _) G ⟨H,k3,rfl,J⟩
  simp only[Y1,yb];refine Jz ?_;intro j ae bI;simp only[finG,WQ,Y1,yb,wM,Wh,WR];simp only[Act.put,ww,wR,wS];rintro bZ bF bY bE cb bG _ ⟨H,k3,rfl,ao⟩;clear bF bE bG;have aC:Below w.heap.size w j:=am.o.trans (ae.1.mono am.o.size);have ba:=(ae.1.block _ a9).trans bA.o;have bU:=ae.1.size;have e1:j.cell? ⟨b,1,none⟩=some (.map (some m)):=(tk (a:=⟨b,1,none⟩) (aC.block b U)).trans c1;have bh:=qL ao;have aN:=qL aC;have bC:=qL ba;have bP:=ae.2.1;clear ao ae bI aC ba aU e0 e2
  go_wp2_with fail
  refine wp_some (R:=λW=>Below j.heap.size j W/\W.heap[j.heap.size]?=some (.cells #[.int .u64 i,.int .u64 F,.int .u64 c,.string v] 66 (0,0))/\W.heap.size=j.heap.size+1) ⟨(tq _ _).alloc (Zp _) _,tl _ _,b7⟩ ?_;rintro w4 ⟨aA,M,bW⟩;have ac:Below w.heap.size w w4.drew:=(aN.o.trans (aA.mono aN.o.size)).drew;obtain⟨v0,st,we,wf,q1,q2,q3,q4,q5⟩:=zu8 (w:=w4.drew) (t:=t) (B:=m) (l:=s.recs) (HM.o.keep (ac.block m aw)) br.o.a dF (y:=⟨i,F,c,v⟩) aq;dsimp only[rcv]at q1 q2;have ai:we.heap[j.heap.size]?=some (.cells #[.int .u64 i,.int .u64 F,.int .u64 c,.string v] 66 (0,0)):=(q5 _ a9).trans M;have aJ:∀k,k<w4.heap.size->k≠m->wf.heap[k]?=w4.heap[k]?:=λk hk X=>q4.block k hk λe=>X (dL e);have O:wf.heap[b]?=some (.cells #[.int .u64 F,.map (some m),.slice ka kl kc,.int .u64 s.next,.bool false] 91 (0,0)):=(aJ b a9 aB).trans ((ac.block b U).trans (by rw[ab.o,bl.o];exact H1.o));have f1:w4.cell? ⟨b,1,none⟩=some (.map (some m)):=(tk (a:=⟨b,1,none⟩) (ac.block b U)).trans c1;have x0:w4.cell? ⟨j.heap.size,0,none⟩=some (.int .u64 i):=(zW M 0 _ rfl).1;have x1:w4.cell? ⟨j.heap.size,1,none⟩=some (.int .u64 F):=(zW M 1 _ rfl).1;have x2:w4.cell? ⟨j.heap.size,2,none⟩=some (.int .u64 c):=(zW M 2 _ rfl).1;have x3:w4.cell? ⟨j.heap.size,3,none⟩=some (.string v):=(zW M 3 _ rfl).1;have y0:we.cell? ⟨j.heap.size,0,none⟩=some (.int .u64 i):=(zW ai 0 _ rfl).1;have y1:we.cell? ⟨j.heap.size,1,none⟩=some (.int .u64 F):=(zW ai 1 _ rfl).1;have y2:we.cell? ⟨j.heap.size,2,none⟩=some (.int .u64 c):=(zW ai 2 _ rfl).1;have y3:we.cell? ⟨j.heap.size,3,none⟩=some (.string v):=(zW ai 3 _ rfl).1
  have g2:wf.cell? ⟨b,2,none⟩=some (.slice ka kl kc):=(zW O 2 _ rfl).1;have z2:wf.frozen? ⟨b,2,none⟩=false:=(zW O 2 _ rfl).2;have bu:=qL q3;have aR:=qL q4;have bw:=qL aJ;have be:=qL O;have bB:=qL M;have aM:=qL ac;have aL:=qL aA;clear q3 q4 q5 aJ O M ai ac aA;go_region;obtain⟨A,L⟩:=xm (wf.setCell ⟨b,2,none⟩ (.slice H kr.length k3));have T:A.heap[b]?=some (.cells #[.int .u64 F,.map (some m),.slice H kr.length k3,.int .u64 s.next,.bool false] 91 (0,0)):=(by rw[L];exact zsw be.o 2 _);have ar:∀k,k<w4.heap.size->k≠m->k≠b->A.heap[k]?=w4.heap[k]?:=λk h1 h2 h3=>(by rw[L];exact(tv _ _ _ _ h3).trans (bw.o k h1 h2));have bQ:=aM.o.size;have bX:w4.heap.size<=A.heap.size:=(by rw[L];simp;exact aR.o.size);have aK:A.heap[w.heap.size]?=some (.cells #[.int .u64 0,.int .u64 0,.int .u64 0,.string ⟨#[]⟩] 66 (0,0)):=(ar _ a9 a9 a9).trans ((aL.o.block _ a9).trans bC.o);have aj:A.heap[j.heap.size]?=some (.cells #[.int .u64 i,.int .u64 F,.int .u64 c,.string v] 66 (0,0)):=(ar _ a9 a9 a9).trans bB.o;have aQ:qA (Keep (λk=>k=b\/k=m) w A):=qL (by
   rw[L];exact(((Keep.of_below' (S:=λk=>k=b\/k=m) aM.o (Zp _)).grown aR.o λk e _=>.inr (dL e.symm)).setCell (p:=⟨b,2,none⟩) (λ_=>.inl rfl) _))
  have bp:qA (MR (t+1) m A (zr4 s.recs ⟨i,F,c,v⟩)):=qL (bu.o.keep (by rw[L];exact tv _ _ _ _ (Uk aB)));rw[<-L];have b3:A.cell? ⟨b,3,none⟩=some (.int .u64 s.next):=(zW T 3 _ rfl).1;have r3:A.frozen? ⟨b,3,none⟩=false:=(zW T 3 _ rfl).2;have b4:A.cell? ⟨b,4,none⟩=some (.bool false):=(zW T 4 _ rfl).1;have r4:A.frozen? ⟨b,4,none⟩=false:=(zW T 4 _ rfl).2;have hz:=λk x h=>zW aK k x h;have n0:A.cell? ⟨w.heap.size,0,none⟩=some (.int .u64 0):=(hz 0 _ rfl).1;have n1:A.cell? ⟨w.heap.size,1,none⟩=some (.int .u64 0):=(hz 1 _ rfl).1;have n2:A.cell? ⟨w.heap.size,2,none⟩=some (.int .u64 0):=(hz 2 _ rfl).1;have n3:A.cell? ⟨w.heap.size,3,none⟩=some (.string ⟨#[]⟩):=(hz 3 _ rfl).1;have m0:A.frozen? ⟨w.heap.size,0,none⟩=false:=(hz 0 _ rfl).2;have m1:A.frozen? ⟨w.heap.size,1,none⟩=false:=(hz 1 _ rfl).2;have m2:A.frozen? ⟨w.heap.size,2,none⟩=false:=(hz 2 _ rfl).2;have m3:A.frozen? ⟨w.heap.size,3,none⟩=false:=(hz 3 _ rfl).2;have p0:A.cell? ⟨j.heap.size,0,none⟩=some (.int .u64 i):=(zW aj 0 _ rfl).1;have p1:A.cell? ⟨j.heap.size,1,none⟩=some (.int .u64 F):=(zW aj 1 _ rfl).1;have p2:A.cell? ⟨j.heap.size,2,none⟩=some (.int .u64 c):=(zW aj 2 _ rfl).1;have p3:A.cell? ⟨j.heap.size,3,none⟩=some (.string v):=(zW aj 3 _ rfl).1;have bO:j.heap.size≠w.heap.size:=a9;have ad:b≠w.heap.size:=a9;have bN:b≠j.heap.size:=a9;have bc:=qL T;have bD:=qL aK;have bj:=qL ar;clear L T ar aK aj hz q1 q2 x0 x1 x2 x3 y0 y1 y2 y3 f1 g2 z2
  go_wp2_with (go_at_call 51;refine(zt8 (x:=c) (c:=c+1) rfl a9 _).mono ?_;rintro e w6 ⟨rfl,rfl⟩)
  have bL:∀x y:Value,((w6.setCell ⟨b,3,none⟩ x).setCell ⟨b,4,none⟩ y).heap[w.heap.size]?=some (.cells #[.int .u64 0,.int .u64 0,.int .u64 0,.string ⟨#[]⟩] 66 (0,0)):=λx y=>(tv _ _ _ _ (Uk ad)).trans ((tv _ _ _ _ (Uk ad)).trans bD.o);refine tx (zs4 (cs:=#[.int .u64 i,.int .u64 F,.int .u64 c,.string v]) rfl rfl (by simpa using zsw (zsw (zsw (zsw (bL _ _) 0 _) 1 _) 2 _) 3 _) underlying66 dM) rfl ?_;have P:¬(w.heap.size<w.heap.size):=tg _;have aV:∀x y a1 a2 H a4:Value,Keep (λk=>k=b\/k=m) w ((((((w6.setCell ⟨b,3,none⟩ x).setCell ⟨b,4,none⟩ y).setCell ⟨w.heap.size,0,none⟩ a1).setCell ⟨w.heap.size,1,none⟩ a2).setCell ⟨w.heap.size,2,none⟩ H).setCell ⟨w.heap.size,3,none⟩ a4):=λx y a1 a2 H a4=>
   (((((aQ.o.setCell (p:=⟨b,3,none⟩) (λ_=>.inl rfl) x).setCell (p:=⟨b,4,none⟩) (λ_=>.inl rfl) y).setCell (p:=⟨w.heap.size,0,none⟩) (λh=>absurd h P) a1).setCell (p:=⟨w.heap.size,1,none⟩) (λh=>absurd h P) a2).setCell (p:=⟨w.heap.size,2,none⟩) (λh=>absurd h P) H).setCell (p:=⟨w.heap.size,3,none⟩) (λh=>absurd h P) a4
  refine⟨by rw[bq.o,<-ab.o];rfl,aV _ _ _ _ _ _,?_⟩;rw[bt.o,<-bn.o];have aI:∀(W:World)(k:Nat),k≠w.heap.size->∀a1 a2 H a4:Value,((((W.setCell ⟨w.heap.size,0,none⟩ a1).setCell ⟨w.heap.size,1,none⟩ a2).setCell ⟨w.heap.size,2,none⟩ H).setCell ⟨w.heap.size,3,none⟩ a4).heap[k]?=W.heap[k]?:=λW k hk _ _ _ _=>(tv _ _ _ _ hk).trans ((tv _ _ _ _ hk).trans ((tv _ _ _ _ hk).trans (tv _ _ _ _ hk)));have aX:∀k,k≠b->∀x y:Value,((w6.setCell ⟨b,3,none⟩ x).setCell ⟨b,4,none⟩ y).heap[k]?=w6.heap[k]?:=λk hk _ _=>(tv _ _ _ _ hk).trans (tv _ _ _ _ hk);have aS:=bp.o;rw[ab.o]at aS;refine⟨H,k3,?_,aS.keep ((aI _ m a9 _ _ _ _).trans (aX m (Uk aB) _ _)),bh.o.mono (λZ o h=>h.imp id λh=>⟨a9,?_⟩) λZ o x J hx=>?_⟩
  .refine(aI _ b ad _ _ _ _).trans ?_;have:=zsw (zsw bc.o 3 (.int .u64 ((c+1:Nat):Int))) 4 (.bool false);rw[ab.o]at this;simpa using this
  .have:=(aV (.int .u64 (c+1)) (.bool false) (.int .u64 i) (.int .u64 F) (.int .u64 c) (.string v)).size;have h5:=aQ.o.size;simp;omega
  .have ay:=tn j ⟨Z,o,none⟩ hx;have X:Z≠b/\Z≠m/\Z≠w.heap.size:=by
    rcases J with J|J
    .have:=HG.o.2 Z o J;exact⟨λe=>bH o (e▸J),λe=>bJ o (e▸J),a9⟩
    .exact⟨a9,a9,a9⟩
   exact(tk (a:=⟨Z,o,none⟩) ((aI _ Z X.2.2 _ _ _ _).trans ((aX Z X.1 _ _).trans ((bj.o Z (by have:Z<j.heap.size:=ay;omega) X.2.1 X.1).trans (aL.o.block Z ay))))).trans hx
end
section
open Go.Maps
attribute [go_sem] rcp rcc
def zvf(x y:Rc):Cn xt 73 [rcp x,rcp y] (.v (.bool (zs7 x y))):=by
 unfold zs7;refine zt func73 2 ?_;refine pw ?_;refine .i ?_ ?_<;>intro h<;>first|refine pw ?_|exact pd
 .simp[h]
 .refine .i ?_ ?_<;>intro j<;>first|refine pw ?_|exact pd
  .simp[h,j]
  .simp[h,j]
attribute [-go_sem] z7
def ztH{t B:Nat}{w:World}{l:List Rc}(h:MR t B w l){r:Nat}(C:r<zk):(Instr.lookup 89 (.map (some B)) (.int .u64 (r:Nat)) true).run xt w=.ok (.tuple #[rcv ((zrZ l r).getD zRc),.bool (zrZ l r).isSome]) w:=by obtain⟨D,u,E,y,A⟩:=h;obtain⟨v,F,j,o⟩:=u.look_ok vF underlying89 (zsv w) (zd:=.held zR) (zp:=[]) rfl (Zq C);rw[A r]at o;unfold rV at o;cases o;rw[y r]at j;exact j
def zuc{t B:Nat}{w:World}{l:List Rc}(h:MR t B w l)(F:zr8 l)(G:t<maxLen){y:Rc}(H:y.item<zk):∃o,(Instr.mapUpdate 89 (.map (some B)) (.int .u64 (y.item:Nat)) (rcv y)).run xt w=.ok () o/\MR (t+1) B o (zr4 l y)/\w.grownBy o (some B):=by obtain⟨D,u,A,C,E⟩:=h;obtain⟨o,j,I,J⟩:=u.update vF underlying89 G (Zq H) (val:=rcv y) rfl;exact⟨o,j,MR.put A C E F I,J⟩
def ztb{D:xT}{w:World}(x:Rc):Dat D w (.agg #[.int .u64 x.item,.int .u64 x.rep,.int .u64 x.ctr,.string x.val]) (rcp x):=by
 refine .agg _ _ rfl (λi hi=>?_) λi p j=>?_
 .match i,hi with
  |0,_=>rfl
  |1,_=>rfl
  |2,_=>rfl
  |3,_=>rfl
 .match i,j with
  |0,j=>cases j;exact .v _
  |1,j=>cases j;exact .v _
  |2,j=>cases j;exact .v _
  |3,j=>cases j;exact .v _
def zv2{D:xT}{t b m:Nat}{w:World}{l:List Rc}{x:Rc}(hG:Gd D w)(hb:w.cell? ⟨b,1,none⟩=some (.map (some m)))(hm:MR t m w l)(ha:zr8 l)(ht:t<1000000)(hx:x.item<zk)(an:∀o,¬D m o):
 Calls xt 31 #[.pointer (some ⟨b,0,none⟩),rcv x] w λe w'=>(∃u,e=.returned u)/\MR (t+1) m w' (zse l x)/\Keep (λk=>k=m) w w':=by
 have Y:=tn w _ hb;have ab:=hm.lt;obtain⟨B,K⟩:=xm (w.alloc (.cells #[.int .u64 x.item,.int .u64 x.rep,.int .u64 x.ctr,.string x.val] 66));have O:Below w.heap.size w B:=by rw[K];exact(tq _ w).alloc (Zp _) _
 have ag:B.heap.size=w.heap.size+1:=by rw[K];exact tu _ _
 have F:B.heap[w.heap.size]?=some (.cells #[.int .u64 x.item,.int .u64 x.rep,.int .u64 x.ctr,.string x.val] 66 (0,0)):=by rw[K];exact tl w _
 have Q:MR t m B l:=hm.keep (O.block m ab);have q1:=ztH (w:=B.drew) Q hx;have q2:=ztH (w:=(B.alloc (.cells #[.int .u64 0,.int .u64 0,.int .u64 0,.string ⟨#[]⟩] 66)).drew) (Q.keep (tr _ _ _ (by show m<B.heap.size;omega))) hx;have b1:B.cell? ⟨b,1,none⟩=some (.map (some m)):=(tk (a:=⟨b,1,none⟩) (O.block b Y)).trans hb;obtain⟨y,hy⟩:=xm ((zrZ l x.item).getD zRc);obtain⟨ok,ac⟩:=xm ((zrZ l x.item).isSome);rw[<-hy,<-ac]at q1 q2;dsimp only[rcv]at q1 q2⊢;have x0:B.cell? ⟨w.heap.size,0,none⟩=some (.int .u64 x.item):=(zW F 0 _ rfl).1;have x1:B.cell? ⟨w.heap.size,1,none⟩=some (.int .u64 x.rep):=(zW F 1 _ rfl).1;have x2:B.cell? ⟨w.heap.size,2,none⟩=some (.int .u64 x.ctr):=(zW F 2 _ rfl).1;have x3:B.cell? ⟨w.heap.size,3,none⟩=some (.string x.val):=(zW F 3 _ rfl).1;have HY:=qL hy;have af:=qL ac;have ah:=qL Q;have ai:=qL F;have U:=qL O;have HG:=qL hG;have HA:=qL ha;have am:xt.follows .mixedOrders=true:=dM
 clear hy ac Q F O hG ha hm hb;go_enter func31,ntmps31
 go_wp2_with fail
 rw [<-K];clear K;go_region;all_goals
  obtain⟨C,E⟩:=xm ((B.alloc (.cells #[.int .u64 y.item,.int .u64 y.rep,.int .u64 y.ctr,.string y.val] 66)).drew);have P:Below w.heap.size w C:=(by rw[E];exact(U.o.alloc a9 _).drew);have ao:C.heap.size=w.heap.size+2:=(by rw[E];show (B.alloc _).heap.size=_;rw[tu,ag]);have M:C.heap[w.heap.size+1]?=some (.cells #[.int .u64 y.item,.int .u64 y.rep,.int .u64 y.ctr,.string y.val] 66 (0,0)):=(by rw[E,<-ag];exact tl B _);have G:C.heap[w.heap.size]?=some (.cells #[.int .u64 x.item,.int .u64 x.rep,.int .u64 x.ctr,.string x.val] 66 (0,0)):=(by rw[E];exact(tr _ _ _ a9).trans ai.o);rw[<-E];have H:=qL P;have aj:=qL G;have I:=qL (ah.o.keep ((P.block m ab).trans (U.o.block m ab).symm));have ak:C.cell? ⟨b,1,none⟩=some (.map (some m)):=(tk (a:=⟨b,1,none⟩) ((P.block b Y).trans (U.o.block b Y).symm)).trans b1;have z0:C.cell? ⟨w.heap.size,0,none⟩=some (.int .u64 x.item):=(zW G 0 _ rfl).1;have z1:C.cell? ⟨w.heap.size,1,none⟩=some (.int .u64 x.rep):=(zW G 1 _ rfl).1;have z2:C.cell? ⟨w.heap.size,2,none⟩=some (.int .u64 x.ctr):=(zW G 2 _ rfl).1;have z3:C.cell? ⟨w.heap.size,3,none⟩=some (.string x.val):=(zW G 3 _ rfl).1;have y0:C.cell? ⟨w.heap.size+1,0,none⟩=some (.int .u64 y.item):=(zW M 0 _ rfl).1;have y1:C.cell? ⟨w.heap.size+1,1,none⟩=some (.int .u64 y.rep):=(zW M 1 _ rfl).1;have y2:C.cell? ⟨w.heap.size+1,2,none⟩=some (.int .u64 y.ctr):=(zW M 2 _ rfl).1;have y3:C.cell? ⟨w.heap.size+1,3,none⟩=some (.string y.val):=(zW M 3 _ rfl).1;clear E P M G x0 x1 x2 x3 q1 q2 b1;cases ok with
  | false=>
    have hn:zrZ l x.item=none:=by
     have:=af.o;cases hg:zrZ l x.item with
     |none=>rfl
     |some z=>rw[hg]at this;cases this
    obtain⟨T,r1,r2,r3⟩:=zuc (w:=C.drew) I.o HA.o dF (y:=x) hx;dsimp only[rcv]at r1;have V:=qL r2;have X:=qL r3;clear r2 r3
    go_wp2_with fail
    go_region;all_goals
     go_wp2_with fail
     go_end0
     refine⟨⟨_,rfl⟩,?_,(Keep.of_below' H.o (Zp _)).drew.grown X.o λk e _=>dL e.symm⟩;unfold zse;rw[hn];exact V.o
  | true=>
    have hn:zrZ l x.item=some y:=by
     have h1:=af.o;have h2:=HY.o;cases hg:zrZ l x.item with
     |none=>rw[hg]at h1;cases h1
     |some z=>rw[hg]at h2;rw[h2];rfl
    have J:=cn_bool (zvf x y) (vs:=#[.agg #[.int .u64 x.item,.int .u64 x.rep,.int .u64 x.ctr,.string x.val],.agg #[.int .u64 y.item,.int .u64 y.rep,.int .u64 y.ctr,.string y.val]]) (HG.o.keep (Keep.of_below' (S:=qe) H.o (Zp _)) λ_ _ _=>id).1 (HG.o.keep (Keep.of_below' (S:=qe) H.o (Zp _)) λ_ _ _=>id).2 rfl λj p hp=>by
     match j,hp with
     |0,hp=>cases hp;exact ztb x
     |1,hp=>cases hp;exact ztb y
     |j+2,hp=>simp at hp
    obtain⟨la,Z⟩:=xm (zs7 x y);rw[<-Z]at J;have ae:=qL J;have ad:=qL Z;clear J Z;cases la with
    | false=>
      go_wp2_with (go_at_call 73;refine ae.o.mono ?_;rintro e T ⟨rfl,A⟩;have N:=qL A;clear A)
      go_end0
      have hk:=(Keep.of_below' (S:=λk=>k=m) H.o (Zp _)).trans (Keep.of_below' N.o (Zp _));refine⟨⟨_,rfl⟩,?_,hk⟩;unfold zse;rw[hn];dsimp only;rw[<-ad.o,vD b7];exact(I.o.keep (N.o.block m I.o.lt)).mono a9
    | true=>
      go_wp2_with (go_at_call 73;refine ae.o.mono ?_;rintro e T ⟨rfl,A⟩
                   obtain⟨w4,r1,r2,r3⟩:=zuc (w:=T.drew) (I.o.keep (A.block m I.o.lt)) HA.o dF (y:=x) hx;dsimp only[rcv]at r1;have L:=(A.block _ a9).trans aj.o;have b3:T.cell? ⟨b,1,none⟩=some (.map (some m)):=(tk (a:=⟨b,1,none⟩) (A.block b a9)).trans ak;have v0:T.cell? ⟨w.heap.size,0,none⟩=some (.int .u64 x.item):=(zW L 0 _ rfl).1;have v1:T.cell? ⟨w.heap.size,1,none⟩=some (.int .u64 x.rep):=(zW L 1 _ rfl).1;have v2:T.cell? ⟨w.heap.size,2,none⟩=some (.int .u64 x.ctr):=(zW L 2 _ rfl).1;have v3:T.cell? ⟨w.heap.size,3,none⟩=some (.string x.val):=(zW L 3 _ rfl).1;have V:=qL r2;have X:=qL r3;have N:=qL A;clear r2 r3 A L)
      go_region;all_goals
       go_wp2_with fail
       go_end0
       have hk:=(Keep.of_below' (S:=λk=>k=m) H.o (Zp _)).trans (Keep.of_below' N.o (Zp _));refine⟨⟨_,rfl⟩,?_,hk.drew.grown X.o λk e _=>dL e.symm⟩;unfold zse;rw[hn];dsimp only;rw[<-ad.o,vj rfl];exact V.o
end
section
attribute [go_sem] lp
def rfc(s:Rs):List PV:=[.v (.int .u64 s.id),lp s.recs,kp s.known,.v (.int .u64 s.next),.v (.bool false)]
attribute [go_sem] rfc
def zuQ(s:Rs)(i:Nat)(u:s.recs.length<=1000000):Cn xt 53 [.cp (rfc s) 0,.v (.int .u64 i)] (.v (.int .i64 (ixR s.recs i 0))):=by
 refine zt func53 2 ?_;refine pw ?_;refine pLoop.go (λk=>k<=s.recs.length/\ixR s.recs i 0=ixR (s.recs.drop k) i k) (λk=>[(5,.v (.int .i64 (k:Nat)))]) (λ_=>[]) (λk=>s.recs.length-k) 0 [5] ?_ ?_ ?_
 .exact⟨X4 _,rfl⟩
 .exact pd
 .rintro k ⟨hk,j⟩;refine pw ?_;refine .i ?_ ?_<;>intro h<;>first|refine pw ?_|exact pd
  .rw[Vq h,ixR]at j;refine pw ?_;refine .i ?_ ?_<;>intro o<;>first|refine pw ?_|exact pd
   .rw[vj o]at j;rw[j]
   .rw[vD o]at j;exact⟨k+1,⟨h,j⟩,a9,rfl⟩
  .rw[j,wE a9];rfl
def ztX(x y:Rc):Cn xt 60 [rcp x,rcp y] (.v (.bool (zs7 x y))):=by
 unfold zs7;refine zt func60 2 ?_;refine pw ?_;refine .i ?_ ?_<;>intro h<;>first|refine pw ?_|exact pd
 .simp[h]
 .refine .i ?_ ?_<;>intro j<;>first|refine pw ?_|exact pd
  .simp[h,j]
  .simp[h,j]
def ztz(s:Rs)(k:List Fg)(items:List Iv)(F:s.recs.length<=1000000)(E:∀x∈s.recs,x.ctr<zk)(hi:Nrm items)(A:items.length<=1000000)(C:RightK k)(hz:QW k):Cn xt 59 [.cp (rfc s) 0,kp k,rg items] (lp (zs0 s k items)):=by
 unfold zs0;refine zt func59 3 ?_;refine pw ?_;refine pLoop.go (λj=>j<=s.recs.length) (λj=>[(7,.sl (((s.recs.take j).filter λx=>mem items x.item && !hasK k x.item x.rep x.ctr).map rcc) (.r 44 4)),(8,.v (.int .i64 (j:Nat)))]) (λ_=>[]) (λk=>s.recs.length-k) 0 [7,8] ?_ ?_ ?_
 .exact X4 _
 .exact pd
 .rintro j hk;have B:((s.recs.take j).filter λx=>mem items x.item && !hasK k x.item x.rep x.ctr).length<=j:=VS (WC _ _) b6;refine pw ?_;refine .i ?_ ?_<;>intro h<;>first|refine pw ?_|exact pd
  .have o:s.recs.take (j+1)=s.recs.take j++[s.recs[j]]:=X3 h;have w:=E _ (Yf h);refine pw ?_;refine .c (kU items s.recs[j].item a9) ?_;refine .i ?_ ?_<;>intro u<;>first|refine pw ?_|exact pd
   .refine .c (zid k s.recs[j].item s.recs[j].rep s.recs[j].ctr C w hz) ?_;refine .i ?_ ?_<;>intro y<;>first|refine pw ?_|exact pd
    .refine⟨j+1,h,a9,?_,rfl⟩;rw[o,ut,uu,u,y];simp;rfl
    .refine⟨j+1,h,a9,?_,rfl⟩;rw[o,ut,uu,u,y];simp
   .refine⟨j+1,h,a9,?_,rfl⟩;rw[o,ut,uu,u];simp
  .rw[wj a9]
def ztR(l:List Opn):Bool:=decide (l.length<=25) && l.all λo=>decide (o.val.size<=100) && decide (o.items.length<=10)
attribute [go_sem] opc
def zp1(s:ByteArray)(c k:Int)(w:World)(E:HG w):Calls xt 57 #[.iface 141 (.agg #[.string s,.iface 123 (.agg #[.int .i64 c,.int .i64 k])]),.iface 178 (.pointer (some ⟨w.heap.size+1,0,none⟩))] ((w.alloc z2).alloc z2)
 λev j=>ev=.returned (.bool true)/\Below (w.heap.size+1) (w.alloc z2) j/\j.cell? ⟨w.heap.size+1,0,none⟩=some (.int .i64 c)/\j.cell? ⟨w.heap.size+1,1,none⟩=some (.int .i64 k):=by
 have y:∀o,o<2->((w.alloc z2).alloc z2).cell? ⟨w.heap.size+1,o,none⟩=some (.int .i64 0):=λo ho=>by
  have:w.heap.size+1=(w.alloc z2).heap.size:=b7;rw[this];unfold z2;match o,ho with
  |0,_=>simp
  |1,_=>simp
 have A:∀o,o<2->((w.alloc z2).alloc z2).frozen? ⟨w.heap.size+1,o,none⟩=false:=λo ho=>by
  have:w.heap.size+1=(w.alloc z2).heap.size:=b7;rw[this];unfold z2;match o,ho with
  |0,_=>simp
  |1,_=>simp
 refine(zqg s c k (w.heap.size+1) _ ((E.alloc _).alloc _) (y 0 a9) (y 1 a9) (A 0 a9) (A 1 a9)).mono ?_;rintro ev j ⟨rfl,hk,B,C⟩;refine⟨rfl,?_,B,C⟩;have u:Keep (λb=>b=w.heap.size+1) (w.alloc z2) j:=((Keep.refl _ (w.alloc z2)).alloc z2).trans hk;exact u.below b7 λq F e=>a9
def zqT(s:ByteArray)(c k:Int)(w:World)(G:HG w):Calls xt 58 #[.iface 141 (.agg #[.string s,.iface 123 (.agg #[.int .i64 c,.int .i64 k])])] w λe H=>e=.returned (.tuple #[.agg #[.int .i64 c,.int .i64 k],.bool true])/\Below w.heap.size w H:=by
 go_enter func58,ntmps58
 go_wp2_with (go_at_call 57;refine(zp1 s c k w G).mono ?_;rintro e j ⟨rfl,hb,B,C⟩;have u:j.cell? ⟨w.heap.size,0,none⟩=some (.int .i64 0):=(hb.cell (p:=⟨w.heap.size,0,none⟩) b7).trans (by unfold z2;simp);have y:j.cell? ⟨w.heap.size,1,none⟩=some (.int .i64 0):=(hb.cell (p:=⟨w.heap.size,1,none⟩) b7).trans (by unfold z2;simp);have E:j.frozen? ⟨w.heap.size,0,none⟩=false:=(hb.frozen (p:=⟨w.heap.size,0,none⟩) b7).trans (by unfold z2;simp);have F:j.frozen? ⟨w.heap.size,1,none⟩=false:=(hb.frozen (p:=⟨w.heap.size,1,none⟩) b7).trans (by unfold z2;simp);have o:Below w.heap.size w j:=((tq _ w).alloc (Zp _) _).trans (hb.mono a9))
 have A:(j.setCell ⟨w.heap.size,0,none⟩ (.int .i64 c)).cell? ⟨w.heap.size,0,none⟩=some (.int .i64 c):=tT _ _ _ u;have e1:((j.setCell ⟨w.heap.size,0,none⟩ (.int .i64 c)).setCell ⟨w.heap.size,1,none⟩ (.int .i64 k)).cell? ⟨w.heap.size,1,none⟩=some (.int .i64 k):=World.cell?_setCell_same' _ _ _ (by rw[Tw _ _ _ _ b7,y];rfl);refine tx (v:=.tuple #[.agg #[.int .i64 c,.int .i64 k],.bool true]) (by simp[results,Tryz.results58,go_sem,A,e1,Result.andThen]) rfl ⟨rfl,?_⟩;exact tW (tW o b7 _) b7 _
def zpW(s:ByteArray)(x:Nat×Int)(o:x.1≠0):Cn xt 24 [zou s x] (.v (.int .i64 x.1)):=by unfold zou;rw[zmb o];refine KK rfl (enters_of func24 dM rfl) λD w B y A j u=>?_;have d0:=zo1 (u 0 _ rfl);rw[zjw j,d0];refine(zqS s x.1 x.2 w y).mono ?_;rintro e C ⟨rfl,hb⟩;exact⟨_,rfl,hb,.v _⟩
def zqA(s:ByteArray)(x:Nat×Int)(y:x.1≠0):Cn xt 58 [zou s x] (.tup [.agg [.v (.int .i64 x.1),.v (.int .i64 x.2)],.v (.bool true)]):=by
 unfold zou;rw[zmb y];refine KK rfl (enters_of func58 dM rfl) λD w E B C u A=>?_;have d0:=zo1 (A 0 _ rfl);rw[zjw u,d0];refine(zqT s x.1 x.2 w B).mono ?_;rintro e F ⟨rfl,hb⟩;refine⟨_,rfl,hb,.tup _ _ rfl λj p o=>?_⟩;match j,o with
 |0,o=>cases o;exact znT (.v _) (.v _) rfl rfl
 |1,o=>cases o;exact .v _
 |j+2,o=>simp at o
def zrc(s:ByteArray)(x:Nat×Int)(j:x.1≠0):Cn xt 25 [zou s x] (.v (.int .i64 x.2)):=by refine zt func25 1 ?_;refine pw ?_;exact .d (zqA s x j)
def zqK(s:ByteArray)(x:Nat×Int)(j:x.1≠0):Cn xt 33 [.v (.string s),jS x.1 x.2] (zou s x):=by
 unfold zou;rw[zmb j];refine zt func33 2 ?_;refine pw ?_;first|trivial|rfl|(unfold qv;rfl)|(simp[qv];done)
end
section
open Go.Maps
attribute [-go_sem] z7
def ztw:∀{r xs:List Nat},r.Nodup->(∀y∈r,y∈xs)->r.length<=xs.length
 |[],_,_,_=>X4 _
 |x::r,xs,h,hm=>by obtain⟨u,w⟩:=UD.1 h;have j:x∈xs:=hm x b7;have:=ztw (xs:=xs.erase x) w λy o=>(WW (λe=>u (by rw[<-e];exact o))).2 (hm y (by simp[o]));rw[WF j]at this;have:=uj j;simp;omega
def MR.hasq{D:DV}{l:List Rc}(j:∀r,has D (kR r)=(zrZ l r).isSome){x:Nat}:ztm D x↔(zrZ l x).isSome=true/\x<zk:=by unfold ztm;rw[show kQ x=kR x from rfl,j x]
def zt7{D:DV}{l:List Rc}(u:∀r,has D (kR r)=(zrZ l r).isSome){pre:List Nat}(h:ztD D pre):pre.length<=l.length:=by
 have:=ztw (xs:=l.map Rc.item) h.1 λy w=>by obtain⟨z,hz⟩:=wW.1 ((MR.hasq u).1 (h.2 y w)).1;obtain⟨j,o⟩:=zsB hz;exact wy.2 ⟨z,j,o⟩
 simpa using this
def zuh{t B y:Nat}{w:World}{D:DV}(j:w.ownsMap xt 36 rV B t D)(o:Boxed w y 89 (.map (some B)))(I:∀pre,ztD D pre->pre.length<=1000000):
 Calls xt 117 #[.func (.func 119) #[] #[.pointer (some ⟨y,0,none⟩)]] w λe A=>∃u pre,e=.returned u/\OwnN w.heap.size A u pre/\ztD D pre/\(∀x,x∈pre↔ztm D x)/\Below w.heap.size w A:=by
 have H:=qL (ztF j o I);clear j o;go_enter func117,ntmps117
 go_wp2_with (go_at_call 162;refine H.o.mono ?_;rintro e J ⟨u,pre,rfl,C,E,F,G⟩)
 go_ret;exact⟨_,pre,rfl,C,E,F,G⟩
def ztu{l:List Rc}(A:zr8 l){j:List Nat}(o:j.Pairwise (·<=·))(u:j.Nodup)(w:∀x,x∈j↔(zrZ l x).isSome=true):j=l.map Rc.item:=by
 refine jK ?_ (uz.2 A) λx=>?_
 .exact o.imp₂ (λa b h n=>a9) u
 .rw[w x];constructor
  .intro h;obtain⟨z,hz⟩:=wW.1 h;obtain⟨B,C⟩:=zsB hz;exact wy.2 ⟨z,B,C⟩
  .intro h;obtain⟨z,hz,rfl⟩:=wy.1 h;cases hg:zrZ l z.item with
   |some y=>rfl
   |none=>unfold zrZ at hg;rw[uP]at hg;exact absurd b7 (hg z hz)
def zuC(a:Option Addr)(c:Nat)(w:World):Calls xt 198 #[.slice a 0 c,.int .i64 0,.int .i64 0] w λe j=>e=.returned (.tuple #[])/\j=w:=by
 go_enter func198,ntmps198
 go_wp2_with fail
 refine Ti 2 ?_;rw[tZ]
 go_wp2_with fail
 go_end0
 exact⟨rfl,rfl⟩
def zuL(a:Option Addr)(c:Nat)(l:Int)(w:World):Calls xt 163 #[.slice a 0 c,.int .i64 0,.int .i64 0,.int .i64 l] w λe j=>e=.returned (.tuple #[])/\j=w:=by
 go_enter func163,ntmps163
 go_wp2_with fail
 refine Ti 2 ?_;rw[tZ]
 go_wp2_with (go_at_call 198;refine(zuC _ _ _).mono ?_;rintro e o ⟨rfl,rfl⟩)
 refine tx (tJ rfl _ _ _) rfl ?_;exact⟨rfl,rfl⟩
def zuq(a:Option Addr)(c:Nat)(w:World):Calls xt 118 #[.slice a 0 c] w λe j=>e=.returned (.tuple #[])/\Below w.heap.size w j:=by
 go_enter func118,ntmps118
 go_wp2_with (first
  |(go_at_call 163;refine(zuL _ _ _ _).mono ?_;rintro e o ⟨rfl,rfl⟩)
  |go_in)
 go_end0
 exact⟨rfl,tq _ _⟩
def ztZ{w o:World}{u:Value}{l:List Rc}{pre:List Nat}(E:zr8 l)(B:OwnN w.heap.size o u pre)(L:pre.Nodup)(K:pre.length<=1000000)(C:∀x,x∈pre↔(zrZ l x).isSome=true)(y:Below w.heap.size w o):
 Calls xt 118 #[u] o λe A=>e=.returned (.tuple #[])/\OwnU w.heap.size A u (l.map Rc.item)/\Below w.heap.size w A:=by
 have j:OwnU w.heap.size o u pre:=B;by_cases F:pre=[]
 .subst F;have e:[]=l.map Rc.item:=ztu E List.Pairwise.nil UN C;obtain⟨a,c,rfl⟩:∃a c,u=.slice a 0 c:=by
   rcases B.2 with⟨h,K⟩|⟨g,H,I,h,_⟩
   .exact⟨none,0,h⟩
   .exact⟨_,_,h⟩
  refine(zuq a c o).mono ?_;rintro J A ⟨rfl,hb⟩;rw[<-e];exact⟨rfl,j.keep λg M=>hb.block g (j.lt g M).2,y.trans (hb.mono y.size)⟩
 .obtain⟨S,G,N,O⟩:=zeb j F a9;have e:S=l.map Rc.item:=ztu E N (G.nodup_iff.2 L) λx=>(by rw[G.mem_iff,C x]);refine O.mono ?_;rintro J A ⟨rfl,P,Q⟩;rw[<-e];exact⟨rfl,P,y.grown Q y.size λk hk=>(j.lt k hk).1⟩
def ztB{t B F:Nat}{w:World}{l:List Rc}(J:zr8 l)(X:MR t B w l)(hi:∀x∈l,x.item<zk)(y:Boxed w F 89 (.map (some B)))(K:l.length<=1000000):
 Calls xt 80 #[.func (.func 119) #[] #[.pointer (some ⟨F,0,none⟩)]] w λe M=>∃u,e=.returned u/\OwnU w.heap.size M u (l.map Rc.item)/\Below w.heap.size w M:=by
 obtain⟨D,j,_,o,_⟩:=X;have H:=qL (zuh j y λpre h=>VS (zt7 o h) K);have N:=qL J;have G:=qL o;have O:=qL hi;clear j y J o hi;go_enter func80,ntmps80
 go_wp2_with (go_at_call 117;refine H.o.mono ?_;rintro e w1 ⟨u,pre,rfl,C,E,o,I⟩
              have L:∀x,x∈pre↔(zrZ l x).isSome=true:=λx=>(by rw[o x,MR.hasq G.o];refine⟨UO,λh=>⟨h,?_⟩⟩;obtain⟨z,hz⟩:=wW.1 h;obtain⟨Y,Z⟩:=zsB hz;rw[<-Z];exact O.o z Y);have A:=ztZ N.o C E.1 (VS (zt7 G.o E) K) L I;obtain⟨ua,uc,rfl⟩:∃a c,u=.slice a pre.length c:=by
               rcases C.2 with⟨h,T⟩|⟨g,Q,S,h,_⟩
               .exact⟨none,0,by rw[h,show pre.length=0 from T]⟩
               .exact⟨_,_,h⟩
              have P:=qL A;clear C E o I A L)
 refine P.o.mono ?_;rintro e w2 ⟨rfl,U,V⟩;dsimp only
 go_wp2_with fail
 refine tx (tI rfl _ _ _) rfl ?_;exact⟨_,rfl,U,V⟩
end
section
attribute [-go_sem] z7
def zvi{D:xT}{base sz:Nat}{w:World}{e:TypeId}{v:Value}{B:List (List PV)}{C:List Value}(h:w.ownsRow base e sz v B.length C)(hs:∀(i:Nat)(p:List PV),B[i]?=some p->p.length=sz)(M:∀u∈C,u.oneCell'=true)(P:∀b o,base<=b->b<w.heap.size->D b o)
 (X:∀(i:Nat)(l:List PV)(j:Nat)(p:PV),B[i]?=some l->l[j]?=some p->∃u,C[i*sz+j]?=some u/\Dat D w u p):Dat D w v (.sl B .sh):=by
 have Z:=h.1;rcases h.2 with⟨rfl,L⟩|⟨g,y,K,rfl,S,Q,T,I,hz,ht⟩
 .rw[wV.1 L];exact .sl none 0 sz [] .sh 0 0 (λ_=>undef) (Zp _) (λh=>by cases h) b9 (λh=>absurd rfl h) (λi e h=>by simp at h) (λj h=>by simp at h) (λi e j p h=>by simp at h)
 .have F:=(XE.1 Q).1;by_cases E:B=[]
  .subst E;exact .sl _ y sz [] .sh g 0 (λ_=>undef) (X4 _) (λh=>by cases h) I (λ_=>rfl) (λi e h=>by simp at h) (λj h=>by simp at h) (λi e j p h=>by simp at h)
  have J:=wU.2 E;have H:∀j u,C[j]?=some u->w.cell? ⟨g,j,none⟩=some u:=λj u V=>(by have:=tH h (g:=g) (by cases y with|zero=>omega|succ c=>rfl) j u V;rw[zh,wk]at this;exact this);refine .sl _ y sz B .sh g 0 (λj=>(C[j]?).getD undef) T (λh=>by cases h) I (λ_=>rfl) hs (λj Y=>?_) (λi l j p G U=>?_)
  .have A:j<C.length:=a9;rw[Zv A,wk];exact⟨P g j S F,H j _ (Zv A),M _ (Yf A)⟩
  .obtain⟨u,N,O⟩:=X i l j p G U;rw[N];exact O
def rcs(x:Rc):List Value:=[.int .u64 x.item,.int .u64 x.rep,.int .u64 x.ctr,.string x.val]
def OwnL(e:TypeId)(base:Nat)(w:World)(v:Value)(l:List Rc):Prop:=w.ownsRow base e 4 v l.length (l.flatMap rcs)
def zsD:∀{l:List Rc}{i:Nat}(h:i<l.length){j:Nat},j<4->(l.flatMap rcs)[i*4+j]?=(rcs l[i])[j]?
 |x::l,0,_,j,hj=>by rw[We,V1 (by simp[rcs];omega),Nat.zero_mul,wk];rfl
 |x::l,i+1,h,j,hj=>by rw[We,V0 (by simp[rcs];omega),show (i+1)*4+j-(rcs x).length=i*4+j by simp[rcs];omega,zsD (dL h) hj];rfl
def zs3{l:List Rc}:∀u∈l.flatMap rcs,u.oneCell'=true:=λu j=>by
 obtain⟨x,_,h⟩:=up.1 j;simp[rcs]at h;rcases h with rfl|rfl|rfl|rfl<;>rfl
def OwnL.dat{D:xT}{e:TypeId}{base:Nat}{w:World}{v:Value}{l:List Rc}(h:OwnL e base w v l)(A:∀b o,base<=b->b<w.heap.size->D b o):Dat D w v (lp l):=by
 refine zvi (sz:=4) (e:=e) (base:=base) (by rw[wt];exact h) (λi p u=>?_) zs3 A λi q j p y u=>?_
 .rw[wh]at u;obtain⟨x,_,rfl⟩:=ZZ.1 u;rfl
 .rw[wh]at y;obtain⟨x,B,rfl⟩:=ZZ.1 y;obtain⟨hi,rfl⟩:=Zw.1 B;match j,u with
  |0,u=>cases u;exact⟨_,zsD hi a9,.v _⟩
  |1,u=>cases u;exact⟨_,zsD hi a9,.v _⟩
  |2,u=>cases u;exact⟨_,zsD hi a9,.v _⟩
  |3,u=>cases u;exact⟨_,zsD hi a9,.v _⟩
def OwnL.val{e:TypeId}{base:Nat}{w:World}{v:Value}{l:List Rc}(h:OwnL e base w v l):∃a c,v=.slice a l.length c:=by
 rcases h.2 with⟨h,u⟩|⟨g,j,o,h,_⟩
 .exact⟨none,0,by rw[h,u]⟩
 .exact⟨_,_,h⟩
def zvb{l:List Rc}(u:zr8 l){j:Nat}(o:j<l.length):zrZ l l[j].item=some l[j]:=by
 cases hg:zrZ l l[j].item with
 |none=>unfold zrZ at hg;rw[uP]at hg;exact absurd b7 (hg _ (Yf o))
 | some y=>
   obtain⟨w,A⟩:=zsB hg;obtain⟨i,hi,rfl⟩:=Wd w;rcases WK i j with h|h|h
   .have:=wI.1 u i j hi o h;omega
   .subst h;rfl
   .have:=wI.1 u j i o hi h;omega
def zuW{P:Program}{f:FuncId}{t:Tmp}{xs:List Operand}{j:Array Value}{c:Call}{o:Oper}{a:Act}{w:World}{K:Act->World->Prop}{Q:Exit->Act->World->Prop}(ho:o.op=.call c)(B:c.callee=.value (.tmp t))(F:a.eval (.tmp t)=.func (.func f) #[] j)(A:c.args.toList=xs)
 (C:∀u w,(callFunc f u).run P w=.ok (.enter f u) w)
 (h:Calls P f ((xs.map a.eval).toArray++j) w λe y=>match e with|.returned v=>K (a.put o.dst v) y|.panicked chain=>Q (.panic chain) a y|.outgrown=>LetsOut Q):o.wp P a w K Q:=by
 have E:(execOp a.eval o).run P w=.ok (.enter f ((xs.map a.eval).toArray++j)) w:=by have e:c.args.map a.eval=(xs.map a.eval).toArray:=WD.1 (by rw[WS,A]);simp only[execOp,ho,resolve,B,e,F,Deferred.ofValue,tC,tG,tw,invoke];rw[show (#[]++(xs.map a.eval).toArray++j:Array Value)=(xs.map a.eval).toArray++j from by simp];exact C _ _
 unfold Oper.wp;rw[E,t9];exact h.mono (λe G h=>by cases e<;>exact h)
def zvP:(xt.info? 66).map (λi=>(i.zero,i.size,i.bytes))=some (some zR,4,40):=dM
def ztO{D:xT}{t b m:Nat}{w:World}{s:Rs}{q:Rc->Bool}{f:FuncId}{cap:Array Value}(hR:Rpl D t w b m s)(ha:zr8 s.recs)(hl:s.recs.length<=1000000)(hi:∀x∈s.recs,x.item<zk)(he:∀Q w,(callFunc f Q).run xt w=.ok (.enter f Q) w)
 (hf:∀x∈s.recs,∀W,Below w.heap.size w W->Calls xt f (#[rcv x]++cap) W λe w'=>e=.returned (.bool (q x))/\Below W.heap.size W w') :
 Calls xt 36 #[.pointer (some ⟨b,0,none⟩),.func (.func f) #[] cap] w λe w'=>∃v,e=.returned v/\Below w.heap.size w w'/\OwnL 66 w.heap.size w' v (s.recs.filter q):=by
 obtain⟨ka,kc,h1,h2,h3⟩:=hR;have c1:w.cell? ⟨b,1,none⟩=some (.map (some m)):=(zW h1 1 _ rfl).1;have hb:=(XE.1 h1).1;have HB:=qL h1;have HM:=qL h2;have HA:=qL ha;have HI:=qL hi;have HE:=qL he;have HF:=qL hf;obtain⟨n,hn⟩:=xm (s.recs.length);have HN:=qL hn;rw[<-hn]at hl;obtain⟨i0,ai,aq,ar,au⟩:=tN zvP;have A:=qL (And.intro ai (And.intro aq (And.intro ar au)));clear h1 h2 h3 ha hi he hf hn ai aq ar au;go_enter func36,ntmps36
 go_wp2_with (first
  |(go_at_call 81;refine(zuG _ _).mono ?_;rintro e w1 ⟨rfl,rfl⟩)
  | (go_at_call 80;refine(ztB HA.o (HM.o.keep (tr _ _ _ HM.o.lt)) HI.o (tQ w _ _) (by rw[<-HN.o];omega)).mono ?_
     rintro e F ⟨u2,rfl,Z,P⟩;obtain⟨a2,c2,rfl⟩:∃a c,u2=.slice a n c:=by
      have aj:(s.recs.map Rc.item).length=n:=(by rw[wt,HN.o]);rcases Z.2 with⟨h,h0⟩|⟨g,cap,X,h,_⟩
      .exact⟨none,0,by rw[h,<-aj,h0]⟩
      .exact⟨_,_,by rw[h,aj]⟩
     have ac:=qL Z;have H:w.heap.size<=F.heap.size:=(by have:=P.size;simp only[tu]at this;omega);have K:=qL (((tq _ w).alloc (Zp _) _).trans (P.mono b7));have aD:=P.size;simp only[tu]at aD;clear Z P))
 go_loopg [5,16] n (λg y x wr=>∃j,j<=n/\g=n-j/\x=.int .i64 j/\OwnL 66 F.heap.size wr y ((s.recs.take j).filter q)/\Below F.heap.size F wr)
 case atStart=>exact⟨0,X4 _,rfl,rfl,tR _ _ _ _,tq _ _⟩
 case round=>
  obtain⟨j,hj,rfl,rfl,ab,o⟩:=hrel;have aB:=qL ab;have aw:=qL o;have aE:=o.size;by_cases Y:j<n
  .have B:j<s.recs.length:=(by rw[<-HN.o];exact Y);obtain⟨x,hx⟩:=xm (s.recs[j]);have G:x∈s.recs:=(by rw[hx];exact Yf B);have T:zrZ s.recs x.item=some x:=(by rw[hx];exact zvb HA.o B);have an:s.recs.take (j+1)=s.recs.take j++[x]:=(by rw[hx];exact X3 B);obtain⟨g,rfl,hg,cg⟩:∃g,a2=some ⟨g,0,none⟩/\g<F.heap.size/\wr.cell? ⟨g,j,none⟩=some (.int .u64 x.item):=by
    rcases ac.o.2 with⟨_,h0⟩|⟨g,cap,X,h,hg,hc,af,_,_,_⟩
    .rw[wt,<-HN.o]at h0;omega
    .obtain⟨rfl,_,rfl⟩:a2=some ⟨g,0,none⟩/\n=(s.recs.map Rc.item).length/\c2=cap:=(dL h);have ah:=(XE.1 hc).1;rw[wt,<-HN.o]at af;have:=tH ac.o (g:=g) (by cases c2 with|zero=>omega|succ c=>rfl) j (.int .u64 x.item) (by rw[Ub,wh,Zv B,<-hx];rfl);rw[zh,wk]at this;exact⟨g,rfl,ah,(tk (a:=⟨g,j,none⟩) (o.block g ah)).trans this⟩
   have cb:wr.cell? ⟨b,1,none⟩=some (.map (some m)):=(tk (a:=⟨b,1,none⟩) ((o.block b a9).trans (K.o.block b hb))).trans c1;have ak:MR t m wr s.recs:=HM.o.keep ((o.block m (by have:=HM.o.lt;omega)).trans (K.o.block m HM.o.lt));have aG:=HI.o x G;have aH:((s.recs.take j).filter q).length<=j:=VS (WC _ _) b6;have HG:=qL T;have ay:=qL ak;have ax:=qL (HF.o x G);have ad:=qL an;obtain⟨J,aF⟩:∃J,J=wr:=⟨wr,rfl⟩;subst aF;obtain⟨wb,I⟩:=xm (J.alloc (.cells #[.int .u64 x.item,.int .u64 x.rep,.int .u64 x.ctr,.string x.val] 66));have aJ:wb.heap.size=J.heap.size+1:=(by rw[I];simp);have ao:wb.heap[J.heap.size]?=some (.cells #[.int .u64 x.item,.int .u64 x.rep,.int .u64 x.ctr,.string x.val] 66 (0,0)):=(by rw[I];exact tl J _);have aC:=qL ao;have V:qA (Below F.heap.size F wb):=qL (by rw[I];exact o.alloc aE _);have aA:qA (OwnL 66 F.heap.size wb u5 ((s.recs.take j).filter q)):=qL (by rw[I];exact ab.alloc _);clear G T hx an ak ab o ao
   go_wp2_with (at_lookup;refine ztf rfl _ _ rfl rfl ay.o aG rfl HG.o ?_)
   rw[<-I];refine zuW (t:=26) (xs:=[.tmp 27]) rfl rfl rfl rfl HE.o ?_;refine(ax.o wb (K.o.trans (V.o.mono H))).mono ?_;rintro e U ⟨rfl,C⟩;have O:OwnL 66 F.heap.size U u5 ((s.recs.take j).filter q):=(Keep.of_below' (S:=qe) C (Zp _)).ownsRow aA.o λ_ _=>id;have N:Below F.heap.size F U:=V.o.trans (C.mono V.o.size);have E:=(C.block _ a9).trans aC.o;have aI:=C.size;cases hq:q x with
   | false=>
     dsimp only;have M:=qL O;have L:=qL N;clear O N E C
     go_wp2_with fail
     go_roundg (n-(j+1));case measure=>omega
     case rel=>refine⟨j+1,Y,rfl,b7,?_,L.o⟩;rw[ad.o,ut,uu,hq,vD b7,UF,wX];exact M.o
   | true=>
     have x0:U.cell? ⟨J.heap.size,0,none⟩=some (.int .u64 x.item):=(zW E 0 _ rfl).1;have x1:U.cell? ⟨J.heap.size,1,none⟩=some (.int .u64 x.rep):=(zW E 1 _ rfl).1;have x2:U.cell? ⟨J.heap.size,2,none⟩=some (.int .u64 x.ctr):=(zW E 2 _ rfl).1;have x3:U.cell? ⟨J.heap.size,3,none⟩=some (.string x.val):=(zW E 3 _ rfl).1;have M:=qL O;have L:=qL N;clear O N E C;dsimp only
     go_wp2_with fail
     refine Zi _ _ 51 rfl F.heap.size 66 i0 _ 4 40 underlying51 A.o.1 A.o.2.1 A.o.2.2.1 A.o.2.2.2 rfl b9 _ _ (((s.recs.take j).filter q).flatMap rcs) rfl (World.ownsRow.alloc M.o _) ⟨U.heap.size,0,none⟩ 1 1 (rcs x) rfl rfl (λk u hk=>by
      rw[zh,wk];exact(zW (tl U _) k u (by simpa[rcs]using hk)).1) (λu hu=>zs3 (l:=[x]) u (dL hu)) dF a9 b6 ?_
     intro v6 w6 am ag _ _;have ae:=(L.o.alloc L.o.size _).grown ag b6 λk hk=>(World.ownsRow.lt M.o k hk).1;have az:=qL am;have av:=qL ae;clear am ag ae
     go_wp2_with fail
     go_roundg (n-(j+1));case measure=>omega
     case rel=>refine⟨j+1,Y,rfl,b7,?_,av.o⟩;rw[ad.o,ut,uu,hq,vj rfl,UF];unfold OwnL;rw[wi,Wj,We,Uv,wX];exact az.o
  .obtain rfl:j=n:=a9
   go_wp2_with fail
   refine tx (tI rfl _ _ _) rfl ?_;have h:=aB.o;rw[wj (by rw[HN.o];exact Zp _)]at h;exact⟨_,rfl,K.o.trans (aw.o.mono H),h.1,h.2.imp id λ⟨g,cap,X,q1,q2,q3⟩=>⟨g,cap,X,q1,VS H q2,q3⟩⟩
end
def ztT(k:List Fg)(items:List Iv)(x:Rc)(hi:Nrm items)(j:items.length<=1152921504606846976)(u:RightK k)(o:x.ctr<zk)(hz:QW k):Cn xt 37 [rcp x,.cp [rg items] 0,.cp [kp k] 0] (.v (.bool (mem items x.item && !hasK k x.item x.rep x.ctr))):=by
 refine zt func37 3 ?_;refine pw ?_;refine .c (ziQ items x.item hi j) ?_;refine .i ?_ ?_<;>intro h<;>first|refine pw ?_|exact pd
 .refine .c (zoW k x.item x.rep x.ctr u o hz) ?_;simp[h]
 .simp[h]
def zur(s:Iv)(x:Nat)(j:s.lo<=s.hi)(o:s.hi<zk)(u:x<zk):Cn xt 46 [Je s,.v (.int .u64 x)] (.v (.bool (decide (s.lo<=x) && decide (x<=s.hi)))):=by refine zt func46 2 ?_;refine pw ?_;have:=zw;rw[Ww];simp only[Vm,wC];omega
def zvM(s:Iv)(x:Rc)(j:s.lo<=s.hi)(o:s.hi<zk)(u:x.item<zk):Cn xt 45 [Je s,.cp (rcc x) 0] (.v (.bool (decide (s.lo<=x.item) && decide (x.item<=s.hi)))):=by refine zt func45 2 ?_;refine pw ?_;exact .d (zur s x.item j o u)
def ixH(x:Nat):Nat->List Iv->Int
 |_,[] =>-1
 |n,s::l=>if (decide (s.lo<=x) && decide (x<=s.hi))=true then n else ixH x (n+1) l
def zt5(x:Nat):∀(n:Nat)(l:List Iv),(0<=ixH x n l)↔mem l x=true
 |n,[]=>by simp[ixH,mem]
 | n,s::l=>by
   unfold ixH;have:=zt5 x (n+1) l;by_cases h:(decide (s.lo<=x) && decide (x<=s.hi))=true
   .rw[vj h];simp only[mem,ui,h,Bool.true_or,iff_true];omega
   .rw[vD h,this];simp only[mem,ui];rw[W5]at h;rw[h,uC]
def zvc(l:List Iv)(x:Rc)(hb:∀s∈l,s.lo<=s.hi/\s.hi<zk)(u:x.item<zk)(w:l.length<=1152921504606846976):Cn xt 88 [rg l,.fn (.func 45) [] [.cp (rcc x) 0]] (.v (.int .i64 (ixH x.item 0 l))):=by
 refine zt func88 2 ?_;refine pw ?_;refine pLoop.go (λk=>k<=l.length/\ixH x.item 0 l=ixH x.item k (l.drop k)) (λk=>[(8,.v (.int .i64 (k:Nat)))]) (λ_=>[]) (λk=>l.length-k) 0 [8] ?_ ?_ ?_
 .exact⟨X4 _,rfl⟩
 .exact pd
 .rintro k ⟨hk,j⟩;refine pw ?_;refine .i ?_ ?_<;>intro h<;>first|refine pw ?_|exact pd
  .rw[Vq h,ixH]at j;refine pw ?_;have hs:=hb _ (Yf h);refine .rd (zvM l[k] x hs.1 hs.2 u) rfl ?_;by_cases o:(decide (l[k].lo<=x.item) && decide (x.item<=l[k].hi))=true
   .rw[vj o]at j;rw[o,j];exact pd
   .rw[vD o]at j;simp only[W5]at o;rw[o];refine pw ?_;exact⟨k+1,⟨h,j⟩,a9,rfl⟩
  .rw[j,wE a9];rfl
def ztQ(l:List Iv)(x:Rc)(hb:∀s∈l,s.lo<=s.hi/\s.hi<zk)(o:x.item<zk)(j:l.length<=1152921504606846976):Cn xt 44 [rg l,.fn (.func 45) [] [.cp (rcc x) 0]] (.v (.bool (mem l x.item))):=by refine zt func44 2 ?_;refine pw ?_;refine .c (zvc l x hb o j) ?_;rw[Ww,wC,zt5]
def ztW(l:List Iv)(x:Rc)(hb:∀s∈l,s.lo<=s.hi/\s.hi<zk)(o:x.item<zk)(j:l.length<=1152921504606846976):Cn xt 43 [rcp x,.cp [rg l] 0] (.v (.bool (mem l x.item))):=by refine zt func43 2 ?_;refine pw ?_;exact .d (ztQ l x hb o j)
end Go.Proofs.YtjdjjlkifdimkaaGreatDoor
