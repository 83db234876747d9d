import Derived.Test.YtmpnbdhadjfbhaaGreatDoorB12
import Derived.Test.YtmpnbdhadjfbhaaGreatDoorB21
set_option maxHeartbeats 16000000
set_option linter.all false
set_option maxRecDepth 100000
namespace Go.Proofs.YtmpnbdhadjfbhaaGreatDoor
def t9:=@Go.results_tmp2
open Go.RowKit
open Go.Proofs.Tryz
open Go.Proofs.Tryz renaming prog->xt
def zdi{l:List Iv}{x:Nat}(w:mem l x=true)(j:x=0\/mem l (x-1)=false):x∈l.map Iv.lo:=by
 obtain⟨s,hs,u,A⟩:=qf.1 w;refine wD.2 ⟨s,hs,?_⟩;rcases uD u with o|o
 .rcases j with j|j
  .omega
  .have:mem l (x-1)=true:=qf.2 ⟨s,hs,a8,a8⟩;rw[this]at j;cases j
 .exact o
def zbS{a b:List Iv}(u:Nrm a)(hb:Nrm b):(qy zn a b).length<=a.length+b.length:=by
 have w:=qH (f:=zn) u hb;have:=Ji ((qy zn a b).map Iv.lo) (a.map Iv.lo++b.map Iv.lo) (NF.asc w) λy E=>by
  obtain⟨s,hs,rfl⟩:=wD.1 E;have C:=NF.lo_ge w s hs;have j:mem (qy zn a b) s.lo=true:=qf.2 ⟨s,hs,Zp _,C.2.1⟩;have B:s.lo=0\/(mem a (s.lo-1)=false/\mem b (s.lo-1)=false):=by
   by_cases A:s.lo=0
   .exact .inl A
   .have o:=NF.lo_prev w s hs A;rw[qj u hb a8]at o;simp only[zn,te]at o;exact .inr o
  rw[qj u hb a8]at j;simp only[zn,WT]at j;rcases j with j|j
  .exact u0 _ (zdi j (B.imp id UT))
  .exact List.mem_append_right _ (zdi j (B.imp id uf))
 simpa using this
def qE:List Fg->Nat
 |[]=>0
 |f::k=>f.items.length+qE k
def kK:∀(a b:List Fg),qE (a++b)=qE a+qE b
 |[],b=>by simp[qE]
 |f::a,b=>by simp only[yb,qE,kK a b];omega
def yv:∀{k:List Fg}{f:Fg},f∈k->f.items.length<=qE k
 | g::k,f,h=>by
   rcases V3.1 h with rfl|h
   .simp only[qE];omega
   .have:=yv h;simp only[qE];omega
def YO:∀k:List Fg,(CI k).length<=2*qE k
 |[]=>by simp[CI,qE]
 |f::k=>by have j:=YO k;have o:=vq f.items;have:CI (f::k)=z6 f.items++CI k:=rfl;rw[this,wi,qE];omega
def Zf(V:Iv->List En):∀l:List Iv,qE (l.map λs=>⟨[s],V s⟩)=l.length
 |[]=>rfl
 |s::l=>by rw[WA,qE,Zf V l];simp;omega
def Vg:∀{o:List Fg}{f:Fg},(∀g∈o,Nrm g.items)->Nrm f.items->qE (qN o f)<=qE o+f.items.length/\(qN o f).length<=o.length+1/\∀g∈qN o f,g.vec=f.vec\/∃h∈o,g.vec=h.vec
 |[],f,_,_=>⟨by simp[qN,qE],by simp[qN],λg u=>by simp only[qN,wH]at u;subst u;exact .inl rfl⟩
 | g::o,f,ho,hf=>by
   have B:=Vg (o:=o) (f:=f) (λx j=>ho x (by simp[j])) hf;have u:=ho g b6;have C:=zbS u hf;unfold qN;by_cases w:zZ (zv g.vec) (zv f.vec)<0
   .rw[Vm w];refine⟨by simp only[qE];omega,by simp only[ww];omega,λx j=>?_⟩;rcases V3.1 j with rfl|j
    .exact .inr ⟨_,b6,rfl⟩
    .exact(B.2.2 x j).imp id λ⟨y,hy,e⟩=>⟨y,by simp[hy],e⟩
   .rw[Vq w];by_cases A:zZ (zv g.vec) (zv f.vec)=0
    .rw[Vm A];refine⟨by simp only[qE];omega,b6,λx j=>?_⟩;rcases V3.1 j with rfl|j
     .exact .inl rfl
     .exact .inr ⟨x,by simp[j],rfl⟩
    .rw[Vq A];refine⟨by simp only[qE];omega,b6,λx j=>?_⟩;rcases V3.1 j with rfl|j
     .exact .inl rfl
     .exact .inr ⟨x,j,rfl⟩
def Yq:∀{k o:List Fg},GrpI o->RightK k->qE (k.foldl yo o)<=qE o+qE k/\(k.foldl yo o).length<=o.length+k.length/\∀g∈k.foldl yo o,(∃f∈k,g.vec=zi f.vec)\/∃h∈o,g.vec=h.vec
 |[],o,_,_=>⟨b6,b6,λg j=>.inr ⟨g,j,rfl⟩⟩
 | f::k,o,ho,hk=>by
   have w:=hk f b6;have A:=Yq (k:=k) (o:=yo o f) (Yr ho w).1 λg j=>hk g (by simp[j]);rw[WU];have B:qE (yo o f)<=qE o+f.items.length/\(yo o f).length<=o.length+1/\∀g∈yo o f,g.vec=zi f.vec\/∃h∈o,g.vec=h.vec:=by
    unfold yo;split
    .exact⟨a8,a8,λg j=>.inr ⟨g,j,rfl⟩⟩
    .exact Vg (λg j=>(ho.ok g j).2.2.1) w.1
   refine⟨by simp only[qE];omega,by simp only[ww];omega,λg j=>?_⟩;rcases A.2.2 g j with⟨x,u,e⟩|⟨x,u,e⟩
   .exact .inl ⟨x,by simp[u],e⟩
   .rcases B.2.2 x u with e2|⟨y,C,e2⟩
    .exact .inl ⟨f,b6,e.trans e2⟩
    .exact .inr ⟨y,C,e.trans e2⟩
def jU{k:List Fg}(h:RightK k):qE (zL k)<=qE k/\(zL k).length<=k.length/\∀g∈zL k,∃f∈k,g.vec=zi f.vec:=by
 have:=Yq (o:=[]) GrpI.nil h;refine⟨by simpa[qE,zL]using this.1,by simpa[zL]using this.2.1,λg j=>?_⟩;rcases this.2.2 g j with h|⟨x,u,_⟩
 .exact h
 .cases u
def Zo{k:List Fg}{j:Nat}(h:j<k.length):zL (k.take (j+1))=yo (zL (k.take j)) k[j]:=by unfold zL;rw[X4 h,W5];rfl
def zfS{v:List En}{h:Nat}(w:∀e∈v,e.holes.length<=h):(zv v).length<=1+v.length*(3+2*h):=by
 have:∀{v:List En},(∀e∈v,e.holes.length<=h)->(v.flatMap zC).length<=v.length*(3+2*h):=by
  intro v;induction v with
  |nil=>intro _;simp
  |cons e v ih=>intro j;have A:=ih λf u=>j f (by simp[u]);have B:=j e b6;have o:(v.length+1)*(3+2*h)=v.length*(3+2*h)+(3+2*h):=Nat.succ_mul _ _;simp only[Wk,wi,zC,ww,xx,o];omega
 have:=this w;unfold zv;simp only[ww];omega
def WV.nlen{C:Qk}{R:List Nat}{v:List En}(h:WV C R v)(u:∀r,(C r).length<=9000)(w:R.length<=20000):(zv v).length<=1073741824:=by obtain⟨_,j,o⟩:=h.bv u w;have A:=zfS o;have B:v.length*(3+2*(9000+2))<=20000*(3+2*(9000+2)):=Wu _ j;omega
section
open Go.Sort
def OwnU.base{base j:Nat}{w:World}{v:Value}{l:List Nat}(h:OwnU base w v l)(hb:j<=base):OwnU j w v l:=by
 refine⟨h.1,?_⟩;rcases h.2 with h|⟨g,o,u,e,A,r⟩
 .exact .inl h
 .exact .inr ⟨g,o,u,e,V0 hb A,r⟩
def zeb{w:World}{base:Nat}{v:Value}{l:List Nat}(h:OwnU base w v l)(T:l≠[])(hl:l.length<4611686018427387904):∃V,V.Perm l/\V.Pairwise (·<=·) /\
 Calls xt 110 #[v] w λe X=>e=.returned (.tuple #[])/\OwnU base X v V/\w.grownBy X v.ownBlock:=by
 obtain⟨E,hzs⟩:∃E:List Int,E=l.map λx:Nat=>(x:Int):=⟨_,rfl⟩;have J:E.length=l.length:=by rw[hzs];simp
 obtain⟨u,I⟩:∃u:List Int,u=E.mergeSort λx y=>decide (x<=y):=⟨_,rfl⟩;have o:u.Perm E:=by rw[I];exact List.mergeSort_perm _ _
 have G:u.Pairwise (λx y=>x<=y):=by
  have:=List.pairwise_mergeSort (le:=fun(x y:Int)=>decide (x<=y)) (λa b c Y P=>by simp at *;omega) (λa b=>a9) E;rw[<-I]at this;exact this.imp λh=>dK h
 have C:∀z∈u,∃x:Nat,x∈l/\z=(x:Int):=λz hz=>by have:=o.mem_iff.1 hz;rw[hzs,wD]at this;obtain⟨x,U,rfl⟩:=this;exact⟨x,U,rfl⟩
 have S:(u.map Int.toNat).map (λx:Nat=>(x:Int))=u:=by rw[Ub];refine(UL (g:=id) λz hz=>?_).trans (List.map_id _);obtain⟨x,_,rfl⟩:=C z hz;simp
 refine⟨u.map Int.toNat,?_,?_,?_⟩
 .have:=o.map Int.toNat
  rw[hzs,Ub]at this
  rwa[show l.map (Int.toNat∘λx:Nat=>(x:Int))=l from (UL (g:=id) λ_ _=>rfl).trans (List.map_id _)]at this
 .rw[uw];exact G.imp λh=>a8
 .rcases h.cases with⟨_,h0⟩|⟨g,K,A,rfl,Y,P,Q,h4,h5,h6,h7⟩
  .exact absurd h0 T
  .have hH:Holds zg w g 0 E.toArray:=(by intro j L;have M:j<l.length:=(by rw[<-J];simpa using L);refine⟨?_,by simp[World.frozen?,Q]⟩;have q:(A.toList.take l.length)[j]?=(l.map uV)[j]?:=(by rw[h7]);rw[UZ M]at q;simp only[World.cell?,Q,wn];simp only[Option.isSome_none,uC,U0];rw[<-uS,q];simp[M,hzs,uV]);have Z:=j7 g 0 K E w hH P a8;rw[J]at Z;refine Z.mono ?_;rintro e X ⟨rfl,n,os,rfl⟩;rw[<-I];have B:u.length=l.length:=(by rw[o.length_eq,J]);have F:(Sort.grow (Sort.putRow zg (Sort.ahead w n) g 0 u.toArray) os).heap[g]?=some (.cells (Sort.putCells zg 0 u.toArray A) 36 (0,0)):=(by rw[Sort.heap_grow_old _ _ (dK P)];simp[Sort.putRow,Sort.mapBlock,Sort.ahead,U9,Q,Sort.onCells]);have H:(Sort.putCells zg 0 u.toArray A).toList.take l.length=(u.map Int.toNat).map uV:=by
    apply Uq;intro j;by_cases L:j<l.length
    .rw[UZ L,uS];have N:j<u.length:=a8;obtain⟨x,_,U⟩:=C u[j] (XE N);simp[Sort.putCells,N,show j<A.size by omega,uV,U]
    .rw[List.getElem?_take_eq_none a8,WZ a9]
   refine⟨rfl,⟨by simp[B],.inr ⟨g,K,_,by simp[B],Y,F,by simpa[B]using h4,h5,by simp[Sort.putCells,h6],?_⟩⟩,⟨rfl,rfl,rfl,b6,λj L O=>?_⟩⟩
   .rw[wB,Uk,B];exact H
   .rw[Sort.heap_grow_old _ _ (dK L)];have:g≠j:=λe=>O (by rw[<-e];rfl);simp[Sort.putRow,Sort.mapBlock,Sort.ahead,U9,this]
end
section
open Go.Maps
attribute [-go_sem] z7
def MapS(D:DV)(S:List Nat):Prop:=IsMap D/\∀r,has D (kR r)=decide (r∈S)
def MapS.nil:MapS (.map []) []:=⟨⟨[],rfl⟩,λr=>by simp[has]⟩
def MapS.put{D:DV}{S:List Nat}(h:MapS D S)(r:Nat)(v:DV):MapS (D.put (kR r) v) (S++[r]):=by
 refine⟨h.1.put _ _,λs=>?_⟩;by_cases e:s=r
 .subst e;rw[TY h.1 (Qc _)];simp
 .rw[TU (λh=>e (Xa h)),h.2 s];simp[e]
def MI(B:Nat)(w:World)(S:List Nat):Prop:=∃D,w.ownsMap xt 36 rV B S.length D/\MapS D S
def MI.made(w:World):MI w.heap.size (w.alloc (.map #[] 0)) []:=⟨_,TQ _ _ _ _,MapS.nil⟩
def MI.keep{B:Nat}{w w':World}{S:List Nat}(h:MI B w S)(hb:w'.heap[B]?=w.heap[B]?):MI B w' S:=by obtain⟨D,j,o⟩:=h;exact⟨D,yg j hb,o⟩
def MI.lt{B:Nat}{w:World}{S:List Nat}(h:MI B w S):B<w.heap.size:=by obtain⟨D,j,_⟩:=h;exact j.lt
def xe{w:World}{E:Array Oper}{rest:List Oper}{o:Oper}{a:Act}{Q:Exit->Act->World->Prop}(M:o.guard=none)(m x v:Operand)
 (j:o.op=.mapUpdate 258 m x v\/o.op=.insert 258 m x v) {B:Nat} {S:List Nat} (H:a.eval m=.map (some B)) (h:MI B w S) (N:S.length<maxLen) {r:Nat} (O:r<zk) (I:a.eval x=.int .u64 (r:Nat))
 (G:∀A,MI B A (S++[r])->w.grownBy A (some B)->wpList xt E Q rest (a.put o.dst undef) A):wpList xt E Q (o::rest) a w:=by
 obtain⟨D,L,F⟩:=h;refine TX M λP C=>?_;obtain⟨A,u,J,K⟩:=L.update vF underlying258 N (Zq O) (val:=a.eval v) rfl;unfold Oper.wp;rcases j with j|j
 .simp[execOp,j,H,I,u,Result.andThen];exact C _ _ (G A ⟨_,dK J,F.put r _⟩ K)
 .simp[execOp,j,H,I,u,Result.andThen];exact C _ _ (G A ⟨_,dK J,F.put r _⟩ K)
def rdG(A:Nat)(w:World)(b o:Nat)(f:Fg):Prop:=(∃j,w.cell? ⟨b,o,none⟩=some j/\RdR 0 A w j f.items)/\∃u n c,w.cell? ⟨b,o+1,none⟩=some (.slice u n c)
def ze3{D:xT}{w:World}{x:Value}{k:List Fg}(h:Dat D w x (kp k))(F:∀b o,D b o->b<w.heap.size)(hb:RightK k):RdSl 2 (rdG w.heap.size) 0 w.heap.size w x k:=by
 unfold kp at h;generalize G:k.map fc=es at h;cases h with
 |sl a cap sz es o b off u hc hz hm ha hsz hd hx=>have H:es.length=k.length:=(by rw[<-G];simp);refine⟨a,cap,by rw[H],a8,hm,λC=>?_⟩;have A:0<k.length:=wX.2 C;have g:∀i (h:i<k.length),es[i]?=some (fc k[i]):=λi h=>(by rw[<-G];exact xo h);obtain rfl:2=sz:=hsz 0 _ (g 0 A);have B:es≠[]:=(by intro e;subst e;simp at H;omega);have j:b<w.heap.size:=F _ _ (hd 0 a8).1;refine⟨b,off,ha B,X3 _,j,λi hi=>?_⟩;have K:=hx i _ 0 _ (g i hi) rfl;have e1:=hx i _ 1 _ (g i hi) rfl;have J:=(hd (i*2+0) a8).2.1;have E:=(hd (i*2+1) a8).2.1;obtain⟨M,c,L,N,I,O,q,_⟩:=(Rel.dat (ρ:=λ_=>0) (nb:=0) (show Dat D w (u (i*2+1)) (.sl (k[i].vec.map ec) .sh) from e1)).inv_sl;rw[q]at E;exact⟨⟨_,J,je K F (hb _ (XE hi)).1.lt⟩,_,_,_,E⟩
def Ky{k:List Fg}{i:Nat}(hi:i<k.length):CI (k.take (i+1))=CI (k.take i)++z6 k[i].items:=by unfold CI;rw[X4 hi,Wq];simp
def zaV{l:List Iv}{j:Nat}(o:j<l.length):z6 (l.take (j+1))=z6 (l.take j)++jQ l[j]:=by unfold z6;rw[X4 o,Wq];simp
def ze0{s:Iv}(h:s.hi=zk-1):jQ s=[s.lo]:=by unfold jQ;rw[Vq a8]
def zcz{s:Iv}(h:s.hi<zk-1):jQ s=[s.lo]++[s.hi+1]:=by unfold jQ;rw[Vm h];rfl
def zfO(w:World):Calls xt 36 #[.int .u64 18446744073709551615] w λe j=>e=.returned (.tuple #[.int .u64 0,.bool false])/\j=w:=by
 go_enter func36,ntmps36
 go_wp2;all_goals (refine tA (t9 rfl _ _ _) rfl ?_;refine⟨?_,rfl⟩;simp;try omega)
def zdr(x:Nat)(o:x<18446744073709551615)(w:World):Calls xt 36 #[.int .u64 (x:Nat)] w λe j=>e=.returned (.tuple #[.int .u64 ((x:Int)+1),.bool true])/\j=w:=by
 go_enter func36,ntmps36
 go_wp2;all_goals (refine tA (t9 rfl _ _ _) rfl ?_;refine⟨?_,rfl⟩;simp;try omega)
def zgc(w:World):Calls xt 176 #[.int .u64 0] w λe j=>e=.returned (.tuple #[.int .u64 0,.bool false])/\j=w:=by
 go_enter func176,ntmps176
 go_wp2;all_goals (refine tA (t9 rfl _ _ _) rfl ?_;refine⟨?_,rfl⟩;simp;try omega)
def VH(x:Nat)(o:x<18446744073709551615)(w:World):Calls xt 176 #[.int .u64 ((x:Int)+1)] w λe j=>e=.returned (.tuple #[.int .u64 (x:Nat),.bool true])/\j=w:=by
 go_enter func176,ntmps176
 go_wp2;all_goals (refine tA (t9 rfl _ _ _) rfl ?_;refine⟨?_,rfl⟩;simp;try omega)
def RgS(B r n:Nat)(S:List Nat)(keep:Nat->Bool)(g:Nat)(left:Lit->Bool)(w:World):Prop:=
 ∃D,w.ranges xt 36 rV B r n D left g/\IsMap D/\(∀x,has D (kR x)=(decide (x∈S) && (left (kR x) || keep x)))/\∀x,left (kR x)=true->x∈S
def GotS(S:List Nat)(left:Lit->Bool)(l:List Nat):Prop:=l.Nodup/\∀x,x∈l↔x∈S/\left (kR x)=false
def zay{left:Lit->Bool}{r x:Nat}:(left (kR r) && !(kR r).sameKey (kR x))=(left (kR r) && !decide (r=x)):=by
 have h:(kR r).sameKey (kR x)=decide (r=x):=by simp[kR,Lit.sameKey];omega
 rw[h]
section
variable {B r n g x:Nat}{S:List Nat}{kp:Nat->Bool}{left:Lit->Bool}{w:World}{D:DV}
def RgS.next(o:IsMap D)(u:∀y,has D (kR y)=(decide (y∈S) && (left (kR y) || kp y)))(A:∀y,left (kR y)=true->y∈S)(C:left (kR x)=true)(hk:kp x=true)
 (h:w.ranges xt 36 rV B r n D (λz=>left z && !z.sameKey (kR x)) g):RgS B r n S kp g (λz=>left z && !z.sameKey (kR x)) w:=by
 refine⟨D,h,o,λy=>?_,λy j=>A y ?_⟩
 .dsimp only;rw[u y,zay];by_cases e:y=x
  .subst e;simp[hk]
  .simp[e]
 .dsimp only at j;cases h0:left (kR y)with
  |true=>rfl
  |false=>rw[h0]at j;simp at j
def RgS.del(o:IsMap D)(u:∀y,has D (kR y)=(decide (y∈S) && (left (kR y) || kp y)))(A:∀y,left (kR y)=true->y∈S)(hk:kp x=false)
 (h:w.ranges xt 36 rV B r n (D.del (kR x)) (λz=>(left z && !z.sameKey (kR x)) && !z.sameKey (kR x)) g):RgS B r n S kp g (λz=>left z && !z.sameKey (kR x)) w:=by
 rw[Maps.strike_twice]at h;refine⟨_,h,o.del _,λy=>?_,λy j=>A y ?_⟩
 .dsimp only;rw[zay];by_cases e:y=x
  .subst e;rw[has_del_same];simp[hk]
  .rw[has_del_other (λh=>e (Xa h)),u y];simp[e]
 .dsimp only at j;cases h0:left (kR y)with
  |true=>rfl
  |false=>rw[h0]at j;simp at j
def RgS.keep{w':World}(h:RgS B r n S kp g left w)(hb:w'.heap[B]?=w.heap[B]?)(u:w'.heap[r]?=w.heap[r]?):RgS B r n S kp g left w':=by obtain⟨D,j,o⟩:=h;exact⟨D,yD j hb u,o⟩
def GotS.nil(h:∀y,left (kR y)=true↔y∈S):GotS S left []:=
 ⟨US,λy=>by
  constructor
  .intro h;cases h
  .rintro⟨o,j⟩;rw[(h y).2 o]at j;cases j⟩
def GotS.push{l:List Nat}(h:GotS S left l)(A:left (kR x)=true)(w:x∈S):GotS S (λz=>left z && !z.sameKey (kR x)) (l++[x]):=by
 refine⟨Ur.2 ⟨h.1,b6,λa u b hb e=>?_⟩,λy=>?_⟩
 .rw[wH]at hb;rw[e,hb]at u;have:=((h.2 x).1 u).2;rw[A]at this;cases this
 .dsimp only;rw[QM,wF,wH,h.2 y];constructor
  .rintro(⟨o,j⟩|rfl)
   .exact⟨o,.inl j⟩
   .exact⟨w,.inr rfl⟩
  .rintro⟨o,j|j⟩
   .exact .inl ⟨o,j⟩
   .exact .inr j
end
def kpB(k:List Fg)(x:Nat):Bool:=decide (x=0) || !decide (zU k (x-1)=zU k x)
def Yd{k:List Fg}(A:RightK k){l:List Nat}(w:l.Pairwise (·<=·))(u:l.Nodup)(o:∀x,x∈l↔x∈0::CI k/\(x=0\/zU k (x-1)≠zU k x)):l=zq k:=by
 have j:YN l:=by refine(List.pairwise_and_iff.2 ⟨w,u⟩).imp ?_;intro a b h;have:=h.1;have:=h.2;omega
 refine jK j (xc k) λx=>?_;rw[o,zq,WB,zH,qr,yU];have e1:(k.map Fg.items).flatMap z6=CI k:=by unfold CI;rw[Ua]
 rw[e1];simp only[WT,wG,Wo];refine uR λ_=>or_congr_right ?_;rw[ne_eq,Vp,UD]
def MemV(C:xT)(l:List Nat)(u:Value)(w:World):Prop:=∃D:Nat->Nat->Prop,(∀b o,C b o->D b o)/\(∀b o,D b o->b<w.heap.size)/\Dat D w u (is l)
def MemV.stab{C:xT}{l:List Nat}(u:Value)(w B:World)(h:MemV C l u w)(hk:Keep qe w B):MemV C l u B:=by obtain⟨D,E,A,F⟩:=h;exact⟨D,E,λb o j=>vw (A b o j) hk.size,F.mono (λ_ _ h=>h) λb o x j G=>(tp (a:=⟨b,o,none⟩) (hk.block b (A b o j) id)).trans G⟩
def Xg{C:xT}{w0 w:World}{k:List Fg}{v:Value}(x:Nat)(M:RightK k)(hz:QW k)(F:k.length<=1073741824)(L:Dat C w0 v (kp k))(H:∀b o,C b o->b<w0.heap.size)(J:GL C w0)(hb:Below w0.heap.size w0 w):
 Calls xt 143 #[v,.int .u64 (x:Nat)] w λe G=>∃u,e=.returned u/\Below w.heap.size w G/\MemV C (zU k x) u G:=by
 have I:∀b o y,C b o->w0.cell? ⟨b,o,none⟩=some y->w.cell? ⟨b,o,none⟩=some y:=λb o y K N=>(tp (a:=⟨b,o,none⟩) (hb.block b (H b o K))).trans N;have A:∀b o,C b o->b<w.heap.size:=λb o h=>vw (H b o h) hb.size;refine(jP (K9 k x M hz F) (J.mono (λ_ _ h=>h) I) A (vs:=#[v,.int .u64 (x:Nat)]) rfl (λi p j=>by
  match i,j with
  |0,j=>cases j;exact L.mono (λ_ _ h=>h) I
  |1,j=>cases j;exact .v _
  |i+2,j=>simp at j)).mono ?_
 rintro e G ⟨u,rfl,B,E⟩;exact⟨u,rfl,B,_,λb o h=>.inl h,λb o h=>h.elim (λh=>vw (A b o h) B.size) uf,E⟩
def zgP{C:xT}{w0 w:World}{a b:List Nat}{u v:Value}(r:Bool)(L:decide (a=b)=r)(J:a.length<=1152921504606846976)(H:∀b o,C b o->b<w0.heap.size)(I:GL C w0)(hb:Below w0.heap.size w0 w)(M:MemV C a u w)(N:MemV C b v w):
 Calls xt 177 #[u,v] w λe E=>e=.returned (.bool r)/\Below w.heap.size w E:=by
 subst L;obtain⟨F,Q,S,T⟩:=M;obtain⟨G,X,U,V⟩:=N;have O:∀b o y,C b o->w0.cell? ⟨b,o,none⟩=some y->w.cell? ⟨b,o,none⟩=some y:=λb o y K P=>(tp (a:=⟨b,o,none⟩) (hb.block b (H b o K))).trans P;refine(jP (D:=λb o=>F b o\/G b o) (zjX a b J) (I.mono (λb o h=>.inl (Q b o h)) O) (λb o h=>h.elim (S b o) (U b o)) (vs:=#[u,v]) rfl (λi p j=>by
  match i,j with
  |0,j=>cases j;exact T.mono (λ_ _ h=>.inl h) λ_ _ _ _ h=>h
  |1,j=>cases j;exact V.mono (λ_ _ h=>.inr h) λ_ _ _ _ h=>h
  |i+2,j=>simp at j)).mono ?_
 rintro e E ⟨r,rfl,A,B⟩;rw[B.v_inv];exact⟨rfl,A⟩
def XJ{k:List Fg}(i:Nat):(CI (k.take i)).length<=(CI k).length:=by
 have:CI k=CI (k.take i)++CI (k.drop i):=by unfold CI;rw[<-Wq,Wd]
 rw[this,wi];omega
def Q0{l:List Iv}(j:Nat):(z6 (l.take j)).length<=(z6 l).length:=by
 have:z6 l=z6 (l.take j)++z6 (l.drop j):=by unfold z6;rw[<-Wq,Wd]
 rw[this,wi];omega
def XD(C:xT)(k:List Fg)(vk:Value)(w:World)(hr:RightK k)(hz:QW k)(aT:k.length<=1073741824)(hT:(CI k).length<=1000000)(rk:Dat C w vk (kp k))(hC:∀b o,C b o->b<w.heap.size)(hG:GL C w):
 Calls xt 142 #[vk] w λe w'=>∃v,e=.returned v/\Below w.heap.size w w'/\OwnU w.heap.size w' v (zq k):=by
 have dl:=@run_makeMap xt
 have rg:=ze3 rk hC hr;have RK:=qL rk;have RG:=qL rg;have HR:=qL hr;have ah:=qL hG;obtain⟨aa,ca,rfl,dh,cL,_⟩:=rg;unfold maxLen at cL;clear rk hG;have bj:True:=trivial;go_enter func142,ntmps142
 go_wp2_with (first
  |(have _t:=bj;refine xe rfl _ _ _ (.inr rfl) rfl (MI.made w) b8 (r:=0) xM rfl ?_;clear bj;intro w1 am cc;dsimp only[Act.put])
  |go_in)
 have cS:w.heap.size<w1.heap.size:=am.lt;have bI:qA (Below w.heap.size w w1):=qL (((tv _ w).alloc (Zp _) (.map #[] 0)).grown cc b6 λj G=>by cases G;exact Zp _);have bM:=qL am;clear am cc
 go_wp2_with fail
 go_loopg [19] k.length (λg x wr=>∃i,i<=k.length/\g=k.length-i/\x=.int .i64 i/\MI w.heap.size wr (0::CI (k.take i))/\Below w.heap.size w wr)
 case atStart=>exact⟨0,X3 _,rfl,rfl,by simpa[CI]using bM.o,bI.o⟩
 case round=>
  obtain⟨i,hi,rfl,rfl,am,hB⟩:=hrel;clear bM bI cS;have Y:=qL am;have HB:=qL hB;clear am hB;by_cases P:i<k.length
  ·obtain⟨a',aw,ay,_,_,aA⟩:=id RG.o;obtain⟨bb,cy,bC,_,bE,U⟩:=aA (by intro e;subst e;simp at P);obtain⟨rfl,_,rfl⟩:aa=a'/\k.length=k.length/\ca=aw:=(dK ay);subst bC;obtain⟨⟨hv,c0,aU⟩,av,nv,cv,c1⟩:=U i P;replace c0:=(HB.o.cell (p:=⟨bb,cy+i*2,none⟩) bE).trans c0;replace c1:=(HB.o.cell (p:=⟨bb,cy+i*2+1,none⟩) bE).trans c1;have HE:qA (∃f,f=k[i]):=⟨_,rfl⟩;obtain⟨f,hf⟩:=HE.o;rw[<-hf]at aU;have HF:=qL hf;have cb:ZS f:=(by rw[hf];exact hr _ (XE P));have cB:=qL cb;obtain⟨ai,ci,rfl,di,cO,_⟩:=id aU;have cJ:=qL aU;have cZ:(CI (k.take i)).length+(z6 f.items).length<=1000000:=(by have:=XJ (k:=k) (i+1);rw[Ky P,<-hf,wi]at this;omega);clear aA U ay aU hf HE cb;unfold maxLen at cO;obtain⟨wo,bH⟩:=xm (wr);subst bH
   go_wp2_with fail
   go_loopg [26] f.items.length (λg x wq=>∃j,j<=f.items.length/\g=f.items.length-j/\x=.int .i64 j/\MI w.heap.size wq (0::CI (k.take i)++z6 (f.items.take j))/\Below w.heap.size w wq)
   case atStart=>exact⟨0,X3 _,rfl,rfl,by simpa[z6]using Y.o.keep (tw _ _ _ Y.o.lt),HB.o.alloc HB.o.size _⟩
   case round=>
    obtain⟨j,G,rfl,rfl,cn,bZ⟩:=hrel;have T:=qL cn;have O:=qL bZ;clear Y cn bZ;by_cases ab:j<f.items.length
    .obtain⟨a',aw,ay,_,_,aA⟩:=cJ.o.keep (w':=wr) (Zp _) (Zp _) λb _ h=>O.o.block b h;obtain⟨bi,oi,bC,_,bE,U⟩:=aA (by intro e;rw[e]at ab;simp at ab);obtain⟨rfl,_,rfl⟩:ai=a'/\f.items.length=f.items.length/\ci=aw:=(dK ay);subst bC;obtain⟨d0,d1,l0,l1⟩:=U j ab;obtain⟨s,hs⟩:=xm (f.items[j]);have cP:s.lo<=s.hi/\s.hi<zk:=(by rw[hs];exact cB.o.1.ivs2 _ (XE ab));have aS:=zaV ab;have aB:=Q0 (l:=f.items) (j+1);rw[<-hs]at d0 d1 l0 l1 aS;rw[aS,wi]at aB;have bK:=qL aS;clear aA U ay hs aS;have L:True:=trivial;have M:True:=trivial;by_cases J:s.hi=zk-1
     .have Z:=ze0 J;have hh:((s.hi:Nat):Int)=18446744073709551615:=(by rw[J,zw];rfl);rw[hh]at d1;have bp:=qL Z;clear Z J hh;have aQ:=T.o.lt
      go_wp2_with (first
       | (at_mapUpdate;have _t:=L;refine xe rfl _ _ _ (.inl rfl) rfl (T.o.keep (tw _ _ _ T.o.lt)) (by simp;unfold maxLen;omega) (r:=s.lo) l0 rfl ?_;clear L;intro w2 aG N
          have aK:w2.heap[wr.heap.size]?=some (.cells #[.int .u64 s.lo,.int .u64 18446744073709551615] 61 (0,0)):=(N.block _ b6 a9).trans (tq _ _);have f2:=(zW aK 1 _ rfl).1;have aj:=qL aG;have aN:=qL N;clear aG N aK;dsimp only[Act.put])
       |(go_at_call 36;refine(zfO _).mono ?_;rintro e w' ⟨rfl,rfl⟩)
       |go_in)
      go_roundg (f.items.length-(j+1));case measure=>omega
      case rel=>refine⟨j+1,ab,rfl,b6,?_,((O.o.alloc O.o.size _).grown aN.o (by simp;have:=O.o.size;omega) λj G=>by cases G;exact Zp _)⟩;rw[bK.o,bp.o,<-wU];exact aj.o
     .obtain⟨y,hy⟩:∃y,s.hi=y:=⟨_,rfl⟩;have hM:=zw;have Z:=zcz (s:=s) a8;rw[hy]at d1 Z J cP l1;have bp:=qL Z;have cu:y<18446744073709551615:=a8;have cx:y+1<zk:=a8;rw[Z,wi]at aB;simp at aB;clear Z J hy hM;have aQ:=T.o.lt
      go_wp2_with (first
       | (at_mapUpdate;have _t:=L;refine xe rfl _ _ _ (.inl rfl) rfl (T.o.keep (tw _ _ _ T.o.lt)) (by simp;unfold maxLen;omega) (r:=s.lo) l0 rfl ?_;clear L;intro w2 aG N
          have aK:w2.heap[wr.heap.size]?=some (.cells #[.int .u64 s.lo,.int .u64 y] 61 (0,0)):=(N.block _ b6 a9).trans (tq _ _);have f2:=(zW aK 1 _ rfl).1;have aj:=qL aG;have aN:=qL N;clear aG N aK;dsimp only[Act.put])
       |(go_at_call 36;refine(zdr y cu _).mono ?_;rintro e w' ⟨rfl,rfl⟩)
       |(at_mapUpdate;have _t:=M;refine xe rfl _ _ _ (.inl rfl) rfl aj.o (by simp;unfold maxLen;omega) (r:=y+1) cx rfl ?_;clear M;intro w3 ck aC;have cE:=qL ck;have cC:=qL aC;clear ck aC;dsimp only[Act.put])
       |go_in)
      go_roundg (f.items.length-(j+1));case measure=>omega
      case rel=>refine⟨j+1,ab,rfl,b6,?_,((O.o.alloc O.o.size _).grown aN.o (by simp;have:=O.o.size;omega) λj G=>by cases G;exact Zp _).grown cC.o (by have:=O.o.size;have:=aN.o.size;simp at this;omega) λj G=>by cases G;exact Zp _⟩;have:=cE.o;rw[bK.o,bp.o];simpa using this
    .obtain rfl:j=f.items.length:=a8;rw[Wr]at T
     go_wp2_with fail
     go_roundg (k.length-(i+1));case measure=>omega
     case rel=>refine⟨i+1,P,rfl,b6,?_,O.o⟩;rw[Ky P,<-HF.o];exact T.o
  .obtain rfl:i=k.length:=a8;rw[Wr]at Y;obtain⟨S,hS⟩:=xm (0::CI k);rw[<-hS]at Y;have dg:S.length<=1000001:=(by rw[hS];simp;omega);have HS:=qL hS;clear hS;obtain⟨D,B,co⟩:=Y.o;have aQ:=B.lt;have HO:=qL B;have aP:=qL co;clear B co;obtain⟨wo,bH⟩:=xm (wr);subst bH;have L:True:=trivial
   go_wp2_with (first
    |(at_range;have _t:=L;refine TJ _ rfl _ 258 rfl 36 4 vF underlying258 rV w.heap.size S.length D rfl HO.o ?_;intro w2 bc N dm;clear L)
    |go_in)
   go_frame
   have bN:qA (RgS w.heap.size wo.heap.size S.length S (kpB k) (Maps.size D) (Maps.has D) w2):=qL ⟨D,bc,aP.o.1,λx=>by rw[aP.o.2 x];simp;exact .inl,λx h=>by rw[aP.o.2 x]at h;simpa using h⟩;have bJ:qA (Below w.heap.size w w2):=qL (HB.o.grown N HB.o.size λj G=>by cases G);clear bc N HO Y aP;go_loopg [] (Maps.size D) (λg wr=>∃left,RgS w.heap.size wo.heap.size S.length S (kpB k) g left wr/\Below w.heap.size w wr);case atStart=>exact⟨_,bN.o,bJ.o⟩
   case round=>
    obtain⟨left,cR,bU⟩:=hrel;obtain⟨D3,an,bX,aY,aE⟩:=cR;have bP:=qL an;have br:=qL bX;have aO:=qL aY;have bu:=qL aE;have aM:=qL bU;clear an bX aY aE bU bN bJ
    go_wp2_with (first
     |(at_next;refine TE _ rfl _ rfl 36 vF rV (λr:{r:Nat // r<zk}=>Value.int .u64 (r.1:Nat)) (λc:Value=>c) zhV (λv y _=>⟨v,rfl⟩) w.heap.size wo.heap.size S.length D3 left gk rfl bP.o ?_ ?_)
     |go_in)
    .intro bF aD;obtain⟨wl,cU⟩:=xm (wr);subst cU;obtain⟨S2,aR⟩:=xm (S.filter (kpB k));have ba:∀y,has D3 (kR y)=decide (y∈S2):=λy=>(by rw[aO.o y,aD,aR,uA];simp[WB]);have bY:S2.length<=1000001:=(by have:=WF (kpB k) S;rw[<-aR]at this;omega);have aj:=qL ba;have bR:=qL aR;have B:=bP.o.owns;have HO:=qL B;have de:w.heap.size<wl.heap.size:=B.lt;clear ba aR B aD bF;have bn:True:=trivial
     go_wp2_with (first
      |(at_range;have _t:=bn;refine TJ _ rfl _ 258 rfl 36 4 vF underlying258 rV w.heap.size S.length D3 rfl HO.o ?_;intro w5 bg ce dp;clear bn)
      |go_in)
     go_frame
     have bO:=qL bg;have E:qA (Below w.heap.size w w5):=qL (aM.o.grown ce aM.o.size λj G=>by cases G);have dc:wl.heap.size+1<=w5.heap.size:=a8;clear bg ce;go_loopg [13] (Maps.size D3) (λg v wr=>∃left l,wr.ranges xt 36 rV w.heap.size wl.heap.size S.length D3 left g/\GotS S2 left l/\(∀y,left (kR y)=true->y∈S2)/\OwnU (wl.heap.size+1) wr v l/\Below w.heap.size w wr);case atStart=>exact⟨_,[],bO.o,GotS.nil λy=>by rw[aj.o y,decide_eq_true_iff],λy h=>by rw[aj.o y]at h;simpa using h,tV _ _ _ _,E.o⟩
     case round=>
      obtain⟨aL,l,an,ae,aE,B,bW⟩:=hrel;have bQ:=qL an;have bq:=qL ae;have aV:=qL aE;have ar:=qL B;have F:=qL bW;have dk:l.length<=1000001:=V0 (qM l S2 ae.1 λy hy=>((ae.2 y).1 hy).1) bY;have da:=an.lt;obtain⟨ad,bA,rfl,dj,cM,_⟩:=B.shape;unfold maxLen at cM;clear an ae aE B bW bO E
      go_wp2_with (first
       |(at_next;refine TE _ rfl _ rfl 36 vF rV (λr:{r:Nat // r<zk}=>Value.int .u64 (r.1:Nat)) (λc:Value=>c) zhV (λv y _=>⟨v,rfl⟩) w.heap.size wl.heap.size S.length D3 aL gk rfl bQ.o ?_ ?_)
       |go_in)
      .intro bF aD;have aH:∀y,y∈l↔y∈S2:=λy=>(by rw[bq.o.2 y,aD];simp);have bB:0∈l:=(aH 0).2 (by rw[bR.o,WB,HS.o];exact⟨b6,by simp[kpB]⟩);have aZ:l≠[]:=λe=>(by rw[e]at bB;cases bB);obtain⟨l',ac,cr,az⟩:=zeb ar.o aZ a8;have aX:l'=zq k:=Yd hr cr (ac.nodup_iff.2 bq.o.1) λy=>by rw[ac.mem_iff,aH,bR.o,HS.o,WB];refine uR λ_=>?_;simp[kpB]
       have aI:∀j,(Value.slice ad l.length bA).ownBlock=some j->wl.heap.size+1<=j:=λj G=>(ar.o.lt j G).1;have cA:=qL aX;have cz:=qL az;have cI:=qL aI;clear aH bB aZ ac cr aX az aD bF aI;have X:True:=trivial
       go_wp2_with (first
        |(go_at_call 110;have _t:=X;refine cz.o.mono ?_;rintro e w9 ⟨rfl,cq,cg⟩;have cH:=qL cq;have cD:=qL cg;clear cq cg X)
        |go_in)
       refine tA (tL rfl _ _ _) rfl ?_;exact⟨_,rfl,F.o.grown cD.o F.o.size λj G=>by have:=cI.o j G;omega,by rw[<-cA.o];exact cH.o.base a8⟩
      .intro x hx c kl y ys w7 bT I aF hv bD V cj cf ct bG;try dsimp only at I bG⊢
       obtain rfl:kl=kR x:=(by have:=(Zq hx).symm.trans I;simpa using this.symm);have au:=qL V;have ao:=qL cf;have cK:=qL ct;have dd:wl.heap.size+1<=w7.heap.size:=a8;have aq:=qL aF;obtain⟨i0,cN,cV,cW,cX⟩:=tR Vf;have cF:qA (OwnU (wl.heap.size+1) (w7.alloc (.cells #[.int .u64 (x:Nat)] 36)) (.slice ad l.length bA) l):=qL (ar.o.keep λg hg=>by
        have h1:=ar.o.lt g hg;rw[tw _ _ _ (by rw[cK.o];exact h1.2),ao.o.block g h1.2 (λe=>by cases e;omega)])
       have cQ:=tq w7 (.cells #[.int .u64 (x:Nat)] 36 (0,0));clear I hv bD V cf aF ct;have X:True:=trivial
       go_wp2_with (first
        |(at_builtin;have _t:=X;refine Ti _ rfl _ _ 128 rfl (wl.heap.size+1) 36 i0 (.int .u64 0) 1 8 underlying128 cN cV cW cX rfl b8 _ _ _ rfl cF.o ⟨w7.heap.size,0,none⟩ 1 1 [.int .u64 (x:Nat)] rfl rfl (kw (cs:=#[.int .u64 (x:Nat)]) (t := 36) (fr:=(0,0)) cQ) dH c8 a8 a9 ?_;intro v' w8 ho ch _ _;clear X;have cG:=qL ho;have bL:=qL ch;clear ho ch)
        |go_in)
       have aI:∀j,(Value.slice ad l.length bA).ownBlock=some j->wl.heap.size+1<=j:=λj G=>(ar.o.lt j G).1;have aW:∀j,j<wl.heap.size+1->w8.heap[j]?=w7.heap[j]?:=λj G=>(by rw[bL.o.block j a9 (λe=>by have:=aI j e.symm;omega),tw _ _ _ a8]);go_roundg bT;case measure=>exact cj
       case rel=>
        refine⟨_,l++[x],yD au.o (aW _ a8) (aW _ a8),bq.o.push aq.o (aV.o _ aq.o),λr h=>?_,?_,?_⟩
        .exact aV.o r (by cases h0:aL (kR r)with|true=>rfl|false=>rw[h0]at h;simp at h)
        .have:=cG.o;unfold OwnU;simpa[uV]using this
        .exact((F.o.grown ao.o F.o.size λj G=>by cases G;omega).alloc (by have:=ao.o.size;have:=F.o.size;omega) _).grown bL.o (by simp;have:=F.o.size;omega) λj G=>by have:=aI j G;omega
    .intro x hx c kl y ys w3 ax I aF hv bD be P aC dn bG;try dsimp only at I bG⊢
     obtain rfl:kl=kR x:=(by have:=(Zq hx).symm.trans I;simpa using this.symm);have H:=qL be;have u:qA (Below w.heap.size w w3):=qL (aM.o.grown aC aM.o.size λj G=>by cases G;exact HB.o.size);have aq:=qL aF;clear I hv bD be aC aF;cases x with
     | zero=>
       go_wp2_with (first|(go_at_call 176;refine(zgc _).mono ?_;rintro e w' ⟨rfl,rfl⟩)|go_in)
       go_roundg ax;case measure=>exact P
       case rel=>exact⟨_,RgS.next br.o aO.o bu.o aq.o (by simp[kpB]) H.o,u.o⟩
     | succ x=>
       have bh:x<18446744073709551615:=(by have:=zw;omega);have cm:(zU k x).length<=1152921504606846976:=(by have h1:=Zg x 0 k;unfold zU;rw[wB];omega);have M:True:=trivial;have af:True:=trivial;have ag:True:=trivial;have bl:True:=trivial;by_cases ak:zU k x=zU k (x+1)
       .have HQ:=qL (show decide (zU k x=zU k (x+1))=true from uF ak);have bt:=qL (show kpB k (x+1)=false by simp[kpB,ak]);clear ak
        go_wp2_with (first
         |(go_at_call 176;refine(VH x bh _).mono ?_;rintro e w' ⟨rfl,rfl⟩)
         |(go_at_call 143;have _t:=M;refine(Xg x hr hz aT RK.o hC ah.o u.o).mono ?_;rintro e w4 ⟨u1,rfl,A,K⟩;have E:=qL A;have bw:=qL K;clear A K M)
         |(go_at_call 143;have _t:=af;refine(Xg (x+1) hr hz aT RK.o hC ah.o (u.o.trans (E.o.mono u.o.size))).mono ?_;rintro e w5 ⟨u2,rfl,A,K⟩;have F:=qL A;have bz:=qL K;clear A K af)
         |(go_at_call 177;have _t:=ag;refine(zgP true HQ.o cm hC ah.o ((u.o.trans (E.o.mono u.o.size)).trans (F.o.mono ((u.o.trans (E.o.mono u.o.size)).size))) (bw.o.stab _ _ _ (Keep.of_below' F.o (Zp _))) bz.o).mono ?_;rintro e w6 ⟨rfl,A⟩;have Q:=qL (((tv _ _).trans E.o).trans ((F.o.mono E.o.size).trans (A.mono (V0 E.o.size F.o.size))));clear A ag)
         |(at_delete;have _t:=bl;refine wpList_delete_ranges _ rfl _ _ 258 36 rfl 4 vF underlying258 rV w.heap.size wo.heap.size S.length D3 _ ax rfl (yD H.o (Q.o.block _ (UN aQ H.o.lt)) (Q.o.block _ H.o.lt)) _ (kR (x+1)) rfl (Zq hx) ?_;intro w7 bS V cY aJ;clear bl;have au:=qL V;have ao:=qL aJ.grown;clear V aJ;dsimp only[Act.put])
         |go_in)
        go_roundg bS;case measure=>omega
        case rel=>exact⟨_,RgS.del br.o aO.o bu.o bt.o au.o,(u.o.trans (Q.o.mono u.o.size)).grown ao.o (u.o.trans (Q.o.mono u.o.size)).size λj G=>by cases G;exact Zp _⟩
       .have HQ:=qL (show decide (zU k x=zU k (x+1))=false from WE ak);have bt:=qL (show kpB k (x+1)=true by simp[kpB,ak]);clear ak
        go_wp2_with (first
         |(go_at_call 176;refine(VH x bh _).mono ?_;rintro e w' ⟨rfl,rfl⟩)
         |(go_at_call 143;have _t:=M;refine(Xg x hr hz aT RK.o hC ah.o u.o).mono ?_;rintro e w4 ⟨u1,rfl,A,K⟩;have E:=qL A;have bw:=qL K;clear A K M)
         |(go_at_call 143;have _t:=af;refine(Xg (x+1) hr hz aT RK.o hC ah.o (u.o.trans (E.o.mono u.o.size))).mono ?_;rintro e w5 ⟨u2,rfl,A,K⟩;have F:=qL A;have bz:=qL K;clear A K af)
         |(go_at_call 177;have _t:=ag;refine(zgP false HQ.o cm hC ah.o ((u.o.trans (E.o.mono u.o.size)).trans (F.o.mono ((u.o.trans (E.o.mono u.o.size)).size))) (bw.o.stab _ _ _ (Keep.of_below' F.o (Zp _))) bz.o).mono ?_;rintro e w6 ⟨rfl,A⟩;have Q:=qL (((tv _ _).trans E.o).trans ((F.o.mono E.o.size).trans (A.mono (V0 E.o.size F.o.size))));clear A ag)
         |go_in)
        go_roundg ax;case measure=>exact P
        case rel=>exact⟨_,(RgS.next br.o aO.o bu.o aq.o bt.o H.o).keep (Q.o.block _ (UN aQ H.o.lt)) (Q.o.block _ H.o.lt),u.o.trans (Q.o.mono u.o.size)⟩
end
def zaG(k:List Fg)(H:RightK k)(hz:QW k)(j:k.length<=1073741824)(F:(CI k).length<=1000000):Cn xt 142 [kp k] (ns (zq k)):=by refine yZ rfl (enters_of func142 dL rfl) λD w I E C u G=>?_;rw[KB u];refine(XD D k _ w H hz j F (G 0 _ rfl) C E).mono ?_;rintro e J ⟨v,rfl,hb,ho⟩;exact⟨v,rfl,hb,vL ho λb o A B=>.inr ⟨A,B⟩⟩
noncomputable def Vy (k:List Fg) (j:Nat):List Iv:=((cutsK k).take j).filter λs=>decide (0<(zU k s.lo).length)
def Vz(k:List Fg){j:Nat}(h:(zq k).length<=j):Vy k j=zu k:=by unfold Vy zu;rw[wm (by unfold cutsK;rw[vO];exact h)]
def VB(k:List Fg)(j:Nat):(Vy k j).length<=j:=V0 (WF _ _) (uM _ _)
def YE{k:List Fg}{j:Nat}(h:j<(zq k).length):Vy k (j+1)=Vy k j++if zU k (zq k)[j]=[] then [] else [⟨(zq k)[j],if h:j+1<(zq k).length then (zq k)[j+1]-1 else zk-1⟩]:=by
 have u:j<(cutsK k).length:=by unfold cutsK;rw[vO];exact h
 unfold Vy;rw[X4 u,up];congr 1;have w:(cutsK k)[j]=⟨(zq k)[j],if h:j+1<(zq k).length then (zq k)[j+1]-1 else zk-1⟩:=Vx _ _ h;rw[w];by_cases o:zU k (zq k)[j]=[]
 .rw[Vm o];simp[o]
 .rw[Vq o];simp[wX.2 o]
def ZE{k:List Fg}(o:RightK k){j:Nat}(h:j+1<(zq k).length):1<=(zq k)[j+1]/\(zq k)[j+1]<zk:=by refine⟨?_,x7 o _ (XE h)⟩;have:=wT.1 (xc k) j (j+1) a8 h a8;omega
def zdF(k:List Fg)(w:RightK k)(hz:QW k)(u:k.length<=1073741824)(E:(CI k).length<=1000000):Cn xt 105 [kp k] (rg (zu k)):=by
 have H:=vY k;have C:=zw;refine zt func105 1 ?_;refine pw ?_;refine .c (zaG k w hz u E) ?_;refine pLoop.go (λj=>j<=(zq k).length) (λj=>[(3,.sl ((Vy k j).map Q2) (.r 38 2)),(12,.v (.int .i64 (j:Nat)))]) (λ_=>[]) (λj=>(zq k).length-j) 0 [3,12] ?_ ?_ ?_
 .exact X3 _
 .refine pw ?_;rfl
 .rintro j I;have G:=VB k j;refine pw ?_;refine .i ?_ ?_<;>intro h<;>first|refine pw ?_|exact pd
  .have o:=YE h;have F:=x7 w _ (XE h);refine pw ?_;refine .c (K9 k (zq k)[j] w hz u) ?_;refine .i ?_ ?_<;>intro A<;>first|refine pw ?_|exact pd
   .rw[Vm A,Wc]at o;exact⟨j+1,h,a8,by rw[o],rfl⟩
   .rw[Vq A]at o;refine .i ?_ ?_<;>intro B<;>first|refine pw ?_|exact pd
    .obtain⟨J,K⟩:=ZE w B;rw[ul B]at o;refine pw ?_;refine⟨j+1,h,a8,?_,rfl⟩;rw[o];simp[Q2]
    .rw[UO a8]at o;refine pw ?_;refine⟨j+1,h,a8,?_,rfl⟩;rw[o];simp[Q2,C]
  .rw[Vz k a8]
def QG(f:Fg)(r:List Fg)(x y:Nat):qX (f::r) x y=((mem f.items x == mem f.items y) && qX r x y):=rfl
def refSameM_c(k:List Fg)(x y:Nat)(hz:QW k):Cn xt 162 [kp k,.v (.int .u64 x),.v (.int .u64 y)] (.v (.bool (qX k x y))):=by
 have B:=hz.1;refine zt func162 3 ?_;refine pw ?_;refine pLoop.go (λj=>j<=k.length/\qX k x y=qX (k.drop j) x y) (λj=>[(7,.v (.int .i64 (j:Nat)))]) (λ_=>[]) (λj=>k.length-j) 0 [7] ?_ ?_ ?_
 .exact⟨X3 _,rfl⟩
 .exact pd
 .rintro j ⟨A,u⟩;refine pw ?_;refine .i ?_ ?_<;>intro h<;>first|refine pw ?_|exact pd
  .rw[vD h]at u;have o:=hz.2 _ (XE h);refine pw ?_;refine .c (kU k[j].items x o.1) ?_;refine .c (kU k[j].items y o.1) ?_;refine .i ?_ ?_<;>intro w<;>first|refine pw ?_|exact pd
   .rw[u,QG,w,td]
   .refine⟨j+1,⟨h,?_⟩,a8,rfl⟩;rw[u,QG,w,Bool.true_and]
  .rw[u,wA a8];rfl
def zbb(k:List Fg)(l:List Nat):List Nat:=l.filter λx=>decide (x=0) || !qX k (x-1) x
def zbc(k:List Fg){l:List Nat}{j:Nat}(h:j<l.length):zbb k (l.take (j+1))=zbb k (l.take j)++if (decide (l[j]=0) || !qX k (l[j]-1) l[j])=true then [l[j]] else []:=by
 unfold zbb;rw[X4 h,up];congr 1;by_cases o:(decide (l[j]=0) || !qX k (l[j]-1) l[j])=true
 .rw[Vm o];simp only[uB,UK];exact Vm o
 .rw[Vq o];simp only[uB,UK];exact Vq o
def zc7(k:List Fg)(l:List Nat)(j:Nat):(zbb k (l.take j)).length<=j:=V0 (WF _ _) (uM _ _)
def Ya(k:List Fg)(I:RightK k)(hz:QW k)(M:k.length<=1048576)(K:(CI k).length<=1000000)(hi:∀f∈k,f.items.length<=1048576):Cn xt 128 [kp k] (ns (zq k)):=by
 have O:=zw;have F:(zH (k.map Fg.items)).length<=1048576:=by have E:(zH (k.map Fg.items)).length<=(yU (k.map Fg.items)).length:=ju _;have N:(yU (k.map Fg.items)).length=1+(CI k).length:=(by unfold yU CI;rw[ww,Ua];omega);omega
 have C:∀x∈zH (k.map Fg.items),x<zk:=λx J=>Ze (λl u s hs=>by
  obtain⟨f,A,rfl⟩:=wD.1 u;have:=NF.lo_ge (I f A).1 s hs;omega) x J
 have w:=VX (k.map Fg.items) a9 (λl u=>by
  obtain⟨f,A,rfl⟩:=wD.1 u;exact hi f A) (by unfold yU;rw[ww,Ua];unfold CI at K;omega) (λl u=>by
  obtain⟨f,A,rfl⟩:=wD.1 u;exact(I f A).1.lt)
 rw[show rgs (k.map Fg.items)=.sl (k.map λf=>[rg f.items]) .sh by unfold rgs;rw[Ub];rfl]at w;refine zt func128 1 ?_;refine pw ?_;refine pLoop.go (λj=>j<=k.length) (λj=>[(3,.sl ((k.take j).map λf=>[rg f.items]) (.r 21 1)),(4,.v (.int .i64 (j:Nat)))]) (λ_=>[]) (λj=>k.length-j) 0 [3,4] ?_ ?_ ?_
 .exact X3 _
 .exact pd
 .rintro j L;refine pw ?_;refine .i ?_ ?_<;>intro h<;>first|refine pw ?_|exact pd
  .refine⟨j+1,h,a8,?_,rfl⟩;rw[X4 h,WK];rfl
  ·rw [show k.take j=k from wm a8]
   (first|refine .rd (w) rfl ?_|refine .mk (w) rfl ?_)
   obtain⟨l,u⟩:=xm (zH (k.map Fg.items));rw[<-u]at F C⊢;have B:zbb k l=zq k:=(by rw[u];rfl);refine pw ?_;refine pLoop.go (λj=>j<=l.length) (λj=>[(6,.sl ((zbb k (l.take j)).map yN) (.r 55 1)),(7,.v (.int .i64 (j:Nat)))]) (λ_=>[]) (λj=>l.length-j) 0 [6,7] ?_ ?_ ?_
   .exact X3 _
   .refine pw ?_;rfl
   .rintro j L;have H:=zc7 k l j;refine pw ?_;refine .i ?_ ?_<;>intro h<;>first|refine pw ?_|exact pd
    .have o:=zbc k h;have J:=C _ (XE h);refine .i ?_ ?_<;>intro G<;>first|refine pw ?_|exact pd
     .rw[Vm (by simp[G])]at o;refine⟨j+1,h,a8,?_,rfl⟩;rw[o];simp[yN]
     .refine .c (refSameM_c k (l[j]-1) l[j] hz) ?_;refine .i ?_ ?_<;>intro E<;>first|refine pw ?_|exact pd
      .rw[Vm (by rw[E];simp)]at o;refine⟨j+1,h,a8,?_,rfl⟩;rw[o];simp[yN]
      .rw[Vq (by rw[E];simpa using G),Wc]at o;exact⟨j+1,h,a8,by rw[o],rfl⟩
    .rw[show l.take j=l from wm a8,B]
def VT(k:List Fg)(A:RightK k)(hz:QW k)(B:k.length<=1048576)(H:(CI k).length<=1000000)(u:Cn xt 128 [kp k] (ns (zq k))):Cn xt 95 [kp k] (rg (zu k)):=by
 have F:=vY k;have G:=zw;refine zt func95 1 ?_;refine pw ?_
 (first|refine .c (u) ?_|refine .o (u) ?_)
 refine pLoop.go (λj=>j<=(zq k).length) (λj=>[(4,.sl ((Vy k j).map Q2) (.r 27 2)),(5,.v (.int .i64 (j:Nat)))]) (λ_=>[]) (λj=>(zq k).length-j) 0 [4,5] ?_ ?_ ?_
 .exact X3 _
 .refine pw ?_;rfl
 .rintro j I;have E:=VB k j;refine pw ?_;refine .i ?_ ?_<;>intro h<;>first|refine pw ?_|exact pd
  .have u:=YE h;have C:=x7 A _ (XE h);refine pw ?_;refine .c (refKMemb_c k (zq k)[j] hz a8) ?_;refine .i ?_ ?_<;>intro w<;>first|refine pw ?_|exact pd
   .refine .c (zan (zq k) j h a8 (λh=>ZE A h)) ?_;rw[Vq (by intro e;rw[e]at w;simp at w)]at u;refine⟨j+1,h,a8,?_,rfl⟩;rw[u];simp[Q2]
   .rw[Vm (dK w),Wc]at u;exact⟨j+1,h,a8,by rw[u],rfl⟩
  .rw[Vz k a8]
structure Ok12(C:Qk)(R:List Nat)(k:List Fg):Prop where
 r:RightK k
 z:QW k
 l:k.length<=1048576
 t:(CI k).length<=1000000
 i:∀f∈k,f.items.length<=1048576
 ik:IK C R k
 ok:OkC C R
 s:∀f∈k,SmV f.vec
noncomputable def zij (k:List Fg) (s:Iv):Fg:=⟨[s],qc k s.lo⟩
def zil(k:List Fg){j:Nat}(h:j<(zu k).length):((zu k).take (j+1)).map (λs=>fc (zij k s))=((zu k).take j).map (λs=>fc (zij k s))++[fc (zij k (zu k)[j])]:=by rw[X4 h,WK];rfl
def zjf(k:List Fg){j:Nat}(h:(zu k).length<=j):((zu k).take j).map (λs=>fc (zij k s))=(jq k).map fc:=by rw[wm h];unfold jq;rw[Ub];rfl
def ziJ{C:Qk}{R:List Nat}(k:List Fg)(o:Ok12 C R k):Cn xt 104 [kp k] (kp (jq k)):=by
 have A:=xW k;have w:=o.t;refine zt func104 1 ?_;refine pw ?_;refine .c (zdF k o.r o.z (by have:=o.l;omega) o.t) ?_;refine pLoop.go (λj=>j<=(zu k).length) (λj=>[(3,.sl (((zu k).take j).map (λs=>fc (zij k s))) (.r 22 2)),(9,.v (.int .i64 (j:Nat)))]) (λ_=>[]) (λj=>(zu k).length-j) 0 [3,9] ?_ ?_ ?_
 .exact X3 _
 .exact pd
 .rintro j B;refine pw ?_;refine .i ?_ ?_<;>intro h<;>first|refine pw ?_|exact pd
  .have u:=zil k h;refine .c (zgU k (zu k)[j].lo o.ik o.ok o.r o.s o.z) ?_;refine cutP.full rfl ?_ rfl ?_ ?_
   .exact pd
   .exact pd
   .refine pw ?_;exact⟨j+1,h,a8,u.symm,rfl⟩
  .exact zjf k a8
def zqR{C:Qk}{R:List Nat}(k:List Fg)(o:Ok12 C R k):Cn xt 138 [kp k] (kp (jq k)):=by
 have A:=xW k;have w:=o.t;refine zt func138 1 ?_;refine pw ?_;refine .c (VT k o.r o.z o.l o.t (Ya k o.r o.z o.l o.t o.i)) ?_;refine pLoop.go (λj=>j<=(zu k).length) (λj=>[(4,.sl (((zu k).take j).map (λs=>fc (zij k s))) (.r 29 2)),(5,.v (.int .i64 (j:Nat)))]) (λ_=>[]) (λj=>(zu k).length-j) 0 [4,5] ?_ ?_ ?_
 .exact X3 _
 .exact pd
 .rintro j B;refine pw ?_;refine .i ?_ ?_<;>intro h<;>first|refine pw ?_|exact pd
  .have u:=zil k h;refine .c (VR k (zu k)[j].lo o.ik o.ok o.r o.s o.z) ?_;refine cutP.full rfl ?_ rfl ?_ ?_
   .exact pd
   .exact pd
   .refine pw ?_;exact⟨j+1,h,a8,u.symm,rfl⟩
  .exact zjf k a8
def OkX(C:Qk)(R:List Nat):Prop:=(∀r,(C r).length<=9000)/\R.length<=1000
def OkX.c{C:Qk}{R:List Nat}(h:OkX C R):OkC C R:=⟨h.1,by have:=h.2;omega⟩
structure Kn(C:Qk)(R:List Nat)(n:Nat)(k:List Fg):Prop where
 r:RightK k
 ik:IK C R k
 s:∀f∈k,SmV f.vec
 m:qE k<=n
 l:k.length<=n
def Kn.z{C:Qk}{R:List Nat}{n:Nat}{k:List Fg}(h:Kn C R n k)(u:n<=400000):QW k:=
 ⟨by have:=h.l;omega,λf j=>⟨by have:=yv j;have:=h.m;omega,by have:=(h.s f j).2.1;omega,λe o=>by have:=(h.s f j).2.2 e o;omega⟩⟩
def Kn.ok12{C:Qk}{R:List Nat}{n:Nat}{k:List Fg}(h:Kn C R n k)(ok:OkX C R)(o:n<=400000):Ok12 C R k:=
 ⟨h.r,h.z o,by have:=h.l;omega,by have:=YO k;have:=h.m;omega,λf j=>by have:=yv j;have:=h.m;omega,h.ik,ok.c,h.s⟩
def Kn.refine{C:Qk}{R:List Nat}{n:Nat}{k:List Fg}(h:Kn C R n k)(ok:OkX C R):Kn C R (1+2*n) (jq k):=by
 have u:=xW k;have w:=YO k;have A:=h.m;have o:=h.ik.refine;refine⟨Yb h.r,λf j=>(o f j).iv,λf j=>(o f j).smv ok.c,?_,?_⟩
 .unfold jq;rw[Zf];omega
 .unfold jq;rw[wB];omega
def Kn.group{C:Qk}{R:List Nat}{n:Nat}{k:List Fg}(h:Kn C R n k)(ok:OkX C R):Kn C R n (zL k):=by
 have u:=jU h.r;have o:∀g∈zL k,WV C R g.vec:=λg j=>by obtain⟨f,w,e⟩:=u.2.2 g j;rw[e];exact(h.ik f w).canVec
 exact⟨(vB h.r).right,λg j=>(o g j).iv,λg j=>(o g j).smv ok.c,by have:=h.m;omega,by have:=h.l;omega⟩
def Kn.take{C:Qk}{R:List Nat}{n:Nat}{k:List Fg}(h:Kn C R n k)(j:Nat):Kn C R n (k.take j):=by
 refine⟨h.r.take j,h.ik.take j,λf u=>h.s f (WH u),?_,?_⟩
 .have o:=kK (k.take j) (k.drop j);rw[Wd]at o;have:=h.m;omega
 .have:=h.l;have:=uM j k;have:=tf j k;omega
section
attribute [-go_sem] z7
def XK{C:Qk}{R:List Nat}{n j:Nat}{k:List Fg}(h:Kn C R n k)(ok:OkX C R)(H:n<=400000)(F:j<k.length)(A:¬(zi k[j].vec=[]\/k[j].items=[])):AddOk (zL (k.take j)) ⟨k[j].items,zi k[j].vec⟩:=by
 have ht:=h.take j;have u:=ht.group ok;have gi:=vB ht.r;have w:=XE F;have B:=(h.ik _ w).canVec;have hs:=jU ht.r;have G:∀g∈zL (k.take j),WV C R g.vec:=λg u=>by obtain⟨f,E,e⟩:=hs.2.2 g u;rw[e];exact(ht.ik f E).canVec
 exact⟨gi,Yi (h.r _ w) A,by have:=u.l;omega,by have:=yv w;have:=h.m;show k[j].items.length<=_;omega,λg o=>by have:=yv o;have:=u.m;omega,B.can.bd,λg o=>(gi.ok g o).1.bd,B.nlen ok.1 (by have:=ok.2;omega),λg o=>(G g o).nlen ok.1 (by have:=ok.2;omega)⟩
def zeA{P:Program}{f:FuncId}{t:Tmp}{p:Value}{xs:List Operand}{c:Call}{o:Oper}{a:Act}{w:World}{K:Act->World->Prop}{Q:Exit->Act->World->Prop}(ho:o.op=.call c)(B:c.callee=.value (.tmp t))(F:a.eval (.tmp t)=.func (.func f) #[p] #[])(A:c.args.toList=xs)
 (C:∀j w,(callFunc f j).run P w=.ok (.enter f j) w)
 (h:Calls P f (p::xs.map a.eval).toArray w λe u=>match e with|.returned v=>K (a.put o.dst v) u|.panicked chain=>Q (.panic chain) a u|.outgrown=>LetsOut Q):o.wp P a w K Q:=by
 have E:(execOp a.eval o).run P w=.ok (.enter f (p::xs.map a.eval).toArray) w:=by have e:c.args.map a.eval=(xs.map a.eval).toArray:=WG.1 (by rw[WX,A]);simp only[execOp,ho,resolve,B,e,F,Deferred.ofValue,tH,tJ,tB,invoke];rw[show (#[p]++(xs.map a.eval).toArray++#[]:Array Value)=(p::xs.map a.eval).toArray from by simp];exact C _ _
 unfold Oper.wp;rw[E,Tc];exact h.mono (λe G h=>by cases e<;>exact h)
def Vb{B:Qk}{R:List Nat}{n:Nat}(C:xT)(k:List Fg)(vk:Value)(w:World)(hk:Kn B R n k)(ok:OkX B R)(hn:n<=400000)(rk:Dat C w vk (kp k))(hC:∀b o,C b o->b<w.heap.size)(hG:GL C w):
 Calls xt 103 #[vk] w λe w'=>∃v,e=.returned v/\Keep (λb=>w.heap.size<=b) w w'/\Dat (DL C w.heap.size w') w' v (kp (zL k)):=by
 have aP:∀(fn:Fn)(first aq:Array Value)(w:World),(Instr.makeFunc fn first aq).run xt w=.ok (.func fn first aq) w:=λ_ _ _ _=>rfl;obtain⟨aa,ca,fs,rfl,hl,I,aw⟩:=kX rk hC;have aO:=hk.l;have HK:=qL hk;have ao:=qL I;have aF:=qL aw;have aG:=qL hG;have aJ:=I.1;have aK:=I.2.1;unfold maxLen at aK;rw[hl]at aJ;have ab:∀V w,(callFunc 140 V).run xt w=.ok (.enter 140 V) w:=enters_of func140 dL rfl;have aE:=qL ab;clear rk I aw hG ab hk;go_enter func103,ntmps103
 go_wp2_with fail
 go_loopg [11] k.length (λg x wr=>∃j u,j<=k.length/\g=k.length-j/\x=.int .i64 j/\Boxed wr w.heap.size 224 u/\OutG C (w.heap.size+1) (w.heap.size+2) wr u (zL (k.take j))/\Keep (λb=>w.heap.size<=b) w wr)
 case atStart=>exact⟨0,_,X3 _,rfl,rfl,tq w _,OutG.start _ _ _ _,(Keep.refl _ w).alloc _⟩
 case round=>
  obtain⟨j,u,hj,rfl,rfl,S,ac,ay⟩:=hrel;have ad:=qL S;have H:=qL ac;have G:=qL ay;have aj:=S.lt;have cb:=S.cell;clear S ac ay;by_cases K:j<k.length
  ·have N:j<fs.length:=a8;obtain⟨bb,az,rfl,aM,Z⟩:=ao.o.2.2 (by intro e;subst e;simp at N);obtain⟨c0,c1⟩:=Z j N;obtain⟨d0,d1⟩:=aF.o j N;replace c0:=(G.o.cell (p:=⟨bb,az+j*2,none⟩) (by show bb<_;omega) (by show ¬w.heap.size<=bb;omega)).trans c0;replace c1:=(G.o.cell (p:=⟨bb,az+j*2+1,none⟩) (by show bb<_;omega) (by show ¬w.heap.size<=bb;omega)).trans c1;have aA:=qL (λU=>XK HK.o ok hn K U);have ae:=qL (Zo K);have T:=XE K;have ak:=HK.o.s _ T;have au:=HK.o.r _ T;have aN:k[j].items.length<=400000:=(by have:=yv T;have:=HK.o.m;omega);generalize k[j]=f at *;generalize fs[j]=q at *;obtain⟨ai,ci,e0⟩:=zK d0;obtain⟨av,cv,e1⟩:=xL d1;rw[e0]at c0 d0;rw[e1]at c1 d1;have M:∀b o,C b o->b<wr.heap.size:=λb o h=>(by have:=hC b o h;omega);have ar:GL C wr:=aG.o.mono (λ_ _ h=>h) λb o x hc hx=>G.o.cell_some hx (by have:=hC b o hc;show ¬w.heap.size<=b;omega);have ah:∀(x:Value)(p:PV),Dat C w x p->∀W,Below wr.heap.size wr W->Dat C W x p:=λx p h W hW=>h.mono (λ_ _ h=>h) λb o x hc hx=>(tp (a:=⟨b,o,none⟩) (hW.block b (M b o hc))).trans (G.o.cell_some hx (by have:=hC b o hc;show ¬w.heap.size<=b;omega));have ag:∀W,Below wr.heap.size wr W->GL C W:=λW hW=>ar.mono (λ_ _ h=>h) λb o x hc hx=>(tp (a:=⟨b,o,none⟩) (hW.block b (M b o hc))).trans hx;have Y:∀W,Below wr.heap.size wr W->Calls xt 141 #[.slice av f.vec.length cv] W λe w'=>∃a c,e=.returned (.slice a (zi f.vec).length c)/\Below W.heap.size W w'/\Dat (λb o=>C b o\/(W.heap.size<=b/\b<w'.heap.size)) w' (.slice a (zi f.vec).length c) (vp (zi f.vec)):=λW hW=>by
    refine(jP (D:=C) (zer f.vec au.2 ak.2.1 ak.2.2) (ag W hW) (λb o h=>vw (M b o h) hW.size) rfl (λi p hp=>?_)).mono ?_
    .match i,hp with
     |0,hp=>cases hp;exact ah _ _ d1 W hW
     |i+1,hp=>simp at hp
    .rintro e w' ⟨v,rfl,hb,hd⟩;obtain⟨a,c,rfl⟩:=xL hd;exact⟨a,c,rfl,hb,hd⟩
   have L:=qL Y;have aB:=qL d0;have aD:=qL ah;have aH:=qL ag;have aL:=qL M;clear Y d0 d1 ah ag M ar Z T ak au e0 e1;have F:True:=trivial;by_cases h1:0<(zi f.vec).length
   .by_cases h2:0<f.items.length
    .go_wp2_with (first
      | (go_at_call 141;have _t:=F;refine(L.o _ ((tv _ _).alloc (Zp _) _)).mono ?_;rintro e w3 ⟨a3,n3,rfl,E,J⟩
         have Q:w3.heap[wr.heap.size]?=some (.cells #[.slice ai f.items.length ci,.slice av f.vec.length cv] 59 (0,0)):=(E.block _ b6).trans (tq wr _);have f0:=(zW Q 0 _ rfl).1;have A:=qL (((tv _ wr).alloc (Zp _) _).trans (E.mono b6));have P:=E.size;simp only[tx]at P;have aC:=qL J;clear E J Q F)
      |go_in)
     refine zeA (t:=27) (xs:=[.tmp 31]) rfl rfl rfl rfl aE.o ?_;have U:¬(zi f.vec=[]\/f.items=[]):=λe=>by
      rcases e with e|e
      .rw[e]at h1;simp at h1
      .rw[e]at h2;simp at h2
     have am:=H.o.owns;refine(Jh (C:=C) (base:=w.heap.size+2) (rb:=w.heap.size) (v:=u) (o:=zL (k.take j)) (f:=⟨f.items,zi f.vec⟩) (va:=.slice ai f.items.length ci) (vv:=.slice a3 (zi f.vec).length n3) (aA.o U) (H.o.keep a8 λb hb=>A.o.block b hb) ((A.o.block _ aj).trans ad.o) a8 a8 hC (aH.o _ A.o) ?_ ?_).mono ?_
     .exact(aD.o _ _ aB.o _ A.o).mono (λb o h=>⟨.inl h,λe=>by have:=(am b e).1;have:=hC b o h;omega⟩) λ_ _ _ _ h=>h
     .refine aC.o.mono (λb o h=>?_) λ_ _ _ _ h=>h;rcases h with h|h
      .exact⟨.inl h,λe=>by have:=(am b e).1;have:=hC b o h;omega⟩
      .simp only[tx]at h;exact⟨.inr ⟨a8,h.2⟩,λe=>by have:=(am b e).2;omega⟩
     rintro e w4 ⟨⟨u',rfl⟩,v',X,O,ax⟩;have an:=qL X;have af:=qL O;have aI:=qL ax;clear X O ax;dsimp only
     go_wp2_with fail
     go_roundg (k.length-(j+1));case measure=>omega
     case rel=>refine⟨j+1,v',K,rfl,b6,an.o,?_,(G.o.trans (Keep.of_below' A.o (Zp _))).trans (aI.o.mono λb _ h=>a8)⟩;rw[ae.o,yo,Vq U];exact af.o
    .have h0:f.items=[]:=by cases hf:f.items with|nil=>rfl|cons a l=>rw[hf]at h2;simp at h2
     have H0:=qL h0;clear h0
     go_wp2_with (first
      | (go_at_call 141;have _t:=F;refine(L.o _ ((tv _ _).alloc (Zp _) _)).mono ?_;rintro e w3 ⟨a3,n3,rfl,E,J⟩
         have Q:w3.heap[wr.heap.size]?=some (.cells #[.slice ai f.items.length ci,.slice av f.vec.length cv] 59 (0,0)):=(E.block _ b6).trans (tq wr _);have f0:=(zW Q 0 _ rfl).1;have A:=qL (((tv _ wr).alloc (Zp _) _).trans (E.mono b6));have P:=E.size;simp only[tx]at P;clear E J Q F)
      |go_in)
     go_roundg (k.length-(j+1));case measure=>omega
     case rel=>refine⟨j+1,u,K,rfl,b6,(A.o.block _ aj).trans ad.o,?_,G.o.trans (Keep.of_below' A.o (Zp _))⟩;rw[ae.o,yo,Vm (.inr H0.o)];exact H.o.keep a8 λb hb=>A.o.block b hb
   .have h0:zi f.vec=[]:=by cases hf:zi f.vec with|nil=>rfl|cons a l=>rw[hf]at h1;simp at h1
    have H0:=qL h0;clear h0
    go_wp2_with (first
     | (go_at_call 141;have _t:=F;refine(L.o _ ((tv _ _).alloc (Zp _) _)).mono ?_;rintro e w3 ⟨a3,n3,rfl,E,J⟩
        have A:=qL (((tv _ wr).alloc (Zp _) _).trans (E.mono b6));have P:=E.size;simp only[tx]at P;clear E J F)
     |go_in)
    go_roundg (k.length-(j+1));case measure=>omega
    case rel=>refine⟨j+1,u,K,rfl,b6,(A.o.block _ aj).trans ad.o,?_,G.o.trans (Keep.of_below' A.o (Zp _))⟩;rw[ae.o,yo,Vm (.inl H0.o)];exact H.o.keep a8 λb hb=>A.o.block b hb
  .obtain rfl:j=k.length:=a8
   go_wp2_with fail
   refine tA (tL rfl _ _ _) rfl ?_;have h:=H.o.dat a8;rw[Wr]at h;exact⟨_,rfl,G.o,h.mono (λb o h=>h.imp id λh=>⟨a8,h.2⟩) λ_ _ _ _ h=>h⟩
def zfn{B:Qk}{R:List Nat}{n:Nat}(k:List Fg)(hk:Kn B R n k)(ok:OkX B R)(C:n<=400000):Cn xt 103 [kp k] (kp (zL k)):=by refine yZ rfl (enters_of func103 dL rfl) λD w G u o j A=>?_;rw[KB j];refine(Vb D k _ w hk ok C (A 0 _ rfl) o u).mono ?_;rintro e H ⟨v,rfl,hb,E⟩;exact⟨v,rfl,hb.below (Zp _) λ_ h F=>a8,E.mono (λ_ _ h=>h.imp id λh=>⟨uz h.1,h.2⟩) λ_ _ _ _ h=>h⟩
def YI(w:World)(t N:TypeId)(ht:xt.underlying t=some (.slice 59))(base:Nat)(v:Value)(n:Nat)(O:List Value)(A:w.ownsRow base 59 2 v n O)(H:Option Addr)(m c:Nat)(o:List Value)(Q:o.length=m*2)
 (C:(m=0/\H=none)\/∃a,H=some a/\∀j u,o[j]?=some u->w.cell? (a.add j)=some u) (V:∀u∈o,u.oneCell'=true) (X:n+m<=1073741824) (B:base<=w.heap.size) :
 ∃E G,(Builtin.append_ #[t,t] N #[v,.slice H m c]).run xt w=.ok E G/\G.ownsRow base 59 2 E (n+m) (O++o)/\w.grownBy G v.ownBlock/\(E.ownBlock=v.ownBlock\/E.ownBlock=some w.heap.size):=by
 obtain⟨S,F,K,L,M⟩:=tR Z9;rcases C with⟨rfl,rfl⟩|⟨a,rfl,Y⟩
 .obtain rfl:o=[]:=wY.1 Q;obtain⟨I,cp,rfl,J⟩:∃I cp,v=.slice I n cp/\n<=cp:=by
   rcases A.2 with⟨rfl,rfl⟩|⟨g,T,U,rfl,_,_,h,_⟩
   .exact⟨none,0,rfl,Zp _⟩
   .exact⟨_,_,rfl,h⟩
  exact⟨_,w,ve w t N _ S ht F I n cp c J,dK A,jW _ _,.inl rfl⟩
 .obtain⟨E,G,Z,r2,r3,_,r5⟩:=Tk (P:=xt) w base t N 59 S _ 2 48 ht F K L M rfl b8 v n O A a m c o (dK Q) Y V c8 a8 B;exact⟨E,G,Z,r2,r3,r5⟩
def yH{H:Array Oper}{o:Oper}{a:Act}{w:World}{K:Act->World->Prop}{Q:Exit->Act->World->Prop}{E:Prop}(s x:Operand)(t:TypeId)(M:o.guard=none)
 (ho:o.op=.call { callee:=.builtin .append,args:=#[s,x],argTypes:=#[t,t] }) (ht:xt.underlying t=some (.slice 59)) (base:Nat) (v:Value) (n:Nat) (N:List Value) (hs:a.eval s=v) (G:w.ownsRow base 59 2 v n N)
 (J:Option Addr) (m c:Nat) (A:List Value) (Y:a.eval x=.slice J m c) (U:A.length=m*2) (C:(m=0/\J=none)\/∃a,J=some a/\∀j u,A[j]?=some u->w.cell? (a.add j)=some u) (O:∀u∈A,u.oneCell'=true) (L:n+m<=1073741824) (B:base<=w.heap.size)
 (h:∀F I,I.ownsRow base 59 2 F (n+m) (N++A)->w.grownBy I v.ownBlock->(F.ownBlock=v.ownBlock\/F.ownBlock=some w.heap.size)->K (a.put o.dst F) I):if Region.wanted o (yielded H a.tmps)=true then Oper.wp xt o a w K Q else E:=by
 have X:Region.wanted o (yielded H a.tmps)=true:=by simp[Region.wanted,M]
 rw[Vm X];obtain⟨F,I,V,P,S,T⟩:=YI w t o.type ht base v n N G J m c A U C O L B;unfold Oper.wp execOp;simp only[ho,resolve,invoke,builtin,tH,tJ,tB,ui,WA,ub,hs,Y,V];exact h F I P S T
def zdz{w:World}{base A:Nat}(j:base<=A)(h:w.heap[A]?=some (.cells #[] 59 (0,0))):w.ownsRow base 59 2 (.slice (some ⟨A,0,none⟩) 0 0) 0 []:=⟨rfl,.inr ⟨A,0,#[],rfl,j,h,Zp _,X3 _,rfl,rfl⟩⟩
def OutG.at{C:xT}{M base:Nat}{w:World}{B:Option Addr}{u:Nat}{o:List Fg}(h:OutG C M base w (.slice B o.length u) o){i:Nat}(hi:i<o.length):
 ∃g G I H cv A,B=some ⟨g,0,none⟩/\base<=g/\w.heap[g]?=some (.cells A 59 (0,0))/\w.cell? ⟨g,i*2,none⟩=some (.slice G o[i].items.length I)/\w.cell? ⟨g,i*2+1,none⟩=some (.slice H o[i].vec.length cv) /\
  Dat (DX C M w (.slice B o.length u)) w (.slice G o[i].items.length I) (rg o[i].items)/\Dat (DX C M w (.slice B o.length u)) w (.slice H o[i].vec.length cv) (vp o[i].vec):=by
 obtain⟨S,F,J⟩:=h;obtain⟨a,b,ea,eb,N,db⟩:=J i hi;obtain⟨g,E,A,ev,K,P,L,_⟩:=F.cases.resolve_left (λh=>a8);obtain⟨rfl,_,rfl⟩:B=some ⟨g,0,none⟩/\o.length=o.length/\u=E:=dK ev
 have O:∀j x,S[j]?=some x->w.cell? ⟨g,j,none⟩=some x:=λj x Q=>by have:=tK F.1 (g:=g) rfl j x Q;rw[zh,wn]at this;exact this
 obtain⟨G,I,rfl⟩:=zK N;obtain⟨H,cv,rfl⟩:=xL db;exact⟨g,G,I,H,cv,A,rfl,K,L,O _ _ ea,O _ _ eb,N,db⟩
def zep{C:xT}{rb:Nat}{w:World}{v a b:Value}{l m:List Iv}(L:Nrm l)(M:Nrm m)(G:l.length<=131072)(H:m.length<=131072)(F:Dat (DX C rb w v) w a (rg l))(db:Dat (DX C rb w v) w b (rg m))(O:∀k,v.ownBlock=some k->k<w.heap.size)(E:∀b o,C b o->v.ownBlock≠some b)(I:∀b o,C b o->b<w.heap.size)(N:rb<w.heap.size)(J:GL C w):
 Calls xt 137 #[a,b] w λe B=>∃u,e=.returned u/\Below w.heap.size w B/\Dat (DX C rb B v) B u (rg (qy zn l m)):=by
 refine(jP (D:=DX C rb w v) (Kf l m L M G H) (J.mono (λb o h=>⟨.inl h,E b o h⟩) λ_ _ _ _ h=>h) (λb o h=>h.1.elim (I b o) uf) rfl (λj p A=>?_)).mono ?_
 .match j,A with
  |0,A=>cases A;exact F
  |1,A=>cases A;exact db
  |j+2,A=>simp at A
 .rintro e B ⟨u,rfl,hb,K⟩;exact⟨u,rfl,hb,K.mono (λb o h=>by
   rcases h with h|h
   .exact⟨h.1.imp id λh=>⟨h.1,vw h.2 hb.size⟩,h.2⟩
   .exact⟨.inr ⟨a8,h.2⟩,λe=>by have:=O b e;omega⟩) λ_ _ _ _ h=>h⟩
def zhr{C:xT}{rb:Nat}{w:World}{v a b:Value}{l m:List En}(c:Int)(K:zZ (zv l) (zv m)=c)(E:l.length<=1024/\∀e∈l,e.holes.length<=1048576)(F:m.length<=1024/\∀e∈m,e.holes.length<=1048576)(H:Dat (DX C rb w v) w a (vp l))(db:Dat (DX C rb w v) w b (vp m))(B:∀b o,C b o->v.ownBlock≠some b)(I:∀b o,C b o->b<w.heap.size)(J:GL C w):
 Calls xt 136 #[a,b] w λe G=>e=.returned (.int .i64 c)/\Below w.heap.size w G:=by
 subst K;refine(jP (D:=DX C rb w v) (Xp l m E.2 F.2 E.1 F.1) (J.mono (λb o h=>⟨.inl h,B b o h⟩) λ_ _ _ _ h=>h) (λb o h=>h.1.elim (I b o) uf) rfl (λj p A=>?_)).mono ?_
 .match j,A with
  |0,A=>cases A;exact H
  |1,A=>cases A;exact db
  |j+2,A=>simp at A
 .rintro e G ⟨u,rfl,hb,L⟩;have e:=(Rel.dat (ρ:=λ_=>0) (nb:=0) L).v_inv;rw[e];exact⟨rfl,hb⟩
def zfP{D:xT}{w:World}{u:Option Addr}{o:Nat}(h:o<=maxLen):Dat D w (.slice u 0 o) (kp []):=
 .sl u o 2 [] .sh 0 0 (λ_=>undef) b6 (λh=>by cases h) h (λh=>absurd rfl h) (λi e h=>by simp at h) (λj h=>by simp at h) (λi e j p h=>by simp at h)
end
end Go.Proofs.YtmpnbdhadjfbhaaGreatDoor
