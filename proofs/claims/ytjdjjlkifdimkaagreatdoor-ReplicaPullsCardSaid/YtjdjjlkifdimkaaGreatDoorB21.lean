import Derived.Test.YtjdjjlkifdimkaaGreatDoorB11
import Derived.Test.YtjdjjlkifdimkaaGreatDoorB20
set_option maxHeartbeats 16000000
set_option linter.all false
set_option maxRecDepth 100000
namespace Go.Proofs.YtjdjjlkifdimkaaGreatDoor
def Tw:=@Go.results_tmp2
open Go.RowKit
open Go.Proofs.Tryz
open Go.Proofs.Tryz renaming prog->xT
def zdi{l:List Iv}{x:Nat}(w:mem l x=true)(j:x=0\/mem l (x-1)=false):x∈l.map Iv.lo:=by
 obtain⟨s,hs,u,y⟩:=qf.1 w;refine wG.2 ⟨s,hs,?_⟩;rcases uJ u with o|o
 .rcases j with j|j
  .omega
  .have:mem l (x-1)=true:=qf.2 ⟨s,hs,b6,b6⟩;rw[this]at j;cases j
 .exact o
def zbS{a b:List Iv}(u:Nrm a)(hb:Nrm b):(qy zn a b).length<=a.length+b.length:=by
 have w:=qH (f:=zn) u hb;have:=Ji ((qy zn a b).map Iv.lo) (a.map Iv.lo++b.map Iv.lo) (NF.asc w) λy E=>by
  obtain⟨s,hs,rfl⟩:=wG.1 E;have C:=NF.lo_ge w s hs;have j:mem (qy zn a b) s.lo=true:=qf.2 ⟨s,hs,Zp _,C.2.1⟩;have B:s.lo=0\/(mem a (s.lo-1)=false/\mem b (s.lo-1)=false):=by
   by_cases A:s.lo=0
   .exact .inl A
   .have o:=NF.lo_prev w s hs A;rw[qj u hb b6]at o;simp only[zn,tl]at o;exact .inr o
  rw[qj u hb b6]at j;simp only[zn,WM]at j;rcases j with j|j
  .exact Ug _ (zdi j (B.imp id UY))
  .exact te _ (zdi j (B.imp id ui))
 simpa using this
def qE:List Fg->Nat
 |[]=>0
 |f::k=>f.items.length+qE k
def kK:∀(a b:List Fg),qE (a++b)=qE a+qE b
 |[],b=>by simp[qE]
 |f::a,b=>by simp only[Yf,qE,kK a b];omega
def yv:∀{k:List Fg}{f:Fg},f∈k->f.items.length<=qE k
 | g::k,f,h=>by
   rcases wm.1 h with rfl|h
   .simp only[qE];omega
   .have:=yv h;simp only[qE];omega
def YO:∀k:List Fg,(CI k).length<=2*qE k
 |[]=>by simp[CI,qE]
 |f::k=>by have j:=YO k;have o:=vq f.items;have:CI (f::k)=z6 f.items++CI k:=rfl;rw[this,wu,qE];omega
def Zf(V:Iv->List En):∀l:List Iv,qE (l.map λs=>⟨[s],V s⟩)=l.length
 |[]=>rfl
 |s::l=>by rw[WC,qE,Zf V l];simp;omega
def Vg:∀{o:List Fg}{f:Fg},(∀g∈o,Nrm g.items)->Nrm f.items->qE (qN o f)<=qE o+f.items.length/\(qN o f).length<=o.length+1/\∀g∈qN o f,g.vec=f.vec\/∃h∈o,g.vec=h.vec
 |[],f,_,_=>⟨by simp[qN,qE],by simp[qN],λg u=>by simp only[qN,wK]at u;subst u;exact .inl rfl⟩
 | g::o,f,ho,hf=>by
   have B:=Vg (o:=o) (f:=f) (λx j=>ho x (by simp[j])) hf;have u:=ho g b8;have C:=zbS u hf;unfold qN;by_cases w:zZ (zv g.vec) (zv f.vec)<0
   .rw[VS w];refine⟨by simp only[qE];omega,by simp only[wD];omega,λx j=>?_⟩;rcases wm.1 j with rfl|j
    .exact .inr ⟨_,b8,rfl⟩
    .exact(B.2.2 x j).imp id λ⟨y,hy,e⟩=>⟨y,by simp[hy],e⟩
   .rw[V2 w];by_cases A:zZ (zv g.vec) (zv f.vec)=0
    .rw[VS A];refine⟨by simp only[qE];omega,b8,λx j=>?_⟩;rcases wm.1 j with rfl|j
     .exact .inl rfl
     .exact .inr ⟨x,by simp[j],rfl⟩
    .rw[V2 A];refine⟨by simp only[qE];omega,b8,λx j=>?_⟩;rcases wm.1 j with rfl|j
     .exact .inl rfl
     .exact .inr ⟨x,j,rfl⟩
def Yq:∀{k o:List Fg},GrpI o->RightK k->qE (k.foldl yo o)<=qE o+qE k/\(k.foldl yo o).length<=o.length+k.length/\∀g∈k.foldl yo o,(∃f∈k,g.vec=zi f.vec)\/∃h∈o,g.vec=h.vec
 |[],o,_,_=>⟨b8,b8,λg j=>.inr ⟨g,j,rfl⟩⟩
 | f::k,o,ho,hk=>by
   have w:=hk f b8;have A:=Yq (k:=k) (o:=yo o f) (Yr ho w).1 λg j=>hk g (by simp[j]);rw[WN];have B:qE (yo o f)<=qE o+f.items.length/\(yo o f).length<=o.length+1/\∀g∈yo o f,g.vec=zi f.vec\/∃h∈o,g.vec=h.vec:=by
    unfold yo;split
    .exact⟨b6,b6,λg j=>.inr ⟨g,j,rfl⟩⟩
    .exact Vg (λg j=>(ho.ok g j).2.2.1) w.1
   refine⟨by simp only[qE];omega,by simp only[wD];omega,λg j=>?_⟩;rcases A.2.2 g j with⟨x,u,e⟩|⟨x,u,e⟩
   .exact .inl ⟨x,by simp[u],e⟩
   .rcases B.2.2 x u with e2|⟨y,C,e2⟩
    .exact .inl ⟨f,b8,e.trans e2⟩
    .exact .inr ⟨y,C,e.trans e2⟩
def jU{k:List Fg}(h:RightK k):qE (zL k)<=qE k/\(zL k).length<=k.length/\∀g∈zL k,∃f∈k,g.vec=zi f.vec:=by
 have:=Yq (o:=[]) GrpI.nil h;refine⟨by simpa[qE,zL]using this.1,by simpa[zL]using this.2.1,λg j=>?_⟩;rcases this.2.2 g j with h|⟨x,u,_⟩
 .exact h
 .cases u
def Zo{k:List Fg}{j:Nat}(h:j<k.length):zL (k.take (j+1))=yo (zL (k.take j)) k[j]:=by unfold zL;rw[vw h,W8];rfl
def zfS{v:List En}{h:Nat}(w:∀e∈v,e.holes.length<=h):(zv v).length<=1+v.length*(3+2*h):=by
 have:∀{v:List En},(∀e∈v,e.holes.length<=h)->(v.flatMap zC).length<=v.length*(3+2*h):=by
  intro v;induction v with
  |nil=>intro _;simp
  |cons e v ih=>intro j;have y:=ih λf u=>j f (by simp[u]);have A:=j e b8;have o:(v.length+1)*(3+2*h)=v.length*(3+2*h)+(3+2*h):=Nat.succ_mul _ _;simp only[Wn,wu,zC,wD,xx,o];omega
 have:=this w;unfold zv;simp only[wD];omega
def WV.nlen{C:Q9}{R:List Nat}{v:List En}(h:WV C R v)(u:∀r,(C r).length<=9000)(w:R.length<=20000):(zv v).length<=1073741824:=by obtain⟨_,j,o⟩:=h.bv u w;have y:=zfS o;have A:v.length*(3+2*(9000+2))<=20000*(3+2*(9000+2)):=Ww _ j;omega
section
open Go.Sort
def OwnU.base{base j:Nat}{w:World}{v:Value}{l:List Nat}(h:OwnU base w v l)(hb:j<=base):OwnU j w v l:=by
 refine⟨h.1,?_⟩;rcases h.2 with h|⟨g,o,u,e,y,r⟩
 .exact .inl h
 .exact .inr ⟨g,o,u,e,V3 hb y,r⟩
def zeb{w:World}{base:Nat}{v:Value}{l:List Nat}(h:OwnU base w v l)(T:l≠[])(hl:l.length<4611686018427387904):∃V,V.Perm l/\V.Pairwise (·<=·) /\
 Calls xT 118 #[v] w λe X=>e=.returned (.tuple #[])/\OwnU base X v V/\w.grownBy X v.ownBlock:=by
 obtain⟨E,hzs⟩:∃E:List Int,E=l.map λx:Nat=>(x:Int):=⟨_,rfl⟩;have J:E.length=l.length:=by rw[hzs];simp
 obtain⟨u,I⟩:∃u:List Int,u=E.mergeSort λx y=>decide (x<=y):=⟨_,rfl⟩;have o:u.Perm E:=by rw[I];exact List.mergeSort_perm _ _
 have G:u.Pairwise (λx y=>x<=y):=by
  have:=List.pairwise_mergeSort (le:=fun(x y:Int)=>decide (x<=y)) (λa b c Y P=>by simp at *;omega) (λa b=>b7) E;rw[<-I]at this;exact this.imp λh=>dM h
 have C:∀z∈u,∃x:Nat,x∈l/\z=(x:Int):=λz hz=>by have:=o.mem_iff.1 hz;rw[hzs,wG]at this;obtain⟨x,U,rfl⟩:=this;exact⟨x,U,rfl⟩
 have S:(u.map Int.toNat).map (λx:Nat=>(x:Int))=u:=by rw[Ui];refine(UQ (g:=id) λz hz=>?_).trans (List.map_id _);obtain⟨x,_,rfl⟩:=C z hz;simp
 refine⟨u.map Int.toNat,?_,?_,?_⟩
 .have:=o.map Int.toNat
  rw[hzs,Ui]at this
  rwa[show l.map (Int.toNat∘λx:Nat=>(x:Int))=l from (UQ (g:=id) λ_ _=>rfl).trans (List.map_id _)]at this
 .rw[uD];exact G.imp λh=>b6
 .rcases h.cases with⟨_,h0⟩|⟨g,K,A,rfl,Y,P,Q,h4,h5,h6,h7⟩
  .exact absurd h0 T
  .have hH:Holds zg w g 0 E.toArray:=(by intro j L;have M:j<l.length:=(by rw[<-J];simpa using L);refine⟨?_,by simp[World.frozen?,Q]⟩;have q:(A.toList.take l.length)[j]?=(l.map uV)[j]?:=(by rw[h7]);rw[U4 M]at q;simp only[World.cell?,Q,wy];simp only[Option.isSome_none,uI,U5];rw[<-u0,q];simp[M,hzs,uV]);have Z:=j7 g 0 K E w hH P b6;rw[J]at Z;refine Z.mono ?_;rintro e X ⟨rfl,n,os,rfl⟩;rw[<-I];have B:u.length=l.length:=(by rw[o.length_eq,J]);have F:(Sort.grow (Sort.putRow zg (Sort.ahead w n) g 0 u.toArray) os).heap[g]?=some (.cells (Sort.putCells zg 0 u.toArray A) 36 (0,0)):=(by rw[Sort.heap_grow_old _ _ (dM P)];simp[Sort.putRow,Sort.mapBlock,Sort.ahead,tf,Q,Sort.onCells]);have H:(Sort.putCells zg 0 u.toArray A).toList.take l.length=(u.map Int.toNat).map uV:=by
    apply Uu;intro j;by_cases L:j<l.length
    .rw[U4 L,u0];have N:j<u.length:=b6;obtain⟨x,_,U⟩:=C u[j] (X3 N);simp[Sort.putCells,N,show j<A.size by omega,uV,U]
    .rw[List.getElem?_take_eq_none b6,W7 b7]
   refine⟨rfl,⟨by simp[B],.inr ⟨g,K,_,by simp[B],Y,F,by simpa[B]using h4,h5,by simp[Sort.putCells,h6],?_⟩⟩,⟨rfl,rfl,rfl,b8,λj L O=>?_⟩⟩
   .rw[wB,Up,B];exact H
   .rw[Sort.heap_grow_old _ _ (dM L)];have:g≠j:=λe=>O (by rw[<-e];rfl);simp[Sort.putRow,Sort.mapBlock,Sort.ahead,tf,this]
end
section
open Go.Maps
attribute [-go_sem] z7
def MapS(D:DV)(S:List Nat):Prop:=IsMap D/\∀r,has D (kR r)=decide (r∈S)
def MapS.nil:MapS (.map []) []:=⟨⟨[],rfl⟩,λr=>by simp[has]⟩
def MapS.put{D:DV}{S:List Nat}(h:MapS D S)(r:Nat)(v:DV):MapS (D.put (kR r) v) (S++[r]):=by
 refine⟨h.1.put _ _,λs=>?_⟩;by_cases e:s=r
 .subst e;rw[T2 h.1 (Qc _)];simp
 .rw[TY (λh=>e (Xa h)),h.2 s];simp[e]
def MI(B:Nat)(w:World)(S:List Nat):Prop:=∃D,w.ownsMap xT 36 rV B S.length D/\MapS D S
def MI.made(w:World):MI w.heap.size (w.alloc (.map #[] 0)) []:=⟨_,TU _ _ _ _,MapS.nil⟩
def MI.keep{B:Nat}{w w':World}{S:List Nat}(h:MI B w S)(hb:w'.heap[B]?=w.heap[B]?):MI B w' S:=by obtain⟨D,j,o⟩:=h;exact⟨D,yg j hb,o⟩
def MI.lt{B:Nat}{w:World}{S:List Nat}(h:MI B w S):B<w.heap.size:=by obtain⟨D,j,_⟩:=h;exact j.lt
def xe{w:World}{C:Array Oper}{rest:List Oper}{o:Oper}{a:Act}{Q:Exit->Act->World->Prop}(L:o.guard=none)(m x v:Operand)
 (j:o.op=.mapUpdate 268 m x v\/o.op=.insert 268 m x v) {B:Nat} {S:List Nat} (G:a.eval m=.map (some B)) (h:MI B w S) (M:S.length<maxLen) {r:Nat} (N:r<zk) (H:a.eval x=.int .u64 (r:Nat))
 (F:∀y,MI B y (S++[r])->w.grownBy y (some B)->wpList xT C Q rest (a.put o.dst undef) y):wpList xT C Q (o::rest) a w:=by
 obtain⟨D,K,E⟩:=h;refine T1 L λO A=>?_;obtain⟨y,u,I,J⟩:=K.update vF underlying268 M (Zq N) (val:=a.eval v) rfl;unfold Oper.wp;rcases j with j|j
 .simp[execOp,j,G,H,u,Result.andThen];exact A _ _ (F y ⟨_,dM I,E.put r _⟩ J)
 .simp[execOp,j,G,H,u,Result.andThen];exact A _ _ (F y ⟨_,dM I,E.put r _⟩ J)
def rdG(y:Nat)(w:World)(b o:Nat)(f:Fg):Prop:=(∃j,w.cell? ⟨b,o,none⟩=some j/\RdR 0 y w j f.items)/\∃u n c,w.cell? ⟨b,o+1,none⟩=some (.slice u n c)
def ze3{D:Qk}{w:World}{x:Value}{k:List Fg}(h:Dat D w x (kp k))(E:∀b o,D b o->b<w.heap.size)(hb:RightK k):RdSl 2 (rdG w.heap.size) 0 w.heap.size w x k:=by
 unfold kp at h;generalize F:k.map fc=es at h;cases h with
 |sl a cap sz es o b off u hc hz hm ha hsz hd hx=>have G:es.length=k.length:=(by rw[<-F];simp);refine⟨a,cap,by rw[G],b6,hm,λB=>?_⟩;have y:0<k.length:=Wb.2 B;have g:∀i (h:i<k.length),es[i]?=some (fc k[i]):=λi h=>(by rw[<-F];exact xo h);obtain rfl:2=sz:=hsz 0 _ (g 0 y);have A:es≠[]:=(by intro e;subst e;simp at G;omega);have j:b<w.heap.size:=E _ _ (hd 0 b6).1;refine⟨b,off,ha A,vj _,j,λi hi=>?_⟩;have J:=hx i _ 0 _ (g i hi) rfl;have e1:=hx i _ 1 _ (g i hi) rfl;have I:=(hd (i*2+0) b6).2.1;have C:=(hd (i*2+1) b6).2.1;obtain⟨L,c,K,M,H,N,q,_⟩:=(Rel.dat (ρ:=λ_=>0) (nb:=0) (show Dat D w (u (i*2+1)) (.sl (k[i].vec.map ec) .sh) from e1)).inv_sl;rw[q]at C;exact⟨⟨_,I,je J E (hb _ (X3 hi)).1.lt⟩,_,_,_,C⟩
def Ky{k:List Fg}{i:Nat}(hi:i<k.length):CI (k.take (i+1))=CI (k.take i)++z6 k[i].items:=by unfold CI;rw[vw hi,Wl];simp
def zaV{l:List Iv}{j:Nat}(o:j<l.length):z6 (l.take (j+1))=z6 (l.take j)++jQ l[j]:=by unfold z6;rw[vw o,Wl];simp
def ze0{s:Iv}(h:s.hi=zk-1):jQ s=[s.lo]:=by unfold jQ;rw[V2 b6]
def zcz{s:Iv}(h:s.hi<zk-1):jQ s=[s.lo]++[s.hi+1]:=by unfold jQ;rw[VS h];rfl
def zfO(w:World):Calls xT 51 #[.int .u64 18446744073709551615] w λe j=>e=.returned (.tuple #[.int .u64 0,.bool false])/\j=w:=by
 go_enter func51,ntmps51
 go_wp2;all_goals (refine tI (Tw rfl _ _ _) rfl ?_;refine⟨?_,rfl⟩;simp;try omega)
def zdr(x:Nat)(o:x<18446744073709551615)(w:World):Calls xT 51 #[.int .u64 (x:Nat)] w λe j=>e=.returned (.tuple #[.int .u64 ((x:Int)+1),.bool true])/\j=w:=by
 go_enter func51,ntmps51
 go_wp2;all_goals (refine tI (Tw rfl _ _ _) rfl ?_;refine⟨?_,rfl⟩;simp;try omega)
def zgc(w:World):Calls xT 190 #[.int .u64 0] w λe j=>e=.returned (.tuple #[.int .u64 0,.bool false])/\j=w:=by
 go_enter func190,ntmps190
 go_wp2;all_goals (refine tI (Tw rfl _ _ _) rfl ?_;refine⟨?_,rfl⟩;simp;try omega)
def VH(x:Nat)(o:x<18446744073709551615)(w:World):Calls xT 190 #[.int .u64 ((x:Int)+1)] w λe j=>e=.returned (.tuple #[.int .u64 (x:Nat),.bool true])/\j=w:=by
 go_enter func190,ntmps190
 go_wp2;all_goals (refine tI (Tw rfl _ _ _) rfl ?_;refine⟨?_,rfl⟩;simp;try omega)
def RgS(B r n:Nat)(S:List Nat)(keep:Nat->Bool)(g:Nat)(left:Lit->Bool)(w:World):Prop:=
 ∃D,w.ranges xT 36 rV B r n D left g/\IsMap D/\(∀x,has D (kR x)=(decide (x∈S) && (left (kR x) || keep x)))/\∀x,left (kR x)=true->x∈S
def GotS(S:List Nat)(left:Lit->Bool)(l:List Nat):Prop:=l.Nodup/\∀x,x∈l↔x∈S/\left (kR x)=false
def zay{left:Lit->Bool}{r x:Nat}:(left (kR r) && !(kR r).sameKey (kR x))=(left (kR r) && !decide (r=x)):=by
 have h:(kR r).sameKey (kR x)=decide (r=x):=by simp[kR,Lit.sameKey];omega
 rw[h]
section
variable {B r n g x:Nat}{S:List Nat}{kp:Nat->Bool}{left:Lit->Bool}{w:World}{D:DV}
def RgS.next(o:IsMap D)(u:∀y,has D (kR y)=(decide (y∈S) && (left (kR y) || kp y)))(A:∀y,left (kR y)=true->y∈S)(C:left (kR x)=true)(hk:kp x=true)
 (h:w.ranges xT 36 rV B r n D (λz=>left z && !z.sameKey (kR x)) g):RgS B r n S kp g (λz=>left z && !z.sameKey (kR x)) w:=by
 refine⟨D,h,o,λy=>?_,λy j=>A y ?_⟩
 .dsimp only;rw[u y,zay];by_cases e:y=x
  .subst e;simp[hk]
  .simp[e]
 .dsimp only at j;cases h0:left (kR y)with
  |true=>rfl
  |false=>rw[h0]at j;simp at j
def RgS.del(o:IsMap D)(u:∀y,has D (kR y)=(decide (y∈S) && (left (kR y) || kp y)))(A:∀y,left (kR y)=true->y∈S)(hk:kp x=false)
 (h:w.ranges xT 36 rV B r n (D.del (kR x)) (λz=>(left z && !z.sameKey (kR x)) && !z.sameKey (kR x)) g):RgS B r n S kp g (λz=>left z && !z.sameKey (kR x)) w:=by
 rw[Maps.strike_twice]at h;refine⟨_,h,o.del _,λy=>?_,λy j=>A y ?_⟩
 .dsimp only;rw[zay];by_cases e:y=x
  .subst e;rw[has_del_same];simp[hk]
  .rw[has_del_other (λh=>e (Xa h)),u y];simp[e]
 .dsimp only at j;cases h0:left (kR y)with
  |true=>rfl
  |false=>rw[h0]at j;simp at j
def RgS.keep{w':World}(h:RgS B r n S kp g left w)(hb:w'.heap[B]?=w.heap[B]?)(u:w'.heap[r]?=w.heap[r]?):RgS B r n S kp g left w':=by obtain⟨D,j,o⟩:=h;exact⟨D,yD j hb u,o⟩
def GotS.nil(h:∀y,left (kR y)=true↔y∈S):GotS S left []:=
 ⟨UX,λy=>by
  constructor
  .intro h;cases h
  .rintro⟨o,j⟩;rw[(h y).2 o]at j;cases j⟩
def GotS.push{l:List Nat}(h:GotS S left l)(A:left (kR x)=true)(w:x∈S):GotS S (λz=>left z && !z.sameKey (kR x)) (l++[x]):=by
 refine⟨Uw.2 ⟨h.1,b8,λa u b hb e=>?_⟩,λy=>?_⟩
 .rw[wK]at hb;rw[e,hb]at u;have:=((h.2 x).1 u).2;rw[A]at this;cases this
 .dsimp only;rw[QM,wI,wK,h.2 y];constructor
  .rintro(⟨o,j⟩|rfl)
   .exact⟨o,.inl j⟩
   .exact⟨w,.inr rfl⟩
  .rintro⟨o,j|j⟩
   .exact .inl ⟨o,j⟩
   .exact .inr j
end
def kpB(k:List Fg)(x:Nat):Bool:=decide (x=0) || !decide (zU k (x-1)=zU k x)
def Yd{k:List Fg}(y:RightK k){l:List Nat}(w:l.Pairwise (·<=·))(u:l.Nodup)(o:∀x,x∈l↔x∈0::CI k/\(x=0\/zU k (x-1)≠zU k x)):l=zq k:=by
 have j:YN l:=by refine(List.pairwise_and_iff.2 ⟨w,u⟩).imp ?_;intro a b h;have:=h.1;have:=h.2;omega
 refine jK j (startsK_asc k) λx=>?_;rw[o,zq,Wv,zH,qr,yU];have e1:(k.map Fg.items).flatMap z6=CI k:=by unfold CI;rw[Uh]
 rw[e1];simp only[WM,wJ,Wq];refine uZ λ_=>or_congr_right ?_;rw[ne_eq,Vp,UI]
def MemV(C:Qk)(l:List Nat)(u:Value)(w:World):Prop:=∃D:Nat->Nat->Prop,(∀b o,C b o->D b o)/\(∀b o,D b o->b<w.heap.size)/\Dat D w u (is l)
def MemV.stab{C:Qk}{l:List Nat}(u:Value)(w A:World)(h:MemV C l u w)(hk:Keep qe w A):MemV C l u A:=by obtain⟨D,B,y,E⟩:=h;exact⟨D,B,λb o j=>Vq (y b o j) hk.size,E.mono (λ_ _ h=>h) λb o x j F=>(tw (a:=⟨b,o,none⟩) (hk.block b (y b o j) id)).trans F⟩
def Xg{C:Qk}{w0 w:World}{k:List Fg}{v:Value}(x:Nat)(M:RightK k)(hz:QW k)(F:k.length<=1073741824)(L:Dat C w0 v (kp k))(H:∀b o,C b o->b<w0.heap.size)(J:GL C w0)(hb:Below w0.heap.size w0 w):
 Calls xT 154 #[v,.int .u64 (x:Nat)] w λe G=>∃u,e=.returned u/\Below w.heap.size w G/\MemV C (zU k x) u G:=by
 have I:∀b o y,C b o->w0.cell? ⟨b,o,none⟩=some y->w.cell? ⟨b,o,none⟩=some y:=λb o y K N=>(tw (a:=⟨b,o,none⟩) (hb.block b (H b o K))).trans N;have A:∀b o,C b o->b<w.heap.size:=λb o h=>Vq (H b o h) hb.size;refine(jP (K9 k x M hz F) (J.mono (λ_ _ h=>h) I) A (vs:=#[v,.int .u64 (x:Nat)]) rfl (λi p j=>by
  match i,j with
  |0,j=>cases j;exact L.mono (λ_ _ h=>h) I
  |1,j=>cases j;exact .v _
  |i+2,j=>simp at j)).mono ?_
 rintro e G ⟨u,rfl,B,E⟩;exact⟨u,rfl,B,_,λb o h=>.inl h,λb o h=>h.elim (λh=>Vq (A b o h) B.size) ui,E⟩
def zgP{C:Qk}{w0 w:World}{a b:List Nat}{u v:Value}(r:Bool)(L:decide (a=b)=r)(J:a.length<=1152921504606846976)(H:∀b o,C b o->b<w0.heap.size)(I:GL C w0)(hb:Below w0.heap.size w0 w)(M:MemV C a u w)(N:MemV C b v w):
 Calls xT 191 #[u,v] w λe E=>e=.returned (.bool r)/\Below w.heap.size w E:=by
 subst L;obtain⟨F,Q,S,T⟩:=M;obtain⟨G,X,U,V⟩:=N;have O:∀b o y,C b o->w0.cell? ⟨b,o,none⟩=some y->w.cell? ⟨b,o,none⟩=some y:=λb o y K P=>(tw (a:=⟨b,o,none⟩) (hb.block b (H b o K))).trans P;refine(jP (D:=λb o=>F b o\/G b o) (zjX a b J) (I.mono (λb o h=>.inl (Q b o h)) O) (λb o h=>h.elim (S b o) (U b o)) (vs:=#[u,v]) rfl (λi p j=>by
  match i,j with
  |0,j=>cases j;exact T.mono (λ_ _ h=>.inl h) λ_ _ _ _ h=>h
  |1,j=>cases j;exact V.mono (λ_ _ h=>.inr h) λ_ _ _ _ h=>h
  |i+2,j=>simp at j)).mono ?_
 rintro e E ⟨r,rfl,A,B⟩;rw[B.v_inv];exact⟨rfl,A⟩
def XJ{k:List Fg}(i:Nat):(CI (k.take i)).length<=(CI k).length:=by
 have:CI k=CI (k.take i)++CI (k.drop i):=by unfold CI;rw[<-Wl,Wh]
 rw[this,wu];omega
def Q0{l:List Iv}(j:Nat):(z6 (l.take j)).length<=(z6 l).length:=by
 have:z6 l=z6 (l.take j)++z6 (l.drop j):=by unfold z6;rw[<-Wl,Wh]
 rw[this,wu];omega
def XD(C:Qk)(k:List Fg)(vk:Value)(w:World)(hr:RightK k)(hz:QW k)(aT:k.length<=1073741824)(hT:(CI k).length<=1000000)(rk:Dat C w vk (kp k))(hC:∀b o,C b o->b<w.heap.size)(hG:GL C w):
 Calls xT 153 #[vk] w λe w'=>∃v,e=.returned v/\Below w.heap.size w w'/\OwnU w.heap.size w' v (zq k):=by
 have dl:=@run_makeMap xT
 have rg:=ze3 rk hC hr;have RK:=qL rk;have RG:=qL rg;have HR:=qL hr;have ah:=qL hG;obtain⟨aa,ca,rfl,dh,cL,_⟩:=rg;unfold maxLen at cL;clear rk hG;have bj:True:=trivial;go_enter func153,ntmps153
 go_wp2_with (first
  |(have _t:=bj;refine xe rfl _ _ _ (.inr rfl) rfl (MI.made w) dE (r:=0) xM rfl ?_;clear bj;intro w1 am cc;dsimp only[Act.put])
  |go_in)
 have cS:w.heap.size<w1.heap.size:=am.lt;have bI:qA (Below w.heap.size w w1):=qL (((tB _ w).alloc (Zp _) (.map #[] 0)).grown cc b8 λj G=>by cases G;exact Zp _);have bM:=qL am;clear am cc
 go_wp2_with fail
 go_loopg [19] k.length (λg x wr=>∃i,i<=k.length/\g=k.length-i/\x=.int .i64 i/\MI w.heap.size wr (0::CI (k.take i))/\Below w.heap.size w wr)
 case atStart=>exact⟨0,vj _,rfl,rfl,by simpa[CI]using bM.o,bI.o⟩
 case round=>
  obtain⟨i,hi,rfl,rfl,am,hB⟩:=hrel;clear bM bI cS;have Y:=qL am;have HB:=qL hB;clear am hB;by_cases P:i<k.length
  ·obtain⟨a',aw,ay,_,_,aA⟩:=id RG.o;obtain⟨bb,cy,bC,_,bE,U⟩:=aA (by intro e;subst e;simp at P);obtain⟨rfl,_,rfl⟩:aa=a'/\k.length=k.length/\ca=aw:=(dM ay);subst bC;obtain⟨⟨hv,c0,aU⟩,av,nv,cv,c1⟩:=U i P;replace c0:=(HB.o.cell (p:=⟨bb,cy+i*2,none⟩) bE).trans c0;replace c1:=(HB.o.cell (p:=⟨bb,cy+i*2+1,none⟩) bE).trans c1;have HE:qA (∃f,f=k[i]):=⟨_,rfl⟩;obtain⟨f,hf⟩:=HE.o;rw[<-hf]at aU;have HF:=qL hf;have cb:ZS f:=(by rw[hf];exact hr _ (X3 P));have cB:=qL cb;obtain⟨ai,ci,rfl,di,cO,_⟩:=id aU;have cJ:=qL aU;have cZ:(CI (k.take i)).length+(z6 f.items).length<=1000000:=(by have:=XJ (k:=k) (i+1);rw[Ky P,<-hf,wu]at this;omega);clear aA U ay aU hf HE cb;unfold maxLen at cO;obtain⟨wo,bH⟩:=xm (wr);subst bH
   go_wp2_with fail
   go_loopg [26] f.items.length (λg x wq=>∃j,j<=f.items.length/\g=f.items.length-j/\x=.int .i64 j/\MI w.heap.size wq (0::CI (k.take i)++z6 (f.items.take j))/\Below w.heap.size w wq)
   case atStart=>exact⟨0,vj _,rfl,rfl,by simpa[z6]using Y.o.keep (tC _ _ _ Y.o.lt),HB.o.alloc HB.o.size _⟩
   case round=>
    obtain⟨j,G,rfl,rfl,cn,bZ⟩:=hrel;have T:=qL cn;have O:=qL bZ;clear Y cn bZ;by_cases ab:j<f.items.length
    .obtain⟨a',aw,ay,_,_,aA⟩:=cJ.o.keep (w':=wr) (Zp _) (Zp _) λb _ h=>O.o.block b h;obtain⟨bi,oi,bC,_,bE,U⟩:=aA (by intro e;rw[e]at ab;simp at ab);obtain⟨rfl,_,rfl⟩:ai=a'/\f.items.length=f.items.length/\ci=aw:=(dM ay);subst bC;obtain⟨d0,d1,l0,l1⟩:=U j ab;obtain⟨s,hs⟩:=xm (f.items[j]);have cP:s.lo<=s.hi/\s.hi<zk:=(by rw[hs];exact cB.o.1.ivs2 _ (X3 ab));have aS:=zaV ab;have aB:=Q0 (l:=f.items) (j+1);rw[<-hs]at d0 d1 l0 l1 aS;rw[aS,wu]at aB;have bK:=qL aS;clear aA U ay hs aS;have L:True:=trivial;have M:True:=trivial;by_cases J:s.hi=zk-1
     .have Z:=ze0 J;have hh:((s.hi:Nat):Int)=18446744073709551615:=(by rw[J,zw];rfl);rw[hh]at d1;have bp:=qL Z;clear Z J hh;have aQ:=T.o.lt
      go_wp2_with (first
       | (at_mapUpdate;have _t:=L;refine xe rfl _ _ _ (.inl rfl) rfl (T.o.keep (tC _ _ _ T.o.lt)) (by simp;unfold maxLen;omega) (r:=s.lo) l0 rfl ?_;clear L;intro w2 aG N
          have aK:w2.heap[wr.heap.size]?=some (.cells #[.int .u64 s.lo,.int .u64 18446744073709551615] 64 (0,0)):=(N.block _ b8 b7).trans (tx _ _);have f2:=(zW aK 1 _ rfl).1;have aj:=qL aG;have aN:=qL N;clear aG N aK;dsimp only[Act.put])
       |(go_at_call 51;refine(zfO _).mono ?_;rintro e w' ⟨rfl,rfl⟩)
       |go_in)
      go_roundg (f.items.length-(j+1));case measure=>omega
      case rel=>refine⟨j+1,ab,rfl,b8,?_,((O.o.alloc O.o.size _).grown aN.o (by simp;have:=O.o.size;omega) λj G=>by cases G;exact Zp _)⟩;rw[bK.o,bp.o,<-wV];exact aj.o
     .obtain⟨y,hy⟩:∃y,s.hi=y:=⟨_,rfl⟩;have hM:=zw;have Z:=zcz (s:=s) b6;rw[hy]at d1 Z J cP l1;have bp:=qL Z;have cu:y<18446744073709551615:=b6;have cx:y+1<zk:=b6;rw[Z,wu]at aB;simp at aB;clear Z J hy hM;have aQ:=T.o.lt
      go_wp2_with (first
       | (at_mapUpdate;have _t:=L;refine xe rfl _ _ _ (.inl rfl) rfl (T.o.keep (tC _ _ _ T.o.lt)) (by simp;unfold maxLen;omega) (r:=s.lo) l0 rfl ?_;clear L;intro w2 aG N
          have aK:w2.heap[wr.heap.size]?=some (.cells #[.int .u64 s.lo,.int .u64 y] 64 (0,0)):=(N.block _ b8 b7).trans (tx _ _);have f2:=(zW aK 1 _ rfl).1;have aj:=qL aG;have aN:=qL N;clear aG N aK;dsimp only[Act.put])
       |(go_at_call 51;refine(zdr y cu _).mono ?_;rintro e w' ⟨rfl,rfl⟩)
       |(at_mapUpdate;have _t:=M;refine xe rfl _ _ _ (.inl rfl) rfl aj.o (by simp;unfold maxLen;omega) (r:=y+1) cx rfl ?_;clear M;intro w3 ck aC;have cE:=qL ck;have cC:=qL aC;clear ck aC;dsimp only[Act.put])
       |go_in)
      go_roundg (f.items.length-(j+1));case measure=>omega
      case rel=>refine⟨j+1,ab,rfl,b8,?_,((O.o.alloc O.o.size _).grown aN.o (by simp;have:=O.o.size;omega) λj G=>by cases G;exact Zp _).grown cC.o (by have:=O.o.size;have:=aN.o.size;simp at this;omega) λj G=>by cases G;exact Zp _⟩;have:=cE.o;rw[bK.o,bp.o];simpa using this
    .obtain rfl:j=f.items.length:=b6;rw[Wt]at T
     go_wp2_with fail
     go_roundg (k.length-(i+1));case measure=>omega
     case rel=>refine⟨i+1,P,rfl,b8,?_,O.o⟩;rw[Ky P,<-HF.o];exact T.o
  .obtain rfl:i=k.length:=b6;rw[Wt]at Y;obtain⟨S,hS⟩:=xm (0::CI k);rw[<-hS]at Y;have dg:S.length<=1000001:=(by rw[hS];simp;omega);have HS:=qL hS;clear hS;obtain⟨D,B,co⟩:=Y.o;have aQ:=B.lt;have HO:=qL B;have aP:=qL co;clear B co;obtain⟨wo,bH⟩:=xm (wr);subst bH;have L:True:=trivial
   go_wp2_with (first
    |(at_range;have _t:=L;refine TN _ rfl _ 268 rfl 36 4 vF underlying268 rV w.heap.size S.length D rfl HO.o ?_;intro w2 bc N dm;clear L)
    |go_in)
   go_frame
   have bN:qA (RgS w.heap.size wo.heap.size S.length S (kpB k) (Maps.size D) (Maps.has D) w2):=qL ⟨D,bc,aP.o.1,λx=>by rw[aP.o.2 x];simp;exact .inl,λx h=>by rw[aP.o.2 x]at h;simpa using h⟩;have bJ:qA (Below w.heap.size w w2):=qL (HB.o.grown N HB.o.size λj G=>by cases G);clear bc N HO Y aP;go_loopg [] (Maps.size D) (λg wr=>∃left,RgS w.heap.size wo.heap.size S.length S (kpB k) g left wr/\Below w.heap.size w wr);case atStart=>exact⟨_,bN.o,bJ.o⟩
   case round=>
    obtain⟨left,cR,bU⟩:=hrel;obtain⟨D3,an,bX,aY,aE⟩:=cR;have bP:=qL an;have br:=qL bX;have aO:=qL aY;have bu:=qL aE;have aM:=qL bU;clear an bX aY aE bU bN bJ
    go_wp2_with (first
     |(at_next;refine TI _ rfl _ rfl 36 vF rV (λr:{r:Nat // r<zk}=>Value.int .u64 (r.1:Nat)) (λc:Value=>c) zhV (λv y _=>⟨v,rfl⟩) w.heap.size wo.heap.size S.length D3 left gk rfl bP.o ?_ ?_)
     |go_in)
    .intro bF aD;obtain⟨wl,cU⟩:=xm (wr);subst cU;obtain⟨S2,aR⟩:=xm (S.filter (kpB k));have ba:∀y,has D3 (kR y)=decide (y∈S2):=λy=>(by rw[aO.o y,aD,aR,uH];simp[Wv]);have bY:S2.length<=1000001:=(by have:=WH (kpB k) S;rw[<-aR]at this;omega);have aj:=qL ba;have bR:=qL aR;have B:=bP.o.owns;have HO:=qL B;have de:w.heap.size<wl.heap.size:=B.lt;clear ba aR B aD bF;have bn:True:=trivial
     go_wp2_with (first
      |(at_range;have _t:=bn;refine TN _ rfl _ 268 rfl 36 4 vF underlying268 rV w.heap.size S.length D3 rfl HO.o ?_;intro w5 bg ce dp;clear bn)
      |go_in)
     go_frame
     have bO:=qL bg;have E:qA (Below w.heap.size w w5):=qL (aM.o.grown ce aM.o.size λj G=>by cases G);have dc:wl.heap.size+1<=w5.heap.size:=b6;clear bg ce;go_loopg [13] (Maps.size D3) (λg v wr=>∃left l,wr.ranges xT 36 rV w.heap.size wl.heap.size S.length D3 left g/\GotS S2 left l/\(∀y,left (kR y)=true->y∈S2)/\OwnU (wl.heap.size+1) wr v l/\Below w.heap.size w wr);case atStart=>exact⟨_,[],bO.o,GotS.nil λy=>by rw[aj.o y,decide_eq_true_iff],λy h=>by rw[aj.o y]at h;simpa using h,tX _ _ _ _,E.o⟩
     case round=>
      obtain⟨aL,l,an,ae,aE,B,bW⟩:=hrel;have bQ:=qL an;have bq:=qL ae;have aV:=qL aE;have ar:=qL B;have F:=qL bW;have dk:l.length<=1000001:=V3 (qM l S2 ae.1 λy hy=>((ae.2 y).1 hy).1) bY;have da:=an.lt;obtain⟨ad,bA,rfl,dj,cM,_⟩:=B.shape;unfold maxLen at cM;clear an ae aE B bW bO E
      go_wp2_with (first
       |(at_next;refine TI _ rfl _ rfl 36 vF rV (λr:{r:Nat // r<zk}=>Value.int .u64 (r.1:Nat)) (λc:Value=>c) zhV (λv y _=>⟨v,rfl⟩) w.heap.size wl.heap.size S.length D3 aL gk rfl bQ.o ?_ ?_)
       |go_in)
      .intro bF aD;have aH:∀y,y∈l↔y∈S2:=λy=>(by rw[bq.o.2 y,aD];simp);have bB:0∈l:=(aH 0).2 (by rw[bR.o,Wv,HS.o];exact⟨b8,by simp[kpB]⟩);have aZ:l≠[]:=λe=>(by rw[e]at bB;cases bB);obtain⟨l',ac,cr,az⟩:=zeb ar.o aZ b6;have aX:l'=zq k:=Yd hr cr (ac.nodup_iff.2 bq.o.1) λy=>by rw[ac.mem_iff,aH,bR.o,HS.o,Wv];refine uZ λ_=>?_;simp[kpB]
       have aI:∀j,(Value.slice ad l.length bA).ownBlock=some j->wl.heap.size+1<=j:=λj G=>(ar.o.lt j G).1;have cA:=qL aX;have cz:=qL az;have cI:=qL aI;clear aH bB aZ ac cr aX az aD bF aI;have X:True:=trivial
       go_wp2_with (first
        |(go_at_call 118;have _t:=X;refine cz.o.mono ?_;rintro e w9 ⟨rfl,cq,cg⟩;have cH:=qL cq;have cD:=qL cg;clear cq cg X)
        |go_in)
       refine tI (tR rfl _ _ _) rfl ?_;exact⟨_,rfl,F.o.grown cD.o F.o.size λj G=>by have:=cI.o j G;omega,by rw[<-cA.o];exact cH.o.base b6⟩
      .intro x hx c kl y ys w7 bT I aF hv bD V cj cf ct bG;try dsimp only at I bG⊢
       obtain rfl:kl=kR x:=(by have:=(Zq hx).symm.trans I;simpa using this.symm);have au:=qL V;have ao:=qL cf;have cK:=qL ct;have dd:wl.heap.size+1<=w7.heap.size:=b6;have aq:=qL aF;obtain⟨i0,cN,cV,cW,cX⟩:=tV Vf;have cF:qA (OwnU (wl.heap.size+1) (w7.alloc (.cells #[.int .u64 (x:Nat)] 36)) (.slice ad l.length bA) l):=qL (ar.o.keep λg hg=>by
        have h1:=ar.o.lt g hg;rw[tC _ _ _ (by rw[cK.o];exact h1.2),ao.o.block g h1.2 (λe=>by cases e;omega)])
       have cQ:=tx w7 (.cells #[.int .u64 (x:Nat)] 36 (0,0));clear I hv bD V cf aF ct;have X:True:=trivial
       go_wp2_with (first
        |(at_builtin;have _t:=X;refine Tk _ rfl _ _ 147 rfl (wl.heap.size+1) 36 i0 (.int .u64 0) 1 8 underlying147 cN cV cW cX rfl dE _ _ _ rfl cF.o ⟨w7.heap.size,0,none⟩ 1 1 [.int .u64 (x:Nat)] rfl rfl (kw (cs:=#[.int .u64 (x:Nat)]) (t := 36) (fr:=(0,0)) cQ) dK dG b6 b7 ?_;intro v' w8 ho ch _ _;clear X;have cG:=qL ho;have bL:=qL ch;clear ho ch)
        |go_in)
       have aI:∀j,(Value.slice ad l.length bA).ownBlock=some j->wl.heap.size+1<=j:=λj G=>(ar.o.lt j G).1;have aW:∀j,j<wl.heap.size+1->w8.heap[j]?=w7.heap[j]?:=λj G=>(by rw[bL.o.block j b7 (λe=>by have:=aI j e.symm;omega),tC _ _ _ b6]);go_roundg bT;case measure=>exact cj
       case rel=>
        refine⟨_,l++[x],yD au.o (aW _ b6) (aW _ b6),bq.o.push aq.o (aV.o _ aq.o),λr h=>?_,?_,?_⟩
        .exact aV.o r (by cases h0:aL (kR r)with|true=>rfl|false=>rw[h0]at h;simp at h)
        .have:=cG.o;unfold OwnU;simpa[uV]using this
        .exact((F.o.grown ao.o F.o.size λj G=>by cases G;omega).alloc (by have:=ao.o.size;have:=F.o.size;omega) _).grown bL.o (by simp;have:=F.o.size;omega) λj G=>by have:=aI j G;omega
    .intro x hx c kl y ys w3 ax I aF hv bD be P aC dn bG;try dsimp only at I bG⊢
     obtain rfl:kl=kR x:=(by have:=(Zq hx).symm.trans I;simpa using this.symm);have H:=qL be;have u:qA (Below w.heap.size w w3):=qL (aM.o.grown aC aM.o.size λj G=>by cases G;exact HB.o.size);have aq:=qL aF;clear I hv bD be aC aF;cases x with
     | zero=>
       go_wp2_with (first|(go_at_call 190;refine(zgc _).mono ?_;rintro e w' ⟨rfl,rfl⟩)|go_in)
       go_roundg ax;case measure=>exact P
       case rel=>exact⟨_,RgS.next br.o aO.o bu.o aq.o (by simp[kpB]) H.o,u.o⟩
     | succ x=>
       have bh:x<18446744073709551615:=(by have:=zw;omega);have cm:(zU k x).length<=1152921504606846976:=(by have h1:=Zg x 0 k;unfold zU;rw[wB];omega);have M:True:=trivial;have af:True:=trivial;have ag:True:=trivial;have bl:True:=trivial;by_cases ak:zU k x=zU k (x+1)
       .have HQ:=qL (show decide (zU k x=zU k (x+1))=true from uC ak);have bt:=qL (show kpB k (x+1)=false by simp[kpB,ak]);clear ak
        go_wp2_with (first
         |(go_at_call 190;refine(VH x bh _).mono ?_;rintro e w' ⟨rfl,rfl⟩)
         |(go_at_call 154;have _t:=M;refine(Xg x hr hz aT RK.o hC ah.o u.o).mono ?_;rintro e w4 ⟨u1,rfl,A,K⟩;have E:=qL A;have bw:=qL K;clear A K M)
         |(go_at_call 154;have _t:=af;refine(Xg (x+1) hr hz aT RK.o hC ah.o (u.o.trans (E.o.mono u.o.size))).mono ?_;rintro e w5 ⟨u2,rfl,A,K⟩;have F:=qL A;have bz:=qL K;clear A K af)
         |(go_at_call 191;have _t:=ag;refine(zgP true HQ.o cm hC ah.o ((u.o.trans (E.o.mono u.o.size)).trans (F.o.mono ((u.o.trans (E.o.mono u.o.size)).size))) (bw.o.stab _ _ _ (Keep.of_below' F.o (Zp _))) bz.o).mono ?_;rintro e w6 ⟨rfl,A⟩;have Q:=qL (((tB _ _).trans E.o).trans ((F.o.mono E.o.size).trans (A.mono (V3 E.o.size F.o.size))));clear A ag)
         |(at_delete;have _t:=bl;refine wpList_delete_ranges _ rfl _ _ 268 36 rfl 4 vF underlying268 rV w.heap.size wo.heap.size S.length D3 _ ax rfl (yD H.o (Q.o.block _ (US aQ H.o.lt)) (Q.o.block _ H.o.lt)) _ (kR (x+1)) rfl (Zq hx) ?_;intro w7 bS V cY aJ;clear bl;have au:=qL V;have ao:=qL aJ.grown;clear V aJ;dsimp only[Act.put])
         |go_in)
        go_roundg bS;case measure=>omega
        case rel=>exact⟨_,RgS.del br.o aO.o bu.o bt.o au.o,(u.o.trans (Q.o.mono u.o.size)).grown ao.o (u.o.trans (Q.o.mono u.o.size)).size λj G=>by cases G;exact Zp _⟩
       .have HQ:=qL (show decide (zU k x=zU k (x+1))=false from WF ak);have bt:=qL (show kpB k (x+1)=true by simp[kpB,ak]);clear ak
        go_wp2_with (first
         |(go_at_call 190;refine(VH x bh _).mono ?_;rintro e w' ⟨rfl,rfl⟩)
         |(go_at_call 154;have _t:=M;refine(Xg x hr hz aT RK.o hC ah.o u.o).mono ?_;rintro e w4 ⟨u1,rfl,A,K⟩;have E:=qL A;have bw:=qL K;clear A K M)
         |(go_at_call 154;have _t:=af;refine(Xg (x+1) hr hz aT RK.o hC ah.o (u.o.trans (E.o.mono u.o.size))).mono ?_;rintro e w5 ⟨u2,rfl,A,K⟩;have F:=qL A;have bz:=qL K;clear A K af)
         |(go_at_call 191;have _t:=ag;refine(zgP false HQ.o cm hC ah.o ((u.o.trans (E.o.mono u.o.size)).trans (F.o.mono ((u.o.trans (E.o.mono u.o.size)).size))) (bw.o.stab _ _ _ (Keep.of_below' F.o (Zp _))) bz.o).mono ?_;rintro e w6 ⟨rfl,A⟩;have Q:=qL (((tB _ _).trans E.o).trans ((F.o.mono E.o.size).trans (A.mono (V3 E.o.size F.o.size))));clear A ag)
         |go_in)
        go_roundg ax;case measure=>exact P
        case rel=>exact⟨_,(RgS.next br.o aO.o bu.o aq.o bt.o H.o).keep (Q.o.block _ (US aQ H.o.lt)) (Q.o.block _ H.o.lt),u.o.trans (Q.o.mono u.o.size)⟩
end
def zaG(k:List Fg)(G:RightK k)(hz:QW k)(j:k.length<=1073741824)(E:(CI k).length<=1000000):Cn xT 153 [kp k] (ns (zq k)):=by refine yZ rfl (enters_of func153 dN rfl) λD w H C B u F=>?_;rw[KB u];refine(XD D k _ w G hz j E (F 0 _ rfl) B C).mono ?_;rintro e I ⟨v,rfl,hb,ho⟩;exact⟨v,rfl,hb,vL ho λb o y A=>.inr ⟨y,A⟩⟩
noncomputable def Vy (k:List Fg) (j:Nat):List Iv:=((cutsK k).take j).filter λs=>decide (0<(zU k s.lo).length)
def Vz(k:List Fg){j:Nat}(h:(zq k).length<=j):Vy k j=zu k:=by unfold Vy zu;rw[ww (by unfold cutsK;rw[vO];exact h)]
def VB(k:List Fg)(j:Nat):(Vy k j).length<=j:=V3 (WH _ _) (uS _ _)
def YE{k:List Fg}{j:Nat}(h:j<(zq k).length):Vy k (j+1)=Vy k j++if zU k (zq k)[j]=[] then [] else [⟨(zq k)[j],if h:j+1<(zq k).length then (zq k)[j+1]-1 else zk-1⟩]:=by
 have u:j<(cutsK k).length:=by unfold cutsK;rw[vO];exact h
 unfold Vy;rw[vw u,uw];congr 1;have w:(cutsK k)[j]=⟨(zq k)[j],if h:j+1<(zq k).length then (zq k)[j+1]-1 else zk-1⟩:=Vx _ _ h;rw[w];by_cases o:zU k (zq k)[j]=[]
 .rw[VS o];simp[o]
 .rw[V2 o];simp[Wb.2 o]
def ZE{k:List Fg}(o:RightK k){j:Nat}(h:j+1<(zq k).length):1<=(zq k)[j+1]/\(zq k)[j+1]<zk:=by refine⟨?_,x7 o _ (X3 h)⟩;have:=wU.1 (startsK_asc k) j (j+1) b6 h b6;omega
def zdF(k:List Fg)(w:RightK k)(hz:QW k)(u:k.length<=1073741824)(C:(CI k).length<=1000000):Cn xT 111 [kp k] (rg (zu k)):=by
 have G:=vY k;have B:=zw;refine zt func111 1 ?_;refine pw ?_;refine .c (zaG k w hz u C) ?_;refine pLoop.go (λj=>j<=(zq k).length) (λj=>[(3,.sl ((Vy k j).map Q2) (.r 38 2)),(12,.v (.int .i64 (j:Nat)))]) (λ_=>[]) (λj=>(zq k).length-j) 0 [3,12] ?_ ?_ ?_
 .exact vj _
 .refine pw ?_;rfl
 .rintro j H;have F:=VB k j;refine pw ?_;refine .i ?_ ?_<;>intro h<;>first|refine pw ?_|exact pd
  .have o:=YE h;have E:=x7 w _ (X3 h);refine pw ?_;refine .c (K9 k (zq k)[j] w hz u) ?_;refine .i ?_ ?_<;>intro y<;>first|refine pw ?_|exact pd
   .rw[VS y,We]at o;exact⟨j+1,h,b6,by rw[o],rfl⟩
   .rw[V2 y]at o;refine .i ?_ ?_<;>intro A<;>first|refine pw ?_|exact pd
    .obtain⟨I,J⟩:=ZE w A;rw[ut A]at o;refine pw ?_;refine⟨j+1,h,b6,?_,rfl⟩;rw[o];simp[Q2]
    .rw[UT b6]at o;refine pw ?_;refine⟨j+1,h,b6,?_,rfl⟩;rw[o];simp[Q2,B]
  .rw[Vz k b6]
def QG(f:Fg)(r:List Fg)(x y:Nat):qX (f::r) x y=((mem f.items x == mem f.items y) && qX r x y):=rfl
def refSameM_c(k:List Fg)(x y:Nat)(hz:QW k):Cn xT 177 [kp k,.v (.int .u64 x),.v (.int .u64 y)] (.v (.bool (qX k x y))):=by
 have B:=hz.1;refine zt func177 3 ?_;refine pw ?_;refine pLoop.go (λj=>j<=k.length/\qX k x y=qX (k.drop j) x y) (λj=>[(7,.v (.int .i64 (j:Nat)))]) (λ_=>[]) (λj=>k.length-j) 0 [7] ?_ ?_ ?_
 .exact⟨vj _,rfl⟩
 .exact pd
 .rintro j ⟨A,u⟩;refine pw ?_;refine .i ?_ ?_<;>intro h<;>first|refine pw ?_|exact pd
  .rw[V1 h]at u;have o:=hz.2 _ (X3 h);refine pw ?_;refine .c (kU k[j].items x o.1) ?_;refine .c (kU k[j].items y o.1) ?_;refine .i ?_ ?_<;>intro w<;>first|refine pw ?_|exact pd
   .rw[u,QG,w,tk]
   .refine⟨j+1,⟨h,?_⟩,b6,rfl⟩;rw[u,QG,w,Bool.true_and]
  .rw[u,wE b6];rfl
def zbb(k:List Fg)(l:List Nat):List Nat:=l.filter λx=>decide (x=0) || !qX k (x-1) x
def zbc(k:List Fg){l:List Nat}{j:Nat}(h:j<l.length):zbb k (l.take (j+1))=zbb k (l.take j)++if (decide (l[j]=0) || !qX k (l[j]-1) l[j])=true then [l[j]] else []:=by
 unfold zbb;rw[vw h,uw];congr 1;by_cases o:(decide (l[j]=0) || !qX k (l[j]-1) l[j])=true
 .rw[VS o];simp only[ux,UP];exact VS o
 .rw[V2 o];simp only[ux,UP];exact V2 o
def zc7(k:List Fg)(l:List Nat)(j:Nat):(zbb k (l.take j)).length<=j:=V3 (WH _ _) (uS _ _)
def Ya(k:List Fg)(H:RightK k)(hz:QW k)(L:k.length<=1048576)(J:(CI k).length<=1000000)(hi:∀f∈k,f.items.length<=1048576):Cn xT 139 [kp k] (ns (zq k)):=by
 have N:=zw;have E:(zH (k.map Fg.items)).length<=1048576:=by have C:(zH (k.map Fg.items)).length<=(yU (k.map Fg.items)).length:=ju _;have M:(yU (k.map Fg.items)).length=1+(CI k).length:=(by unfold yU CI;rw[wD,Uh];omega);omega
 have B:∀x∈zH (k.map Fg.items),x<zk:=λx I=>Ze (λl u s hs=>by
  obtain⟨f,y,rfl⟩:=wG.1 u;have:=NF.lo_ge (H f y).1 s hs;omega) x I
 have w:=VX (k.map Fg.items) b7 (λl u=>by
  obtain⟨f,y,rfl⟩:=wG.1 u;exact hi f y) (by unfold yU;rw[wD,Uh];unfold CI at J;omega) (λl u=>by
  obtain⟨f,y,rfl⟩:=wG.1 u;exact(H f y).1.lt)
 rw[show rgs (k.map Fg.items)=.sl (k.map λf=>[rg f.items]) .sh by unfold rgs;rw[Ui];rfl]at w;refine zt func139 1 ?_;refine pw ?_;refine pLoop.go (λj=>j<=k.length) (λj=>[(3,.sl ((k.take j).map λf=>[rg f.items]) (.r 21 1)),(4,.v (.int .i64 (j:Nat)))]) (λ_=>[]) (λj=>k.length-j) 0 [3,4] ?_ ?_ ?_
 .exact vj _
 .exact pd
 .rintro j K;refine pw ?_;refine .i ?_ ?_<;>intro h<;>first|refine pw ?_|exact pd
  .refine⟨j+1,h,b6,?_,rfl⟩;rw[vw h,WP];rfl
  ·rw [show k.take j=k from ww b6]
   (first|refine .rd (w) rfl ?_|refine .mk (w) rfl ?_)
   obtain⟨l,u⟩:=xm (zH (k.map Fg.items));rw[<-u]at E B⊢;have A:zbb k l=zq k:=(by rw[u];rfl);refine pw ?_;refine pLoop.go (λj=>j<=l.length) (λj=>[(6,.sl ((zbb k (l.take j)).map yN) (.r 55 1)),(7,.v (.int .i64 (j:Nat)))]) (λ_=>[]) (λj=>l.length-j) 0 [6,7] ?_ ?_ ?_
   .exact vj _
   .refine pw ?_;rfl
   .rintro j K;have G:=zc7 k l j;refine pw ?_;refine .i ?_ ?_<;>intro h<;>first|refine pw ?_|exact pd
    .have o:=zbc k h;have I:=B _ (X3 h);refine .i ?_ ?_<;>intro F<;>first|refine pw ?_|exact pd
     .rw[VS (by simp[F])]at o;refine⟨j+1,h,b6,?_,rfl⟩;rw[o];simp[yN]
     .refine .c (refSameM_c k (l[j]-1) l[j] hz) ?_;refine .i ?_ ?_<;>intro C<;>first|refine pw ?_|exact pd
      .rw[VS (by rw[C];simp)]at o;refine⟨j+1,h,b6,?_,rfl⟩;rw[o];simp[yN]
      .rw[V2 (by rw[C];simpa using F),We]at o;exact⟨j+1,h,b6,by rw[o],rfl⟩
    .rw[show l.take j=l from ww b6,A]
def VT(k:List Fg)(y:RightK k)(hz:QW k)(A:k.length<=1048576)(G:(CI k).length<=1000000)(u:Cn xT 139 [kp k] (ns (zq k))):Cn xT 100 [kp k] (rg (zu k)):=by
 have E:=vY k;have F:=zw;refine zt func100 1 ?_;refine pw ?_
 (first|refine .c (u) ?_|refine .o (u) ?_)
 refine pLoop.go (λj=>j<=(zq k).length) (λj=>[(4,.sl ((Vy k j).map Q2) (.r 27 2)),(5,.v (.int .i64 (j:Nat)))]) (λ_=>[]) (λj=>(zq k).length-j) 0 [4,5] ?_ ?_ ?_
 .exact vj _
 .refine pw ?_;rfl
 .rintro j H;have C:=VB k j;refine pw ?_;refine .i ?_ ?_<;>intro h<;>first|refine pw ?_|exact pd
  .have u:=YE h;have B:=x7 y _ (X3 h);refine pw ?_;refine .c (refKMemb_c k (zq k)[j] hz b6) ?_;refine .i ?_ ?_<;>intro w<;>first|refine pw ?_|exact pd
   .refine .c (zan (zq k) j h b6 (λh=>ZE y h)) ?_;rw[V2 (by intro e;rw[e]at w;simp at w)]at u;refine⟨j+1,h,b6,?_,rfl⟩;rw[u];simp[Q2]
   .rw[VS (dM w),We]at u;exact⟨j+1,h,b6,by rw[u],rfl⟩
  .rw[Vz k b6]
structure Ok12(C:Q9)(R:List Nat)(k:List Fg):Prop where
 r:RightK k
 z:QW k
 l:k.length<=1048576
 t:(CI k).length<=1000000
 i:∀f∈k,f.items.length<=1048576
 ik:IK C R k
 ok:OkC C R
 s:∀f∈k,SmV f.vec
noncomputable def zij (k:List Fg) (s:Iv):Fg:=⟨[s],qc k s.lo⟩
def zil(k:List Fg){j:Nat}(h:j<(zu k).length):((zu k).take (j+1)).map (λs=>fc (zij k s))=((zu k).take j).map (λs=>fc (zij k s))++[fc (zij k (zu k)[j])]:=by rw[vw h,WP];rfl
def zjf(k:List Fg){j:Nat}(h:(zu k).length<=j):((zu k).take j).map (λs=>fc (zij k s))=(jq k).map fc:=by rw[ww h];unfold jq;rw[Ui];rfl
def ziJ{C:Q9}{R:List Nat}(k:List Fg)(o:Ok12 C R k):Cn xT 110 [kp k] (kp (jq k)):=by
 have y:=xW k;have w:=o.t;refine zt func110 1 ?_;refine pw ?_;refine .c (zdF k o.r o.z (by have:=o.l;omega) o.t) ?_;refine pLoop.go (λj=>j<=(zu k).length) (λj=>[(3,.sl (((zu k).take j).map (λs=>fc (zij k s))) (.r 22 2)),(9,.v (.int .i64 (j:Nat)))]) (λ_=>[]) (λj=>(zu k).length-j) 0 [3,9] ?_ ?_ ?_
 .exact vj _
 .exact pd
 .rintro j A;refine pw ?_;refine .i ?_ ?_<;>intro h<;>first|refine pw ?_|exact pd
  .have u:=zil k h;refine .c (zgU k (zu k)[j].lo o.ik o.ok o.r o.s o.z) ?_;refine cutP.full rfl ?_ rfl ?_ ?_
   .exact pd
   .exact pd
   .refine pw ?_;exact⟨j+1,h,b6,u.symm,rfl⟩
  .exact zjf k b6
def zqR{C:Q9}{R:List Nat}(k:List Fg)(o:Ok12 C R k):Cn xT 149 [kp k] (kp (jq k)):=by
 have y:=xW k;have w:=o.t;refine zt func149 1 ?_;refine pw ?_;refine .c (VT k o.r o.z o.l o.t (Ya k o.r o.z o.l o.t o.i)) ?_;refine pLoop.go (λj=>j<=(zu k).length) (λj=>[(4,.sl (((zu k).take j).map (λs=>fc (zij k s))) (.r 29 2)),(5,.v (.int .i64 (j:Nat)))]) (λ_=>[]) (λj=>(zu k).length-j) 0 [4,5] ?_ ?_ ?_
 .exact vj _
 .exact pd
 .rintro j A;refine pw ?_;refine .i ?_ ?_<;>intro h<;>first|refine pw ?_|exact pd
  .have u:=zil k h;refine .c (VR k (zu k)[j].lo o.ik o.ok o.r o.s o.z) ?_;refine cutP.full rfl ?_ rfl ?_ ?_
   .exact pd
   .exact pd
   .refine pw ?_;exact⟨j+1,h,b6,u.symm,rfl⟩
  .exact zjf k b6
def OkX(C:Q9)(R:List Nat):Prop:=(∀r,(C r).length<=9000)/\R.length<=1000
def OkX.c{C:Q9}{R:List Nat}(h:OkX C R):OkC C R:=⟨h.1,by have:=h.2;omega⟩
structure Kn(C:Q9)(R:List Nat)(n:Nat)(k:List Fg):Prop where
 r:RightK k
 ik:IK C R k
 s:∀f∈k,SmV f.vec
 m:qE k<=n
 l:k.length<=n
def Kn.z{C:Q9}{R:List Nat}{n:Nat}{k:List Fg}(h:Kn C R n k)(u:n<=400000):QW k:=
 ⟨by have:=h.l;omega,λf j=>⟨by have:=yv j;have:=h.m;omega,by have:=(h.s f j).2.1;omega,λe o=>by have:=(h.s f j).2.2 e o;omega⟩⟩
def Kn.ok12{C:Q9}{R:List Nat}{n:Nat}{k:List Fg}(h:Kn C R n k)(ok:OkX C R)(o:n<=400000):Ok12 C R k:=
 ⟨h.r,h.z o,by have:=h.l;omega,by have:=YO k;have:=h.m;omega,λf j=>by have:=yv j;have:=h.m;omega,h.ik,ok.c,h.s⟩
def Kn.refine{C:Q9}{R:List Nat}{n:Nat}{k:List Fg}(h:Kn C R n k)(ok:OkX C R):Kn C R (1+2*n) (jq k):=by
 have u:=xW k;have w:=YO k;have y:=h.m;have o:=h.ik.refine;refine⟨Yb h.r,λf j=>(o f j).iv,λf j=>(o f j).smv ok.c,?_,?_⟩
 .unfold jq;rw[Zf];omega
 .unfold jq;rw[wB];omega
def Kn.group{C:Q9}{R:List Nat}{n:Nat}{k:List Fg}(h:Kn C R n k)(ok:OkX C R):Kn C R n (zL k):=by
 have u:=jU h.r;have o:∀g∈zL k,WV C R g.vec:=λg j=>by obtain⟨f,w,e⟩:=u.2.2 g j;rw[e];exact(h.ik f w).canVec
 exact⟨(vB h.r).right,λg j=>(o g j).iv,λg j=>(o g j).smv ok.c,by have:=h.m;omega,by have:=h.l;omega⟩
def Kn.take{C:Q9}{R:List Nat}{n:Nat}{k:List Fg}(h:Kn C R n k)(j:Nat):Kn C R n (k.take j):=by
 refine⟨h.r.take j,h.ik.take j,λf u=>h.s f (WJ u),?_,?_⟩
 .have o:=kK (k.take j) (k.drop j);rw[Wh]at o;have:=h.m;omega
 .have:=h.l;have:=uS j k;have:=tn j k;omega
section
attribute [-go_sem] z7
def XK{C:Q9}{R:List Nat}{n j:Nat}{k:List Fg}(h:Kn C R n k)(ok:OkX C R)(G:n<=400000)(E:j<k.length)(y:¬(zi k[j].vec=[]\/k[j].items=[])):AddOk (zL (k.take j)) ⟨k[j].items,zi k[j].vec⟩:=by
 have ht:=h.take j;have u:=ht.group ok;have gi:=vB ht.r;have w:=X3 E;have A:=(h.ik _ w).canVec;have hs:=jU ht.r;have F:∀g∈zL (k.take j),WV C R g.vec:=λg u=>by obtain⟨f,B,e⟩:=hs.2.2 g u;rw[e];exact(ht.ik f B).canVec
 exact⟨gi,Yi (h.r _ w) y,by have:=u.l;omega,by have:=yv w;have:=h.m;show k[j].items.length<=_;omega,λg o=>by have:=yv o;have:=u.m;omega,A.can.bd,λg o=>(gi.ok g o).1.bd,A.nlen ok.1 (by have:=ok.2;omega),λg o=>(F g o).nlen ok.1 (by have:=ok.2;omega)⟩
def zeA{P:Program}{f:FuncId}{t:Tmp}{p:Value}{xs:List Operand}{c:Call}{o:Oper}{a:Act}{w:World}{K:Act->World->Prop}{Q:Exit->Act->World->Prop}(ho:o.op=.call c)(A:c.callee=.value (.tmp t))(E:a.eval (.tmp t)=.func (.func f) #[p] #[])(y:c.args.toList=xs)
 (B:∀j w,(callFunc f j).run P w=.ok (.enter f j) w)
 (h:Calls P f (p::xs.map a.eval).toArray w λe u=>match e with|.returned v=>K (a.put o.dst v) u|.panicked chain=>Q (.panic chain) a u|.outgrown=>LetsOut Q):o.wp P a w K Q:=by
 have C:(execOp a.eval o).run P w=.ok (.enter f (p::xs.map a.eval).toArray) w:=by have e:c.args.map a.eval=(xs.map a.eval).toArray:=WI.1 (by rw[WY,y]);simp only[execOp,ho,resolve,A,e,E,Deferred.ofValue,tM,tP,tH,invoke];rw[show (#[p]++(xs.map a.eval).toArray++#[]:Array Value)=(p::xs.map a.eval).toArray from by simp];exact B _ _
 unfold Oper.wp;rw[C,Tf];exact h.mono (λe F h=>by cases e<;>exact h)
def Vb{B:Q9}{R:List Nat}{n:Nat}(C:Qk)(k:List Fg)(vk:Value)(w:World)(hk:Kn B R n k)(ok:OkX B R)(hn:n<=400000)(rk:Dat C w vk (kp k))(hC:∀b o,C b o->b<w.heap.size)(hG:GL C w):
 Calls xT 109 #[vk] w λe w'=>∃v,e=.returned v/\Keep (λb=>w.heap.size<=b) w w'/\Dat (DL C w.heap.size w') w' v (kp (zL k)):=by
 have aO:∀(fn:Fn)(first ao:Array Value)(w:World),(Instr.makeFunc fn first ao).run xT w=.ok (.func fn first ao) w:=λ_ _ _ _=>rfl;obtain⟨aa,ca,fs,rfl,hl,H,au⟩:=kX rk hC;have aN:=hk.l;have HK:=qL hk;have an:=qL H;have aE:=qL au;have aF:=qL hG;have aI:=H.1;have aJ:=H.2.1;unfold maxLen at aJ;rw[hl]at aI;have Z:∀U w,(callFunc 151 U).run xT w=.ok (.enter 151 U) w:=enters_of func151 dN rfl;have aD:=qL Z;clear rk H au hG Z hk;go_enter func109,ntmps109
 go_wp2_with fail
 go_loopg [11] k.length (λg x wr=>∃j u,j<=k.length/\g=k.length-j/\x=.int .i64 j/\Boxed wr w.heap.size 233 u/\OutG C (w.heap.size+1) (w.heap.size+2) wr u (zL (k.take j))/\Keep (λb=>w.heap.size<=b) w wr)
 case atStart=>exact⟨0,_,vj _,rfl,rfl,tx w _,OutG.start _ _ _ _,(Keep.refl _ w).alloc _⟩
 case round=>
  obtain⟨j,u,hj,rfl,rfl,Q,ab,ax⟩:=hrel;have ac:=qL Q;have G:=qL ab;have F:=qL ax;have ah:=Q.lt;have cb:=Q.cell;clear Q ab ax;by_cases J:j<k.length
  ·have M:j<fs.length:=b6;obtain⟨bb,ay,rfl,aL,Y⟩:=an.o.2.2 (by intro e;subst e;simp at M);obtain⟨c0,c1⟩:=Y j M;obtain⟨d0,d1⟩:=aE.o j M;replace c0:=(F.o.cell (p:=⟨bb,ay+j*2,none⟩) (by show bb<_;omega) (by show ¬w.heap.size<=bb;omega)).trans c0;replace c1:=(F.o.cell (p:=⟨bb,ay+j*2+1,none⟩) (by show bb<_;omega) (by show ¬w.heap.size<=bb;omega)).trans c1;have az:=qL (λT=>XK HK.o ok hn J T);have ad:=qL (Zo J);have S:=X3 J;have aj:=HK.o.s _ S;have ar:=HK.o.r _ S;have aM:k[j].items.length<=400000:=(by have:=yv S;have:=HK.o.m;omega);generalize k[j]=f at *;generalize fs[j]=q at *;obtain⟨ai,ci,e0⟩:=zK d0;obtain⟨av,cv,e1⟩:=xL d1;rw[e0]at c0 d0;rw[e1]at c1 d1;have L:∀b o,C b o->b<wr.heap.size:=λb o h=>(by have:=hC b o h;omega);have aq:GL C wr:=aF.o.mono (λ_ _ h=>h) λb o x hc hx=>F.o.cell_some hx (by have:=hC b o hc;show ¬w.heap.size<=b;omega);have ag:∀(x:Value)(p:PV),Dat C w x p->∀W,Below wr.heap.size wr W->Dat C W x p:=λx p h W hW=>h.mono (λ_ _ h=>h) λb o x hc hx=>(tw (a:=⟨b,o,none⟩) (hW.block b (L b o hc))).trans (F.o.cell_some hx (by have:=hC b o hc;show ¬w.heap.size<=b;omega));have af:∀W,Below wr.heap.size wr W->GL C W:=λW hW=>aq.mono (λ_ _ h=>h) λb o x hc hx=>(tw (a:=⟨b,o,none⟩) (hW.block b (L b o hc))).trans hx;have X:∀W,Below wr.heap.size wr W->Calls xT 152 #[.slice av f.vec.length cv] W λe w'=>∃a c,e=.returned (.slice a (zi f.vec).length c)/\Below W.heap.size W w'/\Dat (λb o=>C b o\/(W.heap.size<=b/\b<w'.heap.size)) w' (.slice a (zi f.vec).length c) (vp (zi f.vec)):=λW hW=>by
    refine(jP (D:=C) (zer f.vec ar.2 aj.2.1 aj.2.2) (af W hW) (λb o h=>Vq (L b o h) hW.size) rfl (λi p hp=>?_)).mono ?_
    .match i,hp with
     |0,hp=>cases hp;exact ag _ _ d1 W hW
     |i+1,hp=>simp at hp
    .rintro e w' ⟨v,rfl,hb,hd⟩;obtain⟨a,c,rfl⟩:=xL hd;exact⟨a,c,rfl,hb,hd⟩
   have K:=qL X;have aA:=qL d0;have aC:=qL ag;have aG:=qL af;have aK:=qL L;clear X d0 d1 ag af L aq Y S aj ar e0 e1;have E:True:=trivial;by_cases h1:0<(zi f.vec).length
   .by_cases h2:0<f.items.length
    .go_wp2_with (first
      | (go_at_call 152;have _t:=E;refine(K.o _ ((tB _ _).alloc (Zp _) _)).mono ?_;rintro e w3 ⟨a3,n3,rfl,A,I⟩
         have P:w3.heap[wr.heap.size]?=some (.cells #[.slice ai f.items.length ci,.slice av f.vec.length cv] 50 (0,0)):=(A.block _ b8).trans (tx wr _);have f0:=(zW P 0 _ rfl).1;have y:=qL (((tB _ wr).alloc (Zp _) _).trans (A.mono b8));have O:=A.size;simp only[tE]at O;have aB:=qL I;clear A I P E)
      |go_in)
     refine zeA (t:=27) (xs:=[.tmp 31]) rfl rfl rfl rfl aD.o ?_;have T:¬(zi f.vec=[]\/f.items=[]):=λe=>by
      rcases e with e|e
      .rw[e]at h1;simp at h1
      .rw[e]at h2;simp at h2
     have ak:=G.o.owns;refine(Jh (C:=C) (base:=w.heap.size+2) (rb:=w.heap.size) (v:=u) (o:=zL (k.take j)) (f:=⟨f.items,zi f.vec⟩) (va:=.slice ai f.items.length ci) (vv:=.slice a3 (zi f.vec).length n3) (az.o T) (G.o.keep b6 λb hb=>y.o.block b hb) ((y.o.block _ ah).trans ac.o) b6 b6 hC (aG.o _ y.o) ?_ ?_).mono ?_
     .exact(aC.o _ _ aA.o _ y.o).mono (λb o h=>⟨.inl h,λe=>by have:=(ak b e).1;have:=hC b o h;omega⟩) λ_ _ _ _ h=>h
     .refine aB.o.mono (λb o h=>?_) λ_ _ _ _ h=>h;rcases h with h|h
      .exact⟨.inl h,λe=>by have:=(ak b e).1;have:=hC b o h;omega⟩
      .simp only[tE]at h;exact⟨.inr ⟨b6,h.2⟩,λe=>by have:=(ak b e).2;omega⟩
     rintro e w4 ⟨⟨u',rfl⟩,v',V,N,aw⟩;have am:=qL V;have ae:=qL N;have aH:=qL aw;clear V N aw;dsimp only
     go_wp2_with fail
     go_roundg (k.length-(j+1));case measure=>omega
     case rel=>refine⟨j+1,v',J,rfl,b8,am.o,?_,(F.o.trans (Keep.of_below' y.o (Zp _))).trans (aH.o.mono λb _ h=>b6)⟩;rw[ad.o,yo,V2 T];exact ae.o
    .have h0:f.items=[]:=by cases hf:f.items with|nil=>rfl|cons a l=>rw[hf]at h2;simp at h2
     have H0:=qL h0;clear h0
     go_wp2_with (first
      | (go_at_call 152;have _t:=E;refine(K.o _ ((tB _ _).alloc (Zp _) _)).mono ?_;rintro e w3 ⟨a3,n3,rfl,A,I⟩
         have P:w3.heap[wr.heap.size]?=some (.cells #[.slice ai f.items.length ci,.slice av f.vec.length cv] 50 (0,0)):=(A.block _ b8).trans (tx wr _);have f0:=(zW P 0 _ rfl).1;have y:=qL (((tB _ wr).alloc (Zp _) _).trans (A.mono b8));have O:=A.size;simp only[tE]at O;clear A I P E)
      |go_in)
     go_roundg (k.length-(j+1));case measure=>omega
     case rel=>refine⟨j+1,u,J,rfl,b8,(y.o.block _ ah).trans ac.o,?_,F.o.trans (Keep.of_below' y.o (Zp _))⟩;rw[ad.o,yo,VS (.inr H0.o)];exact G.o.keep b6 λb hb=>y.o.block b hb
   .have h0:zi f.vec=[]:=by cases hf:zi f.vec with|nil=>rfl|cons a l=>rw[hf]at h1;simp at h1
    have H0:=qL h0;clear h0
    go_wp2_with (first
     | (go_at_call 152;have _t:=E;refine(K.o _ ((tB _ _).alloc (Zp _) _)).mono ?_;rintro e w3 ⟨a3,n3,rfl,A,I⟩
        have y:=qL (((tB _ wr).alloc (Zp _) _).trans (A.mono b8));have O:=A.size;simp only[tE]at O;clear A I E)
     |go_in)
    go_roundg (k.length-(j+1));case measure=>omega
    case rel=>refine⟨j+1,u,J,rfl,b8,(y.o.block _ ah).trans ac.o,?_,F.o.trans (Keep.of_below' y.o (Zp _))⟩;rw[ad.o,yo,VS (.inl H0.o)];exact G.o.keep b6 λb hb=>y.o.block b hb
  .obtain rfl:j=k.length:=b6
   go_wp2_with fail
   refine tI (tR rfl _ _ _) rfl ?_;have h:=G.o.dat b6;rw[Wt]at h;exact⟨_,rfl,F.o,h.mono (λb o h=>h.imp id λh=>⟨b6,h.2⟩) λ_ _ _ _ h=>h⟩
def zfn{B:Q9}{R:List Nat}{n:Nat}(k:List Fg)(hk:Kn B R n k)(ok:OkX B R)(A:n<=400000):Cn xT 109 [kp k] (kp (zL k)):=by refine yZ rfl (enters_of func109 dN rfl) λD w F u o j y=>?_;rw[KB j];refine(Vb D k _ w hk ok A (y 0 _ rfl) o u).mono ?_;rintro e G ⟨v,rfl,hb,C⟩;exact⟨v,rfl,hb.below (Zp _) λ_ h E=>b6,C.mono (λ_ _ h=>h.imp id λh=>⟨uG h.1,h.2⟩) λ_ _ _ _ h=>h⟩
def YI(w:World)(t M:TypeId)(ht:xT.underlying t=some (.slice 50))(base:Nat)(v:Value)(n:Nat)(N:List Value)(y:w.ownsRow base 50 2 v n N)(G:Option Addr)(m c:Nat)(o:List Value)(O:o.length=m*2)
 (B:(m=0/\G=none)\/∃a,G=some a/\∀j u,o[j]?=some u->w.cell? (a.add j)=some u) (U:∀u∈o,u.oneCell'=true) (V:n+m<=1073741824) (A:base<=w.heap.size) :
 ∃C F,(Builtin.append_ #[t,t] M #[v,.slice G m c]).run xT w=.ok C F/\F.ownsRow base 50 2 C (n+m) (N++o)/\w.grownBy F v.ownBlock/\(C.ownBlock=v.ownBlock\/C.ownBlock=some w.heap.size):=by
 obtain⟨Q,E,J,K,L⟩:=tV Z9;rcases B with⟨rfl,rfl⟩|⟨a,rfl,X⟩
 .obtain rfl:o=[]:=Wc.1 O;obtain⟨H,cp,rfl,I⟩:∃H cp,v=.slice H n cp/\n<=cp:=by
   rcases y.2 with⟨rfl,rfl⟩|⟨g,S,T,rfl,_,_,h,_⟩
   .exact⟨none,0,rfl,Zp _⟩
   .exact⟨_,_,rfl,h⟩
  exact⟨_,w,ve w t M _ Q ht E H n cp c I,dM y,jW _ _,.inl rfl⟩
 .obtain⟨C,F,Y,Z,r3,_,r5⟩:=Tm (P:=xT) w base t M 50 Q _ 2 48 ht E J K L rfl dE v n N y a m c o (dM O) X U dG b6 A;exact⟨C,F,Y,Z,r3,r5⟩
def yH{G:Array Oper}{o:Oper}{a:Act}{w:World}{K:Act->World->Prop}{Q:Exit->Act->World->Prop}{E:Prop}(s x:Operand)(t:TypeId)(L:o.guard=none)
 (ho:o.op=.call { callee:=.builtin .append,args:=#[s,x],argTypes:=#[t,t] }) (ht:xT.underlying t=some (.slice 50)) (base:Nat) (v:Value) (n:Nat) (M:List Value) (hs:a.eval s=v) (F:w.ownsRow base 50 2 v n M)
 (I:Option Addr) (m c:Nat) (y:List Value) (X:a.eval x=.slice I m c) (T:y.length=m*2) (B:(m=0/\I=none)\/∃a,I=some a/\∀j u,y[j]?=some u->w.cell? (a.add j)=some u) (N:∀u∈y,u.oneCell'=true) (J:n+m<=1073741824) (A:base<=w.heap.size)
 (h:∀C H,H.ownsRow base 50 2 C (n+m) (M++y)->w.grownBy H v.ownBlock->(C.ownBlock=v.ownBlock\/C.ownBlock=some w.heap.size)->K (a.put o.dst C) H):if Region.wanted o (yielded G a.tmps)=true then Oper.wp xT o a w K Q else E:=by
 have V:Region.wanted o (yielded G a.tmps)=true:=by simp[Region.wanted,L]
 rw[VS V];obtain⟨C,H,U,O,P,S⟩:=YI w t o.type ht base v n M F I m c y T B N J A;unfold Oper.wp execOp;simp only[ho,resolve,invoke,builtin,tM,tP,tH,ul,WC,uf,hs,X,U];exact h C H O P S
def zdz{w:World}{base A:Nat}(j:base<=A)(h:w.heap[A]?=some (.cells #[] 50 (0,0))):w.ownsRow base 50 2 (.slice (some ⟨A,0,none⟩) 0 0) 0 []:=⟨rfl,.inr ⟨A,0,#[],rfl,j,h,Zp _,vj _,rfl,rfl⟩⟩
def OutG.at{C:Qk}{L base:Nat}{w:World}{A:Option Addr}{u:Nat}{o:List Fg}(h:OutG C L base w (.slice A o.length u) o){i:Nat}(hi:i<o.length):
 ∃g F H G cv y,A=some ⟨g,0,none⟩/\base<=g/\w.heap[g]?=some (.cells y 50 (0,0))/\w.cell? ⟨g,i*2,none⟩=some (.slice F o[i].items.length H)/\w.cell? ⟨g,i*2+1,none⟩=some (.slice G o[i].vec.length cv) /\
  Dat (DX C L w (.slice A o.length u)) w (.slice F o[i].items.length H) (rg o[i].items)/\Dat (DX C L w (.slice A o.length u)) w (.slice G o[i].vec.length cv) (vp o[i].vec):=by
 obtain⟨Q,E,I⟩:=h;obtain⟨a,b,ea,eb,M,db⟩:=I i hi;obtain⟨g,B,y,ev,J,O,K,_⟩:=E.cases.resolve_left (λh=>b6);obtain⟨rfl,_,rfl⟩:A=some ⟨g,0,none⟩/\o.length=o.length/\u=B:=dM ev
 have N:∀j x,Q[j]?=some x->w.cell? ⟨g,j,none⟩=some x:=λj x P=>by have:=tQ E.1 (g:=g) rfl j x P;rw[zh,wy]at this;exact this
 obtain⟨F,H,rfl⟩:=zK M;obtain⟨G,cv,rfl⟩:=xL db;exact⟨g,F,H,G,cv,y,rfl,J,K,N _ _ ea,N _ _ eb,M,db⟩
def zep{C:Qk}{rb:Nat}{w:World}{v a b:Value}{l m:List Iv}(K:Nrm l)(L:Nrm m)(F:l.length<=131072)(G:m.length<=131072)(E:Dat (DX C rb w v) w a (rg l))(db:Dat (DX C rb w v) w b (rg m))(N:∀k,v.ownBlock=some k->k<w.heap.size)(B:∀b o,C b o->v.ownBlock≠some b)(H:∀b o,C b o->b<w.heap.size)(M:rb<w.heap.size)(I:GL C w):
 Calls xT 148 #[a,b] w λe A=>∃u,e=.returned u/\Below w.heap.size w A/\Dat (DX C rb A v) A u (rg (qy zn l m)):=by
 refine(jP (D:=DX C rb w v) (Kf l m K L F G) (I.mono (λb o h=>⟨.inl h,B b o h⟩) λ_ _ _ _ h=>h) (λb o h=>h.1.elim (H b o) ui) rfl (λj p y=>?_)).mono ?_
 .match j,y with
  |0,y=>cases y;exact E
  |1,y=>cases y;exact db
  |j+2,y=>simp at y
 .rintro e A ⟨u,rfl,hb,J⟩;exact⟨u,rfl,hb,J.mono (λb o h=>by
   rcases h with h|h
   .exact⟨h.1.imp id λh=>⟨h.1,Vq h.2 hb.size⟩,h.2⟩
   .exact⟨.inr ⟨b6,h.2⟩,λe=>by have:=N b e;omega⟩) λ_ _ _ _ h=>h⟩
def zhr{C:Qk}{rb:Nat}{w:World}{v a b:Value}{l m:List En}(c:Int)(J:zZ (zv l) (zv m)=c)(B:l.length<=1024/\∀e∈l,e.holes.length<=1048576)(E:m.length<=1024/\∀e∈m,e.holes.length<=1048576)(G:Dat (DX C rb w v) w a (vp l))(db:Dat (DX C rb w v) w b (vp m))(A:∀b o,C b o->v.ownBlock≠some b)(H:∀b o,C b o->b<w.heap.size)(I:GL C w):
 Calls xT 147 #[a,b] w λe F=>e=.returned (.int .i64 c)/\Below w.heap.size w F:=by
 subst J;refine(jP (D:=DX C rb w v) (Xp l m B.2 E.2 B.1 E.1) (I.mono (λb o h=>⟨.inl h,A b o h⟩) λ_ _ _ _ h=>h) (λb o h=>h.1.elim (H b o) ui) rfl (λj p y=>?_)).mono ?_
 .match j,y with
  |0,y=>cases y;exact G
  |1,y=>cases y;exact db
  |j+2,y=>simp at y
 .rintro e F ⟨u,rfl,hb,K⟩;have e:=(Rel.dat (ρ:=λ_=>0) (nb:=0) K).v_inv;rw[e];exact⟨rfl,hb⟩
def zfP{D:Qk}{w:World}{u:Option Addr}{o:Nat}(h:o<=maxLen):Dat D w (.slice u 0 o) (kp []):=
 .sl u o 2 [] .sh 0 0 (λ_=>undef) b8 (λh=>by cases h) h (λh=>absurd rfl h) (λi e h=>by simp at h) (λj h=>by simp at h) (λi e j p h=>by simp at h)
end
end Go.Proofs.YtjdjjlkifdimkaaGreatDoor
