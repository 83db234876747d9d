import Derived.Test.YtmpnbdhadjfbhaaGreatDoorB20
set_option maxHeartbeats 16000000
set_option linter.all false
set_option maxRecDepth 100000
namespace Go.Proofs.YtmpnbdhadjfbhaaGreatDoor
def To:=@Go.results_tmp2
open Go.RowKit
open Go.Proofs.Tryz
open Go.Proofs.Tryz renaming prog->xT
section
open Go.Lib
attribute [-go_sem] z7
def Z9:(xT.info? 59).map (λi=>(i.zero,i.size,i.bytes))=some (some (.agg #[.slice none 0 0,.slice none 0 0]),2,48):=dK
def OwnC(base:Nat)(w:World)(v:Value)(n:Nat)(j:List Value):Prop:=w.ownsRow base 59 2 v n j/\j.length=n*2/\∀u∈j,u.oneCell'=true
def OwnC.cases{base:Nat}{w:World}{v:Value}{n:Nat}{A:List Value}(h:OwnC base w v n A):(v=.slice none 0 0/\n=0/\A=[]) \/
 ∃g j o,v=.slice (some ⟨g,0,none⟩) n j/\base<=g/\g<w.heap.size/\w.heap[g]?=some (.cells o 59 (0,0))/\n<=j/\j<=maxLen/\o.size=j*2/\o.toList.take (n*2)=A:=by
 rcases h.1.2 with⟨u,y⟩|⟨g,j,o,u,y,B,C,E,F,G⟩
 .subst y;exact .inl ⟨u,rfl,wW.1 (by rw[h.2.1])⟩
 .exact .inr ⟨g,j,o,u,y,(XV.1 B).1,B,C,E,F,G⟩
def vI{w:World}{A:Nat}{vt:TypeId}{p q:Value}(y:w.heap[A]?=some (.cells #[p,q] vt (0,0))):∀j u,[p,q][j]?=some u->w.cell? ((⟨A,0,none⟩:Addr).add j)=some u:=λj u o=>by
 match j,o with
 |0,o=>cases o;simp[World.cell?,Addr.add,y]
 |1,o=>cases o;simp[World.cell?,Addr.add,y]
 |j+2,o=>simp at o
def yF{p q:Value}(o:p.oneCell'=true)(w:q.oneCell'=true):∀u∈[p,q],u.oneCell'=true:=λu j=>by
 simp at j;rcases j with rfl|rfl
 .exact o
 .exact w
def run_copy_k{P:Program}(w:World)(I Q S y:TypeId)(b o u C:Nat)(a:Addr)(A F H:Nat)(B:List Value)
 (O:P.underlying I=some (.slice y)) (hs:(P.info? y).map (·.size)=some H) (N:B.length=Nat.min A u*H)
 (E:∀j v,B[j]?=some v->w.cell? (a.add j)=some v) (K:∀j,j<B.length->(w.cell? ⟨b,o+j,none⟩).isSome=true) (L:∀j,j<B.length->w.frozen? ⟨b,o+j,none⟩=false) (J:∀v∈B,v.oneCell'=true) :
 (Builtin.copy_ #[I,Q] S #[.slice (some ⟨b,o,none⟩) u C,.slice (some a) A F]).run P w=.ok (goInt (Nat.min A u)) (w.setCells b o B):=by
 have M:=run_loadCells_list (P:=P) w a B E;have G:=run_storeCells_cells (P:=P) b o B 0 w (dJ K) (dJ L) J;cases hq:P.info? y with
 |none=>simp[hq]at hs
 |some i=>have hi:i.size=H:=(by simpa[hq]using hs);simp[Builtin.copy_,tG O,Builtin.lenOf,Builtin.firstCells,sizeOf,typeInfo,hq,hi,<-N,M,G]
def zaF{P:Program}{t j o e e2:TypeId}{b:Option Addr}{n c:Nat}{x:Value}{w:World}(u:P.underlying t=some (.slice e))(y:P.underlying j=some (.slice e2)):(Builtin.append_ #[t,j] o #[.slice b n c,x]).run P w=(Builtin.append_ #[t,t] o #[.slice b n c,x]).run P w:=by simp[Builtin.append_,tG u,tG y]
def yR{P:Program}{w:World}{I:Array Oper}{rest:List Oper}{o:Oper}{a:Act}{Q:Exit->Act->World->Prop}(O:o.guard=none)(s x:Operand)(t X e2:TypeId)
 (ho:o.op=.call { callee:=.builtin .append,args:=#[s,x],argTypes:=#[t,X] }) (T:P.underlying X=some (.slice e2))
 (base:Nat) (e:TypeId) (i:TypeInfo) (z:Value) (size A:Nat) (ht:P.underlying t=some (.slice e)) (hi:P.info? e=some i) (hz:i.zero=some z)
 (G:i.size=size) (N:i.bytes=A) (hzs:z.cells.size=size) (S:0<size)
 (v:Value) (n:Nat) (U:List Value) (hs:a.eval s=v) (C:w.ownsRow base e size v n U)
 (L:Addr) (m c:Nat) (y:List Value) (hx:a.eval x=.slice (some L) m c) (hl:y.length=m*size) (F:∀j u,y[j]?=some u->w.cell? (L.add j)=some u) (Y:∀u∈y,u.oneCell'=true)
 (M:n+m<=maxLen) (B:(n+m)*A<=140737488355328) (E:base<=w.heap.size)
 (h:∀H J,J.ownsRow base e size H (n+m) (U++y)->w.grownBy J v.ownBlock->(H.ownBlock=v.ownBlock\/H.ownBlock=some w.heap.size)->wpList P I Q rest (a.put o.dst H) J) :
 wpList P I Q (o::rest) a w:=by
 refine TU O λK hK=>?_;obtain⟨H,J,V,Z,h3,_,h5⟩:=Tf (P:=P) w base t o.type e i z size A ht hi hz G N hzs S v n U C L m c y hl F Y M B E;obtain⟨b0,n0,c0,rfl⟩:∃b n c,v=.slice b n c:=by rcases C.2 with⟨h,_⟩|⟨_,_,_,h,_⟩<;>exact⟨_,_,_,h⟩
 rw[<-zaF ht T]at V;unfold Oper.wp execOp;simp only[ho,resolve,invoke,builtin,tE,tH,tx,uf,Wx,W6,hs,hx,V];exact hK _ _ (h H J Z h3 h5)
def zc2(base K:Nat)(vt:TypeId)(w:World)(v:Value)(n:Nat)(L:List Value)(p q:Value)(hp:p.oneCell'=true)(hq:q.oneCell'=true)(j:OwnC base w v n L)(Q:w.heap[K]?=some (.cells #[p,q] vt (0,0)))(hl:n<=1073741824)(y:base<=w.heap.size):
 Calls xT 174 #[v,.int .i64 (n:Nat),.slice (some ⟨K,0,none⟩) 1 1] w λe B=>∃o,e=.returned o/\OwnC base B o (n+1) (L++[p,q])/\w.grownBy B v.ownBlock/\(o.ownBlock=v.ownBlock\/o.ownBlock=some w.heap.size):=by
 obtain⟨V,F,H,I,J⟩:=tP Z9;have U:=vI Q;have A:=yF hp hq;have fin:∀o B,B.ownsRow base 59 2 o (n+1) (L++[p,q])->OwnC base B o (n+1) (L++[p,q]):=λo B h=>⟨h,by have:=j.2.1;simp;omega,λu G=>by
  rcases wC.1 G with G|G
  .exact j.2.2 u G
  .exact A u G⟩
 have S:=qL j.1;rcases j.cases with⟨rfl,rfl,rfl⟩|⟨g,M,X,rfl,Y,Z,ab,ac,N,O,P⟩
 .clear j;go_enter func174,ntmps174
  go_wp2_with (at_builtin;refine yR rfl _ _ 54 53 59 rfl underlying53 base 59 V (.agg #[.slice none 0 0,.slice none 0 0]) 2 48 underlying54 F H I J rfl b8 _ _ _ rfl S.o ⟨K,0,none⟩ 1 1 [p,q] rfl rfl U A (by simp[maxLen]) b6 y ?_;intro o B ho E C)
  go_ret;exact⟨o,rfl,fin o B ho,E,C⟩
 .unfold maxLen at N;have T:M<=9223372036854775807:=a8;clear j P O;go_enter func174,ntmps174
  go_wp2_with (at_builtin;refine yR rfl _ _ 54 53 59 rfl underlying53 base 59 V (.agg #[.slice none 0 0,.slice none 0 0]) 2 48 underlying54 F H I J rfl b8 _ _ _ rfl S.o ⟨K,0,none⟩ 1 1 [p,q] rfl rfl U A c8 a8 y ?_;intro o B ho E C)
  all_goals (go_ret;exact⟨o,rfl,fin o B ho,E,C⟩)
def zS:Value:=.slice none 0 0
def zgF(n:Nat):(Builtin.zeroCells (Value.agg #[.slice none 0 0,.slice none 0 0]).cells n).toList=List.replicate (n*2) zS:=by
 apply List.ext_getElem
 .simp[Builtin.zeroCells,Value.cells]
 .intro i j o;rcases UN i with h|h<;>simp[Builtin.zeroCells,Value.cells,h,zS]
def za6{xs ms:List Value}{u:Value}{i:Nat}(hi:i<=xs.length):kF (kF (xs.take i++List.replicate (xs.length+ms.length-i) u) i ms) (i+ms.length) (xs.drop i)=xs.take i++ms++xs.drop i:=by
 have j:(xs.take i).length=i:=a9
 have e1:=kG (xs.take i) (List.replicate ms.length u) (List.replicate (xs.length-i) u) ms b6 j.symm;have e2:=kG (xs.take i++ms) (List.replicate (xs.length-i) u) [] (xs.drop i) b6 (i:=i+ms.length) a9;rw[show xs.length+ms.length-i=ms.length+(xs.length-i) by omega,<-List.replicate_append_replicate,<-wQ,e1];simpa using e2
def za7{xs ms us:List Value}{i:Nat}(hi:i<=xs.length)(o:us.length=ms.length):kF (kF (xs++us) (i+ms.length) (xs.drop i)) i ms=xs.take i++ms++xs.drop i:=by
 rw[jt (xs.drop i) _ _ a9];have j:i+ms.length+(xs.drop i).length=(xs++us).length:=a9
 rw[j,uL,wY];rw[jt ms _ _ a9];have ht:((xs++us).take (i+ms.length)).length=i+ms.length:=a9
 rw[Wp (by rw[ht];omega),List.take_take,WZ a8,Wp hi];rw[UA,ht,UM,Wg,U2 a8,Yf]
def X6{base:Nat}{w:World}{v:Value}{n i:Nat}{o y:List Value}(hi:i<=n)(E:o.length=n*2)(C:y.length=2)(A:∀u∈o,u.oneCell'=true)(B:∀u∈y,u.oneCell'=true)
 (h:w.ownsRow base 59 2 v (n+1) (o.take (i*2)++y++o.drop (i*2))):OwnC base w v (n+1) (o.take (i*2)++y++o.drop (i*2)):=
 ⟨h,a9,λu j=>by
  rcases wC.1 j with j|j
  .rcases wC.1 j with j|j
   .exact A u (WE j)
   .exact B u j
  .exact A u (Wr j)⟩
def zc3(base P:Nat)(vt:TypeId)(w:World)(g o n:Nat)(A:List Value)(p q:Value)(i:Nat)(hp:p.oneCell'=true)(hq:q.oneCell'=true)(hi:i<n)(C:OwnC base w (.slice (some ⟨g,0,none⟩) n o) n A)(ab:o<n+1)(ah:w.heap[P]?=some (.cells #[p,q] vt (0,0)))(hl:n<=1073741824)(Z:base<=w.heap.size):
 Calls xT 174 #[.slice (some ⟨g,0,none⟩) n o,.int .i64 (i:Nat),.slice (some ⟨P,0,none⟩) 1 1] w λe w'=>∃v',e=.returned v'/\OwnC base w' v' (n+1) (A.take (i*2)++[p,q]++A.drop (i*2))/\w.grownBy w' none/\v'.ownBlock=some w.heap.size:=by
 obtain⟨i0,ao,aD,hzs,av⟩:=tP Z9;have K:A.length=n*2:=C.2.1;have I:=C.2.2;have au:=vI ah;have aC:P<w.heap.size:=(XV.1 ah).1;have aA:g<w.heap.size:=(C.1.lt g rfl).2;have aM:n<=o:=by
  rcases C.cases with⟨h,_⟩|⟨g',aF,_,h,_,_,_,h4,_⟩
  .cases h
  .cases h;omega
 have hg:∀j v,A[j]?=some v->w.cell? ⟨g,j,none⟩=some v:=λj v F=>by have:=tI C.1 (g:=g) rfl j v F;rw[zh,wn]at this;exact this
 have ar:(n:Int)+1-(i:Int)=((n+1-i:Nat):Int):=a8
 have ac:i+(n+1-i)=n+1:=a8
 have O:(Builtin.firstCells i0.size i (.slice (some ⟨g,0,none⟩) i o)).run xT w.drew=.ok (A.take (i*2)).toArray w.drew:=by
  rw[hzs];refine TL w.drew 2 i ⟨g,0,none⟩ i o (A.take (i*2)) (by rw[Wc];omega) (λj v F=>?_);rw[wt]at F;split at F
  .have:=hg j v F;rw[zh,wn];exact this
  .cases F
 have af:∀J,(Builtin.append_ #[54,3] J #[.slice (some ⟨g,0,none⟩) i o,.int .i64 ((n:Int)+1-(i:Int))]).run xT w =
  .ok (.slice (some ⟨w.heap.size,0,none⟩) (n+1) (grownCap w (n+1) o 59)) (w.drew.alloc (.cells ((A.take (i*2)).toArray++Builtin.zeroCells (Value.agg #[.slice none 0 0,.slice none 0 0]).cells (n+1-i)++Builtin.zeroCells (Value.agg #[.slice none 0 0,.slice none 0 0]).cells (grownCap w (n+1) o 59 - (n+1))) 59)):=λJ=>by
  have h:=TP w 54 3 J 59 i0 _ .i64 .i64 underlying54 underlying3 ao aD (some ⟨g,0,none⟩) i o (A.take (i*2)) O (n+1-i) a8 a8 a8 a8 (by rw[av];omega) (by rw[av,ac];exact T1 ab a8);rw[ac]at h;rw[ar];exact h
 obtain⟨G,hG⟩:∃G,G=grownCap w (n+1) o 59 := ⟨_,rfl⟩;have ay:n+1<=G:=by rw[hG];exact TI w _ _ _
 have ai:G<=maxLen:=by rw[hG];exact TA w _ _ _ c8
 obtain⟨R,hR⟩:∃R:Array Value,R=(A.take (i*2)).toArray++Builtin.zeroCells (Value.agg #[.slice none 0 0,.slice none 0 0]).cells (n+1-i)++Builtin.zeroCells (Value.agg #[.slice none 0 0,.slice none 0 0]).cells (G-(n+1)):=⟨_,rfl⟩;rw[<-hG,<-hR]at af;have aB:(A.take (i*2)).length=i*2:=by rw[Wc];omega
 have X:R.toList=(A.take (i*2)++List.replicate (A.length+[p,q].length-i*2) zS)++List.replicate ((G-(n+1))*2) zS:=by rw[hR];simp only[WT,zgF,K];congr 3;simp;omega
 have az:R.size=G*2:=by have:R.toList.length=G*2:=(by rw[X];simp;omega);simpa using this
 obtain⟨B,E⟩:=xm (w.drew.alloc (.cells R 59));have o1:B.ownsRow base 59 2 (.slice (some ⟨w.heap.size,0,none⟩) (n+1) G) (n+1) (A.take (i*2)++List.replicate (A.length+[p,q].length-i*2) zS):=by
  refine⟨a9,.inr ⟨w.heap.size,G,R,rfl,Z,?_,ay,ai,a8,?_⟩⟩
  .rw[E];exact tn w.drew _
  .rw[X,Wp a9,wm a9]
 obtain⟨o2,U⟩:=z9 [p,q] (i*2) _ _ o1;obtain⟨o3,g3⟩:=z9 (A.drop (i*2)) (i*2+2) ((B.setCells w.heap.size (i*2) [p,q]).drew) _ o2;have eg:=za6 (xs:=A) (ms:=[p,q]) (u:=zS) (i:=i*2) a8;rw[show i*2+[p,q].length=i*2+2 from rfl]at eg;rw[eg]at o3;have T:w.grownBy B none:=by rw[E];exact⟨rfl,rfl,rfl,b6,λk hk _=>tu w.drew _ _ hk⟩
 have S:(i+1)*2=i*2+2:=a8
 have M:w.grownBy (((B.setCells w.heap.size (i*2) [p,q]).drew).setCells w.heap.size (i*2+2) (A.drop (i*2))) none:=by refine⟨g3.os.trans (U.os.trans T.os),g3.tape.trans (U.tape.trans T.tape),g3.output.trans (U.output.trans T.output),V1 T.size (V1 U.size g3.size),λk hk _=>?_⟩;have aq:k<B.heap.size:=Vm hk T.size;have L:some k≠some w.heap.size:=λe=>(by cases e;omega);rw[g3.block k (Vm aq U.size) L];show (B.setCells w.heap.size (i*2) [p,q]).heap[k]?=_;rw[U.block k aq L,T.block k hk b6]
 have OF:=qL (X6 a8 K rfl I (yF hp hq) o3);have GA:=qL M;clear o3 M o1 o2;rw[<-E]at af;have hN:∀j,j<n*2+2->(B.cell? ⟨w.heap.size,j,none⟩).isSome=true:=λj F=>by rw[E,tV (w:=w.drew) R _ w.heap.size j rfl,Wd a8];rfl
 have V:∀j,B.frozen? ⟨w.heap.size,j,none⟩=false:=λj=>by rw[E];exact TW (w:=w.drew) R _ w.heap.size j rfl
 have aj:∀j v,w.cell? ⟨g,j,none⟩=some v->B.cell? ⟨g,j,none⟩=some v:=λj v h=>by rw[E,Tm (w:=w.drew) _ g j aA];exact h
 have ak:∀j v,w.cell? ⟨P,j,none⟩=some v->B.cell? ⟨P,j,none⟩=some v:=λj v h=>by rw[E,Tm (w:=w.drew) _ P j aC];exact h
 have ag:(xT.info? 59).map (·.size)=some 2:=by rw[ao];simp[hzs]
 have ad:Nat.min 1 (n+1-i)=1:=by simp only[Ul];split<;>omega
 have ae:Nat.min (n-i) (n-i)=n-i:=Nat.min_self _;have an:(A.drop (i*2)).length=(n-i)*2:=by rw[W7,K];omega
 have am:∀(W:World),(∀y,W.cell? y=B.cell? y)->(∀y,W.frozen? y=B.frozen? y)->∀J Q,(Builtin.copy_ #[54,53] J #[.slice (some ⟨w.heap.size,i*2,none⟩) (n+1-i) Q,.slice (some ⟨P,0,none⟩) 1 1]).run xT W=.ok (goInt 1) (W.setCells w.heap.size (i*2) [p,q]):=λW H Y J Q=>by
  have h:=run_copy_k W 54 53 J 59 w.heap.size (i*2) (n+1-i) Q ⟨P,0,none⟩ 1 1 2 [p,q] underlying54 ag (by rw[ad];rfl)
   (λj v F=>by have:=au j v F;rw[zh]at this;rw[H,zh];exact ak _ v this)
   (λj F=>by rw[H];simp at F;exact hN _ a8) (λj F=>by rw[Y];exact V _) (yF hp hq)
  rw[ad]at h;exact h
 have L:g≠w.heap.size:=a8
 have N:∀(W:World),(∀y,W.cell? y=(B.setCells w.heap.size (i*2) [p,q]).cell? y)->(∀y,W.frozen? y=(B.setCells w.heap.size (i*2) [p,q]).frozen? y)->∀J Q sc,(Builtin.copy_ #[54,54] J #[.slice (some ⟨w.heap.size,(i+1)*2,none⟩) (n-i) Q,.slice (some ⟨g,i*2,none⟩) (n-i) sc]).run xT W=.ok (goInt ((n-i:Nat):Int)) (W.setCells w.heap.size (i*2+2) (A.drop (i*2))):=λW H Y J Q sc=>by
  have h:=run_copy_k W 54 54 J 59 w.heap.size ((i+1)*2) (n-i) Q ⟨g,i*2,none⟩ (n-i) sc 2 (A.drop (i*2)) underlying54 ag (by rw[an,ae])
   (λj v F=>by
     rw[H,zh,Th _ _ _ _ _ (λh _=>absurd h L)];exact aj _ v (hg (i*2+j) v (by rwa[Wi]at F)))
   (λj F=>by rw[H];exact isSome_setCells _ _ _ _ (λt ht=>hN _ (by simp at ht;omega)) _ (hN _ a8))
   (λj F=>by rw[Y,Tn];exact V _) (λv hv=>I v (Wr hv))
  rw[ae,S]at h;rw[S];exact h
 have aw:∀y,((B.setCells w.heap.size (i*2) [p,q]).drew).cell? y=(B.setCells w.heap.size (i*2) [p,q]).cell? y:=λy=>rfl;have ax:∀y,((B.setCells w.heap.size (i*2) [p,q]).drew).frozen? y=(B.setCells w.heap.size (i*2) [p,q]).frozen? y:=λy=>rfl;have aP:¬((i:Int)=(n:Int)):=a8
 have aQ:(o:Int)<(n:Int)+1:=a8
 unfold maxLen at ai;have aH:¬(G=i):=a8
 have aG:¬(G=i+1):=a8
 have aK:¬(o=i):=a8
 have aO:IntKind.i64.wrap ((i:Int)+1)=(i:Int)+1:=by rw[Tw];omega
 have aI:(0:Int)<=(i:Int)+1:=a8
 have aL:i<=n:=a8
 have aN:((i:Int)+1).toNat=i+1:=a8
 have aJ:(i:Int)<=(n:Int):=a8
 clear ar ac O hG X hR az C hg hN V aj ak I K au ah aB an T U g3 E S ad ae ag;go_enter func174,ntmps174
 go_wp2_with (first
  |(at_builtin;refine Lib.wpList_append_run _ rfl _ _ _ _ rfl _ _ rfl rfl _ _ (af _) ?_)
  |(at_builtin;refine wpList_copy_runI _ rfl _ _ 54 53 rfl _ _ rfl rfl (am _ (λ_=>rfl) (λ_=>rfl) _ _) ?_)
  |(at_builtin;refine wpList_copy_runI _ rfl _ _ 54 54 rfl _ _ rfl rfl (N _ (λ_=>rfl) (λ_=>rfl) _ _ _) ?_))
 have aE:xT.follows .mixedOrders=true:=dK
 go_region_law_o (refine step_copy_runI rfl _ _ 54 54 rfl (.slice (some ⟨w.heap.size,(i+1)*2,none⟩) (n-i) (G-(i+1))) (.slice (some ⟨g,i*2,none⟩) (n-i) (o-i)) dH dH (N _ aw ax _ (G-(i+1)) (o-i)) ?_)
 go_wp2;refine tz (tJ rfl _ _ _) rfl ?_;exact⟨_,rfl,OF.o,GA.o,rfl⟩
def JK(base K:Nat)(vt:TypeId)(w:World)(g o n:Nat)(C:List Value)(p q:Value)(i:Nat)(hp:p.oneCell'=true)(hq:q.oneCell'=true)(hi:i<n)(B:OwnC base w (.slice (some ⟨g,0,none⟩) n o) n C)(Y:n+1<=o)(J:w.heap[K]?=some (.cells #[p,q] vt (0,0)))(aj:K≠g)(hl:n<=1073741824):
 Calls xT 174 #[.slice (some ⟨g,0,none⟩) n o,.int .i64 (i:Nat),.slice (some ⟨K,0,none⟩) 1 1] w λe w'=>∃v',e=.returned v'/\OwnC base w' v' (n+1) (C.take (i*2)++[p,q]++C.drop (i*2))/\w.grownBy w' (some g)/\v'.ownBlock=some g:=by
 obtain⟨i0,aw,aH,hzs,aJ⟩:=tP Z9;have L:C.length=n*2:=B.2.1;have I:=B.2.2;have ak:=vI J;obtain⟨A,au,H,N,S,ao⟩:∃A,base<=g/\w.heap[g]?=some (.cells A 59 (0,0))/\o<=maxLen/\A.size=o*2/\A.toList.take (n*2)=C:=by
  rcases B.cases with⟨h,_⟩|⟨g',az,A,h,h1,_,h3,_,h5,h6,h7⟩
  .cases h
  .cases h;exact⟨A,h1,h3,h5,h6,h7⟩
 obtain⟨us,ac⟩:=xm ((A.toList.drop (n*2)).take 2);have ab:us.length=[p,q].length:=by rw[ac];simp;omega
 have o0:w.drew.ownsRow base 59 2 (.slice (some ⟨g,0,none⟩) (n+1) o) (n+1) (C++us):=by refine⟨by rw[wj,ab,L];simp;omega,.inr ⟨g,o,A,rfl,au,H,Y,N,a8,?_⟩⟩;rw[show (n+1)*2=n*2+2 by omega,List.take_add,ao,ac]
 obtain⟨o1,g1⟩:=z9 (C.drop (i*2)) (i*2+2) _ _ o0;obtain⟨o2,g2⟩:=z9 [p,q] (i*2) _ _ o1;have eg:=za7 (xs:=C) (ms:=[p,q]) (us:=us) (i:=i*2) a8 ab;rw[show i*2+[p,q].length=i*2+2 from rfl]at eg;rw[eg]at o2;have g0:w.grownBy w.drew (some g):=⟨rfl,rfl,rfl,Zp _,λ_ _ _=>rfl⟩;have OF:=qL (X6 a8 L rfl I (yF hp hq) o2);have GA:=qL (yn g0 (yn g1 g2));have u:∀j,j<o*2->(w.cell? ⟨g,j,none⟩).isSome=true:=λj E=>by simp[World.cell?,H,S,E]
 have U:∀j,w.frozen? ⟨g,j,none⟩=false:=λj=>by simp[World.frozen?,H]
 have hg:∀j v,C[j]?=some v->w.cell? ⟨g,j,none⟩=some v:=λj v E=>by have:=tI B.1 (g:=g) rfl j v E;rw[zh,wn]at this;exact this
 have am:w.shape? K=some (vt,2):=by simp[World.shape?,J]
 have an:w.shape? g=some (59,o*2):=by simp[World.shape?,H,S]
 have ah:w.frozen? ⟨K,0,none⟩=false:=by simp[World.frozen?,J]
 have ai:w.frozen? ⟨K,2,none⟩=false:=by simp[World.frozen?,J]
 have Z:(xT.info? 59).map (·.size)=some 2:=by rw[aw];simp[hzs]
 have ax:∀lb cb,(callFunc 198 #[.slice (some ⟨K,0,none⟩) 1 1,.slice (some ⟨g,(i+1)*2,none⟩) lb cb]).run xT w=.ok (.value (.bool false)) w:=λlb cb=>by
  rw[tL func198 dK dK dK (e:=Extern.SlicesOverlaps.overlaps #[53,53] #[4]) dK,
   TX w 53 4 59 underlying53 2 (λw=>dK) ⟨K,0,none⟩ ⟨g,(i+1)*2,none⟩ 1 1 lb cb aj vt 59 2 (o*2) am an a8 ah ai]
  rfl
 have T:(C.drop (i*2)).length=(n-i)*2:=by rw[W7,L];omega
 have V:Nat.min (n+1-i) (n-i)=n-i:=by simp only[Ul];split<;>omega
 have X:Nat.min 1 (n+1-i)=1:=by simp only[Ul];split<;>omega
 have Q:(i+1)*2=i*2+2:=a8
 have G:∀M P sc,(Builtin.copy_ #[54,54] M #[.slice (some ⟨g,(i+1)*2,none⟩) (n-i) P,.slice (some ⟨g,i*2,none⟩) (n+1-i) sc]).run xT w.drew=.ok (goInt ((n-i:Nat):Int)) (w.drew.setCells g (i*2+2) (C.drop (i*2))):=λM P sc=>by
  have h:=run_copy_k w.drew 54 54 M 59 g ((i+1)*2) (n-i) P ⟨g,i*2,none⟩ (n+1-i) sc 2 (C.drop (i*2)) underlying54 Z (by rw[T,V])
   (λj v E=>by rw[zh];exact hg (i*2+j) v (by rwa[Wi]at E))
   (λj E=>u _ a8) (λj E=>U _) (λv hv=>I v (Wr hv))
  rw[V,Q]at h;rw[Q];exact h
 obtain⟨W1,F⟩:=xm (w.drew.setCells g (i*2+2) (C.drop (i*2)));have O:∀k,k<o*2->(W1.cell? ⟨g,k,none⟩).isSome=true:=λk hk=>by rw[F];exact isSome_setCells g (C.drop (i*2)) (i*2+2) w.drew (λj E=>u _ (by rw[T]at E;omega)) k (u k hk)
 have ag:∀(W:World),(∀y,W.cell? y=W1.cell? y)->(∀y,W.frozen? y=W1.frozen? y)->∀M P,(Builtin.copy_ #[54,53] M #[.slice (some ⟨g,i*2,none⟩) (n+1-i) P,.slice (some ⟨K,0,none⟩) 1 1]).run xT W=.ok (goInt 1) (W.setCells g (i*2) [p,q]):=λW af ar M P=>by
  have h:=run_copy_k W 54 53 M 59 g (i*2) (n+1-i) P ⟨K,0,none⟩ 1 1 2 [p,q] underlying54 Z (by rw[X];rfl)
   (λj v E=>by
     rw[af,F,Th g _ _ _ _ (λh _=>absurd h (by rw[zh];exact aj))];exact ak j v E)
   (λj E=>by rw[af];simp at E;exact O _ a8) (λj E=>by rw[ar,F,Tn];exact U _) (yF hp hq)
  rw[X]at h;exact h
 rw[<-F]at G;have aq:=qL F;have aI:¬((i:Int)=(n:Int)):=a8
 unfold maxLen at N;have aG:IntKind.i64.wrap ((i:Int)+1)=(i:Int)+1:=by rw[Tw];omega
 have aA:(0:Int)<=(i:Int)+1:=a8
 have aE:i<=n:=a8
 have aF:((i:Int)+1).toNat=i+1:=a8
 have aB:¬(o=i+1):=a8
 have aC:(i:Int)<=(n:Int)+1:=a8
 have aD:¬(o=i):=a8
 clear o0 o1 o2 g0 g1 g2 eg B u U hg am an ah ai O F T I ak L J H S ao ac ab V X Q Z;go_enter func174,ntmps174
 have av:=λM=>G M (o-(i+1)) (o-i);have ay:xT.follows .mixedOrders=true:=dK
 go_wp2_with (simp only[ax])
 go_region_law_o (refine step_copy_runI rfl _ _ 54 54 rfl _ _ dH dH (G _ _ _) ?_)
 go_wp2_with (first|(at_builtin;refine wpList_copy_runI _ rfl _ _ 54 53 rfl _ _ rfl rfl (ag _ (λ_=>rfl) (λ_=>rfl) _ _) ?_))
 have ae:=OF.o;have ad:=GA.o;rw[<-aq.o]at ae ad;refine tz (tJ rfl _ _ _) rfl ?_;exact⟨_,rfl,ae,ad,rfl⟩
def Q1(base E:Nat)(G:TypeId)(w:World)(v:Value)(n:Nat)(C:List Value)(p q:Value)(i:Nat)(M:p.oneCell'=true)(N:q.oneCell'=true)(hi:i<=n)(j:OwnC base w v n C)(B:w.heap[E]?=some (.cells #[p,q] G (0,0)))(L:v.ownBlock≠some E)(K:n<=1073741824)(o:base<=w.heap.size):
 Calls xT 174 #[v,.int .i64 (i:Nat),.slice (some ⟨E,0,none⟩) 1 1] w λe H=>∃u,e=.returned u/\OwnC base H u (n+1) (C.take (i*2)++[p,q]++C.drop (i*2))/\w.grownBy H v.ownBlock/\(u.ownBlock=v.ownBlock\/u.ownBlock=some w.heap.size):=by
 have Q:=j.2.1;by_cases S:i=n
 .subst S;rw[wm a8,wE a8,wY];exact zc2 base E G w v i C p q M N j B K o
 .have F:i<n:=a8;rcases j.cases with⟨_,T,_⟩|⟨g,y,O,rfl,_⟩
  .omega
  .by_cases P:y<n+1
   .refine(zc3 base E G w g y n C p q i M N F j P B K o).mono ?_;rintro e H ⟨u,rfl,I,A,J⟩;exact⟨u,rfl,I,⟨A.os,A.tape,A.output,A.size,λk hk _=>A.block k hk b6⟩,.inr J⟩
   .refine(JK base E G w g y n C p q i M N F j a8 B (λe=>L (by rw[e];rfl)) K).mono ?_;rintro e H ⟨u,rfl,I,A,J⟩;exact⟨u,rfl,I,A,.inl J⟩
end
section
attribute [-go_sem] z7
def dat_row{D:Qk}{w:World}{x:Value}{y:List (List PV)}{F:Nat}(h:Dat D w x (.sl y .sh))(hs:∀e∈y,e.length=F):
 ∃K A C,x=.slice K y.length A/\y.length<=A/\A<=maxLen/\C.length=y.length*F/\(∀u∈C,u.oneCell'=true)/\((y.length=0/\C=[])\/∃b B,K=some ⟨b,B,none⟩/\∀(j:Nat)(u:Value),C[j]?=some u->D b (B+j)/\w.cell? ⟨b,B+j,none⟩=some u) /\
  ∀(i:Nat)(e:List PV)(j:Nat)(p:PV),y[i]?=some e->e[j]?=some p->∃u,C[i*F+j]?=some u/\Dat D w u p:=by
 generalize ho:Ow.sh=o at h;cases h with
 | sl a A sz' y o b B u hc hz hm ha hsz hD hd=>
   by_cases J:y=[]
   .subst J;exact⟨a,A,[],rfl,hc,hm,b6,λ_ h=>by simp at h,.inl ⟨rfl,rfl⟩,λi e j p h=>by simp at h⟩
   .obtain rfl:sz'=F:=by
     cases y with
     |nil=>exact absurd rfl J
     |cons e y=>exact(hsz 0 e rfl).symm.trans (hs e b6)
    refine⟨a,A,(List.range (y.length*sz')).map u,rfl,hc,hm,b6,λv E=>?_,.inr ⟨b,B,ha J,λj v E=>?_⟩,λi e j p H M=>?_⟩
    .obtain⟨j,L,rfl⟩:=wB.1 E;exact(hD j (dJ L)).2.2
    .rw[wk]at E;obtain⟨k,hk,rfl⟩:=ZZ.1 E;obtain⟨G,rfl⟩:=Zw.1 hk;simp at G;rw[US];exact⟨(hD j G).1,(hD j G).2.1⟩
    .have hi:=(Zw.1 H).1;have L:j<sz':=(by rw[<-hsz i e H];exact(Zw.1 M).1);have I:i*sz'+j<y.length*sz':=(by have:=Wq sz' (show i+1<=y.length from hi);rw[WY]at this;omega);refine⟨u (i*sz'+j),?_,hd i e j p H M⟩;rw[wk,uI I];rfl
def run_app_G(w:World)(t O e:TypeId)(F:TypeInfo)(z:Value)(E A:Nat)(ht:xT.underlying t=some (.slice e))(hi:xT.info? e=some F)(hz:F.zero=some z)(hs:F.size=E)(hb:F.bytes=A)(hzs:z.cells.size=E)(N:0<E)(L:A<=64)
 (base:Nat) (v:Value) (n:Nat) (Q:List Value) (y:w.ownsRow base e E v n Q) (I:Option Addr) (m c:Nat) (o:List Value) (S:o.length=m*E)
 (C:(m=0/\I=none)\/∃a,I=some a/\∀j u,o[j]?=some u->w.cell? (a.add j)=some u) (V:∀u∈o,u.oneCell'=true) (K:n+m<=1073741824) (B:base<=w.heap.size) :
 ∃G H,(Builtin.append_ #[t,t] O #[v,.slice I m c]).run xT w=.ok G H/\H.ownsRow base e E G (n+m) (Q++o)/\w.grownBy H v.ownBlock/\(G.ownBlock=v.ownBlock\/G.ownBlock=some w.heap.size):=by
 rcases C with⟨rfl,rfl⟩|⟨a,rfl,X⟩
 .obtain rfl:o=[]:=wW.1 (dJ S);obtain⟨J,cp,rfl,M⟩:∃J cp,v=.slice J n cp/\n<=cp:=by
   rcases y.2 with⟨rfl,rfl⟩|⟨g,T,U,rfl,_,_,h,_⟩
   .exact⟨none,0,rfl,Zp _⟩
   .exact⟨_,_,rfl,h⟩
  exact⟨_,w,ve w t O _ F ht hi J n cp c M,dJ y,jW _ _,.inl rfl⟩
 .obtain⟨G,H,Y,Z,r3,_,r5⟩:=Tf (P:=xT) w base t O e F z E A ht hi hz hs hb hzs N v n Q y a m c o S X V c8 (by
   calc (n+m)*A<=1073741824*64:=UO K L
    _<=140737488355328:=b8) B
  exact⟨G,H,Y,Z,r3,r5⟩
def zq6{E:Array Oper}{rest:List Oper}{o:Oper}{a:Act}{w:World}{Q:Exit->Act->World->Prop}(s x:Operand)(t e:TypeId)(N:o.guard=none)
 (ho:o.op=.call { callee:=.builtin .append,args:=#[s,x],argTypes:=#[t,t] }) (I:TypeInfo) (z:Value) (F A:Nat) (ht:xT.underlying t=some (.slice e)) (hi:xT.info? e=some I) (hz:I.zero=some z) (O:I.size=F) (hb:I.bytes=A) (hzs:z.cells.size=F) (P:0<F) (M:A<=64)
 (base:Nat) (v:Value) (n:Nat) (S:List Value) (hs:a.eval s=v) (H:w.ownsRow base e F v n S)
 (K:Option Addr) (m c:Nat) (y:List Value) (hx:a.eval x=.slice K m c) (Y:y.length=m*F) (C:(m=0/\K=none)\/∃a,K=some a/\∀j u,y[j]?=some u->w.cell? (a.add j)=some u) (T:∀u∈y,u.oneCell'=true) (L:n+m<=1073741824) (B:base<=w.heap.size)
 (h:∀G J,J.ownsRow base e F G (n+m) (S++y)->w.grownBy J v.ownBlock->(G.ownBlock=v.ownBlock\/G.ownBlock=some w.heap.size)->wpList xT E Q rest (a.put o.dst G) J):wpList xT E Q (o::rest) a w:=by
 have hw:Region.wanted o (yielded E a.tmps)=true:=by simp[Region.wanted,N]
 unfold wpList;rw[vD hw];refine .inl ?_;obtain⟨G,J,Z,U,V,X⟩:=run_app_G w t o.type e I z F A ht hi hz O hb hzs P M base v n S H K m c y Y C T L B;unfold Oper.wp execOp;simp only[ho,resolve,invoke,builtin,tE,tH,tx,uf,Wx,W6,hs,hx,Z];exact h G J U V X
def zrH{w:World}{base A:Nat}{e:TypeId}{o:Nat}(j:base<=A)(h:w.heap[A]?=some (.cells #[] e (0,0))):w.ownsRow base e o (.slice (some ⟨A,0,none⟩) 0 0) 0 []:=⟨b6,.inr ⟨A,0,#[],rfl,j,h,Zp _,X4 _,b6,b6⟩⟩
def eqlV_some(j:Addr)(n c:Nat)(w:World):(binOp .eql 57 (.slice (some j) n c) (.slice none 0 0)).run xT w=.ok (.bool false) w:=dK
def eqlV_none(n c:Nat)(w:World):(binOp .eql 57 (.slice none n c) (.slice none 0 0)).run xT w=.ok (.bool true) w:=dK
def zqZ:(xT.info? 181).map (λi=>(i.zero,i.size,i.bytes))=some (some (.agg #[.int .u64 0,.int .u64 0,.slice none 0 0]),3,40):=dK
def znV{D:Qk}{w:World}{x:Value}{es:List (List PV)}(d:Dat D w x (.sl es .sh))(hs:∀e∈es,e.length=3)(hl:es.length<=1073741824):
 Calls xT 112 #[x] w λe P=>∃u F,e=.returned u/\Below w.heap.size w P/\P.ownsRow w.heap.size 181 3 u es.length F/\∀(i:Nat)(e:List PV)(j:Nat)(p:PV),es[i]?=some e->e[j]?=some p->∃v,F[i*3+j]?=some v/\Dat D w v p:=by
 obtain⟨I,y,F,rfl,_,_,M,N,J,K⟩:=dat_row d hs;obtain⟨i0,A,B,C,E⟩:=tP zqZ;cases I with
 | none=>
   obtain⟨Q,rfl⟩:es.length=0/\F=[]:=by
    rcases J with h|⟨b,G,e,_⟩
    .exact h
    .cases e
   have hq:=eqlV_none es.length y;have L:=qL K;have T:=qL Q;clear M N J K d hl A B C E Q;go_enter func112,ntmps112
   go_wp2;go_ret;refine⟨_,[],rfl,tr _ _,?_,L.o⟩;rw[T.o];exact tR _ _ _ _
 | some I=>
   have hq:=eqlV_some I es.length y;have o:∀(j:Nat)(u:Value),F[j]?=some u->(w.alloc (.cells #[] 181)).cell? (I.add j)=some u:=λj u O=>by
    rcases J with⟨_,e⟩|⟨b,G,e,h⟩
    .rw[e]at O;simp at O
    .cases e;have S:=(h j u O).2;rw[zh];exact(tl (a:=⟨b,G+j,none⟩) (tu _ _ _ (tp w _ S))).trans S
   have Y:=qL (tn w (.cells #[] 181 (0,0)));have X:=qL o;have U:=qL M;have V:=qL N;have L:=qL K;have H:=qL (And.intro A (And.intro B (And.intro C E)));clear M N J K d o A B C E;go_enter func112,ntmps112
   go_wp2_with (at_builtin;refine zq6 _ _ 57 181 rfl rfl i0 _ 3 40 underlying57 H.o.1 H.o.2.1 H.o.2.2.1 H.o.2.2.2 rfl b8 b8 w.heap.size _ 0 [] rfl (zrH (Zp _) Y.o) _ es.length y F rfl U.o (.inr ⟨_,rfl,X.o⟩) V.o a8 b6 ?_;intro v' P ho Z hv)
   go_ret;rw[wn]at ho;refine⟨v',F,rfl,?_,ho,L.o⟩;exact(((tr _ w).alloc (Zp _) _).grown Z b6 λj hj=>by cases hj;exact Zp _)
def RwE(base:Nat)(w:World)(u:Value)(v:List En)(X:Nat->En->Value->Prop):Prop:=
 ∃j,w.ownsRow base 181 3 u v.length j/\∀i (h:i<v.length),j[i*3]?=some (uV v[i].rep)/\j[i*3+1]?=some (uV v[i].max)/\∃o,j[i*3+2]?=some o/\X i v[i] o
def RwE.imp{base:Nat}{w:World}{u:Value}{v:List En}{X Y:Nat->En->Value->Prop}(h:RwE base w u v X)(hi:∀i e o,i<v.length->X i e o->Y i e o):RwE base w u v Y:=by obtain⟨B,y,A⟩:=h;refine⟨B,y,λi j=>?_⟩;obtain⟨a,b,o,c,d⟩:=A i j;exact⟨a,b,o,c,hi i _ o j d⟩
def RwE.shape{base:Nat}{w:World}{u:Value}{v:List En}{X:Nat->En->Value->Prop}(h:RwE base w u v X):∃A j,u=.slice A v.length j/\v.length<=j/\j<=maxLen/\(v≠[]->∃g o,A=some ⟨g,0,none⟩/\base<=g/\g<w.heap.size/\w.heap[g]?=some (.cells o 181 (0,0))/\0<j):=by
 obtain⟨I,E,_⟩:=h;rcases E.2 with⟨rfl,C⟩|⟨g,j,o,rfl,F,B,H,G,_,_⟩
 .have:v=[]:=wW.1 C;subst this;exact⟨none,0,rfl,Zp _,b8,λh=>absurd rfl h⟩
 .refine⟨_,j,rfl,H,G,λy=>⟨g,o,rfl,F,(XV.1 B).1,B,?_⟩⟩;have:=wV.2 y;omega
def RwE.at{base g n u:Nat}{w:World}{v:List En}{X:Nat->En->Value->Prop}(h:RwE base w (.slice (some ⟨g,0,none⟩) n u) v X)(L:0<u){i:Nat}(hi:i<v.length):
 w.cell? ⟨g,i*3,none⟩=some (uV v[i].rep)/\w.frozen? ⟨g,i*3,none⟩=false/\w.cell? ⟨g,i*3+1,none⟩=some (uV v[i].max)/\w.frozen? ⟨g,i*3+1,none⟩=false/\∃A,w.cell? ⟨g,i*3+2,none⟩=some A/\w.frozen? ⟨g,i*3+2,none⟩=false/\X i v[i] A:=by
 obtain⟨J,E,G⟩:=h;obtain⟨a,b,A,c,d⟩:=G i hi;have B:∀o,w.frozen? ⟨g,o,none⟩=false:=by
  rcases E.2 with⟨e,_⟩|⟨K,C,F,e,_,H,_⟩
  .cases e
  .cases e;intro o;simp[World.frozen?,H]
 have y:∀j x,J[j]?=some x->w.cell? ⟨g,j,none⟩=some x:=λj x I=>by have:=tI E (g:=g) (by cases u with|zero=>omega|succ c=>rfl) j x I;rw[zh,wn]at this;exact this
 exact⟨y _ _ a,B _,y _ _ b,B _,A,y _ _ c,B _,d⟩
def RwE.set{base g u j:Nat}{w:World}{v:List En}{X:Nat->En->Value->Prop}{o:Value}(h:RwE base w (.slice (some ⟨g,0,none⟩) v.length u) v X){Y:Nat->En->Value->Prop}(G:∀i (h:i<v.length) A,i≠j->X i v[i] A->Y i v[i] A)(J:j<v.length)(C:Y j v[j] o):
 RwE base (w.setCell ⟨g,j*3+2,none⟩ o) (.slice (some ⟨g,0,none⟩) v.length u) v Y:=by
 obtain⟨I,E,F⟩:=h;obtain⟨H,_⟩:=E.stored (j*3+2) o;refine⟨I.set (j*3+2) o,H,λi hi=>?_⟩;obtain⟨a,b,A,c,d⟩:=F i hi;refine⟨by rw[wU a8];exact a,by rw[wU a8];exact b,?_⟩;by_cases y:i=j
 .subst y;have B:=(Zw.1 c).1;exact⟨o,by rw[WM B],C⟩
 .exact⟨A,by rw[wU a8];exact c,G i hi A y d⟩
def RwE.keep{base:Nat}{w w':World}{u:Value}{v:List En}{X:Nat->En->Value->Prop}(h:RwE base w u v X)(hb:∀k,k<w.heap.size->w'.heap[k]?=w.heap[k]?):RwE base w' u v X:=by
 obtain⟨xs,y,B⟩:=h;refine⟨xs,⟨y.1,?_⟩,B⟩;rcases y.2 with h|⟨g,j,o,e,C,A,r⟩
 .exact .inl h
 .exact .inr ⟨g,j,o,e,C,(hb g (XV.1 A).1).trans A,r⟩
def RwE.dat{D:Qk}{base:Nat}{w:World}{u:Value}{v:List En}{X:Nat->En->Value->Prop}(h:RwE base w u v X)(M:∀i e K,X i e K->Dat D w K (rg e.holes))(T:∀b o,base<=b->b<w.heap.size->D b o):Dat D w u (vp v):=by
 obtain⟨N,E,rfl,Q,L,S⟩:=h.shape;have B:(v.map ec).length=v.length:=ww _;unfold vp;by_cases G:v=[]
 .subst G;exact .sl N E 3 [] .sh 0 0 (λ_=>undef) (X4 _) (λh=>by cases h) L (λh=>absurd rfl h) (λi e h=>by simp at h) (λj h=>by simp at h) (λi e j p h=>by simp at h)
 obtain⟨g,O,rfl,V,J,_,P⟩:=S G;have A:∀i (hi:i<v.length) j p,(ec v[i])[j]?=some p->∃x,w.cell? ⟨g,i*3+j,none⟩=some x/\Dat D w x p/\x.oneCell'=true:=λi hi j p C=>by
  obtain⟨a,_,b,_,K,c,_,d⟩:=h.at P hi;match j,C with
  |0,C=>cases C;exact⟨_,a,.v _,rfl⟩
  |1,C=>cases C;exact⟨_,b,.v _,rfl⟩
  |2,C=>cases C;exact⟨_,c,M _ _ _ d,Ki (M _ _ _ d)⟩
  |j+3,C=>simp[ec]at C
 rw[<-B];refine .sl (some ⟨g,0,none⟩) E 3 (v.map ec) .sh g 0 (λj=>(w.cell? ⟨g,j,none⟩).getD undef) (by rw[B];exact Q) (λh=>by cases h) L (λ_=>rfl) (λi e F=>?_) (λj Y=>?_) (λi e j p F C=>?_)
 .rw[wk]at F;obtain⟨x,_,rfl⟩:=ZZ.1 F;rfl
 .rw[B]at Y;have hi:j/3<v.length:=a8;have I:j%3<(ec v[j/3]).length:=U1 _ b8;obtain⟨x,H,_,ho⟩:=A (j/3) hi (j%3) ((ec v[j/3])[j%3]) (Zv I);rw[show j/3*3+j%3=j by omega]at H;simp only[wn,H,WP];exact⟨T _ _ V J,trivial,ho⟩
 .rw[wk]at F;obtain⟨x,H,rfl⟩:=ZZ.1 F;obtain⟨hi,rfl⟩:=Zw.1 H;obtain⟨y,Z,U,_⟩:=A i hi j p C;simp only[Z,WP];exact U
def zq3{D:Qk}{w:World}{x:Value}(v:List En)(d:Dat D w x (vp v))(hD:∀b o,D b o->b<w.heap.size)(hb:∀e∈v,ZL e)(hl:v.length<=1073741824)(hh:∀e∈v,e.holes.length<=1073741824):
 Calls xT 73 #[x] w λe w'=>∃u,e=.returned u/\Below w.heap.size w w'/\RwE w.heap.size w' u v (λ_ e E=>OwnR w.heap.size w' E e.holes):=by
 have S:=znV (es:=v.map ec) d (λe T=>by obtain⟨x,_,rfl⟩:=wB.1 T;rfl) (by rw[ww];exact hl);have X:=qL S;have O:=qL hD;have HB:=qL hb;have HH:=qL hh;clear S d hD hb hh;go_enter func73,ntmps73
 go_upto_region 2 with(go_at_call 112;refine X.o.mono ?_;rintro e w1 ⟨u,xs,rfl,J,L,F⟩)
 have y:RwE w.heap.size w1 u v (λ_ e E=>Dat D w E (rg e.holes)):=by refine⟨xs,by rw[ww]at L;exact L,λi hi=>?_⟩;have T:(v.map ec)[i]?=some (ec v[i]):=(by rw[wk,Zv hi];rfl);obtain⟨x0,a0,d0⟩:=F i _ 0 _ T rfl;obtain⟨x1,a1,d1⟩:=F i _ 1 _ T rfl;obtain⟨x2,a2,d2⟩:=F i _ 2 _ T rfl;have e0:=(Rel.dat (ρ:=λ_=>0) (nb:=0) d0).v_inv;have e1:=(Rel.dat (ρ:=λ_=>0) (nb:=0) d1).v_inv;rw[e0]at a0;rw[e1]at a1;exact⟨a0,a1,x2,a2,d2⟩
 obtain⟨ad,ac,rfl,ah,ae,G⟩:=y.shape;unfold maxLen at ae;have ab:=qL y;have V:=qL J;have P:=qL G;have ai:=J.size;clear y L F J G
 go_wp2_with fail
 go_loopg [9] v.length (λgh x wr=>∃j,j<=v.length/\gh=v.length-j/\x=.int .i64 j/\RwE w.heap.size wr (.slice ad v.length ac) v (λi e E=>(i<j->OwnR w1.heap.size wr E e.holes)/\(j<=i->Dat D w E (rg e.holes)))/\Below w.heap.size w wr/\w1.heap.size<=wr.heap.size)
 case atStart=>exact⟨0,X4 _,rfl,rfl,ab.o.imp λi e E _ h=>⟨λh0=>absurd h0 (Uh _),λ_=>h⟩,V.o,Zp _⟩
 case round=>
  obtain⟨j,hj,rfl,rfl,y,Q,ag⟩:=hrel;have HR:=qL y;have I:=qL Q;by_cases C:j<v.length
  .obtain⟨g,aj,rfl,hg,ak,_,h0⟩:=P.o (by intro e;subst e;simp at C);obtain⟨_,_,_,_,E,ch,fh,_,B⟩:=y.at h0 C;have B:=B (Zp _);have K:=Y1 C;obtain⟨av,cv,rfl⟩:=zK B;have U:∀W,Below w.heap.size w W->RdR 0 W.heap.size W (.slice av v[j].holes.length cv) v[j].holes:=λW hW=>je (B.mono (λ_ _ h=>h) λb o x h N=>(tl (a:=⟨b,o,none⟩) (hW.block b (O.o b o h))).trans N) (λb o h=>Vm (O.o b o h) hW.size) (HB.o _ K).1;have Z:=qL U;have am:=HH.o _ K;clear y Q B U K
   go_wp2_with fail
   refine(zeX (Z.o _ I.o) a8).mono ?_;rintro e w3 ⟨u3,rfl,M,A⟩;obtain⟨au,cu,rfl⟩:=M.val;have c3:=(tl (a:=⟨g,j*3+2,none⟩) (A.block g a8)).trans ch;have f3:w3.frozen? ⟨g,j*3+2,none⟩=false:=(by have e:=A.block g a8;simp only[World.frozen?,e]at fh⊢;exact fh);have Y:=qL M;have H:=qL A;have ao:=A.size;clear M A ch fh;dsimp only
   go_wp2_with fail
   go_roundg (v.length-(j+1));case measure=>omega
   case rel=>
    refine⟨j+1,C,rfl,b6,(HR.o.keep λk hk=>H.o.block k hk).set (λi hi E an N=>⟨λaf=>?_,λaf=>N.2 a8⟩) C ⟨λ_=>?_,λh=>a8⟩,?_,a9⟩
    .exact((N.1 a8).below H.o (Zp _)).keep ((Keep.refl (λk=>k=g) w3).setCell (λ_=>rfl) _) λk hk e=>a8
    .exact(Y.o.mono ag).keep ((Keep.refl (λk=>k=g) w3).setCell (λ_=>rfl) _) λk hk e=>a8
    .exact tW (I.o.trans (H.o.mono a8)) (by show w.heap.size<=g;omega) _
  .obtain rfl:j=v.length:=a8
   go_wp2_with fail
   refine tz (tJ rfl _ _ _) rfl ?_;exact⟨_,rfl,I.o,HR.o.imp λi e E hi N=>(N.1 hi).mono a8⟩
def zrs(j:Addr)(n c:Nat)(w:World):(binOp .eql 54 (.slice (some j) n c) (.slice none 0 0)).run xT w=.ok (.bool false) w:=dK
def zrr(n c:Nat)(w:World):(binOp .eql 54 (.slice none n c) (.slice none 0 0)).run xT w=.ok (.bool true) w:=dK
def zry{D:Qk}{w:World}{x:Value}{es:List (List PV)}(d:Dat D w x (.sl es .sh))(hs:∀e∈es,e.length=2)(hl:es.length<=1073741824):
 Calls xT 71 #[x] w λe P=>∃u F,e=.returned u/\Below w.heap.size w P/\P.ownsRow w.heap.size 59 2 u es.length F/\∀(i:Nat)(e:List PV)(j:Nat)(p:PV),es[i]?=some e->e[j]?=some p->∃v,F[i*2+j]?=some v/\Dat D w v p:=by
 obtain⟨I,y,F,rfl,_,_,M,N,J,K⟩:=dat_row d hs;obtain⟨i0,A,B,C,E⟩:=tP Z9;cases I with
 | none=>
   obtain⟨Q,rfl⟩:es.length=0/\F=[]:=by
    rcases J with h|⟨b,G,e,_⟩
    .exact h
    .cases e
   have hq:=zrr es.length y;have L:=qL K;have T:=qL Q;clear M N J K d hl A B C E Q;go_enter func71,ntmps71
   go_wp2;go_ret;refine⟨_,[],rfl,tr _ _,?_,L.o⟩;rw[T.o];exact tR _ _ _ _
 | some I=>
   have hq:=zrs I es.length y;have o:∀(j:Nat)(u:Value),F[j]?=some u->(w.alloc (.cells #[] 59)).cell? (I.add j)=some u:=λj u O=>by
    rcases J with⟨_,e⟩|⟨b,G,e,h⟩
    .rw[e]at O;simp at O
    .cases e;have S:=(h j u O).2;rw[zh];exact(tl (a:=⟨b,G+j,none⟩) (tu _ _ _ (tp w _ S))).trans S
   have Y:=qL (tn w (.cells #[] 59 (0,0)));have X:=qL o;have U:=qL M;have V:=qL N;have L:=qL K;have H:=qL (And.intro A (And.intro B (And.intro C E)));clear M N J K d o A B C E;go_enter func71,ntmps71
   go_wp2_with (at_builtin;refine zq6 _ _ 54 59 rfl rfl i0 _ 2 48 underlying54 H.o.1 H.o.2.1 H.o.2.2.1 H.o.2.2.2 rfl b8 b8 w.heap.size _ 0 [] rfl (zrH (Zp _) Y.o) _ es.length y F rfl U.o (.inr ⟨_,rfl,X.o⟩) V.o a8 b6 ?_;intro v' P ho Z hv)
   go_ret;rw[wn]at ho;refine⟨v',F,rfl,?_,ho,L.o⟩;exact(((tr _ w).alloc (Zp _) _).grown Z b6 λj hj=>by cases hj;exact Zp _)
def VO(base:Nat)(w:World)(u:Value)(v:List En):Prop:=RwE base w u v (λ_ e j=>OwnR base w j e.holes)
def VO.keep{base:Nat}{S:Nat->Prop}{w w':World}{u:Value}{v:List En}(h:VO base w u v)(hk:Keep S w w')(o:∀g,base<=g->¬S g):VO base w' u v:=by obtain⟨xs,j,y⟩:=h;refine⟨xs,hk.ownsRow j λg A=>o g ((j.lt g A).1),λi hi=>?_⟩;obtain⟨a,b,B,c,d⟩:=y i hi;exact⟨a,b,B,c,d.keep hk o⟩
def VO.mono{base j:Nat}{w:World}{u:Value}{v:List En}(h:VO base w u v)(hb:j<=base):VO j w u v:=by
 obtain⟨G,B,C⟩:=h;refine⟨G,⟨B.1,?_⟩,λi hi=>?_⟩
 .rcases B.2 with F|⟨g,o,y,A,E,r⟩
  .exact .inl F
  .exact .inr ⟨g,o,y,A,V1 hb E,r⟩
 .obtain⟨a,b,A,c,d⟩:=C i hi;exact⟨a,b,A,c,d.mono hb⟩
def VO.shape{base:Nat}{w:World}{u:Value}{v:List En}(h:VO base w u v):∃a c,u=.slice a v.length c:=by obtain⟨a,c,e,_⟩:=RwE.shape h;exact⟨a,c,e⟩
def RwF(base:Nat)(w:World)(u:Value)(k:List Fg)(X:Nat->Fg->Value->Value->Prop):Prop:=
 ∃j,w.ownsRow base 59 2 u k.length j/\∀i (h:i<k.length),∃o hb,j[i*2]?=some o/\j[i*2+1]?=some hb/\X i k[i] o hb
def RwF.imp{base:Nat}{w:World}{u:Value}{k:List Fg}{X Y:Nat->Fg->Value->Value->Prop}(h:RwF base w u k X)(hi:∀i f a b,i<k.length->X i f a b->Y i f a b):RwF base w u k Y:=by obtain⟨A,o,y⟩:=h;refine⟨A,o,λi j=>?_⟩;obtain⟨a,b,c,d,e⟩:=y i j;exact⟨a,b,c,d,hi i _ a b j e⟩
def RwF.shape{base:Nat}{w:World}{u:Value}{k:List Fg}{X:Nat->Fg->Value->Value->Prop}(h:RwF base w u k X):∃A j,u=.slice A k.length j/\k.length<=j/\j<=maxLen/\(k≠[]->∃g o,A=some ⟨g,0,none⟩/\base<=g/\g<w.heap.size/\w.heap[g]?=some (.cells o 59 (0,0))/\0<j):=by
 obtain⟨I,E,_⟩:=h;rcases E.2 with⟨rfl,C⟩|⟨g,j,o,rfl,F,B,H,G,_,_⟩
 .have:k=[]:=wW.1 C;subst this;exact⟨none,0,rfl,Zp _,b8,λh=>absurd rfl h⟩
 .refine⟨_,j,rfl,H,G,λy=>⟨g,o,rfl,F,(XV.1 B).1,B,?_⟩⟩;have:=wV.2 y;omega
def RwF.at{base g n u:Nat}{w:World}{k:List Fg}{X:Nat->Fg->Value->Value->Prop}(h:RwF base w (.slice (some ⟨g,0,none⟩) n u) k X)(L:0<u){i:Nat}(hi:i<k.length):
 ∃C hb,w.cell? ⟨g,i*2,none⟩=some C/\w.frozen? ⟨g,i*2,none⟩=false/\w.cell? ⟨g,i*2+1,none⟩=some hb/\w.frozen? ⟨g,i*2+1,none⟩=false/\X i k[i] C hb:=by
 obtain⟨J,B,G⟩:=h;obtain⟨a,b,c,d,e⟩:=G i hi;have E:∀o,w.frozen? ⟨g,o,none⟩=false:=by
  rcases B.2 with⟨e,_⟩|⟨K,A,F,e,_,H,_⟩
  .cases e
  .cases e;intro o;simp[World.frozen?,H]
 have y:∀j x,J[j]?=some x->w.cell? ⟨g,j,none⟩=some x:=λj x I=>by have:=tI B (g:=g) (by cases u with|zero=>omega|succ c=>rfl) j x I;rw[zh,wn]at this;exact this
 exact⟨a,b,y _ _ c,E _,y _ _ d,E _,e⟩
def RwF.set{base g o j:Nat}{w:World}{k:List Fg}{X:Nat->Fg->Value->Value->Prop}{y A:Value}(h:RwF base w (.slice (some ⟨g,0,none⟩) k.length o) k X){Y:Nat->Fg->Value->Value->Prop}(F:∀i (h:i<k.length) a b,i≠j->X i k[i] a b->Y i k[i] a b)(K:j<k.length)(B:Y j k[j] y A):
 RwF base ((w.setCell ⟨g,j*2,none⟩ y).setCell ⟨g,j*2+1,none⟩ A) (.slice (some ⟨g,0,none⟩) k.length o) k Y:=by
 obtain⟨L,C,E⟩:=h;obtain⟨I,_⟩:=C.stored (j*2) y;obtain⟨J,_⟩:=I.stored (j*2+1) A;refine⟨_,J,λi hi=>?_⟩;obtain⟨a,b,c,d,e⟩:=E i hi;by_cases u:i=j
 .subst u;have G:=(Zw.1 c).1;have H:=(Zw.1 d).1;exact⟨y,A,by rw[wU a8,WM G],by rw[WM (dJ H)],B⟩
 .exact⟨a,b,by rw[wU a8,wU a8];exact c,by rw[wU a8,wU a8];exact d,F i hi a b u e⟩
def RwF.keep{base:Nat}{w w':World}{u:Value}{k:List Fg}{X:Nat->Fg->Value->Value->Prop}(h:RwF base w u k X)(hb:∀k,k<w.heap.size->w'.heap[k]?=w.heap[k]?):RwF base w' u k X:=by
 obtain⟨xs,y,B⟩:=h;refine⟨xs,⟨y.1,?_⟩,B⟩;rcases y.2 with h|⟨g,j,o,e,C,A,r⟩
 .exact .inl h
 .exact .inr ⟨g,j,o,e,C,(hb g (XV.1 A).1).trans A,r⟩
def KO(base:Nat)(w:World)(u:Value)(k:List Fg):Prop:=RwF base w u k (λ_ f a b=>OwnR base w a f.items/\VO base w b f.vec)
def KO.dat{D:Qk}{base:Nat}{w:World}{u:Value}{k:List Fg}(h:KO base w u k)(K:∀b o,base<=b->b<w.heap.size->D b o):Dat D w u (kp k):=by
 obtain⟨O,H,rfl,F,E,S⟩:=RwF.shape h;have B:(k.map fc).length=k.length:=ww _;unfold kp;by_cases J:k=[]
 .subst J;exact .sl O H 2 [] .sh 0 0 (λ_=>undef) (X4 _) (λh=>by cases h) E (λh=>absurd rfl h) (λi e h=>by simp at h) (λj h=>by simp at h) (λi e j p h=>by simp at h)
 obtain⟨g,P,rfl,T,N,_,Q⟩:=S J;have A:∀i (hi:i<k.length) j p,(fc k[i])[j]?=some p->∃x,w.cell? ⟨g,i*2+j,none⟩=some x/\Dat D w x p/\x.oneCell'=true:=λi hi j p C=>by
  obtain⟨Z,hb,a,_,b,_,c,d⟩:=RwF.at h Q hi;match j,C with
  |0,C=>cases C;have G:=jp (D:=D) c.rd λb o F E=>K b o F E;exact⟨_,a,G,Ki G⟩
  |1,C=>cases C;have G:=RwE.dat (D:=D) d (λi e hv h=>jp h.rd λb o F E=>K b o F E) λb o F E=>K b o F E;obtain⟨X,Y,e⟩:=d.shape;exact⟨_,b,G,by rw[e];rfl⟩
  |j+2,C=>simp[fc]at C
 rw[<-B];refine .sl (some ⟨g,0,none⟩) H 2 (k.map fc) .sh g 0 (λj=>(w.cell? ⟨g,j,none⟩).getD undef) (by rw[B];exact F) (λh=>by cases h) E (λ_=>rfl) (λi e I=>?_) (λj U=>?_) (λi e j p I C=>?_)
 .rw[wk]at I;obtain⟨x,_,rfl⟩:=ZZ.1 I;rfl
 .rw[B]at U;have hi:j/2<k.length:=a8;have M:j%2<(fc k[j/2]).length:=U1 _ b8;obtain⟨x,L,_,ho⟩:=A (j/2) hi (j%2) ((fc k[j/2])[j%2]) (Zv M);rw[show j/2*2+j%2=j by omega]at L;simp only[wn,L,WP];exact⟨K _ _ T N,trivial,ho⟩
 .rw[wk]at I;obtain⟨x,L,rfl⟩:=ZZ.1 I;obtain⟨hi,rfl⟩:=Zw.1 L;obtain⟨y,V,G,_⟩:=A i hi j p C;simp only[wn,V,WP];exact G
def zss{D:Qk}{w:World}{x:Value}{v:List En}(h:Dat D w x (vp v)):∃a c,x=.slice a v.length c:=by obtain⟨⟨a,n,c⟩,rfl,e⟩:=kH h;simp only[ww]at e;subst e;exact⟨a,c,rfl⟩
def zrM{D:Qk}{w:World}{x:Value}(k:List Fg)(d:Dat D w x (kp k))(hD:∀b o,D b o->b<w.heap.size)(hb:∀f∈k,(∀s∈f.items,s.lo<zk/\s.hi<zk)/\∀e∈f.vec,ZL e)(hl:k.length<=1000000)(hz:∀f∈k,f.items.length<=1000000/\f.vec.length<=1000000/\∀e∈f.vec,e.holes.length<=1000000):
 Calls xT 35 #[x] w λe w'=>∃u,e=.returned u/\Below w.heap.size w w'/\KO w.heap.size w' u k:=by
 have aA:=zry (es:=k.map fc) d (λe he=>by obtain⟨x,_,rfl⟩:=wB.1 he;rfl) (by rw[ww];omega);obtain⟨aa,ca,fs,rfl,aQ,C,aB⟩:=kX d hD;have aN:=C.1;have az:=C.2.1;unfold maxLen at az;rw[aQ]at aN;have aH:=qL aA;have ar:=qL C;have aI:=qL aB;have aq:=qL hD;have HB:=qL hb;have HZ:=qL hz;have aR:xT.follows .mixedOrders=true:=dK
 clear aA d hD hb hz C aB;go_enter func35,ntmps35
 go_upto_region 2 with(go_at_call 71;refine aH.o.mono ?_;rintro e w1 ⟨u,xs,rfl,ag,ak,am⟩)
 have G:RwF w.heap.size w1 u k (λ_ _ _ _=>True):=by refine⟨xs,by rw[ww]at ak;exact ak,λi hi=>?_⟩;have he:(k.map fc)[i]?=some (fc k[i]):=(by rw[wk,Zv hi];rfl);obtain⟨x0,a0,_⟩:=am i _ 0 _ he rfl;obtain⟨x1,T,_⟩:=am i _ 1 _ he rfl;exact⟨x0,x1,a0,T,trivial⟩
 obtain⟨ad,aM,rfl,aS,aO,aC⟩:=G.shape;unfold maxLen at aO;have aL:=qL G;have aE:=qL ag;have aK:=qL aC;have aT:=ag.size;clear G ak am ag aC
 go_wp2_with fail
 go_loopg [10] k.length (λgh x wr=>∃j,j<=k.length/\gh=k.length-j/\x=.int .i64 j/\RwF w.heap.size wr (.slice ad k.length aM) k (λi f a b=>i<j->OwnR w1.heap.size wr a f.items/\VO w1.heap.size wr b f.vec)/\Below w.heap.size w wr/\w1.heap.size<=wr.heap.size)
 case atStart=>exact⟨0,X4 _,rfl,rfl,aL.o.imp λi f a b _ _=>λh0=>absurd h0 (Uh _),aE.o,Zp _⟩
 case round=>
  obtain⟨j,hj,rfl,rfl,G,I,bi⟩:=hrel;have HR:=qL G;have ao:=qL I;by_cases L:j<k.length
  .obtain⟨g,aY,rfl,hg,bc,_,h0⟩:=aK.o (by intro e;subst e;simp at L);have M:j<fs.length:=a8;obtain⟨bb,aD,rfl,ax,Y⟩:=ar.o.2.2 (by intro e;subst e;simp at M);obtain⟨c0,c1⟩:=Y j M;obtain⟨d0,d1⟩:=aI.o j M;replace c0:=(I.cell (p:=⟨bb,aD+j*2,none⟩) ax).trans c0;replace c1:=(I.cell (p:=⟨bb,aD+j*2+1,none⟩) ax).trans c1;have aj:=Y1 L;have U:=HB.o _ aj;have an:=HZ.o _ aj;obtain⟨f,hf⟩:=xm (k[j]);obtain⟨q,hq⟩:=xm (fs[j]);rw[<-hf]at d0 d1 U an;rw[<-hq]at d0 d1 c0 c1;obtain⟨af,cf,e0⟩:=zK d0;obtain⟨av,cv,e1⟩:=zss d1;rw[e0]at c0 d0;rw[e1]at c1 d1;have HF:=qL hf;clear hq e0 e1 hf aj Y;obtain⟨y,O⟩:=xm (wr.alloc (.cells #[.slice af f.items.length cf,.slice av f.vec.length cv] 59));have V:y.heap[wr.heap.size]?=some (.cells #[.slice af f.items.length cf,.slice av f.vec.length cv] 59 (0,0)):=(by rw[O];exact tn wr _);have ah:Below wr.heap.size wr y:=(by rw[O];exact(tr _ wr).alloc (Zp _) _);have bh:y.heap.size=wr.heap.size+1:=(by rw[O];simp);have ac:∀W,Below y.heap.size y W->Below w.heap.size w W:=λW H=>I.trans ((ah.mono a8).trans (H.mono a8));have hw:∀W,Below y.heap.size y W->∀b o x,D b o->w.cell? ⟨b,o,none⟩=some x->W.cell? ⟨b,o,none⟩=some x:=λW H b o x h hx=>(tl (a:=⟨b,o,none⟩) ((ac W H).block b (aq.o b o h))).trans hx;have ae:∀W,Below y.heap.size y W->∀b o,D b o->b<W.heap.size:=λW H b o h=>Vm (aq.o b o h) (ac W H).size;have aF:=qL (λW (H:Below y.heap.size y W)=>zeX (je (d0.mono (λ_ _ h=>h) (hw W H)) (ae W H) U.1) a8);have aG:=qL (λW (H:Below y.heap.size y W)=>zq3 f.vec (d1.mono (λ_ _ h=>h) (hw W H)) (ae W H) U.2 a8 λe he=>by have:=an.2.2 e he;omega);have aV:=qL V;have Z:=qL ah
   have g0:=(zW V 0 _ rfl).1;have g1:=(zW V 1 _ rfl).1;clear d0 d1 V ah ac hw ae U an G I
   go_wp2_with fail
   rw[<-O];have ay:Below y.heap.size y y.drew:=(tr _ _).drew;clear O;refine Kg (Sw:=qe) 9 27 (λQ=>Below y.heap.size y Q/\Q.cell? ⟨wr.heap.size,0,none⟩=some (.slice af f.items.length cf)/\Q.cell? ⟨wr.heap.size,1,none⟩=some (.slice av f.vec.length cv)) dK dK rfl ⟨ay,g0,g1⟩ ?_;simp only[wO,wZ];refine Jz ?_;refine V7 (λu Q=>∃E F,u=.slice E f.items.length F/\OwnR y.heap.size Q u f.items) (λu wa y h hk=>by obtain⟨E,F,e,h⟩:=h;exact⟨E,F,e,h.keep hk λ_ _=>id⟩) rfl ?_ ?_
   .intro P w2 A hk hr K X;have HK:=qL X;clear X;simp[Rds,zA,lk,Op.operands,Call.operands,RdEq]at hr;go_simp;refine(aF.o _ A.1).mono ?_;rintro e w3 ⟨u,rfl,ho,hb⟩;obtain⟨E,F,rfl⟩:=ho.val;have B:Keep qe _ w3:=Keep.of_below' hb (Zp _);exact HK.o _ _ B ⟨A.1.trans (hb.mono A.1.size),B.cell_some A.2.1 id,B.cell_some A.2.2 id⟩ ⟨E,F,rfl,ho.mono A.1.size⟩
   simp only[Yf,yb];refine Jz ?_;refine V7 (λu Q=>∃E F,u=.slice E f.vec.length F/\VO y.heap.size Q u f.vec) (λu wa y h hk=>by obtain⟨E,F,e,h⟩:=h;exact⟨E,F,e,h.keep hk λ_ _=>id⟩) rfl ?_ ?_
   .intro P w2 A hk hr K X;have HK:=qL X;clear X;simp[Rds,zA,lk,Op.operands,Call.operands,RdEq]at hr;go_simp;refine(aG.o _ A.1).mono ?_;rintro e w3 ⟨u,rfl,hb,ho⟩;have ho:VO _ w3 u f.vec:=ho;obtain⟨E,F,rfl⟩:=ho.shape;have B:Keep qe _ w3:=Keep.of_below' hb (Zp _);exact HK.o _ _ B ⟨A.1.trans (hb.mono A.1.size),B.cell_some A.2.1 id,B.cell_some A.2.2 id⟩ ⟨E,F,rfl,ho.mono A.1.size⟩
   simp only[Yf,yb];refine Jz ?_;refine V7 (λu Q=>∃T n1 P n2,u=.agg #[.slice T f.items.length n1,.slice P f.vec.length n2]/\OwnR y.heap.size Q (.slice T f.items.length n1) f.items/\VO y.heap.size Q (.slice P f.vec.length n2) f.vec) (λu wa y h hk=>by obtain⟨T,n1,P,n2,e,h,h'⟩:=h;exact⟨T,n1,P,n2,e,h.keep hk λ_ _=>id,h'.keep hk λ_ _=>id⟩) rfl ?_ ?_
   .intro P w2 A hk hr K X;have HK:=qL X;clear X;simp[Rds,zA,lk,Op.operands,Call.operands,RdEq]at hr;obtain⟨⟨_,⟨e1,e2⟩,⟨E,F,rfl⟩,ho⟩,_,⟨e3,e4⟩,⟨aw,cw,rfl⟩,hv⟩:=hr;go_simp;exact HK.o _ _ (Keep.refl _ _) A ⟨E,F,aw,cw,rfl,ho,hv⟩
   simp only[Yf,yb];intro w2 ai aP;simp only[finG,WQ,Yf,yb,wM,Wg,WR];simp only[Act.put,wy,wR,wS];rintro _ ⟨_,_,rfl,_⟩ _ ⟨_,_,rfl,_⟩ _ ⟨T,n1,P,n2,rfl,hu,hv⟩;have HU:=qL hu;have HV:=qL hv;have ab:=qL ai.1;have aU:=ai.1.size;have N:=HR.o.keep (w':=w2) (λb hb=>(ab.o.block b a8).trans (Z.o.block b hb));obtain⟨xa,xb,aW,aZ,aX,ba,_⟩:=N.at h0 L;have aJ:=qL N;clear hu hv ai aP ay N g0 g1 c0 c1
   go_wp2_with fail
   go_roundg (k.length-(j+1));case measure=>omega
   case rel=>
    have hS:∀x,w1.heap.size<=x->¬x=g:=λx hx e=>a8;refine⟨j+1,L,rfl,b6,aJ.o.set (λi hi a b bg hx be=>?_) L (λ_=>?_),?_,a9⟩
    .have J:=(((Keep.of_below' (S:=λx=>x=g) Z.o (Zp _)).trans (Keep.of_below' ab.o (Zp _))).setCell (p:=⟨g,j*2,none⟩) (λ_=>rfl) (.slice T f.items.length n1)).setCell (p:=⟨g,j*2+1,none⟩) (λ_=>rfl) (.slice P f.vec.length n2);obtain⟨h1,h2⟩:=hx a8;exact⟨h1.keep J hS,h2.keep J hS⟩
    .have J:=((Keep.refl (λx=>x=g) w2).setCell (p:=⟨g,j*2,none⟩) (λ_=>rfl) (.slice T f.items.length n1)).setCell (p:=⟨g,j*2+1,none⟩) (λ_=>rfl) (.slice P f.vec.length n2);rw[<-HF.o];exact⟨(HU.o.mono a8).keep J hS,(HV.o.mono a8).keep J hS⟩
    .exact tW (tW (ao.o.trans ((Z.o.mono a8).trans (ab.o.mono a8))) (by show w.heap.size<=g;omega) _) (by show w.heap.size<=g;omega) _
  .obtain rfl:j=k.length:=a8
   go_wp2_with fail
   refine tz (tJ rfl _ _ _) rfl ?_;exact⟨_,rfl,ao.o,HR.o.imp λi f a b hi hx=>⟨(hx hi).1.mono a8,(hx hi).2.mono a8⟩⟩
end
section
structure Rc where
 item:Nat
 rep:Nat
 ctr:Nat
 val:ByteArray
def rcc(x:Rc):List PV:=[.v (.int .u64 x.item),.v (.int .u64 x.rep),.v (.int .u64 x.ctr),.v (.string x.val)]
def rcp(x:Rc):PV:=.agg (rcc x)
def rcv(x:Rc):Value:=.agg #[.int .u64 x.item,.int .u64 x.rep,.int .u64 x.ctr,.string x.val]
def lp(l:List Rc):PV:=.sl (l.map rcc) .sh
def zrZ(l:List Rc)(i:Nat):Option Rc:=l.find? λx=>decide (x.item=i)
def zr4:List Rc->Rc->List Rc
 |[],x=>[x]
 |y::l,x=>if y.item<x.item then y::zr4 l x else if y.item=x.item then x::l else x::y::l
def zr8(l:List Rc):Prop:=l.Pairwise λx y=>x.item<y.item
def zr3:∀{l:List Rc}{x y:Rc},y∈zr4 l x->y=x\/y∈l
 |[],x,y,h=>by simp[zr4]at h;exact .inl h
 | z::l,x,y,h=>by
   unfold zr4 at h;split at h
   .rcases wi.1 h with rfl|h
    .exact .inr b6
    .exact(zr3 h).imp id λh=>by simp[h]
   .split at h
    .exact(wi.1 h).imp id λh=>by simp[h]
    .exact(wi.1 h).imp id id
def ztN:∀(l:List Rc)(x:Rc),(zr4 l x).length<=l.length+1
 |[],x=>by simp[zr4]
 | z::l,x=>by
   unfold zr4;have:=ztN l x;split
   .simp;omega
   .split<;>simp
def zr6:∀{l:List Rc}{x:Rc},zr8 l->zr8 (zr4 l x)
 |[],x,_=>by simp[zr4,zr8]
 | z::l,x,h=>by
   obtain⟨o,u⟩:=V3.1 h;unfold zr4;split
   .rename_i hlt;exact V3.2 ⟨λy j=>(zr3 j).elim (λe=>by rw[e];exact hlt) (o y),zr6 u⟩
   .split
    .rename_i e;exact V3.2 ⟨λy j=>by have:=o y j;omega,u⟩
    .refine V3.2 ⟨λy j=>?_,h⟩;rcases wi.1 j with rfl|j
     .omega
     .have:=o y j;omega
def ztk{l:List Rc}{i:Nat}(h:∀y∈l,y.item≠i):zrZ l i=none:=by unfold zrZ;rw[uQ];intro x j;simp[h x j]
def zsB{l:List Rc}{i:Nat}{x:Rc}(h:zrZ l i=some x):x∈l/\x.item=i:=by unfold zrZ at h;exact⟨uD h,by simpa using List.find?_some h⟩
def zrf(y:Rc)(l:List Rc)(i:Nat):zrZ (y::l) i=if y.item=i then some y else zrZ l i:=by
 unfold zrZ;rw[List.find?_cons];by_cases h:y.item=i<;>simp[h]
def zsb:∀{l:List Rc}{x:Rc}(i:Nat),zr8 l->zrZ (zr4 l x) i=if x.item=i then some x else zrZ l i
 |[],x,i,_=>by rw[zr4,zrf]
 | z::l,x,i,h=>by
   obtain⟨o,j⟩:=V3.1 h;unfold zr4;split
   .rename_i hlt;rw[zrf,zsb i j,zrf];by_cases e:z.item=i
    .rw[vD e,vD e,Vq a8]
    .rw[Vq e,Vq e]
   .split
    .rename_i e0;rw[zrf,zrf];by_cases e:x.item=i
     .rw[vD e,vD e]
     .rw[Vq e,Vq e,Vq a8]
    .rw[zrf]
def ixR:List Rc->Nat->Int->Int
 |[],_,_ =>-1
 |x::l,i,n=>if x.item=i then n else ixR l i (n+1)
def qX(k:List Fg)(x y:Nat):Bool:=k.all λf=>mem f.items x == mem f.items y
def qo{k:List Fg}{x y:Nat}:qX k x y=true↔∀f∈k,mem f.items x=mem f.items y:=by simp[qX]
def j8{x y:Nat}:∀{k:List Fg}{n:Nat},(∀f∈k,mem f.items x=mem f.items y)->withF x n k=withF y n k
 |[],_,_=>rfl
 |f::k,n,h=>by rw[withF,withF,j8 (k:=k) λg j=>h g (by simp[j]),h f b6]
def Zh{x y:Nat}:∀{k:List Fg}{n:Nat},(withF x n k).map Prod.fst=(withF y n k).map Prod.fst->∀f∈k,mem f.items x=mem f.items y
 |[],_,_,f,j=>by cases j
 | g::k,n,h,f,j=>by
   have no:∀z,n∉(withF z (n+1) k).map Prod.fst:=λz hz=>(by obtain⟨p,o,e⟩:=wB.1 hz;have:=(jv o).2.2.1;omega);rw[withF,withF]at h;cases hx:mem g.items x<;>cases hy:mem g.items y<;>rw[hx,hy]at h<;>simp only[UJ,UX,uA,Wx]at h
   .rcases wi.1 j with rfl|j
    .rw[hx,hy]
    .exact Zh h f j
   .exact absurd (h▸WG) (no x)
   .exact absurd (h▸WG) (no y)
   .rcases wi.1 j with rfl|j
    .rw[hx,hy]
    .exact Zh (List.cons.inj h).2 f j
def Vp{k:List Fg}{x y:Nat}:zU k x=zU k y↔qX k x y=true:=by rw[qo];exact⟨λh=>Zh h,λh=>by unfold zU;rw[j8 h]⟩
def Yt{k:List Fg}{x y:Nat}(h:qX k x y=true)(r c:Nat):hasK k x r c=hasK k y r c:=by rw[<-jh,<-jh,j8 (qo.1 h)]
def km{k:List Fg}{i r c:Nat}:hasK k i r c=true↔∃f∈k,mem f.items i=true/\mem (zT f.vec r) c=true:=by simp[hasK]
noncomputable def zq (k:List Fg):List Nat:=(zH (k.map Fg.items)).filter λx=>decide (x=0) || !qX k (x-1) x
def startsK_asc(k:List Fg):YN (zq k):=(x8 _).filter _
def vZ{k:List Fg}(h:RightK k){x:Nat}:x∈zq k↔x<zk/\(x=0\/qX k (x-1) x=false):=by
 unfold zq;rw[Wh];constructor
 .rintro⟨u,o⟩;refine⟨Ze (λl C s hs=>?_) x u,dJ o⟩;obtain⟨f,j,rfl⟩:=wB.1 C;have:=NF.lo_ge (h f j).1 s hs;omega
 .rintro⟨u,o⟩;refine⟨?_,dJ o⟩;unfold zH;rw[qr];unfold yU;rcases WC x with y|y
  .simp[y]
  .have A:=o.resolve_left a8;refine wi.2 (.inr ?_);have:∃f∈k,mem f.items (x-1)≠mem f.items x:=wT λE=>(by have:qX k (x-1) x=true:=qo.2 λf j=>wT λB=>E ⟨f,j,B⟩;rw[A]at this;cases this);obtain⟨f,j,w⟩:=this;exact uk.2 ⟨f.items,wB.2 ⟨f,j,rfl⟩,Y3 (h f j).1.ivs2 ⟨u,by rw[Vq a8];exact λe=>w e.symm⟩⟩
def XC{k:List Fg}(h:RightK k):0∈zq k:=(vZ h).2 ⟨xM,.inl rfl⟩
def vY(k:List Fg):(zq k).length<=1+(CI k).length:=by
 have j:(zq k).length<=(zH (k.map Fg.items)).length:=Wy _ _;have o:(zH (k.map Fg.items)).length<=(yU (k.map Fg.items)).length:=ju _;have u:(yU (k.map Fg.items)).length=1+(CI k).length:=by unfold yU CI;rw[wv,Uc];omega
 omega
def vN:List Nat->List Iv
 |[]=>[]
 |[x]=>[⟨x,zk-1⟩]
 |x::y::r=>⟨x,y-1⟩::vN (y::r)
def vO:∀l:List Nat,(vN l).length=l.length
 |[]=>rfl
 |[_]=>rfl
 |x::y::r=>by rw[vN,wv,vO (y::r)];rfl
def Vx:∀(l:List Nat)(i:Nat)(h:i<l.length),(vN l)[i]'(by rw[vO];exact h)=⟨l[i],if h:i+1<l.length then l[i+1]-1 else zk-1⟩
 |[x],0,_=>by simp[vN]
 |x::y::r,0,_=>by simp[vN]
 |x::y::r,i+1,h=>by have:=Vx (y::r) i (dJ h);simp only[vN,WN];rw[this];simp
def YD:∀{l:List Nat},YN l->(∀x∈l,x<zk)->(∀s∈vN l,s.lo<=s.hi/\s.hi<zk/\s.lo∈l)/\(vN l).Pairwise (λs t=>s.hi<t.lo)/\(∀s∈vN l,∀y∈l,s.lo<y->s.hi<y)/\∀i x r,l=x::r->x<=i->i<zk->∃s∈vN l,s.lo<=i/\i<=s.hi
 |[],_,_=>⟨λs h=>(by cases h),List.Pairwise.nil,λs h=>(by cases h),λi x r h=>by cases h⟩
 | [x],_,hl=>by
   have M:=hl x b6;refine⟨λs h=>?_,by simp[vN],λs h y B j=>?_,λi y r h u C=>?_⟩
   .simp only[vN,wD]at h;subst h;exact⟨by simp only;omega,by simp only;omega,b6⟩
   .simp only[vN,wD]at h B;subst h B;simp at j
   .cases h;exact⟨⟨x,zk-1⟩,by simp[vN],u,by simp only;omega⟩
 | x::y::r,ha,hl=>by
   have A:=V3.1 ha;have G:=A.1 y b6;have B:=hl y b6;obtain⟨u,C,E,F⟩:=YD A.2 λz hz=>hl z (by simp[hz]);have o:∀z∈y::r,y<=z:=λz hz=>by
    rcases wi.1 hz with rfl|hz
    .exact Zp _
    .exact uy ((V3.1 A.2).1 z hz)
   rw[vN];refine⟨λs h=>?_,V3.2 ⟨λt ht=>?_,C⟩,λs h z hz j=>?_,λi O N h H I=>?_⟩
   .rcases wi.1 h with rfl|h
    .exact⟨by simp only;omega,by simp only;omega,b6⟩
    .obtain⟨J,K,L⟩:=u s h;exact⟨J,K,by rw[wi];exact .inr L⟩
   .have:=o _ (u t ht).2.2;simp only;omega
   .rcases wi.1 h with e|w
    .subst e;rcases wi.1 hz with e|hz
     .subst e;simp at j
     .have:=o z hz;simp only;omega
    .rcases wi.1 hz with e|hz
     .subst e;have:=o _ (u s w).2.2;omega
     .exact E s w z hz j
   .cases h;rcases wJ i y with hi|hi
    .exact⟨⟨x,y-1⟩,b6,H,by simp only;omega⟩
    .obtain⟨s,hs,q⟩:=F i y r rfl hi I;exact⟨s,by simp[hs],q⟩
noncomputable def cutsK (k:List Fg):List Iv:=vN (zq k)
noncomputable def zu (k:List Fg):List Iv:=(cutsK k).filter λs=>decide (0<(zU k s.lo).length)
section
variable {k:List Fg}(h:RightK k)
include h
theorem x7:∀x∈zq k,x<zk:=λx j=>((vZ h).1 j).1
theorem xO:(∀s∈cutsK k,s.lo<=s.hi/\s.hi<zk/\s.lo∈zq k)/\(cutsK k).Pairwise (λs t=>s.hi<t.lo)/\(∀s∈cutsK k,∀y∈zq k,s.lo<y->s.hi<y)/\∀i,i<zk->∃s∈cutsK k,s.lo<=i/\i<=s.hi:=by
 obtain⟨u,w,A,B⟩:=YD (startsK_asc k) (x7 h);refine⟨u,w,A,λi hi=>?_⟩;have j:=XC h;cases hs:zq k with
 |nil=>rw[hs]at j;cases j
 | cons x r=>
   have:x=0:=by
    rw[hs]at j;rcases wi.1 j with e|e
    .exact e.symm
    .have o:=startsK_asc k;rw[hs]at o;have:=(V3.1 o).1 0 e;omega
   exact B i x r hs a8 hi
theorem jR{s:Iv}(hs:s∈cutsK k):∀{x:Nat},s.lo<=x->x<=s.hi->qX k s.lo x=true:=by
 obtain⟨w,_,y,_⟩:=xO h;intro x;induction x with
 |zero=>intro j _;rw[show s.lo=0 by omega];exact qo.2 λf _=>rfl
 | succ x ih=>
   intro j C;rcases uC j with e|o
   .rw[e];exact qo.2 λf _=>rfl
   .have A:=ih a8 a8;have B:qX k x (x+1)=true:=by
     cases h7:qX k x (x+1)with
     |true=>rfl
     |false=>have:=y s hs (x+1) ((vZ h).2 ⟨by have:=(w s hs).2.1;omega,.inr (by rw[Nat.add_sub_cancel];exact h7)⟩) o;omega
    exact qo.2 λf u=>(qo.1 A f u).trans (qo.1 B f u)
theorem Xj{i:Nat}(hi:i<zk)(u:0<(zU k i).length):∃s∈zu k,s.lo<=i/\i<=s.hi:=by obtain⟨s,hs,j,o⟩:=(xO h).2.2.2 i hi;refine⟨s,Wh.2 ⟨hs,?_⟩,j,o⟩;rw[wG,Vp.2 (jR h hs j o)];exact u
theorem yt:(∀s∈zu k,s.lo<=s.hi/\s.hi<zk/\s∈cutsK k/\0<(zU k s.lo).length)/\(zu k).Pairwise (λs t=>s.hi<t.lo):=by refine⟨λs hs=>?_,(xO h).2.1.filter _⟩;obtain⟨j,o⟩:=Wh.1 hs;obtain⟨u,w,_⟩:=(xO h).1 s j;exact⟨u,w,j,dJ o⟩
end
def xW(k:List Fg):(zu k).length<=1+(CI k).length:=by have j:(zu k).length<=(cutsK k).length:=Wy _ _;have o:(cutsK k).length=(zq k).length:=vO _;have:=vY k;omega
noncomputable def jq (k:List Fg):List Fg:=(zu k).map λs=>⟨[s],qc k s.lo⟩
def ZB{k:List Fg}{f:Fg}(j:f∈jq k):∃s∈zu k,f=⟨[s],qc k s.lo⟩:=by obtain⟨s,hs,e⟩:=wB.1 j;exact⟨s,hs,e.symm⟩
def zfJ{s:Iv}{x:Nat}:mem [s] x=true↔s.lo<=x/\x<=s.hi:=by simp[mem]
def xh(k:List Fg):Prop:=k.Pairwise λf g=>∀x,x<zk->¬(mem f.items x=true/\mem g.items x=true)
def IK.refine{C:Q9}{R:List Nat}{k:List Fg}(hk:IK C R k):∀f∈jq k,WV C R f.vec:=λf j=>by obtain⟨s,_,rfl⟩:=ZB j;exact(hk.at s.lo).1
def Yb{k:List Fg}(h:RightK k):RightK (jq k):=λf u=>by obtain⟨s,hs,rfl⟩:=ZB u;obtain⟨j,o,_⟩:=(yt h).1 s hs;exact⟨qG j o,(h.ik.at s.lo).1.can.right⟩
def zeD{k:List Fg}(h:RightK k):xh (jq k):=by unfold xh jq;rw[uH];refine(yt h).2.imp λhst x _ ⟨h1,h2⟩=>?_;have:=zfJ.1 h1;have:=zfJ.1 h2;omega
def JJ{k:List Fg}(h:RightK k){V:Nat->List En}{P:Nat->Nat->Nat->Bool}(B:∀x r c,x<zk->c<zk->mem (zT (V x) r) c=P x r c)(hs:∀x y r c,qX k x y=true->P x r c=P y r c)(F:∀x r c,zU k x=[]->P x r c=false)
 {i r c:Nat} (hi:i<zk) (C:c<zk):hasK ((zu k).map λs=>⟨[s],V s.lo⟩) i r c=P i r c:=by
 rw[Wz,km];constructor
 .rintro⟨f,G,u,o⟩;obtain⟨s,j,rfl⟩:=wB.1 G;obtain⟨I,J,w,_⟩:=(yt h).1 s j;have A:=zfJ.1 u;rw[B s.lo r c a8 C,hs _ _ _ _ (jR h w A.1 A.2)]at o;exact o
 .intro E;have H:0<(zU k i).length:=Nat.pos_of_ne_zero λe=>by have:=F i r c (wW.1 e);rw[E]at this;cases this
  obtain⟨s,j,u,o⟩:=Xj h hi H;obtain⟨I,J,w,_⟩:=(yt h).1 s j;refine⟨_,wB.2 ⟨s,j,rfl⟩,zfJ.2 ⟨u,o⟩,?_⟩;rw[B s.lo r c a8 C,hs _ _ _ _ (jR h w u o)];exact E
def zc0{k:List Fg}{x:Nat}(r c:Nat)(h:zU k x=[]):hasK k x r c=false:=by rw[<-jh];unfold zU at h;rw[List.map_eq_nil_iff.1 h];rfl
def zfp{k:List Fg}(h:RightK k){i r c:Nat}(hi:i<zk)(j:c<zk):hasK (jq k) i r c=hasK k i r c:=
 JJ h (V:=qc k) (P:=hasK k) (λx r c _ j=>(h.ik.at x).2 r c j) (λ_ _ r c h=>Yt h r c) (λ_ r c h=>zc0 r c h) hi j
end
section
open Go.Maps
attribute [-go_sem] z7
def MapS(D:DV)(S:List Nat):Prop:=IsMap D/\∀r,has D (kR r)=decide (r∈S)
def MapS.nil:MapS (.map []) []:=⟨⟨[],rfl⟩,λr=>by simp[has]⟩
def MapS.put{D:DV}{S:List Nat}(h:MapS D S)(r:Nat)(v:DV):MapS (D.put (kR r) v) (S++[r]):=by
 refine⟨h.1.put _ _,λs=>?_⟩;by_cases e:s=r
 .subst e;rw[TV h.1 (Qc _)];simp
 .rw[TR (λh=>e (Xa h)),h.2 s];simp[e]
def MI(B:Nat)(w:World)(S:List Nat):Prop:=∃D,w.ownsMap xT 36 rV B S.length D/\MapS D S
def MI.made(w:World):MI w.heap.size (w.alloc (.map #[] 0)) []:=⟨_,TN _ _ _ _,MapS.nil⟩
def MI.keep{B:Nat}{w w':World}{S:List Nat}(h:MI B w S)(hb:w'.heap[B]?=w.heap[B]?):MI B w' S:=by obtain⟨D,j,o⟩:=h;exact⟨D,yg j hb,o⟩
def MI.lt{B:Nat}{w:World}{S:List Nat}(h:MI B w S):B<w.heap.size:=by obtain⟨D,j,_⟩:=h;exact j.lt
def xe{w:World}{C:Array Oper}{rest:List Oper}{o:Oper}{a:Act}{Q:Exit->Act->World->Prop}(L:o.guard=none)(m x v:Operand)
 (j:o.op=.mapUpdate 258 m x v\/o.op=.insert 258 m x v) {B:Nat} {S:List Nat} (G:a.eval m=.map (some B)) (h:MI B w S) (M:S.length<maxLen) {r:Nat} (N:r<zk) (H:a.eval x=.int .u64 (r:Nat))
 (F:∀y,MI B y (S++[r])->w.grownBy y (some B)->wpList xT C Q rest (a.put o.dst undef) y):wpList xT C Q (o::rest) a w:=by
 obtain⟨D,K,E⟩:=h;refine TU L λO A=>?_;obtain⟨y,u,I,J⟩:=K.update vF underlying258 M (Zq N) (val:=a.eval v) rfl;unfold Oper.wp;rcases j with j|j
 .simp[execOp,j,G,H,u,Result.andThen];exact A _ _ (F y ⟨_,dJ I,E.put r _⟩ J)
 .simp[execOp,j,G,H,u,Result.andThen];exact A _ _ (F y ⟨_,dJ I,E.put r _⟩ J)
def rdG(y:Nat)(w:World)(b o:Nat)(f:Fg):Prop:=(∃j,w.cell? ⟨b,o,none⟩=some j/\RdR 0 y w j f.items)/\∃u n c,w.cell? ⟨b,o+1,none⟩=some (.slice u n c)
def ze3{D:Qk}{w:World}{x:Value}{k:List Fg}(h:Dat D w x (kp k))(E:∀b o,D b o->b<w.heap.size)(hb:RightK k):RdSl 2 (rdG w.heap.size) 0 w.heap.size w x k:=by
 unfold kp at h;generalize F:k.map fc=es at h;cases h with
 |sl a cap sz es o b off u hc hz hm ha hsz hd hx=>have G:es.length=k.length:=(by rw[<-F];simp);refine⟨a,cap,by rw[G],a8,hm,λB=>?_⟩;have y:0<k.length:=wV.2 B;have g:∀i (h:i<k.length),es[i]?=some (fc k[i]):=λi h=>(by rw[<-F];exact xo h);obtain rfl:2=sz:=hsz 0 _ (g 0 y);have A:es≠[]:=(by intro e;subst e;simp at G;omega);have j:b<w.heap.size:=E _ _ (hd 0 a8).1;refine⟨b,off,ha A,X4 _,j,λi hi=>?_⟩;have J:=hx i _ 0 _ (g i hi) rfl;have e1:=hx i _ 1 _ (g i hi) rfl;have I:=(hd (i*2+0) a8).2.1;have C:=(hd (i*2+1) a8).2.1;obtain⟨L,c,K,M,H,N,q,_⟩:=(Rel.dat (ρ:=λ_=>0) (nb:=0) (show Dat D w (u (i*2+1)) (.sl (k[i].vec.map ec) .sh) from e1)).inv_sl;rw[q]at C;exact⟨⟨_,I,je J E (hb _ (Y1 hi)).1.lt⟩,_,_,_,C⟩
def Ky{k:List Fg}{i:Nat}(hi:i<k.length):CI (k.take (i+1))=CI (k.take i)++z6 k[i].items:=by unfold CI;rw[vj hi,Wl];simp
def zaV{l:List Iv}{j:Nat}(o:j<l.length):z6 (l.take (j+1))=z6 (l.take j)++jQ l[j]:=by unfold z6;rw[vj o,Wl];simp
def ze0{s:Iv}(h:s.hi=zk-1):jQ s=[s.lo]:=by unfold jQ;rw[Vq a8]
def zcz{s:Iv}(h:s.hi<zk-1):jQ s=[s.lo]++[s.hi+1]:=by unfold jQ;rw[vD h];rfl
def zfO(w:World):Calls xT 36 #[.int .u64 18446744073709551615] w λe j=>e=.returned (.tuple #[.int .u64 0,.bool false])/\j=w:=by
 go_enter func36,ntmps36
 go_wp2;all_goals (refine tz (To rfl _ _ _) rfl ?_;refine⟨?_,rfl⟩;simp;try omega)
def zdr(x:Nat)(o:x<18446744073709551615)(w:World):Calls xT 36 #[.int .u64 (x:Nat)] w λe j=>e=.returned (.tuple #[.int .u64 ((x:Int)+1),.bool true])/\j=w:=by
 go_enter func36,ntmps36
 go_wp2;all_goals (refine tz (To rfl _ _ _) rfl ?_;refine⟨?_,rfl⟩;simp;try omega)
def zgc(w:World):Calls xT 176 #[.int .u64 0] w λe j=>e=.returned (.tuple #[.int .u64 0,.bool false])/\j=w:=by
 go_enter func176,ntmps176
 go_wp2;all_goals (refine tz (To rfl _ _ _) rfl ?_;refine⟨?_,rfl⟩;simp;try omega)
def VH(x:Nat)(o:x<18446744073709551615)(w:World):Calls xT 176 #[.int .u64 ((x:Int)+1)] w λe j=>e=.returned (.tuple #[.int .u64 (x:Nat),.bool true])/\j=w:=by
 go_enter func176,ntmps176
 go_wp2;all_goals (refine tz (To rfl _ _ _) rfl ?_;refine⟨?_,rfl⟩;simp;try omega)
def RgS(B r n:Nat)(S:List Nat)(keep:Nat->Bool)(g:Nat)(left:Lit->Bool)(w:World):Prop:=
 ∃D,w.ranges xT 36 rV B r n D left g/\IsMap D/\(∀x,has D (kR x)=(decide (x∈S) && (left (kR x) || keep x)))/\∀x,left (kR x)=true->x∈S
def GotS(S:List Nat)(left:Lit->Bool)(l:List Nat):Prop:=l.Nodup/\∀x,x∈l↔x∈S/\left (kR x)=false
def zay{left:Lit->Bool}{r x:Nat}:(left (kR r) && !(kR r).sameKey (kR x))=(left (kR r) && !decide (r=x)):=by
 have h:(kR r).sameKey (kR x)=decide (r=x):=by simp[kR,Lit.sameKey];omega
 rw[h]
section
variable {B r n g x:Nat}{S:List Nat}{kp:Nat->Bool}{left:Lit->Bool}{w:World}{D:DV}
def RgS.next(o:IsMap D)(u:∀y,has D (kR y)=(decide (y∈S) && (left (kR y) || kp y)))(A:∀y,left (kR y)=true->y∈S)(C:left (kR x)=true)(hk:kp x=true)
 (h:w.ranges xT 36 rV B r n D (λz=>left z && !z.sameKey (kR x)) g):RgS B r n S kp g (λz=>left z && !z.sameKey (kR x)) w:=by
 refine⟨D,h,o,λy=>?_,λy j=>A y ?_⟩
 .dsimp only;rw[u y,zay];by_cases e:y=x
  .subst e;simp[hk]
  .simp[e]
 .dsimp only at j;cases h0:left (kR y)with
  |true=>rfl
  |false=>rw[h0]at j;simp at j
def RgS.del(o:IsMap D)(u:∀y,has D (kR y)=(decide (y∈S) && (left (kR y) || kp y)))(A:∀y,left (kR y)=true->y∈S)(hk:kp x=false)
 (h:w.ranges xT 36 rV B r n (D.del (kR x)) (λz=>(left z && !z.sameKey (kR x)) && !z.sameKey (kR x)) g):RgS B r n S kp g (λz=>left z && !z.sameKey (kR x)) w:=by
 rw[Maps.strike_twice]at h;refine⟨_,h,o.del _,λy=>?_,λy j=>A y ?_⟩
 .dsimp only;rw[zay];by_cases e:y=x
  .subst e;rw[has_del_same];simp[hk]
  .rw[has_del_other (λh=>e (Xa h)),u y];simp[e]
 .dsimp only at j;cases h0:left (kR y)with
  |true=>rfl
  |false=>rw[h0]at j;simp at j
def RgS.keep{w':World}(h:RgS B r n S kp g left w)(hb:w'.heap[B]?=w.heap[B]?)(u:w'.heap[r]?=w.heap[r]?):RgS B r n S kp g left w':=by obtain⟨D,j,o⟩:=h;exact⟨D,yD j hb u,o⟩
def GotS.nil(h:∀y,left (kR y)=true↔y∈S):GotS S left []:=
 ⟨UP,λy=>by
  constructor
  .intro h;cases h
  .rintro⟨o,j⟩;rw[(h y).2 o]at j;cases j⟩
def GotS.push{l:List Nat}(h:GotS S left l)(A:left (kR x)=true)(w:x∈S):GotS S (λz=>left z && !z.sameKey (kR x)) (l++[x]):=by
 refine⟨Uq.2 ⟨h.1,b6,λa u b hb e=>?_⟩,λy=>?_⟩
 .rw[wD]at hb;rw[e,hb]at u;have:=((h.2 x).1 u).2;rw[A]at this;cases this
 .dsimp only;rw[QM,wC,wD,h.2 y];constructor
  .rintro(⟨o,j⟩|rfl)
   .exact⟨o,.inl j⟩
   .exact⟨w,.inr rfl⟩
  .rintro⟨o,j|j⟩
   .exact .inl ⟨o,j⟩
   .exact .inr j
end
def kpB(k:List Fg)(x:Nat):Bool:=decide (x=0) || !decide (zU k (x-1)=zU k x)
def Yd{k:List Fg}(y:RightK k){l:List Nat}(w:l.Pairwise (·<=·))(u:l.Nodup)(o:∀x,x∈l↔x∈0::CI k/\(x=0\/zU k (x-1)≠zU k x)):l=zq k:=by
 have j:YN l:=by refine(List.pairwise_and_iff.2 ⟨w,u⟩).imp ?_;intro a b h;have:=h.1;have:=h.2;omega
 refine jK j (startsK_asc k) λx=>?_;rw[o,zq,Wh,zH,qr,yU];have e1:(k.map Fg.items).flatMap z6=CI k:=by unfold CI;rw[Uc]
 rw[e1];simp only[WH,wG,Wk];refine uT λ_=>or_congr_right ?_;rw[ne_eq,Vp,um]
end
end Go.Proofs.YtmpnbdhadjfbhaaGreatDoor
