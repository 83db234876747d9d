import Derived.Test.YtjdjjlkifdimkaaGreatDoorB11
import Derived.Test.YtjdjjlkifdimkaaGreatDoorB19
set_option maxHeartbeats 16000000
set_option linter.all false
set_option maxRecDepth 100000
namespace Go.Proofs.YtjdjjlkifdimkaaGreatDoor
def Tn:=@Go.results_tmp2
open Go.RowKit
open Go.Proofs.Tryz
open Go.Proofs.Tryz renaming prog->xt
section
open Go.Lib
attribute [-go_sem] z7
def Z9:(xt.info? 50).map (λi=>(i.zero,i.size,i.bytes))=some (some (.agg #[.slice none 0 0,.slice none 0 0]),2,48):=dM
def OwnC(base:Nat)(w:World)(v:Value)(n:Nat)(j:List Value):Prop:=w.ownsRow base 50 2 v n j/\j.length=n*2/\∀u∈j,u.oneCell'=true
def OwnC.cases{base:Nat}{w:World}{v:Value}{n:Nat}{A:List Value}(h:OwnC base w v n A):(v=.slice none 0 0/\n=0/\A=[]) \/
 ∃g j o,v=.slice (some ⟨g,0,none⟩) n j/\base<=g/\g<w.heap.size/\w.heap[g]?=some (.cells o 50 (0,0))/\n<=j/\j<=maxLen/\o.size=j*2/\o.toList.take (n*2)=A:=by
 rcases h.1.2 with⟨u,y⟩|⟨g,j,o,u,y,B,C,E,F,G⟩
 .subst y;exact .inl ⟨u,rfl,wV.1 (by rw[h.2.1])⟩
 .exact .inr ⟨g,j,o,u,y,(XE.1 B).1,B,C,E,F,G⟩
def vI{w:World}{A:Nat}{vt:TypeId}{p q:Value}(y:w.heap[A]?=some (.cells #[p,q] vt (0,0))):∀j u,[p,q][j]?=some u->w.cell? ((⟨A,0,none⟩:Addr).add j)=some u:=λj u o=>by
 match j,o with
 |0,o=>cases o;simp[World.cell?,Addr.add,y]
 |1,o=>cases o;simp[World.cell?,Addr.add,y]
 |j+2,o=>simp at o
def yF{p q:Value}(o:p.oneCell'=true)(w:q.oneCell'=true):∀u∈[p,q],u.oneCell'=true:=λu j=>by
 simp at j;rcases j with rfl|rfl
 .exact o
 .exact w
def run_copy_k{P:Program}(w:World)(H O Q y:TypeId)(b o u C:Nat)(a:Addr)(A F sz:Nat)(B:List Value)
 (N:P.underlying H=some (.slice y)) (hs:(P.info? y).map (·.size)=some sz) (M:B.length=Nat.min A u*sz)
 (E:∀j v,B[j]?=some v->w.cell? (a.add j)=some v) (J:∀j,j<B.length->(w.cell? ⟨b,o+j,none⟩).isSome=true) (K:∀j,j<B.length->w.frozen? ⟨b,o+j,none⟩=false) (I:∀v∈B,v.oneCell'=true) :
 (Builtin.copy_ #[H,O] Q #[.slice (some ⟨b,o,none⟩) u C,.slice (some a) A F]).run P w=.ok (goInt (Nat.min A u)) (w.setCells b o B):=by
 have L:=run_loadCells_list (P:=P) w a B E;have G:=run_storeCells_cells (P:=P) b o B 0 w (dL J) (dL K) I;cases hq:P.info? y with
 |none=>simp[hq]at hs
 |some i=>have hi:i.size=sz:=(by simpa[hq]using hs);simp[Builtin.copy_,tE N,Builtin.lenOf,Builtin.firstCells,sizeOf,typeInfo,hq,hi,<-M,L,G]
def zaF{P:Program}{t j o e e2:TypeId}{b:Option Addr}{n c:Nat}{x:Value}{w:World}(u:P.underlying t=some (.slice e))(y:P.underlying j=some (.slice e2)):(Builtin.append_ #[t,j] o #[.slice b n c,x]).run P w=(Builtin.append_ #[t,t] o #[.slice b n c,x]).run P w:=by simp[Builtin.append_,tE u,tE y]
def yR{P:Program}{w:World}{I:Array Oper}{rest:List Oper}{o:Oper}{a:Act}{Q:Exit->Act->World->Prop}(O:o.guard=none)(s x:Operand)(t X e2:TypeId)
 (ho:o.op=.call { callee:=.builtin .append,args:=#[s,x],argTypes:=#[t,X] }) (T:P.underlying X=some (.slice e2))
 (base:Nat) (e:TypeId) (i:TypeInfo) (z:Value) (size A:Nat) (ht:P.underlying t=some (.slice e)) (hi:P.info? e=some i) (hz:i.zero=some z)
 (G:i.size=size) (N:i.bytes=A) (hzs:z.cells.size=size) (S:0<size)
 (v:Value) (n:Nat) (U:List Value) (hs:a.eval s=v) (C:w.ownsRow base e size v n U)
 (L:Addr) (m c:Nat) (y:List Value) (hx:a.eval x=.slice (some L) m c) (hl:y.length=m*size) (F:∀j u,y[j]?=some u->w.cell? (L.add j)=some u) (Y:∀u∈y,u.oneCell'=true)
 (M:n+m<=maxLen) (B:(n+m)*A<=140737488355328) (E:base<=w.heap.size)
 (h:∀H J,J.ownsRow base e size H (n+m) (U++y)->w.grownBy J v.ownBlock->(H.ownBlock=v.ownBlock\/H.ownBlock=some w.heap.size)->wpList P I Q rest (a.put o.dst H) J) :
 wpList P I Q (o::rest) a w:=by
 refine TT O λK hK=>?_;obtain⟨H,J,V,Z,h3,_,h5⟩:=Te (P:=P) w base t o.type e i z size A ht hi hz G N hzs S v n U C L m c y hl F Y M B E;obtain⟨b0,n0,c0,rfl⟩:∃b n c,v=.slice b n c:=by rcases C.2 with⟨h,_⟩|⟨_,_,_,h,_⟩<;>exact⟨_,_,_,h⟩
 rw[<-zaF ht T]at V;unfold Oper.wp execOp;simp only[ho,resolve,invoke,builtin,tC,tG,tw,uh,Wx,W6,hs,hx,V];exact hK _ _ (h H J Z h3 h5)
def zc2(base K:Nat)(vt:TypeId)(w:World)(v:Value)(n:Nat)(L:List Value)(p q:Value)(hp:p.oneCell'=true)(hq:q.oneCell'=true)(j:OwnC base w v n L)(Q:w.heap[K]?=some (.cells #[p,q] vt (0,0)))(hl:n<=1073741824)(y:base<=w.heap.size):
 Calls xt 188 #[v,.int .i64 (n:Nat),.slice (some ⟨K,0,none⟩) 1 1] w λe B=>∃o,e=.returned o/\OwnC base B o (n+1) (L++[p,q])/\w.grownBy B v.ownBlock/\(o.ownBlock=v.ownBlock\/o.ownBlock=some w.heap.size):=by
 obtain⟨V,F,H,I,J⟩:=tN Z9;have U:=vI Q;have A:=yF hp hq;have fin:∀o B,B.ownsRow base 50 2 o (n+1) (L++[p,q])->OwnC base B o (n+1) (L++[p,q]):=λo B h=>⟨h,by have:=j.2.1;simp;omega,λu G=>by
  rcases wA.1 G with G|G
  .exact j.2.2 u G
  .exact A u G⟩
 have S:=qL j.1;rcases j.cases with⟨rfl,rfl,rfl⟩|⟨g,M,X,rfl,Y,Z,ab,ac,N,O,P⟩
 .clear j;go_enter func188,ntmps188
  go_wp2_with (at_builtin;refine yR rfl _ _ 41 40 50 rfl underlying40 base 50 V (.agg #[.slice none 0 0,.slice none 0 0]) 2 48 underlying41 F H I J rfl b9 _ _ _ rfl S.o ⟨K,0,none⟩ 1 1 [p,q] rfl rfl U A (by simp[maxLen]) b7 y ?_;intro o B ho E C)
  go_ret;exact⟨o,rfl,fin o B ho,E,C⟩
 .unfold maxLen at N;have T:M<=9223372036854775807:=a9;clear j P O;go_enter func188,ntmps188
  go_wp2_with (at_builtin;refine yR rfl _ _ 41 40 50 rfl underlying40 base 50 V (.agg #[.slice none 0 0,.slice none 0 0]) 2 48 underlying41 F H I J rfl b9 _ _ _ rfl S.o ⟨K,0,none⟩ 1 1 [p,q] rfl rfl U A dF a9 y ?_;intro o B ho E C)
  all_goals (go_ret;exact⟨o,rfl,fin o B ho,E,C⟩)
def zS:Value:=.slice none 0 0
def zgF(n:Nat):(Builtin.zeroCells (Value.agg #[.slice none 0 0,.slice none 0 0]).cells n).toList=List.replicate (n*2) zS:=by
 apply List.ext_getElem
 .simp[Builtin.zeroCells,Value.cells]
 .intro i j o;rcases UL i with h|h<;>simp[Builtin.zeroCells,Value.cells,h,zS]
def za6{xs ms:List Value}{u:Value}{i:Nat}(hi:i<=xs.length):kF (kF (xs.take i++List.replicate (xs.length+ms.length-i) u) i ms) (i+ms.length) (xs.drop i)=xs.take i++ms++xs.drop i:=by
 have j:(xs.take i).length=i:=b6
 have e1:=kG (xs.take i) (List.replicate ms.length u) (List.replicate (xs.length-i) u) ms b7 j.symm;have e2:=kG (xs.take i++ms) (List.replicate (xs.length-i) u) [] (xs.drop i) b7 (i:=i+ms.length) b6;rw[show xs.length+ms.length-i=ms.length+(xs.length-i) by omega,<-List.replicate_append_replicate,<-wQ,e1];simpa using e2
def za7{xs ms us:List Value}{i:Nat}(hi:i<=xs.length)(o:us.length=ms.length):kF (kF (xs++us) (i+ms.length) (xs.drop i)) i ms=xs.take i++ms++xs.drop i:=by
 rw[jt (xs.drop i) _ _ b6];have j:i+ms.length+(xs.drop i).length=(xs++us).length:=b6
 rw[j,uM,wX];rw[jt ms _ _ b6];have ht:((xs++us).take (i+ms.length)).length=i+ms.length:=b6
 rw[Wo (by rw[ht];omega),List.take_take,WY a9,Wo hi];rw[Uz,ht,UK,Wh,UY a9,Y1]
def X6{base:Nat}{w:World}{v:Value}{n i:Nat}{o y:List Value}(hi:i<=n)(E:o.length=n*2)(C:y.length=2)(A:∀u∈o,u.oneCell'=true)(B:∀u∈y,u.oneCell'=true)
 (h:w.ownsRow base 50 2 v (n+1) (o.take (i*2)++y++o.drop (i*2))):OwnC base w v (n+1) (o.take (i*2)++y++o.drop (i*2)):=
 ⟨h,b6,λu j=>by
  rcases wA.1 j with j|j
  .rcases wA.1 j with j|j
   .exact A u (WE j)
   .exact B u j
  .exact A u (Ws j)⟩
def zc3(base P:Nat)(vt:TypeId)(w:World)(g o n:Nat)(A:List Value)(p q:Value)(i:Nat)(hp:p.oneCell'=true)(hq:q.oneCell'=true)(hi:i<n)(C:OwnC base w (.slice (some ⟨g,0,none⟩) n o) n A)(ab:o<n+1)(ah:w.heap[P]?=some (.cells #[p,q] vt (0,0)))(hl:n<=1073741824)(Z:base<=w.heap.size):
 Calls xt 188 #[.slice (some ⟨g,0,none⟩) n o,.int .i64 (i:Nat),.slice (some ⟨P,0,none⟩) 1 1] w λe w'=>∃v',e=.returned v'/\OwnC base w' v' (n+1) (A.take (i*2)++[p,q]++A.drop (i*2))/\w.grownBy w' none/\v'.ownBlock=some w.heap.size:=by
 obtain⟨i0,ao,aD,hzs,av⟩:=tN Z9;have K:A.length=n*2:=C.2.1;have I:=C.2.2;have au:=vI ah;have aC:P<w.heap.size:=(XE.1 ah).1;have aA:g<w.heap.size:=(C.1.lt g rfl).2;have aM:n<=o:=by
  rcases C.cases with⟨h,_⟩|⟨g',aF,_,h,_,_,_,h4,_⟩
  .cases h
  .cases h;omega
 have hg:∀j v,A[j]?=some v->w.cell? ⟨g,j,none⟩=some v:=λj v F=>by have:=tH C.1 (g:=g) rfl j v F;rw[zh,wk]at this;exact this
 have ar:(n:Int)+1-(i:Int)=((n+1-i:Nat):Int):=a9
 have ac:i+(n+1-i)=n+1:=a9
 have O:(Builtin.firstCells i0.size i (.slice (some ⟨g,0,none⟩) i o)).run xt w.drew=.ok (A.take (i*2)).toArray w.drew:=by
  rw[hzs];refine TK w.drew 2 i ⟨g,0,none⟩ i o (A.take (i*2)) (by rw[Wb];omega) (λj v F=>?_);rw[wm]at F;split at F
  .have:=hg j v F;rw[zh,wk];exact this
  .cases F
 have af:∀J,(Builtin.append_ #[41,3] J #[.slice (some ⟨g,0,none⟩) i o,.int .i64 ((n:Int)+1-(i:Int))]).run xt w =
  .ok (.slice (some ⟨w.heap.size,0,none⟩) (n+1) (grownCap w (n+1) o 50)) (w.drew.alloc (.cells ((A.take (i*2)).toArray++Builtin.zeroCells (Value.agg #[.slice none 0 0,.slice none 0 0]).cells (n+1-i)++Builtin.zeroCells (Value.agg #[.slice none 0 0,.slice none 0 0]).cells (grownCap w (n+1) o 50 - (n+1))) 50)):=λJ=>by
  have h:=TO w 41 3 J 50 i0 _ .i64 .i64 underlying41 underlying3 ao aD (some ⟨g,0,none⟩) i o (A.take (i*2)) O (n+1-i) a9 a9 a9 a9 (by rw[av];omega) (by rw[av,ac];exact T0 ab a9);rw[ac]at h;rw[ar];exact h
 obtain⟨G,hG⟩:∃G,G=grownCap w (n+1) o 50 := ⟨_,rfl⟩;have ay:n+1<=G:=by rw[hG];exact TH w _ _ _
 have ai:G<=maxLen:=by rw[hG];exact Tz w _ _ _ dF
 obtain⟨R,hR⟩:∃R:Array Value,R=(A.take (i*2)).toArray++Builtin.zeroCells (Value.agg #[.slice none 0 0,.slice none 0 0]).cells (n+1-i)++Builtin.zeroCells (Value.agg #[.slice none 0 0,.slice none 0 0]).cells (G-(n+1)):=⟨_,rfl⟩;rw[<-hG,<-hR]at af;have aB:(A.take (i*2)).length=i*2:=by rw[Wb];omega
 have X:R.toList=(A.take (i*2)++List.replicate (A.length+[p,q].length-i*2) zS)++List.replicate ((G-(n+1))*2) zS:=by rw[hR];simp only[WT,zgF,K];congr 3;simp;omega
 have az:R.size=G*2:=by have:R.toList.length=G*2:=(by rw[X];simp;omega);simpa using this
 obtain⟨B,E⟩:=xm (w.drew.alloc (.cells R 50));have o1:B.ownsRow base 50 2 (.slice (some ⟨w.heap.size,0,none⟩) (n+1) G) (n+1) (A.take (i*2)++List.replicate (A.length+[p,q].length-i*2) zS):=by
  refine⟨b6,.inr ⟨w.heap.size,G,R,rfl,Z,?_,ay,ai,a9,?_⟩⟩
  .rw[E];exact tl w.drew _
  .rw[X,Wo b6,wj b6]
 obtain⟨o2,U⟩:=z9 [p,q] (i*2) _ _ o1;obtain⟨o3,g3⟩:=z9 (A.drop (i*2)) (i*2+2) ((B.setCells w.heap.size (i*2) [p,q]).drew) _ o2;have eg:=za6 (xs:=A) (ms:=[p,q]) (u:=zS) (i:=i*2) a9;rw[show i*2+[p,q].length=i*2+2 from rfl]at eg;rw[eg]at o3;have T:w.grownBy B none:=by rw[E];exact⟨rfl,rfl,rfl,b7,λk hk _=>tr w.drew _ _ hk⟩
 have S:(i+1)*2=i*2+2:=a9
 have M:w.grownBy (((B.setCells w.heap.size (i*2) [p,q]).drew).setCells w.heap.size (i*2+2) (A.drop (i*2))) none:=by refine⟨g3.os.trans (U.os.trans T.os),g3.tape.trans (U.tape.trans T.tape),g3.output.trans (U.output.trans T.output),VS T.size (VS U.size g3.size),λk hk _=>?_⟩;have aq:k<B.heap.size:=vw hk T.size;have L:some k≠some w.heap.size:=λe=>(by cases e;omega);rw[g3.block k (vw aq U.size) L];show (B.setCells w.heap.size (i*2) [p,q]).heap[k]?=_;rw[U.block k aq L,T.block k hk b7]
 have OF:=qL (X6 a9 K rfl I (yF hp hq) o3);have GA:=qL M;clear o3 M o1 o2;rw[<-E]at af;have hN:∀j,j<n*2+2->(B.cell? ⟨w.heap.size,j,none⟩).isSome=true:=λj F=>by rw[E,tV (w:=w.drew) R _ w.heap.size j rfl,Wc a9];rfl
 have V:∀j,B.frozen? ⟨w.heap.size,j,none⟩=false:=λj=>by rw[E];exact TV (w:=w.drew) R _ w.heap.size j rfl
 have aj:∀j v,w.cell? ⟨g,j,none⟩=some v->B.cell? ⟨g,j,none⟩=some v:=λj v h=>by rw[E,Tl (w:=w.drew) _ g j aA];exact h
 have ak:∀j v,w.cell? ⟨P,j,none⟩=some v->B.cell? ⟨P,j,none⟩=some v:=λj v h=>by rw[E,Tl (w:=w.drew) _ P j aC];exact h
 have ag:(xt.info? 50).map (·.size)=some 2:=by rw[ao];simp[hzs]
 have ad:Nat.min 1 (n+1-i)=1:=by simp only[Uj];split<;>omega
 have ae:Nat.min (n-i) (n-i)=n-i:=Nat.min_self _;have an:(A.drop (i*2)).length=(n-i)*2:=by rw[W7,K];omega
 have am:∀(W:World),(∀y,W.cell? y=B.cell? y)->(∀y,W.frozen? y=B.frozen? y)->∀J Q,(Builtin.copy_ #[41,40] J #[.slice (some ⟨w.heap.size,i*2,none⟩) (n+1-i) Q,.slice (some ⟨P,0,none⟩) 1 1]).run xt W=.ok (goInt 1) (W.setCells w.heap.size (i*2) [p,q]):=λW H Y J Q=>by
  have h:=run_copy_k W 41 40 J 50 w.heap.size (i*2) (n+1-i) Q ⟨P,0,none⟩ 1 1 2 [p,q] underlying41 ag (by rw[ad];rfl)
   (λj v F=>by have:=au j v F;rw[zh]at this;rw[H,zh];exact ak _ v this)
   (λj F=>by rw[H];simp at F;exact hN _ a9) (λj F=>by rw[Y];exact V _) (yF hp hq)
  rw[ad]at h;exact h
 have L:g≠w.heap.size:=a9
 have N:∀(W:World),(∀y,W.cell? y=(B.setCells w.heap.size (i*2) [p,q]).cell? y)->(∀y,W.frozen? y=(B.setCells w.heap.size (i*2) [p,q]).frozen? y)->∀J Q sc,(Builtin.copy_ #[41,41] J #[.slice (some ⟨w.heap.size,(i+1)*2,none⟩) (n-i) Q,.slice (some ⟨g,i*2,none⟩) (n-i) sc]).run xt W=.ok (goInt ((n-i:Nat):Int)) (W.setCells w.heap.size (i*2+2) (A.drop (i*2))):=λW H Y J Q sc=>by
  have h:=run_copy_k W 41 41 J 50 w.heap.size ((i+1)*2) (n-i) Q ⟨g,i*2,none⟩ (n-i) sc 2 (A.drop (i*2)) underlying41 ag (by rw[an,ae])
   (λj v F=>by
     rw[H,zh,Tg _ _ _ _ _ (λh _=>absurd h L)];exact aj _ v (hg (i*2+j) v (by rwa[Wi]at F)))
   (λj F=>by rw[H];exact isSome_setCells _ _ _ _ (λt ht=>hN _ (by simp at ht;omega)) _ (hN _ a9))
   (λj F=>by rw[Y,Tm];exact V _) (λv hv=>I v (Ws hv))
  rw[ae,S]at h;rw[S];exact h
 have aw:∀y,((B.setCells w.heap.size (i*2) [p,q]).drew).cell? y=(B.setCells w.heap.size (i*2) [p,q]).cell? y:=λy=>rfl;have ax:∀y,((B.setCells w.heap.size (i*2) [p,q]).drew).frozen? y=(B.setCells w.heap.size (i*2) [p,q]).frozen? y:=λy=>rfl;have aP:¬((i:Int)=(n:Int)):=a9
 have aQ:(o:Int)<(n:Int)+1:=a9
 unfold maxLen at ai;have aH:¬(G=i):=a9
 have aG:¬(G=i+1):=a9
 have aK:¬(o=i):=a9
 have aO:IntKind.i64.wrap ((i:Int)+1)=(i:Int)+1:=by rw[Tv];omega
 have aI:(0:Int)<=(i:Int)+1:=a9
 have aL:i<=n:=a9
 have aN:((i:Int)+1).toNat=i+1:=a9
 have aJ:(i:Int)<=(n:Int):=a9
 clear ar ac O hG X hR az C hg hN V aj ak I K au ah aB an T U g3 E S ad ae ag;go_enter func188,ntmps188
 go_wp2_with (first
  |(at_builtin;refine Lib.wpList_append_run _ rfl _ _ _ _ rfl _ _ rfl rfl _ _ (af _) ?_)
  |(at_builtin;refine wpList_copy_runI _ rfl _ _ 41 40 rfl _ _ rfl rfl (am _ (λ_=>rfl) (λ_=>rfl) _ _) ?_)
  |(at_builtin;refine wpList_copy_runI _ rfl _ _ 41 41 rfl _ _ rfl rfl (N _ (λ_=>rfl) (λ_=>rfl) _ _ _) ?_))
 have aE:xt.follows .mixedOrders=true:=dM
 go_region_law_o (refine step_copy_runI rfl _ _ 41 41 rfl (.slice (some ⟨w.heap.size,(i+1)*2,none⟩) (n-i) (G-(i+1))) (.slice (some ⟨g,i*2,none⟩) (n-i) (o-i)) dK dK (N _ aw ax _ (G-(i+1)) (o-i)) ?_)
 go_wp2;refine tx (tI rfl _ _ _) rfl ?_;exact⟨_,rfl,OF.o,GA.o,rfl⟩
def JK(base K:Nat)(vt:TypeId)(w:World)(g o n:Nat)(C:List Value)(p q:Value)(i:Nat)(hp:p.oneCell'=true)(hq:q.oneCell'=true)(hi:i<n)(B:OwnC base w (.slice (some ⟨g,0,none⟩) n o) n C)(Y:n+1<=o)(J:w.heap[K]?=some (.cells #[p,q] vt (0,0)))(aj:K≠g)(hl:n<=1073741824):
 Calls xt 188 #[.slice (some ⟨g,0,none⟩) n o,.int .i64 (i:Nat),.slice (some ⟨K,0,none⟩) 1 1] w λe w'=>∃v',e=.returned v'/\OwnC base w' v' (n+1) (C.take (i*2)++[p,q]++C.drop (i*2))/\w.grownBy w' (some g)/\v'.ownBlock=some g:=by
 obtain⟨i0,aw,aH,hzs,aJ⟩:=tN Z9;have L:C.length=n*2:=B.2.1;have I:=B.2.2;have ak:=vI J;obtain⟨A,au,H,N,S,ao⟩:∃A,base<=g/\w.heap[g]?=some (.cells A 50 (0,0))/\o<=maxLen/\A.size=o*2/\A.toList.take (n*2)=C:=by
  rcases B.cases with⟨h,_⟩|⟨g',az,A,h,h1,_,h3,_,h5,h6,h7⟩
  .cases h
  .cases h;exact⟨A,h1,h3,h5,h6,h7⟩
 obtain⟨us,ac⟩:=xm ((A.toList.drop (n*2)).take 2);have ab:us.length=[p,q].length:=by rw[ac];simp;omega
 have o0:w.drew.ownsRow base 50 2 (.slice (some ⟨g,0,none⟩) (n+1) o) (n+1) (C++us):=by refine⟨by rw[wi,ab,L];simp;omega,.inr ⟨g,o,A,rfl,au,H,Y,N,a9,?_⟩⟩;rw[show (n+1)*2=n*2+2 by omega,List.take_add,ao,ac]
 obtain⟨o1,g1⟩:=z9 (C.drop (i*2)) (i*2+2) _ _ o0;obtain⟨o2,g2⟩:=z9 [p,q] (i*2) _ _ o1;have eg:=za7 (xs:=C) (ms:=[p,q]) (us:=us) (i:=i*2) a9 ab;rw[show i*2+[p,q].length=i*2+2 from rfl]at eg;rw[eg]at o2;have g0:w.grownBy w.drew (some g):=⟨rfl,rfl,rfl,Zp _,λ_ _ _=>rfl⟩;have OF:=qL (X6 a9 L rfl I (yF hp hq) o2);have GA:=qL (yn g0 (yn g1 g2));have u:∀j,j<o*2->(w.cell? ⟨g,j,none⟩).isSome=true:=λj E=>by simp[World.cell?,H,S,E]
 have U:∀j,w.frozen? ⟨g,j,none⟩=false:=λj=>by simp[World.frozen?,H]
 have hg:∀j v,C[j]?=some v->w.cell? ⟨g,j,none⟩=some v:=λj v E=>by have:=tH B.1 (g:=g) rfl j v E;rw[zh,wk]at this;exact this
 have am:w.shape? K=some (vt,2):=by simp[World.shape?,J]
 have an:w.shape? g=some (50,o*2):=by simp[World.shape?,H,S]
 have ah:w.frozen? ⟨K,0,none⟩=false:=by simp[World.frozen?,J]
 have ai:w.frozen? ⟨K,2,none⟩=false:=by simp[World.frozen?,J]
 have Z:(xt.info? 50).map (·.size)=some 2:=by rw[aw];simp[hzs]
 have ax:∀lb cb,(callFunc 212 #[.slice (some ⟨K,0,none⟩) 1 1,.slice (some ⟨g,(i+1)*2,none⟩) lb cb]).run xt w=.ok (.value (.bool false)) w:=λlb cb=>by
  rw[tK func212 dM dM dM (e:=Extern.SlicesOverlaps.overlaps #[40,40] #[4]) dM,
   TW w 40 4 50 underlying40 2 (λw=>dM) ⟨K,0,none⟩ ⟨g,(i+1)*2,none⟩ 1 1 lb cb aj vt 50 2 (o*2) am an a9 ah ai]
  rfl
 have T:(C.drop (i*2)).length=(n-i)*2:=by rw[W7,L];omega
 have V:Nat.min (n+1-i) (n-i)=n-i:=by simp only[Uj];split<;>omega
 have X:Nat.min 1 (n+1-i)=1:=by simp only[Uj];split<;>omega
 have Q:(i+1)*2=i*2+2:=a9
 have G:∀M P sc,(Builtin.copy_ #[41,41] M #[.slice (some ⟨g,(i+1)*2,none⟩) (n-i) P,.slice (some ⟨g,i*2,none⟩) (n+1-i) sc]).run xt w.drew=.ok (goInt ((n-i:Nat):Int)) (w.drew.setCells g (i*2+2) (C.drop (i*2))):=λM P sc=>by
  have h:=run_copy_k w.drew 41 41 M 50 g ((i+1)*2) (n-i) P ⟨g,i*2,none⟩ (n+1-i) sc 2 (C.drop (i*2)) underlying41 Z (by rw[T,V])
   (λj v E=>by rw[zh];exact hg (i*2+j) v (by rwa[Wi]at E))
   (λj E=>u _ a9) (λj E=>U _) (λv hv=>I v (Ws hv))
  rw[V,Q]at h;rw[Q];exact h
 obtain⟨W1,F⟩:=xm (w.drew.setCells g (i*2+2) (C.drop (i*2)));have O:∀k,k<o*2->(W1.cell? ⟨g,k,none⟩).isSome=true:=λk hk=>by rw[F];exact isSome_setCells g (C.drop (i*2)) (i*2+2) w.drew (λj E=>u _ (by rw[T]at E;omega)) k (u k hk)
 have ag:∀(W:World),(∀y,W.cell? y=W1.cell? y)->(∀y,W.frozen? y=W1.frozen? y)->∀M P,(Builtin.copy_ #[41,40] M #[.slice (some ⟨g,i*2,none⟩) (n+1-i) P,.slice (some ⟨K,0,none⟩) 1 1]).run xt W=.ok (goInt 1) (W.setCells g (i*2) [p,q]):=λW af ar M P=>by
  have h:=run_copy_k W 41 40 M 50 g (i*2) (n+1-i) P ⟨K,0,none⟩ 1 1 2 [p,q] underlying41 Z (by rw[X];rfl)
   (λj v E=>by
     rw[af,F,Tg g _ _ _ _ (λh _=>absurd h (by rw[zh];exact aj))];exact ak j v E)
   (λj E=>by rw[af];simp at E;exact O _ a9) (λj E=>by rw[ar,F,Tm];exact U _) (yF hp hq)
  rw[X]at h;exact h
 rw[<-F]at G;have aq:=qL F;have aI:¬((i:Int)=(n:Int)):=a9
 unfold maxLen at N;have aG:IntKind.i64.wrap ((i:Int)+1)=(i:Int)+1:=by rw[Tv];omega
 have aA:(0:Int)<=(i:Int)+1:=a9
 have aE:i<=n:=a9
 have aF:((i:Int)+1).toNat=i+1:=a9
 have aB:¬(o=i+1):=a9
 have aC:(i:Int)<=(n:Int)+1:=a9
 have aD:¬(o=i):=a9
 clear o0 o1 o2 g0 g1 g2 eg B u U hg am an ah ai O F T I ak L J H S ao ac ab V X Q Z;go_enter func188,ntmps188
 have av:=λM=>G M (o-(i+1)) (o-i);have ay:xt.follows .mixedOrders=true:=dM
 go_wp2_with (simp only[ax])
 go_region_law_o (refine step_copy_runI rfl _ _ 41 41 rfl _ _ dK dK (G _ _ _) ?_)
 go_wp2_with (first|(at_builtin;refine wpList_copy_runI _ rfl _ _ 41 40 rfl _ _ rfl rfl (ag _ (λ_=>rfl) (λ_=>rfl) _ _) ?_))
 have ae:=OF.o;have ad:=GA.o;rw[<-aq.o]at ae ad;refine tx (tI rfl _ _ _) rfl ?_;exact⟨_,rfl,ae,ad,rfl⟩
def Q1(base E:Nat)(G:TypeId)(w:World)(v:Value)(n:Nat)(C:List Value)(p q:Value)(i:Nat)(M:p.oneCell'=true)(N:q.oneCell'=true)(hi:i<=n)(j:OwnC base w v n C)(B:w.heap[E]?=some (.cells #[p,q] G (0,0)))(L:v.ownBlock≠some E)(K:n<=1073741824)(o:base<=w.heap.size):
 Calls xt 188 #[v,.int .i64 (i:Nat),.slice (some ⟨E,0,none⟩) 1 1] w λe H=>∃u,e=.returned u/\OwnC base H u (n+1) (C.take (i*2)++[p,q]++C.drop (i*2))/\w.grownBy H v.ownBlock/\(u.ownBlock=v.ownBlock\/u.ownBlock=some w.heap.size):=by
 have Q:=j.2.1;by_cases S:i=n
 .subst S;rw[wj a9,wE a9,wX];exact zc2 base E G w v i C p q M N j B K o
 .have F:i<n:=a9;rcases j.cases with⟨_,T,_⟩|⟨g,y,O,rfl,_⟩
  .omega
  .by_cases P:y<n+1
   .refine(zc3 base E G w g y n C p q i M N F j P B K o).mono ?_;rintro e H ⟨u,rfl,I,A,J⟩;exact⟨u,rfl,I,⟨A.os,A.tape,A.output,A.size,λk hk _=>A.block k hk b7⟩,.inr J⟩
   .refine(JK base E G w g y n C p q i M N F j a9 B (λe=>L (by rw[e];rfl)) K).mono ?_;rintro e H ⟨u,rfl,I,A,J⟩;exact⟨u,rfl,I,A,.inl J⟩
end
def OutG(C:xT)(mb base:Nat)(w:World)(v:Value)(o:List Fg):Prop:=
 ∃j,OwnC base w v o.length j/\∀i (h:i<o.length),∃a b,j[i*2]?=some a/\j[i*2+1]?=some b/\Dat (DX C mb w v) w a (rg o[i].items)/\Dat (DX C mb w v) w b (vp o[i].vec)
def OutG.start(C:xT)(j base:Nat)(w:World):OutG C j base w (.slice none 0 0) []:=⟨[],⟨tR _ _ _ _,rfl,b7⟩,λi h=>absurd h b7⟩
def OutG.owns{C:xT}{u base:Nat}{w:World}{v:Value}{o:List Fg}(h:OutG C u base w v o):∀k,v.ownBlock=some k->base<=k/\k<w.heap.size:=by obtain⟨y,j,_⟩:=h;exact j.1.lt
def OutG.shape{C:xT}{G base:Nat}{w:World}{v:Value}{o:List Fg}(h:OutG C G base w v o):∃u j,v=.slice u o.length j/\o.length<=j/\j<=maxLen:=by
 obtain⟨H,B,_⟩:=h;rcases B.cases with⟨rfl,A,_⟩|⟨g,j,y,rfl,_,_,_,E,F,_⟩
 .exact⟨none,0,by rw[A],a9,b9⟩
 .exact⟨_,j,rfl,E,F⟩
def OwnC.keep{base:Nat}{w w':World}{v:Value}{n:Nat}{xs:List Value}(h:OwnC base w v n xs)(hb:∀k,v.ownBlock=some k->w'.heap[k]?=w.heap[k]?):OwnC base w' v n xs:=by
 refine⟨⟨h.1.1,?_⟩,h.2⟩;rcases h.1.2 with h|⟨g,j,o,e,y,u,r⟩
 .exact .inl h
 .exact .inr ⟨g,j,o,e,y,(hb g (by rw[e];rfl)).trans u,r⟩
def OutG.keep{C:xT}{u base:Nat}{w w':World}{v:Value}{o:List Fg}(h:OutG C u base w v o)(hs:w.heap.size<=w'.heap.size)(hb:∀k,k<w.heap.size->w'.heap[k]?=w.heap[k]?):OutG C u base w' v o:=by obtain⟨xs,j,y⟩:=h;refine⟨xs,j.keep λk hk=>hb k (j.1.lt k hk).2,λi hi=>?_⟩;obtain⟨a,b,c,d,e,f⟩:=y i hi;exact⟨a,b,c,d,DX.keep e hs λk hk _=>hb k hk,DX.keep f hs λk hk _=>hb k hk⟩
def DX.grown{C:xT}{u:Nat}{w A:World}{v y x:Value}{p:PV}(h:Dat (DX C u w v) w x p)(F:∀b o,C b o->b<u)(G:u<w.heap.size)(B:w.grownBy A v.ownBlock)(j:y.ownBlock=v.ownBlock\/y.ownBlock=some w.heap.size):Dat (DX C u A y) A x p:=
 h.mono (λb o h=>⟨h.1.imp id λh=>⟨h.1,vw h.2 B.size⟩,λe=>by
  rcases j with j|j
  .exact h.2 (j.symm.trans e)
  .rw[j]at e;cases e;rcases h.1 with h|h
   .have:=F _ _ h;omega
   .omega⟩) λb o x h E=>(tk (a:=⟨b,o,none⟩) (B.block b (tn w ⟨b,o,none⟩ E) λe=>h.2 e.symm)).trans E
def zeu{D:xT}{w:World}{v:Value}{l:List En}(h:Dat D w v (vp l)):v.oneCell'=true:=by have o:Dat D w v (.sl (l.map ec) .sh):=h;obtain⟨y,j,sz,b,u,f,e1,_⟩:=(Rel.dat (ρ:=λ_=>0) (nb:=0) o).inv_sl;rw[e1];rfl
def OutG.insK{C:xT}{B base:Nat}{w G:World}{v I:Value}{o:List Fg}{f:Fg}{E:List Value}{p q:Value}{i:Nat}(hi:i<=o.length)(P:E.length=o.length*2)
 (J:∀i (h:i<o.length),∃a b,E[i*2]?=some a/\E[i*2+1]?=some b/\Dat (DX C B w v) w a (rg o[i].items)/\Dat (DX C B w v) w b (vp o[i].vec))
 (N:Dat (DX C B w v) w p (rg f.items)) (O:Dat (DX C B w v) w q (vp f.vec)) (u:∀{x:Value}{p:PV},Dat (DX C B w v) w x p->Dat (DX C B G I) G x p)
 (ho:OwnC base G I (o.length+1) (E.take (i*2)++[p,q]++E.drop (i*2))):OutG C B base G I (o.take i++f::o.drop i):=by
 have A:(o.take i++f::o.drop i).length=o.length+1:=b6
 have ht:(E.take (i*2)).length=i*2:=b6
 refine⟨_,by rw[A];exact ho,λj L=>?_⟩;rw[A]at L;rcases WK j i with M|H|K
 .obtain⟨a,b,c,d,e,k⟩:=J j a9;have y:(o.take i++f::o.drop i)[j]=o[j]'a9:=(by rw[uw b6,uI]);rw[y];refine⟨a,b,?_,?_,u e,u k⟩
  .rw[wQ,V1 a9,wm,vj a9];exact c
  .rw[wQ,V1 a9,wm,vj a9];exact d
 .subst H;have y:(o.take j++f::o.drop j)[j]=f:=by rw[Wu (by rw[Wb];exact UE _ _)];simp[WY hi]
  rw[y];refine⟨p,q,?_,?_,u N,u O⟩
  .rw[wQ,V0 a9,ht,UK];rfl
  .rw[wQ,V0 a9,ht,show j*2+1-j*2=1 by omega];rfl
 .obtain⟨a,b,c,d,e,k⟩:=J (j-1) a9;have y:(o.take i++f::o.drop i)[j]=o[j-1]'a9:=(by rw[Wu b6];obtain⟨m,rfl⟩:∃m,j=i+1+m:=⟨j-(i+1),a9⟩;simp only[Wb,WY hi,show i+1+m-i=m+1 by omega,WN,Ur,show i+1+m-1=i+m by omega]);rw[y];have F:(E.take (i*2)++[p,q]).length=i*2+2:=b6;refine⟨a,b,?_,?_,u e,u k⟩
  .rw[V0 a9,F,Wi,show i*2+(j*2-(i*2+2))=(j-1)*2 by omega];exact c
  .rw[V0 a9,F,Wi,show i*2+(j*2+1-(i*2+2))=(j-1)*2+1 by omega];exact d
def OutG.ins{C:xT}{j base:Nat}{w E:World}{v y:Value}{o:List Fg}{f:Fg}{u:List Value}{p q:Value}{i:Nat}(hi:i<=o.length)(I:u.length=o.length*2)
 (F:∀i (h:i<o.length),∃a b,u[i*2]?=some a/\u[i*2+1]?=some b/\Dat (DX C j w v) w a (rg o[i].items)/\Dat (DX C j w v) w b (vp o[i].vec))
 (J:Dat (DX C j w v) w p (rg f.items)) (K:Dat (DX C j w v) w q (vp f.vec)) (G:∀b o,C b o->b<j) (A:j<w.heap.size)
 (ho:OwnC base E y (o.length+1) (u.take (i*2)++[p,q]++u.drop (i*2))) (H:w.grownBy E v.ownBlock) (B:y.ownBlock=v.ownBlock\/y.ownBlock=some w.heap.size):OutG C j base E y (o.take i++f::o.drop i):=
 OutG.insK hi I F J K (λh=>DX.grown h G A H B) ho
def DX.new{C:xT}{A:Nat}{w u:World}{v B x:Value}{p:PV}(h:Dat (DX C A w v) w x p)(E:∀b o,C b o->b<w.heap.size)(hb:Below w.heap.size w u)(j:∀k,B.ownBlock=some k->w.heap.size<=k):Dat (DX C A u B) u x p:=
 h.mono (λb o h=>⟨h.1.imp id λh=>⟨h.1,vw h.2 hb.size⟩,λe=>by
  have:=j b e;rcases h.1 with h|h
  .have:=E _ _ h;omega
  .omega⟩) λb o x _ y=>(tk (a:=⟨b,o,none⟩) (hb.block b (tn w ⟨b,o,none⟩ y))).trans y
def OutG.set{C:xT}{H base g:Nat}{w:World}{y:Nat}{o:List Fg}{l:List Iv}{E:Value}{i:Nat}(h:OutG C H base w (.slice (some ⟨g,0,none⟩) o.length y) o)(hi:i<o.length)(N:Dat (DX C H w (.slice (some ⟨g,0,none⟩) o.length y)) w E (rg l))(O:0<y):
 OutG C H base (w.setCell ⟨g,i*2,none⟩ E) (.slice (some ⟨g,0,none⟩) o.length y) (o.take i++⟨l,o[i].vec⟩::o.drop (i+1)):=by
 obtain⟨X,I,Q⟩:=h;have A:(o.take i++(⟨l,o[i].vec⟩:Fg)::o.drop (i+1)).length=o.length:=b6
 obtain⟨V,Y⟩:=I.1.stored (i*2) E;have J:(Value.slice (some ⟨g,0,none⟩) o.length y).ownBlock=some g:=by
  cases y with
  |zero=>omega
  |succ c=>rfl
 have B:∀{x:Value}{p:PV},Dat (DX C H w (.slice (some ⟨g,0,none⟩) o.length y)) w x p->Dat (DX C H (w.setCell ⟨g,i*2,none⟩ E) (.slice (some ⟨g,0,none⟩) o.length y)) (w.setCell ⟨g,i*2,none⟩ E) x p:=λh=>
  DX.keep h b7 λk hk L=>tv _ _ _ _ λe=>L (by rw[J];exact ub some e.symm)
 refine⟨X.set (i*2) E,⟨by rw[A];exact V,by rw[A,Ug];exact I.2.1,λu M=>?_⟩,λj P=>?_⟩
 .rcases Uc M with M|rfl
  .exact I.2.2 u M
  .exact Ki N
 .have K:j<o.length:=(by rw[A]at P;exact P);obtain⟨a,b,c,d,e,k⟩:=Q j K;have U:=I.2.1;by_cases G:j=i
  .subst G;have F:(o.take j++(⟨l,o[j].vec⟩:Fg)::o.drop (j+1))[j]=⟨l,o[j].vec⟩:=by rw[Wu (by rw[Wb];exact UE _ _)];simp[WY (uB hi)]
   rw[F];refine⟨E,b,?_,?_,B N,B k⟩
   .rw[WM a9]
   .rw[wT a9];exact d
  .have F:(o.take i++(⟨l,o[i].vec⟩:Fg)::o.drop (i+1))[j]=o[j]:=by
    rcases Nat.lt_or_gt_of_ne G with T|S
    .rw[uw b6,uI]
    .rw[Wu b6];obtain⟨m,rfl⟩:∃m,j=i+1+m:=⟨j-(i+1),a9⟩;simp only[Wb,WY (uB hi),show i+1+m-i=m+1 by omega,WN,Ur]
   rw[F];refine⟨a,b,?_,?_,B e,B k⟩
   .rw[wT a9];exact c
   .rw[wT a9];exact d
def OutG.setV{C:xT}{B base g:Nat}{w:World}{y:Nat}{o:List Fg}{a0:Value}{i n:Nat}(N:o.length=n)(h:OutG C B base w (.slice (some ⟨g,0,none⟩) n y) o)(hi:i<o.length)(J:Dat (DX C B w (.slice (some ⟨g,0,none⟩) n y)) w a0 (vp o[i].vec))(K:0<y):
 OutG C B base (w.setCell ⟨g,i*2+1,none⟩ a0) (.slice (some ⟨g,0,none⟩) n y) o:=by
 subst N;obtain⟨Q,E,L⟩:=h;obtain⟨P,S⟩:=E.1.stored (i*2+1) a0;have F:(Value.slice (some ⟨g,0,none⟩) o.length y).ownBlock=some g:=by
  cases y with
  |zero=>omega
  |succ c=>rfl
 have A:∀{x:Value}{p:PV},Dat (DX C B w (.slice (some ⟨g,0,none⟩) o.length y)) w x p->Dat (DX C B (w.setCell ⟨g,i*2+1,none⟩ a0) (.slice (some ⟨g,0,none⟩) o.length y)) (w.setCell ⟨g,i*2+1,none⟩ a0) x p:=λh=>
  DX.keep h b7 λk hk H=>tv _ _ _ _ λe=>H (by rw[F];exact ub some e.symm)
 refine⟨Q.set (i*2+1) a0,⟨P,by rw[Ug];exact E.2.1,λu I=>?_⟩,λj M=>?_⟩
 .rcases Uc I with I|rfl
  .exact E.2.2 u I
  .exact zeu J
 .obtain⟨a,b,c,d,e,k⟩:=L j M;have O:=E.2.1;by_cases G:j=i
  .subst G;refine⟨a,a0,?_,?_,A e,A J⟩
   .rw[wT a9];exact c
   .rw[WM a9]
  .refine⟨a,b,?_,?_,A e,A k⟩
   .rw[wT a9];exact c
   .rw[wT a9];exact d
def OutG.dat{C:xT}{H base:Nat}{w:World}{v:Value}{o:List Fg}(h:OutG C H base w v o)(hb:H<base):Dat (DL C H w) w v (kp o):=by
 obtain⟨K,L,O⟩:=h;rcases L.1.2 with⟨rfl,N⟩|⟨g,I,M,rfl,X,Q,V,U,hs,ht⟩
 .obtain rfl:=wV.1 N;exact .sl none 0 2 [] .sh 0 0 (λ_=>undef) b7 (λh=>by cases h) b9 (λh=>absurd rfl h) (λi e h=>by simp at h) (λj h=>by simp at h) (λi e j p h=>by simp at h)
 .have J:=(XE.1 Q).1;have F:∀j x,K[j]?=some x->w.cell? ⟨g,j,none⟩=some x:=λj x A=>(by have:=L.1.cells (g:=g) rfl j x A;rw[zh,wk]at this;exact this);have u:∀i (h:i<o.length) j p,(fc o[i])[j]?=some p->∃x,K[i*2+j]?=some x/\Dat (DL C H w) w x p/\x.oneCell'=true:=λi h j p B=>by
   obtain⟨a,b,c,d,e,k⟩:=O i h;match j,B with
   |0,B=>cases B;exact⟨_,c,e.mono (λ_ _ h=>h.1) λ_ _ _ _ h=>h,Ki e⟩
   |1,B=>cases B;exact⟨_,d,k.mono (λ_ _ h=>h.1) λ_ _ _ _ h=>h,zeu k⟩
   |j+2,B=>simp[fc]at B
  have E:∀(i:Nat)(e:List PV),(o.map fc)[i]?=some e->∃h:i<o.length,e=fc o[i]:=λi e G=>(by rw[wh]at G;obtain⟨x,A,rfl⟩:=ZZ.1 G;obtain⟨h,rfl⟩:=Zw.1 A;exact⟨h,rfl⟩);have y:(o.map fc).length=o.length:=wt _;unfold kp;rw[<-y];refine .sl (some ⟨g,0,none⟩) I 2 (o.map fc) .sh g 0 (λj=>(K[j]?).getD undef) (by rw[y];exact V) (λh=>by cases h) U (λ_=>rfl) (λi e G=>?_) (λj T=>?_) (λi e j p G B=>?_)
  .obtain⟨h,rfl⟩:=E i e G;rfl
  .rw[y]at T;have hi:j/2<o.length:=a9;have P:j%2<(fc o[j/2]).length:=UZ _ b9;obtain⟨x,A,_,ho⟩:=u (j/2) hi (j%2) ((fc o[j/2])[j%2]) (Zv P);rw[show j/2*2+j%2=j by omega]at A;rw[wk];refine⟨.inr ⟨a9,J⟩,?_,?_⟩
   .rw[A];exact F j x A
   .rw[A];exact ho
  .obtain⟨h,rfl⟩:=E i e G;obtain⟨x,A,S,_⟩:=u i h j p B;rw[A];exact S
def OutG.box{C:xT}{u base rb:Nat}{w:World}{v x:Value}{o:List Fg}(h:OutG C u base w v o)(hb:rb<u)(F:rb<base)(E:∀b o,C b o->b≠rb):OutG C u base (w.setCell ⟨rb,0,none⟩ x) v o:=by
 have j:∀{y:Value}{p:PV},Dat (DX C u w v) w y p->Dat (DX C u (w.setCell ⟨rb,0,none⟩ x) v) (w.setCell ⟨rb,0,none⟩ x) y p:=λh=>
  h.mono (λb o h=>⟨h.1.imp id λh=>⟨h.1,dL h.2⟩,h.2⟩) λb o y h G=>(tk (a:=⟨b,o,none⟩) (tv _ _ _ _ (by
   show b≠rb;rcases h.1 with h|h
   .exact E _ _ h
   .omega))).trans G
 obtain⟨H,A,B⟩:=h;refine⟨H,A.keep λk hk=>tv _ _ _ _ (by have:=(A.1.lt k hk).1;show k≠rb;omega),λi hi=>?_⟩;obtain⟨a,b,c,d,e,f⟩:=B i hi;exact⟨a,b,c,d,j e,j f⟩
section
open Go.ChangeShapes Go.WideShapes Go.ChangeAt Go.Deep
def zl7{D:xT}{w:World}{x y z:Value}{p q r:PV}(B:x.oneCell'=true)(C:y.oneCell'=true)(hz:z.oneCell'=true)(o:Dat D w x p)(u:Dat D w y q)(A:Dat D w z r):Dat D w (.agg #[x,y,z]) (.agg [p,q,r]):=by
 refine .agg _ _ rfl (λi hi=>?_) λi p j=>?_
 .match i,hi with
  |0,_=>exact B
  |1,_=>exact C
  |2,_=>exact hz
 .match i,j with
  |0,j=>cases j;exact o
  |1,j=>cases j;exact u
  |2,j=>cases j;exact A
section
variable {H:Type}{enc:TypeId×Value->H}{w:World}{base:Nat}{spare:Nat->Bool}{held:Bool}
end
section
variable {H:Type}{enc:TypeId×Value->H}{w:World}{base:Nat}{spare:Nat->Bool}{held:Bool}
def zhh(w:World)(b o:Nat)(y:List PV):Prop:=∀(j:Nat)(p:PV),y[j]?=some p->∃u,w.cell? ⟨b,o+j,none⟩=some u/\u.oneCell'=true/\Dat (ZG w) w u p
def rdC{α:Type}(cv:α->List PV)(bd:α->Prop)(w:World)(b o:Nat)(x:α):Prop:=zhh w b o (cv x)/\bd x
def VQ{α:Type}{cv:α->List PV}{bd:α->Prop}{sz:Nat}{v:Value}{l:List α}(y:∀x,(cv x).length=sz)(h:RdSl sz (rdC cv bd) 0 w.heap.size w v l):Dat (ZG w) w v (.sl (l.map cv) .sh)/\(∀x∈l,bd x)/\l.length<=9223372036854775807:=by
 obtain⟨a,B,rfl,U,K,V⟩:=h;have N:l.length<=9223372036854775807:=by unfold maxLen at K;omega
 suffices hs:Dat (ZG w) w (.slice a (l.map cv).length B) (.sl (l.map cv) .sh)/\∀x∈l,bd x from ⟨by rw[wt]at hs;exact hs.1,hs.2,N⟩
 by_cases G:l=[]
 .subst G;exact⟨.sl a B sz [] .sh 0 0 (λ_=>undef) b7 (λh=>by cases h) K (λh=>absurd rfl h) (λi e h=>by simp at h) (λj h=>by simp at h) (λi e j p h=>by simp at h),λ_ h=>by cases h⟩
 obtain⟨b,o,rfl,X,L,O⟩:=V G;have I:∀j,j<l.length*sz->∃u,w.cell? ⟨b,o+j,none⟩=some u/\u.oneCell'=true/\∀(i k:Nat)(hi:i<l.length)(p:PV),j=i*sz+k->(cv l[i])[k]?=some p->Dat (ZG w) w u p:=λj A=>by
  have H:0<sz:=by
   rcases WB sz with J|J
   .subst J;simp at A
   .exact J
  have hi:j/sz<l.length:=Nat.div_lt_of_lt_mul (by rw[U0];exact A);have hk:j%sz<(cv l[j/sz]).length:=(by rw[y];exact UZ _ H);obtain⟨u,Q,u2,u3⟩:=(O _ hi).1 (j%sz) _ (Zv hk);have e:o+j/sz*sz+j%sz=o+j:=(by have:=Nat.div_add_mod j sz;rw[U0]at this;omega);rw[e]at Q;refine⟨u,Q,u2,λi k Y p E C=>?_⟩;have F:k<sz:=by have:=(Zw.1 C).1;rwa[y]at this
  have q1:j/sz=i:=(by rw[E];rw[U0,Nat.mul_add_div H,Nat.div_eq_of_lt F];omega);have q2:j%sz=k:=(by rw[E];rw[U0,Nat.mul_add_mod,Nat.mod_eq_of_lt F]);subst q1;subst q2;rw[Zv hk]at C;cases C;exact u3
 obtain⟨f,P⟩:∃f:Nat->Value,∀j,j<l.length*sz->w.cell? ⟨b,o+j,none⟩=some (f j)/\(f j).oneCell'=true/\∀(i k:Nat)(hi:i<l.length)(p:PV),j=i*sz+k->(cv l[i])[k]?=some p->Dat (ZG w) w (f j) p:=by refine⟨λj=>if h:j<l.length*sz then (I j h).choose else undef,λj A=>?_⟩;simp only[uo A];exact(I j A).choose_spec
 refine⟨.sl _ B sz _ .sh b o f (dL U) (λh=>by cases h) K (λ_=>rfl) (λi e h=>?_) (λj A=>?_) (λi e j p M H=>?_),λx Z=>?_⟩
 .simp only[wh,ZZ]at h;obtain⟨s,_,rfl⟩:=h;exact y s
 .obtain⟨S,T,_⟩:=P j (dL A);exact⟨L,S,T⟩
 .have hi:i<l.length:=(by have:=(Zw.1 M).1;simpa using this);rw[xo hi]at M;cases M;have A:j<sz:=by have:=(Zw.1 H).1;rwa[y]at this
  have:i*sz+j<l.length*sz:=(by have:=Wr sz (show i+1<=l.length from hi);rw[WX]at this;omega);exact(P _ this).2.2 i j hi p rfl H
 .obtain⟨i,hi,rfl⟩:=Wd Z;exact(O i hi).2
instance : Inhabited En:=⟨⟨0,0,[]⟩⟩
end
section
variable {H:Type}{enc:TypeId×Value->H}{w:World}{base:Nat}{spare:Nat->Bool}{held:Bool}
def xp(x:Nat×Nat×Nat):PV:=.agg [.v (.int .u64 (x.1:Nat)),.v (.int .u64 (x.2.1:Nat)),.v (.int .u64 (x.2.2:Nat))]
attribute [go_sem] xp
def BdX(x:Nat×Nat×Nat):Prop:=x.1<zk/\x.2.1<zk/\x.2.2<zk
def zob{r:Reach}{o:Nat}{v:Value}{d:DataW H}{J:List MemPlace}(j:Value.okWide xt w r o 60 v)(h:DataW.Trod enc xt w base spare held 60 v d J):∃x,Dat (ZG w) w v (xp x)/\BdX x:=by
 obtain⟨N,O,P,Q,S,T,n,rfl,_,_,u,y,A⟩:=Go.Joins.open_agg3 underlying60 dM dM j h;obtain⟨F,K,B⟩:=kM underlying36 u;obtain⟨G,L,C⟩:=kM underlying36 y;obtain⟨I,M,E⟩:=kM underlying36 A;obtain rfl:N=_:=dL K
 obtain rfl:O=_:=dL L
 obtain rfl:P=_:=dL M
 exact⟨(F,G,I),zl7 dJ dJ dJ (.v _) (.v _) (.v _),B,C,E⟩
end
end
def zid(k:List Fg)(i r c:Nat)(E:RightK k)(C:c<zk)(hz:QW k):Cn xt 99 [kp k,.v (.int .u64 i),.v (.int .u64 r),.v (.int .u64 c)] (.v (.bool (hasK k i r c))):=by
 have G:=hz.1;refine zt func99 4 ?_;refine pw ?_;refine pLoop.go (λj=>j<=k.length/\hasK k i r c=hasK (k.drop j) i r c) (λj=>[(9,.v (.int .i64 (j:Nat)))]) (λ_=>[]) (λj=>k.length-j) 0 [9] ?_ ?_ ?_
 .exact⟨X4 _,rfl⟩
 .exact pd
 .rintro j ⟨F,w⟩;refine pw ?_;refine .i ?_ ?_<;>intro h<;>first|refine pw ?_|exact pd
  .rw[Vq h]at w;have o:hasK k i r c=((mem k[j].items i && mem (zT k[j].vec r) c) || hasK (k.drop (j+1)) i r c):=w;have u:=hz.2 _ (Yf h);have y:=E _ (Yf h);refine pw ?_;refine .c (kU k[j].items i u.1) ?_;refine .i ?_ ?_<;>intro A<;>first|refine pw ?_|exact pd
   .refine .c (zl8 k[j].vec r c y.2 C u.2.1 u.2.2) ?_;rw[A,tf]at o;refine .i ?_ ?_<;>intro B<;>first|refine pw ?_|exact pd
    .rw[o,B];rfl
    .rw[B,uC]at o;exact⟨j+1,⟨h,o⟩,a9,rfl⟩
   .rw[A,U9,uC]at o;exact⟨j+1,⟨h,o⟩,a9,rfl⟩
  .rw[w,wE a9];rfl
def VR{C:Qk}{R:List Nat}(k:List Fg)(i:Nat)(hk:IK C R k)(ok:OkC C R)(E:RightK k)(hs:∀f∈k,SmV f.vec)(hz:QW k):Cn xt 102 [kp k,.v (.int .u64 i)] (vp (qc k i)):=by
 have B:=hz.1;refine zt func102 2 ?_;refine pw ?_;refine pLoop.go (λj=>j<=k.length) (λj=>[(5,vp (qc (k.take j) i)),(6,.v (.int .i64 (j:Nat)))]) (λ_=>[]) (λj=>k.length-j) 0 [5,6] ?_ ?_ ?_
 .exact X4 _
 .simp only[wY,zbT];exact pd
 .rintro j A;refine pw ?_;refine .i ?_ ?_<;>intro h<;>first|refine pw ?_|exact pd
  .have o:=Ku i h;have w:=hz.2 _ (Yf h);have u:=((hk.take j).at i).1.smv ok;refine pw ?_;refine .c (kU k[j].items i w.1) ?_;refine .i ?_ ?_<;>intro y<;>first|refine pw ?_|exact pd
   .rw[vj y]at o;refine .c (zcC (qc (k.take j) i) k[j].vec 0 a9 u (hs _ (Yf h))) ?_;rw[znf];exact⟨j+1,h,a9,by rw[o],rfl⟩
   .rw[vD (by rw[y];simp)]at o;exact⟨j+1,h,a9,by rw[o],rfl⟩
  .rw[show k.take j=k from wj a9]
def refKMemb_c(k:List Fg)(i:Nat)(hz:QW k)(B:k.length<=1073741824):Cn xt 140 [kp k,.v (.int .u64 i)] (is (zU k i)):=by
 have E:=hz.1;refine zt func140 2 ?_;refine pw ?_;refine pLoop.go (λj=>j<=k.length) (λj=>[(5,.sl ((zU (k.take j) i).map λx=>[.v (.int .i64 (x:Nat))]) (.r 23 1)),(6,.v (.int .i64 (j:Nat)))]) (λ_=>[]) (λj=>k.length-j) 0 [5,6,23] ?_ ?_ ?_
 .exact X4 _
 .simp only[wY,zU,withF,W6];exact pd
 .rintro j C;have u:=zbk (k.take j) i;have A:(zU (k.take j) i).length<=j:=(by simp at u;omega);refine pw ?_;refine .i ?_ ?_<;>intro h<;>first|refine pw ?_|exact pd
  .have o:=JX i h;have w:=hz.2 _ (Yf h);refine pw ?_;refine .c (kU k[j].items i w.1) ?_;refine .i ?_ ?_<;>intro y<;>first|refine pw ?_|exact pd
   .rw[vj y]at o;refine⟨j+1,h,a9,?_,rfl⟩;rw[o];simp
   .rw[vD (by rw[y];simp),wX]at o;exact⟨j+1,h,a9,by rw[o],rfl⟩
  .rw[show k.take j=k from wj a9]
def Vh(k:List Fg)(hb:BdK k)(hz:QW k):Cn xt 32 [kp k] (jS (ckK k).1 (ckK k).2):=by
 have G:=hz.1;refine zt func32 1 ?_;refine pw ?_;refine pLoop.go (λj=>j<=k.length/\ckK k=hkK j (k.drop j)) (λj=>[(9,.v (.int .i64 (j:Nat)))]) (λ_=>[]) (λj=>k.length-j) 0 [9] ?_ ?_ ?_
 .exact⟨X4 _,rfl⟩
 .exact pd
 .rintro j ⟨F,y⟩;refine pw ?_;refine .i ?_ ?_<;>intro h<;>first|refine pw ?_|exact pd
  .rw[Vq h,hkK]at y;have B:=hb.1 _ (Yf h);have A:=hz.2 _ (Yf h);have u:=Ju (Zl k[j].items).1 (Zl k[j].items).2;have w:=Ju (jx k[j].vec).1 (jx k[j].vec).2;refine pw ?_;refine .rd (rcheck_c k[j].items B.1 A.1 (.inr (KL 2))) rfl ?_;by_cases C:(Zl k[j].items).1=0
   .rw[yk C];rw[vD a9]at y;refine pw ?_;refine .rd (zes k[j].vec B.2.1 A.2.1 A.2.2) rfl ?_;by_cases E:(jx k[j].vec).1=0
    .rw[yk E];rw[vD a9]at y;refine pw ?_;exact⟨j+1,⟨h,y⟩,a9,rfl⟩
    .rw[vj E]at y;rw[y];rw[vu E]at w⊢;refine pw ?_
     (first|refine .c (w) ?_|refine .o (w) ?_)
     refine .c (jT (jx k[j].vec).1 j) ?_;exact ym _ _
   .rw[vj C]at y;rw[y];rw[vu C]at u⊢;refine pw ?_
    (first|refine .c (u) ?_|refine .o (u) ?_)
    refine .c (jT (Zl k[j].items).1 j) ?_;exact ym _ _
  .rw[y,wE a9];exact .eq _ rfl
def zjX(a b:List Nat)(A:a.length<=1152921504606846976):Cn xt 191 [is a,is b] (.v (.bool (decide (a=b)))):=by
 refine zt func191 2 ?_;refine pw ?_;refine .i ?_ ?_<;>intro o<;>first|refine pw ?_|exact pd
 .symm;rw[uO];rintro rfl;exact o rfl
 .have w:a.length=b.length:=(dL o);clear o;refine pLoop.go (λk=>k<=a.length/\(a=b↔a.drop k=b.drop k)) (λk=>[(13,.v (.int .i64 (k:Nat)))]) (λ_=>[]) (λk=>a.length-k) 0 [13] ?_ ?_ ?_
  .exact⟨X4 _,UX⟩
  .exact pd
  .rintro k ⟨hk,j⟩;refine pw ?_;refine .i ?_ ?_<;>intro h<;>first|refine pw ?_|exact pd
   .have u:k<b.length:=a9;rw[Vq h,Vq u,Wt]at j;refine pw ?_;refine .i ?_ ?_<;>intro e<;>first|refine pw ?_|exact pd
    .symm;rw[uO];intro y;exact absurd (j.1 y).1 a9
    .refine⟨k+1,⟨h,?_⟩,a9,rfl⟩;rw[j];have e:a[k]=b[k]:=a9;exact⟨λh=>h.2,λh=>⟨e,h⟩⟩
   .rw[eq_comm,wC,j,wE a9,wE a9]
def u11:List En:=[⟨1,3,[]⟩,⟨2,0,[]⟩]
def zhj(f:Fg)(v:List En)(j:∀e∈f.vec,ZL e)(o:∀e∈v,ZL e)(u:(zv f.vec).length<=1073741824)(w:(zv v).length<=1073741824):Cn xt 187 [fp f,vp v] (.v (.int .i64 (zZ (zv f.vec) (zv v)))):=by refine zt func187 2 ?_;refine pw ?_;exact .d (Ks f.vec v j o u w)
def zhm(k:List Fg)(v:List En)(i:Nat)(hi:i<=k.length)(H:∀j,(h:j<k.length)->j<i->ZH k[j].vec v)(I:∀j,(h:j<k.length)->i<=j->¬ZH k[j].vec v)(J:k.length<=1152921504606846976)
 (w:∀f∈k,Cn xt 187 [fp f,vp v] (.v (.int .i64 (zZ (zv f.vec) (zv v))))) :
 Cn xt 186 [kp k,vp v,.fn (.func 187) [] []] (.tup [.v (.int .i64 i),.v (.bool (if h:i<k.length then decide (zZ (zv k[i].vec) (zv v)=0) else false))]):=by
 refine zt func186 3 ?_;refine pw ?_;refine pLoop.go (λp:Nat×Nat=>p.1<=i/\i<=p.2/\p.2<=k.length) (λp=>[(9,.v (.int .i64 (p.1:Nat))),(10,.v (.int .i64 (p.2:Nat)))]) (λ_=>[]) (λp=>p.2-p.1) (0,k.length) [9,10] ?_ ?_ ?_
 .exact⟨X4 _,hi,Zp _⟩
 .exact pd
 .rintro⟨p,q⟩ ⟨B,C,E⟩;simp only at B C E;refine pw ?_;refine .i ?_ ?_<;>intro h<;>first|refine pw ?_|exact pd
  .have y:(p+q)/2<k.length:=a9;have F:=H _ y;have G:=I _ y;refine pw ?_
   (first|refine .c (w k[(p+q)/2] (Yf y)) ?_|refine .o (w k[(p+q)/2] (Yf y)) ?_)
   refine .i ?_ ?_<;>intro u<;>first|refine pw ?_|exact pd
   .refine⟨((p+q)/2+1,q),⟨?_,C,E⟩,by simp only;omega,rfl,rfl⟩;simp only;exact Uy λA=>G A u
   .refine⟨(p,(p+q)/2),⟨B,?_,by simp only;omega⟩,by simp only;omega,rfl,rfl⟩;simp only;refine ur λA=>?_;have:=F A;unfold ZH at this;omega
  .obtain rfl:p=i:=a9;obtain rfl:q=p:=a9;refine .i ?_ ?_<;>intro u<;>first|refine pw ?_|exact pd
   ·(first|refine .c (w k[q] (Yf u)) ?_|refine .o (w k[q] (Yf u)) ?_)
    rw[uo u];try simp
   .rw[UI a9]
def Qo:∀{k:List Fg}(v:List En),k.Pairwise (λf g=>ZH f.vec g.vec)->∃i,i<=k.length/\(∀j,(h:j<k.length)->j<i->ZH k[j].vec v)/\(∀j,(h:j<k.length)->i<=j->¬ZH k[j].vec v)
 |[],v,_=>⟨0,Zp _,λj h=>by simp at h,λj h=>by simp at h⟩
 | f::k,v,hp=>by
   have w:=V2.1 hp;by_cases h:ZH f.vec v
   .obtain⟨i,C,y,A⟩:=Qo v w.2;refine⟨i+1,b6,λj u o=>?_,λj u B=>?_⟩
    .cases j with
     |zero=>exact h
     |succ j=>exact y j (dL u) a9
    .cases j with
     |zero=>omega
     |succ j=>exact A j (dL u) a9
   .refine⟨0,X4 _,λj _ h=>absurd h (Uf _),λj u _ o=>?_⟩;cases j with
    |zero=>exact h o
    |succ j=>exact h (k8 (w.1 _ (Yf (dL u))) o)
def Y8:∀{k:List Fg}{f:Fg}{i:Nat},i<=k.length->(∀j,(h:j<k.length)->j<i->ZH k[j].vec f.vec)->(∀j,(h:j<k.length)->i<=j->¬ZH k[j].vec f.vec) ->
 qN k f=if h:i<k.length then (if zZ (zv k[i].vec) (zv f.vec)=0 then k.take i++⟨qy zn k[i].items f.items,f.vec⟩::k.drop (i+1) else k.take i++f::k.drop i) else k++[f]
 |[],f,i,h0,h1,h2=>by simp[qN]
 | g::k,f,i,h0,h1,h2=>by
   cases i with
   |zero=>have A:=h2 0 b7 (Zp _);have u:¬zZ (zv g.vec) (zv f.vec)<0:=A;rw[qN,vD u,uo b7];simp only[uA,wY,Y1,Wh,wM]
   | succ i=>
     have B:zZ (zv g.vec) (zv f.vec)<0:=h1 0 b7 a9;rw[qN,vj B,Y8 (i:=i) (dL h0) (λj o y=>h1 (j+1) (dL o) a9) (λj o w=>h2 (j+1) (dL o) a9)];simp only[wn,WN,wO,wM,yb,Nat.add_lt_add_iff_right];split
     .split<;>rfl
     .rfl
section
attribute [-go_sem] z7
structure AddOk(o:List Fg)(f:Fg):Prop where
 gi:GrpI o
 fo:OkG f
 l:o.length<=1048576
 fi:f.items.length<=100000000
 oi:∀g∈o,g.items.length<=100000000
 bd:∀e∈f.vec,ZL e
 bo:∀g∈o,∀e∈g.vec,ZL e
 nf:(zv f.vec).length<=1073741824
 no:∀g∈o,(zv g.vec).length<=1073741824
def xL{D:xT}{w:World}{v:Value}{l:List En}(h:Dat D w v (vp l)):∃o j,v=.slice o l.length j:=by have u:Dat D w v (.sl (l.map ec) .sh):=h;obtain⟨o,j,sz,b,y,f,e1,_⟩:=(Rel.dat (ρ:=λ_=>0) (nb:=0) u).inv_sl;rw[wt]at e1;exact⟨o,j,e1⟩
def zc1(o:List Fg)(f:Fg)(i:Nat):Bool:=if h:i<o.length then decide (zZ (zv o[i].vec) (zv f.vec)=0) else false
def zjH{C:xT}{rb base:Nat}{w:World}{v G:Value}{o:List Fg}{f:Fg}(i:Nat)(r:Bool)(O:zc1 o f i=r)(ho:AddOk o f)(A:OutG C rb base w v o)(I:Dat (DL C rb w) w G (vp f.vec))(hb:rb<base)(L:∀b o,C b o->b<rb)(E:rb<w.heap.size)(M:GL C w)
 (hi:i<=o.length) (J:∀j,(h:j<o.length)->j<i->ZH o[j].vec f.vec) (K:∀j,(h:j<o.length)->i<=j->¬ZH o[j].vec f.vec) :
 Calls xt 186 #[v,G,.func (.func 187) #[] #[]] w λe H=>e=.returned (.tuple #[.int .i64 (i:Nat),.bool r])/\Below w.heap.size w H:=by
 subst O;refine(jP (D:=DL C rb w) (zhm o f.vec i hi J K (by have:=ho.l;omega) λg F=>zhj g f.vec (ho.bo g F) ho.bd (ho.no g F) ho.nf) (M.mono (λ_ _ h=>.inl h) λ_ _ _ _ h=>h) (λb o h=>h.elim (λh=>UH (L b o h) E) W9) rfl (λj p y=>?_)).mono ?_
 .match j,y with
  |0,y=>cases y;exact A.dat hb
  |1,y=>cases y;exact I
  |2,y=>cases y;exact .fn _ #[] #[] [] [] rfl rfl (λ_ _ h=>by simp at h) (λ_ _ h=>by simp at h)
  |j+3,y=>simp at y
 .rintro e H ⟨u,rfl,B,N⟩;rw[XY N];exact⟨rfl,B⟩
def zeo{C:xT}{rb:Nat}{w:World}{v a b:Value}{l m:List Iv}(J:Nrm l)(K:Nrm m)(hs:l.length+m.length<=1073741824)(G:Dat (DX C rb w v) w a (rg l))(db:Dat (DX C rb w v) w b (rg m))(F:∀k,v.ownBlock=some k->rb<k/\k<w.heap.size)(E:∀b o,C b o->b<rb)(B:rb<w.heap.size)(H:GL C w):
 Calls xt 87 #[a,b] w λe A=>∃u,e=.returned u/\Below w.heap.size w A/\Dat (DX C rb A v) A u (rg (qy zn l m)):=by
 refine(jP (D:=DX C rb w v) (zaz l m J K hs) (H.mono (λb o h=>⟨.inl h,λe=>by have:=(F b e).1;have:=E b o h;omega⟩) λ_ _ _ _ h=>h) (λb o h=>h.1.elim (λh=>UH (E b o h) B) W9) rfl (λj p y=>?_)).mono ?_
 .match j,y with
  |0,y=>cases y;exact G
  |1,y=>cases y;exact db
  |j+2,y=>simp at y
 .rintro e A ⟨u,rfl,hb,I⟩;exact⟨u,rfl,hb,I.mono (λb o h=>by
   rcases h with h|h
   .exact⟨h.1.imp id λh=>⟨h.1,vw h.2 hb.size⟩,h.2⟩
   .exact⟨.inr ⟨a9,h.2⟩,λe=>by have:=(F b e).2;omega⟩) λ_ _ _ _ h=>h⟩
def zhT{o:List Fg}{f:Fg}{i:Nat}(h:zc1 o f i=true):∃hi:i<o.length,zZ (zv o[i].vec) (zv f.vec)=0:=by
 unfold zc1 at h;split at h
 .rename_i hi;exact⟨hi,dL h⟩
 .cases h
def Jh{C:xT}{base rb:Nat}{w:World}{v va vv:Value}{o:List Fg}{f:Fg}(T:AddOk o f)(ao:OutG C (rb+1) base w v o)(aL:Boxed w rb 233 v)(bI:rb+1<base)(bC:base<=w.heap.size)(hC:∀b o,C b o->b<rb)(hG:GL C w)
 (da:Dat (DX C (rb+1) w v) w va (rg f.items)) (dv:Dat (DX C (rb+1) w v) w vv (vp f.vec)) :
 Calls xt 151 #[.pointer (some ⟨rb,0,none⟩),.agg #[va,vv]] w λe w'=>(∃u,e=.returned u)/\∃v',Boxed w' rb 233 v'/\OutG C (rb+1) base w' v' (qN o f)/\Keep (λk=>k=rb\/base<=k) w w':=by
 obtain⟨i,hi,q1,q2⟩:=Qo f.vec T.gi.srt;have M:=Y8 hi q1 q2;have bJ:=aL.lt;obtain⟨O,ar⟩:=xm (w.alloc (.cells #[va,vv] 50));have bQ:O.heap.size=w.heap.size+1:=by rw[ar];simp
 have ac:∀j,j<w.heap.size->O.heap[j]?=w.heap[j]?:=λj hj=>by rw[ar];exact tr _ _ _ hj
 have az:O.heap[w.heap.size]?=some (.cells #[va,vv] 50 (0,0)):=by rw[ar];exact tl w _
 have ae:=ao.keep (w':=O) a9 ac;have aX:Dat (DX C (rb+1) O v) O va (rg f.items):=DX.keep da a9 λk hk _=>ac k hk;have aH:Dat (DX C (rb+1) O v) O vv (vp f.vec):=DX.keep dv a9 λk hk _=>ac k hk;have ak:Boxed O rb 233 v:=(ac rb bJ).trans aL;have aJ:GL C O:=hG.mono (λ_ _ h=>h) λb o x A hx=>(tk (a:=⟨b,o,none⟩) (ac b (by have:=hC b o A;omega))).trans hx;obtain⟨ad,I,rfl,bP,bD⟩:=ao.shape;unfold maxLen at bD;obtain⟨aa,ca,rfl⟩:=zK da;obtain⟨av,cv,rfl⟩:=xL dv;obtain⟨r,P⟩:=xn (zc1 o f i);have aY:∀W,Below O.heap.size O W->Calls xt 186 #[.slice ad o.length I,.slice av f.vec.length cv,.func (.func 187) #[] #[]] W λe w'=>e=.returned (.tuple #[.int .i64 (i:Nat),.bool r])/\Below W.heap.size W w':=λW V=>
  zjH i r P T (ae.keep V.size λk hk=>V.block k hk) ((DX.keep aH V.size λk hk _=>V.block k hk).mono (λ_ _ h=>h.1) λ_ _ _ _ h=>h) bI (λb o h=>uk (hC b o h)) (by have:=V.size;omega) (aJ.mono (λ_ _ h=>h) λb o x A hx=>(tk (a:=⟨b,o,none⟩) (V.block b (by have:=hC b o A;omega))).trans hx) hi q1 q2
 have bh:=qL aY;have c0:=ak.cell;have e0:=(zW az 0 _ rfl).1;have e1:=(zW az 1 _ rfl).1;have aT:=qL ar;have aE:=qL ae;have aS:=qL aX;have bj:=qL aH;have aU:=qL ak;have bl:=qL aJ;have aC:=qL M;have bt:=qL az;have aB:=qL P;have bN:=qL ac;clear M ac az ae aX aH ak aJ P da dv ao aL hG q1 q2 aY;have bM:True:=trivial;have aZ:Below O.heap.size O O.drew:=(tq _ _).drew;have aR:xt.follows .mixedOrders=true:=dM
 go_enter func151,ntmps151
 go_wp2_with fail
 rw[<-ar];refine Kg (Sw:=qe) 12 51 (λN=>Below O.heap.size O N/\N.cell? ⟨rb,0,none⟩=some (.slice ad o.length I)/\N.cell? ⟨w.heap.size,1,none⟩=some (.slice av f.vec.length cv)) dM dM rfl ⟨aZ,c0,e1⟩ ?_;simp only[wO,wY];refine Jz ?_;refine V7 (λu _=>u=.tuple #[.int .i64 (i:Nat),.bool r]) (yj _) rfl ?_ ?_
 .intro a2 y A hk P K hK;have HK:=qL hK;clear hK;simp[Rds,zA,lk,Op.operands,Call.operands,RdEq]at P;go_simp;refine(bh.o _ A.1).mono ?_;rintro e w3 ⟨rfl,hb⟩;have J:Keep qe y w3:=Keep.of_below' hb (Zp _);exact HK.o _ _ J ⟨A.1.trans (hb.mono A.1.size),J.cell_some A.2.1 id,J.cell_some A.2.2 id⟩ rfl
 simp only[Y1,yb];refine Jz ?_;intro y H S;simp only[finG,WQ,Y1,yb,wM,Wh,WR];simp only[Act.put,ww,wR,wS];have B:=qL H.1;have c2:=H.2.1;have f2:=(H.1.block _ a9).trans (show O.heap[w.heap.size]?=_ from bt.o);have g0:=(zW f2 0 _ rfl).1;have g1:=(zW f2 1 _ rfl).1;clear H S aZ;cases r with
 | true=>
   obtain⟨an,hz⟩:=zhT aB.o;have U:=aE.o.keep (w':=y) B.o.size λk hk=>B.o.block k hk;have bq:=qL U;obtain⟨xs,Y,ay⟩:=id U;obtain⟨a,b,ea,eb,aI,bB⟩:=ay i an;obtain⟨g,aV,bO,ev,bG,bH,be,_,_,_,_⟩:=Y.cases.resolve_left (λh=>a9);obtain⟨rfl,_,rfl⟩:ad=some ⟨g,0,none⟩/\o.length=o.length/\I=aV:=(dL ev);have aW:y.cell? ⟨g,i*2,none⟩=some a:=(by have:=tH Y.1 (g:=g) rfl (i*2) a ea;rw[zh,wk]at this;exact this);have aK:∀k,(Value.slice (some ⟨g,0,none⟩) o.length I).ownBlock=some k->rb+1<k/\k<y.heap.size:=λk hk=>(by have:=U.owns k hk;omega);obtain⟨ai,ci,rfl⟩:=zK aI;have bg:∀W,Below y.heap.size y W->Calls xt 87 #[.slice ai o[i].items.length ci,.slice aa f.items.length ca] W λe w'=>∃u,e=.returned u/\Below W.heap.size W w'/\Dat (DX C (rb+1) w' (.slice (some ⟨g,0,none⟩) o.length I)) w' u (rg (qy zn o[i].items f.items)):=λW V=>
    zeo (T.gi.ok _ (Yf an)).2.2.1 T.fo.2.2.1 (by have:=T.oi _ (Yf an);have:=T.fi;omega) (DX.keep aI V.size λk hk _=>V.block k hk) (DX.keep aS.o (VS B.o.size V.size) λk hk _=>(V.block k (vw hk B.o.size)).trans (B.o.block k hk)) (λk hk=>⟨(aK k hk).1,vw (aK k hk).2 V.size⟩) (λb o h=>uk (hC b o h)) (by have:=B.o.size;have:=V.size;omega) (bl.o.mono (λ_ _ h=>h) λb o x A hx=>(tk (a:=⟨b,o,none⟩) ((V.block b (by have:=hC b o A;have:=B.o.size;omega)).trans (B.o.block b (by have:=hC b o A;omega)))).trans hx)
   have br:=qL bg;have ax:Below y.heap.size y y.drew:=(tq _ _).drew;have bn:=qL be;have ba:0<I:=a9;have aq:=B.o.size;clear bg U Y ay ea eb aI bB be aK;obtain⟨Q,aQ⟩:=xm (y);subst aQ
   go_wp2_with fail
   refine Kg (Sw:=qe) 16 51 (λN=>Below Q.heap.size Q N/\N.cell? ⟨rb,0,none⟩=some (.slice (some ⟨g,0,none⟩) o.length I)/\N.cell? ⟨g,i*2,none⟩=some (.slice ai o[i].items.length ci)/\N.cell? ⟨w.heap.size,0,none⟩=some (.slice aa f.items.length ca)) dM dM rfl ⟨ax,c2,aW,g0⟩ ?_;simp only[wO,wY];refine Jz ?_;refine V7 (λu N=>Dat (DX C (rb+1) N (.slice (some ⟨g,0,none⟩) o.length I)) N u (rg (qy zn o[i].items f.items))) (λu wa Q h hk=>DX.keep h hk.size λk S _=>hk.block k S id) rfl ?_ ?_
   .intro a2 y A hk P K hK;have HK:=qL hK;clear hK;simp[Rds,zA,lk,Op.operands,Call.operands,RdEq]at P;go_simp;refine(br.o _ A.1).mono ?_;rintro e w3 ⟨u,rfl,hb,hd⟩;have J:Keep qe _ w3:=Keep.of_below' hb (Zp _);exact HK.o _ _ J ⟨A.1.trans (hb.mono A.1.size),J.cell_some A.2.1 id,J.cell_some A.2.2.1 id,J.cell_some A.2.2.2 id⟩ hd
   simp only[Y1,yb];refine Jz ?_;intro y H S;simp only[finG,WQ,Y1,yb,wM,Wh,WR];simp only[Act.put,ww,wR,wS];intro u hu;obtain⟨F,G,rfl⟩:=zK hu;have HU:=qL hu;have aw:=qL H.1;have c3:=H.2.2.1;have f3:y.frozen? ⟨g,i*2,none⟩=false:=by have:=(H.1.block g bH).trans bn.o;simp[World.frozen?,this]
   clear hu H S ax c2 aW g0 g1 f2
   go_wp2
   (try simp only[Exit.inBlock,Exit.then]);refine tx (tJ rfl _ _ _) rfl ?_
   have ah:=(bq.o.keep (w':=y) aw.o.size λk hk=>aw.o.block k hk).set an HU.o ba;have M:qN o f=o.take i++⟨qy zn o[i].items f.items,o[i].vec⟩::o.drop (i+1):=(by rw[aC.o,uo an,vj hz,<-YU hz]);rw[M];refine⟨⟨_,rfl⟩,_,?_,ah,?_⟩
   .refine(tv _ _ _ _ (by show rb≠g;omega)).trans ((aw.o.block rb a9).trans ((B.o.block rb a9).trans aU.o))
   .have aN:Keep (λk=>k=rb\/base<=k) w O:=(by rw[aT.o];exact(Keep.refl _ w).alloc _);exact((aN.trans (Keep.of_below' B.o (Zp _))).trans (Keep.of_below' aw.o (Zp _))).setCell (λ_=>.inr bG) _
 | false=>
   have M:qN o f=o.take i++f::o.drop i:=by
    rw[aC.o];have hh:=aB.o;unfold zc1 at hh;split at hh
    .rename_i h;rw[uo h,vD (dL hh)]
    .rename_i h;rw[UI h,wj a9,wE a9]
   have bp:=qL M;have aq:=B.o.size;have bc:∀W,Below y.heap.size y W->Calls xt 64 #[.slice aa f.items.length ca] W λe w'=>∃F G,e=.returned (.slice F f.items.length G)/\OwnR W.heap.size w' (.slice F f.items.length G) f.items/\Below W.heap.size W w':=λW V=>(by have bE:=DX.keep aS.o (VS aq V.size) λk hk _=>(V.block k (vw hk aq)).trans (B.o.block k hk);refine(zeX (je bE (λb o h=>h.1.elim (λh=>by have:=hC b o h;have:=V.size;omega) W9) T.fo.2.2.1.lt) (by have:=T.fi;omega)).mono ?_;rintro e w' ⟨v',rfl,h1,h2⟩;obtain⟨F,G,rfl⟩:=zK (jp (D:=λ_ _=>True) h1.rd λ_ _ _ _=>trivial);exact⟨F,G,rfl,h1,h2⟩);have bi:=qL bc;clear bc M;have ax:Below y.heap.size y y.drew:=(tq _ _).drew;obtain⟨Q,aQ⟩:=xm (y);subst aQ
   go_wp2_with fail
   refine znC [1,2,3,4,5,6,7,8,9,10,11,12,0,13,14,15,16] 12 51 (λN=>Below Q.heap.size Q N/\N.cell? ⟨rb,0,none⟩=some (.slice ad o.length I)/\N.cell? ⟨w.heap.size,0,none⟩=some (.slice aa f.items.length ca)/\N.cell? ⟨w.heap.size,1,none⟩=some (.slice av f.vec.length cv)) aR dM dM rfl ⟨ax,c2,g0,g1⟩ _ _ rfl rfl rfl rfl _ rfl ?_;simp only[z8,Wx,W6,List.getD_cons_zero,List.getD_cons_succ,wO,wY,wM,Wh];repeat (refine Pl.wdetK ?_ rfl (λa w A _ P=>?_) ?_;rotate_left;(simp[Pl.Rds,zA,Pl.lk,Op.operands,Call.operands,RdEq]at P;go_simp;with_reducible rfl);simp only[Y1,yb])
   refine Pl.wgenK (λu N=>∃F G,u=.slice F f.items.length G/\OwnR Q.heap.size N u f.items) (λu _ _ h hk=>by obtain⟨F,G,e,h⟩:=h;exact⟨F,G,e,h.keep hk λ_ _ h=>h⟩) rfl ?_ ?_
   .intro a2 y A hk P K hK;have HK:=qL hK;clear hK;simp[Pl.Rds,zA,Pl.lk,Op.operands,Call.operands,RdEq]at P;go_simp;refine(bi.o _ A.1).mono ?_;rintro e w3 ⟨F,G,rfl,ho,hb⟩;have J:Keep qe _ w3:=Keep.of_below' hb (Zp _);exact HK.o _ _ J ⟨A.1.trans (hb.mono A.1.size),J.cell_some A.2.1 id,J.cell_some A.2.2.1 id,J.cell_some A.2.2.2 id⟩ ⟨F,G,rfl,ho.mono A.1.size⟩
   simp only[Y1,yb];repeat (refine Pl.wdetK ?_ rfl (λa w A _ P=>?_) ?_;rotate_left;(simp[Pl.Rds,zA,Pl.lk,Op.operands,Call.operands,RdEq]at P;go_simp;with_reducible rfl);simp only[Y1,yb])
   refine Pl.wgenK (λu N=>∃F G,u=.agg #[.slice F f.items.length G,.slice av f.vec.length cv]/\OwnR Q.heap.size N (.slice F f.items.length G) f.items) (λu _ _ h hk=>by obtain⟨F,G,e,h⟩:=h;exact⟨F,G,e,h.keep hk λ_ _ h=>h⟩) rfl ?_ ?_
   .intro a2 y A hk P K hK;have HK:=qL hK;clear hK;simp[Pl.Rds,zA,Pl.lk,Op.operands,Call.operands,RdEq]at P;obtain⟨⟨_,⟨e1,e2⟩,⟨F,G,rfl⟩,ho⟩,e3,e4⟩:=P;go_simp;exact HK.o _ _ (Keep.refl _ _) A ⟨F,G,rfl,ho⟩
   simp only[Y1,yb];refine Pl.wgenK (λu N=>∃Z F G vt,u=.slice (some ⟨Z,0,none⟩) 1 1/\N.heap[Z]?=some (.cells #[.slice F f.items.length G,.slice av f.vec.length cv] vt (0,0))/\Q.heap.size<=Z/\OwnR Q.heap.size N (.slice F f.items.length G) f.items) (λu _ _ h hk=>by obtain⟨Z,F,G,vt,e,h1,h2,h3⟩:=h;exact⟨Z,F,G,vt,e,hk.obj h1 id,h2,h3.keep hk λ_ _ h=>h⟩) rfl ?_ ?_
   .intro a2 y A hk P K hK;have HK:=qL hK;clear hK;simp[Pl.Rds,zA,Pl.lk,Op.operands,Call.operands,RdEq]at P;obtain⟨_,⟨e1,e2⟩,F,G,rfl,ho⟩:=P;go_simp;refine HK.o _ _ ((Keep.refl _ _).alloc _) ⟨A.1.alloc A.1.size _,?_,?_,?_⟩ ⟨y.heap.size,F,G,_,rfl,tl y _,A.1.size,ho.keep ((Keep.refl qe _).alloc _) λ_ _ h=>h⟩
    .exact((Keep.refl qe _).alloc _).cell_some A.2.1 id
    .exact((Keep.refl qe _).alloc _).cell_some A.2.2.1 id
    .exact((Keep.refl qe _).alloc _).cell_some A.2.2.2 id
   simp only[Y1,yb];repeat (refine Pl.wdetK ?_ rfl (λa w A _ P=>?_) ?_;rotate_left;(simp[Pl.Rds,zA,Pl.lk,Op.operands,Call.operands,RdEq]at P;go_simp;with_reducible rfl);simp only[Y1,yb])
   have ah:∀(y:World)(Z:Nat) (F G) (vt:TypeId),Below Q.heap.size Q y->y.heap[Z]?=some (.cells #[.slice F f.items.length G,.slice av f.vec.length cv] vt (0,0))->Q.heap.size<=Z->OwnR Q.heap.size y (.slice F f.items.length G) f.items ->
    Calls xt 188 #[.slice ad o.length I,.int .i64 (i:Nat),.slice (some ⟨Z,0,none⟩) 1 1] y λe w3=>∃g3 L,e=.returned (.slice (some ⟨g3,0,none⟩) (o.length+1) L)/\Boxed w3 rb 233 (.slice ad o.length I)/\OutG C (rb+1) base (w3.setCell ⟨rb,0,none⟩ (.slice (some ⟨g3,0,none⟩) (o.length+1) L)) (.slice (some ⟨g3,0,none⟩) (o.length+1) L) (qN o f)/\Keep (λk=>k=rb\/base<=k) w w3:=by
    intro y Z F G vt ab ag aj af;have aO:=(aE.o.keep (w':=Q) aq λk hk=>B.o.block k hk).keep (w':=y) ab.size λk hk=>ab.block k hk;obtain⟨xs,Y,ay⟩:=id aO;have aP:=(aE.o.keep (w':=Q) aq λk hk=>B.o.block k hk).owns;refine(Q1 base Z vt y _ o.length xs _ _ i rfl rfl hi Y ag (λe=>by have:=(aP Z e).2;omega) (by have:=T.l;omega) (by have:=ab.size;omega)).mono ?_;rintro e w3 ⟨v',rfl,X,aM,bK⟩;have bR:=ab.size;have hp:Dat (DX C (rb+1) y (.slice ad o.length I)) y (.slice F f.items.length G) (rg f.items):=jp af.rd λb o h1 h2=>⟨.inr ⟨a9,h2⟩,λe=>by have:=(aP b e).2;omega⟩;have hq:Dat (DX C (rb+1) y (.slice ad o.length I)) y (.slice av f.vec.length cv) (vp f.vec):=DX.keep bj.o a9 λk hk _=>(ab.block k a9).trans (B.o.block k hk);have bF:=OutG.ins hi Y.2.1 ay hp hq (λb o h=>uk (hC b o h)) a9 X aM bK;obtain⟨g3,L,bL,rfl,_⟩:=X.cases.resolve_left λh=>a9;have E:Boxed w3 rb 233 (.slice ad o.length I):=Boxed.kept ((ab.block rb a9).trans ((B.o.block rb a9).trans aU.o)) aM λe=>(by have:=(aP rb e.symm);have:=(Y.1.lt rb e.symm).1;omega);refine⟨g3,L,rfl,E,?_,?_⟩
    .rw[bp.o];exact bF.box a9 a9 λb o h=>by have:=hC b o h;omega
    .have aN:Keep (λk=>k=rb\/base<=k) w O:=(by rw[aT.o];exact(Keep.refl _ w).alloc _);exact(((aN.trans (Keep.of_below' B.o (Zp _))).trans (Keep.of_below' ab (Zp _)))).grown aM λk hk _=>.inr (Y.1.lt k hk).1
   have aA:=qL ah;clear ah;refine⟨λy H S=>?_,λy H S=>?_⟩<;>(simp only[Pl.finG,WQ,Y1,yb,wO,wY,wM,Wh,WR,jA,Option.map_none];simp only[Act.put,ww,wR,wS])
   .rintro _ ⟨bu,bz,rfl,_⟩ _ ⟨bw,bA,rfl,_⟩ _ ⟨Z,F,G,vt,rfl,ag,aj,af⟩;have HQ:=qL (aA.o y Z F G vt H.1 ag aj af);clear ag af H S
    go_wp2_with (first
     | (go_at_call 188;refine HQ.o.mono ?_;rintro e w3 ⟨g3,L,rfl,E,X,am⟩
        have aF:=qL X;have aD:=qL am;have aG:=qL E;have c9:=E.cell;have f9:=E.frozen;clear X am E)
     |go_in)
    go_end0
    exact⟨⟨_,rfl⟩,_,aG.o.set _,aF.o,aD.o.setCell (λ_=>.inl rfl) _⟩
   .rintro _ ⟨bu,bz,rfl,_⟩ _ ⟨bw,bA,rfl,_⟩ _ ⟨Z,F,G,vt,rfl,ag,aj,af⟩;have HQ:=qL (aA.o y Z F G vt H.1 ag aj af);clear ag af H S
    go_wp2_with (first
     | (go_at_call 188;refine HQ.o.mono ?_;rintro e w3 ⟨g3,L,rfl,E,X,am⟩
        have aF:=qL X;have aD:=qL am;have aG:=qL E;have c9:=E.cell;have f9:=E.frozen;clear X am E)
     |go_in)
    go_end0
    exact⟨⟨_,rfl⟩,_,aG.o.set _,aF.o,aD.o.setCell (λ_=>.inl rfl) _⟩
end
section
open Go.Sort
def OwnU.base{base j:Nat}{w:World}{v:Value}{l:List Nat}(h:OwnU base w v l)(hb:j<=base):OwnU j w v l:=by
 refine⟨h.1,?_⟩;rcases h.2 with h|⟨g,o,u,e,y,r⟩
 .exact .inl h
 .exact .inr ⟨g,o,u,e,VS hb y,r⟩
def zeb{w:World}{base:Nat}{v:Value}{l:List Nat}(h:OwnU base w v l)(T:l≠[])(hl:l.length<4611686018427387904):∃V,V.Perm l/\V.Pairwise (·<=·) /\
 Calls xt 118 #[v] w λe X=>e=.returned (.tuple #[])/\OwnU base X v V/\w.grownBy X v.ownBlock:=by
 obtain⟨E,hzs⟩:∃E:List Int,E=l.map λx:Nat=>(x:Int):=⟨_,rfl⟩;have J:E.length=l.length:=by rw[hzs];simp
 obtain⟨u,I⟩:∃u:List Int,u=E.mergeSort λx y=>decide (x<=y):=⟨_,rfl⟩;have o:u.Perm E:=by rw[I];exact List.mergeSort_perm _ _
 have G:u.Pairwise (λx y=>x<=y):=by
  have:=List.pairwise_mergeSort (le:=fun(x y:Int)=>decide (x<=y)) (λa b c Y P=>by simp at *;omega) (λa b=>b6) E;rw[<-I]at this;exact this.imp λh=>dL h
 have C:∀z∈u,∃x:Nat,x∈l/\z=(x:Int):=λz hz=>by have:=o.mem_iff.1 hz;rw[hzs,wy]at this;obtain⟨x,U,rfl⟩:=this;exact⟨x,U,rfl⟩
 have S:(u.map Int.toNat).map (λx:Nat=>(x:Int))=u:=by rw[Ub];refine(UG (g:=id) λz hz=>?_).trans (List.map_id _);obtain⟨x,_,rfl⟩:=C z hz;simp
 refine⟨u.map Int.toNat,?_,?_,?_⟩
 .have:=o.map Int.toNat
  rw[hzs,Ub]at this
  rwa[show l.map (Int.toNat∘λx:Nat=>(x:Int))=l from (UG (g:=id) λ_ _=>rfl).trans (List.map_id _)]at this
 .rw[uz];exact G.imp λh=>a9
 .rcases h.cases with⟨_,h0⟩|⟨g,K,A,rfl,Y,P,Q,h4,h5,h6,h7⟩
  .exact absurd h0 T
  .have hH:Holds zg w g 0 E.toArray:=(by intro j L;have M:j<l.length:=(by rw[<-J];simpa using L);refine⟨?_,by simp[World.frozen?,Q]⟩;have q:(A.toList.take l.length)[j]?=(l.map uV)[j]?:=(by rw[h7]);rw[UU M]at q;simp only[World.cell?,Q,wk];simp only[Option.isSome_none,uD,UV];rw[<-uU,q];simp[M,hzs,uV]);have Z:=j7 g 0 K E w hH P a9;rw[J]at Z;refine Z.mono ?_;rintro e X ⟨rfl,n,os,rfl⟩;rw[<-I];have B:u.length=l.length:=(by rw[o.length_eq,J]);have F:(Sort.grow (Sort.putRow zg (Sort.ahead w n) g 0 u.toArray) os).heap[g]?=some (.cells (Sort.putCells zg 0 u.toArray A) 36 (0,0)):=(by rw[Sort.heap_grow_old _ _ (dL P)];simp[Sort.putRow,Sort.mapBlock,Sort.ahead,U5,Q,Sort.onCells]);have H:(Sort.putCells zg 0 u.toArray A).toList.take l.length=(u.map Int.toNat).map uV:=by
    apply Un;intro j;by_cases L:j<l.length
    .rw[UU L,uU];have N:j<u.length:=a9;obtain⟨x,_,U⟩:=C u[j] (Yf N);simp[Sort.putCells,N,show j<A.size by omega,uV,U]
    .rw[List.getElem?_take_eq_none a9,WU b6]
   refine⟨rfl,⟨by simp[B],.inr ⟨g,K,_,by simp[B],Y,F,by simpa[B]using h4,h5,by simp[Sort.putCells,h6],?_⟩⟩,⟨rfl,rfl,rfl,b7,λj L O=>?_⟩⟩
   .rw[wt,Uh,B];exact H
   .rw[Sort.heap_grow_old _ _ (dL L)];have:g≠j:=λe=>O (by rw[<-e];rfl);simp[Sort.putRow,Sort.mapBlock,Sort.ahead,U5,this]
end
section
open Go.Maps
attribute [-go_sem] z7
def MapS(D:DV)(S:List Nat):Prop:=IsMap D/\∀r,has D (kR r)=decide (r∈S)
def MapS.nil:MapS (.map []) []:=⟨⟨[],rfl⟩,λr=>by simp[has]⟩
def MapS.put{D:DV}{S:List Nat}(h:MapS D S)(r:Nat)(v:DV):MapS (D.put (kR r) v) (S++[r]):=by
 refine⟨h.1.put _ _,λs=>?_⟩;by_cases e:s=r
 .subst e;rw[TU h.1 (Qc _)];simp
 .rw[TQ (λh=>e (Xa h)),h.2 s];simp[e]
def MI(B:Nat)(w:World)(S:List Nat):Prop:=∃D,w.ownsMap xt 36 rV B S.length D/\MapS D S
def MI.made(w:World):MI w.heap.size (w.alloc (.map #[] 0)) []:=⟨_,TM _ _ _ _,MapS.nil⟩
def MI.keep{B:Nat}{w w':World}{S:List Nat}(h:MI B w S)(hb:w'.heap[B]?=w.heap[B]?):MI B w' S:=by obtain⟨D,j,o⟩:=h;exact⟨D,yg j hb,o⟩
def MI.lt{B:Nat}{w:World}{S:List Nat}(h:MI B w S):B<w.heap.size:=by obtain⟨D,j,_⟩:=h;exact j.lt
def xe{w:World}{C:Array Oper}{rest:List Oper}{o:Oper}{a:Act}{Q:Exit->Act->World->Prop}(L:o.guard=none)(m x v:Operand)
 (j:o.op=.mapUpdate 268 m x v\/o.op=.insert 268 m x v) {B:Nat} {S:List Nat} (G:a.eval m=.map (some B)) (h:MI B w S) (M:S.length<maxLen) {r:Nat} (N:r<zk) (H:a.eval x=.int .u64 (r:Nat))
 (F:∀y,MI B y (S++[r])->w.grownBy y (some B)->wpList xt C Q rest (a.put o.dst undef) y):wpList xt C Q (o::rest) a w:=by
 obtain⟨D,K,E⟩:=h;refine TT L λO A=>?_;obtain⟨y,u,I,J⟩:=K.update vF underlying268 M (Zq N) (val:=a.eval v) rfl;unfold Oper.wp;rcases j with j|j
 .simp[execOp,j,G,H,u,Result.andThen];exact A _ _ (F y ⟨_,dL I,E.put r _⟩ J)
 .simp[execOp,j,G,H,u,Result.andThen];exact A _ _ (F y ⟨_,dL I,E.put r _⟩ J)
def rdG(y:Nat)(w:World)(b o:Nat)(f:Fg):Prop:=(∃j,w.cell? ⟨b,o,none⟩=some j/\RdR 0 y w j f.items)/\∃u n c,w.cell? ⟨b,o+1,none⟩=some (.slice u n c)
def ze3{D:xT}{w:World}{x:Value}{k:List Fg}(h:Dat D w x (kp k))(E:∀b o,D b o->b<w.heap.size)(hb:RightK k):RdSl 2 (rdG w.heap.size) 0 w.heap.size w x k:=by
 unfold kp at h;generalize F:k.map fc=es at h;cases h with
 |sl a cap sz es o b off u hc hz hm ha hsz hd hx=>have G:es.length=k.length:=(by rw[<-F];simp);refine⟨a,cap,by rw[G],a9,hm,λB=>?_⟩;have y:0<k.length:=wU.2 B;have g:∀i (h:i<k.length),es[i]?=some (fc k[i]):=λi h=>(by rw[<-F];exact xo h);obtain rfl:2=sz:=hsz 0 _ (g 0 y);have A:es≠[]:=(by intro e;subst e;simp at G;omega);have j:b<w.heap.size:=E _ _ (hd 0 a9).1;refine⟨b,off,ha A,X4 _,j,λi hi=>?_⟩;have J:=hx i _ 0 _ (g i hi) rfl;have e1:=hx i _ 1 _ (g i hi) rfl;have I:=(hd (i*2+0) a9).2.1;have C:=(hd (i*2+1) a9).2.1;obtain⟨L,c,K,M,H,N,q,_⟩:=(Rel.dat (ρ:=λ_=>0) (nb:=0) (show Dat D w (u (i*2+1)) (.sl (k[i].vec.map ec) .sh) from e1)).inv_sl;rw[q]at C;exact⟨⟨_,I,je J E (hb _ (Yf hi)).1.lt⟩,_,_,_,C⟩
def Ky{k:List Fg}{i:Nat}(hi:i<k.length):CI (k.take (i+1))=CI (k.take i)++z6 k[i].items:=by unfold CI;rw[X3 hi,Wj];simp
def zaV{l:List Iv}{j:Nat}(o:j<l.length):z6 (l.take (j+1))=z6 (l.take j)++jQ l[j]:=by unfold z6;rw[X3 o,Wj];simp
def ze0{s:Iv}(h:s.hi=zk-1):jQ s=[s.lo]:=by unfold jQ;rw[vD a9]
def zcz{s:Iv}(h:s.hi<zk-1):jQ s=[s.lo]++[s.hi+1]:=by unfold jQ;rw[vj h];rfl
def zfO(w:World):Calls xt 51 #[.int .u64 18446744073709551615] w λe j=>e=.returned (.tuple #[.int .u64 0,.bool false])/\j=w:=by
 go_enter func51,ntmps51
 go_wp2;all_goals (refine tx (Tn rfl _ _ _) rfl ?_;refine⟨?_,rfl⟩;simp;try omega)
def zdr(x:Nat)(o:x<18446744073709551615)(w:World):Calls xt 51 #[.int .u64 (x:Nat)] w λe j=>e=.returned (.tuple #[.int .u64 ((x:Int)+1),.bool true])/\j=w:=by
 go_enter func51,ntmps51
 go_wp2;all_goals (refine tx (Tn rfl _ _ _) rfl ?_;refine⟨?_,rfl⟩;simp;try omega)
def zgc(w:World):Calls xt 190 #[.int .u64 0] w λe j=>e=.returned (.tuple #[.int .u64 0,.bool false])/\j=w:=by
 go_enter func190,ntmps190
 go_wp2;all_goals (refine tx (Tn rfl _ _ _) rfl ?_;refine⟨?_,rfl⟩;simp;try omega)
def VH(x:Nat)(o:x<18446744073709551615)(w:World):Calls xt 190 #[.int .u64 ((x:Int)+1)] w λe j=>e=.returned (.tuple #[.int .u64 (x:Nat),.bool true])/\j=w:=by
 go_enter func190,ntmps190
 go_wp2;all_goals (refine tx (Tn rfl _ _ _) rfl ?_;refine⟨?_,rfl⟩;simp;try omega)
def RgS(B r n:Nat)(S:List Nat)(keep:Nat->Bool)(g:Nat)(left:Lit->Bool)(w:World):Prop:=
 ∃D,w.ranges xt 36 rV B r n D left g/\IsMap D/\(∀x,has D (kR x)=(decide (x∈S) && (left (kR x) || keep x)))/\∀x,left (kR x)=true->x∈S
def GotS(S:List Nat)(left:Lit->Bool)(l:List Nat):Prop:=l.Nodup/\∀x,x∈l↔x∈S/\left (kR x)=false
def zay{left:Lit->Bool}{r x:Nat}:(left (kR r) && !(kR r).sameKey (kR x))=(left (kR r) && !decide (r=x)):=by
 have h:(kR r).sameKey (kR x)=decide (r=x):=by simp[kR,Lit.sameKey];omega
 rw[h]
section
variable {B r n g x:Nat}{S:List Nat}{kp:Nat->Bool}{left:Lit->Bool}{w:World}{D:DV}
def RgS.next(o:IsMap D)(u:∀y,has D (kR y)=(decide (y∈S) && (left (kR y) || kp y)))(A:∀y,left (kR y)=true->y∈S)(C:left (kR x)=true)(hk:kp x=true)
 (h:w.ranges xt 36 rV B r n D (λz=>left z && !z.sameKey (kR x)) g):RgS B r n S kp g (λz=>left z && !z.sameKey (kR x)) w:=by
 refine⟨D,h,o,λy=>?_,λy j=>A y ?_⟩
 .dsimp only;rw[u y,zay];by_cases e:y=x
  .subst e;simp[hk]
  .simp[e]
 .dsimp only at j;cases h0:left (kR y)with
  |true=>rfl
  |false=>rw[h0]at j;simp at j
def RgS.del(o:IsMap D)(u:∀y,has D (kR y)=(decide (y∈S) && (left (kR y) || kp y)))(A:∀y,left (kR y)=true->y∈S)(hk:kp x=false)
 (h:w.ranges xt 36 rV B r n (D.del (kR x)) (λz=>(left z && !z.sameKey (kR x)) && !z.sameKey (kR x)) g):RgS B r n S kp g (λz=>left z && !z.sameKey (kR x)) w:=by
 rw[Maps.strike_twice]at h;refine⟨_,h,o.del _,λy=>?_,λy j=>A y ?_⟩
 .dsimp only;rw[zay];by_cases e:y=x
  .subst e;rw[has_del_same];simp[hk]
  .rw[has_del_other (λh=>e (Xa h)),u y];simp[e]
 .dsimp only at j;cases h0:left (kR y)with
  |true=>rfl
  |false=>rw[h0]at j;simp at j
def RgS.keep{w':World}(h:RgS B r n S kp g left w)(hb:w'.heap[B]?=w.heap[B]?)(u:w'.heap[r]?=w.heap[r]?):RgS B r n S kp g left w':=by obtain⟨D,j,o⟩:=h;exact⟨D,yD j hb u,o⟩
def GotS.nil(h:∀y,left (kR y)=true↔y∈S):GotS S left []:=
 ⟨UN,λy=>by
  constructor
  .intro h;cases h
  .rintro⟨o,j⟩;rw[(h y).2 o]at j;cases j⟩
def GotS.push{l:List Nat}(h:GotS S left l)(A:left (kR x)=true)(w:x∈S):GotS S (λz=>left z && !z.sameKey (kR x)) (l++[x]):=by
 refine⟨Up.2 ⟨h.1,b7,λa u b hb e=>?_⟩,λy=>?_⟩
 .rw[wD]at hb;rw[e,hb]at u;have:=((h.2 x).1 u).2;rw[A]at this;cases this
 .dsimp only;rw[QM,wA,wD,h.2 y];constructor
  .rintro(⟨o,j⟩|rfl)
   .exact⟨o,.inl j⟩
   .exact⟨w,.inr rfl⟩
  .rintro⟨o,j|j⟩
   .exact .inl ⟨o,j⟩
   .exact .inr j
end
def kpB(k:List Fg)(x:Nat):Bool:=decide (x=0) || !decide (zU k (x-1)=zU k x)
def Yd{k:List Fg}(y:RightK k){l:List Nat}(w:l.Pairwise (·<=·))(u:l.Nodup)(o:∀x,x∈l↔x∈0::CI k/\(x=0\/zU k (x-1)≠zU k x)):l=zq k:=by
 have j:YN l:=by refine(List.pairwise_and_iff.2 ⟨w,u⟩).imp ?_;intro a b h;have:=h.1;have:=h.2;omega
 refine jK j (xc k) λx=>?_;rw[o,zq,Wq,zH,qr,yU];have e1:(k.map Fg.items).flatMap z6=CI k:=by unfold CI;rw[Ua]
 rw[e1];simp only[WA,wC,Wg];refine uT λ_=>or_congr_right ?_;rw[ne_eq,Vp,W5]
end
end Go.Proofs.YtjdjjlkifdimkaaGreatDoor
