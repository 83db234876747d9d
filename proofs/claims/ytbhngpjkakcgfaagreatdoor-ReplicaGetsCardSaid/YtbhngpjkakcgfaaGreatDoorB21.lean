import Derived.Test.YtbhngpjkakcgfaaGreatDoorB20
set_option maxHeartbeats 16000000
set_option linter.all false
set_option maxRecDepth 100000
namespace Go.Proofs.YtbhngpjkakcgfaaGreatDoor
open Go.Proofs.Tryz renaming prog->xT
section
open Go.RowKit Go.Lib
attribute [-go_sem] z7
def Z9:(xT.info? 72).map (λi=>(i.zero,i.size,i.bytes))=some (some (.agg #[.slice none 0 0,.slice none 0 0]),2,48):=dK
def OwnC(base:Nat)(w:World)(v:Value)(n:Nat)(j:List Value):Prop:=w.ownsRow base 72 2 v n j/\j.length=n*2/\∀u∈j,u.oneCell'=true
def OwnC.cases{base:Nat}{w:World}{v:Value}{n:Nat}{B:List Value}(h:OwnC base w v n B):(v=.slice none 0 0/\n=0/\B=[]) \/
 ∃g j u,v=.slice (some ⟨g,0,none⟩) n j/\base<=g/\g<w.heap.size/\w.heap[g]?=some (.cells u 72 (0,0))/\n<=j/\j<=maxLen/\u.size=j*2/\u.toList.take (n*2)=B:=by
 rcases h.1.2 with⟨y,A⟩|⟨g,j,u,y,A,C,E,F,G,H⟩
 .subst A;exact .inl ⟨y,rfl,wX.1 (by rw[h.2.1])⟩
 .exact .inr ⟨g,j,u,y,A,(XE.1 C).1,C,E,F,G,H⟩
def vI{w:World}{B:Nat}{vt:TypeId}{p q:Value}(A:w.heap[B]?=some (.cells #[p,q] vt (0,0))):∀j u,[p,q][j]?=some u->w.cell? ((⟨B,0,none⟩:Addr).add j)=some u:=λj u y=>by
 match j,y with
 |0,y=>cases y;simp[World.cell?,Addr.add,A]
 |1,y=>cases y;simp[World.cell?,Addr.add,A]
 |j+2,y=>simp at y
def yF{p q:Value}(w:p.oneCell'=true)(y:q.oneCell'=true):∀u∈[p,q],u.oneCell'=true:=λu j=>by
 simp at j;rcases j with rfl|rfl
 .exact w
 .exact y
def run_copy_k{P:Program}(w:World)(H O Q y:TypeId)(b o u C:Nat)(a:Addr)(A F sz:Nat)(B:List Value)
 (N:P.underlying H=some (.slice y)) (hs:(P.info? y).map (·.size)=some sz) (M:B.length=Nat.min A u*sz)
 (E:∀j v,B[j]?=some v->w.cell? (a.add j)=some v) (J:∀j,j<B.length->(w.cell? ⟨b,o+j,none⟩).isSome=true) (K:∀j,j<B.length->w.frozen? ⟨b,o+j,none⟩=false) (I:∀v∈B,v.oneCell'=true) :
 (Builtin.copy_ #[H,O] Q #[.slice (some ⟨b,o,none⟩) u C,.slice (some a) A F]).run P w=.ok (goInt (Nat.min A u)) (w.setCells b o B):=by
 have L:=run_loadCells_list (P:=P) w a B E;have G:=run_storeCells_cells (P:=P) b o B 0 w (dJ J) (dJ K) I;cases hq:P.info? y with
 |none=>simp[hq]at hs
 |some i=>have hi:i.size=sz:=(by simpa[hq]using hs);simp[Builtin.copy_,tH N,Builtin.lenOf,Builtin.firstCells,sizeOf,typeInfo,hq,hi,<-M,L,G]
def zaF{P:Program}{t j u e e2:TypeId}{b:Option Addr}{n c:Nat}{x:Value}{w:World}(y:P.underlying t=some (.slice e))(A:P.underlying j=some (.slice e2)):(Builtin.append_ #[t,j] u #[.slice b n c,x]).run P w=(Builtin.append_ #[t,t] u #[.slice b n c,x]).run P w:=by simp[Builtin.append_,tH y,tH A]
def yR{P:Program}{w:World}{I:Array Oper}{rest:List Oper}{o:Oper}{a:Act}{Q:Exit->Act->World->Prop}(O:o.guard=none)(s x:Operand)(t X e2:TypeId)
 (ho:o.op=.call { callee:=.builtin .append,args:=#[s,x],argTypes:=#[t,X] }) (T:P.underlying X=some (.slice e2))
 (base:Nat) (e:TypeId) (i:TypeInfo) (z:Value) (size A:Nat) (ht:P.underlying t=some (.slice e)) (hi:P.info? e=some i) (hz:i.zero=some z)
 (G:i.size=size) (N:i.bytes=A) (hzs:z.cells.size=size) (S:0<size)
 (v:Value) (n:Nat) (U:List Value) (hs:a.eval s=v) (C:w.ownsRow base e size v n U)
 (L:Addr) (m c:Nat) (y:List Value) (hx:a.eval x=.slice (some L) m c) (hl:y.length=m*size) (F:∀j u,y[j]?=some u->w.cell? (L.add j)=some u) (Y:∀u∈y,u.oneCell'=true)
 (M:n+m<=maxLen) (B:(n+m)*A<=140737488355328) (E:base<=w.heap.size)
 (h:∀H J,J.ownsRow base e size H (n+m) (U++y)->w.grownBy J v.ownBlock->(H.ownBlock=v.ownBlock\/H.ownBlock=some w.heap.size)->wpList P I Q rest (a.put o.dst H) J) :
 wpList P I Q (o::rest) a w:=by
 refine TX O λK hK=>?_;obtain⟨H,J,V,Z,h3,_,h5⟩:=Ti (P:=P) w base t o.type e i z size A ht hi hz G N hzs S v n U C L m c y hl F Y M B E;obtain⟨b0,n0,c0,rfl⟩:∃b n c,v=.slice b n c:=by rcases C.2 with⟨h,_⟩|⟨_,_,_,h,_⟩<;>exact⟨_,_,_,h⟩
 rw[<-zaF ht T]at V;unfold Oper.wp execOp;simp only[ho,resolve,invoke,builtin,tG,tI,tA,ug,Wz,W7,hs,hx,V];exact hK _ _ (h H J Z h3 h5)
def zc2(base L:Nat)(vt:TypeId)(w:World)(v:Value)(n:Nat)(M:List Value)(p q:Value)(hp:p.oneCell'=true)(hq:q.oneCell'=true)(j:OwnC base w v n M)(S:w.heap[L]?=some (.cells #[p,q] vt (0,0)))(hl:n<=1073741824)(A:base<=w.heap.size):
 Calls xT 181 #[v,.int .i64 (n:Nat),.slice (some ⟨L,0,none⟩) 1 1] w λe C=>∃y,e=.returned y/\OwnC base C y (n+1) (M++[p,q])/\w.grownBy C v.ownBlock/\(y.ownBlock=v.ownBlock\/y.ownBlock=some w.heap.size):=by
 obtain⟨X,G,I,J,K⟩:=tQ Z9;have V:=vI S;have B:=yF hp hq;have fin:∀y C,C.ownsRow base 72 2 y (n+1) (M++[p,q])->OwnC base C y (n+1) (M++[p,q]):=λy C h=>⟨h,by have:=j.2.1;simp;omega,λu H=>by
  rcases wE.1 H with H|H
  .exact j.2.2 u H
  .exact B u H⟩
 have T:=qL j.1;rcases j.cases with⟨rfl,rfl,rfl⟩|⟨g,N,Y,rfl,Z,ab,ac,ad,O,P,Q⟩
 .clear j;go_enter Tryz.func181,Tryz.ntmps181
  go_wp2_with (at_builtin;refine yR rfl _ _ 24 23 72 rfl Tryz.underlying23 base 72 X (.agg #[.slice none 0 0,.slice none 0 0]) 2 48 Tryz.underlying24 G I J K rfl b8 _ _ _ rfl T.o ⟨L,0,none⟩ 1 1 [p,q] rfl rfl V B (by simp[maxLen]) b6 A ?_;intro y C ho F E)
  go_ret;exact⟨y,rfl,fin y C ho,F,E⟩
 .unfold maxLen at O;have U:N<=9223372036854775807:=a8;clear j Q P;go_enter Tryz.func181,Tryz.ntmps181
  go_wp2_with (at_builtin;refine yR rfl _ _ 24 23 72 rfl Tryz.underlying23 base 72 X (.agg #[.slice none 0 0,.slice none 0 0]) 2 48 Tryz.underlying24 G I J K rfl b8 _ _ _ rfl T.o ⟨L,0,none⟩ 1 1 [p,q] rfl rfl V B c8 a8 A ?_;intro y C ho F E)
  all_goals (go_ret;exact⟨y,rfl,fin y C ho,F,E⟩)
def zS:Value:=.slice none 0 0
def zgF(n:Nat):(Builtin.zeroCells (Value.agg #[.slice none 0 0,.slice none 0 0]).cells n).toList=List.replicate (n*2) zS:=by
 apply List.ext_getElem
 .simp[Builtin.zeroCells,Value.cells]
 .intro i j u;rcases UO i with h|h<;>simp[Builtin.zeroCells,Value.cells,h,zS]
def za6{xs ms:List Value}{u:Value}{i:Nat}(hi:i<=xs.length):kF (kF (xs.take i++List.replicate (xs.length+ms.length-i) u) i ms) (i+ms.length) (xs.drop i)=xs.take i++ms++xs.drop i:=by
 have j:(xs.take i).length=i:=a9
 have e1:=kG (xs.take i) (List.replicate ms.length u) (List.replicate (xs.length-i) u) ms b6 j.symm;have e2:=kG (xs.take i++ms) (List.replicate (xs.length-i) u) [] (xs.drop i) b6 (i:=i+ms.length) a9;rw[show xs.length+ms.length-i=ms.length+(xs.length-i) by omega,<-List.replicate_append_replicate,<-wR,e1];simpa using e2
def za7{xs ms us:List Value}{i:Nat}(hi:i<=xs.length)(u:us.length=ms.length):kF (kF (xs++us) (i+ms.length) (xs.drop i)) i ms=xs.take i++ms++xs.drop i:=by
 rw[jt (xs.drop i) _ _ a9];have j:i+ms.length+(xs.drop i).length=(xs++us).length:=a9
 rw[j,uL,wZ];rw[jt ms _ _ a9];have ht:((xs++us).take (i+ms.length)).length=i+ms.length:=a9
 rw[Wq (by rw[ht];omega),List.take_take,W5 a8,Wq hi];rw[Uy,ht,UM,Wh,U2 a8,Y1]
def X6{base:Nat}{w:World}{v:Value}{n i:Nat}{y A:List Value}(hi:i<=n)(F:y.length=n*2)(E:A.length=2)(B:∀u∈y,u.oneCell'=true)(C:∀u∈A,u.oneCell'=true)
 (h:w.ownsRow base 72 2 v (n+1) (y.take (i*2)++A++y.drop (i*2))):OwnC base w v (n+1) (y.take (i*2)++A++y.drop (i*2)):=
 ⟨h,a9,λu j=>by
  rcases wE.1 j with j|j
  .rcases wE.1 j with j|j
   .exact B u (WF j)
   .exact C u j
  .exact B u (Wt j)⟩
def zc3(base Q:Nat)(vt:TypeId)(w:World)(g A n:Nat)(B:List Value)(p q:Value)(i:Nat)(hp:p.oneCell'=true)(hq:q.oneCell'=true)(hi:i<n)(E:OwnC base w (.slice (some ⟨g,0,none⟩) n A) n B)(ac:A<n+1)(ai:w.heap[Q]?=some (.cells #[p,q] vt (0,0)))(hl:n<=1073741824)(ab:base<=w.heap.size):
 Calls xT 181 #[.slice (some ⟨g,0,none⟩) n A,.int .i64 (i:Nat),.slice (some ⟨Q,0,none⟩) 1 1] w λe w'=>∃v',e=.returned v'/\OwnC base w' v' (n+1) (B.take (i*2)++[p,q]++B.drop (i*2))/\w.grownBy w' none/\v'.ownBlock=some w.heap.size:=by
 obtain⟨i0,aq,aE,hzs,aw⟩:=tQ Z9;have L:B.length=n*2:=E.2.1;have J:=E.2.2;have av:=vI ai;have aD:Q<w.heap.size:=(XE.1 ai).1;have aB:g<w.heap.size:=(E.1.lt g rfl).2;have aN:n<=A:=by
  rcases E.cases with⟨h,_⟩|⟨g',aG,_,h,_,_,_,h4,_⟩
  .cases h
  .cases h;omega
 have hg:∀j v,B[j]?=some v->w.cell? ⟨g,j,none⟩=some v:=λj v H=>by have:=tJ E.1 (g:=g) rfl j v H;rw[zh,wn]at this;exact this
 have au:(n:Int)+1-(i:Int)=((n+1-i:Nat):Int):=a8
 have ad:i+(n+1-i)=n+1:=a8
 have P:(Builtin.firstCells i0.size i (.slice (some ⟨g,0,none⟩) i A)).run xT w.drew=.ok (B.take (i*2)).toArray w.drew:=by
  rw[hzs];refine TM w.drew 2 i ⟨g,0,none⟩ i A (B.take (i*2)) (by rw[Wd];omega) (λj v H=>?_);rw[wt]at H;split at H
  .have:=hg j v H;rw[zh,wn];exact this
  .cases H
 have ag:∀K,(Builtin.append_ #[24,3] K #[.slice (some ⟨g,0,none⟩) i A,.int .i64 ((n:Int)+1-(i:Int))]).run xT w =
  .ok (.slice (some ⟨w.heap.size,0,none⟩) (n+1) (grownCap w (n+1) A 72)) (w.drew.alloc (.cells ((B.take (i*2)).toArray++Builtin.zeroCells (Value.agg #[.slice none 0 0,.slice none 0 0]).cells (n+1-i)++Builtin.zeroCells (Value.agg #[.slice none 0 0,.slice none 0 0]).cells (grownCap w (n+1) A 72 - (n+1))) 72)):=λK=>by
  have h:=TQ w 24 3 K 72 i0 _ .i64 .i64 Tryz.underlying24 Tryz.underlying3 aq aE (some ⟨g,0,none⟩) i A (B.take (i*2)) P (n+1-i) a8 a8 a8 a8 (by rw[aw];omega) (by rw[aw,ad];exact T4 ac a8);rw[ad]at h;rw[au];exact h
 obtain⟨G,hG⟩:∃G,G=grownCap w (n+1) A 72 := ⟨_,rfl⟩;have az:n+1<=G:=by rw[hG];exact TJ w _ _ _
 have aj:G<=maxLen:=by rw[hG];exact TC w _ _ _ c8
 obtain⟨R,hR⟩:∃R:Array Value,R=(B.take (i*2)).toArray++Builtin.zeroCells (Value.agg #[.slice none 0 0,.slice none 0 0]).cells (n+1-i)++Builtin.zeroCells (Value.agg #[.slice none 0 0,.slice none 0 0]).cells (G-(n+1)):=⟨_,rfl⟩;rw[<-hG,<-hR]at ag;have aC:(B.take (i*2)).length=i*2:=by rw[Wd];omega
 have Y:R.toList=(B.take (i*2)++List.replicate (B.length+[p,q].length-i*2) zS)++List.replicate ((G-(n+1))*2) zS:=by rw[hR];simp only[WU,zgF,L];congr 3;simp;omega
 have aA:R.size=G*2:=by have:R.toList.length=G*2:=(by rw[Y];simp;omega);simpa using this
 obtain⟨C,F⟩:=xm (w.drew.alloc (.cells R 72));have o1:C.ownsRow base 72 2 (.slice (some ⟨w.heap.size,0,none⟩) (n+1) G) (n+1) (B.take (i*2)++List.replicate (B.length+[p,q].length-i*2) zS):=by
  refine⟨a9,.inr ⟨w.heap.size,G,R,rfl,ab,?_,az,aj,a8,?_⟩⟩
  .rw[F];exact tp w.drew _
  .rw[Y,Wq a9,wm a9]
 obtain⟨o2,V⟩:=z9 [p,q] (i*2) _ _ o1;obtain⟨o3,g3⟩:=z9 (B.drop (i*2)) (i*2+2) ((C.setCells w.heap.size (i*2) [p,q]).drew) _ o2;have eg:=za6 (xs:=B) (ms:=[p,q]) (u:=zS) (i:=i*2) a8;rw[show i*2+[p,q].length=i*2+2 from rfl]at eg;rw[eg]at o3;have U:w.grownBy C none:=by rw[F];exact⟨rfl,rfl,rfl,b6,λk hk _=>tv w.drew _ _ hk⟩
 have T:(i+1)*2=i*2+2:=a8
 have N:w.grownBy (((C.setCells w.heap.size (i*2) [p,q]).drew).setCells w.heap.size (i*2+2) (B.drop (i*2))) none:=by refine⟨g3.os.trans (V.os.trans U.os),g3.tape.trans (V.tape.trans U.tape),g3.output.trans (V.output.trans U.output),V0 U.size (V0 V.size g3.size),λk hk _=>?_⟩;have ar:k<C.heap.size:=vw hk U.size;have M:some k≠some w.heap.size:=λe=>(by cases e;omega);rw[g3.block k (vw ar V.size) M];show (C.setCells w.heap.size (i*2) [p,q]).heap[k]?=_;rw[V.block k ar M,U.block k hk b6]
 have OF:=qL (X6 a8 L rfl J (yF hp hq) o3);have GA:=qL N;clear o3 N o1 o2;rw[<-F]at ag;have hN:∀j,j<n*2+2->(C.cell? ⟨w.heap.size,j,none⟩).isSome=true:=λj H=>by rw[F,tW (w:=w.drew) R _ w.heap.size j rfl,We a8];rfl
 have X:∀j,C.frozen? ⟨w.heap.size,j,none⟩=false:=λj=>by rw[F];exact TZ (w:=w.drew) R _ w.heap.size j rfl
 have ak:∀j v,w.cell? ⟨g,j,none⟩=some v->C.cell? ⟨g,j,none⟩=some v:=λj v h=>by rw[F,Tq (w:=w.drew) _ g j aB];exact h
 have am:∀j v,w.cell? ⟨Q,j,none⟩=some v->C.cell? ⟨Q,j,none⟩=some v:=λj v h=>by rw[F,Tq (w:=w.drew) _ Q j aD];exact h
 have ah:(xT.info? 72).map (·.size)=some 2:=by rw[aq];simp[hzs]
 have ae:Nat.min 1 (n+1-i)=1:=by simp only[Uj];split<;>omega
 have af:Nat.min (n-i) (n-i)=n-i:=Nat.min_self _;have ao:(B.drop (i*2)).length=(n-i)*2:=by rw[W8,L];omega
 have an:∀(W:World),(∀y,W.cell? y=C.cell? y)->(∀y,W.frozen? y=C.frozen? y)->∀K S,(Builtin.copy_ #[24,23] K #[.slice (some ⟨w.heap.size,i*2,none⟩) (n+1-i) S,.slice (some ⟨Q,0,none⟩) 1 1]).run xT W=.ok (goInt 1) (W.setCells w.heap.size (i*2) [p,q]):=λW I Z K S=>by
  have h:=run_copy_k W 24 23 K 72 w.heap.size (i*2) (n+1-i) S ⟨Q,0,none⟩ 1 1 2 [p,q] Tryz.underlying24 ah (by rw[ae];rfl)
   (λj v H=>by have:=av j v H;rw[zh]at this;rw[I,zh];exact am _ v this)
   (λj H=>by rw[I];simp at H;exact hN _ a8) (λj H=>by rw[Z];exact X _) (yF hp hq)
  rw[ae]at h;exact h
 have M:g≠w.heap.size:=a8
 have O:∀(W:World),(∀y,W.cell? y=(C.setCells w.heap.size (i*2) [p,q]).cell? y)->(∀y,W.frozen? y=(C.setCells w.heap.size (i*2) [p,q]).frozen? y)->∀K S sc,(Builtin.copy_ #[24,24] K #[.slice (some ⟨w.heap.size,(i+1)*2,none⟩) (n-i) S,.slice (some ⟨g,i*2,none⟩) (n-i) sc]).run xT W=.ok (goInt ((n-i:Nat):Int)) (W.setCells w.heap.size (i*2+2) (B.drop (i*2))):=λW I Z K S sc=>by
  have h:=run_copy_k W 24 24 K 72 w.heap.size ((i+1)*2) (n-i) S ⟨g,i*2,none⟩ (n-i) sc 2 (B.drop (i*2)) Tryz.underlying24 ah (by rw[ao,af])
   (λj v H=>by
     rw[I,zh,Tl _ _ _ _ _ (λh _=>absurd h M)];exact ak _ v (hg (i*2+j) v (by rwa[Wj]at H)))
   (λj H=>by rw[I];exact isSome_setCells _ _ _ _ (λt ht=>hN _ (by simp at ht;omega)) _ (hN _ a8))
   (λj H=>by rw[Z,Ts];exact X _) (λv hv=>J v (Wt hv))
  rw[af,T]at h;rw[T];exact h
 have ax:∀y,((C.setCells w.heap.size (i*2) [p,q]).drew).cell? y=(C.setCells w.heap.size (i*2) [p,q]).cell? y:=λy=>rfl;have ay:∀y,((C.setCells w.heap.size (i*2) [p,q]).drew).frozen? y=(C.setCells w.heap.size (i*2) [p,q]).frozen? y:=λy=>rfl;have aQ:¬((i:Int)=(n:Int)):=a8
 have aR:(A:Int)<(n:Int)+1:=a8
 unfold maxLen at aj;have aI:¬(G=i):=a8
 have aH:¬(G=i+1):=a8
 have aL:¬(A=i):=a8
 have aP:IntKind.i64.wrap ((i:Int)+1)=(i:Int)+1:=by rw[Ty];omega
 have aJ:(0:Int)<=(i:Int)+1:=a8
 have aM:i<=n:=a8
 have aO:((i:Int)+1).toNat=i+1:=a8
 have aK:(i:Int)<=(n:Int):=a8
 clear au ad P hG Y hR aA E hg hN X ak am J L av ai aC ao U V g3 F T ae af ah;go_enter Tryz.func181,Tryz.ntmps181
 go_wp2_with (first
  |(at_builtin;refine Lib.wpList_append_run _ rfl _ _ _ _ rfl _ _ rfl rfl _ _ (ag _) ?_)
  |(at_builtin;refine wpList_copy_runI _ rfl _ _ 24 23 rfl _ _ rfl rfl (an _ (λ_=>rfl) (λ_=>rfl) _ _) ?_)
  |(at_builtin;refine wpList_copy_runI _ rfl _ _ 24 24 rfl _ _ rfl rfl (O _ (λ_=>rfl) (λ_=>rfl) _ _ _) ?_))
 have aF:xT.follows .mixedOrders=true:=dK
 go_region_law_o (refine step_copy_runI rfl _ _ 24 24 rfl (.slice (some ⟨w.heap.size,(i+1)*2,none⟩) (n-i) (G-(i+1))) (.slice (some ⟨g,i*2,none⟩) (n-i) (A-i)) dH dH (O _ ax ay _ (G-(i+1)) (A-i)) ?_)
 go_wp2;refine tz (tK rfl _ _ _) rfl ?_;exact⟨_,rfl,OF.o,GA.o,rfl⟩
def JK(base L:Nat)(vt:TypeId)(w:World)(g u n:Nat)(E:List Value)(p q:Value)(i:Nat)(hp:p.oneCell'=true)(hq:q.oneCell'=true)(hi:i<n)(C:OwnC base w (.slice (some ⟨g,0,none⟩) n u) n E)(Z:n+1<=u)(K:w.heap[L]?=some (.cells #[p,q] vt (0,0)))(ak:L≠g)(hl:n<=1073741824):
 Calls xT 181 #[.slice (some ⟨g,0,none⟩) n u,.int .i64 (i:Nat),.slice (some ⟨L,0,none⟩) 1 1] w λe w'=>∃v',e=.returned v'/\OwnC base w' v' (n+1) (E.take (i*2)++[p,q]++E.drop (i*2))/\w.grownBy w' (some g)/\v'.ownBlock=some g:=by
 obtain⟨i0,ax,aI,hzs,aK⟩:=tQ Z9;have M:E.length=n*2:=C.2.1;have J:=C.2.2;have am:=vI K;obtain⟨B,av,I,O,T,aq⟩:∃B,base<=g/\w.heap[g]?=some (.cells B 72 (0,0))/\u<=maxLen/\B.size=u*2/\B.toList.take (n*2)=E:=by
  rcases C.cases with⟨h,_⟩|⟨g',aA,B,h,h1,_,h3,_,h5,h6,h7⟩
  .cases h
  .cases h;exact⟨B,h1,h3,h5,h6,h7⟩
 obtain⟨us,ad⟩:=xm ((B.toList.drop (n*2)).take 2);have ac:us.length=[p,q].length:=by rw[ad];simp;omega
 have o0:w.drew.ownsRow base 72 2 (.slice (some ⟨g,0,none⟩) (n+1) u) (n+1) (E++us):=by refine⟨by rw[wk,ac,M];simp;omega,.inr ⟨g,u,B,rfl,av,I,Z,O,a8,?_⟩⟩;rw[show (n+1)*2=n*2+2 by omega,List.take_add,aq,ad]
 obtain⟨o1,g1⟩:=z9 (E.drop (i*2)) (i*2+2) _ _ o0;obtain⟨o2,g2⟩:=z9 [p,q] (i*2) _ _ o1;have eg:=za7 (xs:=E) (ms:=[p,q]) (us:=us) (i:=i*2) a8 ac;rw[show i*2+[p,q].length=i*2+2 from rfl]at eg;rw[eg]at o2;have g0:w.grownBy w.drew (some g):=⟨rfl,rfl,rfl,Zp _,λ_ _ _=>rfl⟩;have OF:=qL (X6 a8 M rfl J (yF hp hq) o2);have GA:=qL (yn g0 (yn g1 g2));have A:∀j,j<u*2->(w.cell? ⟨g,j,none⟩).isSome=true:=λj F=>by simp[World.cell?,I,T,F]
 have V:∀j,w.frozen? ⟨g,j,none⟩=false:=λj=>by simp[World.frozen?,I]
 have hg:∀j v,E[j]?=some v->w.cell? ⟨g,j,none⟩=some v:=λj v F=>by have:=tJ C.1 (g:=g) rfl j v F;rw[zh,wn]at this;exact this
 have an:w.shape? L=some (vt,2):=by simp[World.shape?,K]
 have ao:w.shape? g=some (72,u*2):=by simp[World.shape?,I,T]
 have ai:w.frozen? ⟨L,0,none⟩=false:=by simp[World.frozen?,K]
 have aj:w.frozen? ⟨L,2,none⟩=false:=by simp[World.frozen?,K]
 have ab:(xT.info? 72).map (·.size)=some 2:=by rw[ax];simp[hzs]
 have ay:∀lb cb,(callFunc 198 #[.slice (some ⟨L,0,none⟩) 1 1,.slice (some ⟨g,(i+1)*2,none⟩) lb cb]).run xT w=.ok (.value (.bool false)) w:=λlb cb=>by
  rw[tM Tryz.func198 dK dK dK (e:=Extern.SlicesOverlaps.overlaps #[23,23] #[4]) dK,
   T0 w 23 4 72 Tryz.underlying23 2 (λw=>dK) ⟨L,0,none⟩ ⟨g,(i+1)*2,none⟩ 1 1 lb cb ak vt 72 2 (u*2) an ao a8 ai aj]
  rfl
 have U:(E.drop (i*2)).length=(n-i)*2:=by rw[W8,M];omega
 have X:Nat.min (n+1-i) (n-i)=n-i:=by simp only[Uj];split<;>omega
 have Y:Nat.min 1 (n+1-i)=1:=by simp only[Uj];split<;>omega
 have S:(i+1)*2=i*2+2:=a8
 have H:∀N Q sc,(Builtin.copy_ #[24,24] N #[.slice (some ⟨g,(i+1)*2,none⟩) (n-i) Q,.slice (some ⟨g,i*2,none⟩) (n+1-i) sc]).run xT w.drew=.ok (goInt ((n-i:Nat):Int)) (w.drew.setCells g (i*2+2) (E.drop (i*2))):=λN Q sc=>by
  have h:=run_copy_k w.drew 24 24 N 72 g ((i+1)*2) (n-i) Q ⟨g,i*2,none⟩ (n+1-i) sc 2 (E.drop (i*2)) Tryz.underlying24 ab (by rw[U,X])
   (λj v F=>by rw[zh];exact hg (i*2+j) v (by rwa[Wj]at F))
   (λj F=>A _ a8) (λj F=>V _) (λv hv=>J v (Wt hv))
  rw[X,S]at h;rw[S];exact h
 obtain⟨W1,G⟩:=xm (w.drew.setCells g (i*2+2) (E.drop (i*2)));have P:∀k,k<u*2->(W1.cell? ⟨g,k,none⟩).isSome=true:=λk hk=>by rw[G];exact isSome_setCells g (E.drop (i*2)) (i*2+2) w.drew (λj F=>A _ (by rw[U]at F;omega)) k (A k hk)
 have ah:∀(W:World),(∀y,W.cell? y=W1.cell? y)->(∀y,W.frozen? y=W1.frozen? y)->∀N Q,(Builtin.copy_ #[24,23] N #[.slice (some ⟨g,i*2,none⟩) (n+1-i) Q,.slice (some ⟨L,0,none⟩) 1 1]).run xT W=.ok (goInt 1) (W.setCells g (i*2) [p,q]):=λW ag au N Q=>by
  have h:=run_copy_k W 24 23 N 72 g (i*2) (n+1-i) Q ⟨L,0,none⟩ 1 1 2 [p,q] Tryz.underlying24 ab (by rw[Y];rfl)
   (λj v F=>by
     rw[ag,G,Tl g _ _ _ _ (λh _=>absurd h (by rw[zh];exact ak))];exact am j v F)
   (λj F=>by rw[ag];simp at F;exact P _ a8) (λj F=>by rw[au,G,Ts];exact V _) (yF hp hq)
  rw[Y]at h;exact h
 rw[<-G]at H;have ar:=qL G;have aJ:¬((i:Int)=(n:Int)):=a8
 unfold maxLen at O;have aH:IntKind.i64.wrap ((i:Int)+1)=(i:Int)+1:=by rw[Ty];omega
 have aB:(0:Int)<=(i:Int)+1:=a8
 have aF:i<=n:=a8
 have aG:((i:Int)+1).toNat=i+1:=a8
 have aC:¬(u=i+1):=a8
 have aD:(i:Int)<=(n:Int)+1:=a8
 have aE:¬(u=i):=a8
 clear o0 o1 o2 g0 g1 g2 eg C A V hg an ao ai aj P G U J am M K I T aq ad ac X Y S ab;go_enter Tryz.func181,Tryz.ntmps181
 have aw:=λN=>H N (u-(i+1)) (u-i);have az:xT.follows .mixedOrders=true:=dK
 go_wp2_with (simp only[ay])
 go_region_law_o (refine step_copy_runI rfl _ _ 24 24 rfl _ _ dH dH (H _ _ _) ?_)
 go_wp2_with (first|(at_builtin;refine wpList_copy_runI _ rfl _ _ 24 23 rfl _ _ rfl rfl (ah _ (λ_=>rfl) (λ_=>rfl) _ _) ?_))
 have af:=OF.o;have ae:=GA.o;rw[<-ar.o]at af ae;refine tz (tK rfl _ _ _) rfl ?_;exact⟨_,rfl,af,ae,rfl⟩
def Q1(base F:Nat)(H:TypeId)(w:World)(v:Value)(n:Nat)(E:List Value)(p q:Value)(i:Nat)(N:p.oneCell'=true)(O:q.oneCell'=true)(hi:i<=n)(j:OwnC base w v n E)(C:w.heap[F]?=some (.cells #[p,q] H (0,0)))(M:v.ownBlock≠some F)(L:n<=1073741824)(u:base<=w.heap.size):
 Calls xT 181 #[v,.int .i64 (i:Nat),.slice (some ⟨F,0,none⟩) 1 1] w λe I=>∃y,e=.returned y/\OwnC base I y (n+1) (E.take (i*2)++[p,q]++E.drop (i*2))/\w.grownBy I v.ownBlock/\(y.ownBlock=v.ownBlock\/y.ownBlock=some w.heap.size):=by
 have S:=j.2.1;by_cases T:i=n
 .subst T;rw[wm a8,wA a8,wZ];exact zc2 base F H w v i E p q N O j C L u
 .have G:i<n:=a8;rcases j.cases with⟨_,U,_⟩|⟨g,A,P,rfl,_⟩
  .omega
  .by_cases Q:A<n+1
   .refine(zc3 base F H w g A n E p q i N O G j Q C L u).mono ?_;rintro e I ⟨y,rfl,J,B,K⟩;exact⟨y,rfl,J,⟨B.os,B.tape,B.output,B.size,λk hk _=>B.block k hk b6⟩,.inr K⟩
   .refine(JK base F H w g A n E p q i N O G j a8 C (λe=>M (by rw[e];rfl)) L).mono ?_;rintro e I ⟨y,rfl,J,B,K⟩;exact⟨y,rfl,J,B,.inl K⟩
end
section
open Go.RowKit
attribute [-go_sem] z7
def dat_row{D:Qk}{w:World}{x:Value}{y:List (List PV)}{sz:Nat}(h:Dat D w x (.sl y .sh))(hs:∀e∈y,e.length=sz):
 ∃J A C,x=.slice J y.length A/\y.length<=A/\A<=maxLen/\C.length=y.length*sz/\(∀u∈C,u.oneCell'=true)/\((y.length=0/\C=[])\/∃b B,J=some ⟨b,B,none⟩/\∀(j:Nat)(u:Value),C[j]?=some u->D b (B+j)/\w.cell? ⟨b,B+j,none⟩=some u) /\
  ∀(i:Nat)(e:List PV)(j:Nat)(p:PV),y[i]?=some e->e[j]?=some p->∃u,C[i*sz+j]?=some u/\Dat D w u p:=by
 generalize ho:Ow.sh=o at h;cases h with
 | sl a A sz' y o b B u hc hz hm ha hsz hD hd=>
   by_cases I:y=[]
   .subst I;exact⟨a,A,[],rfl,hc,hm,b6,λ_ h=>by simp at h,.inl ⟨rfl,rfl⟩,λi e j p h=>by simp at h⟩
   .obtain rfl:sz'=sz:=by
     cases y with
     |nil=>exact absurd rfl I
     |cons e y=>exact(hsz 0 e rfl).symm.trans (hs e b6)
    refine⟨a,A,(List.range (y.length*sz')).map u,rfl,hc,hm,b6,λv E=>?_,.inr ⟨b,B,ha I,λj v E=>?_⟩,λi e j p G L=>?_⟩
    .obtain⟨j,K,rfl⟩:=wC.1 E;exact(hD j (dJ K)).2.2
    .rw[wj]at E;obtain⟨k,hk,rfl⟩:=ZZ.1 E;obtain⟨F,rfl⟩:=Zw.1 hk;simp at F;rw[US];exact⟨(hD j F).1,(hD j F).2.1⟩
    .have hi:=(Zw.1 G).1;have K:j<sz':=(by rw[<-hsz i e G];exact(Zw.1 L).1);have H:i*sz'+j<y.length*sz':=(by have:=Ws sz' (show i+1<=y.length from hi);rw[WZ]at this;omega);refine⟨u (i*sz'+j),?_,hd i e j p G L⟩;rw[wj,uJ H];rfl
def run_app_G(w:World)(t O e:TypeId)(F:TypeInfo)(z:Value)(sz B:Nat)(ht:xT.underlying t=some (.slice e))(hi:xT.info? e=some F)(hz:F.zero=some z)(hs:F.size=sz)(hb:F.bytes=B)(hzs:z.cells.size=sz)(N:0<sz)(L:B<=64)
 (base:Nat) (v:Value) (n:Nat) (Q:List Value) (A:w.ownsRow base e sz v n Q) (I:Option Addr) (m c:Nat) (y:List Value) (S:y.length=m*sz)
 (E:(m=0/\I=none)\/∃a,I=some a/\∀j u,y[j]?=some u->w.cell? (a.add j)=some u) (V:∀u∈y,u.oneCell'=true) (K:n+m<=1073741824) (C:base<=w.heap.size) :
 ∃G H,(Builtin.append_ #[t,t] O #[v,.slice I m c]).run xT w=.ok G H/\H.ownsRow base e sz G (n+m) (Q++y)/\w.grownBy H v.ownBlock/\(G.ownBlock=v.ownBlock\/G.ownBlock=some w.heap.size):=by
 rcases E with⟨rfl,rfl⟩|⟨a,rfl,X⟩
 .obtain rfl:y=[]:=wX.1 (dJ S);obtain⟨J,cp,rfl,M⟩:∃J cp,v=.slice J n cp/\n<=cp:=by
   rcases A.2 with⟨rfl,rfl⟩|⟨g,T,U,rfl,_,_,h,_⟩
   .exact⟨none,0,rfl,Zp _⟩
   .exact⟨_,_,rfl,h⟩
  exact⟨_,w,ve w t O _ F ht hi J n cp c M,dJ A,jW _ _,.inl rfl⟩
 .obtain⟨G,H,Y,Z,r3,_,r5⟩:=Ti (P:=xT) w base t O e F z sz B ht hi hz hs hb hzs N v n Q A a m c y S X V c8 (by
   calc (n+m)*B<=1073741824*64:=UP K L
    _<=140737488355328:=b8) C
  exact⟨G,H,Y,Z,r3,r5⟩
def zq6{E:Array Oper}{rest:List Oper}{o:Oper}{a:Act}{w:World}{Q:Exit->Act->World->Prop}(s x:Operand)(t e:TypeId)(M:o.guard=none)
 (ho:o.op=.call { callee:=.builtin .append,args:=#[s,x],argTypes:=#[t,t] }) (H:TypeInfo) (z:Value) (sz A:Nat) (ht:xT.underlying t=some (.slice e)) (hi:xT.info? e=some H) (hz:H.zero=some z) (N:H.size=sz) (hb:H.bytes=A) (hzs:z.cells.size=sz) (O:0<sz) (L:A<=64)
 (base:Nat) (v:Value) (n:Nat) (P:List Value) (hs:a.eval s=v) (G:w.ownsRow base e sz v n P)
 (J:Option Addr) (m c:Nat) (y:List Value) (hx:a.eval x=.slice J m c) (X:y.length=m*sz) (C:(m=0/\J=none)\/∃a,J=some a/\∀j u,y[j]?=some u->w.cell? (a.add j)=some u) (S:∀u∈y,u.oneCell'=true) (K:n+m<=1073741824) (B:base<=w.heap.size)
 (h:∀F I,I.ownsRow base e sz F (n+m) (P++y)->w.grownBy I v.ownBlock->(F.ownBlock=v.ownBlock\/F.ownBlock=some w.heap.size)->wpList xT E Q rest (a.put o.dst F) I):wpList xT E Q (o::rest) a w:=by
 have Z:Region.wanted o (yielded E a.tmps)=true:=by simp[Region.wanted,M]
 unfold wpList;rw[vj Z];refine .inl ?_;obtain⟨F,I,Y,T,U,V⟩:=run_app_G w t o.type e H z sz A ht hi hz N hb hzs O L base v n P G J m c y X C S K B;unfold Oper.wp execOp;simp only[ho,resolve,invoke,builtin,tG,tI,tA,ug,Wz,W7,hs,hx,Y];exact h F I T U V
def zrH{w:World}{base A:Nat}{e:TypeId}{sz:Nat}(j:base<=A)(h:w.heap[A]?=some (.cells #[] e (0,0))):w.ownsRow base e sz (.slice (some ⟨A,0,none⟩) 0 0) 0 []:=⟨b6,.inr ⟨A,0,#[],rfl,j,h,Zp _,X3 _,b6,b6⟩⟩
def eqlV_some(j:Addr)(n c:Nat)(w:World):(binOp .eql 70 (.slice (some j) n c) (.slice none 0 0)).run xT w=.ok (.bool false) w:=dK
def eqlV_none(n c:Nat)(w:World):(binOp .eql 70 (.slice none n c) (.slice none 0 0)).run xT w=.ok (.bool true) w:=dK
def zqZ:(xT.info? 109).map (λi=>(i.zero,i.size,i.bytes))=some (some (.agg #[.int .u64 0,.int .u64 0,.slice none 0 0]),3,40):=dK
def znV{D:Qk}{w:World}{x:Value}{es:List (List PV)}(d:Dat D w x (.sl es .sh))(hs:∀e∈es,e.length=3)(hl:es.length<=1073741824):
 Calls xT 122 #[x] w λe Q=>∃u G,e=.returned u/\Below w.heap.size w Q/\Q.ownsRow w.heap.size 109 3 u es.length G/\∀(i:Nat)(e:List PV)(j:Nat)(p:PV),es[i]?=some e->e[j]?=some p->∃v,G[i*3+j]?=some v/\Dat D w v p:=by
 obtain⟨J,A,G,rfl,_,_,N,O,K,L⟩:=dat_row d hs;obtain⟨i0,B,C,E,F⟩:=tQ zqZ;cases J with
 | none=>
   obtain⟨S,rfl⟩:es.length=0/\G=[]:=by
    rcases K with h|⟨b,H,e,_⟩
    .exact h
    .cases e
   have hq:=eqlV_none es.length A;have M:=qL L;have U:=qL S;clear N O K L d hl B C E F S;go_enter Tryz.func122,Tryz.ntmps122
   go_wp2;go_ret;refine⟨_,[],rfl,tu _ _,?_,M.o⟩;rw[U.o];exact tS _ _ _ _
 | some J=>
   have hq:=eqlV_some J es.length A;have y:∀(j:Nat)(u:Value),G[j]?=some u->(w.alloc (.cells #[] 109)).cell? (J.add j)=some u:=λj u P=>by
    rcases K with⟨_,e⟩|⟨b,H,e,h⟩
    .rw[e]at P;simp at P
    .cases e;have T:=(h j u P).2;rw[zh];exact(tn (a:=⟨b,H+j,none⟩) (tv _ _ _ (tq w _ T))).trans T
   have Z:=qL (tp w (.cells #[] 109 (0,0)));have Y:=qL y;have V:=qL N;have X:=qL O;have M:=qL L;have I:=qL (And.intro B (And.intro C (And.intro E F)));clear N O K L d y B C E F;go_enter Tryz.func122,Tryz.ntmps122
   go_wp2_with (at_builtin;refine zq6 _ _ 70 109 rfl rfl i0 _ 3 40 Tryz.underlying70 I.o.1 I.o.2.1 I.o.2.2.1 I.o.2.2.2 rfl b8 b8 w.heap.size _ 0 [] rfl (zrH (Zp _) Z.o) _ es.length A G rfl V.o (.inr ⟨_,rfl,Y.o⟩) X.o a8 b6 ?_;intro v' Q ho hg hv)
   go_ret;rw[wn]at ho;refine⟨v',G,rfl,?_,ho,M.o⟩;exact(((tu _ w).alloc (Zp _) _).grown hg b6 λj hj=>by cases hj;exact Zp _)
def RwE(base:Nat)(w:World)(u:Value)(v:List En)(X:Nat->En->Value->Prop):Prop:=
 ∃j,w.ownsRow base 109 3 u v.length j/\∀i (h:i<v.length),j[i*3]?=some (uV v[i].rep)/\j[i*3+1]?=some (uV v[i].max)/\∃y,j[i*3+2]?=some y/\X i v[i] y
def RwE.imp{base:Nat}{w:World}{u:Value}{v:List En}{X Y:Nat->En->Value->Prop}(h:RwE base w u v X)(hi:∀i e y,i<v.length->X i e y->Y i e y):RwE base w u v Y:=by obtain⟨C,A,B⟩:=h;refine⟨C,A,λi j=>?_⟩;obtain⟨a,b,y,c,d⟩:=B i j;exact⟨a,b,y,c,hi i _ y j d⟩
def RwE.shape{base:Nat}{w:World}{u:Value}{v:List En}{X:Nat->En->Value->Prop}(h:RwE base w u v X):∃B j,u=.slice B v.length j/\v.length<=j/\j<=maxLen/\(v≠[]->∃g y,B=some ⟨g,0,none⟩/\base<=g/\g<w.heap.size/\w.heap[g]?=some (.cells y 109 (0,0))/\0<j):=by
 obtain⟨J,F,_⟩:=h;rcases F.2 with⟨rfl,E⟩|⟨g,j,y,rfl,G,C,I,H,_,_⟩
 .have:v=[]:=wX.1 E;subst this;exact⟨none,0,rfl,Zp _,b8,λh=>absurd rfl h⟩
 .refine⟨_,j,rfl,I,H,λA=>⟨g,y,rfl,G,(XE.1 C).1,C,?_⟩⟩;have:=wW.2 A;omega
def RwE.at{base g n u:Nat}{w:World}{v:List En}{X:Nat->En->Value->Prop}(h:RwE base w (.slice (some ⟨g,0,none⟩) n u) v X)(L:0<u){i:Nat}(hi:i<v.length):
 w.cell? ⟨g,i*3,none⟩=some (uV v[i].rep)/\w.frozen? ⟨g,i*3,none⟩=false/\w.cell? ⟨g,i*3+1,none⟩=some (uV v[i].max)/\w.frozen? ⟨g,i*3+1,none⟩=false/\∃A,w.cell? ⟨g,i*3+2,none⟩=some A/\w.frozen? ⟨g,i*3+2,none⟩=false/\X i v[i] A:=by
 obtain⟨J,E,G⟩:=h;obtain⟨a,b,A,c,d⟩:=G i hi;have B:∀o,w.frozen? ⟨g,o,none⟩=false:=by
  rcases E.2 with⟨e,_⟩|⟨K,C,F,e,_,H,_⟩
  .cases e
  .cases e;intro o;simp[World.frozen?,H]
 have y:∀j x,J[j]?=some x->w.cell? ⟨g,j,none⟩=some x:=λj x I=>by have:=tJ E (g:=g) (by cases u with|zero=>omega|succ c=>rfl) j x I;rw[zh,wn]at this;exact this
 exact⟨y _ _ a,B _,y _ _ b,B _,A,y _ _ c,B _,d⟩
def RwE.set{base g y j:Nat}{w:World}{v:List En}{X:Nat->En->Value->Prop}{u:Value}(h:RwE base w (.slice (some ⟨g,0,none⟩) v.length y) v X){Y:Nat->En->Value->Prop}(H:∀i (h:i<v.length) B,i≠j->X i v[i] B->Y i v[i] B)(K:j<v.length)(E:Y j v[j] u):
 RwE base (w.setCell ⟨g,j*3+2,none⟩ u) (.slice (some ⟨g,0,none⟩) v.length y) v Y:=by
 obtain⟨J,F,G⟩:=h;obtain⟨I,_⟩:=F.stored (j*3+2) u;refine⟨J.set (j*3+2) u,I,λi hi=>?_⟩;obtain⟨a,b,B,c,d⟩:=G i hi;refine⟨by rw[wV a8];exact a,by rw[wV a8];exact b,?_⟩;by_cases A:i=j
 .subst A;have C:=(Zw.1 c).1;exact⟨u,by rw[WL C],E⟩
 .exact⟨B,by rw[wV a8];exact c,H i hi B A d⟩
def RwE.keep{base:Nat}{w w':World}{u:Value}{v:List En}{X:Nat->En->Value->Prop}(h:RwE base w u v X)(hb:∀k,k<w.heap.size->w'.heap[k]?=w.heap[k]?):RwE base w' u v X:=by
 obtain⟨xs,A,C⟩:=h;refine⟨xs,⟨A.1,?_⟩,C⟩;rcases A.2 with h|⟨g,j,y,e,E,B,r⟩
 .exact .inl h
 .exact .inr ⟨g,j,y,e,E,(hb g (XE.1 B).1).trans B,r⟩
def RwE.dat{D:Qk}{base:Nat}{w:World}{u:Value}{v:List En}{X:Nat->En->Value->Prop}(h:RwE base w u v X)(M:∀i e K,X i e K->Dat D w K (rg e.holes))(T:∀b o,base<=b->b<w.heap.size->D b o):Dat D w u (vp v):=by
 obtain⟨N,E,rfl,Q,L,S⟩:=h.shape;have B:(v.map ec).length=v.length:=wu _;unfold vp;by_cases G:v=[]
 .subst G;exact .sl N E 3 [] .sh 0 0 (λ_=>undef) (X3 _) (λh=>by cases h) L (λh=>absurd rfl h) (λi e h=>by simp at h) (λj h=>by simp at h) (λi e j p h=>by simp at h)
 obtain⟨g,O,rfl,V,J,_,P⟩:=S G;have A:∀i (hi:i<v.length) j p,(ec v[i])[j]?=some p->∃x,w.cell? ⟨g,i*3+j,none⟩=some x/\Dat D w x p/\x.oneCell'=true:=λi hi j p C=>by
  obtain⟨a,_,b,_,K,c,_,d⟩:=h.at P hi;match j,C with
  |0,C=>cases C;exact⟨_,a,.v _,rfl⟩
  |1,C=>cases C;exact⟨_,b,.v _,rfl⟩
  |2,C=>cases C;exact⟨_,c,M _ _ _ d,Ki (M _ _ _ d)⟩
  |j+3,C=>simp[ec]at C
 rw[<-B];refine .sl (some ⟨g,0,none⟩) E 3 (v.map ec) .sh g 0 (λj=>(w.cell? ⟨g,j,none⟩).getD undef) (by rw[B];exact Q) (λh=>by cases h) L (λ_=>rfl) (λi e F=>?_) (λj Y=>?_) (λi e j p F C=>?_)
 .rw[wj]at F;obtain⟨x,_,rfl⟩:=ZZ.1 F;rfl
 .rw[B]at Y;have hi:j/3<v.length:=a8;have I:j%3<(ec v[j/3]).length:=U3 _ b8;obtain⟨x,H,_,ho⟩:=A (j/3) hi (j%3) ((ec v[j/3])[j%3]) (Zv I);rw[show j/3*3+j%3=j by omega]at H;simp only[wn,H,WQ];exact⟨T _ _ V J,trivial,ho⟩
 .rw[wj]at F;obtain⟨x,H,rfl⟩:=ZZ.1 F;obtain⟨hi,rfl⟩:=Zw.1 H;obtain⟨y,Z,U,_⟩:=A i hi j p C;simp only[Z,WQ];exact U
def zq3{D:Qk}{w:World}{x:Value}(v:List En)(d:Dat D w x (vp v))(hD:∀b o,D b o->b<w.heap.size)(hb:∀e∈v,ZL e)(hl:v.length<=1073741824)(hh:∀e∈v,e.holes.length<=1073741824):
 Calls xT 90 #[x] w λe w'=>∃u,e=.returned u/\Below w.heap.size w w'/\RwE w.heap.size w' u v (λ_ e E=>OwnR w.heap.size w' E e.holes):=by
 have S:=znV (es:=v.map ec) d (λe T=>by obtain⟨x,_,rfl⟩:=wC.1 T;rfl) (by rw[wu];exact hl);have X:=qL S;have O:=qL hD;have HB:=qL hb;have HH:=qL hh;clear S d hD hb hh;go_enter Tryz.func90,Tryz.ntmps90
 go_upto_region 2 with(go_at_call 122;refine X.o.mono ?_;rintro e w1 ⟨u,xs,rfl,J,L,F⟩)
 have y:RwE w.heap.size w1 u v (λ_ e E=>Dat D w E (rg e.holes)):=by refine⟨xs,by rw[wu]at L;exact L,λi hi=>?_⟩;have T:(v.map ec)[i]?=some (ec v[i]):=(by rw[wj,Zv hi];rfl);obtain⟨x0,a0,d0⟩:=F i _ 0 _ T rfl;obtain⟨x1,a1,d1⟩:=F i _ 1 _ T rfl;obtain⟨x2,a2,d2⟩:=F i _ 2 _ T rfl;have e0:=(Rel.dat (ρ:=λ_=>0) (nb:=0) d0).v_inv;have e1:=(Rel.dat (ρ:=λ_=>0) (nb:=0) d1).v_inv;rw[e0]at a0;rw[e1]at a1;exact⟨a0,a1,x2,a2,d2⟩
 obtain⟨ad,ac,rfl,ah,ae,G⟩:=y.shape;unfold maxLen at ae;have ab:=qL y;have V:=qL J;have P:=qL G;have ai:=J.size;clear y L F J G
 go_wp2_with fail
 go_loopg [9] v.length (λgh x wr=>∃j,j<=v.length/\gh=v.length-j/\x=.int .i64 j/\RwE w.heap.size wr (.slice ad v.length ac) v (λi e E=>(i<j->OwnR w1.heap.size wr E e.holes)/\(j<=i->Dat D w E (rg e.holes)))/\Below w.heap.size w wr/\w1.heap.size<=wr.heap.size)
 case atStart=>exact⟨0,X3 _,rfl,rfl,ab.o.imp λi e E _ h=>⟨λh0=>absurd h0 (Ue _),λ_=>h⟩,V.o,Zp _⟩
 case round=>
  obtain⟨j,hj,rfl,rfl,y,Q,ag⟩:=hrel;have HR:=qL y;have I:=qL Q;by_cases C:j<v.length
  .obtain⟨g,aj,rfl,hg,ak,_,h0⟩:=P.o (by intro e;subst e;simp at C);obtain⟨_,_,_,_,E,ch,fh,_,B⟩:=y.at h0 C;have B:=B (Zp _);have K:=Yf C;obtain⟨av,cv,rfl⟩:=zK B;have U:∀W,Below w.heap.size w W->RdR 0 W.heap.size W (.slice av v[j].holes.length cv) v[j].holes:=λW hW=>je (B.mono (λ_ _ h=>h) λb o x h N=>(tn (a:=⟨b,o,none⟩) (hW.block b (O.o b o h))).trans N) (λb o h=>vw (O.o b o h) hW.size) (HB.o _ K).1;have Z:=qL U;have am:=HH.o _ K;clear y Q B U K
   go_wp2_with fail
   refine(zeX (Z.o _ I.o) a8).mono ?_;rintro e w3 ⟨u3,rfl,M,A⟩;obtain⟨au,cu,rfl⟩:=M.val;have c3:=(tn (a:=⟨g,j*3+2,none⟩) (A.block g a8)).trans ch;have f3:w3.frozen? ⟨g,j*3+2,none⟩=false:=(by have e:=A.block g a8;simp only[World.frozen?,e]at fh⊢;exact fh);have Y:=qL M;have H:=qL A;have ao:=A.size;clear M A ch fh;dsimp only
   go_wp2_with fail
   go_roundg (v.length-(j+1));case measure=>omega
   case rel=>
    refine⟨j+1,C,rfl,b6,(HR.o.keep λk hk=>H.o.block k hk).set (λi hi E an N=>⟨λaf=>?_,λaf=>N.2 a8⟩) C ⟨λ_=>?_,λh=>a8⟩,?_,a9⟩
    .exact((N.1 a8).below H.o (Zp _)).keep ((Keep.refl (λk=>k=g) w3).setCell (λ_=>rfl) _) λk hk e=>a8
    .exact(Y.o.mono ag).keep ((Keep.refl (λk=>k=g) w3).setCell (λ_=>rfl) _) λk hk e=>a8
    .exact tX (I.o.trans (H.o.mono a8)) (by show w.heap.size<=g;omega) _
  .obtain rfl:j=v.length:=a8
   go_wp2_with fail
   refine tz (tK rfl _ _ _) rfl ?_;exact⟨_,rfl,I.o,HR.o.imp λi e E hi N=>(N.1 hi).mono a8⟩
def zrs(j:Addr)(n c:Nat)(w:World):(binOp .eql 24 (.slice (some j) n c) (.slice none 0 0)).run xT w=.ok (.bool false) w:=dK
def zrr(n c:Nat)(w:World):(binOp .eql 24 (.slice none n c) (.slice none 0 0)).run xT w=.ok (.bool true) w:=dK
def zry{D:Qk}{w:World}{x:Value}{es:List (List PV)}(d:Dat D w x (.sl es .sh))(hs:∀e∈es,e.length=2)(hl:es.length<=1073741824):
 Calls xT 88 #[x] w λe Q=>∃u G,e=.returned u/\Below w.heap.size w Q/\Q.ownsRow w.heap.size 72 2 u es.length G/\∀(i:Nat)(e:List PV)(j:Nat)(p:PV),es[i]?=some e->e[j]?=some p->∃v,G[i*2+j]?=some v/\Dat D w v p:=by
 obtain⟨J,A,G,rfl,_,_,N,O,K,L⟩:=dat_row d hs;obtain⟨i0,B,C,E,F⟩:=tQ Z9;cases J with
 | none=>
   obtain⟨S,rfl⟩:es.length=0/\G=[]:=by
    rcases K with h|⟨b,H,e,_⟩
    .exact h
    .cases e
   have hq:=zrr es.length A;have M:=qL L;have U:=qL S;clear N O K L d hl B C E F S;go_enter Tryz.func88,Tryz.ntmps88
   go_wp2;go_ret;refine⟨_,[],rfl,tu _ _,?_,M.o⟩;rw[U.o];exact tS _ _ _ _
 | some J=>
   have hq:=zrs J es.length A;have y:∀(j:Nat)(u:Value),G[j]?=some u->(w.alloc (.cells #[] 72)).cell? (J.add j)=some u:=λj u P=>by
    rcases K with⟨_,e⟩|⟨b,H,e,h⟩
    .rw[e]at P;simp at P
    .cases e;have T:=(h j u P).2;rw[zh];exact(tn (a:=⟨b,H+j,none⟩) (tv _ _ _ (tq w _ T))).trans T
   have Z:=qL (tp w (.cells #[] 72 (0,0)));have Y:=qL y;have V:=qL N;have X:=qL O;have M:=qL L;have I:=qL (And.intro B (And.intro C (And.intro E F)));clear N O K L d y B C E F;go_enter Tryz.func88,Tryz.ntmps88
   go_wp2_with (at_builtin;refine zq6 _ _ 24 72 rfl rfl i0 _ 2 48 Tryz.underlying24 I.o.1 I.o.2.1 I.o.2.2.1 I.o.2.2.2 rfl b8 b8 w.heap.size _ 0 [] rfl (zrH (Zp _) Z.o) _ es.length A G rfl V.o (.inr ⟨_,rfl,Y.o⟩) X.o a8 b6 ?_;intro v' Q ho hg hv)
   go_ret;rw[wn]at ho;refine⟨v',G,rfl,?_,ho,M.o⟩;exact(((tu _ w).alloc (Zp _) _).grown hg b6 λj hj=>by cases hj;exact Zp _)
def VO(base:Nat)(w:World)(u:Value)(v:List En):Prop:=RwE base w u v (λ_ e j=>OwnR base w j e.holes)
def VO.keep{base:Nat}{S:Nat->Prop}{w w':World}{u:Value}{v:List En}(h:VO base w u v)(hk:Keep S w w')(y:∀g,base<=g->¬S g):VO base w' u v:=by obtain⟨xs,j,A⟩:=h;refine⟨xs,hk.ownsRow j λg B=>y g ((j.lt g B).1),λi hi=>?_⟩;obtain⟨a,b,C,c,d⟩:=A i hi;exact⟨a,b,C,c,d.keep hk y⟩
def VO.mono{base j:Nat}{w:World}{u:Value}{v:List En}(h:VO base w u v)(hb:j<=base):VO j w u v:=by
 obtain⟨H,C,E⟩:=h;refine⟨H,⟨C.1,?_⟩,λi hi=>?_⟩
 .rcases C.2 with G|⟨g,y,A,B,F,r⟩
  .exact .inl G
  .exact .inr ⟨g,y,A,B,V0 hb F,r⟩
 .obtain⟨a,b,B,c,d⟩:=E i hi;exact⟨a,b,B,c,d.mono hb⟩
def VO.shape{base:Nat}{w:World}{u:Value}{v:List En}(h:VO base w u v):∃a c,u=.slice a v.length c:=by obtain⟨a,c,e,_⟩:=RwE.shape h;exact⟨a,c,e⟩
def RwF(base:Nat)(w:World)(u:Value)(k:List Fg)(X:Nat->Fg->Value->Value->Prop):Prop:=
 ∃j,w.ownsRow base 72 2 u k.length j/\∀i (h:i<k.length),∃y hb,j[i*2]?=some y/\j[i*2+1]?=some hb/\X i k[i] y hb
def RwF.imp{base:Nat}{w:World}{u:Value}{k:List Fg}{X Y:Nat->Fg->Value->Value->Prop}(h:RwF base w u k X)(hi:∀i f a b,i<k.length->X i f a b->Y i f a b):RwF base w u k Y:=by obtain⟨B,y,A⟩:=h;refine⟨B,y,λi j=>?_⟩;obtain⟨a,b,c,d,e⟩:=A i j;exact⟨a,b,c,d,hi i _ a b j e⟩
def RwF.shape{base:Nat}{w:World}{u:Value}{k:List Fg}{X:Nat->Fg->Value->Value->Prop}(h:RwF base w u k X):∃B j,u=.slice B k.length j/\k.length<=j/\j<=maxLen/\(k≠[]->∃g y,B=some ⟨g,0,none⟩/\base<=g/\g<w.heap.size/\w.heap[g]?=some (.cells y 72 (0,0))/\0<j):=by
 obtain⟨J,F,_⟩:=h;rcases F.2 with⟨rfl,E⟩|⟨g,j,y,rfl,G,C,I,H,_,_⟩
 .have:k=[]:=wX.1 E;subst this;exact⟨none,0,rfl,Zp _,b8,λh=>absurd rfl h⟩
 .refine⟨_,j,rfl,I,H,λA=>⟨g,y,rfl,G,(XE.1 C).1,C,?_⟩⟩;have:=wW.2 A;omega
def RwF.at{base g n u:Nat}{w:World}{k:List Fg}{X:Nat->Fg->Value->Value->Prop}(h:RwF base w (.slice (some ⟨g,0,none⟩) n u) k X)(L:0<u){i:Nat}(hi:i<k.length):
 ∃C hb,w.cell? ⟨g,i*2,none⟩=some C/\w.frozen? ⟨g,i*2,none⟩=false/\w.cell? ⟨g,i*2+1,none⟩=some hb/\w.frozen? ⟨g,i*2+1,none⟩=false/\X i k[i] C hb:=by
 obtain⟨J,B,G⟩:=h;obtain⟨a,b,c,d,e⟩:=G i hi;have E:∀o,w.frozen? ⟨g,o,none⟩=false:=by
  rcases B.2 with⟨e,_⟩|⟨K,A,F,e,_,H,_⟩
  .cases e
  .cases e;intro o;simp[World.frozen?,H]
 have y:∀j x,J[j]?=some x->w.cell? ⟨g,j,none⟩=some x:=λj x I=>by have:=tJ B (g:=g) (by cases u with|zero=>omega|succ c=>rfl) j x I;rw[zh,wn]at this;exact this
 exact⟨a,b,y _ _ c,E _,y _ _ d,E _,e⟩
def RwF.set{base g u j:Nat}{w:World}{k:List Fg}{X:Nat->Fg->Value->Value->Prop}{A B:Value}(h:RwF base w (.slice (some ⟨g,0,none⟩) k.length u) k X){Y:Nat->Fg->Value->Value->Prop}(G:∀i (h:i<k.length) a b,i≠j->X i k[i] a b->Y i k[i] a b)(L:j<k.length)(C:Y j k[j] A B):
 RwF base ((w.setCell ⟨g,j*2,none⟩ A).setCell ⟨g,j*2+1,none⟩ B) (.slice (some ⟨g,0,none⟩) k.length u) k Y:=by
 obtain⟨M,E,F⟩:=h;obtain⟨J,_⟩:=E.stored (j*2) A;obtain⟨K,_⟩:=J.stored (j*2+1) B;refine⟨_,K,λi hi=>?_⟩;obtain⟨a,b,c,d,e⟩:=F i hi;by_cases y:i=j
 .subst y;have H:=(Zw.1 c).1;have I:=(Zw.1 d).1;exact⟨A,B,by rw[wV a8,WL H],by rw[WL (dJ I)],C⟩
 .exact⟨a,b,by rw[wV a8,wV a8];exact c,by rw[wV a8,wV a8];exact d,G i hi a b y e⟩
def RwF.keep{base:Nat}{w w':World}{u:Value}{k:List Fg}{X:Nat->Fg->Value->Value->Prop}(h:RwF base w u k X)(hb:∀k,k<w.heap.size->w'.heap[k]?=w.heap[k]?):RwF base w' u k X:=by
 obtain⟨xs,A,C⟩:=h;refine⟨xs,⟨A.1,?_⟩,C⟩;rcases A.2 with h|⟨g,j,y,e,E,B,r⟩
 .exact .inl h
 .exact .inr ⟨g,j,y,e,E,(hb g (XE.1 B).1).trans B,r⟩
def KO(base:Nat)(w:World)(u:Value)(k:List Fg):Prop:=RwF base w u k (λ_ f a b=>OwnR base w a f.items/\VO base w b f.vec)
def KO.dat{D:Qk}{base:Nat}{w:World}{u:Value}{k:List Fg}(h:KO base w u k)(K:∀b o,base<=b->b<w.heap.size->D b o):Dat D w u (kp k):=by
 obtain⟨O,H,rfl,F,E,S⟩:=RwF.shape h;have B:(k.map fc).length=k.length:=wu _;unfold kp;by_cases J:k=[]
 .subst J;exact .sl O H 2 [] .sh 0 0 (λ_=>undef) (X3 _) (λh=>by cases h) E (λh=>absurd rfl h) (λi e h=>by simp at h) (λj h=>by simp at h) (λi e j p h=>by simp at h)
 obtain⟨g,P,rfl,T,N,_,Q⟩:=S J;have A:∀i (hi:i<k.length) j p,(fc k[i])[j]?=some p->∃x,w.cell? ⟨g,i*2+j,none⟩=some x/\Dat D w x p/\x.oneCell'=true:=λi hi j p C=>by
  obtain⟨Z,hb,a,_,b,_,c,d⟩:=RwF.at h Q hi;match j,C with
  |0,C=>cases C;have G:=jp (D:=D) c.rd λb o F E=>K b o F E;exact⟨_,a,G,Ki G⟩
  |1,C=>cases C;have G:=RwE.dat (D:=D) d (λi e hv h=>jp h.rd λb o F E=>K b o F E) λb o F E=>K b o F E;obtain⟨X,Y,e⟩:=d.shape;exact⟨_,b,G,by rw[e];rfl⟩
  |j+2,C=>simp[fc]at C
 rw[<-B];refine .sl (some ⟨g,0,none⟩) H 2 (k.map fc) .sh g 0 (λj=>(w.cell? ⟨g,j,none⟩).getD undef) (by rw[B];exact F) (λh=>by cases h) E (λ_=>rfl) (λi e I=>?_) (λj U=>?_) (λi e j p I C=>?_)
 .rw[wj]at I;obtain⟨x,_,rfl⟩:=ZZ.1 I;rfl
 .rw[B]at U;have hi:j/2<k.length:=a8;have M:j%2<(fc k[j/2]).length:=U3 _ b8;obtain⟨x,L,_,ho⟩:=A (j/2) hi (j%2) ((fc k[j/2])[j%2]) (Zv M);rw[show j/2*2+j%2=j by omega]at L;simp only[wn,L,WQ];exact⟨K _ _ T N,trivial,ho⟩
 .rw[wj]at I;obtain⟨x,L,rfl⟩:=ZZ.1 I;obtain⟨hi,rfl⟩:=Zw.1 L;obtain⟨y,V,G,_⟩:=A i hi j p C;simp only[wn,V,WQ];exact G
def zss{D:Qk}{w:World}{x:Value}{v:List En}(h:Dat D w x (vp v)):∃a c,x=.slice a v.length c:=by obtain⟨⟨a,n,c⟩,rfl,e⟩:=kH h;simp only[wu]at e;subst e;exact⟨a,c,rfl⟩
def zrM{D:Qk}{w:World}{x:Value}(k:List Fg)(d:Dat D w x (kp k))(hD:∀b o,D b o->b<w.heap.size)(hb:∀f∈k,(∀s∈f.items,s.lo<zk/\s.hi<zk)/\∀e∈f.vec,ZL e)(hl:k.length<=1000000)(hz:∀f∈k,f.items.length<=1000000/\f.vec.length<=1000000/\∀e∈f.vec,e.holes.length<=1000000):
 Calls xT 53 #[x] w λe w'=>∃u,e=.returned u/\Below w.heap.size w w'/\KO w.heap.size w' u k:=by
 have aA:=zry (es:=k.map fc) d (λe he=>by obtain⟨x,_,rfl⟩:=wC.1 he;rfl) (by rw[wu];omega);obtain⟨aa,ca,fs,rfl,aQ,C,aB⟩:=kX d hD;have aN:=C.1;have az:=C.2.1;unfold maxLen at az;rw[aQ]at aN;have aH:=qL aA;have ar:=qL C;have aI:=qL aB;have aq:=qL hD;have HB:=qL hb;have HZ:=qL hz;have aR:xT.follows .mixedOrders=true:=dK
 clear aA d hD hb hz C aB;go_enter Tryz.func53,Tryz.ntmps53
 go_upto_region 2 with(go_at_call 88;refine aH.o.mono ?_;rintro e w1 ⟨u,xs,rfl,ag,ak,am⟩)
 have G:RwF w.heap.size w1 u k (λ_ _ _ _=>True):=by refine⟨xs,by rw[wu]at ak;exact ak,λi hi=>?_⟩;have he:(k.map fc)[i]?=some (fc k[i]):=(by rw[wj,Zv hi];rfl);obtain⟨x0,a0,_⟩:=am i _ 0 _ he rfl;obtain⟨x1,T,_⟩:=am i _ 1 _ he rfl;exact⟨x0,x1,a0,T,trivial⟩
 obtain⟨ad,aM,rfl,aS,aO,aC⟩:=G.shape;unfold maxLen at aO;have aL:=qL G;have aE:=qL ag;have aK:=qL aC;have aT:=ag.size;clear G ak am ag aC
 go_wp2_with fail
 go_loopg [10] k.length (λgh x wr=>∃j,j<=k.length/\gh=k.length-j/\x=.int .i64 j/\RwF w.heap.size wr (.slice ad k.length aM) k (λi f a b=>i<j->OwnR w1.heap.size wr a f.items/\VO w1.heap.size wr b f.vec)/\Below w.heap.size w wr/\w1.heap.size<=wr.heap.size)
 case atStart=>exact⟨0,X3 _,rfl,rfl,aL.o.imp λi f a b _ _=>λh0=>absurd h0 (Ue _),aE.o,Zp _⟩
 case round=>
  obtain⟨j,hj,rfl,rfl,G,I,bi⟩:=hrel;have HR:=qL G;have ao:=qL I;by_cases L:j<k.length
  .obtain⟨g,aY,rfl,hg,bc,_,h0⟩:=aK.o (by intro e;subst e;simp at L);have M:j<fs.length:=a8;obtain⟨bb,aD,rfl,ax,Y⟩:=ar.o.2.2 (by intro e;subst e;simp at M);obtain⟨c0,c1⟩:=Y j M;obtain⟨d0,d1⟩:=aI.o j M;replace c0:=(I.cell (p:=⟨bb,aD+j*2,none⟩) ax).trans c0;replace c1:=(I.cell (p:=⟨bb,aD+j*2+1,none⟩) ax).trans c1;have aj:=Yf L;have U:=HB.o _ aj;have an:=HZ.o _ aj;obtain⟨f,hf⟩:=xm (k[j]);obtain⟨q,hq⟩:=xm (fs[j]);rw[<-hf]at d0 d1 U an;rw[<-hq]at d0 d1 c0 c1;obtain⟨af,cf,e0⟩:=zK d0;obtain⟨av,cv,e1⟩:=zss d1;rw[e0]at c0 d0;rw[e1]at c1 d1;have HF:=qL hf;clear hq e0 e1 hf aj Y;obtain⟨y,O⟩:=xm (wr.alloc (.cells #[.slice af f.items.length cf,.slice av f.vec.length cv] 72));have V:y.heap[wr.heap.size]?=some (.cells #[.slice af f.items.length cf,.slice av f.vec.length cv] 72 (0,0)):=(by rw[O];exact tp wr _);have ah:Below wr.heap.size wr y:=(by rw[O];exact(tu _ wr).alloc (Zp _) _);have bh:y.heap.size=wr.heap.size+1:=(by rw[O];simp);have ac:∀W,Below y.heap.size y W->Below w.heap.size w W:=λW H=>I.trans ((ah.mono a8).trans (H.mono a8));have hw:∀W,Below y.heap.size y W->∀b o x,D b o->w.cell? ⟨b,o,none⟩=some x->W.cell? ⟨b,o,none⟩=some x:=λW H b o x h hx=>(tn (a:=⟨b,o,none⟩) ((ac W H).block b (aq.o b o h))).trans hx;have ae:∀W,Below y.heap.size y W->∀b o,D b o->b<W.heap.size:=λW H b o h=>vw (aq.o b o h) (ac W H).size;have aF:=qL (λW (H:Below y.heap.size y W)=>zeX (je (d0.mono (λ_ _ h=>h) (hw W H)) (ae W H) U.1) a8);have aG:=qL (λW (H:Below y.heap.size y W)=>zq3 f.vec (d1.mono (λ_ _ h=>h) (hw W H)) (ae W H) U.2 a8 λe he=>by have:=an.2.2 e he;omega);have aV:=qL V;have Z:=qL ah
   have g0:=(zW V 0 _ rfl).1;have g1:=(zW V 1 _ rfl).1;clear d0 d1 V ah ac hw ae U an G I
   go_wp2_with fail
   rw[<-O];have ay:Below y.heap.size y y.drew:=(tu _ _).drew;clear O;refine Kg (Sw:=qe) 9 27 (λQ=>Below y.heap.size y Q/\Q.cell? ⟨wr.heap.size,0,none⟩=some (.slice af f.items.length cf)/\Q.cell? ⟨wr.heap.size,1,none⟩=some (.slice av f.vec.length cv)) dK dK rfl ⟨ay,g0,g1⟩ ?_;simp only[wP,Wb];refine Jz ?_;refine V7 (λu Q=>∃E F,u=.slice E f.items.length F/\OwnR y.heap.size Q u f.items) (λu wa y h hk=>by obtain⟨E,F,e,h⟩:=h;exact⟨E,F,e,h.keep hk λ_ _=>id⟩) rfl ?_ ?_
   .intro P w2 A hk hr K X;have HK:=qL X;clear X;simp[Rds,zA,lk,Op.operands,Call.operands,RdEq]at hr;go_simp;refine(aF.o _ A.1).mono ?_;rintro e w3 ⟨u,rfl,ho,hb⟩;obtain⟨E,F,rfl⟩:=ho.val;have B:Keep qe _ w3:=Keep.of_below' hb (Zp _);exact HK.o _ _ B ⟨A.1.trans (hb.mono A.1.size),B.cell_some A.2.1 id,B.cell_some A.2.2 id⟩ ⟨E,F,rfl,ho.mono A.1.size⟩
   simp only[Y1,yb];refine Jz ?_;refine V7 (λu Q=>∃E F,u=.slice E f.vec.length F/\VO y.heap.size Q u f.vec) (λu wa y h hk=>by obtain⟨E,F,e,h⟩:=h;exact⟨E,F,e,h.keep hk λ_ _=>id⟩) rfl ?_ ?_
   .intro P w2 A hk hr K X;have HK:=qL X;clear X;simp[Rds,zA,lk,Op.operands,Call.operands,RdEq]at hr;go_simp;refine(aG.o _ A.1).mono ?_;rintro e w3 ⟨u,rfl,hb,ho⟩;have ho:VO _ w3 u f.vec:=ho;obtain⟨E,F,rfl⟩:=ho.shape;have B:Keep qe _ w3:=Keep.of_below' hb (Zp _);exact HK.o _ _ B ⟨A.1.trans (hb.mono A.1.size),B.cell_some A.2.1 id,B.cell_some A.2.2 id⟩ ⟨E,F,rfl,ho.mono A.1.size⟩
   simp only[Y1,yb];refine Jz ?_;refine V7 (λu Q=>∃T n1 P n2,u=.agg #[.slice T f.items.length n1,.slice P f.vec.length n2]/\OwnR y.heap.size Q (.slice T f.items.length n1) f.items/\VO y.heap.size Q (.slice P f.vec.length n2) f.vec) (λu wa y h hk=>by obtain⟨T,n1,P,n2,e,h,h'⟩:=h;exact⟨T,n1,P,n2,e,h.keep hk λ_ _=>id,h'.keep hk λ_ _=>id⟩) rfl ?_ ?_
   .intro P w2 A hk hr K X;have HK:=qL X;clear X;simp[Rds,zA,lk,Op.operands,Call.operands,RdEq]at hr;obtain⟨⟨_,⟨e1,e2⟩,⟨E,F,rfl⟩,ho⟩,_,⟨e3,e4⟩,⟨aw,cw,rfl⟩,hv⟩:=hr;go_simp;exact HK.o _ _ (Keep.refl _ _) A ⟨E,F,aw,cw,rfl,ho,hv⟩
   simp only[Y1,yb];intro w2 ai aP;simp only[finG,WR,Y1,yb,wN,Wh,WS];simp only[Act.put,wB,wS,wT];rintro _ ⟨_,_,rfl,_⟩ _ ⟨_,_,rfl,_⟩ _ ⟨T,n1,P,n2,rfl,hu,hv⟩;have HU:=qL hu;have HV:=qL hv;have ab:=qL ai.1;have aU:=ai.1.size;have N:=HR.o.keep (w':=w2) (λb hb=>(ab.o.block b a8).trans (Z.o.block b hb));obtain⟨xa,xb,aW,aZ,aX,ba,_⟩:=N.at h0 L;have aJ:=qL N;clear hu hv ai aP ay N g0 g1 c0 c1
   go_wp2_with fail
   go_roundg (k.length-(j+1));case measure=>omega
   case rel=>
    have hS:∀x,w1.heap.size<=x->¬x=g:=λx hx e=>a8;refine⟨j+1,L,rfl,b6,aJ.o.set (λi hi a b bg hx be=>?_) L (λ_=>?_),?_,a9⟩
    .have J:=(((Keep.of_below' (S:=λx=>x=g) Z.o (Zp _)).trans (Keep.of_below' ab.o (Zp _))).setCell (p:=⟨g,j*2,none⟩) (λ_=>rfl) (.slice T f.items.length n1)).setCell (p:=⟨g,j*2+1,none⟩) (λ_=>rfl) (.slice P f.vec.length n2);obtain⟨h1,h2⟩:=hx a8;exact⟨h1.keep J hS,h2.keep J hS⟩
    .have J:=((Keep.refl (λx=>x=g) w2).setCell (p:=⟨g,j*2,none⟩) (λ_=>rfl) (.slice T f.items.length n1)).setCell (p:=⟨g,j*2+1,none⟩) (λ_=>rfl) (.slice P f.vec.length n2);rw[<-HF.o];exact⟨(HU.o.mono a8).keep J hS,(HV.o.mono a8).keep J hS⟩
    .exact tX (tX (ao.o.trans ((Z.o.mono a8).trans (ab.o.mono a8))) (by show w.heap.size<=g;omega) _) (by show w.heap.size<=g;omega) _
  .obtain rfl:j=k.length:=a8
   go_wp2_with fail
   refine tz (tK rfl _ _ _) rfl ?_;exact⟨_,rfl,ao.o,HR.o.imp λi f a b hi hx=>⟨(hx hi).1.mono a8,(hx hi).2.mono a8⟩⟩
end
section
open Go.RowKit
def OutG(C:Qk)(mb base:Nat)(w:World)(v:Value)(o:List Fg):Prop:=
 ∃j,OwnC base w v o.length j/\∀i (h:i<o.length),∃a b,j[i*2]?=some a/\j[i*2+1]?=some b/\Dat (DX C mb w v) w a (rg o[i].items)/\Dat (DX C mb w v) w b (vp o[i].vec)
def OutG.start(C:Qk)(j base:Nat)(w:World):OutG C j base w (.slice none 0 0) []:=⟨[],⟨tS _ _ _ _,rfl,b6⟩,λi h=>absurd h b6⟩
def OutG.owns{C:Qk}{u base:Nat}{w:World}{v:Value}{o:List Fg}(h:OutG C u base w v o):∀k,v.ownBlock=some k->base<=k/\k<w.heap.size:=by obtain⟨y,j,_⟩:=h;exact j.1.lt
def OutG.shape{C:Qk}{G base:Nat}{w:World}{v:Value}{o:List Fg}(h:OutG C G base w v o):∃u j,v=.slice u o.length j/\o.length<=j/\j<=maxLen:=by
 obtain⟨H,B,_⟩:=h;rcases B.cases with⟨rfl,A,_⟩|⟨g,j,y,rfl,_,_,_,E,F,_⟩
 .exact⟨none,0,by rw[A],a8,b8⟩
 .exact⟨_,j,rfl,E,F⟩
def OwnC.keep{base:Nat}{w w':World}{v:Value}{n:Nat}{xs:List Value}(h:OwnC base w v n xs)(hb:∀k,v.ownBlock=some k->w'.heap[k]?=w.heap[k]?):OwnC base w' v n xs:=by
 refine⟨⟨h.1.1,?_⟩,h.2⟩;rcases h.1.2 with h|⟨g,j,u,e,A,y,r⟩
 .exact .inl h
 .exact .inr ⟨g,j,u,e,A,(hb g (by rw[e];rfl)).trans y,r⟩
def OutG.keep{C:Qk}{u base:Nat}{w w':World}{v:Value}{o:List Fg}(h:OutG C u base w v o)(hs:w.heap.size<=w'.heap.size)(hb:∀k,k<w.heap.size->w'.heap[k]?=w.heap[k]?):OutG C u base w' v o:=by obtain⟨xs,j,y⟩:=h;refine⟨xs,j.keep λk hk=>hb k (j.1.lt k hk).2,λi hi=>?_⟩;obtain⟨a,b,c,d,e,f⟩:=y i hi;exact⟨a,b,c,d,DX.keep e hs λk hk _=>hb k hk,DX.keep f hs λk hk _=>hb k hk⟩
def DX.grown{C:Qk}{u:Nat}{w A:World}{v y x:Value}{p:PV}(h:Dat (DX C u w v) w x p)(F:∀b o,C b o->b<u)(G:u<w.heap.size)(B:w.grownBy A v.ownBlock)(j:y.ownBlock=v.ownBlock\/y.ownBlock=some w.heap.size):Dat (DX C u A y) A x p:=
 h.mono (λb o h=>⟨h.1.imp id λh=>⟨h.1,vw h.2 B.size⟩,λe=>by
  rcases j with j|j
  .exact h.2 (j.symm.trans e)
  .rw[j]at e;cases e;rcases h.1 with h|h
   .have:=F _ _ h;omega
   .omega⟩) λb o x h E=>(tn (a:=⟨b,o,none⟩) (B.block b (tq w ⟨b,o,none⟩ E) λe=>h.2 e.symm)).trans E
def zeu{D:Qk}{w:World}{v:Value}{l:List En}(h:Dat D w v (vp l)):v.oneCell'=true:=by have u:Dat D w v (.sl (l.map ec) .sh):=h;obtain⟨A,j,sz,b,y,f,e1,_⟩:=(Rel.dat (ρ:=λ_=>0) (nb:=0) u).inv_sl;rw[e1];rfl
def OutG.insK{C:Qk}{B base:Nat}{w G:World}{v I:Value}{o:List Fg}{f:Fg}{E:List Value}{p q:Value}{i:Nat}(hi:i<=o.length)(P:E.length=o.length*2)
 (J:∀i (h:i<o.length),∃a b,E[i*2]?=some a/\E[i*2+1]?=some b/\Dat (DX C B w v) w a (rg o[i].items)/\Dat (DX C B w v) w b (vp o[i].vec))
 (N:Dat (DX C B w v) w p (rg f.items)) (O:Dat (DX C B w v) w q (vp f.vec)) (u:∀{x:Value}{p:PV},Dat (DX C B w v) w x p->Dat (DX C B G I) G x p)
 (ho:OwnC base G I (o.length+1) (E.take (i*2)++[p,q]++E.drop (i*2))):OutG C B base G I (o.take i++f::o.drop i):=by
 have A:(o.take i++f::o.drop i).length=o.length+1:=a9
 have ht:(E.take (i*2)).length=i*2:=a9
 refine⟨_,by rw[A];exact ho,λj L=>?_⟩;rw[A]at L;rcases WK j i with M|H|K
 .obtain⟨a,b,c,d,e,k⟩:=J j a8;have y:(o.take i++f::o.drop i)[j]=o[j]'a8:=(by rw[up a9,uW]);rw[y];refine⟨a,b,?_,?_,u e,u k⟩
  .rw[wR,V3 a8,wt,vj a8];exact c
  .rw[wR,V3 a8,wt,vj a8];exact d
 .subst H;have y:(o.take j++f::o.drop j)[j]=f:=by rw[Wv (by rw[Wd];exact UG _ _)];simp[W5 hi]
  rw[y];refine⟨p,q,?_,?_,u N,u O⟩
  .rw[wR,V1 a8,ht,UM];rfl
  .rw[wR,V1 a8,ht,show j*2+1-j*2=1 by omega];rfl
 .obtain⟨a,b,c,d,e,k⟩:=J (j-1) a8;have y:(o.take i++f::o.drop i)[j]=o[j-1]'a8:=(by rw[Wv a9];obtain⟨m,rfl⟩:∃m,j=i+1+m:=⟨j-(i+1),a8⟩;simp only[Wd,W5 hi,show i+1+m-i=m+1 by omega,WM,Us,show i+1+m-1=i+m by omega]);rw[y];have F:(E.take (i*2)++[p,q]).length=i*2+2:=a9;refine⟨a,b,?_,?_,u e,u k⟩
  .rw[V1 a8,F,Wj,show i*2+(j*2-(i*2+2))=(j-1)*2 by omega];exact c
  .rw[V1 a8,F,Wj,show i*2+(j*2+1-(i*2+2))=(j-1)*2+1 by omega];exact d
def OutG.ins{C:Qk}{j base:Nat}{w E:World}{v y:Value}{o:List Fg}{f:Fg}{u:List Value}{p q:Value}{i:Nat}(hi:i<=o.length)(I:u.length=o.length*2)
 (F:∀i (h:i<o.length),∃a b,u[i*2]?=some a/\u[i*2+1]?=some b/\Dat (DX C j w v) w a (rg o[i].items)/\Dat (DX C j w v) w b (vp o[i].vec))
 (J:Dat (DX C j w v) w p (rg f.items)) (K:Dat (DX C j w v) w q (vp f.vec)) (G:∀b o,C b o->b<j) (A:j<w.heap.size)
 (ho:OwnC base E y (o.length+1) (u.take (i*2)++[p,q]++u.drop (i*2))) (H:w.grownBy E v.ownBlock) (B:y.ownBlock=v.ownBlock\/y.ownBlock=some w.heap.size):OutG C j base E y (o.take i++f::o.drop i):=
 OutG.insK hi I F J K (λh=>DX.grown h G A H B) ho
def DX.new{C:Qk}{A:Nat}{w u:World}{v B x:Value}{p:PV}(h:Dat (DX C A w v) w x p)(E:∀b o,C b o->b<w.heap.size)(hb:Below w.heap.size w u)(j:∀k,B.ownBlock=some k->w.heap.size<=k):Dat (DX C A u B) u x p:=
 h.mono (λb o h=>⟨h.1.imp id λh=>⟨h.1,vw h.2 hb.size⟩,λe=>by
  have:=j b e;rcases h.1 with h|h
  .have:=E _ _ h;omega
  .omega⟩) λb o x _ y=>(tn (a:=⟨b,o,none⟩) (hb.block b (tq w ⟨b,o,none⟩ y))).trans y
def OutG.set{C:Qk}{H base g:Nat}{w:World}{y:Nat}{o:List Fg}{l:List Iv}{E:Value}{i:Nat}(h:OutG C H base w (.slice (some ⟨g,0,none⟩) o.length y) o)(hi:i<o.length)(N:Dat (DX C H w (.slice (some ⟨g,0,none⟩) o.length y)) w E (rg l))(O:0<y):
 OutG C H base (w.setCell ⟨g,i*2,none⟩ E) (.slice (some ⟨g,0,none⟩) o.length y) (o.take i++⟨l,o[i].vec⟩::o.drop (i+1)):=by
 obtain⟨X,I,Q⟩:=h;have A:(o.take i++(⟨l,o[i].vec⟩:Fg)::o.drop (i+1)).length=o.length:=a9
 obtain⟨V,Y⟩:=I.1.stored (i*2) E;have J:(Value.slice (some ⟨g,0,none⟩) o.length y).ownBlock=some g:=by
  cases y with
  |zero=>omega
  |succ c=>rfl
 have B:∀{x:Value}{p:PV},Dat (DX C H w (.slice (some ⟨g,0,none⟩) o.length y)) w x p->Dat (DX C H (w.setCell ⟨g,i*2,none⟩ E) (.slice (some ⟨g,0,none⟩) o.length y)) (w.setCell ⟨g,i*2,none⟩ E) x p:=λh=>
  DX.keep h b6 λk hk L=>tx _ _ _ _ λe=>L (by rw[J];exact ud some e.symm)
 refine⟨X.set (i*2) E,⟨by rw[A];exact V,by rw[A,Uf];exact I.2.1,λu M=>?_⟩,λj P=>?_⟩
 .rcases Ub M with M|rfl
  .exact I.2.2 u M
  .exact Ki N
 .have K:j<o.length:=(by rw[A]at P;exact P);obtain⟨a,b,c,d,e,k⟩:=Q j K;have U:=I.2.1;by_cases G:j=i
  .subst G;have F:(o.take j++(⟨l,o[j].vec⟩:Fg)::o.drop (j+1))[j]=⟨l,o[j].vec⟩:=by rw[Wv (by rw[Wd];exact UG _ _)];simp[W5 (uy hi)]
   rw[F];refine⟨E,b,?_,?_,B N,B k⟩
   .rw[WL a8]
   .rw[wV a8];exact d
  .have F:(o.take i++(⟨l,o[i].vec⟩:Fg)::o.drop (i+1))[j]=o[j]:=by
    rcases Nat.lt_or_gt_of_ne G with T|S
    .rw[up a9,uW]
    .rw[Wv a9];obtain⟨m,rfl⟩:∃m,j=i+1+m:=⟨j-(i+1),a8⟩;simp only[Wd,W5 (uy hi),show i+1+m-i=m+1 by omega,WM,Us]
   rw[F];refine⟨a,b,?_,?_,B e,B k⟩
   .rw[wV a8];exact c
   .rw[wV a8];exact d
def OutG.setV{C:Qk}{B base g:Nat}{w:World}{y:Nat}{o:List Fg}{a0:Value}{i n:Nat}(N:o.length=n)(h:OutG C B base w (.slice (some ⟨g,0,none⟩) n y) o)(hi:i<o.length)(J:Dat (DX C B w (.slice (some ⟨g,0,none⟩) n y)) w a0 (vp o[i].vec))(K:0<y):
 OutG C B base (w.setCell ⟨g,i*2+1,none⟩ a0) (.slice (some ⟨g,0,none⟩) n y) o:=by
 subst N;obtain⟨Q,E,L⟩:=h;obtain⟨P,S⟩:=E.1.stored (i*2+1) a0;have F:(Value.slice (some ⟨g,0,none⟩) o.length y).ownBlock=some g:=by
  cases y with
  |zero=>omega
  |succ c=>rfl
 have A:∀{x:Value}{p:PV},Dat (DX C B w (.slice (some ⟨g,0,none⟩) o.length y)) w x p->Dat (DX C B (w.setCell ⟨g,i*2+1,none⟩ a0) (.slice (some ⟨g,0,none⟩) o.length y)) (w.setCell ⟨g,i*2+1,none⟩ a0) x p:=λh=>
  DX.keep h b6 λk hk H=>tx _ _ _ _ λe=>H (by rw[F];exact ud some e.symm)
 refine⟨Q.set (i*2+1) a0,⟨P,by rw[Uf];exact E.2.1,λu I=>?_⟩,λj M=>?_⟩
 .rcases Ub I with I|rfl
  .exact E.2.2 u I
  .exact zeu J
 .obtain⟨a,b,c,d,e,k⟩:=L j M;have O:=E.2.1;by_cases G:j=i
  .subst G;refine⟨a,a0,?_,?_,A e,A J⟩
   .rw[wV a8];exact c
   .rw[WL a8]
  .refine⟨a,b,?_,?_,A e,A k⟩
   .rw[wV a8];exact c
   .rw[wV a8];exact d
def OutG.dat{C:Qk}{H base:Nat}{w:World}{v:Value}{o:List Fg}(h:OutG C H base w v o)(hb:H<base):Dat (DL C H w) w v (kp o):=by
 obtain⟨K,L,O⟩:=h;rcases L.1.2 with⟨rfl,N⟩|⟨g,I,M,rfl,X,Q,V,U,hs,ht⟩
 .obtain rfl:=wX.1 N;exact .sl none 0 2 [] .sh 0 0 (λ_=>undef) b6 (λh=>by cases h) b8 (λh=>absurd rfl h) (λi e h=>by simp at h) (λj h=>by simp at h) (λi e j p h=>by simp at h)
 .have J:=(XE.1 Q).1;have F:∀j x,K[j]?=some x->w.cell? ⟨g,j,none⟩=some x:=λj x A=>(by have:=L.1.cells (g:=g) rfl j x A;rw[zh,wn]at this;exact this);have u:∀i (h:i<o.length) j p,(fc o[i])[j]?=some p->∃x,K[i*2+j]?=some x/\Dat (DL C H w) w x p/\x.oneCell'=true:=λi h j p B=>by
   obtain⟨a,b,c,d,e,k⟩:=O i h;match j,B with
   |0,B=>cases B;exact⟨_,c,e.mono (λ_ _ h=>h.1) λ_ _ _ _ h=>h,Ki e⟩
   |1,B=>cases B;exact⟨_,d,k.mono (λ_ _ h=>h.1) λ_ _ _ _ h=>h,zeu k⟩
   |j+2,B=>simp[fc]at B
  have E:∀(i:Nat)(e:List PV),(o.map fc)[i]?=some e->∃h:i<o.length,e=fc o[i]:=λi e G=>(by rw[wj]at G;obtain⟨x,A,rfl⟩:=ZZ.1 G;obtain⟨h,rfl⟩:=Zw.1 A;exact⟨h,rfl⟩);have y:(o.map fc).length=o.length:=wu _;unfold kp;rw[<-y];refine .sl (some ⟨g,0,none⟩) I 2 (o.map fc) .sh g 0 (λj=>(K[j]?).getD undef) (by rw[y];exact V) (λh=>by cases h) U (λ_=>rfl) (λi e G=>?_) (λj T=>?_) (λi e j p G B=>?_)
  .obtain⟨h,rfl⟩:=E i e G;rfl
  .rw[y]at T;have hi:j/2<o.length:=a8;have P:j%2<(fc o[j/2]).length:=U3 _ b8;obtain⟨x,A,_,ho⟩:=u (j/2) hi (j%2) ((fc o[j/2])[j%2]) (Zv P);rw[show j/2*2+j%2=j by omega]at A;rw[wn];refine⟨.inr ⟨a8,J⟩,?_,?_⟩
   .rw[A];exact F j x A
   .rw[A];exact ho
  .obtain⟨h,rfl⟩:=E i e G;obtain⟨x,A,S,_⟩:=u i h j p B;rw[A];exact S
def OutG.box{C:Qk}{u base rb:Nat}{w:World}{v x:Value}{o:List Fg}(h:OutG C u base w v o)(hb:rb<u)(F:rb<base)(E:∀b o,C b o->b≠rb):OutG C u base (w.setCell ⟨rb,0,none⟩ x) v o:=by
 have j:∀{y:Value}{p:PV},Dat (DX C u w v) w y p->Dat (DX C u (w.setCell ⟨rb,0,none⟩ x) v) (w.setCell ⟨rb,0,none⟩ x) y p:=λh=>
  h.mono (λb o h=>⟨h.1.imp id λh=>⟨h.1,dJ h.2⟩,h.2⟩) λb o y h G=>(tn (a:=⟨b,o,none⟩) (tx _ _ _ _ (by
   show b≠rb;rcases h.1 with h|h
   .exact E _ _ h
   .omega))).trans G
 obtain⟨H,A,B⟩:=h;refine⟨H,A.keep λk hk=>tx _ _ _ _ (by have:=(A.1.lt k hk).1;show k≠rb;omega),λi hi=>?_⟩;obtain⟨a,b,c,d,e,f⟩:=B i hi;exact⟨a,b,c,d,j e,j f⟩
end
end Go.Proofs.YtbhngpjkakcgfaaGreatDoor
