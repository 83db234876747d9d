import Derived.Test.YtonhfknjcbakiaaGreatDoorB37
import Derived.Test.YtonhfknjcbakiaaGreatDoorB40
set_option maxHeartbeats 16000000
set_option linter.unusedVariables false
set_option linter.unusedSimpArgs false
set_option maxRecDepth 100000
namespace Go.Proofs.YtonhfknjcbakiaaGreatDoor
open Go.RowKit Go.Lib
attribute [-go_sem] nat_succ
theorem Z9:(Tryz.prog.info? 34).map (fun i=>(i.zero,i.size,i.bytes))=some (some (.agg #[.slice none 0 0,.slice none 0 0]),2,48):=by kernel_rfl
def OwnC (base:Nat) (w:World) (v:Value) (n:Nat) (a:List Value):Prop:=w.ownsRow base 34 2 v n a/\a.length=n * 2/\∀ u ∈ a,u.oneCell'=true
theorem OwnC.cases {base:Nat} {w:World} {v:Value} {n:Nat} {A:List Value} (h:OwnC base w v n A):(v=.slice none 0 0/\n=0/\A=[]) \/
 ∃ g a j,v=.slice (some ⟨g,0,none⟩) n a/\base<=g/\g<w.heap.size/\w.heap[g]? = some (.cells j 34 (0,0))/\n<=a/\a<=maxLen/\j.size=a * 2/\j.toList.take (n * 2)=A:=by
 rcases h.1.2 with⟨u,y⟩ | ⟨g,a,j,u,y,B,C,E,F,G⟩
 ·subst y;exact .inl ⟨u,rfl,List.length_eq_zero_iff.1 (by rw [h.2.1])⟩
 ·exact .inr ⟨g,a,j,u,y,(Array.getElem?_eq_some_iff.1 B).1,B,C,E,F,G⟩
theorem vI {w:World} {A:Nat} {vt:TypeId} {p q:Value} (y:w.heap[A]? = some (.cells #[p,q] vt (0,0))):∀ j u,[p,q][j]? = some u->w.cell? ((⟨A,0,none⟩:Addr).add j)=some u:=fun j u a=>by
 match j,a with
 | 0,a=>cases a;simp [World.cell?,Addr.add,y]
 | 1,a=>cases a;simp [World.cell?,Addr.add,y]
 | j+2,a=>simp at a
theorem yF {p q:Value} (j:p.oneCell'=true) (w:q.oneCell'=true):∀ u ∈ [p,q],u.oneCell'=true:=fun u a=>by
 simp at a
 rcases a with rfl | rfl
 ·exact j
 ·exact w
theorem x3 {P:Program} (w:World) (I O Q y:TypeId) (b o u C:Nat) (a:Addr) (A F H:Nat) (B:List Value)
 (N:P.underlying I=some (.slice y)) (hs:(P.info? y).map (·.size)=some H) (M:B.length=Nat.min A u * H)
 (E:∀ j v,B[j]? = some v->w.cell? (a.add j)=some v) (K:∀ j,j<B.length->(w.cell? ⟨b,o+j,none⟩).isSome=true) (L:∀ j,j<B.length->w.frozen? ⟨b,o+j,none⟩=false) (J:∀ v ∈ B,v.oneCell'=true) :
 (Builtin.copy_ #[I,O] Q #[.slice (some ⟨b,o,none⟩) u C,.slice (some a) A F]).run P w=.ok (goInt (Nat.min A u)) (w.setCells b o B):=by
 have hl:=run_loadCells_list (P:=P) w a B E
 have G:=run_storeCells_cells (P:=P) b o B 0 w (by simpa using K) (by simpa using L) J
 cases hq:P.info? y with
 | none=>simp [hq] at hs
 | some i=>
   have hi:i.size=H:=by simpa [hq] using hs
   simp [Builtin.copy_,run_underlying N,Builtin.lenOf,Builtin.firstCells,sizeOf,typeInfo,hq,hi,<-M,hl,G]
theorem zaF {P:Program} {t a j e e2:TypeId} {b:Option Addr} {n c:Nat} {x:Value} {w:World} (u:P.underlying t=some (.slice e)) (y:P.underlying a=some (.slice e2)):(Builtin.append_ #[t,a] j #[.slice b n c,x]).run P w=(Builtin.append_ #[t,t] j #[.slice b n c,x]).run P w:=by
 simp [Builtin.append_,run_underlying u,run_underlying y]
theorem yR {P:Program} {w:World} {I:Array Oper} {rest:List Oper} {o:Oper} {a:Act} {Q:Exit->Act->World->Prop} (O:o.guard=none) (s x:Operand) (t X e2:TypeId)
 (ho:o.op=.call { callee:=.builtin .append,args:=#[s,x],argTypes:=#[t,X] }) (T:P.underlying X=some (.slice e2))
 (base:Nat) (e:TypeId) (i:TypeInfo) (z:Value) (size A:Nat) (ht:P.underlying t=some (.slice e)) (hi:P.info? e=some i) (hz:i.zero=some z)
 (G:i.size=size) (N:i.bytes=A) (hzs:z.cells.size=size) (S:0<size)
 (v:Value) (n:Nat) (U:List Value) (hs:a.eval s=v) (C:w.ownsRow base e size v n U)
 (L:Addr) (m c:Nat) (y:List Value) (hx:a.eval x=.slice (some L) m c) (hl:y.length=m * size) (F:∀ j u,y[j]? = some u->w.cell? (L.add j)=some u) (Y:∀ u ∈ y,u.oneCell'=true)
 (M:n+m<=maxLen) (B:(n+m) * A<=140737488355328) (E:base<=w.heap.size)
 (h:∀ H J,J.ownsRow base e size H (n+m) (U++y)->w.grownBy J v.ownBlock->(H.ownBlock=v.ownBlock\/H.ownBlock=some w.heap.size)->wpList P I Q rest (a.put o.dst H) J) :
 wpList P I Q (o::rest) a w:=by
 refine wpList_plain O fun K hK=>?_
 obtain⟨H,J,V,Z,h3,_,h5⟩:=run_append_own_at (P:=P) w base t o.type e i z size A ht hi hz G N hzs S v n U C L m c y hl F Y M B E
 obtain⟨b0,n0,c0,rfl⟩:∃ b n c,v=.slice b n c:=by rcases C.2 with⟨h,_⟩ | ⟨_,_,_,h,_⟩<;>exact⟨_,_,_,h⟩
 rw [<-zaF ht T] at V
 unfold Oper.wp execOp
 simp only [ho,resolve,invoke,builtin,Sem.run_bind,Sem.run_pure,Result.andThen_ok,List.map_toArray,List.map_cons,List.map_nil,hs,hx,V]
 exact hK _ _ (h H J Z h3 h5)
theorem zc2 (base K:Nat) (vt:TypeId) (w:World) (v:Value) (n:Nat) (L:List Value) (p q:Value) (hp:p.oneCell'=true) (hq:q.oneCell'=true) (a:OwnC base w v n L) (Q:w.heap[K]? = some (.cells #[p,q] vt (0,0))) (hl:n<=1073741824) (y:base<=w.heap.size) :
 Calls Tryz.prog 166 #[v,.int .i64 (n:Nat),.slice (some ⟨K,0,none⟩) 1 1] w fun e B=>∃ j,e=.returned j/\OwnC base B j (n+1) (L++[p,q])/\w.grownBy B v.ownBlock/\(j.ownBlock=v.ownBlock\/j.ownBlock=some w.heap.size):=by
 obtain⟨V,F,H,I,J⟩:=info_parts Z9
 have U:=vI Q
 have A:=yF hp hq
 have fin:∀ j B,B.ownsRow base 34 2 j (n+1) (L++[p,q])->OwnC base B j (n+1) (L++[p,q]):=fun j B h=>⟨h,by have:=a.2.1;simp;omega,fun u G=>by
  rcases List.mem_append.1 G with G | G
  ·exact a.2.2 u G
  ·exact A u G⟩
 have S:=Lib.hid a.1
 rcases a.cases with⟨rfl,rfl,rfl⟩ | ⟨g,M,X,rfl,Y,Z,ab,ac,N,O,P⟩
 ·clear a
  go_enter Tryz.func166,Tryz.ntmps166
  go_wp2_with (at_builtin;refine yR rfl _ _ 23 22 34 rfl Tryz.underlying22 base 34 V (.agg #[.slice none 0 0,.slice none 0 0]) 2 48 Tryz.underlying23 F H I J rfl (by decide) _ _ _ rfl S.out ⟨K,0,none⟩ 1 1 [p,q] rfl rfl U A (by simp [maxLen]) (by simp) y ?_;intro j B ho E C)
  go_ret
  exact⟨j,rfl,fin j B ho,E,C⟩
 ·unfold maxLen at N
  have T:M<=9223372036854775807:=by omega
  clear a P O
  go_enter Tryz.func166,Tryz.ntmps166
  go_wp2_with (at_builtin;refine yR rfl _ _ 23 22 34 rfl Tryz.underlying22 base 34 V (.agg #[.slice none 0 0,.slice none 0 0]) 2 48 Tryz.underlying23 F H I J rfl (by decide) _ _ _ rfl S.out ⟨K,0,none⟩ 1 1 [p,q] rfl rfl U A (by unfold maxLen;omega) (by omega) y ?_;intro j B ho E C)
  all_goals (go_ret;exact⟨j,rfl,fin j B ho,E,C⟩)
def zS:Value:=.slice none 0 0
theorem zgF (n:Nat):(Builtin.zeroCells (Value.agg #[.slice none 0 0,.slice none 0 0]).cells n).toList=List.replicate (n * 2) zS:=by
 apply List.ext_getElem
 ·simp [Builtin.zeroCells,Value.cells]
 ·intro i a j
  rcases Nat.mod_two_eq_zero_or_one i with h | h<;>simp [Builtin.zeroCells,Value.cells,h,zS]
theorem za6 {xs ms:List Value} {u:Value} {i:Nat} (hi:i<=xs.length):kF (kF (xs.take i++List.replicate (xs.length+ms.length - i) u) i ms) (i+ms.length) (xs.drop i)=xs.take i++ms++xs.drop i:=by
 have hl:(xs.take i).length=i:=by simp;omega
 have e1:=kG (xs.take i) (List.replicate ms.length u) (List.replicate (xs.length - i) u) ms (by simp) hl.symm
 have e2:=kG (xs.take i++ms) (List.replicate (xs.length - i) u) [] (xs.drop i) (by simp) (i:=i+ms.length) (by simp;omega)
 rw [show xs.length+ms.length - i=ms.length+(xs.length - i) by omega,<-List.replicate_append_replicate,<-List.append_assoc,e1]
 simpa using e2
theorem za7 {xs ms us:List Value} {i:Nat} (hi:i<=xs.length) (j:us.length=ms.length):kF (kF (xs++us) (i+ms.length) (xs.drop i)) i ms=xs.take i++ms++xs.drop i:=by
 rw [jt (xs.drop i) _ _ (by simp;omega)]
 have a:i+ms.length+(xs.drop i).length=(xs++us).length:=by simp;omega
 rw [a,List.drop_length,List.append_nil]
 rw [jt ms _ _ (by simp;omega)]
 have ht:((xs++us).take (i+ms.length)).length=i+ms.length:=by simp;omega
 rw [List.take_append_of_le_length (by rw [ht];omega),List.take_take,Nat.min_eq_left (by omega),List.take_append_of_le_length hi]
 rw [List.drop_append,ht,Nat.sub_self,List.drop_zero,List.drop_eq_nil_of_le (by omega),List.nil_append]
theorem X6 {base:Nat} {w:World} {v:Value} {n i:Nat} {j y:List Value} (hi:i<=n) (E:j.length=n * 2) (C:y.length=2) (A:∀ u ∈ j,u.oneCell'=true) (B:∀ u ∈ y,u.oneCell'=true)
 (h:w.ownsRow base 34 2 v (n+1) (j.take (i * 2)++y++j.drop (i * 2))):OwnC base w v (n+1) (j.take (i * 2)++y++j.drop (i * 2)):=
 ⟨h,by simp;omega,fun u a=>by
  rcases List.mem_append.1 a with a | a
  ·rcases List.mem_append.1 a with a | a
   ·exact A u (List.mem_of_mem_take a)
   ·exact B u a
  ·exact A u (List.mem_of_mem_drop a)⟩
theorem zc3 (base P:Nat) (vt:TypeId) (w:World) (g a n:Nat) (A:List Value) (p q:Value) (i:Nat) (hp:p.oneCell'=true) (hq:q.oneCell'=true) (hi:i<n) (C:OwnC base w (.slice (some ⟨g,0,none⟩) n a) n A) (ab:a<n+1) (ah:w.heap[P]? = some (.cells #[p,q] vt (0,0))) (hl:n<=1073741824) (Z:base<=w.heap.size) :
 Calls Tryz.prog 166 #[.slice (some ⟨g,0,none⟩) n a,.int .i64 (i:Nat),.slice (some ⟨P,0,none⟩) 1 1] w fun e w'=>∃ v',e=.returned v'/\OwnC base w' v' (n+1) (A.take (i * 2)++[p,q]++A.drop (i * 2))/\w.grownBy w' none/\v'.ownBlock=some w.heap.size:=by
 obtain⟨i0,ao,aD,hzs,av⟩:=info_parts Z9
 have K:A.length=n * 2:=C.2.1
 have I:=C.2.2
 have au:=vI ah
 have aC:P<w.heap.size:=(Array.getElem?_eq_some_iff.1 ah).1
 have aA:g<w.heap.size:=(C.1.lt g rfl).2
 have aM:n<=a:=by
  rcases C.cases with⟨h,_⟩ | ⟨g',aF,_,h,_,_,_,h4,_⟩
  ·cases h
  ·cases h;omega
 have hg:∀ j v,A[j]? = some v->w.cell? ⟨g,j,none⟩=some v:=fun j v F=>by
  have:=World.ownsRow.cells C.1 (g:=g) rfl j v F
  rw [zh,Nat.zero_add] at this
  exact this
 have ar:(n:Int)+1 - (i:Int)=((n+1 - i:Nat):Int):=by omega
 have ac:i+(n+1 - i)=n+1:=by omega
 have O:(Builtin.firstCells i0.size i (.slice (some ⟨g,0,none⟩) i a)).run Tryz.prog w.drew=.ok (A.take (i * 2)).toArray w.drew:=by
  rw [hzs]
  refine run_firstCells_some w.drew 2 i ⟨g,0,none⟩ i a (A.take (i * 2)) (by rw [List.length_take];omega) (fun j v F=>?_)
  rw [List.getElem?_take] at F
  split at F
  ·have:=hg j v F
   rw [zh,Nat.zero_add]
   exact this
  ·cases F
 have af:∀ J,(Builtin.append_ #[23,3] J #[.slice (some ⟨g,0,none⟩) i a,.int .i64 ((n:Int)+1 - (i:Int))]).run Tryz.prog w =
  .ok (.slice (some ⟨w.heap.size,0,none⟩) (n+1) (grownCap w (n+1) a 34)) (w.drew.alloc (.cells ((A.take (i * 2)).toArray++Builtin.zeroCells (Value.agg #[.slice none 0 0,.slice none 0 0]).cells (n+1 - i)++Builtin.zeroCells (Value.agg #[.slice none 0 0,.slice none 0 0]).cells (grownCap w (n+1) a 34 - (n+1))) 34)):=fun J=>by
  have h:=Lib.run_append_grow_zeros w 23 3 J 34 i0 _ .i64 .i64 Tryz.underlying23 Tryz.underlying3 ao aD (some ⟨g,0,none⟩) i a (A.take (i * 2)) O (n+1 - i) (by omega) (by omega) (by omega) (by omega) (by rw [av];omega) (by rw [av,ac];exact growslice_fits ab (by omega))
  rw [ac] at h
  rw [ar]
  exact h
 obtain⟨G,hG⟩:∃ G,G=grownCap w (n+1) a 34 := ⟨_,rfl⟩
 have ay:n+1<=G:=by rw [hG];exact grownCap_ge w _ _ _
 have ai:G<=maxLen:=by rw [hG];exact grownCap_le_maxLen w _ _ _ (by unfold maxLen;omega)
 obtain⟨R,hR⟩:∃ R:Array Value,R=(A.take (i * 2)).toArray++Builtin.zeroCells (Value.agg #[.slice none 0 0,.slice none 0 0]).cells (n+1 - i)++Builtin.zeroCells (Value.agg #[.slice none 0 0,.slice none 0 0]).cells (G - (n+1)):=⟨_,rfl⟩
 rw [<-hG,<-hR] at af
 have aB:(A.take (i * 2)).length=i * 2:=by rw [List.length_take];omega
 have X:R.toList=(A.take (i * 2)++List.replicate (A.length+[p,q].length - i * 2) zS)++List.replicate ((G - (n+1)) * 2) zS:=by
  rw [hR]
  simp only [Array.toList_append,zgF,K]
  congr 3
  simp
  omega
 have az:R.size=G * 2:=by
  have:R.toList.length=G * 2:=by rw [X];simp;omega
  simpa using this
 obtain⟨B,E⟩:∃ B,B=w.drew.alloc (.cells R 34):=⟨_,rfl⟩
 have o1:B.ownsRow base 34 2 (.slice (some ⟨w.heap.size,0,none⟩) (n+1) G) (n+1) (A.take (i * 2)++List.replicate (A.length+[p,q].length - i * 2) zS):=by
  refine⟨by simp;omega,.inr ⟨w.heap.size,G,R,rfl,Z,?_,ay,ai,by omega,?_⟩⟩
  ·rw [E];exact World.alloc_heap_new w.drew _
  ·rw [X,List.take_append_of_le_length (by simp;omega),List.take_of_length_le (by simp;omega)]
 obtain⟨o2,U⟩:=z9 [p,q] (i * 2) _ _ o1
 obtain⟨o3,g3⟩:=z9 (A.drop (i * 2)) (i * 2+2) ((B.setCells w.heap.size (i * 2) [p,q]).drew) _ o2
 have eg:=za6 (xs:=A) (ms:=[p,q]) (u:=zS) (i:=i * 2) (by omega)
 rw [show i * 2+[p,q].length=i * 2+2 from rfl] at eg
 rw [eg] at o3
 have T:w.grownBy B none:=by
  rw [E]
  exact⟨rfl,rfl,rfl,by simp,fun k hk _=>Below.heap_alloc w.drew _ _ hk⟩
 have S:(i+1) * 2=i * 2+2:=by omega
 have M:w.grownBy (((B.setCells w.heap.size (i * 2) [p,q]).drew).setCells w.heap.size (i * 2+2) (A.drop (i * 2))) none:=by
  refine⟨g3.os.trans (U.os.trans T.os),g3.tape.trans (U.tape.trans T.tape),g3.output.trans (U.output.trans T.output),Nat.le_trans T.size (Nat.le_trans U.size g3.size),fun k hk _=>?_⟩
  have aq:k<B.heap.size:=Nat.lt_of_lt_of_le hk T.size
  have L:some k≠some w.heap.size:=fun e=>by cases e;omega
  rw [g3.block k (Nat.lt_of_lt_of_le aq U.size) L]
  show (B.setCells w.heap.size (i * 2) [p,q]).heap[k]? = _
  rw [U.block k aq L,T.block k hk (by simp)]
 have OF:=Lib.hid (X6 (by omega) K rfl I (yF hp hq) o3)
 have GA:=Lib.hid M
 clear o3 M o1 o2
 rw [<-E] at af
 have hN:∀ j,j<n * 2+2->(B.cell? ⟨w.heap.size,j,none⟩).isSome=true:=fun j F=>by
  rw [E,World.cell?_alloc_at (w:=w.drew) R _ w.heap.size j rfl,Array.getElem?_eq_getElem (by omega)];rfl
 have V:∀ j,B.frozen? ⟨w.heap.size,j,none⟩=false:=fun j=>by rw [E];exact World.frozen?_alloc_at (w:=w.drew) R _ w.heap.size j rfl
 have aj:∀ j v,w.cell? ⟨g,j,none⟩=some v->B.cell? ⟨g,j,none⟩=some v:=fun j v h=>by rw [E,World.cell?_alloc_past (w:=w.drew) _ g j aA];exact h
 have ak:∀ j v,w.cell? ⟨P,j,none⟩=some v->B.cell? ⟨P,j,none⟩=some v:=fun j v h=>by rw [E,World.cell?_alloc_past (w:=w.drew) _ P j aC];exact h
 have ag:(Tryz.prog.info? 34).map (·.size)=some 2:=by rw [ao];simp [hzs]
 have ad:Nat.min 1 (n+1 - i)=1:=by simp only [Nat.min_def];split<;>omega
 have ae:Nat.min (n - i) (n - i)=n - i:=Nat.min_self _
 have an:(A.drop (i * 2)).length=(n - i) * 2:=by rw [List.length_drop,K];omega
 have am:∀(W:World),(∀ y,W.cell? y=B.cell? y)->(∀ y,W.frozen? y=B.frozen? y)->∀ J Q,(Builtin.copy_ #[23,22] J #[.slice (some ⟨w.heap.size,i * 2,none⟩) (n+1 - i) Q,.slice (some ⟨P,0,none⟩) 1 1]).run Tryz.prog W=.ok (goInt 1) (W.setCells w.heap.size (i * 2) [p,q]):=fun W H Y J Q=>by
  have h:=x3 W 23 22 J 34 w.heap.size (i * 2) (n+1 - i) Q ⟨P,0,none⟩ 1 1 2 [p,q] Tryz.underlying23 ag (by rw [ad];rfl)
   (fun j v F=>by have:=au j v F;rw [zh] at this;rw [H,zh];exact ak _ v this)
   (fun j F=>by rw [H];simp at F;exact hN _ (by omega)) (fun j F=>by rw [Y];exact V _) (yF hp hq)
  rw [ad] at h
  exact h
 have L:g≠w.heap.size:=by omega
 have N:∀(W:World),(∀ y,W.cell? y=(B.setCells w.heap.size (i * 2) [p,q]).cell? y)->(∀ y,W.frozen? y=(B.setCells w.heap.size (i * 2) [p,q]).frozen? y)->∀ J Q sc,(Builtin.copy_ #[23,23] J #[.slice (some ⟨w.heap.size,(i+1) * 2,none⟩) (n - i) Q,.slice (some ⟨g,i * 2,none⟩) (n - i) sc]).run Tryz.prog W=.ok (goInt ((n - i:Nat):Int)) (W.setCells w.heap.size (i * 2+2) (A.drop (i * 2))):=fun W H Y J Q sc=>by
  have h:=x3 W 23 23 J 34 w.heap.size ((i+1) * 2) (n - i) Q ⟨g,i * 2,none⟩ (n - i) sc 2 (A.drop (i * 2)) Tryz.underlying23 ag (by rw [an,ae])
   (fun j v F=>by
     rw [H,zh,World.cell?_setCells_out _ _ _ _ _ (fun h _=>absurd h L)]
     exact aj _ v (hg (i * 2+j) v (by rwa [List.getElem?_drop] at F)))
   (fun j F=>by rw [H];exact isSome_setCells _ _ _ _ (fun t ht=>hN _ (by simp at ht;omega)) _ (hN _ (by omega)))
   (fun j F=>by rw [Y,World.frozen?_setCells];exact V _) (fun v hv=>I v (List.mem_of_mem_drop hv))
  rw [ae,S] at h
  rw [S]
  exact h
 have aw:∀ y,((B.setCells w.heap.size (i * 2) [p,q]).drew).cell? y=(B.setCells w.heap.size (i * 2) [p,q]).cell? y:=fun y=>rfl
 have ax:∀ y,((B.setCells w.heap.size (i * 2) [p,q]).drew).frozen? y=(B.setCells w.heap.size (i * 2) [p,q]).frozen? y:=fun y=>rfl
 have aP:¬((i:Int)=(n:Int)):=by omega
 have aQ:(a:Int)<(n:Int)+1:=by omega
 unfold maxLen at ai
 have aH:¬(G=i):=by omega
 have aG:¬(G=i+1):=by omega
 have aK:¬(a=i):=by omega
 have aO:IntKind.i64.wrap ((i:Int)+1)=(i:Int)+1:=by rw [IntKind.wrap_i64];omega
 have aI:(0:Int)<=(i:Int)+1:=by omega
 have aL:i<=n:=by omega
 have aN:((i:Int)+1).toNat=i+1:=by omega
 have aJ:(i:Int)<=(n:Int):=by omega
 clear ar ac O hG X hR az C hg hN V aj ak I K au ah aB an T U g3 E S ad ae ag
 go_enter Tryz.func166,Tryz.ntmps166
 go_wp2_with (first
  | (at_builtin;refine Lib.wpList_append_run _ rfl _ _ _ _ rfl _ _ rfl rfl _ _ (af _) ?_)
  | (at_builtin;refine wpList_copy_runI _ rfl _ _ 23 22 rfl _ _ rfl rfl (am _ (fun _=>rfl) (fun _=>rfl) _ _) ?_)
  | (at_builtin;refine wpList_copy_runI _ rfl _ _ 23 23 rfl _ _ rfl rfl (N _ (fun _=>rfl) (fun _=>rfl) _ _ _) ?_))
 have aE:Tryz.prog.follows .mixedOrders=true:=by kernel_rfl
 go_region_law_o (refine step_copy_runI rfl _ _ 23 23 rfl (.slice (some ⟨w.heap.size,(i+1) * 2,none⟩) (n - i) (G - (i+1))) (.slice (some ⟨g,i * 2,none⟩) (n - i) (a - i)) (by simp [Act.eval,Act.put]) (by simp [Act.eval,Act.put]) (N _ aw ax _ (G - (i+1)) (a - i)) ?_)
 go_wp2
 refine bodyPost_ret (results_tmp rfl _ _ _) rfl ?_
 exact⟨_,rfl,OF.out,GA.out,rfl⟩
theorem JK (base K:Nat) (vt:TypeId) (w:World) (g a n:Nat) (C:List Value) (p q:Value) (i:Nat) (hp:p.oneCell'=true) (hq:q.oneCell'=true) (hi:i<n) (B:OwnC base w (.slice (some ⟨g,0,none⟩) n a) n C) (Y:n+1<=a) (J:w.heap[K]? = some (.cells #[p,q] vt (0,0))) (aj:K≠g) (hl:n<=1073741824) :
 Calls Tryz.prog 166 #[.slice (some ⟨g,0,none⟩) n a,.int .i64 (i:Nat),.slice (some ⟨K,0,none⟩) 1 1] w fun e w'=>∃ v',e=.returned v'/\OwnC base w' v' (n+1) (C.take (i * 2)++[p,q]++C.drop (i * 2))/\w.grownBy w' (some g)/\v'.ownBlock=some g:=by
 obtain⟨i0,aw,aH,hzs,aJ⟩:=info_parts Z9
 have L:C.length=n * 2:=B.2.1
 have I:=B.2.2
 have ak:=vI J
 obtain⟨A,au,H,N,S,ao⟩:∃ A,base<=g/\w.heap[g]? = some (.cells A 34 (0,0))/\a<=maxLen/\A.size=a * 2/\A.toList.take (n * 2)=C:=by
  rcases B.cases with⟨h,_⟩ | ⟨g',az,A,h,h1,_,h3,_,h5,h6,h7⟩
  ·cases h
  ·cases h;exact⟨A,h1,h3,h5,h6,h7⟩
 obtain⟨us,ac⟩:∃ us,us=(A.toList.drop (n * 2)).take 2:=⟨_,rfl⟩
 have ab:us.length=[p,q].length:=by rw [ac];simp;omega
 have o0:w.drew.ownsRow base 34 2 (.slice (some ⟨g,0,none⟩) (n+1) a) (n+1) (C++us):=by
  refine⟨by rw [List.length_append,ab,L];simp;omega,.inr ⟨g,a,A,rfl,au,H,Y,N,by omega,?_⟩⟩
  rw [show (n+1) * 2=n * 2+2 by omega,List.take_add,ao,ac]
 obtain⟨o1,g1⟩:=z9 (C.drop (i * 2)) (i * 2+2) _ _ o0
 obtain⟨o2,g2⟩:=z9 [p,q] (i * 2) _ _ o1
 have eg:=za7 (xs:=C) (ms:=[p,q]) (us:=us) (i:=i * 2) (by omega) ab
 rw [show i * 2+[p,q].length=i * 2+2 from rfl] at eg
 rw [eg] at o2
 have g0:w.grownBy w.drew (some g):=⟨rfl,rfl,rfl,Nat.le_refl _,fun _ _ _=>rfl⟩
 have OF:=Lib.hid (X6 (by omega) L rfl I (yF hp hq) o2)
 have GA:=Lib.hid (yn g0 (yn g1 g2))
 have u:∀ j,j<a * 2->(w.cell? ⟨g,j,none⟩).isSome=true:=fun j E=>by
  simp [World.cell?,H,S,E]
 have U:∀ j,w.frozen? ⟨g,j,none⟩=false:=fun j=>by simp [World.frozen?,H]
 have hg:∀ j v,C[j]? = some v->w.cell? ⟨g,j,none⟩=some v:=fun j v E=>by
  have:=World.ownsRow.cells B.1 (g:=g) rfl j v E
  rw [zh,Nat.zero_add] at this
  exact this
 have am:w.shape? K=some (vt,2):=by simp [World.shape?,J]
 have an:w.shape? g=some (34,a * 2):=by simp [World.shape?,H,S]
 have ah:w.frozen? ⟨K,0,none⟩=false:=by simp [World.frozen?,J]
 have ai:w.frozen? ⟨K,2,none⟩=false:=by simp [World.frozen?,J]
 have Z:(Tryz.prog.info? 34).map (·.size)=some 2:=by rw [aw];simp [hzs]
 have ax:∀ lb cb,(callFunc 201 #[.slice (some ⟨K,0,none⟩) 1 1,.slice (some ⟨g,(i+1) * 2,none⟩) lb cb]).run Tryz.prog w=.ok (.value (.bool false)) w:=fun lb cb=>by
  rw [run_callFunc_extern Tryz.func201 (by kernel_rfl) (by kernel_rfl) (by kernel_rfl) (e:=Extern.SlicesOverlaps.overlaps #[22,22] #[4]) (by kernel_rfl),
   Lib.run_overlaps_apart w 22 4 34 Tryz.underlying22 2 (fun w=>by kernel_rfl) ⟨K,0,none⟩ ⟨g,(i+1) * 2,none⟩ 1 1 lb cb aj vt 34 2 (a * 2) am an (by omega) ah ai]
  rfl
 have T:(C.drop (i * 2)).length=(n - i) * 2:=by rw [List.length_drop,L];omega
 have V:Nat.min (n+1 - i) (n - i)=n - i:=by simp only [Nat.min_def];split<;>omega
 have X:Nat.min 1 (n+1 - i)=1:=by simp only [Nat.min_def];split<;>omega
 have Q:(i+1) * 2=i * 2+2:=by omega
 have G:∀ M P sc,(Builtin.copy_ #[23,23] M #[.slice (some ⟨g,(i+1) * 2,none⟩) (n - i) P,.slice (some ⟨g,i * 2,none⟩) (n+1 - i) sc]).run Tryz.prog w.drew=.ok (goInt ((n - i:Nat):Int)) (w.drew.setCells g (i * 2+2) (C.drop (i * 2))):=fun M P sc=>by
  have h:=x3 w.drew 23 23 M 34 g ((i+1) * 2) (n - i) P ⟨g,i * 2,none⟩ (n+1 - i) sc 2 (C.drop (i * 2)) Tryz.underlying23 Z (by rw [T,V])
   (fun j v E=>by rw [zh];exact hg (i * 2+j) v (by rwa [List.getElem?_drop] at E))
   (fun j E=>u _ (by omega)) (fun j E=>U _) (fun v hv=>I v (List.mem_of_mem_drop hv))
  rw [V,Q] at h
  rw [Q]
  exact h
 obtain⟨W1,F⟩:∃ W1,W1=w.drew.setCells g (i * 2+2) (C.drop (i * 2)):=⟨_,rfl⟩
 have O:∀ k,k<a * 2->(W1.cell? ⟨g,k,none⟩).isSome=true:=fun k hk=>by
  rw [F]
  exact isSome_setCells g (C.drop (i * 2)) (i * 2+2) w.drew (fun j E=>u _ (by rw [T] at E;omega)) k (u k hk)
 have ag:∀(W:World),(∀ y,W.cell? y=W1.cell? y)->(∀ y,W.frozen? y=W1.frozen? y)->∀ M P,(Builtin.copy_ #[23,22] M #[.slice (some ⟨g,i * 2,none⟩) (n+1 - i) P,.slice (some ⟨K,0,none⟩) 1 1]).run Tryz.prog W=.ok (goInt 1) (W.setCells g (i * 2) [p,q]):=fun W af ar M P=>by
  have h:=x3 W 23 22 M 34 g (i * 2) (n+1 - i) P ⟨K,0,none⟩ 1 1 2 [p,q] Tryz.underlying23 Z (by rw [X];rfl)
   (fun j v E=>by
     rw [af,F,World.cell?_setCells_out g _ _ _ _ (fun h _=>absurd h (by rw [zh];exact aj))]
     exact ak j v E)
   (fun j E=>by rw [af];simp at E;exact O _ (by omega)) (fun j E=>by rw [ar,F,World.frozen?_setCells];exact U _) (yF hp hq)
  rw [X] at h
  exact h
 rw [<-F] at G
 have aq:=Lib.hid F
 have aI:¬((i:Int)=(n:Int)):=by omega
 unfold maxLen at N
 have aG:IntKind.i64.wrap ((i:Int)+1)=(i:Int)+1:=by rw [IntKind.wrap_i64];omega
 have aA:(0:Int)<=(i:Int)+1:=by omega
 have aE:i<=n:=by omega
 have aF:((i:Int)+1).toNat=i+1:=by omega
 have aB:¬(a=i+1):=by omega
 have aC:(i:Int)<=(n:Int)+1:=by omega
 have aD:¬(a=i):=by omega
 clear o0 o1 o2 g0 g1 g2 eg B u U hg am an ah ai O F T I ak L J H S ao ac ab V X Q Z
 go_enter Tryz.func166,Tryz.ntmps166
 have av:=fun M=>G M (a - (i+1)) (a - i)
 have ay:Tryz.prog.follows .mixedOrders=true:=by kernel_rfl
 go_wp2_with (simp only [ax])
 go_region_law_o (refine step_copy_runI rfl _ _ 23 23 rfl _ _ (by simp [Act.eval,Act.put]) (by simp [Act.eval,Act.put]) (G _ _ _) ?_)
 go_wp2_with (first | (at_builtin;refine wpList_copy_runI _ rfl _ _ 23 22 rfl _ _ rfl rfl (ag _ (fun _=>rfl) (fun _=>rfl) _ _) ?_))
 have ae:=OF.out
 have ad:=GA.out
 rw [<-aq.out] at ae ad
 refine bodyPost_ret (results_tmp rfl _ _ _) rfl ?_
 exact⟨_,rfl,ae,ad,rfl⟩
theorem Q1 (base E:Nat) (G:TypeId) (w:World) (v:Value) (n:Nat) (C:List Value) (p q:Value) (i:Nat) (L:p.oneCell'=true) (M:q.oneCell'=true) (hi:i<=n) (a:OwnC base w v n C) (B:w.heap[E]? = some (.cells #[p,q] G (0,0))) (K:v.ownBlock≠some E) (hl:n<=1073741824) (j:base<=w.heap.size) :
 Calls Tryz.prog 166 #[v,.int .i64 (i:Nat),.slice (some ⟨E,0,none⟩) 1 1] w fun e H=>∃ u,e=.returned u/\OwnC base H u (n+1) (C.take (i * 2)++[p,q]++C.drop (i * 2))/\w.grownBy H v.ownBlock/\(u.ownBlock=v.ownBlock\/u.ownBlock=some w.heap.size):=by
 have P:=a.2.1
 by_cases Q:i=n
 ·subst Q
  rw [List.take_of_length_le (by omega),List.drop_of_length_le (by omega),List.append_nil]
  exact zc2 base E G w v i C p q L M a B hl j
 ·have F:i<n:=by omega
  rcases a.cases with⟨_,S,_⟩ | ⟨g,y,N,rfl,_⟩
  ·omega
  ·by_cases O:y<n+1
   ·refine(zc3 base E G w g y n C p q i L M F a O B hl j).mono ?_
    rintro e H ⟨u,rfl,I,A,J⟩
    exact⟨u,rfl,I,⟨A.os,A.tape,A.output,A.size,fun k hk _=>A.block k hk (by simp)⟩,.inr J⟩
   ·refine(JK base E G w g y n C p q i L M F a (by omega) B (fun e=>K (by rw [e];rfl)) hl).mono ?_
    rintro e H ⟨u,rfl,I,A,J⟩
    exact⟨u,rfl,I,A,.inl J⟩
end Go.Proofs.YtonhfknjcbakiaaGreatDoor
namespace Go.Proofs.YtonhfknjcbakiaaGreatDoor
open Go.RowKit
def OutG (C:Nat->Nat->Prop) (mb base:Nat) (w:World) (v:Value) (o:List Fg):Prop:=
 ∃ j,OwnC base w v o.length j/\∀ i (h:i<o.length),∃ a b,j[i * 2]? = some a/\j[i * 2+1]? = some b/\Dat (DX C mb w v) w a (rg o[i].items)/\Dat (DX C mb w v) w b (vp o[i].vec)
theorem OutG.start (C:Nat->Nat->Prop) (a base:Nat) (w:World):OutG C a base w (.slice none 0 0) []:=⟨[],⟨World.ownsRow_nil _ _ _ _,rfl,by simp⟩,fun i h=>absurd h (by simp)⟩
theorem OutG.owns {C:Nat->Nat->Prop} {j base:Nat} {w:World} {v:Value} {o:List Fg} (h:OutG C j base w v o):∀ k,v.ownBlock=some k->base<=k/\k<w.heap.size:=by
 obtain⟨u,a,_⟩:=h
 exact a.1.lt
theorem OutG.shape {C:Nat->Nat->Prop} {F base:Nat} {w:World} {v:Value} {o:List Fg} (h:OutG C F base w v o):∃ j a,v=.slice j o.length a/\o.length<=a/\a<=maxLen:=by
 obtain⟨G,A,_⟩:=h
 rcases A.cases with⟨rfl,y,_⟩ | ⟨g,a,u,rfl,_,_,_,B,E,_⟩
 ·exact⟨none,0,by rw [y],by omega,by decide⟩
 ·exact⟨_,a,rfl,B,E⟩
theorem OwnC.keep {base:Nat} {w w':World} {v:Value} {n:Nat} {u:List Value} (h:OwnC base w v n u) (hb:∀ k,v.ownBlock=some k->w'.heap[k]? = w.heap[k]?):OwnC base w' v n u:=by
 refine⟨⟨h.1.1,?_⟩,h.2⟩
 rcases h.1.2 with h | ⟨g,a,j,e,A,y,r⟩
 ·exact .inl h
 ·exact .inr ⟨g,a,j,e,A,(hb g (by rw [e];rfl)).trans y,r⟩
theorem OutG.keep {C:Nat->Nat->Prop} {u base:Nat} {w w':World} {v:Value} {o:List Fg} (h:OutG C u base w v o) (hs:w.heap.size<=w'.heap.size) (hb:∀ k,k<w.heap.size->w'.heap[k]? = w.heap[k]?):OutG C u base w' v o:=by
 obtain⟨A,j,y⟩:=h
 refine⟨A,j.keep fun k hk=>hb k (j.1.lt k hk).2,fun i hi=>?_⟩
 obtain⟨a,b,c,d,e,f⟩:=y i hi
 exact⟨a,b,c,d,DX.keep e hs fun k hk _=>hb k hk,DX.keep f hs fun k hk _=>hb k hk⟩
theorem DX.grown {C:Nat->Nat->Prop} {u:Nat} {w A:World} {v y x:Value} {p:PV} (h:Dat (DX C u w v) w x p) (F:∀ b o,C b o->b<u) (G:u<w.heap.size) (B:w.grownBy A v.ownBlock) (j:y.ownBlock=v.ownBlock\/y.ownBlock=some w.heap.size):Dat (DX C u A y) A x p:=
 h.mono (fun b o h=>⟨h.1.imp id fun h=>⟨h.1,Nat.lt_of_lt_of_le h.2 B.size⟩,fun e=>by
  rcases j with j | j
  ·exact h.2 (j.symm.trans e)
  ·rw [j] at e
   cases e
   rcases h.1 with h | h
   ·have:=F _ _ h;omega
   ·omega⟩) fun b o x h E=>(World.cell?_of_block (a:=⟨b,o,none⟩) (B.block b (World.block_lt_of_cell? w ⟨b,o,none⟩ E) fun e=>h.2 e.symm)).trans E
theorem zeu {D:Nat->Nat->Prop} {w:World} {v:Value} {l:List En} (h:Dat D w v (vp l)):v.oneCell'=true:=by
 have j:Dat D w v (.sl (l.map ec) .sh):=h
 obtain⟨y,a,A,b,u,f,e1,_⟩:=(Rel.dat (ρ:=fun _=>0) (nb:=0) j).inv_sl
 rw [e1];rfl
theorem OutG.insK {C:Nat->Nat->Prop} {B base:Nat} {w G:World} {v I:Value} {o:List Fg} {f:Fg} {E:List Value} {p q:Value} {i:Nat} (hi:i<=o.length) (hl:E.length=o.length * 2)
 (J:∀ i (h:i<o.length),∃ a b,E[i * 2]? = some a/\E[i * 2+1]? = some b/\Dat (DX C B w v) w a (rg o[i].items)/\Dat (DX C B w v) w b (vp o[i].vec))
 (N:Dat (DX C B w v) w p (rg f.items)) (O:Dat (DX C B w v) w q (vp f.vec)) (u:∀ {x:Value} {p:PV},Dat (DX C B w v) w x p->Dat (DX C B G I) G x p)
 (ho:OwnC base G I (o.length+1) (E.take (i * 2)++[p,q]++E.drop (i * 2))):OutG C B base G I (o.take i++f::o.drop i):=by
 have A:(o.take i++f::o.drop i).length=o.length+1:=by simp;omega
 have ht:(E.take (i * 2)).length=i * 2:=by simp;omega
 refine⟨_,by rw [A];exact ho,fun j L=>?_⟩
 rw [A] at L
 rcases Nat.lt_trichotomy j i with M | H | K
 ·obtain⟨a,b,c,d,e,k⟩:=J j (by omega)
  have y:(o.take i++f::o.drop i)[j]=o[j]'(by omega):=by
   rw [List.getElem_append_left (by simp;omega),List.getElem_take]
  rw [y]
  refine⟨a,b,?_,?_,u e,u k⟩
  ·rw [List.append_assoc,List.getElem?_append_left (by omega),List.getElem?_take,if_pos (by omega)];exact c
  ·rw [List.append_assoc,List.getElem?_append_left (by omega),List.getElem?_take,if_pos (by omega)];exact d
 ·subst H
  have y:(o.take j++f::o.drop j)[j]=f:=by
   rw [List.getElem_append_right (by rw [List.length_take];exact Nat.min_le_left _ _)]
   simp [Nat.min_eq_left hi]
  rw [y]
  refine⟨p,q,?_,?_,u N,u O⟩
  ·rw [List.append_assoc,List.getElem?_append_right (by omega),ht,Nat.sub_self];rfl
  ·rw [List.append_assoc,List.getElem?_append_right (by omega),ht,show j * 2+1 - j * 2=1 by omega];rfl
 ·obtain⟨a,b,c,d,e,k⟩:=J (j - 1) (by omega)
  have y:(o.take i++f::o.drop i)[j]=o[j - 1]'(by omega):=by
   rw [List.getElem_append_right (by simp;omega)]
   obtain⟨m,rfl⟩:∃ m,j=i+1+m:=⟨j - (i+1),by omega⟩
   simp only [List.length_take,Nat.min_eq_left hi,show i+1+m - i=m+1 by omega,List.getElem_cons_succ,List.getElem_drop,show i+1+m - 1=i+m by omega]
  rw [y]
  have F:(E.take (i * 2)++[p,q]).length=i * 2+2:=by simp;omega
  refine⟨a,b,?_,?_,u e,u k⟩
  ·rw [List.getElem?_append_right (by omega),F,List.getElem?_drop,show i * 2+(j * 2 - (i * 2+2))=(j - 1) * 2 by omega];exact c
  ·rw [List.getElem?_append_right (by omega),F,List.getElem?_drop,show i * 2+(j * 2+1 - (i * 2+2))=(j - 1) * 2+1 by omega];exact d
theorem OutG.ins {C:Nat->Nat->Prop} {j base:Nat} {w E:World} {v y:Value} {o:List Fg} {f:Fg} {u:List Value} {p q:Value} {i:Nat} (hi:i<=o.length) (hl:u.length=o.length * 2)
 (F:∀ i (h:i<o.length),∃ a b,u[i * 2]? = some a/\u[i * 2+1]? = some b/\Dat (DX C j w v) w a (rg o[i].items)/\Dat (DX C j w v) w b (vp o[i].vec))
 (I:Dat (DX C j w v) w p (rg f.items)) (J:Dat (DX C j w v) w q (vp f.vec)) (G:∀ b o,C b o->b<j) (A:j<w.heap.size)
 (ho:OwnC base E y (o.length+1) (u.take (i * 2)++[p,q]++u.drop (i * 2))) (H:w.grownBy E v.ownBlock) (B:y.ownBlock=v.ownBlock\/y.ownBlock=some w.heap.size):OutG C j base E y (o.take i++f::o.drop i):=
 OutG.insK hi hl F I J (fun h=>DX.grown h G A H B) ho
theorem DX.new {C:Nat->Nat->Prop} {A:Nat} {w u:World} {v B x:Value} {p:PV} (h:Dat (DX C A w v) w x p) (E:∀ b o,C b o->b<w.heap.size) (hb:Below w.heap.size w u) (j:∀ k,B.ownBlock=some k->w.heap.size<=k):Dat (DX C A u B) u x p:=
 h.mono (fun b o h=>⟨h.1.imp id fun h=>⟨h.1,Nat.lt_of_lt_of_le h.2 hb.size⟩,fun e=>by
  have:=j b e
  rcases h.1 with h | h
  ·have:=E _ _ h;omega
  ·omega⟩) fun b o x _ y=>(World.cell?_of_block (a:=⟨b,o,none⟩) (hb.block b (World.block_lt_of_cell? w ⟨b,o,none⟩ y))).trans y
theorem OutG.set {C:Nat->Nat->Prop} {H base g:Nat} {w:World} {y:Nat} {o:List Fg} {l:List Iv} {E:Value} {i:Nat} (h:OutG C H base w (.slice (some ⟨g,0,none⟩) o.length y) o) (hi:i<o.length) (N:Dat (DX C H w (.slice (some ⟨g,0,none⟩) o.length y)) w E (rg l)) (O:0<y) :
 OutG C H base (w.setCell ⟨g,i * 2,none⟩ E) (.slice (some ⟨g,0,none⟩) o.length y) (o.take i++⟨l,o[i].vec⟩::o.drop (i+1)):=by
 obtain⟨X,I,Q⟩:=h
 have A:(o.take i++(⟨l,o[i].vec⟩:Fg)::o.drop (i+1)).length=o.length:=by simp;omega
 obtain⟨V,Y⟩:=I.1.stored (i * 2) E
 have J:(Value.slice (some ⟨g,0,none⟩) o.length y).ownBlock=some g:=by
  cases y with
  | zero=>omega
  | succ c=>rfl
 have B:∀ {x:Value} {p:PV},Dat (DX C H w (.slice (some ⟨g,0,none⟩) o.length y)) w x p->Dat (DX C H (w.setCell ⟨g,i * 2,none⟩ E) (.slice (some ⟨g,0,none⟩) o.length y)) (w.setCell ⟨g,i * 2,none⟩ E) x p:=fun h=>
  DX.keep h (by simp) fun k hk L=>Below.heap_setCell _ _ _ _ fun e=>L (by rw [J];exact congrArg some e.symm)
 refine⟨X.set (i * 2) E,⟨by rw [A];exact V,by rw [A,List.length_set];exact I.2.1,fun u M=>?_⟩,fun j P=>?_⟩
 ·rcases List.mem_or_eq_of_mem_set M with M | rfl
  ·exact I.2.2 u M
  ·exact Ki N
 ·have K:j<o.length:=by rw [A] at P;exact P
  obtain⟨a,b,c,d,e,k⟩:=Q j K
  have U:=I.2.1
  by_cases G:j=i
  ·subst G
   have F:(o.take j++(⟨l,o[j].vec⟩:Fg)::o.drop (j+1))[j]=⟨l,o[j].vec⟩:=by
    rw [List.getElem_append_right (by rw [List.length_take];exact Nat.min_le_left _ _)]
    simp [Nat.min_eq_left (Nat.le_of_lt hi)]
   rw [F]
   refine⟨E,b,?_,?_,B N,B k⟩
   ·rw [List.getElem?_set_self (by omega)]
   ·rw [List.getElem?_set_ne (by omega)];exact d
  ·have F:(o.take i++(⟨l,o[i].vec⟩:Fg)::o.drop (i+1))[j]=o[j]:=by
    rcases Nat.lt_or_gt_of_ne G with T | S
    ·rw [List.getElem_append_left (by simp;omega),List.getElem_take]
    ·rw [List.getElem_append_right (by simp;omega)]
     obtain⟨m,rfl⟩:∃ m,j=i+1+m:=⟨j - (i+1),by omega⟩
     simp only [List.length_take,Nat.min_eq_left (Nat.le_of_lt hi),show i+1+m - i=m+1 by omega,List.getElem_cons_succ,List.getElem_drop]
   rw [F]
   refine⟨a,b,?_,?_,B e,B k⟩
   ·rw [List.getElem?_set_ne (by omega)];exact c
   ·rw [List.getElem?_set_ne (by omega)];exact d
theorem OutG.setV {C:Nat->Nat->Prop} {B base g:Nat} {w:World} {y:Nat} {o:List Fg} {a0:Value} {i n:Nat} (N:o.length=n) (h:OutG C B base w (.slice (some ⟨g,0,none⟩) n y) o) (hi:i<o.length) (J:Dat (DX C B w (.slice (some ⟨g,0,none⟩) n y)) w a0 (vp o[i].vec)) (K:0<y) :
 OutG C B base (w.setCell ⟨g,i * 2+1,none⟩ a0) (.slice (some ⟨g,0,none⟩) n y) o:=by
 subst N
 obtain⟨Q,E,L⟩:=h
 obtain⟨P,S⟩:=E.1.stored (i * 2+1) a0
 have F:(Value.slice (some ⟨g,0,none⟩) o.length y).ownBlock=some g:=by
  cases y with
  | zero=>omega
  | succ c=>rfl
 have A:∀ {x:Value} {p:PV},Dat (DX C B w (.slice (some ⟨g,0,none⟩) o.length y)) w x p->Dat (DX C B (w.setCell ⟨g,i * 2+1,none⟩ a0) (.slice (some ⟨g,0,none⟩) o.length y)) (w.setCell ⟨g,i * 2+1,none⟩ a0) x p:=fun h=>
  DX.keep h (by simp) fun k hk H=>Below.heap_setCell _ _ _ _ fun e=>H (by rw [F];exact congrArg some e.symm)
 refine⟨Q.set (i * 2+1) a0,⟨P,by rw [List.length_set];exact E.2.1,fun u I=>?_⟩,fun j M=>?_⟩
 ·rcases List.mem_or_eq_of_mem_set I with I | rfl
  ·exact E.2.2 u I
  ·exact zeu J
 ·obtain⟨a,b,c,d,e,k⟩:=L j M
  have O:=E.2.1
  by_cases G:j=i
  ·subst G
   refine⟨a,a0,?_,?_,A e,A J⟩
   ·rw [List.getElem?_set_ne (by omega)];exact c
   ·rw [List.getElem?_set_self (by omega)]
  ·refine⟨a,b,?_,?_,A e,A k⟩
   ·rw [List.getElem?_set_ne (by omega)];exact c
   ·rw [List.getElem?_set_ne (by omega)];exact d
theorem OutG.dat {C:Nat->Nat->Prop} {H base:Nat} {w:World} {v:Value} {o:List Fg} (h:OutG C H base w v o) (hb:H<base):Dat (DL C H w) w v (kp o):=by
 obtain⟨K,L,O⟩:=h
 rcases L.1.2 with⟨rfl,N⟩ | ⟨g,I,M,rfl,X,Q,V,U,hs,ht⟩
 ·obtain rfl:=List.length_eq_zero_iff.1 N
  exact .sl none 0 2 [] .sh 0 0 (fun _=>undef) (by simp) (fun h=>by cases h) (by decide) (fun h=>absurd rfl h) (fun i e h=>by simp at h) (fun j h=>by simp at h) (fun i e j p h=>by simp at h)
 ·have J:=(Array.getElem?_eq_some_iff.1 Q).1
  have F:∀ j x,K[j]? = some x->w.cell? ⟨g,j,none⟩=some x:=fun j x A=>by
   have:=L.1.cells (g:=g) rfl j x A
   rw [zh,Nat.zero_add] at this
   exact this
  have u:∀ i (h:i<o.length) j p,(fc o[i])[j]? = some p->∃ x,K[i * 2+j]? = some x/\Dat (DL C H w) w x p/\x.oneCell'=true:=fun i h j p B=>by
   obtain⟨a,b,c,d,e,k⟩:=O i h
   match j,B with
   | 0,B=>cases B;exact⟨_,c,e.mono (fun _ _ h=>h.1) fun _ _ _ _ h=>h,Ki e⟩
   | 1,B=>cases B;exact⟨_,d,k.mono (fun _ _ h=>h.1) fun _ _ _ _ h=>h,zeu k⟩
   | j+2,B=>simp [fc] at B
  have E:∀(i:Nat) (e:List PV),(o.map fc)[i]? = some e->∃ h:i<o.length,e=fc o[i]:=fun i e G=>by
   rw [List.getElem?_map] at G
   obtain⟨x,A,rfl⟩:=Option.map_eq_some_iff.1 G
   obtain⟨h,rfl⟩:=List.getElem?_eq_some_iff.1 A
   exact⟨h,rfl⟩
  have y:(o.map fc).length=o.length:=List.length_map _
  unfold kp
  rw [<-y]
  refine .sl (some ⟨g,0,none⟩) I 2 (o.map fc) .sh g 0 (fun j=>(K[j]?).getD undef) (by rw [y];exact V) (fun h=>by cases h) U (fun _=>rfl) (fun i e G=>?_) (fun j T=>?_) (fun i e j p G B=>?_)
  ·obtain⟨h,rfl⟩:=E i e G
   rfl
  ·rw [y] at T
   have hi:j / 2<o.length:=by omega
   have P:j % 2<(fc o[j / 2]).length:=Nat.mod_lt _ (by decide)
   obtain⟨x,A,_,ho⟩:=u (j / 2) hi (j % 2) ((fc o[j / 2])[j % 2]) (List.getElem?_eq_getElem P)
   rw [show j / 2 * 2+j % 2=j by omega] at A
   rw [Nat.zero_add]
   refine⟨.inr ⟨by omega,J⟩,?_,?_⟩
   ·rw [A];exact F j x A
   ·rw [A];exact ho
  ·obtain⟨h,rfl⟩:=E i e G
   obtain⟨x,A,S,_⟩:=u i h j p B
   rw [A]
   exact S
theorem OutG.box {C:Nat->Nat->Prop} {u base rb:Nat} {w:World} {v x:Value} {o:List Fg} (h:OutG C u base w v o) (hb:rb<u) (F:rb<base) (E:∀ b o,C b o->b≠rb):OutG C u base (w.setCell ⟨rb,0,none⟩ x) v o:=by
 have j:∀ {y:Value} {p:PV},Dat (DX C u w v) w y p->Dat (DX C u (w.setCell ⟨rb,0,none⟩ x) v) (w.setCell ⟨rb,0,none⟩ x) y p:=fun h=>
  h.mono (fun b o h=>⟨h.1.imp id fun h=>⟨h.1,by simpa using h.2⟩,h.2⟩) fun b o y h G=>(World.cell?_of_block (a:=⟨b,o,none⟩) (Below.heap_setCell _ _ _ _ (by
   show b≠rb
   rcases h.1 with h | h
   ·exact E _ _ h
   ·omega))).trans G
 obtain⟨H,A,B⟩:=h
 refine⟨H,A.keep fun k hk=>Below.heap_setCell _ _ _ _ (by have:=(A.1.lt k hk).1;show k≠rb;omega),fun i hi=>?_⟩
 obtain⟨a,b,c,d,e,f⟩:=B i hi
 exact⟨a,b,c,d,j e,j f⟩
end Go.Proofs.YtonhfknjcbakiaaGreatDoor
