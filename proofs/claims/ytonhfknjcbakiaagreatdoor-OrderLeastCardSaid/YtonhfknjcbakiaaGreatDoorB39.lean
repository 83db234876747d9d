import Derived.Test.YtonhfknjcbakiaaGreatDoorB36
import Derived.Test.YtonhfknjcbakiaaGreatDoorB37
set_option maxHeartbeats 16000000
set_option linter.unusedVariables false
set_option linter.unusedSimpArgs false
set_option maxRecDepth 100000
namespace Go.Proofs.YtonhfknjcbakiaaGreatDoor
open Go.RowKit Go.Lib
attribute [-go_sem] z7
theorem Z9:(Tryz.prog.info? 34).map (fun i=>(i.zero,i.size,i.bytes))=some (some (.agg #[.slice none 0 0,.slice none 0 0]),2,48):=by kernel_rfl
def OwnC (base:Nat) (w:World) (v:Value) (n:Nat) (xs:List Value):Prop:=w.ownsRow base 34 2 v n xs/\xs.length=n * 2/\∀ u ∈ xs,u.oneCell'=true
theorem OwnC.cases {base:Nat} {w:World} {v:Value} {n:Nat} {xs:List Value} (h:OwnC base w v n xs):(v=.slice none 0 0/\n=0/\xs=[]) \/
 ∃ g cap cur,v=.slice (some ⟨g,0,none⟩) n cap/\base<=g/\g<w.heap.size/\w.heap[g]? = some (.cells cur 34 (0,0))/\n<=cap/\cap<=maxLen/\cur.size=cap * 2/\cur.toList.take (n * 2)=xs:=by
 rcases h.1.2 with⟨h1,h2⟩ | ⟨g,cap,cur,h1,h2,h3,h4,h5,h6,h7⟩
 ·subst h2;exact .inl ⟨h1,rfl,List.length_eq_zero_iff.1 (by rw [h.2.1])⟩
 ·exact .inr ⟨g,cap,cur,h1,h2,(Array.getElem?_eq_some_iff.1 h3).1,h3,h4,h5,h6,h7⟩
theorem vI {w:World} {vb:Nat} {vt:TypeId} {p q:Value} (hvb:w.heap[vb]? = some (.cells #[p,q] vt (0,0))):∀ j u,[p,q][j]? = some u->w.cell? ((⟨vb,0,none⟩:Addr).add j)=some u:=fun j u hj=>by
 match j,hj with
 | 0,hj=>cases hj;simp [World.cell?,Addr.add,hvb]
 | 1,hj=>cases hj;simp [World.cell?,Addr.add,hvb]
 | j+2,hj=>simp at hj
theorem yF {p q:Value} (hp:p.oneCell'=true) (hq:q.oneCell'=true):∀ u ∈ [p,q],u.oneCell'=true:=fun u hu=>by
 simp at hu
 rcases hu with rfl | rfl
 ·exact hp
 ·exact hq
theorem x3 {P:Program} (w:World) (dT sT ty elem:TypeId) (b o dLen dCap:Nat) (a:Addr) (sLen sCap sz:Nat) (cs:List Value)
 (hu:P.underlying dT=some (.slice elem)) (hs:(P.info? elem).map (·.size)=some sz) (hn:cs.length=Nat.min sLen dLen * sz)
 (hsrc:∀ j v,cs[j]? = some v->w.cell? (a.add j)=some v) (hc:∀ j,j<cs.length->(w.cell? ⟨b,o+j,none⟩).isSome=true) (hf:∀ j,j<cs.length->w.frozen? ⟨b,o+j,none⟩=false) (h1:∀ v ∈ cs,v.oneCell'=true) :
 (Builtin.copy_ #[dT,sT] ty #[.slice (some ⟨b,o,none⟩) dLen dCap,.slice (some a) sLen sCap]).run P w=.ok (goInt (Nat.min sLen dLen)) (w.setCells b o cs):=by
 have hl:=run_loadCells_list (P:=P) w a cs hsrc
 have hst:=run_storeCells_cells (P:=P) b o cs 0 w (by simpa using hc) (by simpa using hf) h1
 cases hq:P.info? elem with
 | none=>simp [hq] at hs
 | some i=>
   have hi:i.size=sz:=by simpa [hq] using hs
   simp [Builtin.copy_,run_underlying hu,Builtin.lenOf,Builtin.firstCells,sizeOf,typeInfo,hq,hi,<-hn,hl,hst]
theorem zaF {P:Program} {t t2 ty e e2:TypeId} {b:Option Addr} {n c:Nat} {x:Value} {w:World} (h1:P.underlying t=some (.slice e)) (h2:P.underlying t2=some (.slice e2)):(Builtin.append_ #[t,t2] ty #[.slice b n c,x]).run P w=(Builtin.append_ #[t,t] ty #[.slice b n c,x]).run P w:=by
 simp [Builtin.append_,run_underlying h1,run_underlying h2]
theorem yR {P:Program} {w:World} {ops:Array Oper} {rest:List Oper} {o:Oper} {a:Act} {Q:Exit->Act->World->Prop} (hgd:o.guard=none) (s x:Operand) (t t2 e2:TypeId)
 (ho:o.op=.call { callee:=.builtin .append,args:=#[s,x],argTypes:=#[t,t2] }) (ht2:P.underlying t2=some (.slice e2))
 (base:Nat) (e:TypeId) (i:TypeInfo) (z:Value) (size bytes:Nat) (ht:P.underlying t=some (.slice e)) (hi:P.info? e=some i) (hz:i.zero=some z)
 (hsize:i.size=size) (hby:i.bytes=bytes) (hzs:z.cells.size=size) (hsz:0<size)
 (v:Value) (n:Nat) (xs:List Value) (hs:a.eval s=v) (hown:w.ownsRow base e size v n xs)
 (ad:Addr) (m c:Nat) (news:List Value) (hx:a.eval x=.slice (some ad) m c) (hl:news.length=m * size) (hnews:∀ j u,news[j]? = some u->w.cell? (ad.add j)=some u) (h1:∀ u ∈ news,u.oneCell'=true)
 (h63:n+m<=maxLen) (hbytes:(n+m) * bytes<=140737488355328) (hbase:base<=w.heap.size)
 (h:∀ v' w',w'.ownsRow base e size v' (n+m) (xs++news)->w.grownBy w' v.ownBlock->(v'.ownBlock=v.ownBlock\/v'.ownBlock=some w.heap.size)->wpList P ops Q rest (a.put o.dst v') w') :
 wpList P ops Q (o::rest) a w:=by
 refine wpList_plain hgd fun K hK=>?_
 obtain⟨v',w',hr,h2,h3,_,h5⟩:=run_append_own_at (P:=P) w base t o.type e i z size bytes ht hi hz hsize hby hzs hsz v n xs hown ad m c news hl hnews h1 h63 hbytes hbase
 obtain⟨b0,n0,c0,rfl⟩:∃ b n c,v=.slice b n c:=by rcases hown.2 with⟨h,_⟩ | ⟨_,_,_,h,_⟩<;>exact⟨_,_,_,h⟩
 rw [<-zaF ht ht2] at hr
 unfold Oper.wp execOp
 simp only [ho,resolve,invoke,builtin,Sem.run_bind,Sem.run_pure,Result.andThen_ok,List.map_toArray,List.map_cons,List.map_nil,hs,hx,hr]
 exact hK _ _ (h v' w' h2 h3 h5)
theorem zc2 (base vb:Nat) (vt:TypeId) (w:World) (v:Value) (n:Nat) (xs:List Value) (p q:Value) (hp:p.oneCell'=true) (hq:q.oneCell'=true) (hown:OwnC base w v n xs) (hvb:w.heap[vb]? = some (.cells #[p,q] vt (0,0))) (hl:n<=1073741824) (hbase:base<=w.heap.size) :
 Calls Tryz.prog 166 #[v,.int .i64 (n:Nat),.slice (some ⟨vb,0,none⟩) 1 1] w fun e w'=>∃ v',e=.returned v'/\OwnC base w' v' (n+1) (xs++[p,q])/\w.grownBy w' v.ownBlock/\(v'.ownBlock=v.ownBlock\/v'.ownBlock=some w.heap.size):=by
 obtain⟨i0,hi0,hz0,hz1,hz2⟩:=info_parts Z9
 have hn:=vI hvb
 have hone:=yF hp hq
 have fin:∀ v' w',w'.ownsRow base 34 2 v' (n+1) (xs++[p,q])->OwnC base w' v' (n+1) (xs++[p,q]):=fun v' w' h=>⟨h,by have:=hown.2.1;simp;omega,fun u hu=>by
  rcases List.mem_append.1 hu with hu | hu
  ·exact hown.2.2 u hu
  ·exact hone u hu⟩
 have HO:=Lib.hid hown.1
 rcases hown.cases with⟨rfl,rfl,rfl⟩ | ⟨g,cap,cur,rfl,hg1,hg2,hg3,hg4,hg5,hg6,hg7⟩
 ·clear hown
  go_enter Tryz.func166,Tryz.ntmps166
  go_wp2_with (at_builtin;refine yR rfl _ _ 23 22 34 rfl Tryz.underlying22 base 34 i0 (.agg #[.slice none 0 0,.slice none 0 0]) 2 48 Tryz.underlying23 hi0 hz0 hz1 hz2 rfl (by decide) _ _ _ rfl HO.out ⟨vb,0,none⟩ 1 1 [p,q] rfl rfl hn hone (by simp [maxLen]) (by simp) hbase ?_;intro v' w' ho hgr hbl)
  go_ret
  exact⟨v',rfl,fin v' w' ho,hgr,hbl⟩
 ·unfold maxLen at hg5
  have hc63:cap<=9223372036854775807:=by omega
  clear hown hg7 hg6
  go_enter Tryz.func166,Tryz.ntmps166
  go_wp2_with (at_builtin;refine yR rfl _ _ 23 22 34 rfl Tryz.underlying22 base 34 i0 (.agg #[.slice none 0 0,.slice none 0 0]) 2 48 Tryz.underlying23 hi0 hz0 hz1 hz2 rfl (by decide) _ _ _ rfl HO.out ⟨vb,0,none⟩ 1 1 [p,q] rfl rfl hn hone (by unfold maxLen;omega) (by omega) hbase ?_;intro v' w' ho hgr hbl)
  all_goals (go_ret;exact⟨v',rfl,fin v' w' ho,hgr,hbl⟩)
def zS:Value:=.slice none 0 0
theorem zgF (n:Nat):(Builtin.zeroCells (Value.agg #[.slice none 0 0,.slice none 0 0]).cells n).toList=List.replicate (n * 2) zS:=by
 apply List.ext_getElem
 ·simp [Builtin.zeroCells,Value.cells]
 ·intro i h1 h2
  rcases Nat.mod_two_eq_zero_or_one i with h | h<;>simp [Builtin.zeroCells,Value.cells,h,zS]
theorem za6 {xs ms:List Value} {u:Value} {i:Nat} (hi:i<=xs.length):kF (kF (xs.take i++List.replicate (xs.length+ms.length - i) u) i ms) (i+ms.length) (xs.drop i)=xs.take i++ms++xs.drop i:=by
 have hl:(xs.take i).length=i:=by simp;omega
 have e1:=kG (xs.take i) (List.replicate ms.length u) (List.replicate (xs.length - i) u) ms (by simp) hl.symm
 have e2:=kG (xs.take i++ms) (List.replicate (xs.length - i) u) [] (xs.drop i) (by simp) (i:=i+ms.length) (by simp;omega)
 rw [show xs.length+ms.length - i=ms.length+(xs.length - i) by omega,<-List.replicate_append_replicate,<-List.append_assoc,e1]
 simpa using e2
theorem za7 {xs ms us:List Value} {i:Nat} (hi:i<=xs.length) (hu:us.length=ms.length):kF (kF (xs++us) (i+ms.length) (xs.drop i)) i ms=xs.take i++ms++xs.drop i:=by
 rw [jt (xs.drop i) _ _ (by simp;omega)]
 have hn:i+ms.length+(xs.drop i).length=(xs++us).length:=by simp;omega
 rw [hn,List.drop_length,List.append_nil]
 rw [jt ms _ _ (by simp;omega)]
 have ht:((xs++us).take (i+ms.length)).length=i+ms.length:=by simp;omega
 rw [List.take_append_of_le_length (by rw [ht];omega),List.take_take,Nat.min_eq_left (by omega),List.take_append_of_le_length hi]
 rw [List.drop_append,ht,Nat.sub_self,List.drop_zero,List.drop_eq_nil_of_le (by omega),List.nil_append]
theorem X6 {base:Nat} {w:World} {v:Value} {n i:Nat} {xs ms:List Value} (hi:i<=n) (hx:xs.length=n * 2) (hm:ms.length=2) (h1:∀ u ∈ xs,u.oneCell'=true) (h2:∀ u ∈ ms,u.oneCell'=true)
 (h:w.ownsRow base 34 2 v (n+1) (xs.take (i * 2)++ms++xs.drop (i * 2))):OwnC base w v (n+1) (xs.take (i * 2)++ms++xs.drop (i * 2)):=
 ⟨h,by simp;omega,fun u hu=>by
  rcases List.mem_append.1 hu with hu | hu
  ·rcases List.mem_append.1 hu with hu | hu
   ·exact h1 u (List.mem_of_mem_take hu)
   ·exact h2 u hu
  ·exact h1 u (List.mem_of_mem_drop hu)⟩
theorem zc3 (base vb:Nat) (vt:TypeId) (w:World) (g cap n:Nat) (cs:List Value) (p q:Value) (i:Nat) (hp:p.oneCell'=true) (hq:q.oneCell'=true) (hi:i<n) (hown:OwnC base w (.slice (some ⟨g,0,none⟩) n cap) n cs) (hfull:cap<n+1) (hvb:w.heap[vb]? = some (.cells #[p,q] vt (0,0))) (hl:n<=1073741824) (hbase:base<=w.heap.size) :
 Calls Tryz.prog 166 #[.slice (some ⟨g,0,none⟩) n cap,.int .i64 (i:Nat),.slice (some ⟨vb,0,none⟩) 1 1] w fun e w'=>∃ v',e=.returned v'/\OwnC base w' v' (n+1) (cs.take (i * 2)++[p,q]++cs.drop (i * 2))/\w.grownBy w' none/\v'.ownBlock=some w.heap.size:=by
 obtain⟨i0,hi0,hz0,hzs,hzb⟩:=info_parts Z9
 have hcl:cs.length=n * 2:=hown.2.1
 have hone:=hown.2.2
 have hnx:=vI hvb
 have hvw:vb<w.heap.size:=(Array.getElem?_eq_some_iff.1 hvb).1
 have hgw:g<w.heap.size:=(hown.1.lt g rfl).2
 have hnc:n<=cap:=by
  rcases hown.cases with⟨h,_⟩ | ⟨g',cap',_,h,_,_,_,h4,_⟩
  ·cases h
  ·cases h;omega
 have hg:∀ j v,cs[j]? = some v->w.cell? ⟨g,j,none⟩=some v:=fun j v hj=>by
  have:=World.ownsRow.cells hown.1 (g:=g) rfl j v hj
  rw [zh,Nat.zero_add] at this
  exact this
 have hkk:(n:Int)+1 - (i:Int)=((n+1 - i:Nat):Int):=by omega
 have hik:i+(n+1 - i)=n+1:=by omega
 have hold:(Builtin.firstCells i0.size i (.slice (some ⟨g,0,none⟩) i cap)).run Tryz.prog w.drew=.ok (cs.take (i * 2)).toArray w.drew:=by
  rw [hzs]
  refine run_firstCells_some w.drew 2 i ⟨g,0,none⟩ i cap (cs.take (i * 2)) (by rw [List.length_take];omega) (fun j v hj=>?_)
  rw [List.getElem?_take] at hj
  split at hj
  ·have:=hg j v hj
   rw [zh,Nat.zero_add]
   exact this
  ·cases hj
 have hrz:∀ ty,(Builtin.append_ #[23,3] ty #[.slice (some ⟨g,0,none⟩) i cap,.int .i64 ((n:Int)+1 - (i:Int))]).run Tryz.prog w =
  .ok (.slice (some ⟨w.heap.size,0,none⟩) (n+1) (grownCap w (n+1) cap 34)) (w.drew.alloc (.cells ((cs.take (i * 2)).toArray++Builtin.zeroCells (Value.agg #[.slice none 0 0,.slice none 0 0]).cells (n+1 - i)++Builtin.zeroCells (Value.agg #[.slice none 0 0,.slice none 0 0]).cells (grownCap w (n+1) cap 34 - (n+1))) 34)):=fun ty=>by
  have h:=Lib.run_append_grow_zeros w 23 3 ty 34 i0 _ .i64 .i64 Tryz.underlying23 Tryz.underlying3 hi0 hz0 (some ⟨g,0,none⟩) i cap (cs.take (i * 2)) hold (n+1 - i) (by omega) (by omega) (by omega) (by omega) (by rw [hzb];omega) (by rw [hzb,hik];exact growslice_fits hfull (by omega))
  rw [hik] at h
  rw [hkk]
  exact h
 obtain⟨G,hG⟩:∃ G,G=grownCap w (n+1) cap 34 := ⟨_,rfl⟩
 have hGn:n+1<=G:=by rw [hG];exact grownCap_ge w _ _ _
 have hGm:G<=maxLen:=by rw [hG];exact grownCap_le_maxLen w _ _ _ (by unfold maxLen;omega)
 obtain⟨R,hR⟩:∃ R:Array Value,R=(cs.take (i * 2)).toArray++Builtin.zeroCells (Value.agg #[.slice none 0 0,.slice none 0 0]).cells (n+1 - i)++Builtin.zeroCells (Value.agg #[.slice none 0 0,.slice none 0 0]).cells (G - (n+1)):=⟨_,rfl⟩
 rw [<-hG,<-hR] at hrz
 have htl:(cs.take (i * 2)).length=i * 2:=by rw [List.length_take];omega
 have hRl:R.toList=(cs.take (i * 2)++List.replicate (cs.length+[p,q].length - i * 2) zS)++List.replicate ((G - (n+1)) * 2) zS:=by
  rw [hR]
  simp only [Array.toList_append,zgF,hcl]
  congr 3
  simp
  omega
 have hRs:R.size=G * 2:=by
  have:R.toList.length=G * 2:=by rw [hRl];simp;omega
  simpa using this
 obtain⟨W1,hW1⟩:∃ W1,W1=w.drew.alloc (.cells R 34):=⟨_,rfl⟩
 have o1:W1.ownsRow base 34 2 (.slice (some ⟨w.heap.size,0,none⟩) (n+1) G) (n+1) (cs.take (i * 2)++List.replicate (cs.length+[p,q].length - i * 2) zS):=by
  refine⟨by simp;omega,.inr ⟨w.heap.size,G,R,rfl,hbase,?_,hGn,hGm,by omega,?_⟩⟩
  ·rw [hW1];exact World.alloc_heap_new w.drew _
  ·rw [hRl,List.take_append_of_le_length (by simp;omega),List.take_of_length_le (by simp;omega)]
 obtain⟨o2,g2⟩:=z9 [p,q] (i * 2) _ _ o1
 obtain⟨o3,g3⟩:=z9 (cs.drop (i * 2)) (i * 2+2) ((W1.setCells w.heap.size (i * 2) [p,q]).drew) _ o2
 have eg:=za6 (xs:=cs) (ms:=[p,q]) (u:=zS) (i:=i * 2) (by omega)
 rw [show i * 2+[p,q].length=i * 2+2 from rfl] at eg
 rw [eg] at o3
 have g1:w.grownBy W1 none:=by
  rw [hW1]
  exact⟨rfl,rfl,rfl,by simp,fun k hk _=>Below.heap_alloc w.drew _ _ hk⟩
 have e12:(i+1) * 2=i * 2+2:=by omega
 have gall:w.grownBy (((W1.setCells w.heap.size (i * 2) [p,q]).drew).setCells w.heap.size (i * 2+2) (cs.drop (i * 2))) none:=by
  refine⟨g3.os.trans (g2.os.trans g1.os),g3.tape.trans (g2.tape.trans g1.tape),g3.output.trans (g2.output.trans g1.output),Nat.le_trans g1.size (Nat.le_trans g2.size g3.size),fun k hk _=>?_⟩
  have hk1:k<W1.heap.size:=Nat.lt_of_lt_of_le hk g1.size
  have hne:some k≠some w.heap.size:=fun e=>by cases e;omega
  rw [g3.block k (Nat.lt_of_lt_of_le hk1 g2.size) hne]
  show (W1.setCells w.heap.size (i * 2) [p,q]).heap[k]? = _
  rw [g2.block k hk1 hne,g1.block k hk (by simp)]
 have OF:=Lib.hid (X6 (by omega) hcl rfl hone (yF hp hq) o3)
 have GA:=Lib.hid gall
 clear o3 gall o1 o2
 rw [<-hW1] at hrz
 have hN:∀ j,j<n * 2+2->(W1.cell? ⟨w.heap.size,j,none⟩).isSome=true:=fun j hj=>by
  rw [hW1,World.cell?_alloc_at (w:=w.drew) R _ w.heap.size j rfl,Array.getElem?_eq_getElem (by omega)];rfl
 have hNf:∀ j,W1.frozen? ⟨w.heap.size,j,none⟩=false:=fun j=>by rw [hW1];exact World.frozen?_alloc_at (w:=w.drew) R _ w.heap.size j rfl
 have hOb:∀ j v,w.cell? ⟨g,j,none⟩=some v->W1.cell? ⟨g,j,none⟩=some v:=fun j v h=>by rw [hW1,World.cell?_alloc_past (w:=w.drew) _ g j hgw];exact h
 have hOv:∀ j v,w.cell? ⟨vb,j,none⟩=some v->W1.cell? ⟨vb,j,none⟩=some v:=fun j v h=>by rw [hW1,World.cell?_alloc_past (w:=w.drew) _ vb j hvw];exact h
 have hsz:(Tryz.prog.info? 34).map (·.size)=some 2:=by rw [hi0];simp [hzs]
 have hmA:Nat.min 1 (n+1 - i)=1:=by simp only [Nat.min_def];split<;>omega
 have hmB:Nat.min (n - i) (n - i)=n - i:=Nat.min_self _
 have hdl:(cs.drop (i * 2)).length=(n - i) * 2:=by rw [List.length_drop,hcl];omega
 have hcpA:∀(W:World),(∀ y,W.cell? y=W1.cell? y)->(∀ y,W.frozen? y=W1.frozen? y)->∀ ty dc,(Builtin.copy_ #[23,22] ty #[.slice (some ⟨w.heap.size,i * 2,none⟩) (n+1 - i) dc,.slice (some ⟨vb,0,none⟩) 1 1]).run Tryz.prog W=.ok (goInt 1) (W.setCells w.heap.size (i * 2) [p,q]):=fun W hWc hWf ty dc=>by
  have h:=x3 W 23 22 ty 34 w.heap.size (i * 2) (n+1 - i) dc ⟨vb,0,none⟩ 1 1 2 [p,q] Tryz.underlying23 hsz (by rw [hmA];rfl)
   (fun j v hj=>by have:=hnx j v hj;rw [zh] at this;rw [hWc,zh];exact hOv _ v this)
   (fun j hj=>by rw [hWc];simp at hj;exact hN _ (by omega)) (fun j hj=>by rw [hWf];exact hNf _) (yF hp hq)
  rw [hmA] at h
  exact h
 have hne:g≠w.heap.size:=by omega
 have hcpB:∀(W:World),(∀ y,W.cell? y=(W1.setCells w.heap.size (i * 2) [p,q]).cell? y)->(∀ y,W.frozen? y=(W1.setCells w.heap.size (i * 2) [p,q]).frozen? y)->∀ ty dc sc,(Builtin.copy_ #[23,23] ty #[.slice (some ⟨w.heap.size,(i+1) * 2,none⟩) (n - i) dc,.slice (some ⟨g,i * 2,none⟩) (n - i) sc]).run Tryz.prog W=.ok (goInt ((n - i:Nat):Int)) (W.setCells w.heap.size (i * 2+2) (cs.drop (i * 2))):=fun W hWc hWf ty dc sc=>by
  have h:=x3 W 23 23 ty 34 w.heap.size ((i+1) * 2) (n - i) dc ⟨g,i * 2,none⟩ (n - i) sc 2 (cs.drop (i * 2)) Tryz.underlying23 hsz (by rw [hdl,hmB])
   (fun j v hj=>by
     rw [hWc,zh,World.cell?_setCells_out _ _ _ _ _ (fun h _=>absurd h hne)]
     exact hOb _ v (hg (i * 2+j) v (by rwa [List.getElem?_drop] at hj)))
   (fun j hj=>by rw [hWc];exact isSome_setCells _ _ _ _ (fun t ht=>hN _ (by simp at ht;omega)) _ (hN _ (by omega)))
   (fun j hj=>by rw [hWf,World.frozen?_setCells];exact hNf _) (fun v hv=>hone v (List.mem_of_mem_drop hv))
  rw [hmB,e12] at h
  rw [e12]
  exact h
 have hF1:∀ y,((W1.setCells w.heap.size (i * 2) [p,q]).drew).cell? y=(W1.setCells w.heap.size (i * 2) [p,q]).cell? y:=fun y=>rfl
 have hF2:∀ y,((W1.setCells w.heap.size (i * 2) [p,q]).drew).frozen? y=(W1.setCells w.heap.size (i * 2) [p,q]).frozen? y:=fun y=>rfl
 have hz2:¬((i:Int)=(n:Int)):=by omega
 have hz3:(cap:Int)<(n:Int)+1:=by omega
 unfold maxLen at hGm
 have hGi:¬(G=i):=by omega
 have hGim:¬(G=i+1):=by omega
 have hci:¬(cap=i):=by omega
 have hw1:IntKind.i64.wrap ((i:Int)+1)=(i:Int)+1:=by rw [IntKind.wrap_i64];omega
 have hb1:(0:Int)<=(i:Int)+1:=by omega
 have hin:i<=n:=by omega
 have htn:((i:Int)+1).toNat=i+1:=by omega
 have hb3:(i:Int)<=(n:Int):=by omega
 clear hkk hik hold hG hRl hR hRs hown hg hN hNf hOb hOv hone hcl hnx hvb htl hdl g1 g2 g3 hW1 e12 hmA hmB hsz
 go_enter Tryz.func166,Tryz.ntmps166
 go_wp2_with (first
  | (at_builtin;refine Lib.wpList_append_run _ rfl _ _ _ _ rfl _ _ rfl rfl _ _ (hrz _) ?_)
  | (at_builtin;refine wpList_copy_runI _ rfl _ _ 23 22 rfl _ _ rfl rfl (hcpA _ (fun _=>rfl) (fun _=>rfl) _ _) ?_)
  | (at_builtin;refine wpList_copy_runI _ rfl _ _ 23 23 rfl _ _ rfl rfl (hcpB _ (fun _=>rfl) (fun _=>rfl) _ _ _) ?_))
 have mixed:Tryz.prog.follows .mixedOrders=true:=by kernel_rfl
 go_region_law_o (refine step_copy_runI rfl _ _ 23 23 rfl (.slice (some ⟨w.heap.size,(i+1) * 2,none⟩) (n - i) (G - (i+1))) (.slice (some ⟨g,i * 2,none⟩) (n - i) (cap - i)) (by simp [Act.eval,Act.put]) (by simp [Act.eval,Act.put]) (hcpB _ hF1 hF2 _ (G - (i+1)) (cap - i)) ?_)
 go_wp2
 refine bodyPost_ret (results_tmp rfl _ _ _) rfl ?_
 exact⟨_,rfl,OF.out,GA.out,rfl⟩
theorem JK (base vb:Nat) (vt:TypeId) (w:World) (g cap n:Nat) (cs:List Value) (p q:Value) (i:Nat) (hp:p.oneCell'=true) (hq:q.oneCell'=true) (hi:i<n) (hown:OwnC base w (.slice (some ⟨g,0,none⟩) n cap) n cs) (hroom:n+1<=cap) (hvb:w.heap[vb]? = some (.cells #[p,q] vt (0,0))) (hne:vb≠g) (hl:n<=1073741824) :
 Calls Tryz.prog 166 #[.slice (some ⟨g,0,none⟩) n cap,.int .i64 (i:Nat),.slice (some ⟨vb,0,none⟩) 1 1] w fun e w'=>∃ v',e=.returned v'/\OwnC base w' v' (n+1) (cs.take (i * 2)++[p,q]++cs.drop (i * 2))/\w.grownBy w' (some g)/\v'.ownBlock=some g:=by
 obtain⟨i0,hi0,hz0,hzs,hzb⟩:=info_parts Z9
 have hcl:cs.length=n * 2:=hown.2.1
 have hone:=hown.2.2
 have hnx:=vI hvb
 obtain⟨cur,hbg,hgb,hc63,hcz,htk⟩:∃ cur,base<=g/\w.heap[g]? = some (.cells cur 34 (0,0))/\cap<=maxLen/\cur.size=cap * 2/\cur.toList.take (n * 2)=cs:=by
  rcases hown.cases with⟨h,_⟩ | ⟨g',cap',cur,h,h1,_,h3,_,h5,h6,h7⟩
  ·cases h
  ·cases h;exact⟨cur,h1,h3,h5,h6,h7⟩
 obtain⟨us,hus⟩:∃ us,us=(cur.toList.drop (n * 2)).take 2:=⟨_,rfl⟩
 have hul:us.length=[p,q].length:=by rw [hus];simp;omega
 have o0:w.drew.ownsRow base 34 2 (.slice (some ⟨g,0,none⟩) (n+1) cap) (n+1) (cs++us):=by
  refine⟨by rw [List.length_append,hul,hcl];simp;omega,.inr ⟨g,cap,cur,rfl,hbg,hgb,hroom,hc63,by omega,?_⟩⟩
  rw [show (n+1) * 2=n * 2+2 by omega,List.take_add,htk,hus]
 obtain⟨o1,g1⟩:=z9 (cs.drop (i * 2)) (i * 2+2) _ _ o0
 obtain⟨o2,g2⟩:=z9 [p,q] (i * 2) _ _ o1
 have eg:=za7 (xs:=cs) (ms:=[p,q]) (us:=us) (i:=i * 2) (by omega) hul
 rw [show i * 2+[p,q].length=i * 2+2 from rfl] at eg
 rw [eg] at o2
 have g0:w.grownBy w.drew (some g):=⟨rfl,rfl,rfl,Nat.le_refl _,fun _ _ _=>rfl⟩
 have OF:=Lib.hid (X6 (by omega) hcl rfl hone (yF hp hq) o2)
 have GA:=Lib.hid (yn g0 (yn g1 g2))
 have hcell:∀ j,j<cap * 2->(w.cell? ⟨g,j,none⟩).isSome=true:=fun j hj=>by
  simp [World.cell?,hgb,hcz,hj]
 have hfz:∀ j,w.frozen? ⟨g,j,none⟩=false:=fun j=>by simp [World.frozen?,hgb]
 have hg:∀ j v,cs[j]? = some v->w.cell? ⟨g,j,none⟩=some v:=fun j v hj=>by
  have:=World.ownsRow.cells hown.1 (g:=g) rfl j v hj
  rw [zh,Nat.zero_add] at this
  exact this
 have hsa:w.shape? vb=some (vt,2):=by simp [World.shape?,hvb]
 have hsb:w.shape? g=some (34,cap * 2):=by simp [World.shape?,hgb,hcz]
 have hfa:w.frozen? ⟨vb,0,none⟩=false:=by simp [World.frozen?,hvb]
 have hfe:w.frozen? ⟨vb,2,none⟩=false:=by simp [World.frozen?,hvb]
 have hsz:(Tryz.prog.info? 34).map (·.size)=some 2:=by rw [hi0];simp [hzs]
 have hov:∀ lb cb,(callFunc 201 #[.slice (some ⟨vb,0,none⟩) 1 1,.slice (some ⟨g,(i+1) * 2,none⟩) lb cb]).run Tryz.prog w=.ok (.value (.bool false)) w:=fun lb cb=>by
  rw [run_callFunc_extern Tryz.func201 (by kernel_rfl) (by kernel_rfl) (by kernel_rfl) (e:=Extern.SlicesOverlaps.overlaps #[22,22] #[4]) (by kernel_rfl),
   Lib.run_overlaps_apart w 22 4 34 Tryz.underlying22 2 (fun w=>by kernel_rfl) ⟨vb,0,none⟩ ⟨g,(i+1) * 2,none⟩ 1 1 lb cb hne vt 34 2 (cap * 2) hsa hsb (by omega) hfa hfe]
  rfl
 have hdl:(cs.drop (i * 2)).length=(n - i) * 2:=by rw [List.length_drop,hcl];omega
 have hmA:Nat.min (n+1 - i) (n - i)=n - i:=by simp only [Nat.min_def];split<;>omega
 have hmB:Nat.min 1 (n+1 - i)=1:=by simp only [Nat.min_def];split<;>omega
 have e12:(i+1) * 2=i * 2+2:=by omega
 have hcp1:∀ ty dc sc,(Builtin.copy_ #[23,23] ty #[.slice (some ⟨g,(i+1) * 2,none⟩) (n - i) dc,.slice (some ⟨g,i * 2,none⟩) (n+1 - i) sc]).run Tryz.prog w.drew=.ok (goInt ((n - i:Nat):Int)) (w.drew.setCells g (i * 2+2) (cs.drop (i * 2))):=fun ty dc sc=>by
  have h:=x3 w.drew 23 23 ty 34 g ((i+1) * 2) (n - i) dc ⟨g,i * 2,none⟩ (n+1 - i) sc 2 (cs.drop (i * 2)) Tryz.underlying23 hsz (by rw [hdl,hmA])
   (fun j v hj=>by rw [zh];exact hg (i * 2+j) v (by rwa [List.getElem?_drop] at hj))
   (fun j hj=>hcell _ (by omega)) (fun j hj=>hfz _) (fun v hv=>hone v (List.mem_of_mem_drop hv))
  rw [hmA,e12] at h
  rw [e12]
  exact h
 obtain⟨W1,hW1⟩:∃ W1,W1=w.drew.setCells g (i * 2+2) (cs.drop (i * 2)):=⟨_,rfl⟩
 have hsp1:∀ k,k<cap * 2->(W1.cell? ⟨g,k,none⟩).isSome=true:=fun k hk=>by
  rw [hW1]
  exact isSome_setCells g (cs.drop (i * 2)) (i * 2+2) w.drew (fun j hj=>hcell _ (by rw [hdl] at hj;omega)) k (hcell k hk)
 have hcp2:∀(W:World),(∀ y,W.cell? y=W1.cell? y)->(∀ y,W.frozen? y=W1.frozen? y)->∀ ty dc,(Builtin.copy_ #[23,22] ty #[.slice (some ⟨g,i * 2,none⟩) (n+1 - i) dc,.slice (some ⟨vb,0,none⟩) 1 1]).run Tryz.prog W=.ok (goInt 1) (W.setCells g (i * 2) [p,q]):=fun W hWc hWf ty dc=>by
  have h:=x3 W 23 22 ty 34 g (i * 2) (n+1 - i) dc ⟨vb,0,none⟩ 1 1 2 [p,q] Tryz.underlying23 hsz (by rw [hmB];rfl)
   (fun j v hj=>by
     rw [hWc,hW1,World.cell?_setCells_out g _ _ _ _ (fun h _=>absurd h (by rw [zh];exact hne))]
     exact hnx j v hj)
   (fun j hj=>by rw [hWc];simp at hj;exact hsp1 _ (by omega)) (fun j hj=>by rw [hWf,hW1,World.frozen?_setCells];exact hfz _) (yF hp hq)
  rw [hmB] at h
  exact h
 rw [<-hW1] at hcp1
 have HW1:=Lib.hid hW1
 have hz2:¬((i:Int)=(n:Int)):=by omega
 unfold maxLen at hc63
 have hw1:IntKind.i64.wrap ((i:Int)+1)=(i:Int)+1:=by rw [IntKind.wrap_i64];omega
 have hb1:(0:Int)<=(i:Int)+1:=by omega
 have hin:i<=n:=by omega
 have htn:((i:Int)+1).toNat=i+1:=by omega
 have hb2:¬(cap=i+1):=by omega
 have hb3:(i:Int)<=(n:Int)+1:=by omega
 have hb4:¬(cap=i):=by omega
 clear o0 o1 o2 g0 g1 g2 eg hown hcell hfz hg hsa hsb hfa hfe hsp1 hW1 hdl hone hnx hcl hvb hgb hcz htk hus hul hmA hmB e12 hsz
 go_enter Tryz.func166,Tryz.ntmps166
 have hcp1':=fun ty=>hcp1 ty (cap - (i+1)) (cap - i)
 have mixed:Tryz.prog.follows .mixedOrders=true:=by kernel_rfl
 go_wp2_with (simp only [hov])
 go_region_law_o (refine step_copy_runI rfl _ _ 23 23 rfl _ _ (by simp [Act.eval,Act.put]) (by simp [Act.eval,Act.put]) (hcp1 _ _ _) ?_)
 go_wp2_with (first | (at_builtin;refine wpList_copy_runI _ rfl _ _ 23 22 rfl _ _ rfl rfl (hcp2 _ (fun _=>rfl) (fun _=>rfl) _ _) ?_))
 have OF':=OF.out
 have GA':=GA.out
 rw [<-HW1.out] at OF' GA'
 refine bodyPost_ret (results_tmp rfl _ _ _) rfl ?_
 exact⟨_,rfl,OF',GA',rfl⟩
theorem Q1 (base vb:Nat) (vt:TypeId) (w:World) (v:Value) (n:Nat) (cs:List Value) (p q:Value) (i:Nat) (hp:p.oneCell'=true) (hq:q.oneCell'=true) (hi:i<=n) (hown:OwnC base w v n cs) (hvb:w.heap[vb]? = some (.cells #[p,q] vt (0,0))) (hne:v.ownBlock≠some vb) (hl:n<=1073741824) (hbase:base<=w.heap.size) :
 Calls Tryz.prog 166 #[v,.int .i64 (i:Nat),.slice (some ⟨vb,0,none⟩) 1 1] w fun e w'=>∃ v',e=.returned v'/\OwnC base w' v' (n+1) (cs.take (i * 2)++[p,q]++cs.drop (i * 2))/\w.grownBy w' v.ownBlock/\(v'.ownBlock=v.ownBlock\/v'.ownBlock=some w.heap.size):=by
 have hcl:=hown.2.1
 by_cases he:i=n
 ·subst he
  rw [List.take_of_length_le (by omega),List.drop_of_length_le (by omega),List.append_nil]
  exact zc2 base vb vt w v i cs p q hp hq hown hvb hl hbase
 ·have hlt:i<n:=by omega
  rcases hown.cases with⟨_,h0,_⟩ | ⟨g,cap,cur,rfl,_⟩
  ·omega
  ·by_cases hc:cap<n+1
   ·refine(zc3 base vb vt w g cap n cs p q i hp hq hlt hown hc hvb hl hbase).mono ?_
    rintro e w' ⟨v',rfl,h1,h2,h3⟩
    exact⟨v',rfl,h1,⟨h2.os,h2.tape,h2.output,h2.size,fun k hk _=>h2.block k hk (by simp)⟩,.inr h3⟩
   ·refine(JK base vb vt w g cap n cs p q i hp hq hlt hown (by omega) hvb (fun e=>hne (by rw [e];rfl)) hl).mono ?_
    rintro e w' ⟨v',rfl,h1,h2,h3⟩
    exact⟨v',rfl,h1,h2,.inl h3⟩
end Go.Proofs.YtonhfknjcbakiaaGreatDoor
namespace Go.Proofs.YtonhfknjcbakiaaGreatDoor
open Go.RowKit
def OutG (C:Nat->Nat->Prop) (mb base:Nat) (w:World) (v:Value) (o:List Fg):Prop:=
 ∃ xs,OwnC base w v o.length xs/\∀ i (h:i<o.length),∃ a b,xs[i * 2]? = some a/\xs[i * 2+1]? = some b/\Dat (DX C mb w v) w a (rg o[i].items)/\Dat (DX C mb w v) w b (vp o[i].vec)
theorem OutG.start (C:Nat->Nat->Prop) (mb base:Nat) (w:World):OutG C mb base w (.slice none 0 0) []:=⟨[],⟨World.ownsRow_nil _ _ _ _,rfl,by simp⟩,fun i h=>absurd h (by simp)⟩
theorem OutG.owns {C:Nat->Nat->Prop} {mb base:Nat} {w:World} {v:Value} {o:List Fg} (h:OutG C mb base w v o):∀ k,v.ownBlock=some k->base<=k/\k<w.heap.size:=by
 obtain⟨xs,h1,_⟩:=h
 exact h1.1.lt
theorem OutG.shape {C:Nat->Nat->Prop} {mb base:Nat} {w:World} {v:Value} {o:List Fg} (h:OutG C mb base w v o):∃ ad cap,v=.slice ad o.length cap/\o.length<=cap/\cap<=maxLen:=by
 obtain⟨xs,h1,_⟩:=h
 rcases h1.cases with⟨rfl,h0,_⟩ | ⟨g,cap,cur,rfl,_,_,_,h4,h5,_⟩
 ·exact⟨none,0,by rw [h0],by omega,by decide⟩
 ·exact⟨_,cap,rfl,h4,h5⟩
theorem OwnC.keep {base:Nat} {w w':World} {v:Value} {n:Nat} {xs:List Value} (h:OwnC base w v n xs) (hb:∀ k,v.ownBlock=some k->w'.heap[k]? = w.heap[k]?):OwnC base w' v n xs:=by
 refine⟨⟨h.1.1,?_⟩,h.2⟩
 rcases h.1.2 with h | ⟨g,cap,cur,e,hg,hc,r⟩
 ·exact .inl h
 ·exact .inr ⟨g,cap,cur,e,hg,(hb g (by rw [e];rfl)).trans hc,r⟩
theorem OutG.keep {C:Nat->Nat->Prop} {mb base:Nat} {w w':World} {v:Value} {o:List Fg} (h:OutG C mb base w v o) (hs:w.heap.size<=w'.heap.size) (hb:∀ k,k<w.heap.size->w'.heap[k]? = w.heap[k]?):OutG C mb base w' v o:=by
 obtain⟨xs,h1,h2⟩:=h
 refine⟨xs,h1.keep fun k hk=>hb k (h1.1.lt k hk).2,fun i hi=>?_⟩
 obtain⟨a,b,c,d,e,f⟩:=h2 i hi
 exact⟨a,b,c,d,DX.keep e hs fun k hk _=>hb k hk,DX.keep f hs fun k hk _=>hb k hk⟩
theorem DX.grown {C:Nat->Nat->Prop} {mb:Nat} {w w':World} {v v' x:Value} {p:PV} (h:Dat (DX C mb w v) w x p) (hC:∀ b o,C b o->b<mb) (hmb:mb<w.heap.size) (hg:w.grownBy w' v.ownBlock) (hv':v'.ownBlock=v.ownBlock\/v'.ownBlock=some w.heap.size):Dat (DX C mb w' v') w' x p:=
 h.mono (fun b o h=>⟨h.1.imp id fun h=>⟨h.1,Nat.lt_of_lt_of_le h.2 hg.size⟩,fun e=>by
  rcases hv' with hv' | hv'
  ·exact h.2 (hv'.symm.trans e)
  ·rw [hv'] at e
   cases e
   rcases h.1 with h | h
   ·have:=hC _ _ h;omega
   ·omega⟩) fun b o x h hx=>(World.cell?_of_block (a:=⟨b,o,none⟩) (hg.block b (World.block_lt_of_cell? w ⟨b,o,none⟩ hx) fun e=>h.2 e.symm)).trans hx
theorem zeu {D:Nat->Nat->Prop} {w:World} {v:Value} {l:List En} (h:Dat D w v (vp l)):v.oneCell'=true:=by
 have h':Dat D w v (.sl (l.map ec) .sh):=h
 obtain⟨ad,cap,sz,b,off,f,e1,_⟩:=(Rel.dat (ρ:=fun _=>0) (nb:=0) h').inv_sl
 rw [e1];rfl
theorem OutG.insK {C:Nat->Nat->Prop} {mb base:Nat} {w w':World} {v v':Value} {o:List Fg} {f:Fg} {xs:List Value} {p q:Value} {i:Nat} (hi:i<=o.length) (hl:xs.length=o.length * 2)
 (h2:∀ i (h:i<o.length),∃ a b,xs[i * 2]? = some a/\xs[i * 2+1]? = some b/\Dat (DX C mb w v) w a (rg o[i].items)/\Dat (DX C mb w v) w b (vp o[i].vec))
 (hp:Dat (DX C mb w v) w p (rg f.items)) (hq:Dat (DX C mb w v) w q (vp f.vec)) (key:∀ {x:Value} {p:PV},Dat (DX C mb w v) w x p->Dat (DX C mb w' v') w' x p)
 (ho:OwnC base w' v' (o.length+1) (xs.take (i * 2)++[p,q]++xs.drop (i * 2))):OutG C mb base w' v' (o.take i++f::o.drop i):=by
 have hlen:(o.take i++f::o.drop i).length=o.length+1:=by simp;omega
 have ht:(xs.take (i * 2)).length=i * 2:=by simp;omega
 refine⟨_,by rw [hlen];exact ho,fun j hj=>?_⟩
 rw [hlen] at hj
 rcases Nat.lt_trichotomy j i with hlt | heq | hgt
 ·obtain⟨a,b,c,d,e,k⟩:=h2 j (by omega)
  have hg1:(o.take i++f::o.drop i)[j]=o[j]'(by omega):=by
   rw [List.getElem_append_left (by simp;omega),List.getElem_take]
  rw [hg1]
  refine⟨a,b,?_,?_,key e,key k⟩
  ·rw [List.append_assoc,List.getElem?_append_left (by omega),List.getElem?_take,if_pos (by omega)];exact c
  ·rw [List.append_assoc,List.getElem?_append_left (by omega),List.getElem?_take,if_pos (by omega)];exact d
 ·subst heq
  have hg1:(o.take j++f::o.drop j)[j]=f:=by
   rw [List.getElem_append_right (by rw [List.length_take];exact Nat.min_le_left _ _)]
   simp [Nat.min_eq_left hi]
  rw [hg1]
  refine⟨p,q,?_,?_,key hp,key hq⟩
  ·rw [List.append_assoc,List.getElem?_append_right (by omega),ht,Nat.sub_self];rfl
  ·rw [List.append_assoc,List.getElem?_append_right (by omega),ht,show j * 2+1 - j * 2=1 by omega];rfl
 ·obtain⟨a,b,c,d,e,k⟩:=h2 (j - 1) (by omega)
  have hg1:(o.take i++f::o.drop i)[j]=o[j - 1]'(by omega):=by
   rw [List.getElem_append_right (by simp;omega)]
   obtain⟨m,rfl⟩:∃ m,j=i+1+m:=⟨j - (i+1),by omega⟩
   simp only [List.length_take,Nat.min_eq_left hi,show i+1+m - i=m+1 by omega,List.getElem_cons_succ,List.getElem_drop,show i+1+m - 1=i+m by omega]
  rw [hg1]
  have hpq:(xs.take (i * 2)++[p,q]).length=i * 2+2:=by simp;omega
  refine⟨a,b,?_,?_,key e,key k⟩
  ·rw [List.getElem?_append_right (by omega),hpq,List.getElem?_drop,show i * 2+(j * 2 - (i * 2+2))=(j - 1) * 2 by omega];exact c
  ·rw [List.getElem?_append_right (by omega),hpq,List.getElem?_drop,show i * 2+(j * 2+1 - (i * 2+2))=(j - 1) * 2+1 by omega];exact d
theorem OutG.ins {C:Nat->Nat->Prop} {mb base:Nat} {w w':World} {v v':Value} {o:List Fg} {f:Fg} {xs:List Value} {p q:Value} {i:Nat} (hi:i<=o.length) (hl:xs.length=o.length * 2)
 (h2:∀ i (h:i<o.length),∃ a b,xs[i * 2]? = some a/\xs[i * 2+1]? = some b/\Dat (DX C mb w v) w a (rg o[i].items)/\Dat (DX C mb w v) w b (vp o[i].vec))
 (hp:Dat (DX C mb w v) w p (rg f.items)) (hq:Dat (DX C mb w v) w q (vp f.vec)) (hC:∀ b o,C b o->b<mb) (hmb:mb<w.heap.size)
 (ho:OwnC base w' v' (o.length+1) (xs.take (i * 2)++[p,q]++xs.drop (i * 2))) (hg:w.grownBy w' v.ownBlock) (hv':v'.ownBlock=v.ownBlock\/v'.ownBlock=some w.heap.size):OutG C mb base w' v' (o.take i++f::o.drop i):=
 OutG.insK hi hl h2 hp hq (fun h=>DX.grown h hC hmb hg hv') ho
theorem DX.new {C:Nat->Nat->Prop} {mb:Nat} {w w':World} {v v' x:Value} {p:PV} (h:Dat (DX C mb w v) w x p) (hC:∀ b o,C b o->b<w.heap.size) (hb:Below w.heap.size w w') (hv':∀ k,v'.ownBlock=some k->w.heap.size<=k):Dat (DX C mb w' v') w' x p:=
 h.mono (fun b o h=>⟨h.1.imp id fun h=>⟨h.1,Nat.lt_of_lt_of_le h.2 hb.size⟩,fun e=>by
  have:=hv' b e
  rcases h.1 with h | h
  ·have:=hC _ _ h;omega
  ·omega⟩) fun b o x _ hx=>(World.cell?_of_block (a:=⟨b,o,none⟩) (hb.block b (World.block_lt_of_cell? w ⟨b,o,none⟩ hx))).trans hx
theorem OutG.set {C:Nat->Nat->Prop} {mb base g:Nat} {w:World} {cap:Nat} {o:List Fg} {l:List Iv} {a0:Value} {i:Nat} (h:OutG C mb base w (.slice (some ⟨g,0,none⟩) o.length cap) o) (hi:i<o.length) (ha:Dat (DX C mb w (.slice (some ⟨g,0,none⟩) o.length cap)) w a0 (rg l)) (hcap:0<cap) :
 OutG C mb base (w.setCell ⟨g,i * 2,none⟩ a0) (.slice (some ⟨g,0,none⟩) o.length cap) (o.take i++⟨l,o[i].vec⟩::o.drop (i+1)):=by
 obtain⟨xs,h1,h2⟩:=h
 have hlen:(o.take i++(⟨l,o[i].vec⟩:Fg)::o.drop (i+1)).length=o.length:=by simp;omega
 obtain⟨s1,s2⟩:=h1.1.stored (i * 2) a0
 have hbk:(Value.slice (some ⟨g,0,none⟩) o.length cap).ownBlock=some g:=by
  cases cap with
  | zero=>omega
  | succ c=>rfl
 have key:∀ {x:Value} {p:PV},Dat (DX C mb w (.slice (some ⟨g,0,none⟩) o.length cap)) w x p->Dat (DX C mb (w.setCell ⟨g,i * 2,none⟩ a0) (.slice (some ⟨g,0,none⟩) o.length cap)) (w.setCell ⟨g,i * 2,none⟩ a0) x p:=fun h=>
  DX.keep h (by simp) fun k hk hne=>Below.heap_setCell _ _ _ _ fun e=>hne (by rw [hbk];exact congrArg some e.symm)
 refine⟨xs.set (i * 2) a0,⟨by rw [hlen];exact s1,by rw [hlen,List.length_set];exact h1.2.1,fun u hu=>?_⟩,fun j hj=>?_⟩
 ·rcases List.mem_or_eq_of_mem_set hu with hu | rfl
  ·exact h1.2.2 u hu
  ·exact Ki ha
 ·have hj':j<o.length:=by rw [hlen] at hj;exact hj
  obtain⟨a,b,c,d,e,k⟩:=h2 j hj'
  have hxl:=h1.2.1
  by_cases hji:j=i
  ·subst hji
   have hg1:(o.take j++(⟨l,o[j].vec⟩:Fg)::o.drop (j+1))[j]=⟨l,o[j].vec⟩:=by
    rw [List.getElem_append_right (by rw [List.length_take];exact Nat.min_le_left _ _)]
    simp [Nat.min_eq_left (Nat.le_of_lt hi)]
   rw [hg1]
   refine⟨a0,b,?_,?_,key ha,key k⟩
   ·rw [List.getElem?_set_self (by omega)]
   ·rw [List.getElem?_set_ne (by omega)];exact d
  ·have hg1:(o.take i++(⟨l,o[i].vec⟩:Fg)::o.drop (i+1))[j]=o[j]:=by
    rcases Nat.lt_or_gt_of_ne hji with hlt | hgt
    ·rw [List.getElem_append_left (by simp;omega),List.getElem_take]
    ·rw [List.getElem_append_right (by simp;omega)]
     obtain⟨m,rfl⟩:∃ m,j=i+1+m:=⟨j - (i+1),by omega⟩
     simp only [List.length_take,Nat.min_eq_left (Nat.le_of_lt hi),show i+1+m - i=m+1 by omega,List.getElem_cons_succ,List.getElem_drop]
   rw [hg1]
   refine⟨a,b,?_,?_,key e,key k⟩
   ·rw [List.getElem?_set_ne (by omega)];exact c
   ·rw [List.getElem?_set_ne (by omega)];exact d
theorem OutG.dat {C:Nat->Nat->Prop} {mb base:Nat} {w:World} {v:Value} {o:List Fg} (h:OutG C mb base w v o) (hb:mb<base):Dat (DL C mb w) w v (kp o):=by
 obtain⟨xs,h1,h2⟩:=h
 rcases h1.1.2 with⟨rfl,h0⟩ | ⟨g,cap,cur,rfl,hg,hc,hn,hm,hs,ht⟩
 ·obtain rfl:=List.length_eq_zero_iff.1 h0
  exact .sl none 0 2 [] .sh 0 0 (fun _=>undef) (by simp) (fun h=>by cases h) (by decide) (fun h=>absurd rfl h) (fun i e h=>by simp at h) (fun j h=>by simp at h) (fun i e j p h=>by simp at h)
 ·have hlt:=(Array.getElem?_eq_some_iff.1 hc).1
  have cells:∀ j x,xs[j]? = some x->w.cell? ⟨g,j,none⟩=some x:=fun j x hx=>by
   have:=h1.1.cells (g:=g) rfl j x hx
   rw [zh,Nat.zero_add] at this
   exact this
  have hcell:∀ i (h:i<o.length) j p,(fc o[i])[j]? = some p->∃ x,xs[i * 2+j]? = some x/\Dat (DL C mb w) w x p/\x.oneCell'=true:=fun i h j p hp=>by
   obtain⟨a,b,c,d,e,k⟩:=h2 i h
   match j,hp with
   | 0,hp=>cases hp;exact⟨_,c,e.mono (fun _ _ h=>h.1) fun _ _ _ _ h=>h,Ki e⟩
   | 1,hp=>cases hp;exact⟨_,d,k.mono (fun _ _ h=>h.1) fun _ _ _ _ h=>h,zeu k⟩
   | j+2,hp=>simp [fc] at hp
  have hmap:∀(i:Nat) (e:List PV),(o.map fc)[i]? = some e->∃ h:i<o.length,e=fc o[i]:=fun i e he=>by
   rw [List.getElem?_map] at he
   obtain⟨x,hx,rfl⟩:=Option.map_eq_some_iff.1 he
   obtain⟨h,rfl⟩:=List.getElem?_eq_some_iff.1 hx
   exact⟨h,rfl⟩
  have hlen:(o.map fc).length=o.length:=List.length_map _
  unfold kp
  rw [<-hlen]
  refine .sl (some ⟨g,0,none⟩) cap 2 (o.map fc) .sh g 0 (fun j=>(xs[j]?).getD undef) (by rw [hlen];exact hn) (fun h=>by cases h) hm (fun _=>rfl) (fun i e he=>?_) (fun j hj=>?_) (fun i e j p he hp=>?_)
  ·obtain⟨h,rfl⟩:=hmap i e he
   rfl
  ·rw [hlen] at hj
   have hi:j / 2<o.length:=by omega
   have h3:j % 2<(fc o[j / 2]).length:=Nat.mod_lt _ (by decide)
   obtain⟨x,hx,_,ho⟩:=hcell (j / 2) hi (j % 2) ((fc o[j / 2])[j % 2]) (List.getElem?_eq_getElem h3)
   rw [show j / 2 * 2+j % 2=j by omega] at hx
   rw [Nat.zero_add]
   refine⟨.inr ⟨by omega,hlt⟩,?_,?_⟩
   ·rw [hx];exact cells j x hx
   ·rw [hx];exact ho
  ·obtain⟨h,rfl⟩:=hmap i e he
   obtain⟨x,hx,hd,_⟩:=hcell i h j p hp
   rw [hx]
   exact hd
theorem OutG.box {C:Nat->Nat->Prop} {mb base rb:Nat} {w:World} {v x:Value} {o:List Fg} (h:OutG C mb base w v o) (hb:rb<mb) (hrb:rb<base) (hC:∀ b o,C b o->b≠rb):OutG C mb base (w.setCell ⟨rb,0,none⟩ x) v o:=by
 have key:∀ {y:Value} {p:PV},Dat (DX C mb w v) w y p->Dat (DX C mb (w.setCell ⟨rb,0,none⟩ x) v) (w.setCell ⟨rb,0,none⟩ x) y p:=fun h=>
  h.mono (fun b o h=>⟨h.1.imp id fun h=>⟨h.1,by simpa using h.2⟩,h.2⟩) fun b o y h hy=>(World.cell?_of_block (a:=⟨b,o,none⟩) (Below.heap_setCell _ _ _ _ (by
   show b≠rb
   rcases h.1 with h | h
   ·exact hC _ _ h
   ·omega))).trans hy
 obtain⟨xs,h1,h2⟩:=h
 refine⟨xs,h1.keep fun k hk=>Below.heap_setCell _ _ _ _ (by have:=(h1.1.lt k hk).1;show k≠rb;omega),fun i hi=>?_⟩
 obtain⟨a,b,c,d,e,f⟩:=h2 i hi
 exact⟨a,b,c,d,key e,key f⟩
end Go.Proofs.YtonhfknjcbakiaaGreatDoor
