import Derived.Test.YtonhfknjcbakiaaGreatDoorB18
set_option maxHeartbeats 16000000
set_option linter.unusedVariables false
set_option linter.unusedSimpArgs false
set_option maxRecDepth 100000
namespace Go.Proofs.YtonhfknjcbakiaaGreatDoor
open Go.RowKit Go.Lib
attribute [-go_sem] z7
theorem Z9:(Tryz.prog.info? 34).map (fun i=>(i.zero,i.size,i.bytes))=some (some (.agg #[.slice none 0 0,.slice none 0 0]),2,48):=by kernel_rfl
def OwnC (base:Nat) (w:World) (v:Value) (n:Nat) (xs:List Value):Prop:=w.ownsRow base 34 2 v n xs/\xs.length=n * 2/\∀ u ∈ xs,u.oneCell'=true
theorem OwnC.cases {base:Nat} {w:World} {v:Value} {n:Nat} {xs:List Value} (h:OwnC base w v n xs):(v=.slice none 0 0/\n=0/\xs=[]) \/
 ∃ g cap cur,v=.slice (some ⟨g,0,none⟩) n cap/\base<=g/\g<w.heap.size/\w.heap[g]? = some (.cells cur 34 (0,0))/\n<=cap/\cap<=maxLen/\cur.size=cap * 2/\cur.toList.take (n * 2)=xs:=by
 rcases h.1.2 with⟨h1,h2⟩ | ⟨g,cap,cur,h1,h2,h3,h4,h5,h6,h7⟩
 ·subst h2;exact .inl ⟨h1,rfl,List.length_eq_zero_iff.1 (by rw [h.2.1])⟩
 ·exact .inr ⟨g,cap,cur,h1,h2,(Array.getElem?_eq_some_iff.1 h3).1,h3,h4,h5,h6,h7⟩
theorem vI {w:World} {vb:Nat} {vt:TypeId} {p q:Value} (hvb:w.heap[vb]? = some (.cells #[p,q] vt (0,0))):∀ j u,[p,q][j]? = some u->w.cell? ((⟨vb,0,none⟩:Addr).add j)=some u:=fun j u hj=>by
 match j,hj with
 | 0,hj=>cases hj;simp [World.cell?,Addr.add,hvb]
 | 1,hj=>cases hj;simp [World.cell?,Addr.add,hvb]
 | j+2,hj=>simp at hj
theorem yF {p q:Value} (hp:p.oneCell'=true) (hq:q.oneCell'=true):∀ u ∈ [p,q],u.oneCell'=true:=fun u hu=>by
 simp at hu
 rcases hu with rfl | rfl
 ·exact hp
 ·exact hq
theorem x3 {P:Program} (w:World) (dT sT ty elem:TypeId) (b o dLen dCap:Nat) (a:Addr) (sLen sCap sz:Nat) (cs:List Value)
 (hu:P.underlying dT=some (.slice elem)) (hs:(P.info? elem).map (·.size)=some sz) (hn:cs.length=Nat.min sLen dLen * sz)
 (hsrc:∀ j v,cs[j]? = some v->w.cell? (a.add j)=some v) (hc:∀ j,j<cs.length->(w.cell? ⟨b,o+j,none⟩).isSome=true) (hf:∀ j,j<cs.length->w.frozen? ⟨b,o+j,none⟩=false) (h1:∀ v ∈ cs,v.oneCell'=true) :
 (Builtin.copy_ #[dT,sT] ty #[.slice (some ⟨b,o,none⟩) dLen dCap,.slice (some a) sLen sCap]).run P w=.ok (goInt (Nat.min sLen dLen)) (w.setCells b o cs):=by
 have hl:=run_loadCells_list (P:=P) w a cs hsrc
 have hst:=run_storeCells_cells (P:=P) b o cs 0 w (by simpa using hc) (by simpa using hf) h1
 cases hq:P.info? elem with
 | none=>simp [hq] at hs
 | some i=>
   have hi:i.size=sz:=by simpa [hq] using hs
   simp [Builtin.copy_,run_underlying hu,Builtin.lenOf,Builtin.firstCells,sizeOf,typeInfo,hq,hi,<-hn,hl,hst]
theorem zaF {P:Program} {t t2 ty e e2:TypeId} {b:Option Addr} {n c:Nat} {x:Value} {w:World} (h1:P.underlying t=some (.slice e)) (h2:P.underlying t2=some (.slice e2)):(Builtin.append_ #[t,t2] ty #[.slice b n c,x]).run P w=(Builtin.append_ #[t,t] ty #[.slice b n c,x]).run P w:=by
 simp [Builtin.append_,run_underlying h1,run_underlying h2]
theorem yR {P:Program} {w:World} {ops:Array Oper} {rest:List Oper} {o:Oper} {a:Act} {Q:Exit->Act->World->Prop} (hgd:o.guard=none) (s x:Operand) (t t2 e2:TypeId)
 (ho:o.op=.call { callee:=.builtin .append,args:=#[s,x],argTypes:=#[t,t2] }) (ht2:P.underlying t2=some (.slice e2))
 (base:Nat) (e:TypeId) (i:TypeInfo) (z:Value) (size bytes:Nat) (ht:P.underlying t=some (.slice e)) (hi:P.info? e=some i) (hz:i.zero=some z)
 (hsize:i.size=size) (hby:i.bytes=bytes) (hzs:z.cells.size=size) (hsz:0<size)
 (v:Value) (n:Nat) (xs:List Value) (hs:a.eval s=v) (hown:w.ownsRow base e size v n xs)
 (ad:Addr) (m c:Nat) (news:List Value) (hx:a.eval x=.slice (some ad) m c) (hl:news.length=m * size) (hnews:∀ j u,news[j]? = some u->w.cell? (ad.add j)=some u) (h1:∀ u ∈ news,u.oneCell'=true)
 (h63:n+m<=maxLen) (hbytes:(n+m) * bytes<=140737488355328) (hbase:base<=w.heap.size)
 (h:∀ v' w',w'.ownsRow base e size v' (n+m) (xs++news)->w.grownBy w' v.ownBlock->(v'.ownBlock=v.ownBlock\/v'.ownBlock=some w.heap.size)->wpList P ops Q rest (a.put o.dst v') w') :
 wpList P ops Q (o::rest) a w:=by
 refine wpList_plain hgd fun K hK=>?_
 obtain⟨v',w',hr,h2,h3,_,h5⟩:=run_append_own_at (P:=P) w base t o.type e i z size bytes ht hi hz hsize hby hzs hsz v n xs hown ad m c news hl hnews h1 h63 hbytes hbase
 obtain⟨b0,n0,c0,rfl⟩:∃ b n c,v=.slice b n c:=by rcases hown.2 with⟨h,_⟩ | ⟨_,_,_,h,_⟩<;>exact⟨_,_,_,h⟩
 rw [<-zaF ht ht2] at hr
 unfold Oper.wp execOp
 simp only [ho,resolve,invoke,builtin,Sem.run_bind,Sem.run_pure,Result.andThen_ok,List.map_toArray,List.map_cons,List.map_nil,hs,hx,hr]
 exact hK _ _ (h v' w' h2 h3 h5)
theorem zc2 (base vb:Nat) (vt:TypeId) (w:World) (v:Value) (n:Nat) (xs:List Value) (p q:Value) (hp:p.oneCell'=true) (hq:q.oneCell'=true) (hown:OwnC base w v n xs) (hvb:w.heap[vb]? = some (.cells #[p,q] vt (0,0))) (hl:n<=1073741824) (hbase:base<=w.heap.size) :
 Calls Tryz.prog 166 #[v,.int .i64 (n:Nat),.slice (some ⟨vb,0,none⟩) 1 1] w fun e w'=>∃ v',e=.returned v'/\OwnC base w' v' (n+1) (xs++[p,q])/\w.grownBy w' v.ownBlock/\(v'.ownBlock=v.ownBlock\/v'.ownBlock=some w.heap.size):=by
 obtain⟨i0,hi0,hz0,hz1,hz2⟩:=info_parts Z9
 have hn:=vI hvb
 have hone:=yF hp hq
 have fin:∀ v' w',w'.ownsRow base 34 2 v' (n+1) (xs++[p,q])->OwnC base w' v' (n+1) (xs++[p,q]):=fun v' w' h=>⟨h,by have:=hown.2.1;simp;omega,fun u hu=>by
  rcases List.mem_append.1 hu with hu | hu
  ·exact hown.2.2 u hu
  ·exact hone u hu⟩
 have HO:=Lib.hid hown.1
 rcases hown.cases with⟨rfl,rfl,rfl⟩ | ⟨g,cap,cur,rfl,hg1,hg2,hg3,hg4,hg5,hg6,hg7⟩
 ·clear hown
  go_enter Tryz.func166,Tryz.ntmps166
  go_wp2_with (at_builtin;refine yR rfl _ _ 23 22 34 rfl Tryz.underlying22 base 34 i0 (.agg #[.slice none 0 0,.slice none 0 0]) 2 48 Tryz.underlying23 hi0 hz0 hz1 hz2 rfl (by decide) _ _ _ rfl HO.out ⟨vb,0,none⟩ 1 1 [p,q] rfl rfl hn hone (by simp [maxLen]) (by simp) hbase ?_;intro v' w' ho hgr hbl)
  go_ret
  exact⟨v',rfl,fin v' w' ho,hgr,hbl⟩
 ·unfold maxLen at hg5
  have hc63:cap<=9223372036854775807:=by omega
  clear hown hg7 hg6
  go_enter Tryz.func166,Tryz.ntmps166
  go_wp2_with (at_builtin;refine yR rfl _ _ 23 22 34 rfl Tryz.underlying22 base 34 i0 (.agg #[.slice none 0 0,.slice none 0 0]) 2 48 Tryz.underlying23 hi0 hz0 hz1 hz2 rfl (by decide) _ _ _ rfl HO.out ⟨vb,0,none⟩ 1 1 [p,q] rfl rfl hn hone (by unfold maxLen;omega) (by omega) hbase ?_;intro v' w' ho hgr hbl)
  all_goals (go_ret;exact⟨v',rfl,fin v' w' ho,hgr,hbl⟩)
def zS:Value:=.slice none 0 0
theorem zgF (n:Nat):(Builtin.zeroCells (Value.agg #[.slice none 0 0,.slice none 0 0]).cells n).toList=List.replicate (n * 2) zS:=by
 apply List.ext_getElem
 ·simp [Builtin.zeroCells,Value.cells]
 ·intro i h1 h2
  rcases Nat.mod_two_eq_zero_or_one i with h | h<;>simp [Builtin.zeroCells,Value.cells,h,zS]
theorem za6 {xs ms:List Value} {u:Value} {i:Nat} (hi:i<=xs.length):kF (kF (xs.take i++List.replicate (xs.length+ms.length - i) u) i ms) (i+ms.length) (xs.drop i)=xs.take i++ms++xs.drop i:=by
 have hl:(xs.take i).length=i:=by simp;omega
 have e1:=kG (xs.take i) (List.replicate ms.length u) (List.replicate (xs.length - i) u) ms (by simp) hl.symm
 have e2:=kG (xs.take i++ms) (List.replicate (xs.length - i) u) [] (xs.drop i) (by simp) (i:=i+ms.length) (by simp;omega)
 rw [show xs.length+ms.length - i=ms.length+(xs.length - i) by omega,<-List.replicate_append_replicate,<-List.append_assoc,e1]
 simpa using e2
theorem za7 {xs ms us:List Value} {i:Nat} (hi:i<=xs.length) (hu:us.length=ms.length):kF (kF (xs++us) (i+ms.length) (xs.drop i)) i ms=xs.take i++ms++xs.drop i:=by
 rw [jt (xs.drop i) _ _ (by simp;omega)]
 have hn:i+ms.length+(xs.drop i).length=(xs++us).length:=by simp;omega
 rw [hn,List.drop_length,List.append_nil]
 rw [jt ms _ _ (by simp;omega)]
 have ht:((xs++us).take (i+ms.length)).length=i+ms.length:=by simp;omega
 rw [List.take_append_of_le_length (by rw [ht];omega),List.take_take,Nat.min_eq_left (by omega),List.take_append_of_le_length hi]
 rw [List.drop_append,ht,Nat.sub_self,List.drop_zero,List.drop_eq_nil_of_le (by omega),List.nil_append]
theorem X6 {base:Nat} {w:World} {v:Value} {n i:Nat} {xs ms:List Value} (hi:i<=n) (hx:xs.length=n * 2) (hm:ms.length=2) (h1:∀ u ∈ xs,u.oneCell'=true) (h2:∀ u ∈ ms,u.oneCell'=true)
 (h:w.ownsRow base 34 2 v (n+1) (xs.take (i * 2)++ms++xs.drop (i * 2))):OwnC base w v (n+1) (xs.take (i * 2)++ms++xs.drop (i * 2)):=
 ⟨h,by simp;omega,fun u hu=>by
  rcases List.mem_append.1 hu with hu | hu
  ·rcases List.mem_append.1 hu with hu | hu
   ·exact h1 u (List.mem_of_mem_take hu)
   ·exact h2 u hu
  ·exact h1 u (List.mem_of_mem_drop hu)⟩
theorem zc3 (base vb:Nat) (vt:TypeId) (w:World) (g cap n:Nat) (cs:List Value) (p q:Value) (i:Nat) (hp:p.oneCell'=true) (hq:q.oneCell'=true) (hi:i<n) (hown:OwnC base w (.slice (some ⟨g,0,none⟩) n cap) n cs) (hfull:cap<n+1) (hvb:w.heap[vb]? = some (.cells #[p,q] vt (0,0))) (hl:n<=1073741824) (hbase:base<=w.heap.size) :
 Calls Tryz.prog 166 #[.slice (some ⟨g,0,none⟩) n cap,.int .i64 (i:Nat),.slice (some ⟨vb,0,none⟩) 1 1] w fun e w'=>∃ v',e=.returned v'/\OwnC base w' v' (n+1) (cs.take (i * 2)++[p,q]++cs.drop (i * 2))/\w.grownBy w' none/\v'.ownBlock=some w.heap.size:=by
 obtain⟨i0,hi0,hz0,hzs,hzb⟩:=info_parts Z9
 have hcl:cs.length=n * 2:=hown.2.1
 have hone:=hown.2.2
 have hnx:=vI hvb
 have hvw:vb<w.heap.size:=(Array.getElem?_eq_some_iff.1 hvb).1
 have hgw:g<w.heap.size:=(hown.1.lt g rfl).2
 have hnc:n<=cap:=by
  rcases hown.cases with⟨h,_⟩ | ⟨g',cap',_,h,_,_,_,h4,_⟩
  ·cases h
  ·cases h;omega
 have hg:∀ j v,cs[j]? = some v->w.cell? ⟨g,j,none⟩=some v:=fun j v hj=>by
  have:=World.ownsRow.cells hown.1 (g:=g) rfl j v hj
  rw [zh,Nat.zero_add] at this
  exact this
 have hkk:(n:Int)+1 - (i:Int)=((n+1 - i:Nat):Int):=by omega
 have hik:i+(n+1 - i)=n+1:=by omega
 have hold:(Builtin.firstCells i0.size i (.slice (some ⟨g,0,none⟩) i cap)).run Tryz.prog w.drew=.ok (cs.take (i * 2)).toArray w.drew:=by
  rw [hzs]
  refine run_firstCells_some w.drew 2 i ⟨g,0,none⟩ i cap (cs.take (i * 2)) (by rw [List.length_take];omega) (fun j v hj=>?_)
  rw [List.getElem?_take] at hj
  split at hj
  ·have:=hg j v hj
   rw [zh,Nat.zero_add]
   exact this
  ·cases hj
 have hrz:∀ ty,(Builtin.append_ #[23,3] ty #[.slice (some ⟨g,0,none⟩) i cap,.int .i64 ((n:Int)+1 - (i:Int))]).run Tryz.prog w =
  .ok (.slice (some ⟨w.heap.size,0,none⟩) (n+1) (grownCap w (n+1) cap 34)) (w.drew.alloc (.cells ((cs.take (i * 2)).toArray++Builtin.zeroCells (Value.agg #[.slice none 0 0,.slice none 0 0]).cells (n+1 - i)++Builtin.zeroCells (Value.agg #[.slice none 0 0,.slice none 0 0]).cells (grownCap w (n+1) cap 34 - (n+1))) 34)):=fun ty=>by
  have h:=Lib.run_append_grow_zeros w 23 3 ty 34 i0 _ .i64 .i64 Tryz.underlying23 Tryz.underlying3 hi0 hz0 (some ⟨g,0,none⟩) i cap (cs.take (i * 2)) hold (n+1 - i) (by omega) (by omega) (by omega) (by omega) (by rw [hzb];omega) (by rw [hzb,hik];exact growslice_fits hfull (by omega))
  rw [hik] at h
  rw [hkk]
  exact h
 obtain⟨G,hG⟩:∃ G,G=grownCap w (n+1) cap 34 := ⟨_,rfl⟩
 have hGn:n+1<=G:=by rw [hG];exact grownCap_ge w _ _ _
 have hGm:G<=maxLen:=by rw [hG];exact grownCap_le_maxLen w _ _ _ (by unfold maxLen;omega)
 obtain⟨R,hR⟩:∃ R:Array Value,R=(cs.take (i * 2)).toArray++Builtin.zeroCells (Value.agg #[.slice none 0 0,.slice none 0 0]).cells (n+1 - i)++Builtin.zeroCells (Value.agg #[.slice none 0 0,.slice none 0 0]).cells (G - (n+1)):=⟨_,rfl⟩
 rw [<-hG,<-hR] at hrz
 have htl:(cs.take (i * 2)).length=i * 2:=by rw [List.length_take];omega
 have hRl:R.toList=(cs.take (i * 2)++List.replicate (cs.length+[p,q].length - i * 2) zS)++List.replicate ((G - (n+1)) * 2) zS:=by
  rw [hR]
  simp only [Array.toList_append,zgF,hcl]
  congr 3
  simp
  omega
 have hRs:R.size=G * 2:=by
  have:R.toList.length=G * 2:=by rw [hRl];simp;omega
  simpa using this
 obtain⟨W1,hW1⟩:∃ W1,W1=w.drew.alloc (.cells R 34):=⟨_,rfl⟩
 have o1:W1.ownsRow base 34 2 (.slice (some ⟨w.heap.size,0,none⟩) (n+1) G) (n+1) (cs.take (i * 2)++List.replicate (cs.length+[p,q].length - i * 2) zS):=by
  refine⟨by simp;omega,.inr ⟨w.heap.size,G,R,rfl,hbase,?_,hGn,hGm,by omega,?_⟩⟩
  ·rw [hW1];exact World.alloc_heap_new w.drew _
  ·rw [hRl,List.take_append_of_le_length (by simp;omega),List.take_of_length_le (by simp;omega)]
 obtain⟨o2,g2⟩:=z9 [p,q] (i * 2) _ _ o1
 obtain⟨o3,g3⟩:=z9 (cs.drop (i * 2)) (i * 2+2) ((W1.setCells w.heap.size (i * 2) [p,q]).drew) _ o2
 have eg:=za6 (xs:=cs) (ms:=[p,q]) (u:=zS) (i:=i * 2) (by omega)
 rw [show i * 2+[p,q].length=i * 2+2 from rfl] at eg
 rw [eg] at o3
 have g1:w.grownBy W1 none:=by
  rw [hW1]
  exact⟨rfl,rfl,rfl,by simp,fun k hk _=>Below.heap_alloc w.drew _ _ hk⟩
 have e12:(i+1) * 2=i * 2+2:=by omega
 have gall:w.grownBy (((W1.setCells w.heap.size (i * 2) [p,q]).drew).setCells w.heap.size (i * 2+2) (cs.drop (i * 2))) none:=by
  refine⟨g3.os.trans (g2.os.trans g1.os),g3.tape.trans (g2.tape.trans g1.tape),g3.output.trans (g2.output.trans g1.output),Nat.le_trans g1.size (Nat.le_trans g2.size g3.size),fun k hk _=>?_⟩
  have hk1:k<W1.heap.size:=Nat.lt_of_lt_of_le hk g1.size
  have hne:some k≠some w.heap.size:=fun e=>by cases e;omega
  rw [g3.block k (Nat.lt_of_lt_of_le hk1 g2.size) hne]
  show (W1.setCells w.heap.size (i * 2) [p,q]).heap[k]? = _
  rw [g2.block k hk1 hne,g1.block k hk (by simp)]
 have OF:=Lib.hid (X6 (by omega) hcl rfl hone (yF hp hq) o3)
 have GA:=Lib.hid gall
 clear o3 gall o1 o2
 rw [<-hW1] at hrz
 have hN:∀ j,j<n * 2+2->(W1.cell? ⟨w.heap.size,j,none⟩).isSome=true:=fun j hj=>by
  rw [hW1,World.cell?_alloc_at (w:=w.drew) R _ w.heap.size j rfl,Array.getElem?_eq_getElem (by omega)];rfl
 have hNf:∀ j,W1.frozen? ⟨w.heap.size,j,none⟩=false:=fun j=>by rw [hW1];exact World.frozen?_alloc_at (w:=w.drew) R _ w.heap.size j rfl
 have hOb:∀ j v,w.cell? ⟨g,j,none⟩=some v->W1.cell? ⟨g,j,none⟩=some v:=fun j v h=>by rw [hW1,World.cell?_alloc_past (w:=w.drew) _ g j hgw];exact h
 have hOv:∀ j v,w.cell? ⟨vb,j,none⟩=some v->W1.cell? ⟨vb,j,none⟩=some v:=fun j v h=>by rw [hW1,World.cell?_alloc_past (w:=w.drew) _ vb j hvw];exact h
 have hsz:(Tryz.prog.info? 34).map (·.size)=some 2:=by rw [hi0];simp [hzs]
 have hmA:Nat.min 1 (n+1 - i)=1:=by simp only [Nat.min_def];split<;>omega
 have hmB:Nat.min (n - i) (n - i)=n - i:=Nat.min_self _
 have hdl:(cs.drop (i * 2)).length=(n - i) * 2:=by rw [List.length_drop,hcl];omega
 have hcpA:∀(W:World),(∀ y,W.cell? y=W1.cell? y)->(∀ y,W.frozen? y=W1.frozen? y)->∀ ty dc,(Builtin.copy_ #[23,22] ty #[.slice (some ⟨w.heap.size,i * 2,none⟩) (n+1 - i) dc,.slice (some ⟨vb,0,none⟩) 1 1]).run Tryz.prog W=.ok (goInt 1) (W.setCells w.heap.size (i * 2) [p,q]):=fun W hWc hWf ty dc=>by
  have h:=x3 W 23 22 ty 34 w.heap.size (i * 2) (n+1 - i) dc ⟨vb,0,none⟩ 1 1 2 [p,q] Tryz.underlying23 hsz (by rw [hmA];rfl)
   (fun j v hj=>by have:=hnx j v hj;rw [zh] at this;rw [hWc,zh];exact hOv _ v this)
   (fun j hj=>by rw [hWc];simp at hj;exact hN _ (by omega)) (fun j hj=>by rw [hWf];exact hNf _) (yF hp hq)
  rw [hmA] at h
  exact h
 have hne:g≠w.heap.size:=by omega
 have hcpB:∀(W:World),(∀ y,W.cell? y=(W1.setCells w.heap.size (i * 2) [p,q]).cell? y)->(∀ y,W.frozen? y=(W1.setCells w.heap.size (i * 2) [p,q]).frozen? y)->∀ ty dc sc,(Builtin.copy_ #[23,23] ty #[.slice (some ⟨w.heap.size,(i+1) * 2,none⟩) (n - i) dc,.slice (some ⟨g,i * 2,none⟩) (n - i) sc]).run Tryz.prog W=.ok (goInt ((n - i:Nat):Int)) (W.setCells w.heap.size (i * 2+2) (cs.drop (i * 2))):=fun W hWc hWf ty dc sc=>by
  have h:=x3 W 23 23 ty 34 w.heap.size ((i+1) * 2) (n - i) dc ⟨g,i * 2,none⟩ (n - i) sc 2 (cs.drop (i * 2)) Tryz.underlying23 hsz (by rw [hdl,hmB])
   (fun j v hj=>by
     rw [hWc,zh,World.cell?_setCells_out _ _ _ _ _ (fun h _=>absurd h hne)]
     exact hOb _ v (hg (i * 2+j) v (by rwa [List.getElem?_drop] at hj)))
   (fun j hj=>by rw [hWc];exact isSome_setCells _ _ _ _ (fun t ht=>hN _ (by simp at ht;omega)) _ (hN _ (by omega)))
   (fun j hj=>by rw [hWf,World.frozen?_setCells];exact hNf _) (fun v hv=>hone v (List.mem_of_mem_drop hv))
  rw [hmB,e12] at h
  rw [e12]
  exact h
 have hF1:∀ y,((W1.setCells w.heap.size (i * 2) [p,q]).drew).cell? y=(W1.setCells w.heap.size (i * 2) [p,q]).cell? y:=fun y=>rfl
 have hF2:∀ y,((W1.setCells w.heap.size (i * 2) [p,q]).drew).frozen? y=(W1.setCells w.heap.size (i * 2) [p,q]).frozen? y:=fun y=>rfl
 have hz2:¬((i:Int)=(n:Int)):=by omega
 have hz3:(cap:Int)<(n:Int)+1:=by omega
 unfold maxLen at hGm
 have hGi:¬(G=i):=by omega
 have hGim:¬(G=i+1):=by omega
 have hci:¬(cap=i):=by omega
 have hw1:IntKind.i64.wrap ((i:Int)+1)=(i:Int)+1:=by rw [IntKind.wrap_i64];omega
 have hb1:(0:Int)<=(i:Int)+1:=by omega
 have hin:i<=n:=by omega
 have htn:((i:Int)+1).toNat=i+1:=by omega
 have hb3:(i:Int)<=(n:Int):=by omega
 clear hkk hik hold hG hRl hR hRs hown hg hN hNf hOb hOv hone hcl hnx hvb htl hdl g1 g2 g3 hW1 e12 hmA hmB hsz
 go_enter Tryz.func166,Tryz.ntmps166
 go_wp2_with (first
  | (at_builtin;refine Lib.wpList_append_run _ rfl _ _ _ _ rfl _ _ rfl rfl _ _ (hrz _) ?_)
  | (at_builtin;refine wpList_copy_runI _ rfl _ _ 23 22 rfl _ _ rfl rfl (hcpA _ (fun _=>rfl) (fun _=>rfl) _ _) ?_)
  | (at_builtin;refine wpList_copy_runI _ rfl _ _ 23 23 rfl _ _ rfl rfl (hcpB _ (fun _=>rfl) (fun _=>rfl) _ _ _) ?_))
 have mixed:Tryz.prog.follows .mixedOrders=true:=by kernel_rfl
 go_region_law_o (refine step_copy_runI rfl _ _ 23 23 rfl (.slice (some ⟨w.heap.size,(i+1) * 2,none⟩) (n - i) (G - (i+1))) (.slice (some ⟨g,i * 2,none⟩) (n - i) (cap - i)) (by simp [Act.eval,Act.put]) (by simp [Act.eval,Act.put]) (hcpB _ hF1 hF2 _ (G - (i+1)) (cap - i)) ?_)
 go_wp2
 refine bodyPost_ret (results_tmp rfl _ _ _) rfl ?_
 exact⟨_,rfl,OF.out,GA.out,rfl⟩
theorem JK (base vb:Nat) (vt:TypeId) (w:World) (g cap n:Nat) (cs:List Value) (p q:Value) (i:Nat) (hp:p.oneCell'=true) (hq:q.oneCell'=true) (hi:i<n) (hown:OwnC base w (.slice (some ⟨g,0,none⟩) n cap) n cs) (hroom:n+1<=cap) (hvb:w.heap[vb]? = some (.cells #[p,q] vt (0,0))) (hne:vb≠g) (hl:n<=1073741824) :
 Calls Tryz.prog 166 #[.slice (some ⟨g,0,none⟩) n cap,.int .i64 (i:Nat),.slice (some ⟨vb,0,none⟩) 1 1] w fun e w'=>∃ v',e=.returned v'/\OwnC base w' v' (n+1) (cs.take (i * 2)++[p,q]++cs.drop (i * 2))/\w.grownBy w' (some g)/\v'.ownBlock=some g:=by
 obtain⟨i0,hi0,hz0,hzs,hzb⟩:=info_parts Z9
 have hcl:cs.length=n * 2:=hown.2.1
 have hone:=hown.2.2
 have hnx:=vI hvb
 obtain⟨cur,hbg,hgb,hc63,hcz,htk⟩:∃ cur,base<=g/\w.heap[g]? = some (.cells cur 34 (0,0))/\cap<=maxLen/\cur.size=cap * 2/\cur.toList.take (n * 2)=cs:=by
  rcases hown.cases with⟨h,_⟩ | ⟨g',cap',cur,h,h1,_,h3,_,h5,h6,h7⟩
  ·cases h
  ·cases h;exact⟨cur,h1,h3,h5,h6,h7⟩
 obtain⟨us,hus⟩:∃ us,us=(cur.toList.drop (n * 2)).take 2:=⟨_,rfl⟩
 have hul:us.length=[p,q].length:=by rw [hus];simp;omega
 have o0:w.drew.ownsRow base 34 2 (.slice (some ⟨g,0,none⟩) (n+1) cap) (n+1) (cs++us):=by
  refine⟨by rw [List.length_append,hul,hcl];simp;omega,.inr ⟨g,cap,cur,rfl,hbg,hgb,hroom,hc63,by omega,?_⟩⟩
  rw [show (n+1) * 2=n * 2+2 by omega,List.take_add,htk,hus]
 obtain⟨o1,g1⟩:=z9 (cs.drop (i * 2)) (i * 2+2) _ _ o0
 obtain⟨o2,g2⟩:=z9 [p,q] (i * 2) _ _ o1
 have eg:=za7 (xs:=cs) (ms:=[p,q]) (us:=us) (i:=i * 2) (by omega) hul
 rw [show i * 2+[p,q].length=i * 2+2 from rfl] at eg
 rw [eg] at o2
 have g0:w.grownBy w.drew (some g):=⟨rfl,rfl,rfl,Nat.le_refl _,fun _ _ _=>rfl⟩
 have OF:=Lib.hid (X6 (by omega) hcl rfl hone (yF hp hq) o2)
 have GA:=Lib.hid (yn g0 (yn g1 g2))
 have hcell:∀ j,j<cap * 2->(w.cell? ⟨g,j,none⟩).isSome=true:=fun j hj=>by
  simp [World.cell?,hgb,hcz,hj]
 have hfz:∀ j,w.frozen? ⟨g,j,none⟩=false:=fun j=>by simp [World.frozen?,hgb]
 have hg:∀ j v,cs[j]? = some v->w.cell? ⟨g,j,none⟩=some v:=fun j v hj=>by
  have:=World.ownsRow.cells hown.1 (g:=g) rfl j v hj
  rw [zh,Nat.zero_add] at this
  exact this
 have hsa:w.shape? vb=some (vt,2):=by simp [World.shape?,hvb]
 have hsb:w.shape? g=some (34,cap * 2):=by simp [World.shape?,hgb,hcz]
 have hfa:w.frozen? ⟨vb,0,none⟩=false:=by simp [World.frozen?,hvb]
 have hfe:w.frozen? ⟨vb,2,none⟩=false:=by simp [World.frozen?,hvb]
 have hsz:(Tryz.prog.info? 34).map (·.size)=some 2:=by rw [hi0];simp [hzs]
 have hov:∀ lb cb,(callFunc 201 #[.slice (some ⟨vb,0,none⟩) 1 1,.slice (some ⟨g,(i+1) * 2,none⟩) lb cb]).run Tryz.prog w=.ok (.value (.bool false)) w:=fun lb cb=>by
  rw [run_callFunc_extern Tryz.func201 (by kernel_rfl) (by kernel_rfl) (by kernel_rfl) (e:=Extern.SlicesOverlaps.overlaps #[22,22] #[4]) (by kernel_rfl),
   Lib.run_overlaps_apart w 22 4 34 Tryz.underlying22 2 (fun w=>by kernel_rfl) ⟨vb,0,none⟩ ⟨g,(i+1) * 2,none⟩ 1 1 lb cb hne vt 34 2 (cap * 2) hsa hsb (by omega) hfa hfe]
  rfl
 have hdl:(cs.drop (i * 2)).length=(n - i) * 2:=by rw [List.length_drop,hcl];omega
 have hmA:Nat.min (n+1 - i) (n - i)=n - i:=by simp only [Nat.min_def];split<;>omega
 have hmB:Nat.min 1 (n+1 - i)=1:=by simp only [Nat.min_def];split<;>omega
 have e12:(i+1) * 2=i * 2+2:=by omega
 have hcp1:∀ ty dc sc,(Builtin.copy_ #[23,23] ty #[.slice (some ⟨g,(i+1) * 2,none⟩) (n - i) dc,.slice (some ⟨g,i * 2,none⟩) (n+1 - i) sc]).run Tryz.prog w.drew=.ok (goInt ((n - i:Nat):Int)) (w.drew.setCells g (i * 2+2) (cs.drop (i * 2))):=fun ty dc sc=>by
  have h:=x3 w.drew 23 23 ty 34 g ((i+1) * 2) (n - i) dc ⟨g,i * 2,none⟩ (n+1 - i) sc 2 (cs.drop (i * 2)) Tryz.underlying23 hsz (by rw [hdl,hmA])
   (fun j v hj=>by rw [zh];exact hg (i * 2+j) v (by rwa [List.getElem?_drop] at hj))
   (fun j hj=>hcell _ (by omega)) (fun j hj=>hfz _) (fun v hv=>hone v (List.mem_of_mem_drop hv))
  rw [hmA,e12] at h
  rw [e12]
  exact h
 obtain⟨W1,hW1⟩:∃ W1,W1=w.drew.setCells g (i * 2+2) (cs.drop (i * 2)):=⟨_,rfl⟩
 have hsp1:∀ k,k<cap * 2->(W1.cell? ⟨g,k,none⟩).isSome=true:=fun k hk=>by
  rw [hW1]
  exact isSome_setCells g (cs.drop (i * 2)) (i * 2+2) w.drew (fun j hj=>hcell _ (by rw [hdl] at hj;omega)) k (hcell k hk)
 have hcp2:∀(W:World),(∀ y,W.cell? y=W1.cell? y)->(∀ y,W.frozen? y=W1.frozen? y)->∀ ty dc,(Builtin.copy_ #[23,22] ty #[.slice (some ⟨g,i * 2,none⟩) (n+1 - i) dc,.slice (some ⟨vb,0,none⟩) 1 1]).run Tryz.prog W=.ok (goInt 1) (W.setCells g (i * 2) [p,q]):=fun W hWc hWf ty dc=>by
  have h:=x3 W 23 22 ty 34 g (i * 2) (n+1 - i) dc ⟨vb,0,none⟩ 1 1 2 [p,q] Tryz.underlying23 hsz (by rw [hmB];rfl)
   (fun j v hj=>by
     rw [hWc,hW1,World.cell?_setCells_out g _ _ _ _ (fun h _=>absurd h (by rw [zh];exact hne))]
     exact hnx j v hj)
   (fun j hj=>by rw [hWc];simp at hj;exact hsp1 _ (by omega)) (fun j hj=>by rw [hWf,hW1,World.frozen?_setCells];exact hfz _) (yF hp hq)
  rw [hmB] at h
  exact h
 rw [<-hW1] at hcp1
 have HW1:=Lib.hid hW1
 have hz2:¬((i:Int)=(n:Int)):=by omega
 unfold maxLen at hc63
 have hw1:IntKind.i64.wrap ((i:Int)+1)=(i:Int)+1:=by rw [IntKind.wrap_i64];omega
 have hb1:(0:Int)<=(i:Int)+1:=by omega
 have hin:i<=n:=by omega
 have htn:((i:Int)+1).toNat=i+1:=by omega
 have hb2:¬(cap=i+1):=by omega
 have hb3:(i:Int)<=(n:Int)+1:=by omega
 have hb4:¬(cap=i):=by omega
 clear o0 o1 o2 g0 g1 g2 eg hown hcell hfz hg hsa hsb hfa hfe hsp1 hW1 hdl hone hnx hcl hvb hgb hcz htk hus hul hmA hmB e12 hsz
 go_enter Tryz.func166,Tryz.ntmps166
 have hcp1':=fun ty=>hcp1 ty (cap - (i+1)) (cap - i)
 have mixed:Tryz.prog.follows .mixedOrders=true:=by kernel_rfl
 go_wp2_with (simp only [hov])
 go_region_law_o (refine step_copy_runI rfl _ _ 23 23 rfl _ _ (by simp [Act.eval,Act.put]) (by simp [Act.eval,Act.put]) (hcp1 _ _ _) ?_)
 go_wp2_with (first | (at_builtin;refine wpList_copy_runI _ rfl _ _ 23 22 rfl _ _ rfl rfl (hcp2 _ (fun _=>rfl) (fun _=>rfl) _ _) ?_))
 have OF':=OF.out
 have GA':=GA.out
 rw [<-HW1.out] at OF' GA'
 refine bodyPost_ret (results_tmp rfl _ _ _) rfl ?_
 exact⟨_,rfl,OF',GA',rfl⟩
theorem Q1 (base vb:Nat) (vt:TypeId) (w:World) (v:Value) (n:Nat) (cs:List Value) (p q:Value) (i:Nat) (hp:p.oneCell'=true) (hq:q.oneCell'=true) (hi:i<=n) (hown:OwnC base w v n cs) (hvb:w.heap[vb]? = some (.cells #[p,q] vt (0,0))) (hne:v.ownBlock≠some vb) (hl:n<=1073741824) (hbase:base<=w.heap.size) :
 Calls Tryz.prog 166 #[v,.int .i64 (i:Nat),.slice (some ⟨vb,0,none⟩) 1 1] w fun e w'=>∃ v',e=.returned v'/\OwnC base w' v' (n+1) (cs.take (i * 2)++[p,q]++cs.drop (i * 2))/\w.grownBy w' v.ownBlock/\(v'.ownBlock=v.ownBlock\/v'.ownBlock=some w.heap.size):=by
 have hcl:=hown.2.1
 by_cases he:i=n
 ·subst he
  rw [List.take_of_length_le (by omega),List.drop_of_length_le (by omega),List.append_nil]
  exact zc2 base vb vt w v i cs p q hp hq hown hvb hl hbase
 ·have hlt:i<n:=by omega
  rcases hown.cases with⟨_,h0,_⟩ | ⟨g,cap,cur,rfl,_⟩
  ·omega
  ·by_cases hc:cap<n+1
   ·refine(zc3 base vb vt w g cap n cs p q i hp hq hlt hown hc hvb hl hbase).mono ?_
    rintro e w' ⟨v',rfl,h1,h2,h3⟩
    exact⟨v',rfl,h1,⟨h2.os,h2.tape,h2.output,h2.size,fun k hk _=>h2.block k hk (by simp)⟩,.inr h3⟩
   ·refine(JK base vb vt w g cap n cs p q i hp hq hlt hown (by omega) hvb (fun e=>hne (by rw [e];rfl)) hl).mono ?_
    rintro e w' ⟨v',rfl,h1,h2,h3⟩
    exact⟨v',rfl,h1,h2,.inl h3⟩
end Go.Proofs.YtonhfknjcbakiaaGreatDoor
namespace Go.Proofs.YtonhfknjcbakiaaGreatDoor
open Go.RowKit
def DX (C:Nat->Nat->Prop) (mb:Nat) (w:World) (v:Value):Nat->Nat->Prop:=fun b o=>DL C mb w b o/\v.ownBlock≠some b
def OutE (C:Nat->Nat->Prop) (mb base:Nat) (w:World) (v:Value) (es:List En):Prop:=
 ∃ xs,w.ownsRow base 38 3 v es.length xs/\∀ i (h:i<es.length),xs[i * 3]? = some (uV es[i].rep)/\xs[i * 3+1]? = some (uV es[i].max)/\∃ hv,xs[i * 3+2]? = some hv/\Dat (DX C mb w v) w hv (rg es[i].holes)
theorem OutE.start (C:Nat->Nat->Prop) (mb base:Nat) (w:World):OutE C mb base w (.slice none 0 0) []:=⟨[],World.ownsRow_nil _ _ _ _,fun i h=>absurd h (by simp)⟩
theorem OutE.owns {C:Nat->Nat->Prop} {mb base:Nat} {w:World} {v:Value} {es:List En} (h:OutE C mb base w v es):∀ k,v.ownBlock=some k->base<=k/\k<w.heap.size:=by
 obtain⟨xs,h1,_⟩:=h
 exact h1.lt
theorem DX.keep {C:Nat->Nat->Prop} {mb:Nat} {w w':World} {v:Value} {x:Value} {p:PV} (h:Dat (DX C mb w v) w x p) (hs:w.heap.size<=w'.heap.size) (hb:∀ k,k<w.heap.size->v.ownBlock≠some k->w'.heap[k]? = w.heap[k]?):Dat (DX C mb w' v) w' x p:=
 h.mono (fun b o h=>⟨h.1.imp id fun h=>⟨h.1,Nat.lt_of_lt_of_le h.2 hs⟩,h.2⟩) fun b o x h hx=>(World.cell?_of_block (a:=⟨b,o,none⟩) (hb b (World.block_lt_of_cell? w ⟨b,o,none⟩ hx) h.2)).trans hx
theorem OutE.keep {C:Nat->Nat->Prop} {mb base:Nat} {w w':World} {v:Value} {es:List En} (h:OutE C mb base w v es) (hs:w.heap.size<=w'.heap.size) (hb:∀ k,k<w.heap.size->w'.heap[k]? = w.heap[k]?):OutE C mb base w' v es:=by
 obtain⟨xs,h1,h2⟩:=h
 refine⟨xs,⟨h1.1,?_⟩,fun i hi=>?_⟩
 ·rcases h1.2 with h | ⟨g,cap,cur,e,hg,hc,r⟩
  ·exact .inl h
  ·exact .inr ⟨g,cap,cur,e,hg,(hb g (Array.getElem?_eq_some_iff.1 hc).1).trans hc,r⟩
 ·obtain⟨a,b,hv,c,d⟩:=h2 i hi
  exact⟨a,b,hv,c,DX.keep d hs fun k hk _=>hb k hk⟩
theorem OutE.push {C:Nat->Nat->Prop} {mb base:Nat} {w w':World} {v v':Value} {es:List En} {e:En} {xs:List Value} {hv:Value} (h2:∀ i (h:i<es.length),xs[i * 3]? = some (uV es[i].rep)/\xs[i * 3+1]? = some (uV es[i].max)/\∃ hv,xs[i * 3+2]? = some hv/\Dat (DX C mb w v) w hv (rg es[i].holes))
 (h1:w.ownsRow base 38 3 v es.length xs) (hd:Dat (DX C mb w v) w hv (rg e.holes)) (hC:∀ b o,C b o->b<mb) (hmb:mb<w.heap.size) (ho:w'.ownsRow base 38 3 v' (es.length+1) (xs++[uV e.rep,uV e.max,hv])) (hg:w.grownBy w' v.ownBlock) (hv':v'.ownBlock=v.ownBlock\/v'.ownBlock=some w.heap.size) :
 OutE C mb base w' v' (es++[e]):=by
 have key:∀ {x:Value} {p:PV},Dat (DX C mb w v) w x p->Dat (DX C mb w' v') w' x p:=fun {x p} h=>
  h.mono (fun b o h=>⟨h.1.imp id fun h=>⟨h.1,Nat.lt_of_lt_of_le h.2 hg.size⟩,fun e=>by
   rcases hv' with hv' | hv'
   ·exact h.2 (hv'.symm.trans e)
   ·rw [hv'] at e
    cases e
    rcases h.1 with h | h
    ·have:=hC _ _ h;omega
    ·omega⟩) fun b o x h hx=>(World.cell?_of_block (a:=⟨b,o,none⟩) (hg.block b (World.block_lt_of_cell? w ⟨b,o,none⟩ hx) fun e=>h.2 e.symm)).trans hx
 have hl:=h1.1
 refine⟨xs++[uV e.rep,uV e.max,hv],by simpa using ho,fun i hi=>?_⟩
 simp only [List.length_append,List.length_cons,List.length_nil,Nat.zero_add] at hi
 by_cases hlt:i<es.length
 ·obtain⟨a,b,hv,c,d⟩:=h2 i hlt
  rw [List.getElem_append_left hlt]
  refine⟨?_,?_,hv,?_,key d⟩
  ·rw [List.getElem?_append_left (by omega)];exact a
  ·rw [List.getElem?_append_left (by omega)];exact b
  ·rw [List.getElem?_append_left (by omega)];exact c
 ·obtain rfl:i=es.length:=by omega
  rw [List.getElem_append_right (Nat.le_refl _)]
  simp only [Nat.sub_self,List.getElem_cons_zero]
  refine⟨?_,?_,hv,?_,key hd⟩
  ·rw [List.getElem?_append_right (by omega),show es.length * 3 - xs.length=0 by omega];rfl
  ·rw [List.getElem?_append_right (by omega),show es.length * 3+1 - xs.length=1 by omega];rfl
  ·rw [List.getElem?_append_right (by omega),show es.length * 3+2 - xs.length=2 by omega];rfl
theorem Ki {D:Nat->Nat->Prop} {w:World} {v:Value} {l:List Iv} (h:Dat D w v (rg l)):v.oneCell'=true:=by
 obtain⟨ad,cap,rfl⟩:=zK h
 rfl
theorem OutE.dat {C:Nat->Nat->Prop} {mb base:Nat} {w:World} {v:Value} {es:List En} (h:OutE C mb base w v es) (hb:mb<base):Dat (DL C mb w) w v (vp es):=by
 obtain⟨xs,h1,h2⟩:=h
 rcases h1.2 with⟨rfl,h0⟩ | ⟨g,cap,cur,rfl,hg,hc,hn,hm,hs,ht⟩
 ·obtain rfl:=List.length_eq_zero_iff.1 h0
  exact .sl none 0 3 [] .sh 0 0 (fun _=>undef) (by simp) (fun h=>by cases h) (by decide) (fun h=>absurd rfl h) (fun i e h=>by simp at h) (fun j h=>by simp at h) (fun i e j p h=>by simp at h)
 ·have hlt:=(Array.getElem?_eq_some_iff.1 hc).1
  have cells:∀ j x,xs[j]? = some x->w.cell? ⟨g,j,none⟩=some x:=fun j x hx=>by
   have:=h1.cells (g:=g) rfl j x hx
   rw [zh,Nat.zero_add] at this
   exact this
  have hcell:∀ i (h:i<es.length) j p,(ec es[i])[j]? = some p->∃ x,xs[i * 3+j]? = some x/\Dat (DL C mb w) w x p/\x.oneCell'=true:=fun i h j p hp=>by
   obtain⟨a,b,hv,c,d⟩:=h2 i h
   match j,hp with
   | 0,hp=>cases hp;exact⟨_,a,.v _,rfl⟩
   | 1,hp=>cases hp;exact⟨_,b,.v _,rfl⟩
   | 2,hp=>cases hp;exact⟨_,c,d.mono (fun _ _ h=>h.1) fun _ _ _ _ h=>h,Ki d⟩
   | j+3,hp=>simp [ec] at hp
  have hmap:∀(i:Nat) (e:List PV),(es.map ec)[i]? = some e->∃ h:i<es.length,e=ec es[i]:=fun i e he=>by
   rw [List.getElem?_map] at he
   obtain⟨x,hx,rfl⟩:=Option.map_eq_some_iff.1 he
   obtain⟨h,rfl⟩:=List.getElem?_eq_some_iff.1 hx
   exact⟨h,rfl⟩
  have hlen:(es.map ec).length=es.length:=List.length_map _
  unfold vp
  rw [<-hlen]
  refine .sl (some ⟨g,0,none⟩) cap 3 (es.map ec) .sh g 0 (fun j=>(xs[j]?).getD undef) (by rw [hlen];exact hn) (fun h=>by cases h) hm (fun _=>rfl) (fun i e he=>?_) (fun j hj=>?_) (fun i e j p he hp=>?_)
  ·obtain⟨h,rfl⟩:=hmap i e he
   rfl
  ·rw [hlen] at hj
   have hi:j / 3<es.length:=by omega
   have h3:j % 3<(ec es[j / 3]).length:=Nat.mod_lt _ (by decide)
   obtain⟨x,hx,_,ho⟩:=hcell (j / 3) hi (j % 3) ((ec es[j / 3])[j % 3]) (List.getElem?_eq_getElem h3)
   rw [show j / 3 * 3+j % 3=j by omega] at hx
   rw [Nat.zero_add]
   refine⟨.inr ⟨by omega,hlt⟩,?_,?_⟩
   ·rw [hx];exact cells j x hx
   ·rw [hx];exact ho
  ·obtain⟨h,rfl⟩:=hmap i e he
   obtain⟨x,hx,hd,_⟩:=hcell i h j p hp
   rw [hx]
   exact hd
end Go.Proofs.YtonhfknjcbakiaaGreatDoor
namespace Go.Proofs.YtonhfknjcbakiaaGreatDoor
open Go.RowKit Go.Sort
theorem OwnU.base {base base':Nat} {w:World} {v:Value} {l:List Nat} (h:OwnU base w v l) (hb:base'<=base):OwnU base' w v l:=by
 refine⟨h.1,?_⟩
 rcases h.2 with h | ⟨g,cap,cur,e,hg,r⟩
 ·exact .inl h
 ·exact .inr ⟨g,cap,cur,e,Nat.le_trans hb hg,r⟩
theorem zeb {w:World} {base:Nat} {v:Value} {l:List Nat} (h:OwnU base w v l) (hne:l≠[]) (hl:l.length<4611686018427387904):∃ l',l'.Perm l/\l'.Pairwise (·<=·) /\
 Calls Tryz.prog 198 #[v] w fun e w'=>e=.returned (.tuple #[])/\OwnU base w' v l'/\w.grownBy w' v.ownBlock:=by
 obtain⟨zs,hzs⟩:∃ zs:List Int,zs=l.map fun x:Nat=>(x:Int):=⟨_,rfl⟩
 have hzl:zs.length=l.length:=by rw [hzs];simp
 obtain⟨ts,hts⟩:∃ ts:List Int,ts=zs.mergeSort fun x y=>decide (x<=y):=⟨_,rfl⟩
 have hperm:ts.Perm zs:=by rw [hts];exact List.mergeSort_perm _ _
 have hsort:ts.Pairwise (fun x y=>x<=y):=by
  have:=List.pairwise_mergeSort (le:=fun(x y:Int)=>decide (x<=y)) (fun a b c h1 h2=>by simp at *;omega) (fun a b=>by simp;omega) zs
  rw [<-hts] at this
  exact this.imp fun h=>by simpa using h
 have hnat:∀ z ∈ ts,∃ x:Nat,x ∈ l/\z=(x:Int):=fun z hz=>by
  have:=hperm.mem_iff.1 hz
  rw [hzs,List.mem_map] at this
  obtain⟨x,hx,rfl⟩:=this
  exact⟨x,hx,rfl⟩
 have hback:(ts.map Int.toNat).map (fun x:Nat=>(x:Int))=ts:=by
  rw [List.map_map]
  refine(List.map_congr_left (g:=id) fun z hz=>?_).trans (List.map_id _)
  obtain⟨x,_,rfl⟩:=hnat z hz
  simp
 refine⟨ts.map Int.toNat,?_,?_,?_⟩
 ·have:=hperm.map Int.toNat
  rw [hzs,List.map_map] at this
  rwa [show l.map (Int.toNat ∘ fun x:Nat=>(x:Int))=l from (List.map_congr_left (g:=id) fun _ _=>rfl).trans (List.map_id _)] at this
 ·rw [List.pairwise_map]
  exact hsort.imp fun h=>by omega
 ·rcases h.cases with⟨_,h0⟩ | ⟨g,cap,cur,rfl,h1,h2,h3,h4,h5,h6,h7⟩
  ·exact absurd h0 hne
  ·have hH:Holds zg w g 0 zs.toArray:=by
    intro j hj
    have hj':j<l.length:=by rw [<-hzl];simpa using hj
    refine⟨?_,by simp [World.frozen?,h3]⟩
    have q:(cur.toList.take l.length)[j]? = (l.map uV)[j]?:=by rw [h7]
    rw [List.getElem?_take_of_lt hj'] at q
    simp only [World.cell?,h3,Nat.zero_add]
    simp only [Option.isSome_none,Bool.false_eq_true,if_false]
    rw [<-Array.getElem?_toList,q]
    simp [hj',hzs,uV]
   have hc:=j7 g 0 cap zs w hH h2 (by omega)
   rw [hzl] at hc
   refine hc.mono ?_
   rintro e w' ⟨rfl,n,os,rfl⟩
   rw [<-hts]
   have htl:ts.length=l.length:=by rw [hperm.length_eq,hzl]
   have hheap:(Sort.grow (Sort.putRow zg (Sort.ahead w n) g 0 ts.toArray) os).heap[g]? = some (.cells (Sort.putCells zg 0 ts.toArray cur) 24 (0,0)):=by
    rw [Sort.heap_grow_old _ _ (by simpa using h2)]
    simp [Sort.putRow,Sort.mapBlock,Sort.ahead,Array.getElem?_modify,h3,Sort.onCells]
   have htake:(Sort.putCells zg 0 ts.toArray cur).toList.take l.length=(ts.map Int.toNat).map uV:=by
    apply List.ext_getElem?
    intro j
    by_cases hj:j<l.length
    ·rw [List.getElem?_take_of_lt hj,Array.getElem?_toList]
     have hjt:j<ts.length:=by omega
     obtain⟨x,_,hx⟩:=hnat ts[j] (List.getElem_mem hjt)
     simp [Sort.putCells,hjt,show j<cur.size by omega,uV,hx]
    ·rw [List.getElem?_take_eq_none (by omega),List.getElem?_eq_none (by simp;omega)]
   refine⟨rfl,⟨by simp [htl],.inr ⟨g,cap,_,by simp [htl],h1,hheap,by simpa [htl] using h4,h5,by simp [Sort.putCells,h6],?_⟩⟩,⟨rfl,rfl,rfl,by simp,fun j hj hne'=>?_⟩⟩
   ·rw [List.length_map,Nat.mul_one,htl]
    exact htake
   ·rw [Sort.heap_grow_old _ _ (by simpa using hj)]
    have:g≠j:=fun e=>hne' (by rw [<-e];rfl)
    simp [Sort.putRow,Sort.mapBlock,Sort.ahead,Array.getElem?_modify,this]
end Go.Proofs.YtonhfknjcbakiaaGreatDoor
namespace Go.Proofs.YtonhfknjcbakiaaGreatDoor
open Go.RowKit
theorem znN (e:En) (c:Nat) (hl:e.holes.length<=1152921504606846976):Cn Tryz.prog 135 [ep e,.v (.int .u64 c)] (.v (.bool (decide (c<=e.max) && !mem e.holes c))):=by
 refine zt Tryz.func135 2 ?_
 refine pw ?_
 refine .i ?_ ?_<;>intro h1<;>(try simp only [nrm_l] at h1)<;>first | refine pw ?_ | exact pd
 ·refine .c (kU e.holes c hl) ?_
  simp [h1]
 ·have h1':¬ c<=e.max:=by omega
  simp [h1']
theorem Jg {e:En} (h:zO e):ZL e:=⟨h.1.lt,h.2.2.1,h.2.2.2⟩
section
variable (a b:En) (c:Nat) (ha:ZL a) (hb:ZL b) (hc:c<zk)
include ha hb hc
end
def HG (w:World):Prop:=w.cell? ⟨0,0,none⟩=some (.iface 217 (.agg #[.pointer (some ⟨2,44,none⟩)]))
theorem HG.of {D:Nat->Nat->Prop} {w:World} (h:GL D w):HG w:=(h _ rfl).2
theorem HG.pos {w:World} (h:HG w):0<w.heap.size:=World.block_lt_of_cell? w ⟨0,0,none⟩ h
theorem HG.alloc {w:World} (h:HG w) (o:Obj):HG (w.alloc o):=by
 unfold HG
 rw [World.cell?_alloc_lt _ _ ⟨0,0,none⟩ h.pos];exact h
theorem KK {f:FuncId} {ps:List PV} {r:PV} (hr:r.own=none) (hent:∀ args w,(callFunc f args).run Tryz.prog w=.ok (.enter f args) w)
 (h:∀(D:Nat->Nat->Prop) (w:World) (vs:Array Value),HG w->(∀ b o,D b o->b<w.heap.size)->vs.size=ps.length->(∀(i:Nat) p,ps[i]? = some p->Dat D w (vs.getD i undef) p) ->
   Calls Tryz.prog f vs w fun e w'=>∃ v,e=.returned v/\Below w.heap.size w w'/\Dat (fun b o=>D b o\/(w.heap.size<=b/\b<w'.heap.size)) w' v r):Cn Tryz.prog f ps r:=by
 refine⟨hent,fun D w vs hg hD hsz hd=>(h D w vs (.of hg) hD hsz hd).mono ?_⟩
 rintro e w' ⟨v,rfl,hb,hv⟩
 exact⟨v,_,rfl,hb,fun b o h=>.inl h,fun b o h=>h.imp id And.left,fun b o h=>h.elim (fun h=>Nat.lt_of_lt_of_le (hD b o h) hb.size) And.right,hv,zr hr⟩
theorem zjw {vs:Array Value} (h:vs.size=1):vs=#[vs.getD 0 undef]:=by
 obtain⟨l⟩:=vs
 match l,h with
 | [x],_=>rfl
theorem zb4 (c:Int) (w:World) (hg:HG w):Calls Tryz.prog 94 #[.iface 82 (.int .i64 c),.iface 127 (.pointer (some ⟨w.heap.size,0,none⟩))] (w.alloc (.cells #[.int .i64 0] 82))
 fun ev w'=>ev=.returned (.bool true)/\Below w.heap.size w w'/\w'.cell? ⟨w.heap.size,0,none⟩=some (.int .i64 c):=by
 refine(As.as_NN c ⟨w.heap.size,0,none⟩ (.int .i64 0) _ (hg.alloc _) (by simp) (by simp)).mono ?_
 rintro ev w' ⟨rfl,rfl⟩
 refine⟨rfl,?_,?_⟩
 ·refine Below.setCell (((((((Below.refl _ w).alloc ?_ _).alloc ?_ _).alloc ?_ _).alloc ?_ _).alloc ?_ _)) ?_ _<;>simp<;>omega
 ·refine World.cell?_setCell_same _ _ _ (u:=.int .i64 0) ?_
  rw [World.cell?_alloc_lt _ _ ⟨w.heap.size,0,none⟩ (by simp;omega),World.cell?_alloc_lt _ _ ⟨w.heap.size,0,none⟩ (by simp;omega),World.cell?_alloc_lt _ _ ⟨w.heap.size,0,none⟩ (by simp;omega),World.cell?_alloc_lt _ _ ⟨w.heap.size,0,none⟩ (by simp)]
  simp
theorem zb3 (c k:Int) (w:World) (hg:HG w):Calls Tryz.prog 94 #[.iface 120 (.agg #[.int .i64 c,.int .i64 k]),.iface 127 (.pointer (some ⟨w.heap.size,0,none⟩))] (w.alloc (.cells #[.int .i64 0] 82))
 fun ev w'=>ev=.returned (.bool true)/\Below w.heap.size w w'/\w'.cell? ⟨w.heap.size,0,none⟩=some (.int .i64 c):=by
 refine(As.as_FN c k ⟨w.heap.size,0,none⟩ (.int .i64 0) _ (hg.alloc _) (by simp) (by simp)).mono ?_
 rintro ev w' ⟨rfl,rfl⟩
 refine⟨rfl,?_,?_⟩
 ·refine Below.setCell ((((((((Below.refl _ w).alloc ?_ _).alloc ?_ _).alloc ?_ _).alloc ?_ _).alloc ?_ _).alloc ?_ _)) ?_ _<;>simp<;>omega
 ·refine World.cell?_setCell_same _ _ _ (u:=.int .i64 0) ?_
  rw [World.cell?_alloc_lt _ _ ⟨w.heap.size,0,none⟩ (by simp;omega),World.cell?_alloc_lt _ _ ⟨w.heap.size,0,none⟩ (by simp;omega),World.cell?_alloc_lt _ _ ⟨w.heap.size,0,none⟩ (by simp;omega),World.cell?_alloc_lt _ _ ⟨w.heap.size,0,none⟩ (by simp;omega),World.cell?_alloc_lt _ _ ⟨w.heap.size,0,none⟩ (by simp)]
  simp
theorem zcs (w:World):Calls Tryz.prog 51 #[.nilIface] w fun e w'=>e=.returned (.int .i64 0)/\Below w.heap.size w w':=by
 go_enter Tryz.func51,Tryz.ntmps51
 go_wp2
 go_ret
 exact⟨rfl,(Below.refl _ w).alloc (Nat.le_refl _) _⟩
theorem zhu (c:Int) (w:World) (hg:HG w):Calls Tryz.prog 51 #[.iface 82 (.int .i64 c)] w fun e w'=>e=.returned (.int .i64 c)/\Below w.heap.size w w':=by
 go_enter Tryz.func51,Tryz.ntmps51
 go_wp2_with (go_at_call 94;refine(zb4 c w hg).mono ?_;rintro e w1 ⟨rfl,hb,hc⟩)
 go_ret
 exact⟨rfl,hb⟩
theorem zht (c k:Int) (w:World) (hg:HG w):Calls Tryz.prog 51 #[.iface 120 (.agg #[.int .i64 c,.int .i64 k])] w fun e w'=>e=.returned (.int .i64 c)/\Below w.heap.size w w':=by
 go_enter Tryz.func51,Tryz.ntmps51
 go_wp2_with (go_at_call 94;refine(zb3 c k w hg).mono ?_;rintro e w1 ⟨rfl,hb,hc⟩)
 go_ret
 exact⟨rfl,hb⟩
def z2:Obj:=.cells #[.int .i64 0,.int .i64 0] 120
theorem zaW {D:Nat->Nat->Prop} {w:World} {v:Value} {c:Int} {t:TypeId} (h:Dat D w v (.ifc t (.v (.int .i64 c)))):v=.iface t (.int .i64 c):=by
 cases h with
 | ifc t x p h=>rw [h.v_inv]
theorem zaX {D:Nat->Nat->Prop} {w:World} {v:Value} {c k:Int} {t:TypeId} (h:Dat D w v (.ifc t (.agg [.v (.int .i64 c),.v (.int .i64 k)]))):v=.iface t (.agg #[.int .i64 c,.int .i64 k]):=by
 cases h with
 | ifc t x p h=>
   generalize hc:[PV.v (.int .i64 c),PV.v (.int .i64 k)]=cs at h
   cases h with
   | agg us cs hs _ h=>
     subst hc
     obtain⟨l⟩:=us
     match l,hs with
     | [x,y],_=>
       have e0:=(h 0 _ rfl).v_inv
       have e1:=(h 1 _ rfl).v_inv
       simp at e0 e1
       rw [e0,e1]
theorem KL (c:Nat):Cn Tryz.prog 51 [Z2 c] (.v (.int .i64 c)):=by
 refine KK rfl (enters_of Tryz.func51 (by kernel_rfl) rfl) fun D w vs hg hD hsz hd=>?_
 rw [zjw hsz,zaW (hd 0 _ rfl)]
 refine(zhu c w hg).mono ?_
 rintro e w' ⟨rfl,hb⟩
 exact⟨_,rfl,hb,.v _⟩
theorem Ju (c:Nat) (k:Int):Cn Tryz.prog 51 [jS c k] (.v (.int .i64 c)):=by
 refine KK rfl (enters_of Tryz.func51 (by kernel_rfl) rfl) fun D w vs hg hD hsz hd=>?_
 have h0:=hd 0 _ rfl
 unfold jS at h0
 rw [zjw hsz]
 by_cases hc:c=0
 ·rw [if_pos hc] at h0
  subst hc
  rw [h0.v_inv]
  refine(zcs w).mono ?_
  rintro e w' ⟨rfl,hb⟩
  exact⟨_,rfl,hb,.v _⟩
 ·rw [if_neg hc] at h0
  rw [zaX h0]
  refine(zht c k w hg).mono ?_
  rintro e w' ⟨rfl,hb⟩
  exact⟨_,rfl,hb,.v _⟩
theorem zcd (e:En) (h:zO e) (hl:e.holes.length<=10000):Cn Tryz.prog 178 [ep e] (.tup [ep (kP e).1,.v (.bool (kP e).2)]):=by
 have h1:=kW e
 refine zt Tryz.func178 1 ?_
 refine pw ?_
 refine .c (Vl e h (by omega)) ?_
 refine .c (zg1 e.rep (kn e) (qT h) (by omega)) ?_
 rfl
def JF (v:List En):Bool:=v.all (fun e=>decide (e.holes.length<=30)) && decide (v.length<=20)
theorem vw {v:List En}:JF v=true ↔ (∀ e ∈ v,e.holes.length<=30)/\v.length<=20:=by simp [JF]
def prv (v:List En) (k:Nat):Nat:=match v[k - 1]? with
 | some p=>p.rep
 | none=>0
theorem Xl {v:List En} {k:Nat} (h:k - 1<v.length):prv v k=v[k - 1].rep:=by simp [prv,List.getElem?_eq_getElem h]
def hkV (v:List En):Nat->List En->Nat × Int
 | _,[]=>(0,-1)
 | k,e::r=>if (yV e).1≠0 then ((yV e).1,(k:Int)) else if 0<k/\e.rep<=prv v k then (3,(k:Int)) else hkV v (k+1) r
def jx (v:List En):Nat × Int:=hkV v 0 v
theorem Ve (v:List En):∀(k:Nat) (r:List En),r=v.drop k->((hkV v k r).1=0 ↔ (∀ e ∈ r,(yV e).1=0)/\∀ j (h:j<v.length),k<=j->0<j->v[j - 1].rep<v[j].rep)
 | k,[],h=>by
   have hl:=congrArg List.length h
   simp at hl
   simp only [hkV,List.not_mem_nil,false_implies,implies_true,true_and,true_iff]
   intro j hj hk
   omega
 | k,e::r,h=>by
   have hl:=congrArg List.length h
   simp at hl
   have hk:k<v.length:=by omega
   rw [List.drop_eq_getElem_cons hk,List.cons.injEq] at h
   obtain⟨he,hr⟩:=h
   have ih:=Ve v (k+1) r hr
   unfold hkV
   by_cases h1:(yV e).1≠0
   ·rw [if_pos h1]
    constructor
    ·intro h;exact absurd h h1
    ·rintro⟨h2,_⟩;exact absurd (h2 e (by simp)) h1
   ·rw [if_neg h1]
    have h1':(yV e).1=0:=by omega
    by_cases h2:0<k/\e.rep<=prv v k
    ·rw [if_pos h2]
     constructor
     ·intro h;cases h
     ·rintro⟨_,h3⟩
      have:=h3 k hk (Nat.le_refl _) h2.1
      have h22:=h2.2
      have h23:=congrArg En.rep he
      rw [Xl (by omega)] at h22
      omega
    ·rw [if_neg h2,ih]
     constructor
     ·rintro⟨h3,h4⟩
      refine⟨fun f hf=>?_,fun j hj hkj hj0=>?_⟩
      ·rcases List.mem_cons.1 hf with rfl | hf
       ·exact h1'
       ·exact h3 f hf
      ·rcases Nat.eq_or_lt_of_le hkj with rfl | hlt
       ·rw [Xl (by omega),he] at h2
        omega
       ·exact h4 j hj (by omega) hj0
     ·rintro⟨h3,h4⟩
      exact⟨fun f hf=>h3 f (by simp [hf]),fun j hj hkj hj0=>h4 j hj (by omega) hj0⟩
theorem zb0 {v:List En} (h:∀ j (h:j<v.length),0<j->v[j - 1].rep<v[j].rep):v.Pairwise fun a b=>a.rep<b.rep:=by
 rw [List.pairwise_iff_getElem]
 intro i j hi hj hij
 induction j with
 | zero=>omega
 | succ j ih=>
   have h1:=h (j+1) hj (by omega)
   simp only [Nat.add_sub_cancel] at h1
   rcases Nat.eq_or_lt_of_le (Nat.le_of_lt_succ hij) with rfl | h2
   ·exact h1
   ·have:=ih (by omega) h2
    omega
theorem XP {v:List En} (hb:∀ e ∈ v,ZL e):(jx v).1=0 ↔ RightV v:=by
 unfold jx
 rw [Ve v 0 v rfl]
 have hE:∀ e ∈ v,(yV e).1=0 ↔ zO e:=fun e he=>by
  have:=VU (hb e he).1 (hb e he).2.1 (hb e he).2.2
  unfold Xu at this
  simpa using this
 constructor
 ·rintro⟨h1,h2⟩
  exact⟨fun e he=>(hE e he).1 (h1 e he),zb0 fun j hj h0=>h2 j hj (Nat.zero_le _) h0⟩
 ·rintro⟨h1,h2⟩
  refine⟨fun e he=>(hE e he).2 (h1 e he),fun j hj _ h0=>?_⟩
  exact List.pairwise_iff_getElem.1 h2 (j - 1) j (by omega) hj (by omega)
def fdV (r:Nat):Nat->List En->Int
 | _,[] => -1
 | k,e::t=>if e.rep=r then (k:Int) else fdV r (k+1) t
theorem X2 (r:Nat):∀(l:List En) (k:Nat),(fdV r k l=-1/\∀ e ∈ l,e.rep≠r)\/∃(i:Nat) (h:i<l.length),fdV r k l=((k+i:Nat):Int)/\l[i].rep=r
 | [],k=>.inl ⟨rfl,fun _ h=>by cases h⟩
 | e::t,k=>by
   unfold fdV
   by_cases h:e.rep=r
   ·rw [if_pos h]
    exact .inr ⟨0,by simp,by simp,h⟩
   ·rw [if_neg h]
    rcases X2 r t (k+1) with⟨h1,h2⟩ | ⟨i,hi,h1,h2⟩
    ·refine .inl ⟨h1,fun f hf=>?_⟩
     rcases List.mem_cons.1 hf with rfl | hf
     ·exact h
     ·exact h2 f hf
    ·exact .inr ⟨i+1,by simpa using hi,by rw [h1];omega,by simpa using h2⟩
theorem zh8 {v:List En} (hr:RightV v) {r i:Nat} (hi:i<v.length) (h:v[i].rep=r):zT v r=kn v[i]:=by
 rw [<-h];exact kq hr.2 (List.getElem_mem hi)
def zZ:List Nat->List Nat->Int
 | [],[]=>0
 | [],_::_ => -1
 | _::_,[]=>1
 | a::x,b::y=>if a<b then -1 else if b<a then 1 else zZ x y
theorem ZV:∀ a b,zZ b a=- zZ a b
 | [],[]=>rfl
 | [],_::_=>rfl
 | _::_,[]=>rfl
 | a::x,b::y=>by
   unfold zZ
   split
   ·rw [if_neg (by omega)];try rfl
   ·split
    ·rfl
    ·exact ZV x y
theorem jc:∀ a b,zZ a b=0 ↔ a=b
 | [],[]=>by simp [zZ]
 | [],_::_=>by simp [zZ]
 | _::_,[]=>by simp [zZ]
 | a::x,b::y=>by
   unfold zZ
   rw [List.cons.injEq]
   split
   ·constructor
    ·intro h;cases h
    ·rintro⟨h,_⟩;omega
   ·split
    ·constructor
     ·intro h;cases h
     ·rintro⟨h,_⟩;omega
    ·rw [jc x y]
     constructor
     ·intro h;exact⟨by omega,h⟩
     ·exact And.right
theorem ZW:∀ a b c,zZ a b<=0->zZ b c<=0->zZ a c<=0
 | [],_,[],_,_=>by simp [zZ]
 | [],_,_::_,_,_=>by simp [zZ]
 | _::_,[],_,h,_=>by simp [zZ] at h
 | _::_,_::_,[],_,h=>by simp [zZ] at h
 | a::x,b::y,c::z,h1,h2=>by
   unfold zZ at h1 h2 ⊢
   split
   ·omega
   ·split at h1
    ·split at h2
     ·omega
     ·split at h2
      ·omega
      ·omega
    ·split at h1
     ·omega
     ·split at h2
      ·omega
      ·split at h2
       ·omega
       ·rw [if_neg (by omega)]
        exact ZW x y z h1 h2
end Go.Proofs.YtonhfknjcbakiaaGreatDoor
namespace Go.Proofs.YtonhfknjcbakiaaGreatDoor
theorem Ji:∀(r xs:List Nat),YN r->(∀ y ∈ r,y ∈ xs)->r.length<=xs.length:=by
 intro r
 induction r with
 | nil=>intro xs _ _;exact Nat.zero_le _
 | cons x r ih=>
   intro xs h hm
   have h':=List.pairwise_cons.1 h
   have:=ih (xs.erase x) h'.2 fun y hy=>by
    have h3:=h'.1 y hy
    exact(List.mem_erase_of_ne (by omega)).2 (hm y (by simp [hy]))
   have hx:x ∈ xs:=hm x (by simp)
   rw [List.length_erase_of_mem hx] at this
   have:=List.length_pos_of_mem hx
   simp;omega
def Ed (l:List Iv) (x:Nat):Prop:=x<zk/\mem l x≠(if x=0 then false else mem l (x - 1))
theorem NF.lo_prev:∀ {l:List Iv} {n:Nat},NF n l->∀ s ∈ l,s.lo≠0->mem l (s.lo - 1)=false
 | [],_,_,s,hs,_=>by cases hs
 | t::l,n,h,s,hs,h0=>by
   obtain⟨h1,h2,h3,h4⟩:=h
   rcases List.mem_cons.1 hs with rfl | hs
   ·rw [zz,h4.mem_lt (by omega),decide_eq_false (show ¬ s.lo<=s.lo - 1 by omega)]
    rfl
   ·have:=h4.lo_ge s hs
    rw [zz,NF.lo_prev h4 s hs h0,decide_eq_false (show ¬ s.lo - 1<=t.hi by omega)]
    simp
theorem NF.asc:∀ {l:List Iv} {n:Nat},NF n l->YN (l.map Iv.lo)
 | [],_,_=>List.Pairwise.nil
 | t::l,n,h=>by
   refine List.pairwise_cons.2 ⟨fun y hy=>?_,NF.asc h.2.2.2⟩
   obtain⟨s,hs,rfl⟩:=List.mem_map.1 hy
   have:=h.2.2.2.lo_ge s hs
   have:=h.2.1
   omega
theorem zjS {l:List Iv} (h:Nrm l) {s:Iv} (hs:s ∈ l):Ed l s.lo:=by
 have h1:=NF.lo_ge h s hs
 have h2:mem l s.lo=true:=qf.2 ⟨s,hs,Nat.le_refl _,h1.2.1⟩
 refine⟨by omega,?_⟩
 rw [h2]
 split
 ·simp
 ·rename_i h0
  rw [NF.lo_prev h s hs h0]
  simp
theorem zcK {l:List Iv} {C:List Nat} (h:Nrm l) (hC:∀ x,Ed l x->x ∈ C):l.length<=C.length:=by
 have:=Ji (l.map Iv.lo) C (NF.asc h) fun y hy=>by
  obtain⟨s,hs,rfl⟩:=List.mem_map.1 hy
  exact hC _ (zjS h hs)
 simpa using this
theorem Y3 {l:List Iv} (h:∀ s ∈ l,s.lo<=s.hi/\s.hi<zk) {x:Nat} (hx:Ed l x):x ∈ z6 l:=by
 refine Classical.byContradiction fun hn=>hx.2 ?_
 split
 ·rename_i h0
  subst h0
  cases hm:mem l 0 with
  | false=>rfl
  | true=>
    obtain⟨s,hs,h1,h2⟩:=qf.1 hm
    exact absurd (show 0 ∈ z6 l from List.mem_flatMap.2 ⟨s,hs,List.mem_cons.2 (.inl (by omega))⟩) hn
 ·exact Qh h (x:=x - 1) (y:=x) (by omega) hx.1 fun c hc=>by
   have:c≠x:=fun e=>hn (e ▸ hc)
   omega
theorem Nrm.ivs2 {l:List Iv} (h:Nrm l):∀ s ∈ l,s.lo<=s.hi/\s.hi<zk:=fun s hs=>(NF.lo_ge h s hs).2
theorem zcM {f:Bool->Bool->Bool} (hf:f false false=false) {a b:List Iv} (ha:Nrm a) (hb:Nrm b) {x:Nat} (h:Ed (qy f a b) x):Ed a x\/Ed b x:=by
 obtain⟨hx,hne⟩:=h
 by_cases h1:mem a x=(if x=0 then false else mem a (x - 1))
 ·by_cases h2:mem b x=(if x=0 then false else mem b (x - 1))
  ·refine absurd ?_ hne
   rw [qj ha hb hx,h1,h2]
   split
   ·exact hf
   ·rw [qj ha hb (by omega)]
  ·exact .inr ⟨hx,h2⟩
 ·exact .inl ⟨hx,h1⟩
theorem zcL {x:Nat}:¬ Ed [] x:=fun h=>h.2 (by simp)
theorem zhC {m n x:Nat} (h:Ed [⟨m,n⟩] x):x=m\/x=n+1:=by
 obtain⟨_,h⟩:=h
 rw [jl,jl] at h
 by_cases e1:x=m
 ·exact .inl e1
 ·by_cases e2:x=n+1
  ·exact .inr e2
  ·refine absurd ?_ h
   split
   ·rename_i h0
    rw [decide_eq_false (show ¬ m<=x by omega)]
    rfl
   ·rw [Bool.eq_iff_iff]
    simp only [Bool.and_eq_true,decide_eq_true_eq]
    omega
def EdV (C:Nat->List Nat) (v:List En):Prop:=∀ r x,Ed (zT v r) x->x ∈ C r
structure IV (C:Nat->List Nat) (R:List Nat) (v:List En):Prop where
 right:RightV v
 ed:EdV C v
 rep:∀ e ∈ v,e.rep ∈ R
structure WV (C:Nat->List Nat) (R:List Nat) (v:List En):Prop where
 can:CanV v
 ed:EdV C v
 rep:∀ e ∈ v,e.rep ∈ R
variable {C C':Nat->List Nat} {R R':List Nat} {v a b:List En}
theorem WV.iv (h:WV C R v):IV C R v:=⟨h.can.right,h.ed,h.rep⟩
theorem WV.nil:WV C R []:=⟨⟨fun e h=>(by cases h),List.Pairwise.nil⟩,fun r x h=>absurd h (by rw [kr];exact zcL),fun e h=>(by cases h)⟩
theorem IV.mono (h:IV C R v) (hC:∀ r x,x ∈ C r->x ∈ C' r) (hR:∀ x ∈ R,x ∈ R'):IV C' R' v:=⟨h.right,fun r x hx=>hC _ _ (h.ed r x hx),fun e he=>hR _ (h.rep e he)⟩
theorem WV.mono (h:WV C R v) (hC:∀ r x,x ∈ C r->x ∈ C' r) (hR:∀ x ∈ R,x ∈ R'):WV C' R' v:=⟨h.can,fun r x hx=>hC _ _ (h.ed r x hx),fun e he=>hR _ (h.rep e he)⟩
theorem IV.lat {f:Bool->Bool->Bool} (hf:f false false=false) (ha:IV C R a) (hb:IV C R b):WV C R (ks f a b):=by
 refine⟨Xe f ha.right hb.right,fun r x hx=>?_,fun e he=>?_⟩
 ·rw [JR hf ha.right hb.right] at hx
  rcases zcM hf (qi ha.right r) (qi hb.right r) hx with h | h
  ·exact ha.ed r x h
  ·exact hb.ed r x h
 ·have:=qr.1 (zdd e he)
  rcases List.mem_append.1 this with h | h
  ·obtain⟨e',he',h⟩:=List.mem_map.1 h
   rw [<-h];exact ha.rep e' he'
  ·obtain⟨e',he',h⟩:=List.mem_map.1 h
   rw [<-h];exact hb.rep e' he'
theorem IV.canVec (h:IV C R v):WV C R (zi v):=by
 refine⟨jN h.right,fun r x hx=>h.ed r x (by rwa [ja h.right] at hx),fun e he=>?_⟩
 obtain⟨e',he',h1⟩:=List.mem_filterMap.1 he
 rw [(v9 h1).2.2]
 exact h.rep e' he'
theorem QY {e:En} (h:YP e) {L:List Nat} (hL:∀ x,Ed (kn e) x->x ∈ L):e.holes.length<=L.length+2:=by
 have h1:=ZM h
 have h2:=(jO h).1
 have hn:=qT h.1
 rw [qD h2] at h1
 have h3:e.holes=qy zm [⟨0,QV (kn e)⟩] (kn e):=by
  have:=congrArg (fun p=>p.1.holes) h1
  exact this.symm
 have ht:=(x9 hn h2).2
 have h0:=qG (Nat.zero_le (QV (kn e))) ht
 rw [h3]
 have:=zcK (C:=0::(QV (kn e)+1)::L) (qH (f:=zm) h0 hn) fun x hx=>by
  rcases zcM fM0 h0 hn hx with h | h
  ·rcases zhC h with h | h<;>simp [h]
  ·simp [hL x h]
 simpa using this
theorem zb5 (h:v.Pairwise fun a b=>a.rep<b.rep):YN (zM v):=by
 unfold YN zM
 rw [List.pairwise_map]
 exact h
theorem WV.bv (h:WV C R v) {n m:Nat} (hC:∀ r,(C r).length<=n) (hR:R.length<=m):BV m (n+2) v:=by
 refine⟨h.can.right,?_,fun e he=>?_⟩
 ·have:=Ji (zM v) R (zb5 h.can.2) fun y hy=>by
   obtain⟨e,he,rfl⟩:=List.mem_map.1 hy
   exact h.rep e he
  simp only [zM,List.length_map] at this
  omega
 ·have:=QY (h.can.1 e he) (L:=C e.rep) fun x hx=>h.ed e.rep x (by rw [kq h.can.2 he];exact hx)
  have:=hC e.rep
  omega
theorem IV.of (h:RightV v):IV (fun r=>z6 (zT v r)) (zM v) v:=⟨h,fun r x hx=>Y3 (qi h r).ivs2 hx,fun e he=>List.mem_map.2 ⟨e,he,rfl⟩⟩
end Go.Proofs.YtonhfknjcbakiaaGreatDoor
namespace Go.Proofs.YtonhfknjcbakiaaGreatDoor
open Go.RowKit
theorem Yn:∀ {a b:List Iv},a.flatMap (fun s=>[s.lo,s.hi])=b.flatMap (fun s=>[s.lo,s.hi])->a=b
 | [],[],_=>rfl
 | [],_::_,h=>by simp at h
 | _::_,[],h=>by simp at h
 | s::a,t::b,h=>by
   simp only [List.flatMap_cons,List.cons_append,List.nil_append,List.cons.injEq] at h
   rw [Iv.ext' h.1 h.2.1,Yn h.2.2]
theorem xx (a:List Iv):(a.flatMap (fun s=>[s.lo,s.hi])).length=2 * a.length:=by
 induction a with
 | nil=>rfl
 | cons s a ih=>simp only [List.flatMap_cons,List.length_append,List.length_cons,List.length_nil,ih];omega
theorem YA:∀ {a b:List En} ,a.length=b.length->a.flatMap zC=b.flatMap zC->a=b
 | [],[],_,_=>rfl
 | [],_::_,h,_=>by simp at h
 | _::_,[],h,_=>by simp at h
 | e::a,f::b,hl,h=>by
   simp only [List.flatMap_cons,zC,List.cons_append,List.cons.injEq] at h
   obtain⟨h1,h2,h3,h4⟩:=h
   have h5:=List.append_inj h4 (by rw [xx,xx,h3])
   rw [En.ext' h1 h2 (Yn h5.1),YA (by simpa using hl) h5.2]
theorem Vv {a b:List En} (h:zv a=zv b):a=b:=by
 unfold zv at h
 simp only [List.cons.injEq] at h
 exact YA h.1 h.2
def ZJ (v:List En) (i:Nat):List Nat:=v.length::(v.take i).flatMap zC
def Q7 (v:List En) (i:Nat) (h:i<v.length) (j:Nat):List Nat:=ZJ v i++[v[i].rep,v[i].max,v[i].holes.length]++(v[i].holes.take j).flatMap fun s=>[s.lo,s.hi]
theorem ziE (v:List En):ZJ v 0=[v.length]:=by simp [ZJ]
theorem VF {v:List En} {i:Nat} (h:¬ i<v.length):ZJ v i=zv v:=by unfold ZJ zv;rw [List.take_of_length_le (by omega)]
theorem ziD {v:List En} {i:Nat} (h:i<v.length):Q7 v i h 0=ZJ v i++[v[i].rep,v[i].max,v[i].holes.length]:=by simp [Q7]
theorem zbu {v:List En} {i:Nat} (h:i<v.length) {j:Nat} (hj:j<v[i].holes.length):Q7 v i h (j+1)=Q7 v i h j++[v[i].holes[j].lo,v[i].holes[j].hi]:=by
 unfold Q7
 rw [List.take_succ_eq_append_getElem hj,List.flatMap_append]
 simp
theorem zdH {v:List En} {i:Nat} (h:i<v.length) {j:Nat} (hj:¬ j<v[i].holes.length):Q7 v i h j=ZJ v (i+1):=by
 unfold Q7 ZJ
 rw [List.take_of_length_le (l:=v[i].holes) (i:=j) (by omega),List.take_succ_eq_append_getElem h,List.flatMap_append]
 simp [zC]
theorem vQ {v:List En} (h:∀ e ∈ v,e.holes.length<=1048576):∀ i,i<=v.length->(ZJ v i).length<=1+2097155 * i
 | 0,_=>by simp [ZJ]
 | i+1,hi=>by
   have ih:=vQ h i (by omega)
   have hl:=h _ (List.getElem_mem (show i<v.length by omega))
   unfold ZJ at ih ⊢
   rw [List.take_succ_eq_append_getElem (show i<v.length by omega),List.flatMap_append]
   simp only [List.length_cons,List.length_append,List.flatMap_cons,List.flatMap_nil,List.append_nil,zC,xx] at ih ⊢
   omega
theorem zdI {v:List En} (hb:∀ e ∈ v,e.holes.length<=1048576) {i:Nat} (h:i<v.length) {j:Nat} (hj:j<=v[i].holes.length):(Q7 v i h j).length<=4+2097155 * i+2 * j:=by
 have:=vQ hb i (by omega)
 unfold Q7
 simp only [List.length_append,List.length_cons,List.length_nil,xx,List.length_take]
 omega
theorem zj5 (v:List En) (hl:v.length<=9223372036854775807):Cn Tryz.prog 53 [vp v] (.v (.bool (JF v))):=by
 refine zt Tryz.func53 1 ?_
 refine pw ?_
 refine pLoop.go (fun k=>k<=v.length/\JF v=((v.drop k).all (fun e=>decide (e.holes.length<=30)) && decide (v.length<=20))) (fun k=>[(3,.v (.int .i64 (k:Nat)))]) (fun _=>[]) (fun k=>v.length - k) 0 [3] ?_ ?_ ?_
 ·exact⟨Nat.zero_le _,rfl⟩
 ·exact pd
 ·rintro k ⟨hk,hm⟩
  refine pw ?_
  refine .i ?_ ?_<;>intro h<;>(try simp only [nrm_l] at h)<;>first | refine pw ?_ | exact pd
  ·rw [List.drop_eq_getElem_cons h,List.all_cons] at hm
   refine pw ?_
   refine .i ?_ ?_<;>intro h2<;>(try simp only [nrm_l] at h2)<;>first | refine pw ?_ | exact pd
   ·rw [hm,decide_eq_false (by omega)]
    rfl
   ·rw [decide_eq_true (by omega),Bool.true_and] at hm
    exact⟨k+1,⟨h,hm⟩,by omega,rfl⟩
  ·rw [hm,List.drop_of_length_le (by omega)]
   simp
   omega
theorem zdn (x:Nat):Cn Tryz.prog 170 [.v (.int .u64 x)] (.v (.bool false)):=by
 refine zt Tryz.func170 1 ?_
 exact pd
theorem zdm (x:Int):Cn Tryz.prog 228 [.v (.int .i64 x)] (.v (.bool false)):=by
 refine zt Tryz.func228 1 ?_
 exact pd
theorem XQ (x y:Nat):Cn Tryz.prog 129 [.v (.int .u64 x),.v (.int .u64 y)] (.v (.int .i64 (if x<y then -1 else if y<x then 1 else 0))):=by
 refine zt Tryz.func129 2 ?_
 refine pw ?_
 refine .c (zdn x) ?_
 refine .c (zdn y) ?_
 refine .i ?_ ?_<;>intro h1<;>(try simp only [nrm_l] at h1)<;>first | refine pw ?_ | exact pd
 ·rw [if_pos h1]
 ·rw [if_neg (by omega)]
  refine .i ?_ ?_<;>intro h2<;>(try simp only [nrm_l] at h2)<;>first | refine pw ?_ | exact pd
  ·rw [if_pos h2]
  ·rw [if_neg (by omega)]
theorem zhq (x y:Nat):Cn Tryz.prog 213 [.v (.int .i64 x),.v (.int .i64 y)] (.v (.int .i64 (if x<y then -1 else if y<x then 1 else 0))):=by
 refine zt Tryz.func213 2 ?_
 refine pw ?_
 refine .c (zdm x) ?_
 refine .c (zdm y) ?_
 refine .i ?_ ?_<;>intro h1<;>(try simp only [nrm_l] at h1)<;>first | refine pw ?_ | exact pd
 ·rw [if_pos h1]
 ·rw [if_neg (by omega)]
  refine .i ?_ ?_<;>intro h2<;>(try simp only [nrm_l] at h2)<;>first | refine pw ?_ | exact pd
  ·rw [if_pos h2]
  ·rw [if_neg (by omega)]
theorem zkx (r:Nat) (e:En):Cn Tryz.prog 157 [.v (.int .u64 r),ep e] (.v (.int .i64 (if e.rep<r then -1 else if r<e.rep then 1 else 0))):=by
 refine zt Tryz.func157 2 ?_
 refine pw ?_
 exact .d (XQ e.rep r)
theorem zfV (a b:List Nat) (ha:a.length<=1152921504606846976) (hb:b.length<=1152921504606846976):Cn Tryz.prog 199 [ns a,ns b] (.v (.int .i64 (zZ a b))):=by
 refine zt Tryz.func199 2 ?_
 refine pw ?_
 obtain⟨m,e1,h1,h2,h3⟩:∃ m:Nat,(if b.length<a.length then (b.length:Int) else (a.length:Int))=(m:Int)/\m<=a.length/\m<=b.length/\(m=a.length\/m=b.length):=by
  by_cases h:b.length<a.length
  ·exact⟨b.length,if_pos h,by omega,by omega,.inr rfl⟩
  ·exact⟨a.length,if_neg h,by omega,by omega,.inl rfl⟩
 rw [e1]
 refine pLoop.go (fun k=>k<=m/\zZ a b=zZ (a.drop k) (b.drop k)) (fun k=>[(11,.v (.int .i64 (k:Nat)))]) (fun _=>[]) (fun k=>m - k) 0 [11] ?_ ?_ ?_
 ·exact⟨Nat.zero_le _,rfl⟩
 ·exact pd
 ·rintro k ⟨hk,hm⟩
  refine pw ?_
  refine .i ?_ ?_<;>intro h<;>(try simp only [nrm_l] at h)<;>first | refine pw ?_ | exact pd
  ·have ha':k<a.length:=by omega
   have hb':k<b.length:=by omega
   rw [List.drop_eq_getElem_cons ha',List.drop_eq_getElem_cons hb',zZ] at hm
   refine pw ?_
   refine .i ?_ ?_<;>intro h4<;>(try simp only [nrm_l] at h4)<;>first | refine pw ?_ | exact pd
   ·refine .c (XQ a[k] b[k]) ?_
    rw [hm]
    by_cases h5:a[k]<b[k]
    ·rw [if_pos h5,if_pos h5]
    ·rw [if_neg h5,if_neg h5,if_pos (by omega),if_pos (by omega)]
   ·rw [if_neg (by omega),if_neg (by omega)] at hm
    exact⟨k+1,⟨h,hm⟩,by omega,rfl⟩
  ·refine .c (zhq a.length b.length) ?_
   have hx:a.drop k=[]\/b.drop k=[]:=by
    rcases h3 with h3 | h3
    ·exact .inl (List.drop_of_length_le (by omega))
    ·exact .inr (List.drop_of_length_le (by omega))
   have la:(a.drop k).length=a.length - k:=List.length_drop
   have lb:(b.drop k).length=b.length - k:=List.length_drop
   rw [hm]
   generalize a.drop k=x at *
   generalize b.drop k=y at *
   rcases hx with rfl | rfl
   ·cases y with
    | nil=>simp at la lb;rw [if_neg (by omega),if_neg (by omega)];rfl
    | cons c y=>simp at la lb;rw [if_pos (by omega)];rfl
   ·cases x with
    | nil=>simp at la lb;rw [if_neg (by omega),if_neg (by omega)];rfl
    | cons c y=>simp at la lb;rw [if_neg (by omega),if_pos (by omega)];rfl
theorem Ks (a b:List En) (ha:∀ e ∈ a,ZL e) (hb:∀ e ∈ b,ZL e) (la:(zv a).length<=1073741824) (lb:(zv b).length<=1073741824):Cn Tryz.prog 165 [vp a,vp b] (.v (.int .i64 (zZ (zv a) (zv b)))):=by
 refine zt Tryz.func165 2 ?_
 refine pw ?_
 refine .c (Yz a ha la) ?_
 refine .c (Yz b hb lb) ?_
 exact .d (zfV (zv a) (zv b) (by omega) (by omega))
theorem zbB (v:List En) (r:Nat) (hl:v.length<=1152921504606846976):Cn Tryz.prog 134 [vp v,.v (.int .u64 r)] (.v (.int .i64 (fdV r 0 v))):=by
 refine zt Tryz.func134 2 ?_
 refine pw ?_
 refine pLoop.go (fun k=>k<=v.length/\fdV r 0 v=fdV r k (v.drop k)) (fun k=>[(5,.v (.int .i64 (k:Nat)))]) (fun _=>[]) (fun k=>v.length - k) 0 [5] ?_ ?_ ?_
 ·exact⟨Nat.zero_le _,rfl⟩
 ·exact pd
 ·rintro k ⟨hk,hm⟩
  refine pw ?_
  refine .i ?_ ?_<;>intro h<;>(try simp only [nrm_l] at h)<;>first | refine pw ?_ | exact pd
  ·rw [List.drop_eq_getElem_cons h,fdV] at hm
   refine pw ?_
   refine .i ?_ ?_<;>intro h2<;>(try simp only [nrm_l] at h2)<;>first | refine pw ?_ | exact pd
   ·rw [hm,if_pos h2]
   ·rw [if_neg h2] at hm
    exact⟨k+1,⟨h,hm⟩,by omega,rfl⟩
  ·rw [hm,List.drop_of_length_le (by omega)]
   rfl
def kfn:PV:=.cp [.fn (.func 157) [] []] 0
attribute [go_sem] kfn
theorem zl8 (v:List En) (r c:Nat) (hr:RightV v) (hc:c<zk) (hl:v.length<=1152921504606846976) (hh:∀ e ∈ v,e.holes.length<=1152921504606846976):Cn Tryz.prog 90 [vp v,.v (.int .u64 r),.v (.int .u64 c)] (.v (.bool (mem (zT v r) c))):=by
 refine zt Tryz.func90 3 ?_
 refine pw ?_
 refine .rd (zbB v r hl) rfl ?_
 rcases X2 r v 0 with⟨e1,e2⟩ | ⟨i,hi,e1,e2⟩
 ·rw [e1,qC e2]
  refine pw ?_
  rfl
 ·rw [e1,zh8 hr hi e2,vC (hr.1 _ (List.getElem_mem hi)) hc,Nat.zero_add]
  refine pw ?_
  exact .d (znN v[i] c (hh _ (List.getElem_mem hi)))
theorem Kb (v:List En) (hb:∀ e ∈ v,ZL e) (hl:v.length<=9223372036854775807) (hh:∀ e ∈ v,e.holes.length<=9223372036854775807):Cn Tryz.prog 92 [vp v] (.tup [.v (.int .i64 (jx v).1),.v (.int .i64 (jx v).2)]):=by
 refine zt Tryz.func92 1 ?_
 refine pw ?_
 refine pLoop.go (fun k=>k<=v.length/\jx v=hkV v k (v.drop k)) (fun k=>[(4,.v (.int .i64 (k:Nat)))]) (fun _=>[]) (fun k=>v.length - k) 0 [4] ?_ ?_ ?_
 ·exact⟨Nat.zero_le _,rfl⟩
 ·exact pd
 ·rintro k ⟨hk,hm⟩
  refine pw ?_
  refine .i ?_ ?_<;>intro h<;>(try simp only [nrm_l] at h)<;>first | refine pw ?_ | exact pd
  ·rw [List.drop_eq_getElem_cons h,hkV] at hm
   refine pw ?_
   refine .c (zcj v[k] (hh _ (List.getElem_mem h)) (hb _ (List.getElem_mem h)).1) ?_
   refine .i ?_ ?_<;>intro h2<;>(try simp only [nrm_l] at h2)<;>first | refine pw ?_ | exact pd
   ·rw [if_pos (by omega)] at hm
    rw [hm]
   ·rw [if_neg (by omega)] at hm
    refine .i ?_ ?_<;>intro h3<;>(try simp only [nrm_l] at h3)<;>first | refine pw ?_ | exact pd
    ·have hp:=Xl (v:=v) (k:=k) (by omega)
     rw [hp] at hm
     refine pw ?_
     refine .i ?_ ?_<;>intro h4<;>(try simp only [nrm_l] at h4)<;>first | refine pw ?_ | exact pd
     ·rw [if_pos ⟨h3,h4⟩] at hm
      rw [hm]
      rfl
     ·rw [if_neg (fun h=>by omega)] at hm
      exact⟨k+1,⟨h,hm⟩,by omega,rfl⟩
    ·rw [if_neg (fun h=>by omega)] at hm
     exact⟨k+1,⟨h,hm⟩,by omega,rfl⟩
  ·rw [hm,List.drop_of_length_le (by omega)]
   rfl
theorem zes (v:List En) (hb:∀ e ∈ v,ZL e) (hl:v.length<=1152921504606846976) (hh:∀ e ∈ v,e.holes.length<=1152921504606846976):Cn Tryz.prog 105 [vp v] (jS (jx v).1 (jx v).2):=by
 refine zt Tryz.func105 1 ?_
 refine pw ?_
 refine pLoop.go (fun k=>k<=v.length/\jx v=hkV v k (v.drop k)) (fun k=>[(8,.v (.int .i64 (k:Nat)))]) (fun _=>[]) (fun k=>v.length - k) 0 [8] ?_ ?_ ?_
 ·exact⟨Nat.zero_le _,rfl⟩
 ·exact pd
 ·rintro k ⟨hk,hm⟩
  refine pw ?_
  refine .i ?_ ?_<;>intro h<;>(try simp only [nrm_l] at h)<;>first | refine pw ?_ | exact pd
  ·rw [List.drop_eq_getElem_cons h,hkV] at hm
   have hbk:=hb _ (List.getElem_mem h)
   have hhk:=hh _ (List.getElem_mem h)
   have hco:=Ju (yV v[k]).1 (yV v[k]).2
   refine pw ?_
   refine .rd (zcJ v[k] hbk.1 hhk (.inr (KL 2))) rfl ?_
   by_cases hz:(yV v[k]).1=0
   ·rw [yk hz]
    rw [if_neg (by omega)] at hm
    refine pw ?_
    refine .i ?_ ?_<;>intro h3<;>(try simp only [nrm_l] at h3)<;>first | refine pw ?_ | exact pd
    ·have hp:=Xl (v:=v) (k:=k) (by omega)
     rw [hp] at hm
     refine pw ?_
     refine .c (zkx v[k - 1].rep v[k]) ?_
     refine .i ?_ ?_<;>intro h4<;>(try simp only [nrm_l] at h4)<;>first | refine pw ?_ | exact pd
     ·have h5:v[k].rep<=v[k - 1].rep:=by split at h4<;>(try split at h4)<;>omega
      rw [if_pos ⟨h3,h5⟩] at hm
      rw [hm]
      refine .c (jT 3 k) ?_
      exact ym _ _
     ·have h5:¬ v[k].rep<=v[k - 1].rep:=by split at h4<;>(try split at h4)<;>omega
      rw [if_neg (fun h=>by omega)] at hm
      exact⟨k+1,⟨h,hm⟩,by omega,rfl⟩
    ·rw [if_neg (fun h=>by omega)] at hm
     exact⟨k+1,⟨h,hm⟩,by omega,rfl⟩
   ·rw [if_pos hz] at hm
    rw [hm]
    rw [vu hz] at hco ⊢
    refine pw ?_
    (first | refine .c (hco) ?_ | refine .o (hco) ?_)
    refine .c (jT (yV v[k]).1 k) ?_
    exact ym _ _
  ·rw [hm,List.drop_of_length_le (by omega)]
   exact .eq _ rfl
theorem yY {v:List En} {k:Nat} (h:k<v.length):zi (v.take (k+1))=if (kP v[k]).2 then zi (v.take k)++[(kP v[k]).1] else zi (v.take k):=by
 unfold zi
 rw [List.take_succ_eq_append_getElem h,List.filterMap_append]
 simp only [List.filterMap_cons,List.filterMap_nil,QX]
 split
 ·rename_i h1;split at h1
  ·cases h1
  ·rename_i h2;rw [if_neg h2,List.append_nil]
 ·rename_i h1;split at h1
  ·rename_i h2;cases h1;rw [if_pos h2]
  ·cases h1
theorem ZU (v:List En) (k:Nat):(zi (v.take k)).length<=k:=by
 have:=List.length_filterMap_le QX (v.take k)
 have h2:(v.take k).length<=k:=List.length_take_le _ _
 unfold zi
 omega
theorem zer (v:List En) (hr:RightV v) (hl:v.length<=1048576) (hh:∀ e ∈ v,e.holes.length<=10000):Cn Tryz.prog 118 [vp v] (vp (zi v)):=by
 refine zt Tryz.func118 1 ?_
 refine pw ?_
 refine pLoop.go (fun k=>k<=v.length) (fun k=>[(3,.sl ((zi (v.take k)).map ec) (.r 23 3)),(10,.v (.int .i64 (k:Nat)))]) (fun _=>[]) (fun k=>v.length - k) 0 [3,10] ?_ ?_ ?_
 ·exact Nat.zero_le _
 ·refine pw ?_
  rfl
 ·rintro k hk
  have hlen:=ZU v k
  refine pw ?_
  refine .i ?_ ?_<;>intro h<;>(try simp only [nrm_l] at h)<;>first | refine pw ?_ | exact pd
  ·refine .c (zeP v[k] (hr.1 _ (List.getElem_mem h)) (hh _ (List.getElem_mem h))) ?_
   refine .i ?_ ?_<;>intro h2<;>(try simp only [nrm_l] at h2)<;>first | refine pw ?_ | exact pd
   ·refine⟨k+1,h,by omega,?_,rfl⟩
    rw [yY h,if_pos h2]
    simp
    rfl
   ·refine⟨k+1,h,by omega,?_,rfl⟩
    rw [yY h,if_neg (by simpa using h2)]
  ·rw [List.take_of_length_le (by omega)]
theorem Ka (v:List En) (hr:RightV v) (hl:v.length<=1048576) (hh:∀ e ∈ v,e.holes.length<=10000):Cn Tryz.prog 149 [vp v] (vp (zi v)):=by
 refine zt Tryz.func149 1 ?_
 refine pw ?_
 refine pLoop.go (fun k=>k<=v.length) (fun k=>[(3,.sl ((zi (v.take k)).map ec) (.r 25 3)),(4,.v (.int .i64 (k:Nat)))]) (fun _=>[]) (fun k=>v.length - k) 0 [3,4] ?_ ?_ ?_
 ·exact Nat.zero_le _
 ·refine pw ?_
  rfl
 ·rintro k hk
  have hlen:=ZU v k
  refine pw ?_
  refine .i ?_ ?_<;>intro h<;>(try simp only [nrm_l] at h)<;>first | refine pw ?_ | exact pd
  ·refine .c (zcd v[k] (hr.1 _ (List.getElem_mem h)) (hh _ (List.getElem_mem h))) ?_
   refine .i ?_ ?_<;>intro h2<;>(try simp only [nrm_l] at h2)<;>first | refine pw ?_ | exact pd
   ·refine⟨k+1,h,by omega,?_,rfl⟩
    rw [yY h,if_pos h2]
    simp
    rfl
   ·refine⟨k+1,h,by omega,?_,rfl⟩
    rw [yY h,if_neg (by simpa using h2)]
  ·rw [List.take_of_length_le (by omega)]
def us (l:List Nat):PV:=.sl (l.map yN) .sh
attribute [go_sem] us
theorem zik (x:Nat):Cn Tryz.prog 208 [.v (.int .u64 x)] (.v (.bool false)):=by
 refine zt Tryz.func208 1 ?_
 exact pd
theorem zie (x y:Nat):Cn Tryz.prog 207 [.v (.int .u64 x),.v (.int .u64 y)] (.v (.bool (decide (x<y)))):=by
 refine zt Tryz.func207 2 ?_
 refine pw ?_
 exact .d (zdn x)
theorem zaI (l:List Nat) (x i:Nat) (hi:i<=l.length) (h1:∀ j,(h:j<l.length)->j<i->l[j]<x) (h2:∀ j,(h:j<l.length)->i<=j->x<=l[j]) (hl:l.length<=1152921504606846976) :
 Cn Tryz.prog 192 [us l,.v (.int .u64 x)] (.tup [.v (.int .i64 i),.v (.bool (decide (l[i]? = some x)))]):=by
 refine zt Tryz.func192 2 ?_
 refine pw ?_
 refine pLoop.go (fun p:Nat × Nat=>p.1<=i/\i<=p.2/\p.2<=l.length) (fun p=>[(7,.v (.int .i64 (p.1:Nat))),(8,.v (.int .i64 (p.2:Nat)))]) (fun _=>[]) (fun p=>p.2 - p.1) (0,l.length) [7,8] ?_ ?_ ?_
 ·exact⟨Nat.zero_le _,hi,Nat.le_refl _⟩
 ·exact pd
 ·rintro⟨p,q⟩ ⟨k1,k2,k3⟩
  simp only at k1 k2 k3
  refine pw ?_
  refine .i ?_ ?_<;>intro h<;>(try simp only [nrm_l] at h)<;>first | refine pw ?_ | exact pd
  ·have hm:(p+q) / 2<l.length:=by omega
   refine pw ?_
   refine .c (zie l[(p+q) / 2] x) ?_
   refine .i ?_ ?_<;>intro h4<;>(try simp only [nrm_l] at h4)<;>first | refine pw ?_ | exact pd
   ·refine⟨((p+q) / 2+1,q),⟨?_,k2,k3⟩,by simp only;omega,rfl,rfl⟩
    simp only
    refine Nat.lt_of_not_le fun h5=>?_
    have:=h2 _ hm h5
    omega
   ·refine⟨(p,(p+q) / 2),⟨k1,?_,by simp only;omega⟩,by simp only;omega,rfl,rfl⟩
    simp only
    refine Nat.le_of_not_lt fun h5=>?_
    have:=h1 _ hm h5
    omega
  ·obtain rfl:p=i:=by omega
   obtain rfl:q=p:=by omega
   refine .i ?_ ?_<;>intro h4<;>(try simp only [nrm_l] at h4)<;>first | refine pw ?_ | exact pd
   ·rw [show l[q]? = some l[q] from List.getElem?_eq_getElem h4]
    refine .i ?_ ?_<;>intro h5<;>(try simp only [nrm_l] at h5)<;>first | refine pw ?_ | exact pd
    ·simp [h5]
    ·refine .c (zik l[q]) ?_
     simp [h5]
   ·rw [show l[q]? = none from List.getElem?_eq_none (by omega)]
    simp
def cp2 (a b:Nat):PV:=.agg [.v (.int .u64 a),.v (.int .u64 b)]
def cw (n:Nat):PV:=cp2 (n / zk) (n % zk)
attribute [go_sem] cp2 cw
theorem kE (v:List En) (hl:v.length<=1024) (hh:∀ e ∈ v,e.holes.length<=1048576):Cn Tryz.prog 179 [vp v] (ns (zv v)):=by
 have hM:=zw
 refine zt Tryz.func179 1 ?_
 refine pw ?_
 refine pLoop.go (fun i=>i<=v.length) (fun i=>[(3,.sl ((ZJ v i).map yN) (.r 9 1)),(4,.v (.int .i64 (i:Nat)))]) (fun _=>[]) (fun i=>v.length - i) 0 [3,4,9] ?_ ?_ ?_
 ·exact Nat.zero_le _
 ·rw [ziE]
  exact pd
 ·rintro i hi
  have hlen:=vQ hh i hi
  refine pw ?_
  refine .i ?_ ?_<;>intro h<;>(try simp only [nrm_l] at h)<;>first | refine pw ?_ | exact pd
  ·have hj:=hh _ (List.getElem_mem h)
   refine pw ?_
   refine cutP.full rfl ?_ rfl ?_ ?_
   ·exact pd
   ·exact pd
   refine pw ?_
   refine pLoop.go (fun j=>j<=v[i].holes.length) (fun j=>[(3,.sl ((Q7 v i h j).map yN) (.r 9 1)),(5,.v (.int .i64 (j:Nat)))]) (fun _=>[]) (fun j=>v[i].holes.length - j) 0 [3,5,35,16] ?_ ?_ ?_
   ·exact Nat.zero_le _
   ·rw [ziD]
    refine pw ?_
    simp [yN]
   ·rintro j hj'
    have hlen:=zdI hh h hj'
    refine pw ?_
    refine .i ?_ ?_<;>intro hc<;>(try simp only [nrm_l] at hc)<;>first | refine pw ?_ | exact pd
    ·refine cutP.full rfl ?_ rfl ?_ ?_
     ·exact pd
     ·exact pd
     refine pw ?_
     refine⟨j+1,hc,by omega,?_,rfl⟩
     rw [zbu h hc]
     simp [yN]
    ·refine⟨i+1,h,by omega,?_,rfl⟩
     rw [zdH h (by omega)]
  ·rw [VF (by omega)]
theorem Xp (a b:List En) (ha:∀ e ∈ a,e.holes.length<=1048576) (hb:∀ e ∈ b,e.holes.length<=1048576) (la:a.length<=1024) (lb:b.length<=1024):Cn Tryz.prog 150 [vp a,vp b] (.v (.int .i64 (zZ (zv a) (zv b)))):=by
 have l1:=vQ ha a.length (Nat.le_refl _)
 have l2:=vQ hb b.length (Nat.le_refl _)
 rw [VF (by omega)] at l1 l2
 refine zt Tryz.func150 2 ?_
 refine pw ?_
 refine .c (kE a la ha) ?_
 refine .c (kE b lb hb) ?_
 generalize zv a=x at *
 generalize zv b=y at *
 refine pLoop.go (fun k=>k<=x.length/\k<=y.length/\zZ x y=zZ (x.drop k) (y.drop k)) (fun k=>[(7,.v (.int .i64 (k:Nat)))]) (fun _=>[]) (fun k=>x.length - k) 0 [7] ?_ ?_ ?_
 ·exact⟨Nat.zero_le _,Nat.zero_le _,rfl⟩
 ·exact pd
 ·rintro k ⟨hk1,hk2,hm⟩
  refine pw ?_
  have hfin:¬(k<x.length/\k<y.length)->(if x.length<y.length then (-1:Int) else if y.length<x.length then 1 else 0)=zZ x y:=fun hn=>by
   have la:(x.drop k).length=x.length - k:=List.length_drop
   have lb:(y.drop k).length=y.length - k:=List.length_drop
   rw [hm]
   cases hx:x.drop k with
   | nil=>
     rw [hx] at la
     cases hy:y.drop k with
     | nil=>rw [hy] at lb;simp at la lb;rw [if_neg (by omega),if_neg (by omega)];rfl
     | cons c z=>rw [hy] at lb;simp at la lb;rw [if_pos (by omega)];rfl
   | cons c z=>
     rw [hx] at la
     cases hy:y.drop k with
     | nil=>rw [hy] at lb;simp at la lb;rw [if_neg (by omega),if_pos (by omega)];rfl
     | cons d u=>rw [hy] at lb;simp at la lb;exact absurd ⟨by omega,by omega⟩ hn
  have hend:¬(k<x.length/\k<y.length)->True:=fun _=>trivial
  refine .i ?_ ?_<;>intro h1<;>(try simp only [nrm_l] at h1)<;>first | refine pw ?_ | exact pd
  ·refine .i ?_ ?_<;>intro h2<;>(try simp only [nrm_l] at h2)<;>first | refine pw ?_ | exact pd
   ·rw [List.drop_eq_getElem_cons h1,List.drop_eq_getElem_cons h2,zZ] at hm
    refine pw ?_
    refine .i ?_ ?_<;>intro h3<;>(try simp only [nrm_l] at h3)<;>first | refine pw ?_ | exact pd
    ·rw [hm,if_pos h3]
    ·refine .i ?_ ?_<;>intro h4<;>(try simp only [nrm_l] at h4)<;>first | refine pw ?_ | exact pd
     ·rw [hm,if_neg (by omega),if_pos h4]
     ·rw [if_neg (by omega),if_neg (by omega)] at hm
      exact⟨k+1,⟨h1,h2,hm⟩,by omega,rfl⟩
   ·rw [<-hfin (by omega)]
    refine .i ?_ ?_<;>intro h3<;>(try simp only [nrm_l] at h3)<;>first | refine pw ?_ | exact pd
    ·rw [if_pos h3]
    ·refine .i ?_ ?_<;>intro h4<;>(try simp only [nrm_l] at h4)<;>first | refine pw ?_ | exact pd
     ·rw [if_neg (by omega),if_pos h4]
     ·rw [if_neg (by omega),if_neg (by omega)]
  ·rw [<-hfin (by omega)]
   refine .i ?_ ?_<;>intro h3<;>(try simp only [nrm_l] at h3)<;>first | refine pw ?_ | exact pd
   ·rw [if_pos h3]
   ·refine .i ?_ ?_<;>intro h4<;>(try simp only [nrm_l] at h4)<;>first | refine pw ?_ | exact pd
    ·rw [if_neg (by omega),if_pos h4]
    ·rw [if_neg (by omega),if_neg (by omega)]
end Go.Proofs.YtonhfknjcbakiaaGreatDoor
namespace Go.Proofs.YtonhfknjcbakiaaGreatDoor
open Go.RowKit Go.Maps
attribute [-go_sem] z7
theorem XY {D:Nat->Nat->Prop} {w:World} {x a b:Value} (h:Dat D w x (.tup [.v a,.v b])):x=.tuple #[a,b]:=by
 cases h with
 | tup vs cs hs h=>
   obtain⟨l⟩:=vs
   match l,hs with
   | [p,q],_=>
     have e0:=(h 0 _ rfl).v_inv
     have e1:=(h 1 _ rfl).v_inv
     simp at e0 e1
     rw [e0,e1]
theorem zhv {D:Nat->Nat->Prop} {w:World} {x:Value} {e:En} (h:Dat D w x (ep e)):∃ ah ch,x=.agg #[.int .u64 e.rep,.int .u64 e.max,.slice ah e.holes.length ch]/\Dat D w (.slice ah e.holes.length ch) (rg e.holes):=by
 have h':Dat D w x (.agg [.v (.int .u64 e.rep),.v (.int .u64 e.max),rg e.holes]):=h
 cases h' with
 | agg vs cs hs _ h=>
   obtain⟨l⟩:=vs
   match l,hs with
   | [p,q,r],_=>
     have e0:=(h 0 _ rfl).v_inv
     have e1:=(h 1 _ rfl).v_inv
     have e2:=h 2 _ rfl
     simp at e0 e1 e2
     obtain⟨ah,ch,rfl⟩:=zK e2
     rw [e0,e1]
     exact⟨ah,ch,rfl,e2⟩
theorem Yk {D:Nat->Nat->Prop} {w:World} {x:Value} {e:En} {b:Bool} (h:Dat D w x (.tup [ep e,.v (.bool b)])):∃ ah ch,x=.tuple #[.agg #[.int .u64 e.rep,.int .u64 e.max,.slice ah e.holes.length ch],.bool b]/\Dat D w (.slice ah e.holes.length ch) (rg e.holes):=by
 cases h with
 | tup vs cs hs h=>
   obtain⟨l⟩:=vs
   match l,hs with
   | [p,q],_=>
     have e0:=h 0 _ rfl
     have e1:=(h 1 _ rfl).v_inv
     simp at e0 e1
     obtain⟨ah,ch,rfl,hd⟩:=zhv e0
     rw [e1]
     exact⟨ah,ch,rfl,hd⟩
theorem jP {f:FuncId} {ps:List PV} {r:PV} (h:Cn Tryz.prog f ps r) {D:Nat->Nat->Prop} {w:World} {vs:Array Value} (hG:GL D w) (hD:∀ b o,D b o->b<w.heap.size) (hsz:vs.size=ps.length) (hd:∀(i:Nat) p,ps[i]? = some p->Dat D w (vs.getD i undef) p) :
 Calls Tryz.prog f vs w fun e w'=>∃ v,e=.returned v/\Below w.heap.size w w'/\Dat (fun b o=>D b o\/(w.heap.size<=b/\b<w'.heap.size)) w' v r:=by
 refine(h.2 D w vs hG hD hsz hd).mono ?_
 rintro e w' ⟨v,D',rfl,hb,_,q2,q3,hd,_⟩
 exact⟨v,rfl,hb,hd.mono (fun b o h=>(q2 b o h).imp id fun h'=>⟨h',q3 b o h⟩) fun _ _ _ _ h=>h⟩
theorem OwnU.keep {base:Nat} {w w':World} {v:Value} {l:List Nat} (h:OwnU base w v l) (hb:∀ g,v.ownBlock=some g->w'.heap[g]? = w.heap[g]?):OwnU base w' v l:=by
 refine⟨h.1,?_⟩
 rcases h.2 with h | ⟨g,cap,cur,e,hg,hc,r⟩
 ·exact .inl h
 ·exact .inr ⟨g,cap,cur,e,hg,(hb g (by rw [e];rfl)).trans hc,r⟩
theorem OwnU.lt {base:Nat} {w:World} {v:Value} {l:List Nat} (h:OwnU base w v l):∀ g,v.ownBlock=some g->base<=g/\g<w.heap.size:=fun g hg=>World.ownsRow.lt h g hg
theorem KC (x:Nat):∀ {l:List Nat},YN l->∃ i,i<=l.length/\(∀ j,(h:j<l.length)->j<i->l[j]<x)/\(∀ j,(h:j<l.length)->i<=j->x<=l[j])
 | [],_=>⟨0,Nat.le_refl _,fun j h=>absurd h (by simp),fun j h=>absurd h (by simp)⟩
 | y::l,h=>by
   have ⟨h1,h2⟩:=List.pairwise_cons.1 h
   by_cases hy:y<x
   ·obtain⟨i,hi,q1,q2⟩:=KC x h2
    refine⟨i+1,by simp;omega,fun j hj hji=>?_,fun j hj hij=>?_⟩
    ·match j with
     | 0=>exact hy
     | j+1=>exact q1 j (by simpa using hj) (by omega)
    ·match j with
     | 0=>omega
     | j+1=>exact q2 j (by simpa using hj) (by omega)
   ·refine⟨0,Nat.zero_le _,fun j _ hj=>by omega,fun j hj _=>?_⟩
    match j with
    | 0=>simp;omega
    | j+1=>
      have hj':j<l.length:=by simpa using hj
      have:=h1 _ (List.getElem_mem hj')
      simp only [List.getElem_cons_succ]
      omega
theorem zmj {C:Nat->Nat->Prop} {base:Nat} {w:World} {v:Value} {l:List Nat} (x i:Nat) (hown:OwnU base w v l) (hC:∀ b o,C b o->b<w.heap.size) (hG:GL C w) (hi:i<=l.length) (h1:∀ j,(h:j<l.length)->j<i->l[j]<x) (h2:∀ j,(h:j<l.length)->i<=j->x<=l[j]) (hl:l.length<=1152921504606846976) :
 Calls Tryz.prog 192 #[v,.int .u64 (x:Nat)] w fun e w'=>(∃ b,e=.returned (.tuple #[.int .i64 (i:Nat),.bool b]))/\Below w.heap.size w w':=by
 refine(jP (zaI l x i hi h1 h2 hl) (D:=fun b o=>C b o\/(base<=b/\b<w.heap.size)) (hG.mono (fun _ _ h=>.inl h) fun _ _ _ _ h=>h) (fun b o h=>h.elim (hC b o) And.right) rfl (fun j p hp=>?_)).mono ?_
 ·match j,hp with
  | 0,hp=>cases hp;exact vL hown fun b o h1 h2=>.inr ⟨h1,h2⟩
  | 1,hp=>cases hp;exact .v _
  | j+2,hp=>simp at hp
 ·rintro e w' ⟨v,rfl,hb,hd⟩
  rw [XY hd]
  exact⟨⟨_,rfl⟩,hb⟩
theorem zaD {C:Nat->Nat->Prop} {base rb:Nat} {w:World} {v:Value} {xs:List Nat} (x:Nat) (hown:OwnU base w v (srt xs)) (hbx:Boxed w rb 198 v) (hrb:rb<base) (hnot:x ∉ xs) (hl:(srt xs).length<=4194304) (hbase:base<=w.heap.size) (hC:∀ b o,C b o->b<w.heap.size) (hG:GL C w) :
 Calls Tryz.prog 160 #[.pointer (some ⟨rb,0,none⟩),.int .u64 (x:Nat)] w fun e w'=>(∃ u,e=.returned u)/\∃ v',Boxed w' rb 198 v'/\OwnU base w' v' (srt (xs++[x]))/\Keep (fun k=>k=rb\/base<=k) w w':=by
 obtain⟨i,hi,q1,q2⟩:=KC x (yi xs)
 have HBS:=Lib.hid (zmj x i hown hC hG hi q1 q2 (by omega))
 have hins:srt (xs++[x])=(srt xs).take i++x::(srt xs).drop i:=kJ hi (fun k hk hik=>by
  have h1:=q2 k hk hik
  have h2:(srt xs)[k]≠x:=fun e=>hnot (qr.1 (e ▸ List.getElem_mem hk))
  omega) (by
  rcases Nat.eq_zero_or_pos i with h0 | h0
  ·exact .inl h0
  ·exact .inr ⟨by omega,q1 _ (by omega) (by omega)⟩)
 have HI:=Lib.hid hins
 have HO:=Lib.hid hown
 have HX:=Lib.hid hbx
 have c0:=hbx.cell
 have hrw:=hbx.lt
 clear hins hown hbx hC hG q1 q2 hnot
 have tokA:True:=trivial
 have tokB:True:=trivial
 go_enter Tryz.func160,Tryz.ntmps160
 go_wp2_with (first
  | (go_at_call 192;have _t:=tokA;refine HBS.out.mono ?_;rintro e w1 ⟨⟨bb,rfl⟩,hb1⟩
     have c1:w1.cell? ⟨rb,0,none⟩=some v:=(World.cell?_of_block (a:=⟨rb,0,none⟩) (hb1.block rb hrw)).trans c0
     have HB1:=Lib.hid hb1
     clear hb1 tokA)
  | (go_at_call 193;have _t:=tokB
     refine(Y9 base w1.heap.size _ _ v (srt xs) x i hi (HO.out.keep fun g hg=>by rw [Below.heap_alloc _ _ _ (Nat.lt_of_lt_of_le (HO.out.lt g hg).2 HB1.out.size),HB1.out.block g (HO.out.lt g hg).2]) (World.alloc_heap_new w1 _) (fun e=>by have h8:=(HO.out.lt _ e).2;have h9:=HB1.out.size;omega) (by omega) (by have:=HB1.out.size;simp;omega)).mono ?_
     rintro e w3 ⟨v',rfl,ho3,hg3,_⟩
     have hx3:Boxed w3 rb 198 v:=((show Boxed w1 rb _ v from (HB1.out.block rb hrw).trans HX.out).alloc _).kept hg3 (fun e=>by have:=(HO.out.lt rb e.symm).1;omega)
     have c3:=hx3.cell
     have f3:=hx3.frozen
     have HX3:=Lib.hid hx3
     have HK3:=Lib.hid ((((Keep.of_below' (S:=fun k=>k=rb\/base<=k) HB1.out (Nat.le_refl _)).alloc _).grown hg3 fun k hk _=>.inr (HO.out.lt k hk).1))
     rw [<-HI.out] at ho3
     obtain⟨g3,cap3,cur3,rfl,_⟩:=(show _\/_ from ho3.cases).resolve_left (fun h=>by have:=h.2;rw [HI.out] at this;simp at this)
     have HO3:=Lib.hid ho3
     clear hx3 hg3 ho3 tokB)
  | go_in)
 go_end0
 exact⟨⟨_,rfl⟩,_,HX3.out.set _,HO3.out.keep fun g hg=>Below.heap_setCell _ _ _ _ (by have:=(HO3.out.lt g hg).1;show g≠rb;omega),HK3.out.setCell (fun _=>.inl rfl) _⟩
end Go.Proofs.YtonhfknjcbakiaaGreatDoor
namespace Go.Proofs.YtonhfknjcbakiaaGreatDoor
open Go.RowKit
theorem CanV.bd {v:List En} (h:CanV v):∀ e ∈ v,ZL e:=fun e he=>Jg (h.1 e he).1
end Go.Proofs.YtonhfknjcbakiaaGreatDoor
