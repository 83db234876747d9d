import Derived.Test.YtonhfknjcbakiaaGreatDoorB12
set_option linter.unusedVariables false
set_option linter.unusedSimpArgs false
namespace Go.Proofs.YtonhfknjcbakiaaGreatDoor
open Go.RowKit
variable {P:Program} {o:Oper} {D:Nat->Nat->Prop} {ρ:Nat->Nat} {nb:Nat} {s:PS} {a:Act} {w:World}
theorem zej {i n sz j:Nat} (h:i<n) (hj:j<sz):i * sz+j<n * sz:=by
 calc i * sz+j<i * sz+sz:=by omega
  _=(i+1) * sz:=by rw [Nat.add_mul];omega
  _<=n * sz:=Nat.mul_le_mul_right _ h
theorem zgu {k:Ow} (hkz:k≠.z) {ad:Option Addr} {b off sz l h cap:Nat} {es:List (List PV)} {f:Nat->Value} (hl:l<=h) (hh:h<=es.length) (hc:es.length<=cap) (hm:cap<=maxLen) (ha:es≠[]->ad=some ⟨b,off,none⟩) (hsz:∀(i:Nat) (e:List PV),es[i]? = some e->e.length=sz)
 (hD:∀ j,j<es.length * sz->D b (off+j)/\w.cell? ⟨b,off+j,none⟩=some (f j)/\(f j).oneCell'=true) (hd:∀(i:Nat) (e:List PV) (j:Nat) (p:PV),es[i]? = some e->e[j]? = some p->Dat D w (f (i * sz+j)) p) :
 Dat D w (.slice (if cap - 0=l then ad else ad.map (·.add (l * sz))) (h - l) (cap - l)) (.sl ((es.take h).drop l) k):=by
 have hlen:((es.take h).drop l).length=h - l:=by simp;omega
 have key:Dat D w (.slice (if cap - 0=l then ad else ad.map (·.add (l * sz))) ((es.take h).drop l).length (cap - l)) (.sl ((es.take h).drop l) k):=by
  have get:∀(i:Nat) e,((es.take h).drop l)[i]? = some e->es[l+i]? = some e/\i<h - l:=fun i e he=>by
   have hi:=(List.getElem?_eq_some_iff.1 he).1
   rw [hlen] at hi
   rw [List.getElem?_drop,List.getElem?_take,if_pos (by omega)] at he
   exact⟨he,hi⟩
  refine .sl _ _ sz _ _ b (off+l * sz) (fun j=>f (l * sz+j)) (by omega) (fun h=>absurd h hkz) (by omega) (fun hne=>?_) (fun i e he=>hsz _ e (get i e he).1) (fun j hj=>?_) (fun i e j p he hp=>?_)
  ·have hlt:l<h:=by
    rcases Nat.lt_or_ge l h with h' | h'
    ·exact h'
    ·exact absurd (List.eq_nil_of_length_eq_zero (by rw [hlen];omega)) hne
   rw [if_neg (by omega),ha (by intro e;subst e;simp at hh;omega)]
   simp [zh]
  ·rw [hlen] at hj
   have:l * sz+j<es.length * sz:=by
    have h1:(l+(h - l)) * sz<=es.length * sz:=Nat.mul_le_mul_right _ (by omega)
    rw [Nat.add_mul] at h1;omega
   rw [Nat.add_assoc];exact hD _ this
  ·have:=hd _ _ _ _ (get i e he).1 hp
   rw [Nat.add_mul,Nat.add_assoc] at this;exact this
 rw [hlen] at key;exact key
section
variable {K:PV->Prop} (hR:Rd D ρ s (zB a) (zA o) w)
include hR
theorem znz {t e:TypeId} {x:Operand} {x':PO} {lo hi:Option Operand} {lo' hi':Option PO} {i:TypeInfo} (ho:o.op=.slice t x lo hi none) (h1:P.underlying t=some (.slice e)) (h3:P.info? e=some i) (hx:po x=some x') (hlo:poo lo=some lo') (hhi:poo hi=some hi')
 (hk:PK.q P s (.sc x' lo' hi' i.size) K):QS P o D ρ s a w K:=by
 simp only [PK.q] at hk
 obtain⟨es,k,ex,h4⟩:=y8 hk
 have hr:=hR.op hx (by simp [ho,Op.operands])
 rw [ex] at hr
 obtain⟨ad,cap,sz,b,off,f,e1,hc,hz,hm,ha,hsz,hD,hd⟩:=hr.inv_sl
 have fin:∀ l h:Nat,(l<=h/\h<=es.length/\(∀ e ∈ es,e.length=i.size)/\K (.sl ((es.take h).drop l) (Xw lo' (s.ev x'))))->(lo'=none->l=0)->(execOp a.eval o).run P w=.ok (.value (.slice (if cap=l then ad else ad.map (·.add (l * i.size))) (h - l) (cap - l))) w->QS P o D ρ s a w K:=by
  rintro l h ⟨hl,hh,hse,hK⟩ hlo0 hrun
  have hkz:Xw lo' (s.ev x')≠.z:=by unfold Xw;split<;>simp
  have hko:(PV.sl ((es.take h).drop l) (Xw lo' (s.ev x'))).own=none:=by unfold Xw;split<;>rfl
  have hNew:∀ x0 n0,zbZ x0 n0 s (zB a) (zA o) w->NewOk x0 n0 w (.slice (if cap=l then ad else ad.map (·.add (l * i.size))) (h - l) (cap - l)) (.sl ((es.take h).drop l) (Xw lo' (s.ev x'))):=fun x0 n0 hN=>by
   have hsh:∀ u:Value,NewOk x0 n0 w u (.sl ((es.take h).drop l) .sh):=fun _=>trivial
   rw [ex]
   cases hlo2:lo' with
   | some y=>exact hsh _
   | none=>
     have h0:=hlo0 hlo2
     subst h0
     cases k with
     | p j=>
       have hxt:∃ t,x=.tmp t/\s.get t=.sl es (.p j):=by
        cases x with
        | tmp t=>cases hx;exact⟨t,rfl,ex⟩
        | const v=>
          cases hx
          have:(ofV v).isN=false:=by unfold ofV;split<;>(try split)<;>rfl
          rw [show ofV v=_ from ex] at this;cases this
        | func f=>cases hx;cases ex
        | global g=>cases hx
       obtain⟨t,rfl,ht⟩:=hxt
       have hN2:=(hN.2 t (QC (by simp [ho,Op.operands]))).1
       rw [ht] at hN2
       obtain⟨ad2,len2,cap2,q1,q2⟩:=hN2
       have q3:zB a t=.slice ad es.length cap:=e1
       rw [q3] at q2
       injection q2 with r1 r2 r3
       subst r1
       subst r3
       refine⟨ad,len2,cap,q1,?_⟩
       have hlen:((es.take h).drop 0).length=h:=by simp;omega
       rw [hlen]
       have e4:(if cap=0 then ad else ad.map (·.add (0 * i.size)))=ad:=by
        split
        ·rfl
        ·cases ad with
         | none=>rfl
         | some ad=>simp [Addr.add]
       rw [e4];rfl
     | _=>exact hsh _
  by_cases hes:es=[]
  ·subst hes
   have h0:h=0:=by simpa using hh
   subst h0
   have l0:l=0:=by omega
   subst l0
   refine⟨_,hK,hko,zby hrun (.dat ?_) hNew⟩
   exact .sl _ _ 1 [] _ 0 0 (fun _=>undef) (Nat.zero_le _) (fun h=>absurd h hkz) (by omega) (fun h=>absurd rfl h) (fun i e h=>by simp at h) (fun j h=>absurd h (by simp)) (fun i e j p h=>by simp at h)
  ·have hsz':sz=i.size:=by
    cases es with
    | nil=>exact absurd rfl hes
    | cons e es=>exact(hsz 0 e rfl).symm.trans (hse e (by simp))
   subst hsz'
   refine⟨_,hK,hko,zby hrun (.dat ?_) hNew⟩
   simpa using zgu hkz hl hh hc hm ha hsz hD hd
 have lows:∀ h:Nat,h<=cap->qBd s lo' 0 (fun l=>l<=h/\h<=es.length/\(∀ e ∈ es,e.length=i.size)/\K (.sl ((es.take h).drop l) (Xw lo' (s.ev x')))) ->
  (∀ l:Nat,l<=h->(match lo.map a.eval with | some v=>Instr.sliceBound v h .sliceB | none=>pure 0:Sem Nat).run P w=.ok l w->(execOp a.eval o).run P w=.ok (.value (.slice (if cap=l then ad else ad.map (·.add (l * i.size))) (h - l) (cap - l))) w)->QS P o D ρ s a w K:=by
  intro h hhc hq hrun
  cases lo with
  | none=>
    cases hlo
    exact fin 0 h hq (fun _=>rfl) (hrun 0 (Nat.zero_le _) (by simp))
  | some y=>
    simp only [poo,Option.map_eq_some_iff] at hlo
    obtain⟨y',hy,rfl⟩:=hlo
    obtain⟨j,n,e2,_,hn,hf⟩:=yu hq (hR.op hy (by simp [ho,Op.operands]))
    have hle:n<=h:=by have:=hf.1;omega
    exact fin n.toNat h hf (fun e=>by cases e) (hrun n.toNat hf.1 (by simp [e2,Instr.sliceBound,asIntOf,hn,hle]))
 have hnot:(match P.underlying t with | some (.array _ _)=>true | _=>false)=false:=by rw [h1]
 cases hi with
 | none=>
   cases hhi
   refine lows es.length hc h4 fun l hl hs=>?_
   simp only [Option.map] at hs
   cases lo with
   | none=>
     have l0:l=0:=by simpa using hs.symm
     subst l0
     simp [execOp,ho,e1,Instr.sliceAt,Instr.slice,run_underlying h1,Instr.sliceBounds,zE h3]
   | some y=>
     simp only at hs
     simp [execOp,ho,e1,Instr.sliceAt,Instr.slice,run_underlying h1,Instr.sliceBounds,zE h3,hs]
 | some z=>
   simp only [poo,Option.map_eq_some_iff] at hhi
   obtain⟨z',hz',rfl⟩:=hhi
   obtain⟨j,n,e2,_,hn,h5⟩:=yu h4 (hR.op hz' (by simp [ho,Op.operands]))
   have hnc:n<=cap:=by
    have:n.toNat<=es.length:=by
     cases lo' with
     | none=>exact h5.2.1
     | some y=>
       simp only [qBd,vR] at h5
       split at h5
       ·exact h5.2.2.1
       ·exact h5.elim
    omega
   refine lows n.toNat (by omega) h5 fun l hl hs=>?_
   simp only [Option.map] at hs
   cases lo with
   | none=>
     have l0:l=0:=by simpa using hs.symm
     subst l0
     simp [execOp,ho,e1,e2,Instr.sliceAt,Instr.slice,run_underlying h1,Instr.sliceBounds,Instr.sliceBound,asIntOf,hn,hnc,zE h3]
   | some y=>
     simp only at hs
     have hh:(Instr.sliceBound (.int j n) cap .sliceAcap).run P w=.ok n.toNat w:=by simp [Instr.sliceBound,asIntOf,hn,hnc]
     simp [execOp,ho,e1,e2,Instr.sliceAt,Instr.slice,run_underlying h1,Instr.sliceBounds,hh,zE h3,hs]
end
def CellsD (D:Nat->Nat->Prop) (w:World) (vs:Array Value) (cs:List PV):Prop:=
 vs.size=cs.length/\∀(i:Nat) p,cs[i]? = some p->Dat D w (vs.getD i undef) p/\(vs.getD i undef).oneCell'=true
theorem CellsR.data {u:Value} {cs:List PV} (h:CellsR D ρ nb w u cs) (hd:zY cs=true):CellsD D w u.cells (cs.map PV.sh):=by
 refine⟨by simpa using h.1,fun i p hp=>?_⟩
 simp only [List.getElem?_map,Option.map_eq_some_iff] at hp
 obtain⟨q,hq,rfl⟩:=hp
 unfold zY at hd
 rw [List.all_eq_true] at hd
 exact⟨((h.2 i q hq).1.data (hd q (List.mem_of_getElem? hq))).sh,(h.2 i q hq).2⟩
theorem x6 (off:Nat):∀(l:List Value) (k:Nat) (cells:Array Value),off+k+l.length<=cells.size ->
 ((l.zipIdx k).foldl (fun(cs:Array Value) (c,j)=>cs.setIfInBounds (off+j) c) cells).size=cells.size /\
 ∀ i,((l.zipIdx k).foldl (fun(cs:Array Value) (c,j)=>cs.setIfInBounds (off+j) c) cells).getD i undef=if off+k<=i/\i<off+k+l.length then l.getD (i - (off+k)) undef else cells.getD i undef
 | [],k,cells,_=>⟨rfl,fun i=>by simp;intro h1 h2;omega⟩
 | v::l,k,cells,h=>by
   simp only [List.zipIdx_cons,List.foldl_cons]
   simp only [List.length_cons] at h
   obtain⟨h1,h2⟩:=x6 off l (k+1) (cells.setIfInBounds (off+k) v) (by simp;omega)
   refine⟨by rw [h1];simp,fun i=>?_⟩
   rw [h2 i]
   by_cases e:i=off+k
   ·subst e
    rw [if_neg (by omega),if_pos (by simp)]
    have:off+k<cells.size:=by omega
    simp [this]
   ·by_cases e2:off+(k+1)<=i/\i<off+(k+1)+l.length
    ·rw [if_pos e2,if_pos (by simp;omega)]
     obtain⟨d,hd⟩:∃ d,i - (off+k)=d+1:=⟨i - (off+k) - 1,by omega⟩
     rw [hd,show i - (off+(k+1))=d from by omega]
     simp
    ·rw [if_neg e2,if_neg (by simp;omega)]
     simp [Array.getElem?_setIfInBounds_ne (Ne.symm e)]
theorem Xy (zs cs:List PV) (off i:Nat) (h:off+cs.length<=zs.length):(XI zs cs off)[i]? = if off<=i/\i<off+cs.length then cs[i - off]? else zs[i]?:=by
 unfold XI
 have ht:(zs.take off).length=off:=by simp;omega
 by_cases h1:i<off
 ·rw [if_neg (by omega),List.append_assoc,List.getElem?_append_left (by omega),List.getElem?_take,if_pos h1]
 ·by_cases h2:i<off+cs.length
  ·rw [if_pos (by omega),List.append_assoc,List.getElem?_append_right (by omega),List.getElem?_append_left (by omega),ht]
  ·rw [if_neg (by omega),List.getElem?_append_right (by simp;omega),List.getElem?_drop]
   congr 1
   simp;omega
theorem QK (zs cs:List PV) (off:Nat) (h:off+cs.length<=zs.length):(XI zs cs off).length=zs.length:=by
 unfold XI;simp;omega
theorem Xz {vs us:Array Value} {zs cs:List PV} {off:Nat} (hz:CellsD D w vs zs) (hu:CellsD D w us cs) (h:off+cs.length<=zs.length) :
 CellsD D w (us.zipIdx.foldl (fun(cs:Array Value) (c,j)=>cs.setIfInBounds (off+j) c) vs) (XI zs cs off):=by
 obtain⟨h1,h2⟩:=x6 off us.toList 0 vs (by simp [hz.1,hu.1];omega)
 have e:us.zipIdx.foldl (fun(cs:Array Value) (c,j)=>cs.setIfInBounds (off+j) c) vs=(us.toList.zipIdx 0).foldl (fun(cs:Array Value) (c,j)=>cs.setIfInBounds (off+j) c) vs:=by
  rw [<-Array.foldl_toList,Array.toList_zipIdx]
 rw [e]
 refine⟨by rw [h1,QK _ _ _ h];exact hz.1,fun i p hp=>?_⟩
 rw [Xy _ _ _ _ h] at hp
 rw [h2 i]
 have hl:us.toList.length=cs.length:=by simpa using hu.1
 simp only [Nat.add_zero]
 by_cases hi:off<=i/\i<off+cs.length
 ·rw [if_pos hi] at hp
  rw [if_pos (by omega)]
  have:=hu.2 _ _ hp
  have e2:us.toList.getD (i - off) undef=us.getD (i - off) undef:=by simp
  rw [e2];exact this
 ·rw [if_neg hi] at hp
  rw [if_neg (by omega)]
  exact hz.2 _ _ hp
theorem Z4 (place:Nat->Option (Nat × Nat)) {K:List PV->Prop}:∀(parts:List (Nat × Operand)) (ps:List (Nat × Nat × PO)) (vs:Array Value) (zs:List PV),ps.length=parts.length ->
 (∀(k:Nat) i x,parts[k]? = some (i,x)->∃ off n x',ps[k]? = some (off,n,x')/\place i=some (off,n)/\Rel D ρ nb w (a.eval x) (s.ev x')) ->
 CellsD D w vs zs->vS s ps zs K->∃ vs' cs,Instr.fill place vs (parts.map fun(i,x)=>(i,a.eval x))=some vs'/\CellsD D w vs' cs/\K cs
 | [],[],vs,zs,_,_,hz,hq=>⟨vs,zs,rfl,hz,hq⟩
 | [],_::_,_,_,h,_,_,_=>by cases h
 | _::_,[],_,_,h,_,_,_=>by cases h
 | (i,x)::parts,(off,n,x')::ps,vs,zs,hl,hp,hz,hq=>by
   obtain⟨off',n',x'',e1,e2,e3⟩:=hp 0 i x rfl
   simp at e1
   obtain⟨rfl,rfl,rfl⟩:=e1
   simp only [vS] at hq
   obtain⟨cs,⟨h1,h2,h3,h4⟩,h5⟩:=xY hq e3
   have h6:=h5.data h3
   obtain⟨vs',cs',g1,g2,g3⟩:=Z4 place parts ps _ _ (by simpa using hl) (fun k i x hk=>by simpa using hp (k+1) i x (by simpa using hk)) (Xz (off:=off) hz h6 (by simp;omega)) h4
   refine⟨vs',cs',?_,g2,g3⟩
   simp only [List.map_cons,Instr.fill,e2]
   rw [if_neg]
   ·exact g1
   ·have:=h5.1
    have:=hz.1
    simp;omega
theorem qJ {t:TypeId} {zs:List PV} (h:xg P t=some zs):∃ i z,P.info? t=some i/\i.zero=some z/\zs=z.cells.toList.map Q6/\(∀ v ∈ z.cells.toList,v.oneCell'=true):=by
 unfold xg at h
 simp only [Option.bind_eq_some_iff] at h
 obtain⟨i,hi,z,hz,h⟩:=h
 split at h
 ·rename_i hall
  cases h
  rw [List.all_eq_true] at hall
  exact⟨i,z,hi,hz,rfl,hall⟩
 ·cases h
theorem yT {z:Value} (h:∀ v ∈ z.cells.toList,v.oneCell'=true):CellsD D w z.cells (z.cells.toList.map Q6):=by
 refine⟨by simp,fun i p hp=>?_⟩
 simp only [List.getElem?_map,Option.map_eq_some_iff] at hp
 obtain⟨v,hv,rfl⟩:=hp
 have hm:v ∈ z.cells.toList:=List.mem_of_getElem? hv
 have e:z.cells.getD i undef=v:=by simp at hv;simp [hv]
 rw [e]
 exact⟨zai D w v,h v hm⟩
theorem CellsD.agg {vs:Array Value} {cs:List PV} (h:CellsD D w vs cs):Dat D w (.agg vs) (.agg cs):=
 .agg _ _ h.1 (fun i hi=>(h.2 i _ (List.getElem?_eq_getElem hi)).2) fun i p hp=>(h.2 i p hp).1
theorem Zz {fs:Array Field}:∀ {l:List (Nat × Operand)} {ps:List (Nat × Nat × PO)},Qq P fs l=some ps->ps.length=l.length/\∀(k:Nat) i x,l[k]? = some (i,x)->∃ f n x',fs[i]? = some f/\P.info? f.type=some n/\ps[k]? = some (f.offset,n.size,x')/\po x=some x'
 | [],ps,h=>by cases h;exact⟨rfl,fun k i x h=>by simp at h⟩
 | (i,x)::r,ps,h=>by
   simp only [Qq,Option.bind_eq_some_iff,Option.map_eq_some_iff] at h
   obtain⟨f,hf,n,hn,y,hy,l,hl,rfl⟩:=h
   obtain⟨h1,h2⟩:=Zz hl
   refine⟨by simp [h1],fun k j z hz=>?_⟩
   cases k with
   | zero=>simp at hz;obtain⟨rfl,rfl⟩:=hz;exact⟨f,n,y,hf,hn,rfl,hy⟩
   | succ k=>simpa using h2 k j z (by simpa using hz)
theorem Zy {sz:Nat}:∀ {l:List (Nat × Operand)} {ps:List (Nat × Nat × PO)},Qp sz l=some ps->ps.length=l.length/\∀(k:Nat) i x,l[k]? = some (i,x)->∃ x',ps[k]? = some (i * sz,sz,x')/\po x=some x'
 | [],ps,h=>by cases h;exact⟨rfl,fun k i x h=>by simp at h⟩
 | (i,x)::r,ps,h=>by
   simp only [Qp,Option.bind_eq_some_iff,Option.map_eq_some_iff] at h
   obtain⟨y,hy,l,hl,rfl⟩:=h
   obtain⟨h1,h2⟩:=Zy hl
   refine⟨by simp [h1],fun k j z hz=>?_⟩
   cases k with
   | zero=>simp at hz;obtain⟨rfl,rfl⟩:=hz;exact⟨y,rfl,hy⟩
   | succ k=>simpa using h2 k j z (by simpa using hz)
section
variable {K:PV->Prop} (hR:Rd D ρ s (zB a) (zA o) w)
include hR
theorem zlt {t:TypeId} {parts:Array (Nat × Operand)} {fs:Array Field} {zs:List PV} {ps:List (Nat × Nat × PO)} (ho:o.op=.build t parts) (h1:P.underlying t=some (.struct fs)) (hz:xg P t=some zs) (hall:∀ f ∈ fs.toList,(P.info? f.type).isSome=true)
 (hp:Qq P fs parts.toList=some ps) (hk:PK.q P s (.bd zs ps) K):QS P o D ρ s a w K:=by
 simp only [PK.q] at hk
 obtain⟨i,z,g1,g2,rfl,g4⟩:=qJ hz
 obtain⟨l1,l2⟩:=Zz hp
 obtain⟨places,hpl,hget⟩:∃ places,fs.toList.mapM (fun f=>(P.info? f.type).map fun i=>(f.offset,i.size))=some places/\∀(i:Nat) f n,fs.toList[i]? = some f->P.info? f.type=some n->places[i]? = some (f.offset,n.size):=by
  revert hall
  induction fs.toList with
  | nil=>intro _;exact⟨[],rfl,fun i f n h=>by simp at h⟩
  | cons f l ih=>
    intro hall
    obtain⟨pl,e1,e2⟩:=ih fun f hf=>hall f (by simp [hf])
    have:=hall f (by simp)
    obtain⟨n,hn⟩:=Option.isSome_iff_exists.1 this
    refine⟨(f.offset,n.size)::pl,by simp [List.mapM_cons,hn,e1],fun i f' n' hf hn'=>?_⟩
    cases i with
    | zero=>simp at hf;subst hf;rw [hn] at hn';cases hn';rfl
    | succ i=>simpa using e2 i f' n' (by simpa using hf) hn'
 obtain⟨vs',cs,f1,f2,f3⟩:=Z4 (D:=D) (ρ:=ρ) (nb:=s.b.length) (w:=w) (a:=a) (s:=s) (places.toArray[·]?) parts.toList ps z.cells _ l1 (fun k i x hkk=>by
  obtain⟨f,n,x',e1,e2,e3,e4⟩:=l2 k i x hkk
  refine⟨f.offset,n.size,x',e3,by simpa using hget i f n (by simpa using e1) e2,hR.op e4 ?_⟩
  simp only [ho,Op.operands,List.mem_map]
  exact⟨(i,x),List.mem_of_getElem? hkk,rfl⟩) (yT g4) hk
 refine .det (u:=.agg vs') ?_ (.dat f2.agg) f3 rfl
 have hb:P.built t (parts.map fun(i,x)=>(i,a.eval x)).toList=some vs':=by
  unfold Program.built
  simp only [g1,h1,g2,hpl]
  rw [Array.toList_map]
  exact f1
 simp only [execOp,ho,Sem.run_bind,run_build w t _ vs' hb,Result.andThen_ok]
 rfl
theorem zls {t e:TypeId} {n:Nat} {parts:Array (Nat × Operand)} {ie:TypeInfo} {zs:List PV} {ps:List (Nat × Nat × PO)} (ho:o.op=.build t parts) (h1:P.underlying t=some (.array n e)) (h3:P.info? e=some ie) (hz:xg P t=some zs)
 (hp:Qp ie.size parts.toList=some ps) (hk:PK.q P s (.bd zs ps) K):QS P o D ρ s a w K:=by
 simp only [PK.q] at hk
 obtain⟨i,z,g1,g2,rfl,g4⟩:=qJ hz
 obtain⟨l1,l2⟩:=Zy hp
 obtain⟨vs',cs,f1,f2,f3⟩:=Z4 (D:=D) (ρ:=ρ) (nb:=s.b.length) (w:=w) (a:=a) (s:=s) (fun i=>some (i * ie.size,ie.size)) parts.toList ps z.cells _ l1 (fun k i x hkk=>by
  obtain⟨x',e3,e4⟩:=l2 k i x hkk
  refine⟨_,_,x',e3,rfl,hR.op e4 ?_⟩
  simp only [ho,Op.operands,List.mem_map]
  exact⟨(i,x),List.mem_of_getElem? hkk,rfl⟩) (yT g4) hk
 refine .det (u:=.agg vs') ?_ (.dat f2.agg) f3 rfl
 have hb:P.built t (parts.map fun(i,x)=>(i,a.eval x)).toList=some vs':=by
  unfold Program.built
  simp only [g1,h1,g2,h3]
  rw [Array.toList_map]
  exact f1
 simp only [execOp,ho,Sem.run_bind,run_build w t _ vs' hb,Result.andThen_ok]
 rfl
end
def RowD (D:Nat->Nat->Prop) (w:World) (sz:Nat) (vs:List Value) (es:List (List PV)):Prop:=
 vs.length=es.length * sz/\(∀(i:Nat) (e:List PV),es[i]? = some e->e.length=sz)/\(∀ j,j<vs.length->(vs.getD j undef).oneCell'=true)/\∀(i:Nat) (e:List PV) (j:Nat) (p:PV),es[i]? = some e->e[j]? = some p->Dat D w (vs.getD (i * sz+j) undef) p
theorem RowD.mono {D':Nat->Nat->Prop} {w':World} {sz:Nat} {vs:List Value} {es:List (List PV)} (h:RowD D w sz vs es) (hD:∀ b o,D b o->D' b o) (hw:∀ b o x,D b o->w.cell? ⟨b,o,none⟩=some x->w'.cell? ⟨b,o,none⟩=some x):RowD D' w' sz vs es:=
 ⟨h.1,h.2.1,h.2.2.1,fun i e j p h1 h2=>(h.2.2.2 i e j p h1 h2).mono hD hw⟩
theorem RowD.append {sz:Nat} {vs us:List Value} {es fs:List (List PV)} (h:RowD D w sz vs es) (k:RowD D w sz us fs):RowD D w sz (vs++us) (es++fs):=by
 have hl:es.length * sz=vs.length:=h.1.symm
 refine⟨by simp [h.1,k.1,Nat.add_mul],fun i e he=>?_,fun j hj=>?_,fun i e j p he hp=>?_⟩
 ·rcases Nat.lt_or_ge i es.length with hi | hi
  ·rw [List.getElem?_append_left hi] at he;exact h.2.1 i e he
  ·rw [List.getElem?_append_right hi] at he;exact k.2.1 _ e he
 ·rw [List.getD_eq_getElem?_getD]
  rcases Nat.lt_or_ge j vs.length with hi | hi
  ·rw [List.getElem?_append_left hi,<-List.getD_eq_getElem?_getD];exact h.2.2.1 j hi
  ·rw [List.getElem?_append_right hi,<-List.getD_eq_getElem?_getD];exact k.2.2.1 _ (by simp at hj;omega)
 ·rw [List.getD_eq_getElem?_getD]
  rcases Nat.lt_or_ge i es.length with hi | hi
  ·rw [List.getElem?_append_left hi] at he
   have hlen:=h.2.1 i e he
   have hj:j<sz:=by rw [<-hlen];exact(List.getElem?_eq_some_iff.1 hp).1
   rw [List.getElem?_append_left (by rw [<-hl];exact zej hi hj),<-List.getD_eq_getElem?_getD]
   exact h.2.2.2 i e j p he hp
  ·rw [List.getElem?_append_right hi] at he
   have h2:vs.length<=i * sz+j:=by rw [<-hl];exact Nat.le_trans (Nat.mul_le_mul_right _ hi) (by omega)
   rw [List.getElem?_append_right h2,<-List.getD_eq_getElem?_getD]
   have:=k.2.2.2 _ e j p he hp
   rw [Nat.sub_mul] at this
   rw [show i * sz+j - vs.length=i * sz - es.length * sz+j from by rw [hl];have:=Nat.mul_le_mul_right sz hi;omega]
   exact this
theorem jr {sz b cap:Nat} {vs:List Value} {es:List (List PV)} {cs:Array Value} {e:TypeId} {fr:Nat × Nat} {k:Ow} (h:RowD D w sz vs es) (hh:w.heap[b]? = some (.cells cs e fr)) (ht:∀ j,j<vs.length->cs[j]? = some (vs.getD j undef))
 (hc:es.length<=cap) (hm:cap<=maxLen) (hk:k=.z->cap=es.length) (hD:∀ j,j<vs.length->D b j):Dat D w (.slice (some ⟨b,0,none⟩) es.length cap) (.sl es k):=
 .sl _ _ sz _ _ b 0 (fun j=>vs.getD j undef) hc hk hm (fun _=>rfl) h.2.1 (fun j hj=>by
  rw [<-h.1] at hj
  refine⟨by simpa using hD j hj,?_,h.2.2.1 j hj⟩
  simp only [World.cell?,hh,Nat.zero_add]
  simpa using ht j hj) h.2.2.2
theorem Yl {sz:Nat} {K:List (List PV)->Prop}:∀(l:List Operand) (ps:List PO),Qu l=some ps->(∀ x ∈ l,∀ x',po x=some x'->Rel D ρ nb w (a.eval x) (s.ev x'))->yP s sz ps K ->
 ∃ es,K es/\es.length=l.length/\RowD D w sz (l.flatMap fun x=>(a.eval x).cells.toList) es/\∀ x ∈ l,(a.eval x).cells.size=sz
 | [],ps,h,_,hq=>by cases h;exact⟨[],hq,rfl,⟨by simp,fun i e h=>by simp at h,fun j h=>by simp at h,fun i e j p h=>by simp at h⟩,by simp⟩
 | x::l,ps,h,hr,hq=>by
   simp only [Qu,Option.bind_eq_some_iff,Option.map_eq_some_iff] at h
   obtain⟨x',hx,ps',hps,rfl⟩:=h
   simp only [yP] at hq
   obtain⟨cs,⟨h1,h2,h3⟩,h4⟩:=xY hq (hr x (by simp) x' hx)
   obtain⟨es,g1,g2,g3,g4⟩:=Yl l ps' hps (fun y hy=>hr y (by simp [hy])) h3
   have h5:=h4.data h2
   have hsz:(a.eval x).cells.size=sz:=by rw [h4.1];exact h1
   refine⟨_,g1,by simp [g2],?_,fun y hy=>?_⟩
   ·have one:RowD D w sz (a.eval x).cells.toList [cs.map PV.sh]:=by
     refine⟨by simpa using hsz,fun i e he=>?_,fun j hj=>?_,fun i e j p he hp=>?_⟩
     ·have:i=0:=by have:=(List.getElem?_eq_some_iff.1 he).1;simpa using this
      subst this;simp at he;subst he;simpa using h1
     ·have hj':j<cs.length:=by rw [h1,<-hsz];simpa using hj
      have:=(h4.2 j _ (List.getElem?_eq_getElem hj')).2
      simpa using this
     ·have:i=0:=by have:=(List.getElem?_eq_some_iff.1 he).1;simpa using this
      subst this;simp at he;subst he
      have:=(h5.2 j p hp).1
      simpa using this
    have:=one.append g3
    simpa using this
   ·rcases List.mem_cons.1 hy with rfl | hy
    ·exact hsz
    ·exact g4 y hy
theorem X5 {sz:Nat}:∀(l:List Value) (k:Nat) (done:List Value) (cells:Array Value),(∀ v ∈ l,v.cells.size=sz)->done.length=k * sz->cells.size=(k+l.length) * sz->(∀ j,j<done.length->cells[j]? = some (done.getD j undef)) ->
 ∃ cells',Instr.fill (fun i=>some (i * sz,sz)) cells (l.zipIdx k |>.map fun(v,i)=>(i,v))=some cells'/\cells'.toList=done++l.flatMap fun v=>v.cells.toList
 | [],k,done,cells,_,h2,h3,h4=>by
   refine⟨cells,rfl,?_⟩
   simp only [List.flatMap_nil,List.append_nil]
   apply List.ext_getElem?
   intro j
   rcases Nat.lt_or_ge j done.length with hj | hj
   ·have:=h4 j hj
    rw [List.getElem?_eq_getElem hj]
    simpa [List.getD_eq_getElem?_getD,List.getElem?_eq_getElem hj] using this
   ·rw [List.getElem?_eq_none hj,List.getElem?_eq_none (by simp [h3];simp at h3;omega)]
 | v::l,k,done,cells,h1,h2,h3,h4=>by
   have hv:=h1 v (by simp)
   simp only [List.length_cons] at h3
   have hle:k * sz+sz<=cells.size:=by
    rw [h3,<-Nat.succ_mul];exact Nat.mul_le_mul_right _ (by omega)
   obtain⟨f1,f2⟩:=x6 (k * sz) v.cells.toList 0 cells (by simp [hv];omega)
   have e:v.cells.zipIdx.foldl (fun(cs:Array Value) (c,j)=>cs.setIfInBounds (k * sz+j) c) cells=(v.cells.toList.zipIdx 0).foldl (fun(cs:Array Value) (c,j)=>cs.setIfInBounds (k * sz+j) c) cells:=by
    rw [<-Array.foldl_toList,Array.toList_zipIdx]
   rw [<-e] at f1 f2
   obtain⟨cells2,hc2⟩:∃ c,v.cells.zipIdx.foldl (fun(cs:Array Value) (c,j)=>cs.setIfInBounds (k * sz+j) c) cells=c:=⟨_,rfl⟩
   rw [hc2] at f1 f2
   obtain⟨cells',g1,g2⟩:=X5 l (k+1) (done++v.cells.toList) cells2 (fun u hu=>h1 u (by simp [hu])) (by simp [h2,hv,Nat.add_mul]) (by rw [f1,h3];congr 1;omega) (fun j hj=>by
    have hj2:j<cells2.size:=by rw [f1];simp [h2,hv] at hj;omega
    have hg:=f2 j
    rw [Array.getD_eq_getD_getElem?,Array.getElem?_eq_getElem hj2,Option.getD_some] at hg
    rw [Array.getElem?_eq_getElem hj2,hg]
    congr 1
    simp only [Nat.add_zero]
    rw [List.getD_eq_getElem?_getD (l:=done++_)]
    rcases Nat.lt_or_ge j done.length with hd | hd
    ·rw [if_neg (by omega),List.getElem?_append_left hd,<-List.getD_eq_getElem?_getD,Array.getD_eq_getD_getElem?,h4 j hd];rfl
    ·rw [if_pos (by simp [hv];simp [hv] at hj;omega),List.getElem?_append_right hd,List.getD_eq_getElem?_getD,h2])
   refine⟨cells',?_,by rw [g2];simp⟩
   simp only [List.zipIdx_cons,List.map_cons,Instr.fill]
   rw [if_neg (by simp [hv];omega),hc2]
   exact g1
section
variable {K:PV->Prop} (hR:Rd D ρ s (zB a) (zA o) w)
include hR
theorem KF {t e:TypeId} {n:Nat} {parts:Array (Nat × Operand)} {ie:TypeInfo} {zs:List PV} {ps:List PO} (ho:o.op=.buildSlice t n parts) (h1:P.underlying t=some (.slice e)) (h3:P.info? e=some ie) (hz:xg P e=some zs)
 (hp:Qu (parts.toList.map (·.2))=some ps) (hi:parts.toList.map (·.1)=List.range n) (hn:n * ie.size<=16777216) (hmx:n<=maxLen) {K':List (List PV)->Prop} (hk:yP s ie.size ps K') :
 ∃(es:List (List PV)) (cells':Array Value),K' es/\es.length=n/\(execOp a.eval o).run P w=.ok (.value (.slice (some ⟨w.heap.size,0,none⟩) n n)) (w.alloc (.cells cells' e))/\RowD D w ie.size cells'.toList es/\∀ j,j<cells'.toList.length->cells'[j]? = some (cells'.toList.getD j undef):=by
 obtain⟨i,z,g1,g2,rfl,g4⟩:=qJ hz
 rw [h3] at g1;cases g1
 have hlen:parts.toList.length=n:=by have:=congrArg List.length hi;simpa using this
 obtain⟨es,k1,k2,k3,k4⟩:=Yl (D:=D) (ρ:=ρ) (nb:=s.b.length) (w:=w) (a:=a) (s:=s) _ _ hp (fun x hx x' hx'=>hR.op hx' (by simpa [ho,Op.operands] using hx)) hk
 have hpl:parts.toList.map (fun(i,x)=>(i,a.eval x))=((parts.toList.map fun y=>a.eval y.2).zipIdx 0).map fun(v,i)=>(i,v):=by
  apply List.ext_getElem?
  intro j
  rcases Nat.lt_or_ge j parts.toList.length with hj | hj
  ·have h5:(parts.toList.map (·.1))[j]? = (List.range n)[j]?:=by rw [hi]
   rw [List.getElem?_map,List.getElem?_eq_getElem hj,List.getElem?_range (by omega)] at h5
   simp at h5
   simp [List.getElem?_eq_getElem hj,List.getElem?_zipIdx]
   have hj':j<parts.size:=by simpa using hj
   simp [hj',h5]
  ·rw [List.getElem?_eq_none (by simpa using hj),List.getElem?_eq_none (by simpa using hj)]
 have hel:es.length=n:=by rw [k2];simpa using hlen
 have hfill:∀ c0:Array Value,c0.size=n * ie.size->∃ cells',Instr.fill (fun i=>some (i * ie.size,ie.size)) c0 (parts.toList.map fun(i,x)=>(i,a.eval x))=some cells'/\cells'.toList=(parts.toList.map fun y=>a.eval y.2).flatMap fun v=>v.cells.toList:=fun c0 hc0=>by
  obtain⟨c',e1,e2⟩:=X5 (sz:=ie.size) (parts.toList.map fun y=>a.eval y.2) 0 [] c0 (fun v hv=>by
   simp only [List.mem_map] at hv
   obtain⟨y,hy,rfl⟩:=hv
   exact k4 _ (List.mem_map.2 ⟨y,hy,rfl⟩)) (by simp) (by rw [hc0];simp only [List.length_map,hlen,Nat.zero_add]) (fun j hj=>by simp at hj)
  rw [<-hpl] at e1
  exact⟨c',e1,by simpa using e2⟩
 have fin:∀ cells':Array Value,cells'.toList=((parts.toList.map fun y=>a.eval y.2).flatMap fun v=>v.cells.toList)->(execOp a.eval o).run P w=.ok (.value (.slice (some ⟨w.heap.size,0,none⟩) n n)) (w.alloc (.cells cells' e)) ->
  ∃(es:List (List PV)) (cells':Array Value),K' es/\es.length=n/\(execOp a.eval o).run P w=.ok (.value (.slice (some ⟨w.heap.size,0,none⟩) n n)) (w.alloc (.cells cells' e))/\RowD D w ie.size cells'.toList es/\∀ j,j<cells'.toList.length->cells'[j]? = some (cells'.toList.getD j undef):=by
  intro cells' f2 hr
  have hfl:(List.map (fun x=>x.snd) parts.toList).flatMap (fun x=>(a.eval x).cells.toList)=cells'.toList:=by rw [f2];simp [List.flatMap_map]
  rw [hfl] at k3
  have hget:∀ j,j<cells'.toList.length->cells'[j]? = some (cells'.toList.getD j undef):=fun j hj=>by
   have hj':j<cells'.size:=by simpa using hj
   simp [hj']
  exact⟨es,cells',k1,hel,hr,k3,hget⟩
 by_cases h0:n * ie.size=0
 ·obtain⟨cells',f1,f2⟩:=hfill ((Array.range (n * ie.size)).map fun x=>(#[]:Array Value)[x % (#[]:Array Value).size]!) (by simp)
  refine fin cells' f2 ?_
  have hn':¬(16777216<n * ie.size):=by omega
  rw [<-Array.toList_map] at f1
  simp [execOp,ho,Instr.buildSlice,run_underlying h1,zE h3,hn',h0,newRow] at f1 ⊢
  simp [f1]
 ·obtain⟨cells',f1,f2⟩:=hfill ((Array.range (n * ie.size)).map fun x=>z.cells[x % z.cells.size]!) (by simp)
  refine fin cells' f2 ?_
  have hn':¬(16777216<n * ie.size):=by omega
  rw [<-Array.toList_map] at f1
  have hzv:(zeroValue e).run P w=.ok z w:=by simp [zeroValue,typeInfo,h3,g2]
  have h0':¬(n=0\/ie.size=0):=by rw [<-Nat.mul_eq_zero];exact h0
  simp [execOp,ho,Instr.buildSlice,run_underlying h1,zE h3,hn',h0',hzv,newRow] at f1 ⊢
  simp [f1]
  exact fun h=>absurd h h0
theorem znk {t e:TypeId} {n:Nat} {parts:Array (Nat × Operand)} {ie:TypeInfo} {zs:List PV} {ps:List PO} (ho:o.op=.buildSlice t n parts) (h1:P.underlying t=some (.slice e)) (h3:P.info? e=some ie) (hz:xg P e=some zs)
 (hp:Qu (parts.toList.map (·.2))=some ps) (hi:parts.toList.map (·.1)=List.range n) (hn:n * ie.size<=16777216) (hmx:n<=maxLen) (hk:PK.q P s (.bs ie.size ps) K):QS P o D ρ s a w K:=by
 simp only [PK.q] at hk
 obtain⟨es,cells',k1,hel,hr,k3,hget⟩:=KF hR ho h1 h3 hz hp hi hn hmx hk
 have hb:Below w.heap.size w (w.alloc (.cells cells' e)):=(Below.refl _ _).alloc (Nat.le_refl _) _
 have k5:=k3.mono (D':=fun b o=>D b o\/w.heap.size<=b) (w':=w.alloc (.cells cells' e)) (fun _ _ h=>.inl h) fun b o x _ hx=>qa hb (qF hx) hx
 refine⟨_,k1,rfl,zlD hr hb (.dat ?_) fun _ _ _=>trivial⟩
 have:=jr (cap:=n) (k:=.z) (e:=e) (fr:=(0,0)) k5 (World.alloc_heap_new w (.cells cells' e)) hget (by omega) hmx (fun _=>by omega) (fun j _=>.inr (Nat.le_refl _))
 rw [hel] at this;exact this
end
section
variable {K:PV->Prop} (hR:Rd D ρ s (zB a) (zA o) w)
include hR
theorem kf {xs:List Operand} {ps:List PO} (hp:Qu xs=some ps) (hm:∀ x ∈ xs,x ∈ o.op.operands.toList) (hd:zY (ps.map fun x=>(s.ev x).sh)=true) :
 ps.length=xs.length/\∀(i:Nat) p,(ps.map fun x=>(s.ev x).sh)[i]? = some p->Dat D w ((xs.map a.eval).getD i undef) p:=by
 obtain⟨h1,h2⟩:=kz hp
 refine⟨h1,fun i p hp=>?_⟩
 have hp0:=hp
 simp only [List.getElem?_map,Option.map_eq_some_iff] at hp
 obtain⟨x',hx',rfl⟩:=hp
 have hi:i<xs.length:=by rw [<-h1];exact(List.getElem?_eq_some_iff.1 hx').1
 obtain⟨y',hy',hpo⟩:=h2 i _ (List.getElem?_eq_getElem hi)
 rw [hx'] at hy'
 cases hy'
 have e:(xs.map a.eval).getD i undef=a.eval xs[i]:=by simp [hi]
 rw [e]
 unfold zY at hd
 rw [List.all_eq_true] at hd
 exact((hR.op hpo (hm _ (List.getElem_mem hi))).data (by have:=hd _ (List.mem_of_getElem? hp0);rwa [PV.sh_isD] at this)).sh
omit hR in
theorem KG {f:FuncId} {ps:List PV} {r:PV} {vs:Array Value} (hgl:GL D w) (hC:Cn P f ps r) (hsz:vs.size=ps.length) (hd:∀(i:Nat) p,ps[i]? = some p->Dat D w (vs.getD i undef) p) (hr:(execOp a.eval o).run P w=.ok (.enter f vs) w) :
 ∀(next:Act->World->Prop) (Q:Exit->Act->World->Prop),(∀ u w' D',Below w.heap.size w w'->(∀ b o,D b o/\b<w.heap.size->D' b o)->(∀ b o,D' b o->(D b o/\b<w.heap.size)\/w.heap.size<=b)->(∀ b o,D' b o->b<w'.heap.size)->Dat D' w' u r->yW D' (fun k=>w.heap.size<=k) w' u r->next (a.put o.dst u) w')->o.wp P a w next Q:=by
 intro next Q hn
 show o.upon P a next Q ((execOp a.eval o).run P w)
 rw [hr,Oper.upon_enter]
 have hd':∀(i:Nat) p,ps[i]? = some p->Dat (fun b o=>D b o/\b<w.heap.size) w (vs.getD i undef) p:=fun i p hp=>(hd i p hp).restrict
 refine(hC.2 _ w vs (fun x hx=>⟨⟨(hgl x hx).1,World.block_lt_of_cell? w ⟨0,0,_⟩ (hgl x hx).2⟩,(hgl x hx).2⟩) (fun b o h=>h.2) hsz hd').mono ?_
 rintro e w' ⟨v,D',rfl,hb,h1,h2,h3,h4,h5⟩
 exact hn v w' D' hb h1 h2 h3 h4 h5
omit hR in
theorem zcb {f:FuncId} {ps:List PV} {r:PV} {vs:Array Value} (hgl:GL D w) (hC:Cn P f ps r) (hsz:vs.size=ps.length) (hd:∀(i:Nat) p,ps[i]? = some p->Dat D w (vs.getD i undef) p) (hr:(execOp a.eval o).run P w=.ok (.enter f vs) w) (hk:K r.strip):QS P o D ρ s a w K:=by
 refine⟨r.strip,hk,r.strip_own,fun next Q hn=>KG hgl hC hsz hd hr next Q fun u w' D' hb h1 h2 h3 h4 h5=>hn u w' hb ?_ fun _ _ _=>xA r.strip_isN⟩
 refine(Rel.dat h4.strip).mono (fun b o h=>?_) (fun _ _ _ _ h=>h) (Nat.le_refl _) fun _ _=>rfl
 rcases h2 b o h with h' | h'
 ·exact .inl h'.1
 ·exact .inr h'
omit hR in
theorem Jk {f:FuncId} {xs:List Operand} {c:Call} (ho:o.op=.call c) (hc:c.callee=.value (.func f)) (ha:c.args.toList=xs) (he:∀ args w,(callFunc f args).run P w=.ok (.enter f args) w) :
 (execOp a.eval o).run P w=.ok (.enter f (xs.map a.eval).toArray) w:=by
 have e:c.args.map a.eval=(xs.map a.eval).toArray:=Array.toList_inj.1 (by rw [Array.toList_map,ha])
 have e2:a.eval (.func f)=.func (.func f) #[] #[]:=rfl
 simp only [execOp,ho,resolve,hc,e,e2,Deferred.ofValue,Sem.run_bind,Sem.run_pure,Result.andThen_ok,invoke]
 rw [show (#[]++(xs.map a.eval).toArray++#[]:Array Value)=(xs.map a.eval).toArray from by simp]
 exact he _ _
theorem znl {f:FuncId} {xs:List Operand} {ps:List PO} {c:Call} (ho:o.op=.call c) (hc:c.callee=.value (.func f)) (ha:c.args.toList=xs) (hp:Qu xs=some ps) (hk:PK.q P s (.ca f ps) K):QS P o D ρ s a w K:=by
 simp only [PK.q] at hk
 obtain⟨r,hC,hd,hk⟩:=hk
 obtain⟨h1,h2⟩:=kf hR hp (fun x hx=>by rw [ho];simp only [Op.operands,Call.operands,hc,Array.toList_append,List.mem_append,ha];exact .inr hx) hd
 refine zcb hR.gl hC (by simp [h1]) (fun i p hp=>?_) (Jk ho hc ha hC.1) hk
 have:=h2 i p hp
 simpa using this
theorem znm {t:Tmp} {xs:List Operand} {ps:List PO} {c:Call} (ho:o.op=.call c) (hc:c.callee=.value (.tmp t)) (ha:c.args.toList=xs) (hp:Qu xs=some ps) (hk:PK.q P s (.cl (.t t) ps) K):QS P o D ρ s a w K:=by
 simp only [PK.q] at hk
 have hf:=hR.op (y:=.tmp t) (y':=.t t) rfl (by rw [ho];simp [Op.operands,Call.operands,hc])
 split at hk
 ·rename_i f fs cs e
  rw [e] at hf
  obtain⟨r,hC,hd,hk⟩:=hk
  have hdl:fs.all PV.isD=true/\zY (ps.map fun x=>(s.ev x).sh)=true/\cs.all PV.isD=true:=by
   unfold zY at hd ⊢
   simp only [List.all_append,Bool.and_eq_true] at hd
   exact⟨hd.1.1,hd.1.2,hd.2⟩
  obtain⟨h1,h2⟩:=kf hR hp (fun x hx=>by rw [ho];simp only [Op.operands,Call.operands,hc,Array.toList_append,List.mem_append,ha];exact .inr hx) hdl.2.1
  have hfd:∃ va vb,a.eval (.tmp t)=.func (.func f) va vb/\va.size=fs.length/\vb.size=cs.length/\(∀(i:Nat) p,fs[i]? = some p->Dat D w (va.getD i undef) p)/\(∀(i:Nat) p,cs[i]? = some p->Dat D w (vb.getD i undef) p):=by
   have hisD:(PV.fn (.func f) fs cs).isD=true:=by
    have key:∀ l:List PV,l.all PV.isD=true->l.all (fun p=>!p.isB)=true:=fun l h=>by
     rw [List.all_eq_true] at h ⊢
     intro p hp
     have:=h p hp
     cases p<;>first | rfl | cases this
    simp only [PV.isD,key _ hdl.1,key _ hdl.2.2,Bool.and_self]
   have:=hf.data hisD
   generalize a.eval (.tmp t)=z at this ⊢
   cases this with
   | fn f va vb fs cs h1 h2 h3 h4=>exact⟨va,vb,rfl,h1,h2,h3,h4⟩
  obtain⟨va,vb,ef,s1,s2,d1,d2⟩:=hfd
  have er:(execOp a.eval o).run P w=.ok (.enter f (va++(xs.map a.eval).toArray++vb)) w:=by
   have e:c.args.map a.eval=(xs.map a.eval).toArray:=Array.toList_inj.1 (by rw [Array.toList_map,ha])
   simp only [execOp,ho,resolve,hc,e,ef,Deferred.ofValue,Sem.run_bind,Sem.run_pure,Result.andThen_ok,invoke]
   exact hC.1 _ _
  refine zcb hR.gl hC (by simp [h1,s1,s2]) (fun i p hp=>?_) er hk
  rw [Array.getD_eq_getD_getElem?]
  rcases Nat.lt_or_ge i (fs.length+ps.length) with hi | hi
  ·rw [List.getElem?_append_left (by simp;omega)] at hp
   rw [Array.getElem?_append_left (by simp;omega)]
   rcases Nat.lt_or_ge i fs.length with hi2 | hi2
   ·rw [List.getElem?_append_left hi2] at hp
    rw [Array.getElem?_append_left (by omega)]
    have:=d1 i p hp
    rwa [Array.getD_eq_getD_getElem?] at this
   ·rw [List.getElem?_append_right hi2] at hp
    rw [Array.getElem?_append_right (by omega),s1]
    have:=h2 _ p hp
    simpa [List.getD_eq_getElem?_getD] using this
  ·rw [List.getElem?_append_right (by simp;omega)] at hp
   rw [Array.getElem?_append_right (by simp;omega)]
   have:=d2 _ p hp
   rw [Array.getD_eq_getD_getElem?] at this
   simpa [s1,h1] using this
 ·exact hk.elim
theorem zpU {t:Tmp} {m:String} {xs:List Operand} {ps:List PO} {c:Call} (ho:o.op=.call c) (hc:c.callee=.invoke (.tmp t) m) (ha:c.args.toList=xs) (hp:Qu xs=some ps) (hk:PK.q P s (.iv (.t t) m ps) K):QS P o D ρ s a w K:=by
 simp only [PK.q] at hk
 have hf:=hR.op (y:=.tmp t) (y':=.t t) rfl (by rw [ho];simp [Op.operands,Call.operands,hc])
 split at hk
 ·rename_i T p e
  rw [e] at hf
  obtain⟨f,hm,r,hC,hd,hk⟩:=hk
  have hdl:p.isD=true/\zY (ps.map fun x=>(s.ev x).sh)=true:=by
   unfold zY at hd ⊢
   simp only [List.all_cons,Bool.and_eq_true,PV.sh_isD] at hd
   exact hd
  obtain⟨h1,h2⟩:=kf hR hp (fun x hx=>by rw [ho];simp only [Op.operands,Call.operands,hc,Array.toList_append,List.mem_append,ha];exact .inr hx) hdl.2
  have hfd:∃ v,a.eval (.tmp t)=.iface T v/\Dat D w v p:=by
   have:=hf.data (by simp [PV.isD])
   generalize a.eval (.tmp t)=z at this ⊢
   cases this with
   | ifc t x p h=>exact⟨x,rfl,h⟩
  obtain⟨v,ef,dv⟩:=hfd
  have er:(execOp a.eval o).run P w=.ok (.enter f (#[v]++(xs.map a.eval).toArray)) w:=by
   have e:c.args.map a.eval=(xs.map a.eval).toArray:=Array.toList_inj.1 (by rw [Array.toList_map,ha])
   have e3:(#[Value.iface T v]++(xs.map a.eval).toArray).extract 1 (#[Value.iface T v]++(xs.map a.eval).toArray).size=(xs.map a.eval).toArray:=by
    apply Array.ext
    ·simp
    ·intro i hi1 hi2;simp
   have e4:(#[Value.iface T v]++(xs.map a.eval).toArray)[0]? = some (.iface T v):=by simp
   simp only [execOp,ho,resolve,hc,e,ef,Sem.run_bind,Sem.run_pure,Result.andThen_ok,invoke,e4,e3,hm v,hC.1]
  refine zcb hR.gl hC (by simp [h1]) (fun i q hq=>?_) er hk
  rw [Array.getD_eq_getD_getElem?]
  cases i with
  | zero=>
    simp only [List.getElem?_cons_zero,Option.some.injEq] at hq
    subst hq
    simpa using dv.sh
  | succ i=>
    have:=h2 i q (by simpa using hq)
    simpa [List.getD_eq_getElem?_getD] using this
 ·exact hk.elim
end
end Go.Proofs.YtonhfknjcbakiaaGreatDoor
namespace Go.Proofs.YtonhfknjcbakiaaGreatDoor
open Go.RowKit
attribute [local go_sem] Oper.semAt_some
def zn (p q:Bool):Bool:=p || q
def y5 (p q:Bool):Bool:=p && q
def zm (p q:Bool):Bool:=p && !q
theorem V4 (a b:List Iv) (va vb:Value) (w:World) (ha:Nrm a) (hb:Nrm b) (ra:RdR 0 w.heap.size w va a) (rb:RdR 0 w.heap.size w vb b) (hlen:a.length+b.length<=1073741824) :
 Calls Tryz.prog 69 #[va,vb] w fun e w'=>∃ v,e=.returned v/\OwnR w.heap.size w' v (qy zn a b)/\Below w.heap.size w w':=by
 have hm:=vG zn 115 (enters_of Tryz.func115 (by kernel_rfl) rfl) Kq a b va vb w ha hb ra rb hlen
 have HM:=Lib.hid hm
 clear hm
 obtain⟨a1,c1,rfl,_⟩:=ra
 obtain⟨a2,c2,rfl,_⟩:=rb
 go_enter Tryz.func69,Tryz.ntmps69
 go_wp2_with (go_at_call 114;refine HM.out.mono ?_;rintro e w' ⟨v,rfl,hv,hb⟩)
 go_ret
 exact⟨_,rfl,‹_›,‹_›⟩
theorem JW (a b:List Iv) (va vb:Value) (w:World) (ha:Nrm a) (hb:Nrm b) (ra:RdR 0 w.heap.size w va a) (rb:RdR 0 w.heap.size w vb b) (hlen:a.length+b.length<=1073741824) :
 Calls Tryz.prog 80 #[va,vb] w fun e w'=>∃ v,e=.returned v/\OwnR w.heap.size w' v (qy y5 a b)/\Below w.heap.size w w':=by
 have hm:=vG y5 123 (enters_of Tryz.func123 (by kernel_rfl) rfl) zbP a b va vb w ha hb ra rb hlen
 have HM:=Lib.hid hm
 clear hm
 obtain⟨a1,c1,rfl,_⟩:=ra
 obtain⟨a2,c2,rfl,_⟩:=rb
 go_enter Tryz.func80,Tryz.ntmps80
 go_wp2_with (go_at_call 114;refine HM.out.mono ?_;rintro e w' ⟨v,rfl,hv,hb⟩)
 go_ret
 exact⟨_,rfl,‹_›,‹_›⟩
theorem Zu (a b:List Iv) (va vb:Value) (w:World) (ha:Nrm a) (hb:Nrm b) (ra:RdR 0 w.heap.size w va a) (rb:RdR 0 w.heap.size w vb b) (hlen:a.length+b.length<=1073741824) :
 Calls Tryz.prog 124 #[va,vb] w fun e w'=>∃ v,e=.returned v/\OwnR w.heap.size w' v (qy zm a b)/\Below w.heap.size w w':=by
 have hm:=vG zm 169 (enters_of Tryz.func169 (by kernel_rfl) rfl) Kp a b va vb w ha hb ra rb hlen
 have HM:=Lib.hid hm
 clear hm
 obtain⟨a1,c1,rfl,_⟩:=ra
 obtain⟨a2,c2,rfl,_⟩:=rb
 go_enter Tryz.func124,Tryz.ntmps124
 go_wp2_with (go_at_call 114;refine HM.out.mono ?_;rintro e w' ⟨v,rfl,hv,hb⟩)
 go_ret
 exact⟨_,rfl,‹_›,‹_›⟩
theorem ziL {w:World} {B:Nat} {s:Iv} (h:w.heap[B]? = some (.cells #[.int .u64 s.lo,.int .u64 s.hi] 36 (0,0))) (h1:s.lo<zk) (h2:s.hi<zk):RdR 0 w.heap.size w (.slice (some ⟨B,0,none⟩) 1 1) [s]:=by
 refine⟨_,1,rfl,by simp,by decide,fun _=>⟨B,0,rfl,Nat.zero_le _,(Array.getElem?_eq_some_iff.1 h).1,fun i hi=>?_⟩⟩
 obtain rfl:i=0:=by simpa using hi
 exact⟨by simp [World.cell?,h],by simp [World.cell?,h],h1,h2⟩
theorem zbn (a:List Iv) (va:Value) (s:Iv) (w:World) (ha:Nrm a) (hs:s.lo<=s.hi) (hs':s.hi<zk) (ra:RdR 0 w.heap.size w va a) (hlen:a.length<=1073741823) :
 Calls Tryz.prog 126 #[va,.agg #[.int .u64 s.lo,.int .u64 s.hi]] w fun e w'=>∃ v,e=.returned v/\OwnR w.heap.size w' v (qy zm [s] a)/\Below w.heap.size w w':=by
 obtain⟨a1,c1,rfl,_⟩:=id ra
 go_enter Tryz.func126,Tryz.ntmps126
 go_wp2_with fail
 obtain⟨w1,hw1⟩:∃ w1,((w.alloc (Obj.cells #[Value.int IntKind.u64 s.lo,Value.int IntKind.u64 s.hi] 36)).alloc (Obj.cells #[Value.int IntKind.u64 s.lo,Value.int IntKind.u64 s.hi] 36))=w1:=⟨_,rfl⟩
 have hb1:Below w.heap.size w w1:=by rw [<-hw1];exact((Below.refl _ _).alloc (Nat.le_refl _) _).alloc (by simp) _
 have hn:w1.heap[w.heap.size+1]? = some (.cells #[.int .u64 s.lo,.int .u64 s.hi] 36 (0,0)):=by
  rw [<-hw1];have:=World.alloc_heap_new (w.alloc (Obj.cells #[Value.int IntKind.u64 s.lo,Value.int IntKind.u64 s.hi] 36)) (Obj.cells #[Value.int IntKind.u64 s.lo,Value.int IntKind.u64 s.hi] 36);rwa [World.size_alloc] at this
 rw [hw1]
 clear hw1
 refine(Zu [s] a _ _ w1 ⟨Nat.zero_le _,hs,hs',trivial⟩ ha (ziL hn (by omega) hs') ((ra.below hb1 (Nat.le_refl _)).keep (Nat.le_refl _) hb1.size fun _ _ _=>rfl) (by simp;omega)).mono ?_
 rintro e w2 ⟨v,rfl,hv,hb⟩
 go_wp2
 go_ret
 exact⟨_,rfl,hv.mono hb1.size,hb1.trans (hb.mono hb1.size)⟩
end Go.Proofs.YtonhfknjcbakiaaGreatDoor
namespace Go.Proofs.YtonhfknjcbakiaaGreatDoor
theorem xR (f:Bool->Bool->Bool) (a b:List Iv):(qy f a b).length<=2 * (a.length+b.length)+1:=Nat.le_trans (jD f _ _) (by simpa using jF a b)
structure En where
 rep:Nat
 max:Nat
 holes:List Iv
deriving DecidableEq
theorem En.ext' {e f:En} (h1:e.rep=f.rep) (h2:e.max=f.max) (h3:e.holes=f.holes):e=f:=by cases e;cases f;simp_all
def zO (e:En):Prop:=Nrm e.holes/\(∀ s ∈ e.holes,s.hi<=e.max)/\e.max<zk/\e.rep<zk
theorem qG {m n:Nat} (h:m<=n) (h':n<zk):Nrm [⟨m,n⟩]:=⟨Nat.zero_le _,h,h',trivial⟩
theorem jl (m n x:Nat):mem [⟨m,n⟩] x=(decide (m<=x) && decide (x<=n)):=by simp [mem]
def kn (e:En):List Iv:=qy zm [⟨0,e.max⟩] e.holes
theorem qT {e:En} (h:zO e):Nrm (kn e):=qH (qG (Nat.zero_le _) h.2.2.1) h.1
theorem vC {e:En} (h:zO e) {x:Nat} (hx:x<zk):mem (kn e) x=(decide (x<=e.max) && !mem e.holes x):=by
 unfold kn
 rw [qj (qG (Nat.zero_le _) h.2.2.1) h.1 hx,jl]
 simp [zm]
def QV (l:List Iv):Nat:=match l.getLast? with
 | some s=>s.hi
 | none=>0
theorem Kr {l:List Iv} (h:0<l.length):l[l.length - 1].hi=QV l:=by
 unfold QV
 rw [List.getLast?_eq_getElem?,List.getElem?_eq_getElem (by omega)]
theorem x9 {l:List Iv} (hl:Nrm l) (h:l≠[]):mem l (QV l)=true/\QV l<zk:=by
 have h':0<l.length:=List.length_pos_iff.2 h
 have:=NF.lo_ge hl l[l.length - 1] (List.getElem_mem _)
 rw [<-Kr h']
 exact⟨qf.2 ⟨_,List.getElem_mem _,this.2.1,Nat.le_refl _⟩,this.2.2⟩
theorem zek {l:List Iv} (hl:Nrm l) {x:Nat} (hx:mem l x=true):x<=QV l:=by
 obtain⟨s,hs,h1,h2⟩:=qf.1 hx
 have hne:l≠[]:=by intro e;subst e;cases hs
 obtain⟨k,t,rfl⟩:=List.eq_nil_or_concat l |>.resolve_left hne
 unfold QV
 rw [List.concat_eq_append] at *
 rw [List.getLast?_concat]
 rcases List.mem_append.1 hs with h | h
 ·have:=hl.last_lt s h
  have:=(NF.lo_ge hl t (by simp)).2.1
  simp only;omega
 ·simp at h;subst h;exact h2
def Qi (r:Nat) (l:List Iv):En × Bool:=if l=[] then (⟨0,0,[]⟩,false) else (⟨r,QV l,qy zm [⟨0,QV l⟩] l⟩,true)
theorem qD {r:Nat} {l:List Iv} (h:l≠[]):Qi r l=(⟨r,QV l,qy zm [⟨0,QV l⟩] l⟩,true):=if_neg h
theorem zaj (r:Nat) (l:List Iv):(Qi r l).2=decide (l≠[]):=by
 unfold Qi
 split
 ·rename_i h;simp [h]
 ·rename_i h;simp [h]
theorem k9 {r:Nat} {l:List Iv} (hr:r<zk) (hl:Nrm l):zO (Qi r l).1:=by
 by_cases h:l=[]
 ·subst h;exact⟨trivial,(fun _ h=>by cases h),xM,xM⟩
 ·rw [qD h]
  have ht:=(x9 hl h).2
  have hn:Nrm (qy zm [⟨0,QV l⟩] l):=qH (qG (Nat.zero_le _) ht) hl
  refine⟨hn,fun s hs=>?_,ht,hr⟩
  have h1:=NF.lo_ge hn s hs
  have h2:mem (qy zm [⟨0,QV l⟩] l) s.hi=true:=qf.2 ⟨s,hs,h1.2.1,Nat.le_refl _⟩
  rw [qj (qG (Nat.zero_le _) ht) hl h1.2.2,jl] at h2
  simp [zm] at h2
  exact h2.1
theorem JO {r:Nat} {l:List Iv} (hr:r<zk) (hl:Nrm l) (h:l≠[]):kn (Qi r l).1=l:=by
 have hR:=k9 hr hl
 refine Nrm.unique (qT hR) hl fun x hx=>?_
 rw [vC hR hx]
 rw [qD h]
 have ht:=(x9 hl h).2
 simp only
 rw [qj (qG (Nat.zero_le _) ht) hl hx,jl]
 simp only [zm]
 by_cases hxt:x<=QV l
 ·simp [hxt]
 ·have:mem l x=false:=by
   cases e:mem l x with
   | false=>rfl
   | true=>exact absurd (zek hl e) hxt
  simp [hxt,this]
def YP (e:En):Prop:=zO e/\∀ s ∈ e.holes,s.hi<e.max
theorem zeO {e:En} (h:YP e):mem e.holes e.max=false:=by
 cases h':mem e.holes e.max with
 | false=>rfl
 | true=>
   obtain⟨s,hs,_,h2⟩:=qf.1 h'
   have:=h.2 s hs
   omega
theorem jO {e:En} (h:YP e):kn e≠[]/\QV (kn e)=e.max:=by
 have hm:mem (kn e) e.max=true:=by rw [vC h.1 h.1.2.2.1,zeO h];simp
 have hne:kn e≠[]:=by intro h';rw [h'] at hm;cases hm
 refine⟨hne,?_⟩
 have h1:=zek (qT h.1) hm
 have h2:=x9 (qT h.1) hne
 rw [vC h.1 h2.2] at h2
 simp at h2
 omega
theorem ZM {e:En} (h:YP e):Qi e.rep (kn e)=(e,true):=by
 obtain⟨h1,h2⟩:=jO h
 rw [qD h1,h2]
 have:qy zm [⟨0,e.max⟩] (kn e)=e.holes:=by
  refine vK (qG (Nat.zero_le _) h.1.2.2.1) (qT h.1) h.1.1 fun x hx=>?_
  rw [vC h.1 hx,jl]
  simp only [zm]
  by_cases hx':x<=e.max
  ·simp [hx']
  ·have:mem e.holes x=false:=by
    cases h':mem e.holes x with
    | false=>rfl
    | true=>
      obtain⟨s,hs,_,h2⟩:=qf.1 h'
      have:=h.1.2.1 s hs
      omega
   simp [hx',this]
 rw [this]
theorem zak {r:Nat} {l:List Iv} (hr:r<zk) (hl:Nrm l) (h:l≠[]):YP (Qi r l).1:=by
 refine⟨k9 hr hl,fun s hs=>?_⟩
 have hR:=k9 hr hl
 have h1:=hR.2.1 s hs
 rcases Nat.lt_or_eq_of_le h1 with h2 | h2
 ·exact h2
 ·have h3:mem (Qi r l).1.holes (Qi r l).1.max=true:=qf.2 ⟨s,hs,by have:=NF.lo_ge hR.1 s hs;omega,by omega⟩
  have h4:=x9 hl h
  have h5:mem (kn (Qi r l).1) (QV l)=true:=by rw [JO hr hl h];exact h4.1
  rw [vC hR h4.2] at h5
  rw [qD h] at h3 h5
  simp only at h3 h5
  rw [h3] at h5
  simp at h5
theorem Jm {e:En} (h:zO e) {l:List Iv} {s:Iv} (hs:e.holes=l++[s]) (hm:e.max<=s.hi) (h0:0<s.lo):zO ⟨e.rep,s.lo - 1,l⟩/\kn ⟨e.rep,s.lo - 1,l⟩=kn e:=by
 have hn:Nrm (l++[s]):=hs ▸ h.1
 have hs1:=NF.lo_ge hn s (by simp)
 have hR:zO ⟨e.rep,s.lo - 1,l⟩:=by
  refine⟨hn.init,fun t ht=>?_,?_,h.2.2.2⟩
  ·have:=hn.last_lt t ht
   simp only;omega
  ·simp only;omega
 refine⟨hR,Nrm.unique (qT hR) (qT h) fun x hx=>?_⟩
 have hmax:s.hi=e.max:=by have:=h.2.1 s (by rw [hs];simp);omega
 rw [vC hR hx,vC h hx,hs,yd,mem_one' s x]
 simp only
 by_cases h1:x<=s.lo - 1
 ·have e1:x<=e.max:=by omega
  have e2:¬ s.lo<=x:=by omega
  simp [h1,e1,e2]
 ·by_cases h2:x<=e.max
  ·have e2:s.lo<=x:=by omega
   have e3:x<=s.hi:=by omega
   simp [h1,e2,e3]
  ·simp [h1,h2]
where mem_one' (s:Iv) (x:Nat):mem [s] x=(decide (s.lo<=x) && decide (x<=s.hi)):=by simp [mem]
theorem Jl {e:En} (h:zO e) {l:List Iv} {s:Iv} (hs:e.holes=l++[s]) (hm:e.max<=s.hi) (h0:s.lo=0):kn e=[]:=by
 refine Nrm.unique (qT h) trivial fun x hx=>?_
 rw [vC h hx,hs,yd]
 by_cases h2:x<=e.max
 ·have:mem [s] x=true:=qf.2 ⟨s,by simp,by omega,by omega⟩
  simp [this]
 ·simp [h2]
theorem Xb {e:En} (h:zO e) (hh:e.holes=[]):YP e:=⟨h,fun s hs=>by rw [hh] at hs;cases hs⟩
theorem zcc {e:En} (h:zO e) {l:List Iv} {s:Iv} (hs:e.holes=l++[s]) (hm:s.hi<e.max):YP e:=by
 refine⟨h,fun t ht=>?_⟩
 rw [hs] at ht
 have hn:Nrm (l++[s]):=hs ▸ h.1
 have hs1:=NF.lo_ge hn s (by simp)
 rcases List.mem_append.1 ht with h1 | h1
 ·have:=hn.last_lt t h1;omega
 ·simp at h1;subst h1;exact hm
theorem J0 (r:Nat) (l:List Iv):(Qi r l).1.holes.length<=2 * l.length+3:=by
 by_cases h:l=[]
 ·subst h;simp [Qi]
 ·rw [qD h]
  have:=xR zm [⟨0,QV l⟩] l
  simp at this ⊢
  omega
theorem kW (e:En):(kn e).length<=2 * e.holes.length+3:=by
 have:=xR zm [⟨0,e.max⟩] e.holes
 simp at this
 unfold kn;omega
end Go.Proofs.YtonhfknjcbakiaaGreatDoor
namespace Go.Proofs.YtonhfknjcbakiaaGreatDoor
open Go.RowKit
variable {P:Program} {o:Oper} {D:Nat->Nat->Prop} {ρ:Nat->Nat} {nb:Nat} {s:PS} {a:Act} {w:World}
theorem x5 {u:Value} {es:List (List PV)} {k:Ow} {sz:Nat} (h:Rel D ρ nb w u (.sl es k)) (hs:∀ e ∈ es,e.length=sz):∃(ad:Option Addr) (cap:Nat) (vs:List Value),u=.slice ad es.length cap/\es.length<=cap/\cap<=maxLen/\(k=.z->cap=es.length) /\
 RowD D w sz vs es/\(es≠[]->∃ b off,ad=some ⟨b,off,none⟩/\∀ j v,vs[j]? = some v->D b (off+j)/\w.cell? ⟨b,off+j,none⟩=some v):=by
 obtain⟨ad,cap,sz',b,off,f,e1,hc,hz,hm,ha,hsz,hD,hd⟩:=h.inv_sl
 cases es with
 | nil=>exact⟨ad,cap,[],e1,hc,hm,hz,⟨by simp,fun i e h=>by simp at h,fun j h=>by simp at h,fun i e j p h=>by simp at h⟩,fun h=>absurd rfl h⟩
 | cons e es=>
   have hss:sz'=sz:=(hsz 0 e rfl).symm.trans (hs e (by simp))
   subst hss
   refine⟨ad,cap,(List.range ((e::es).length * sz')).map f,e1,hc,hm,hz,⟨by simp,hsz,fun j hj=>?_,fun i e' j p he hp=>?_⟩,fun hne=>⟨b,off,ha hne,fun j v hv=>?_⟩⟩
   ·have hj':j<(e::es).length * sz':=by simpa using hj
    rw [List.getD_eq_getElem?_getD,List.getElem?_map,List.getElem?_range hj']
    exact(hD j hj').2.2
   ·have hlt:=zej (List.getElem?_eq_some_iff.1 he).1 (show j<sz' by rw [<-hsz _ _ he];exact(List.getElem?_eq_some_iff.1 hp).1)
    rw [List.getD_eq_getElem?_getD,List.getElem?_map,List.getElem?_range hlt]
    exact hd i e' j p he hp
   ·have hj':j<(e::es).length * sz':=by have:=(List.getElem?_eq_some_iff.1 hv).1;simpa using this
    rw [List.getElem?_map,List.getElem?_range hj'] at hv
    simp at hv
    subst hv
    exact⟨(hD j hj').1,(hD j hj').2.1⟩
theorem Xv {sz:Nat} {vs:List Value} {es:List (List PV)} (h:RowD D w sz vs es):∀ u ∈ vs,u.oneCell'=true:=fun u hu=>by
 obtain⟨j,hj⟩:=List.getElem?_of_mem hu
 have:=h.2.2.1 j (List.getElem?_eq_some_iff.1 hj).1
 rwa [List.getD_eq_getElem?_getD,hj] at this
structure ApOp (P:Program) (o:Oper) (x y:Operand) (t e:TypeId) (i:TypeInfo) (z:Value):Prop where
 ho:∃ c,o.op=.call c/\c.callee=.builtin .append/\c.args=#[x,y]/\c.argTypes=#[t,t]
 ht:P.underlying t=some (.slice e)
 hi:P.info? e=some i
 hz:i.zero=some z
 hzs:z.cells.size=i.size
 hs:0<i.size
 hb:0<i.bytes
theorem ApOp.run {x y:Operand} {t e:TypeId} {i:TypeInfo} {z:Value} (h:ApOp P o x y t e i z) {u v r:Value} {w':World} (hx:a.eval x=u) (hy:a.eval y=v) (hr:(Builtin.append_ #[t,t] o.type #[u,v]).run P w=.ok r w') :
 (execOp a.eval o).run P w=.ok (.value r) w':=by
 obtain⟨c,ho,hc,ha,hat⟩:=h.ho
 simp only [execOp,ho,resolve,hc,ha,hat,List.map_toArray,List.map_cons,List.map_nil,hx,hy,invoke,builtin,Sem.run_bind,Sem.run_pure,Result.andThen_ok,hr]
theorem vl {t ty e:TypeId} {i:TypeInfo} (ht:P.underlying t=some (.slice e)) (hi:P.info? e=some i) (ad ad':Option Addr) (n cap c:Nat) (hc:n<=cap) :
 (Builtin.append_ #[t,t] ty #[.slice ad n cap,.slice ad' 0 c]).run P w=.ok (.slice ad n cap) w:=by
 cases ad<;>cases ad'<;>simp [Builtin.append_,run_underlying ht,zE hi,Builtin.lenOf,hc,Builtin.firstCells,loadCells,loadCellsFrom,storeCells]
theorem yJ {t ty e:TypeId} {i:TypeInfo} {z:Value} (ht:P.underlying t=some (.slice e)) (hi:P.info? e=some i) (hz:i.zero=some z) (hzs:z.cells.size=i.size) (hb:0<i.bytes) {ad:Option Addr} {b':Addr} {n m cap c:Nat} {olds news:List Value} (hlo:olds.length=n * i.size) (hl:news.length=m * i.size)
 (hold:n≠0->∃ b,ad=some b/\∀ j v,olds[j]? = some v->w.cell? (b.add j)=some v) (hnil:ad=none->cap=0) (hnew:∀ j v,news[j]? = some v->w.cell? (b'.add j)=some v) (hcap:cap<n+m) (hby:(n+m) * i.bytes<=140737488355328) :
 ∃ cap' cs,(Builtin.append_ #[t,t] ty #[.slice ad n cap,.slice (some b') m c]).run P w=.ok (.slice (some ⟨w.heap.size,0,none⟩) (n+m) cap') (w.drew.alloc (.cells cs e))/\n+m<=cap'/\cap'<=maxLen/\cs.size=cap' * i.size/\∀ j,j<(olds++news).length->cs[j]? = some ((olds++news).getD j undef):=by
 have h63:n+m<=9223372036854775807:=by
  have:=Nat.le_mul_of_pos_right (n+m) hb;omega
 have hfit:=growslice_fits (old:=cap) (need:=n+m) (by omega) hby
 have get:∀(cap':Nat) (l:List Value),(∀ j,j<l.length->(l.toArray++Builtin.zeroCells z.cells cap')[j]? = some (l.getD j undef)):=fun cap' l j hj=>by
  rw [Array.getElem?_append_left (by simpa using hj)]
  simp [hj]
 have hml:n+m<=maxLen:=by unfold maxLen;omega
 cases ad with
 | none=>
   have hc0:=hnil rfl
   subst hc0
   have hn0:n=0:=by
    rcases Nat.eq_zero_or_pos n with h | h
    ·exact h
    ·obtain⟨b,e,_⟩:=hold (by omega);cases e
   subst hn0
   have ho:olds=[]:=List.eq_nil_of_length_eq_zero (by simpa using hlo)
   subst ho
   have hr:=run_append_nil (P:=P) w t ty e i z ht hi hz b' m c news hl hnew (by omega) (by omega) (by simp only [Nat.zero_add] at hby;omega)
   refine⟨_,_,by simpa using hr,by simpa using grownCap_ge w m 0 e,grownCap_le_maxLen w m 0 e (by omega),?_,fun j hj=>by simpa using get _ news j (by simpa using hj)⟩
   have:=grownCap_ge w m 0 e
   simp only [Array.size_append,List.size_toArray,size_zeroCells,hzs,hl,<-Nat.add_mul]
   congr 1;omega
 | some b=>
   have hold':∀ j v,olds[j]? = some v->w.cell? (b.add j)=some v:=by
    rcases Nat.eq_zero_or_pos n with h | h
    ·subst h
     have ho:olds=[]:=List.eq_nil_of_length_eq_zero (by simpa using hlo)
     subst ho
     intro j v hv;simp at hv
    ·obtain⟨b2,e,h2⟩:=hold (by omega);cases e;exact h2
   have hr:=run_append_grow (P:=P) w t ty e i z ht hi hz b n cap olds hlo hold' b' m c news hl hnew hcap (by omega) hfit
   refine⟨_,_,hr,grownCap_ge w (n+m) cap e,grownCap_le_maxLen w (n+m) cap e hml,?_,fun j hj=>?_⟩
   ·have:=grownCap_ge w (n+m) cap e
    simp only [Array.size_append,List.size_toArray,size_zeroCells,hzs,hl,hlo,<-Nat.add_mul]
    congr 1;omega
   ·have:=get (grownCap w (n+m) cap e - (n+m)) (olds++news) j hj
    rw [<-this]
    simp
theorem zjv {x y:Operand} {t e:TypeId} {i:TypeInfo} {z:Value} (h:ApOp P o x y t e i z) {es es':List (List PV)} {k:Ow} (hx:Rel D ρ nb w (a.eval x) (.sl es .z)) (hy:Rel D ρ nb w (a.eval y) (.sl es' k))
 (h1:∀ e ∈ es,e.length=i.size) (h2:∀ e ∈ es',e.length=i.size) (hby:(es.length+es'.length) * i.bytes<=140737488355328) :
 (es'=[]/\(execOp a.eval o).run P w=.ok (.value (a.eval x)) w)\/∃ cap' cs vs,(execOp a.eval o).run P w=.ok (.value (.slice (some ⟨w.heap.size,0,none⟩) (es.length+es'.length) cap')) (w.drew.alloc (.cells cs e))/\(es++es').length<=cap'/\cap'<=maxLen/\cs.size=cap' * i.size /\
   RowD D w i.size vs (es++es')/\∀ j,j<vs.length->cs[j]? = some (vs.getD j undef):=by
 obtain⟨ad,cap,vs,e1,c1,c2,c3,r1,g1⟩:=x5 hx h1
 obtain⟨ad',cap',vs',e2,d1,d2,_,r2,g2⟩:=x5 hy h2
 have hcap:=c3 rfl
 by_cases hes:es'=[]
 ·subst hes
  left
  refine⟨rfl,?_⟩
  rw [e1]
  exact h.run e1 e2 (vl h.ht h.hi _ _ _ _ _ (by omega))
 ·right
  obtain⟨b',off',rfl,g3⟩:=g2 hes
  have hpos:0<es'.length:=List.length_pos_iff.2 hes
  obtain⟨cp,cs,hr,k1,k2,k3,k4⟩:=yJ (P:=P) (w:=w) (ty:=o.type) (c:=cap') (ad:=ad) (cap:=cap) h.ht h.hi h.hz h.hzs h.hb r1.1 r2.1 (fun hn=>by
   obtain⟨b,off,rfl,g4⟩:=g1 (by intro e;subst e;simp at hn)
   exact⟨_,rfl,fun j v hv=>by rw [zh];exact(g4 j v hv).2⟩) (fun hn=>by
   by_cases he:es=[]
   ·subst he;simpa using hcap
   ·obtain⟨b,off,e,_⟩:=g1 he;rw [hn] at e;cases e) (fun j v hv=>by rw [zh];exact(g3 j v hv).2) (by omega) hby
  exact⟨cp,cs,vs++vs',h.run e1 e2 hr,by simpa using k1,k2,k3,r1.append r2,k4⟩
section
variable {K:PV->Prop} (hR:Rd D ρ s (zB a) (zA o) w)
include hR
theorem znj {x y:Operand} {x' y':PO} {t e:TypeId} {i:TypeInfo} {z:Value} (h:ApOp P o x y t e i z) (hx:po x=some x') (hy:po y=some y') (hk:PK.q P s (.ap x' y' i.size i.bytes) K):QS P o D ρ s a w K:=by
 simp only [PK.q] at hk
 obtain⟨c,ho,hc,hca,_⟩:=h.ho
 have hrx:=hR.op hx (by rw [ho];simp [Op.operands,Call.operands,hc,hca])
 have hry:=hR.op hy (by rw [ho];simp [Op.operands,Call.operands,hc,hca])
 split at hk
 ·rename_i es ex
  obtain⟨es',k,ey,h1,h2,h3,h4⟩:=y8 hk
  rw [ex] at hrx
  rw [ey] at hry
  rcases zjv h hrx hry h1 h2 h3 with⟨rfl,hr⟩ | ⟨cap',cs,vs,hr,k1,k2,k3,k4,k5⟩
  ·obtain⟨ad,cap,sz,b,off,f,e3,c1,c2,c3,c4,c5,c6,c7⟩:=hrx.inv_sl
   refine⟨_,h4,rfl,zby hr ?_ fun _ _ _=>.inl ⟨ad,by rw [e3,c2 rfl];simp⟩⟩
   rw [List.append_nil,e3]
   exact .dat (.sl ad cap sz es _ b off f c1 (fun h=>by cases h) c3 c4 c5 c6 c7)
  ·have hb:Below w.heap.size w (w.drew.alloc (.cells cs e)):=(show Below w.heap.size w w.drew from ⟨rfl,rfl,rfl,Nat.le_refl _,fun _ _=>rfl⟩).alloc (Nat.le_refl _) _
   refine⟨_,h4,rfl,zlD hr hb (.dat ?_) fun _ _ hN=>.inr ⟨w.heap.size,cap',cs,e,hN.1,by simp,World.alloc_heap_new w.drew (.cells cs e),k3⟩⟩
   have k6:=k4.mono (D':=fun b o=>D b o\/w.heap.size<=b) (w':=w.drew.alloc (.cells cs e)) (fun _ _ h=>.inl h) fun b o x _ hx=>qa hb (qF hx) hx
   have:=jr (k:=.n i.size) (e:=e) (fr:=(0,0)) k6 (World.alloc_heap_new w.drew (.cells cs e)) k5 k1 k2 (fun h=>by cases h) (fun j _=>.inr (Nat.le_refl _))
   simpa using this
 ·exact hk.elim
end
end Go.Proofs.YtonhfknjcbakiaaGreatDoor
namespace Go.Proofs.YtonhfknjcbakiaaGreatDoor
open Go.RowKit
attribute [local go_sem] Oper.semAt_some
theorem kc {w:World} {ops:Array Oper} {rest:List Oper} {o:Oper} {a:Act} {Q:Exit->Act->World->Prop} (hgd:o.guard=none) (s x:Operand)
 (ho:o.op=.call { callee:=.builtin .append,args:=#[s,x],argTypes:=#[30,30] }) (i:TypeInfo) (z:Value) (bytes:Nat)
 (hi:Tryz.prog.info? 36 = some i) (hz:i.zero=some z) (hsize:i.size=2) (hby:i.bytes=bytes) (hbb:bytes<=64) (hzs:z.cells.size=2)
 (B:Nat) (hs:a.eval s=.slice (some ⟨B,0,none⟩) 0 0) (hB:w.heap[B]? = some (.cells #[] 36 (0,0))) (n0:Nat) (hn0:n0<=B)
 {v:Value} {l:List Iv} (hx:a.eval x=v) (hr:RdR 0 w.heap.size w v l) (hl:l.length<=1099511627776)
 (h:∀ v' w',OwnR n0 w' v' l->Below B w w'->wpList Tryz.prog ops Q rest (a.put o.dst v') w') :
 wpList Tryz.prog ops Q (o::rest) a w:=by
 have hBl:B<w.heap.size:=(Array.getElem?_eq_some_iff.1 hB).1
 have hown:w.ownsRow n0 36 2 (.slice (some ⟨B,0,none⟩) 0 0) 0 []:=⟨rfl,.inr ⟨B,0,#[],rfl,hn0,hB,Nat.le_refl _,by decide,rfl,rfl⟩⟩
 have hbd:=hr.bound
 obtain⟨ad,cap,rfl,hlc,hcm,hc⟩:=hr
 cases ad with
 | none=>
   obtain rfl:l=[]:=by
    cases l with
    | nil=>rfl
    | cons s l=>obtain⟨b,off,e,_⟩:=hc (by simp);cases e
   refine wpList_plain hgd fun K hK=>?_
   have hfin:OwnR n0 w (.slice (some ⟨B,0,none⟩) 0 0) []:=⟨hown,by simp⟩
   have hq:=hK _ _ (h _ _ hfin (Below.refl _ _))
   clear hown hc hbd h hK hfin
   simp only [List.length_nil] at hx
   unfold Oper.wp execOp
   simp only [ho,resolve,invoke,builtin,Sem.run_bind,Sem.run_pure,Result.andThen_ok,List.map_toArray,List.map_cons,List.map_nil,hs,hx]
   go_simp
   exact hq
 | some ad=>
   refine wpList_append_own_at (P:=Tryz.prog) w hgd s x 30 ho n0 36 i z 2 bytes Tryz.underlying30 hi hz hsize hby hzs (by decide) _ 0 [] hs hown ad l.length cap (xw l) hx (y6 l) ?_ ?_ (by unfold maxLen;omega) ?_ (by omega) ?_
   ·intro j u hj
    have hlt:j<l.length * 2:=by
     have:=(List.getElem?_eq_some_iff.1 hj).1
     rwa [y6] at this
    have hne:l≠[]:=by intro e;subst e;simp at hlt
    obtain⟨b,off,e,_,_,hcell⟩:=hc hne
    cases e
    have hadd:(⟨b,off,none⟩:Addr).add j=⟨b,off+j,none⟩:=by unfold Addr.add;split<;>simp_all
    rw [hadd]
    have hk:j / 2<l.length:=by omega
    obtain⟨g1,g2,_⟩:=hcell (j / 2) hk
    obtain⟨f1,f2⟩:=vz l (j / 2) hk
    rcases Nat.mod_two_eq_zero_or_one j with h0 | h0
    ·have e:j / 2 * 2=j:=by omega
     rw [e] at g1 f1
     rw [f1] at hj
     cases hj
     exact g1
    ·have e:j / 2 * 2+1=j:=by omega
     rw [show off+j / 2 * 2+1=off+j from by omega] at g2
     rw [e] at f2
     rw [f2] at hj
     cases hj
     exact g2
   ·intro u hu
    simp [xw] at hu
    obtain⟨s,_,rfl | rfl⟩:=hu<;>rfl
   ·calc (0+l.length) * bytes<=1099511627776 * 64:=Nat.mul_le_mul (by omega) hbb
     _<=140737488355328:=by decide
   ·intro v' w' ho hg _ hv
    refine h v' w' ⟨?_,hbd⟩ ⟨hg.os,hg.tape,hg.output,hg.size,fun k hk=>hg.block k (by omega) (by simp [Value.ownBlock];omega)⟩
    simpa using ho
end Go.Proofs.YtonhfknjcbakiaaGreatDoor
