import Derived.Test.YtopfkkogooocgaaGreatB30
import Derived.Test.YtopfkkogooocgaaGreatB45
set_option maxHeartbeats 16000000
set_option linter.unusedVariables false
set_option linter.unusedSimpArgs false
set_option maxRecDepth 100000
namespace Go.Proofs.YtopfkkogooocgaaGreat
open Go.RowKit
theorem zhj (f:Fg) (v:List En) (hf:∀ e ∈ f.vec,ZL e) (hv:∀ e ∈ v,ZL e) (lf:(zv f.vec).length<=1073741824) (lv:(zv v).length<=1073741824):Cn Tryz.prog 39 [fp f,vp v] (.v (.int .i64 (zZ (zv f.vec) (zv v)))):=by
 refine zt Tryz.func39 2 ?_
 refine pw ?_
 exact .d (Ks f.vec v hf hv lf lv)
theorem zhm (k:List Fg) (v:List En) (i:Nat) (hi:i<=k.length) (h1:∀ j,(h:j<k.length)->j<i->ZH k[j].vec v) (h2:∀ j,(h:j<k.length)->i<=j->¬ ZH k[j].vec v) (hl:k.length<=1152921504606846976)
 (hc:∀ f ∈ k,Cn Tryz.prog 39 [fp f,vp v] (.v (.int .i64 (zZ (zv f.vec) (zv v))))) :
 Cn Tryz.prog 38 [kp k,vp v,.fn (.func 39) [] []] (.tup [.v (.int .i64 i),.v (.bool (if h:i<k.length then decide (zZ (zv k[i].vec) (zv v)=0) else false))]):=by
 refine zt Tryz.func38 3 ?_
 refine pw ?_
 refine pLoop.go (fun p:Nat × Nat=>p.1<=i/\i<=p.2/\p.2<=k.length) (fun p=>[(9,.v (.int .i64 (p.1:Nat))),(10,.v (.int .i64 (p.2:Nat)))]) (fun _=>[]) (fun p=>p.2 - p.1) (0,k.length) [9,10] ?_ ?_ ?_
 ·exact⟨Nat.zero_le _,hi,Nat.le_refl _⟩
 ·exact pd
 ·rintro⟨p,q⟩ ⟨k1,k2,k3⟩
  simp only at k1 k2 k3
  refine pw ?_
  refine .i ?_ ?_<;>intro h<;>(try simp only [zb] at h)<;>first | refine pw ?_ | exact pd
  ·have hm:(p+q) / 2<k.length:=by omega
   have a1:=h1 _ hm
   have a2:=h2 _ hm
   refine pw ?_
   (first | refine .c (hc k[(p+q) / 2] (List.getElem_mem hm)) ?_ | refine .o (hc k[(p+q) / 2] (List.getElem_mem hm)) ?_)
   refine .i ?_ ?_<;>intro h4<;>(try simp only [zb] at h4)<;>first | refine pw ?_ | exact pd
   ·refine⟨((p+q) / 2+1,q),⟨?_,k2,k3⟩,by simp only;omega,rfl,rfl⟩
    simp only
    exact Nat.lt_of_not_le fun h5=>a2 h5 h4
   ·refine⟨(p,(p+q) / 2),⟨k1,?_,by simp only;omega⟩,by simp only;omega,rfl,rfl⟩
    simp only
    refine Nat.le_of_not_lt fun h5=>?_
    have:=a1 h5
    unfold ZH at this
    omega
  ·obtain rfl:p=i:=by omega
   obtain rfl:q=p:=by omega
   refine .i ?_ ?_<;>intro h4<;>(try simp only [zb] at h4)<;>first | refine pw ?_ | exact pd
   ·(first | refine .c (hc k[q] (List.getElem_mem h4)) ?_ | refine .o (hc k[q] (List.getElem_mem h4)) ?_)
    rw [dif_pos h4]
    try simp
   ·rw [dif_neg (by omega)]
theorem Qo:∀ {k:List Fg} (v:List En),k.Pairwise (fun f g=>ZH f.vec g.vec)->∃ i,i<=k.length/\(∀ j,(h:j<k.length)->j<i->ZH k[j].vec v)/\(∀ j,(h:j<k.length)->i<=j->¬ ZH k[j].vec v)
 | [],v,_=>⟨0,Nat.le_refl _,fun j h=>by simp at h,fun j h=>by simp at h⟩
 | f::k,v,hp=>by
   have hp':=List.pairwise_cons.1 hp
   by_cases h:ZH f.vec v
   ·obtain⟨i,h0,h1,h2⟩:=Qo v hp'.2
    refine⟨i+1,by simp;omega,fun j hj hlt=>?_,fun j hj hle=>?_⟩
    ·cases j with
     | zero=>exact h
     | succ j=>exact h1 j (by simpa using hj) (by omega)
    ·cases j with
     | zero=>omega
     | succ j=>exact h2 j (by simpa using hj) (by omega)
   ·refine⟨0,Nat.zero_le _,fun j _ h=>absurd h (Nat.not_lt_zero _),fun j hj _ hlt=>?_⟩
    cases j with
    | zero=>exact h hlt
    | succ j=>exact h (k8 (hp'.1 _ (List.getElem_mem (by simpa using hj))) hlt)
theorem Y8:∀ {k:List Fg} {f:Fg} {i:Nat},i<=k.length->(∀ j,(h:j<k.length)->j<i->ZH k[j].vec f.vec)->(∀ j,(h:j<k.length)->i<=j->¬ ZH k[j].vec f.vec) ->
 qN k f=if h:i<k.length then (if zZ (zv k[i].vec) (zv f.vec)=0 then k.take i++⟨qy zn k[i].items f.items,f.vec⟩::k.drop (i+1) else k.take i++f::k.drop i) else k++[f]
 | [],f,i,h0,h1,h2=>by simp [qN]
 | g::k,f,i,h0,h1,h2=>by
   cases i with
   | zero=>
     have hn:=h2 0 (by simp) (Nat.le_refl _)
     have hn':¬ zZ (zv g.vec) (zv f.vec)<0:=hn
     rw [qN,if_neg hn',dif_pos (by simp)]
     simp only [List.getElem_cons_zero,List.take_zero,List.nil_append,List.drop_zero,List.drop_succ_cons]
   | succ i=>
     have hy:zZ (zv g.vec) (zv f.vec)<0:=h1 0 (by simp) (by omega)
     rw [qN,if_pos hy,Y8 (i:=i) (by simpa using h0) (fun j hj hlt=>h1 (j+1) (by simpa using hj) (by omega)) (fun j hj hle=>h2 (j+1) (by simpa using hj) (by omega))]
     simp only [List.length_cons,List.getElem_cons_succ,List.take_succ_cons,List.drop_succ_cons,List.cons_append,Nat.add_lt_add_iff_right]
     split
     ·split<;>rfl
     ·rfl
end Go.Proofs.YtopfkkogooocgaaGreat
namespace Go.Proofs.YtopfkkogooocgaaGreat
open Go.RowKit
attribute [-go_sem] z7
structure AddOk (o:List Fg) (f:Fg):Prop where
 gi:GrpI o
 fo:OkG f
 l:o.length<=1048576
 fi:f.items.length<=100000000
 oi:∀ g ∈ o,g.items.length<=100000000
 bd:∀ e ∈ f.vec,ZL e
 bo:∀ g ∈ o,∀ e ∈ g.vec,ZL e
 nf:(zv f.vec).length<=1073741824
 no:∀ g ∈ o,(zv g.vec).length<=1073741824
theorem xL {D:Nat->Nat->Prop} {w:World} {v:Value} {l:List En} (h:Dat D w v (vp l)):∃ ad cap,v=.slice ad l.length cap:=by
 have h':Dat D w v (.sl (l.map ec) .sh):=h
 obtain⟨ad,cap,sz,b,off,f,e1,_⟩:=(Rel.dat (ρ:=fun _=>0) (nb:=0) h').inv_sl
 rw [List.length_map] at e1
 exact⟨ad,cap,e1⟩
def zc1 (o:List Fg) (f:Fg) (i:Nat):Bool:=if h:i<o.length then decide (zZ (zv o[i].vec) (zv f.vec)=0) else false
theorem zjH {C:Nat->Nat->Prop} {rb base:Nat} {w:World} {v vv:Value} {o:List Fg} {f:Fg} (i:Nat) (r:Bool) (hr:zc1 o f i=r) (ho:AddOk o f) (hout:OutG C rb base w v o) (dv:Dat (DL C rb w) w vv (vp f.vec)) (hb:rb<base) (hC:∀ b o,C b o->b<rb) (hrb:rb<w.heap.size) (hG:GL C w)
 (hi:i<=o.length) (h1:∀ j,(h:j<o.length)->j<i->ZH o[j].vec f.vec) (h2:∀ j,(h:j<o.length)->i<=j->¬ ZH o[j].vec f.vec) :
 Calls Tryz.prog 38 #[v,vv,.func (.func 39) #[] #[]] w fun e w'=>e=.returned (.tuple #[.int .i64 (i:Nat),.bool r])/\Below w.heap.size w w':=by
 subst hr
 refine(jP (D:=DL C rb w) (zhm o f.vec i hi h1 h2 (by have:=ho.l;omega) fun g hg=>zhj g f.vec (ho.bo g hg) ho.bd (ho.no g hg) ho.nf) (hG.mono (fun _ _ h=>.inl h) fun _ _ _ _ h=>h) (fun b o h=>h.elim (fun h=>Nat.lt_trans (hC b o h) hrb) And.right) rfl (fun j p hp=>?_)).mono ?_
 ·match j,hp with
  | 0,hp=>cases hp;exact hout.dat hb
  | 1,hp=>cases hp;exact dv
  | 2,hp=>cases hp;exact .fn _ #[] #[] [] [] rfl rfl (fun _ _ h=>by simp at h) (fun _ _ h=>by simp at h)
  | j+3,hp=>simp at hp
 ·rintro e w' ⟨u,rfl,hb',hd⟩
  rw [XY hd]
  exact⟨rfl,hb'⟩
theorem zeo {C:Nat->Nat->Prop} {rb:Nat} {w:World} {v a b:Value} {l m:List Iv} (hl:Nrm l) (hm:Nrm m) (hs:l.length+m.length<=1073741824) (da:Dat (DX C rb w v) w a (rg l)) (db:Dat (DX C rb w v) w b (rg m)) (hv:∀ k,v.ownBlock=some k->rb<k/\k<w.heap.size) (hC:∀ b o,C b o->b<rb) (hrb:rb<w.heap.size) (hG:GL C w) :
 Calls Tryz.prog 41 #[a,b] w fun e w'=>∃ u,e=.returned u/\Below w.heap.size w w'/\Dat (DX C rb w' v) w' u (rg (qy zn l m))/\OwnR w.heap.size w' u (qy zn l m):=by
 have hDb:∀ b o,DX C rb w v b o->b<w.heap.size:=fun b o h=>h.1.elim (fun h=>Nat.lt_trans (hC b o h) hrb) And.right
 refine(V4 l m a b w hl hm (je da hDb hl.lt) (je db hDb hm.lt) hs).mono ?_
 rintro e w' ⟨u,rfl,ho,hb⟩
 exact⟨u,rfl,hb,jp ho.rd fun b o h1 h2=>⟨.inr ⟨by omega,h2⟩,fun e=>by have:=(hv b e).2;omega⟩,ho⟩
theorem zhT {o:List Fg} {f:Fg} {i:Nat} (h:zc1 o f i=true):∃ hi:i<o.length,zZ (zv o[i].vec) (zv f.vec)=0:=by
 unfold zc1 at h
 split at h
 ·rename_i hi
  exact⟨hi,by simpa using h⟩
 ·cases h
theorem Jh {C:Nat->Nat->Prop} {base rb:Nat} {w:World} {v va vv:Value} {o:List Fg} {f:Fg} (hok:AddOk o f) (hout:OutG C (rb+1) base w v o) (hbx:Boxed w rb 49 v) (hrb:rb+1<base) (hbase:base<=w.heap.size) (hC:∀ b o,C b o->b<rb) (hG:GL C w)
 (da:Dat (DX C (rb+1) w v) w va (rg f.items)) (dv:Dat (DX C (rb+1) w v) w vv (vp f.vec)) (hmg:MG base w v o.length) (hmv:MuE (Bo base w v) w vv) :
 Calls Tryz.prog 22 #[.pointer (some ⟨rb,0,none⟩),.agg #[va,vv]] w fun e w'=>(∃ u,e=.returned u)/\∃ v',Boxed w' rb 49 v'/\OutG C (rb+1) base w' v' (qN o f)/\Keep (fun k=>k=rb\/base<=k) w w'/\MG base w' v' (qN o f).length:=by
 obtain⟨i,hi,q1,q2⟩:=Qo f.vec hok.gi.srt
 have hins:=Y8 hi q1 q2
 have hrw:=hbx.lt
 obtain⟨w1,hw1⟩:∃ w1,w1=w.alloc (.cells #[va,vv] 32):=⟨_,rfl⟩
 have hs1:w1.heap.size=w.heap.size+1:=by rw [hw1];simp
 have hb1:∀ j,j<w.heap.size->w1.heap[j]? = w.heap[j]?:=fun j hj=>by rw [hw1];exact Below.heap_alloc _ _ _ hj
 have hx1:w1.heap[w.heap.size]? = some (.cells #[va,vv] 32 (0,0)):=by rw [hw1];exact World.alloc_heap_new w _
 have hout1:=hout.keep (w':=w1) (by omega) hb1
 have da1:Dat (DX C (rb+1) w1 v) w1 va (rg f.items):=DX.keep da (by omega) fun k hk _=>hb1 k hk
 have dv1:Dat (DX C (rb+1) w1 v) w1 vv (vp f.vec):=DX.keep dv (by omega) fun k hk _=>hb1 k hk
 have hmg1:MG base w1 v o.length:=hmg.keep (by omega) fun k _ hk=>hb1 k hk
 have hmv1:MuE (Bo base w1 v) w1 vv:=(hmv.same fun b _ hl=>hb1 b hl).mono fun b h=>h.keep (by omega)
 have hbx1:Boxed w1 rb 49 v:=(hb1 rb hrw).trans hbx
 have hG1:GL C w1:=hG.mono (fun _ _ h=>h) fun b o x hc hx=>(World.cell?_of_block (a:=⟨b,o,none⟩) (hb1 b (by have:=hC b o hc;omega))).trans hx
 obtain⟨ad,cap,rfl,hlc,hcm⟩:=hout.shape
 unfold maxLen at hcm
 obtain⟨aa,ca,rfl⟩:=zK da
 obtain⟨av,cv,rfl⟩:=xL dv
 obtain⟨r,hr⟩:∃ r,zc1 o f i=r:=⟨_,rfl⟩
 have hbs:∀ W,Below w1.heap.size w1 W->Calls Tryz.prog 38 #[.slice ad o.length cap,.slice av f.vec.length cv,.func (.func 39) #[] #[]] W fun e w'=>e=.returned (.tuple #[.int .i64 (i:Nat),.bool r])/\Below W.heap.size W w':=fun W hW=>
  zjH i r hr hok (hout1.keep hW.size fun k hk=>hW.block k hk) ((DX.keep dv1 hW.size fun k hk _=>hW.block k hk).mono (fun _ _ h=>h.1) fun _ _ _ _ h=>h) hrb (fun b o h=>Nat.lt_succ_of_lt (hC b o h)) (by have:=hW.size;omega) (hG1.mono (fun _ _ h=>h) fun b o x hc hx=>(World.cell?_of_block (a:=⟨b,o,none⟩) (hW.block b (by have:=hC b o hc;omega))).trans hx) hi q1 q2
 have HBS:=Lib.hid hbs
 have c0:=hbx1.cell
 have e0:=(zW hx1 0 _ rfl).1
 have e1:=(zW hx1 1 _ rfl).1
 have HW1:=Lib.hid hw1
 have HO1:=Lib.hid hout1
 have HDA:=Lib.hid da1
 have HDV:=Lib.hid dv1
 have HX1:=Lib.hid hbx1
 have HG1:=Lib.hid hG1
 have HINS:=Lib.hid hins
 have HXX:=Lib.hid hx1
 have HHIT:=Lib.hid hr
 have HBB:=Lib.hid hb1
 have HMG:=Lib.hid hmg1
 have HMV:=Lib.hid hmv1
 clear hmg hmv hmg1 hmv1 hins hb1 hx1 hout1 da1 dv1 hbx1 hG1 hr da dv hout hbx hG q1 q2 hbs
 have tokA:True:=trivial
 have hc1:Below w1.heap.size w1 w1.drew:=(Below.refl _ _).drew
 have mixed:Tryz.prog.follows .mixedOrders=true:=by kernel_rfl
 go_enter Tryz.func22,Tryz.ntmps22
 go_wp2_with fail
 rw [<-hw1]
 refine Kg (Sw:=qe) 12 51 (fun w9=>Below w1.heap.size w1 w9/\w9.cell? ⟨rb,0,none⟩=some (.slice ad o.length cap)/\w9.cell? ⟨w.heap.size,1,none⟩=some (.slice av f.vec.length cv)) (by kernel_rfl) (by kernel_rfl) rfl ⟨hc1,c0,e1⟩ ?_
 simp only [List.take_succ_cons,List.take_zero]
 refine Jz ?_
 refine V7 (fun u _=>u=.tuple #[.int .i64 (i:Nat),.bool r]) (yj _) rfl ?_ ?_
 ·intro a2 w2 hc hk hr K hK
  have HK:=Lib.hid hK
  clear hK
  simp [Rds,zA,lk,Op.operands,Call.operands,RdEq] at hr
  go_simp
  refine(HBS.out _ hc.1).mono ?_
  rintro e w3 ⟨rfl,hb⟩
  have hkb:Keep qe w2 w3:=Keep.of_below' hb (Nat.le_refl _)
  exact HK.out _ _ hkb ⟨hc.1.trans (hb.mono hc.1.size),hkb.cell_some hc.2.1 id,hkb.cell_some hc.2.2 id⟩ rfl
 dsimp only [List.nil_append,List.cons_append]
 refine Jz ?_
 intro w2 hc2 hk2
 simp only [finG,forall_eq,List.nil_append,List.cons_append,List.drop_succ_cons,List.drop_zero,List.drop_nil]
 simp only [Act.put,List.setIfInBounds_toArray,List.set_cons_succ,List.set_cons_zero]
 have HB2:=Lib.hid hc2.1
 have c2:=hc2.2.1
 have f2:=(hc2.1.block _ (by omega)).trans (show w1.heap[w.heap.size]? = _ from HXX.out)
 have g0:=(zW f2 0 _ rfl).1
 have g1:=(zW f2 1 _ rfl).1
 clear hc2 hk2 hc1
 cases r with
 | true=>
   obtain⟨hlt,hz⟩:=zhT HHIT.out
   have hout2:=HO1.out.keep (w':=w2) HB2.out.size fun k hk=>HB2.out.block k hk
   have HO2:=Lib.hid hout2
   obtain⟨xs,hxs,hel⟩:=id hout2
   obtain⟨a,b,ea,eb,dva,dvb⟩:=hel i hlt
   obtain⟨g,cap',cur,ev,hgb,hgl,hgc,_,_,_,_⟩:=hxs.cases.resolve_left (fun h=>by omega)
   obtain⟨rfl,_,rfl⟩:ad=some ⟨g,0,none⟩/\o.length=o.length/\cap=cap':=by simpa using ev
   have cia:w2.cell? ⟨g,i * 2,none⟩=some a:=by
    have:=World.ownsRow.cells hxs.1 (g:=g) rfl (i * 2) a ea
    rw [zh,Nat.zero_add] at this
    exact this
   have hbk:∀ k,(Value.slice (some ⟨g,0,none⟩) o.length cap).ownBlock=some k->rb+1<k/\k<w2.heap.size:=fun k hk=>by have:=hout2.owns k hk;omega
   obtain⟨ai,ci,rfl⟩:=zK dva
   have hun:∀ W,Below w2.heap.size w2 W->Calls Tryz.prog 41 #[.slice ai o[i].items.length ci,.slice aa f.items.length ca] W fun e w'=>∃ u,e=.returned u/\Below W.heap.size W w'/\Dat (DX C (rb+1) w' (.slice (some ⟨g,0,none⟩) o.length cap)) w' u (rg (qy zn o[i].items f.items))/\OwnR W.heap.size w' u (qy zn o[i].items f.items):=fun W hW=>
    zeo (hok.gi.ok _ (List.getElem_mem hlt)).2.2.1 hok.fo.2.2.1 (by have:=hok.oi _ (List.getElem_mem hlt);have:=hok.fi;omega) (DX.keep dva hW.size fun k hk _=>hW.block k hk) (DX.keep HDA.out (Nat.le_trans HB2.out.size hW.size) fun k hk _=>(hW.block k (Nat.lt_of_lt_of_le hk HB2.out.size)).trans (HB2.out.block k hk)) (fun k hk=>⟨(hbk k hk).1,Nat.lt_of_lt_of_le (hbk k hk).2 hW.size⟩) (fun b o h=>Nat.lt_succ_of_lt (hC b o h)) (by have:=HB2.out.size;have:=hW.size;omega) (HG1.out.mono (fun _ _ h=>h) fun b o x hc hx=>(World.cell?_of_block (a:=⟨b,o,none⟩) ((hW.block b (by have:=hC b o hc;have:=HB2.out.size;omega)).trans (HB2.out.block b (by have:=hC b o hc;omega)))).trans hx)
   have HUN:=Lib.hid hun
   have hc3:Below w2.heap.size w2 w2.drew:=(Below.refl _ _).drew
   have HGC:=Lib.hid hgc
   have hcap:0<cap:=by omega
   have hs2:=HB2.out.size
   clear hun hout2 hxs hel ea eb dva dvb hgc hbk
   obtain⟨wb,hwb⟩:∃ wb,wb=w2:=⟨_,rfl⟩
   subst hwb
   go_wp2_with fail
   refine Kg (Sw:=qe) 16 51 (fun w9=>Below wb.heap.size wb w9/\w9.cell? ⟨rb,0,none⟩=some (.slice (some ⟨g,0,none⟩) o.length cap)/\w9.cell? ⟨g,i * 2,none⟩=some (.slice ai o[i].items.length ci)/\w9.cell? ⟨w.heap.size,0,none⟩=some (.slice aa f.items.length ca)) (by kernel_rfl) (by kernel_rfl) rfl ⟨hc3,c2,cia,g0⟩ ?_
   simp only [List.take_succ_cons,List.take_zero]
   refine Jz ?_
   refine V7 (fun u w9=>Dat (DX C (rb+1) w9 (.slice (some ⟨g,0,none⟩) o.length cap)) w9 u (rg (qy zn o[i].items f.items))/\OwnR wb.heap.size w9 u (qy zn o[i].items f.items)) (fun u wa wb h hk=>⟨DX.keep h.1 hk.size fun k hk2 _=>hk.block k hk2 id,h.2.keep hk fun _ _=>id⟩) rfl ?_ ?_
   ·intro a2 w2 hc hk hr K hK
    have HK:=Lib.hid hK
    clear hK
    simp [Rds,zA,lk,Op.operands,Call.operands,RdEq] at hr
    go_simp
    refine(HUN.out _ hc.1).mono ?_
    rintro e w3 ⟨u,rfl,hb,hd,ho⟩
    have hkb:Keep qe _ w3:=Keep.of_below' hb (Nat.le_refl _)
    exact HK.out _ _ hkb ⟨hc.1.trans (hb.mono hc.1.size),hkb.cell_some hc.2.1 id,hkb.cell_some hc.2.2.1 id,hkb.cell_some hc.2.2.2 id⟩ ⟨hd,ho.mono hc.1.size⟩
   dsimp only [List.nil_append,List.cons_append]
   refine Jz ?_
   intro w2 hc2 hk2
   simp only [finG,forall_eq,List.nil_append,List.cons_append,List.drop_succ_cons,List.drop_zero,List.drop_nil]
   simp only [Act.put,List.setIfInBounds_toArray,List.set_cons_succ,List.set_cons_zero]
   rintro u ⟨hu,how⟩
   obtain⟨au,cu,rfl⟩:=zK hu
   have HOW:=Lib.hid how
   have HU:=Lib.hid hu
   have HC3:=Lib.hid hc2.1
   have c3:=hc2.2.2.1
   have f3:w2.frozen? ⟨g,i * 2,none⟩=false:=by
    have:=(hc2.1.block g hgl).trans HGC.out
    simp [World.frozen?,this]
   clear hu how hc2 hk2 hc3 c2 cia g0 g1 f2
   go_wp2
   (try simp only [Exit.inBlock,Exit.then]);refine bodyPost_ret (results_none rfl _ _ _) rfl ?_
   have hfin:=(HO2.out.keep (w':=w2) HC3.out.size fun k hk=>HC3.out.block k hk).set hlt HU.out hcap
   have hins:qN o f=o.take i++⟨qy zn o[i].items f.items,o[i].vec⟩::o.drop (i+1):=by
    rw [HINS.out,dif_pos hlt,if_pos hz,<-YU hz]
   rw [hins]
   refine⟨⟨_,rfl⟩,_,?_,hfin,?_,?_⟩
   ·refine(Below.heap_setCell _ _ _ _ (by show rb≠g;omega)).trans ((HC3.out.block rb (by omega)).trans ((HB2.out.block rb (by omega)).trans HX1.out))
   ·have hk1:Keep (fun k=>k=rb\/base<=k) w w1:=by rw [HW1.out];exact(Keep.refl _ w).alloc _
    exact((hk1.trans (Keep.of_below' HB2.out (Nat.le_refl _))).trans (Keep.of_below' HC3.out (Nat.le_refl _))).setCell (fun _=>.inr hgb) _
   ·rw [show (o.take i++(⟨qy zn o[i].items f.items,o[i].vec⟩:Fg)::o.drop (i+1)).length=o.length by simp;omega]
    have hsz3:=HC3.out.size
    refine MG.set (HMG.out.keep (by omega) fun k _ hk=>(HC3.out.block k (by omega)).trans (HB2.out.block k hk)) hlt (HOW.out.mu.mono fun b h=>⟨⟨by omega,h.2⟩,fun e=>?_⟩) hcap
    have:=(HO2.out.owns b e).2
    omega
 | false=>
   have hins:qN o f=o.take i++f::o.drop i:=by
    rw [HINS.out]
    have hh:=HHIT.out
    unfold zc1 at hh
    split at hh
    ·rename_i h
     rw [dif_pos h,if_neg (by simpa using hh)]
    ·rename_i h
     rw [dif_neg h,List.take_of_length_le (by omega),List.drop_of_length_le (by omega)]
   have HI2:=Lib.hid hins
   have hs2:=HB2.out.size
   have hcl:∀ W,Below w2.heap.size w2 W->Calls Tryz.prog 19 #[.slice aa f.items.length ca] W fun e w'=>∃ au cu,e=.returned (.slice au f.items.length cu)/\OwnR W.heap.size w' (.slice au f.items.length cu) f.items/\Below W.heap.size W w':=fun W hW=>by
    have hda:=DX.keep HDA.out (Nat.le_trans hs2 hW.size) fun k hk _=>(hW.block k (Nat.lt_of_lt_of_le hk hs2)).trans (HB2.out.block k hk)
    refine(zeX (je hda (fun b o h=>h.1.elim (fun h=>by have:=hC b o h;have:=hW.size;omega) And.right) hok.fo.2.2.1.lt) (by have:=hok.fi;omega)).mono ?_
    rintro e w' ⟨v',rfl,h1,h2⟩
    obtain⟨au,cu,rfl⟩:=zK (jp (D:=fun _ _=>True) h1.rd fun _ _ _ _=>trivial)
    exact⟨au,cu,rfl,h1,h2⟩
   have HCL:=Lib.hid hcl
   clear hcl hins
   have hc3:Below w2.heap.size w2 w2.drew:=(Below.refl _ _).drew
   obtain⟨wb,hwb⟩:∃ wb,wb=w2:=⟨_,rfl⟩
   subst hwb
   go_wp2_with fail
   refine znC [1,2,3,4,5,6,7,8,9,10,11,12,0,13,14,15,16] 12 51 (fun w9=>Below wb.heap.size wb w9/\w9.cell? ⟨rb,0,none⟩=some (.slice ad o.length cap)/\w9.cell? ⟨w.heap.size,0,none⟩=some (.slice aa f.items.length ca)/\w9.cell? ⟨w.heap.size,1,none⟩=some (.slice av f.vec.length cv)) mixed (by kernel_rfl) (by kernel_rfl) rfl ⟨hc3,c2,g0,g1⟩ _ _ rfl rfl rfl rfl _ rfl ?_
   simp only [z8,List.map_cons,List.map_nil,List.getD_cons_zero,List.getD_cons_succ,List.take_succ_cons,List.take_zero,List.drop_succ_cons,List.drop_zero]
   repeat (refine Pl.wdetK ?_ rfl (fun a w hc _ hr=>?_) ?_;rotate_left;(simp [Pl.Rds,zA,Pl.lk,Op.operands,Call.operands,RdEq] at hr;go_simp;with_reducible rfl);dsimp only [List.nil_append,List.cons_append])
   refine Pl.wgenK (fun u w9=>∃ au cu,u=.slice au f.items.length cu/\OwnR wb.heap.size w9 u f.items) (fun u _ _ h hk=>by obtain⟨au,cu,e,h⟩:=h;exact⟨au,cu,e,h.keep hk fun _ _ h=>h⟩) rfl ?_ ?_
   ·intro a2 w2 hc hk hr K hK
    have HK:=Lib.hid hK
    clear hK
    simp [Pl.Rds,zA,Pl.lk,Op.operands,Call.operands,RdEq] at hr
    go_simp
    refine(HCL.out _ hc.1).mono ?_
    rintro e w3 ⟨au,cu,rfl,ho,hb⟩
    have hkb:Keep qe _ w3:=Keep.of_below' hb (Nat.le_refl _)
    exact HK.out _ _ hkb ⟨hc.1.trans (hb.mono hc.1.size),hkb.cell_some hc.2.1 id,hkb.cell_some hc.2.2.1 id,hkb.cell_some hc.2.2.2 id⟩ ⟨au,cu,rfl,ho.mono hc.1.size⟩
   dsimp only [List.nil_append,List.cons_append]
   repeat (refine Pl.wdetK ?_ rfl (fun a w hc _ hr=>?_) ?_;rotate_left;(simp [Pl.Rds,zA,Pl.lk,Op.operands,Call.operands,RdEq] at hr;go_simp;with_reducible rfl);dsimp only [List.nil_append,List.cons_append])
   refine Pl.wgenK (fun u w9=>∃ au cu,u=.agg #[.slice au f.items.length cu,.slice av f.vec.length cv]/\OwnR wb.heap.size w9 (.slice au f.items.length cu) f.items) (fun u _ _ h hk=>by obtain⟨au,cu,e,h⟩:=h;exact⟨au,cu,e,h.keep hk fun _ _ h=>h⟩) rfl ?_ ?_
   ·intro a2 w2 hc hk hr K hK
    have HK:=Lib.hid hK
    clear hK
    simp [Pl.Rds,zA,Pl.lk,Op.operands,Call.operands,RdEq] at hr
    obtain⟨⟨_,⟨e1,e2⟩,⟨au,cu,rfl⟩,ho⟩,e3,e4⟩:=hr
    go_simp
    exact HK.out _ _ (Keep.refl _ _) hc ⟨au,cu,rfl,ho⟩
   dsimp only [List.nil_append,List.cons_append]
   refine Pl.wgenK (fun u w9=>∃ vb au cu vt,u=.slice (some ⟨vb,0,none⟩) 1 1/\w9.heap[vb]? = some (.cells #[.slice au f.items.length cu,.slice av f.vec.length cv] vt (0,0))/\wb.heap.size<=vb/\OwnR wb.heap.size w9 (.slice au f.items.length cu) f.items) (fun u _ _ h hk=>by obtain⟨vb,au,cu,vt,e,h1,h2,h3⟩:=h;exact⟨vb,au,cu,vt,e,hk.obj h1 id,h2,h3.keep hk fun _ _ h=>h⟩) rfl ?_ ?_
   ·intro a2 w2 hc hk hr K hK
    have HK:=Lib.hid hK
    clear hK
    simp [Pl.Rds,zA,Pl.lk,Op.operands,Call.operands,RdEq] at hr
    obtain⟨_,⟨e1,e2⟩,au,cu,rfl,ho⟩:=hr
    go_simp
    refine HK.out _ _ ((Keep.refl _ _).alloc _) ⟨hc.1.alloc hc.1.size _,?_,?_,?_⟩ ⟨w2.heap.size,au,cu,_,rfl,World.alloc_heap_new w2 _,hc.1.size,ho.keep ((Keep.refl qe _).alloc _) fun _ _ h=>h⟩
    ·exact((Keep.refl qe _).alloc _).cell_some hc.2.1 id
    ·exact((Keep.refl qe _).alloc _).cell_some hc.2.2.1 id
    ·exact((Keep.refl qe _).alloc _).cell_some hc.2.2.2 id
   dsimp only [List.nil_append,List.cons_append]
   repeat (refine Pl.wdetK ?_ rfl (fun a w hc _ hr=>?_) ?_;rotate_left;(simp [Pl.Rds,zA,Pl.lk,Op.operands,Call.operands,RdEq] at hr;go_simp;with_reducible rfl);dsimp only [List.nil_append,List.cons_append])
   have hfin:∀(w2:World) (vb:Nat) (au cu) (vt:TypeId),Below wb.heap.size wb w2->w2.heap[vb]? = some (.cells #[.slice au f.items.length cu,.slice av f.vec.length cv] vt (0,0))->wb.heap.size<=vb->OwnR wb.heap.size w2 (.slice au f.items.length cu) f.items ->
    Calls Tryz.prog 42 #[.slice ad o.length cap,.int .i64 (i:Nat),.slice (some ⟨vb,0,none⟩) 1 1] w2 fun e w3=>∃ g3 cap3,e=.returned (.slice (some ⟨g3,0,none⟩) (o.length+1) cap3)/\Boxed w3 rb 49 (.slice ad o.length cap)/\OutG C (rb+1) base (w3.setCell ⟨rb,0,none⟩ (.slice (some ⟨g3,0,none⟩) (o.length+1) cap3)) (.slice (some ⟨g3,0,none⟩) (o.length+1) cap3) (qN o f)/\Keep (fun k=>k=rb\/base<=k) w w3/\MG base (w3.setCell ⟨rb,0,none⟩ (.slice (some ⟨g3,0,none⟩) (o.length+1) cap3)) (.slice (some ⟨g3,0,none⟩) (o.length+1) cap3) (qN o f).length:=by
    intro w2 vb au cu vt hB2 hvb hvb2 how
    have hout9:=(HO1.out.keep (w':=wb) hs2 fun k hk=>HB2.out.block k hk).keep (w':=w2) hB2.size fun k hk=>hB2.block k hk
    obtain⟨xs,hxs,hel⟩:=id hout9
    have hso:=(HO1.out.keep (w':=wb) hs2 fun k hk=>HB2.out.block k hk).owns
    refine(Q1 base vb vt w2 _ o.length xs _ _ i rfl rfl hi hxs hvb (fun e=>by have:=(hso vb e).2;omega) (by have:=hok.l;omega) (by have:=hB2.size;omega)).mono ?_
    rintro e w3 ⟨v',rfl,ho3,hg3,hv3⟩
    have hsz:=hB2.size
    have hp:Dat (DX C (rb+1) w2 (.slice ad o.length cap)) w2 (.slice au f.items.length cu) (rg f.items):=jp how.rd fun b o h1 h2=>⟨.inr ⟨by omega,h2⟩,fun e=>by have:=(hso b e).2;omega⟩
    have hq:Dat (DX C (rb+1) w2 (.slice ad o.length cap)) w2 (.slice av f.vec.length cv) (vp f.vec):=DX.keep HDV.out (by omega) fun k hk _=>(hB2.block k (by omega)).trans (HB2.out.block k hk)
    have hfo:=OutG.ins hi hxs.2.1 hel hp hq (fun b o h=>Nat.lt_succ_of_lt (hC b o h)) (by omega) ho3 hg3 hv3
    obtain⟨g3,cap3,cur3,rfl,_⟩:=ho3.cases.resolve_left fun h=>by omega
    have hbx3:Boxed w3 rb 49 (.slice ad o.length cap):=Boxed.kept ((hB2.block rb (by omega)).trans ((HB2.out.block rb (by omega)).trans HX1.out)) hg3 fun e=>by have:=(hso rb e.symm);have:=(hxs.1.lt rb e.symm).1;omega
    have hmi:MG base w3 (.slice (some ⟨g3,0,none⟩) (o.length+1) cap3) (o.length+1):=MG.ins (HMG.out.keep (by omega) fun k _ hk=>(hB2.block k (by omega)).trans (HB2.out.block k hk)) hi hxs.1 (how.mu.mono fun b h=>⟨⟨by omega,h.2⟩,fun e=>by have:=(hso b e).2;omega⟩) ((HMV.out.same fun b _ hl=>(hB2.block b (by omega)).trans (HB2.out.block b hl)).mono fun b h=>h.keep (by omega)) ho3.1 hg3 hv3
    refine⟨g3,cap3,rfl,hbx3,?_,?_,?_⟩
    ·rw [HI2.out]
     exact hfo.box (by omega) (by omega) fun b o h=>by have:=hC b o h;omega
    ·have hk1:Keep (fun k=>k=rb\/base<=k) w w1:=by rw [HW1.out];exact(Keep.refl _ w).alloc _
     exact(((hk1.trans (Keep.of_below' HB2.out (Nat.le_refl _))).trans (Keep.of_below' hB2 (Nat.le_refl _)))).grown hg3 fun k hk _=>.inr (hxs.1.lt k hk).1
    ·rw [HI2.out,show (o.take i++f::o.drop i).length=o.length+1 by simp;omega]
     exact hmi.keep (by simp) fun k hk _=>Below.heap_setCell _ _ _ _ (by show k≠rb;omega)
   have HFIN:=Lib.hid hfin
   clear hfin
   refine⟨fun w2 hc2 hk2=>?_,fun w2 hc2 hk2=>?_⟩<;>(simp only [Pl.finG,forall_eq,List.nil_append,List.cons_append,List.take_succ_cons,List.take_zero,List.drop_succ_cons,List.drop_zero,List.drop_nil,jA,Option.map_none];simp only [Act.put,List.setIfInBounds_toArray,List.set_cons_succ,List.set_cons_zero])
   ·rintro _ ⟨au0,cu0,rfl,_⟩ _ ⟨au1,cu1,rfl,_⟩ _ ⟨vb,au,cu,vt,rfl,hvb,hvb2,how⟩
    have HQ:=Lib.hid (HFIN.out w2 vb au cu vt hc2.1 hvb hvb2 how)
    clear hvb how hc2 hk2
    go_wp2_with (first
     | (go_at_call 42;refine HQ.out.mono ?_;rintro e w3 ⟨g3,cap3,rfl,hbx3,ho3,hk3,hm3⟩
        have HO3:=Lib.hid ho3
        have HK3:=Lib.hid hk3
        have HM3:=Lib.hid hm3
        have HX3:=Lib.hid hbx3
        have c9:=hbx3.cell
        have f9:=hbx3.frozen
        clear ho3 hk3 hbx3 hm3)
     | go_in)
    go_end0
    exact⟨⟨_,rfl⟩,_,HX3.out.set _,HO3.out,HK3.out.setCell (fun _=>.inl rfl) _,HM3.out⟩
   ·rintro _ ⟨au0,cu0,rfl,_⟩ _ ⟨au1,cu1,rfl,_⟩ _ ⟨vb,au,cu,vt,rfl,hvb,hvb2,how⟩
    have HQ:=Lib.hid (HFIN.out w2 vb au cu vt hc2.1 hvb hvb2 how)
    clear hvb how hc2 hk2
    go_wp2_with (first
     | (go_at_call 42;refine HQ.out.mono ?_;rintro e w3 ⟨g3,cap3,rfl,hbx3,ho3,hk3,hm3⟩
        have HO3:=Lib.hid ho3
        have HK3:=Lib.hid hk3
        have HM3:=Lib.hid hm3
        have HX3:=Lib.hid hbx3
        have c9:=hbx3.cell
        have f9:=hbx3.frozen
        clear ho3 hk3 hbx3 hm3)
     | go_in)
    go_end0
    exact⟨⟨_,rfl⟩,_,HX3.out.set _,HO3.out,HK3.out.setCell (fun _=>.inl rfl) _,HM3.out⟩
end Go.Proofs.YtopfkkogooocgaaGreat
