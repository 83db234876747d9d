import Derived.Test.YtjimggclhlnfbaaGreatB16
set_option maxHeartbeats 16000000
set_option linter.unusedVariables false
set_option linter.unusedSimpArgs false
set_option maxRecDepth 100000
namespace Go.Proofs.YtjimggclhlnfbaaGreat
open Go.RowKit
attribute [-go_sem] qo
structure AddOk (o:List Fg) (f:Fg):Prop where
 gi:GrpI o
 fo:OkG f
 l:o.length<=1048576
 fi:f.items.length<=100000000
 oi:∀ g ∈ o,g.items.length<=100000000
 bd:∀ e ∈ f.vec,kV e
 bo:∀ g ∈ o,∀ e ∈ g.vec,kV e
 nf:(zx f.vec).length<=1073741824
 no:∀ g ∈ o,(zx g.vec).length<=1073741824
theorem jQ {D:Nat->Nat->Prop} {w:World} {v:Value} {l:List En} (h:Dat D w v (vp l)):∃ ad cap,v=.slice ad l.length cap:=by
 have h':Dat D w v (.sl (l.map ec) .sh):=h
 obtain⟨ad,cap,sz,b,off,f,e1,_⟩:=(Rel.dat (ρ:=fun _=>0) (nb:=0) h').inv_sl
 rw [List.length_map] at e1
 exact⟨ad,cap,e1⟩
def zbt (o:List Fg) (f:Fg) (i:Nat):Bool:=if h:i<o.length then decide (qf (zx o[i].vec) (zx f.vec)=0) else false
theorem zhO {C:Nat->Nat->Prop} {rb base:Nat} {w:World} {v vv:Value} {o:List Fg} {f:Fg} (i:Nat) (r:Bool) (hr:zbt o f i=r) (ho:AddOk o f) (hout:OutG C rb base w v o) (dv:Dat (DL C rb w) w vv (vp f.vec)) (hb:rb<base) (hC:∀ b o,C b o->b<rb) (hrb:rb<w.heap.size) (hG:GL C w)
 (hi:i<=o.length) (h1:∀ j,(h:j<o.length)->j<i->ZX o[j].vec f.vec) (h2:∀ j,(h:j<o.length)->i<=j->¬ ZX o[j].vec f.vec) :
 Calls Tryz.prog 64 #[v,vv,.func (.func 65) #[] #[]] w fun e w'=>e=.returned (.tuple #[.int .i64 (i:Nat),.bool r])/\Below w.heap.size w w':=by
 subst hr
 refine(jV (D:=DL C rb w) (zfz o f.vec i hi h1 h2 (by have:=ho.l;omega) fun g hg=>zfv g f.vec (ho.bo g hg) ho.bd (ho.no g hg) ho.nf) (hG.mono (fun _ _ h=>.inl h) fun _ _ _ _ h=>h) (fun b o h=>h.elim (fun h=>Nat.lt_trans (hC b o h) hrb) And.right) rfl (fun j p hp=>?_)).mono ?_
 ·match j,hp with
  | 0,hp=>cases hp;exact hout.dat hb
  | 1,hp=>cases hp;exact dv
  | 2,hp=>cases hp;exact .fn _ #[] #[] [] [] rfl rfl (fun _ _ h=>by simp at h) (fun _ _ h=>by simp at h)
  | j+3,hp=>simp at hp
 ·rintro e w' ⟨u,rfl,hb',hd⟩
  rw [YP hd]
  exact⟨rfl,hb'⟩
theorem zcL {C:Nat->Nat->Prop} {rb:Nat} {w:World} {v a b:Value} {l m:List Iv} (hl:Nrm l) (hm:Nrm m) (hs:l.length+m.length<=1073741824) (da:Dat (DX C rb w v) w a (rg l)) (db:Dat (DX C rb w v) w b (rg m)) (hv:∀ k,v.ownBlock=some k->rb<k/\k<w.heap.size) (hC:∀ b o,C b o->b<rb) (hrb:rb<w.heap.size) (hG:GL C w) :
 Calls Tryz.prog 67 #[a,b] w fun e w'=>∃ u,e=.returned u/\Below w.heap.size w w'/\Dat (DX C rb w' v) w' u (rg (qF zr l m)):=by
 refine(jV (D:=DX C rb w v) (J8 l m hl hm hs) (hG.mono (fun b o h=>⟨.inl h,fun e=>by have:=(hv b e).1;have:=hC b o h;omega⟩) fun _ _ _ _ h=>h) (fun b o h=>h.1.elim (fun h=>Nat.lt_trans (hC b o h) hrb) And.right) rfl (fun j p hp=>?_)).mono ?_
 ·match j,hp with
  | 0,hp=>cases hp;exact da
  | 1,hp=>cases hp;exact db
  | j+2,hp=>simp at hp
 ·rintro e w' ⟨u,rfl,hb,hd⟩
  exact⟨u,rfl,hb,hd.mono (fun b o h=>by
   rcases h with h | h
   ·exact⟨h.1.imp id fun h=>⟨h.1,Nat.lt_of_lt_of_le h.2 hb.size⟩,h.2⟩
   ·exact⟨.inr ⟨by omega,h.2⟩,fun e=>by have:=(hv b e).2;omega⟩) fun _ _ _ _ h=>h⟩
theorem zga {o:List Fg} {f:Fg} {i:Nat} (h:zbt o f i=true):∃ hi:i<o.length,qf (zx o[i].vec) (zx f.vec)=0:=by
 unfold zbt at h
 split at h
 ·rename_i hi
  exact⟨hi,by simpa using h⟩
 ·cases h
theorem X3 {C:Nat->Nat->Prop} {base rb:Nat} {w:World} {v va vv:Value} {o:List Fg} {f:Fg} (hok:AddOk o f) (hout:OutG C (rb+1) base w v o) (hbx:Boxed w rb 62 v) (hrb:rb+1<base) (hbase:base<=w.heap.size) (hC:∀ b o,C b o->b<rb) (hG:GL C w)
 (da:Dat (DX C (rb+1) w v) w va (rg f.items)) (dv:Dat (DX C (rb+1) w v) w vv (vp f.vec)) :
 Calls Tryz.prog 39 #[.pointer (some ⟨rb,0,none⟩),.agg #[va,vv]] w fun e w'=>(∃ u,e=.returned u)/\∃ v',Boxed w' rb 62 v'/\OutG C (rb+1) base w' v' (yf o f)/\Keep (fun k=>k=rb\/base<=k) w w':=by
 obtain⟨i,hi,q1,q2⟩:=Xj f.vec hok.gi.srt
 have hins:=JE hi q1 q2
 have hrw:=hbx.lt
 obtain⟨w1,hw1⟩:∃ w1,w1=w.alloc (.cells #[va,vv] 39):=⟨_,rfl⟩
 have hs1:w1.heap.size=w.heap.size+1:=by rw [hw1];simp
 have hb1:∀ j,j<w.heap.size->w1.heap[j]? = w.heap[j]?:=fun j hj=>by rw [hw1];exact Below.heap_alloc _ _ _ hj
 have hx1:w1.heap[w.heap.size]? = some (.cells #[va,vv] 39 (0,0)):=by rw [hw1];exact World.alloc_heap_new w _
 have hout1:=hout.keep (w':=w1) (by omega) hb1
 have da1:Dat (DX C (rb+1) w1 v) w1 va (rg f.items):=DX.keep da (by omega) fun k hk _=>hb1 k hk
 have dv1:Dat (DX C (rb+1) w1 v) w1 vv (vp f.vec):=DX.keep dv (by omega) fun k hk _=>hb1 k hk
 have hbx1:Boxed w1 rb 62 v:=(hb1 rb hrw).trans hbx
 have hG1:GL C w1:=hG.mono (fun _ _ h=>h) fun b o x hc hx=>(World.cell?_of_block (a:=⟨b,o,none⟩) (hb1 b (by have:=hC b o hc;omega))).trans hx
 obtain⟨ad,cap,rfl,hlc,hcm⟩:=hout.shape
 unfold maxLen at hcm
 obtain⟨aa,ca,rfl⟩:=zR da
 obtain⟨av,cv,rfl⟩:=jQ dv
 obtain⟨r,hr⟩:∃ r,zbt o f i=r:=⟨_,rfl⟩
 have hbs:∀ W,Below w1.heap.size w1 W->Calls Tryz.prog 64 #[.slice ad o.length cap,.slice av f.vec.length cv,.func (.func 65) #[] #[]] W fun e w'=>e=.returned (.tuple #[.int .i64 (i:Nat),.bool r])/\Below W.heap.size W w':=fun W hW=>
  zhO i r hr hok (hout1.keep hW.size fun k hk=>hW.block k hk) ((DX.keep dv1 hW.size fun k hk _=>hW.block k hk).mono (fun _ _ h=>h.1) fun _ _ _ _ h=>h) hrb (fun b o h=>Nat.lt_succ_of_lt (hC b o h)) (by have:=hW.size;omega) (hG1.mono (fun _ _ h=>h) fun b o x hc hx=>(World.cell?_of_block (a:=⟨b,o,none⟩) (hW.block b (by have:=hC b o hc;omega))).trans hx) hi q1 q2
 have HBS:=Lib.hid hbs
 have c0:=hbx1.cell
 have e0:=(zU hx1 0 _ rfl).1
 have e1:=(zU hx1 1 _ rfl).1
 have HW1:=Lib.hid hw1
 have HO1:=Lib.hid hout1
 have HDA:=Lib.hid da1
 have HDV:=Lib.hid dv1
 have HX1:=Lib.hid hbx1
 have HG1:=Lib.hid hG1
 have HINS:=Lib.hid hins
 have HXX:=Lib.hid hx1
 have HHIT:=Lib.hid hr
 have HBB:=Lib.hid hb1
 clear hins hb1 hx1 hout1 da1 dv1 hbx1 hG1 hr da dv hout hbx hG q1 q2 hbs
 have tokA:True:=trivial
 have hc1:Below w1.heap.size w1 w1.drew:=(Below.refl _ _).drew
 have mixed:Tryz.prog.follows .mixedOrders=true:=by kernel_rfl
 go_enter Tryz.func39,Tryz.ntmps39
 go_wp2_with fail
 rw [<-hw1]
 refine K6 (Sw:=qc) 12 51 (fun w9=>Below w1.heap.size w1 w9/\w9.cell? ⟨rb,0,none⟩=some (.slice ad o.length cap)/\w9.cell? ⟨w.heap.size,1,none⟩=some (.slice av f.vec.length cv)) (by kernel_rfl) (by kernel_rfl) rfl ⟨hc1,c0,e1⟩ ?_
 simp only [List.take_succ_cons,List.take_zero]
 refine zdm ?_
 refine zal (fun u _=>u=.tuple #[.int .i64 (i:Nat),.bool r]) (yc _) rfl ?_ ?_
 ·intro a2 w2 hc hk hr K hK
  have HK:=Lib.hid hK
  clear hK
  simp [Rds,zu,lk,Op.operands,Call.operands,RdEq] at hr
  go_simp
  refine(HBS.out _ hc.1).mono ?_
  rintro e w3 ⟨rfl,hb⟩
  have hkb:Keep qc w2 w3:=Keep.of_below' hb (Nat.le_refl _)
  exact HK.out _ _ hkb ⟨hc.1.trans (hb.mono hc.1.size),hkb.cell_some hc.2.1 id,hkb.cell_some hc.2.2 id⟩ rfl
 dsimp only [List.nil_append,List.cons_append]
 refine zdm ?_
 intro w2 hc2 hk2
 simp only [finG,forall_eq,List.nil_append,List.cons_append,List.drop_succ_cons,List.drop_zero,List.drop_nil]
 simp only [Act.put,List.setIfInBounds_toArray,List.set_cons_succ,List.set_cons_zero]
 have HB2:=Lib.hid hc2.1
 have c2:=hc2.2.1
 have f2:=(hc2.1.block _ (by omega)).trans (show w1.heap[w.heap.size]? = _ from HXX.out)
 have g0:=(zU f2 0 _ rfl).1
 have g1:=(zU f2 1 _ rfl).1
 clear hc2 hk2 hc1
 cases r with
 | true=>
   obtain⟨hlt,hz⟩:=zga HHIT.out
   have hout2:=HO1.out.keep (w':=w2) HB2.out.size fun k hk=>HB2.out.block k hk
   have HO2:=Lib.hid hout2
   obtain⟨xs,hxs,hel⟩:=id hout2
   obtain⟨a,b,ea,eb,dva,dvb⟩:=hel i hlt
   obtain⟨g,cap',cur,ev,hgb,hgl,hgc,_,_,_,_⟩:=hxs.cases.resolve_left (fun h=>by omega)
   obtain⟨rfl,_,rfl⟩:ad=some ⟨g,0,none⟩/\o.length=o.length/\cap=cap':=by simpa using ev
   have cia:w2.cell? ⟨g,i * 2,none⟩=some a:=by
    have:=World.ownsRow.cells hxs.1 (g:=g) rfl (i * 2) a ea
    rw [zh,Nat.zero_add] at this
    exact this
   have hbk:∀ k,(Value.slice (some ⟨g,0,none⟩) o.length cap).ownBlock=some k->rb+1<k/\k<w2.heap.size:=fun k hk=>by have:=hout2.owns k hk;omega
   obtain⟨ai,ci,rfl⟩:=zR dva
   have hun:∀ W,Below w2.heap.size w2 W->Calls Tryz.prog 67 #[.slice ai o[i].items.length ci,.slice aa f.items.length ca] W fun e w'=>∃ u,e=.returned u/\Below W.heap.size W w'/\Dat (DX C (rb+1) w' (.slice (some ⟨g,0,none⟩) o.length cap)) w' u (rg (qF zr o[i].items f.items)):=fun W hW=>
    zcL (hok.gi.ok _ (List.getElem_mem hlt)).2.2.1 hok.fo.2.2.1 (by have:=hok.oi _ (List.getElem_mem hlt);have:=hok.fi;omega) (DX.keep dva hW.size fun k hk _=>hW.block k hk) (DX.keep HDA.out (Nat.le_trans HB2.out.size hW.size) fun k hk _=>(hW.block k (Nat.lt_of_lt_of_le hk HB2.out.size)).trans (HB2.out.block k hk)) (fun k hk=>⟨(hbk k hk).1,Nat.lt_of_lt_of_le (hbk k hk).2 hW.size⟩) (fun b o h=>Nat.lt_succ_of_lt (hC b o h)) (by have:=HB2.out.size;have:=hW.size;omega) (HG1.out.mono (fun _ _ h=>h) fun b o x hc hx=>(World.cell?_of_block (a:=⟨b,o,none⟩) ((hW.block b (by have:=hC b o hc;have:=HB2.out.size;omega)).trans (HB2.out.block b (by have:=hC b o hc;omega)))).trans hx)
   have HUN:=Lib.hid hun
   have hc3:Below w2.heap.size w2 w2.drew:=(Below.refl _ _).drew
   have HGC:=Lib.hid hgc
   have hcap:0<cap:=by omega
   have hs2:=HB2.out.size
   clear hun hout2 hxs hel ea eb dva dvb hgc hbk
   obtain⟨wb,hwb⟩:∃ wb,wb=w2:=⟨_,rfl⟩
   subst hwb
   go_wp2_with fail
   refine K6 (Sw:=qc) 16 51 (fun w9=>Below wb.heap.size wb w9/\w9.cell? ⟨rb,0,none⟩=some (.slice (some ⟨g,0,none⟩) o.length cap)/\w9.cell? ⟨g,i * 2,none⟩=some (.slice ai o[i].items.length ci)/\w9.cell? ⟨w.heap.size,0,none⟩=some (.slice aa f.items.length ca)) (by kernel_rfl) (by kernel_rfl) rfl ⟨hc3,c2,cia,g0⟩ ?_
   simp only [List.take_succ_cons,List.take_zero]
   refine zdm ?_
   refine zal (fun u w9=>Dat (DX C (rb+1) w9 (.slice (some ⟨g,0,none⟩) o.length cap)) w9 u (rg (qF zr o[i].items f.items))) (fun u wa wb h hk=>DX.keep h hk.size fun k hk2 _=>hk.block k hk2 id) rfl ?_ ?_
   ·intro a2 w2 hc hk hr K hK
    have HK:=Lib.hid hK
    clear hK
    simp [Rds,zu,lk,Op.operands,Call.operands,RdEq] at hr
    go_simp
    refine(HUN.out _ hc.1).mono ?_
    rintro e w3 ⟨u,rfl,hb,hd⟩
    have hkb:Keep qc _ w3:=Keep.of_below' hb (Nat.le_refl _)
    exact HK.out _ _ hkb ⟨hc.1.trans (hb.mono hc.1.size),hkb.cell_some hc.2.1 id,hkb.cell_some hc.2.2.1 id,hkb.cell_some hc.2.2.2 id⟩ hd
   dsimp only [List.nil_append,List.cons_append]
   refine zdm ?_
   intro w2 hc2 hk2
   simp only [finG,forall_eq,List.nil_append,List.cons_append,List.drop_succ_cons,List.drop_zero,List.drop_nil]
   simp only [Act.put,List.setIfInBounds_toArray,List.set_cons_succ,List.set_cons_zero]
   intro u hu
   obtain⟨au,cu,rfl⟩:=zR hu
   have HU:=Lib.hid hu
   have HC3:=Lib.hid hc2.1
   have c3:=hc2.2.2.1
   have f3:w2.frozen? ⟨g,i * 2,none⟩=false:=by
    have:=(hc2.1.block g hgl).trans HGC.out
    simp [World.frozen?,this]
   clear hu hc2 hk2 hc3 c2 cia g0 g1 f2
   go_wp2
   (try simp only [Exit.inBlock,Exit.then]);refine bodyPost_ret (results_none rfl _ _ _) rfl ?_
   have hfin:=(HO2.out.keep (w':=w2) HC3.out.size fun k hk=>HC3.out.block k hk).set hlt HU.out hcap
   have hins:yf o f=o.take i++⟨qF zr o[i].items f.items,o[i].vec⟩::o.drop (i+1):=by
    rw [HINS.out,dif_pos hlt,if_pos hz,<-Jp hz]
   rw [hins]
   refine⟨⟨_,rfl⟩,_,?_,hfin,?_⟩
   ·refine(Below.heap_setCell _ _ _ _ (by show rb≠g;omega)).trans ((HC3.out.block rb (by omega)).trans ((HB2.out.block rb (by omega)).trans HX1.out))
   ·have hk1:Keep (fun k=>k=rb\/base<=k) w w1:=by rw [HW1.out];exact(Keep.refl _ w).alloc _
    exact((hk1.trans (Keep.of_below' HB2.out (Nat.le_refl _))).trans (Keep.of_below' HC3.out (Nat.le_refl _))).setCell (fun _=>.inr hgb) _
 | false=>
   have hins:yf o f=o.take i++f::o.drop i:=by
    rw [HINS.out]
    have hh:=HHIT.out
    unfold zbt at hh
    split at hh
    ·rename_i h
     rw [dif_pos h,if_neg (by simpa using hh)]
    ·rename_i h
     rw [dif_neg h,List.take_of_length_le (by omega),List.drop_of_length_le (by omega)]
   have HI2:=Lib.hid hins
   have hs2:=HB2.out.size
   have hcl:∀ W,Below w2.heap.size w2 W->Calls Tryz.prog 43 #[.slice aa f.items.length ca] W fun e w'=>∃ au cu,e=.returned (.slice au f.items.length cu)/\OwnR W.heap.size w' (.slice au f.items.length cu) f.items/\Below W.heap.size W w':=fun W hW=>by
    have hda:=DX.keep HDA.out (Nat.le_trans hs2 hW.size) fun k hk _=>(hW.block k (Nat.lt_of_lt_of_le hk hs2)).trans (HB2.out.block k hk)
    refine(zdg (vF hda (fun b o h=>h.1.elim (fun h=>by have:=hC b o h;have:=hW.size;omega) And.right) hok.fo.2.2.1.lt) (by have:=hok.fi;omega) hok.fo.2.2.2).mono ?_
    rintro e w' ⟨v',rfl,h1,h2⟩
    obtain⟨au,cu,rfl⟩:=zR (vL (D:=fun _ _=>True) h1.rd fun _ _ _ _=>trivial)
    exact⟨au,cu,rfl,h1,h2⟩
   have HCL:=Lib.hid hcl
   clear hcl hins
   have hc3:Below w2.heap.size w2 w2.drew:=(Below.refl _ _).drew
   obtain⟨wb,hwb⟩:∃ wb,wb=w2:=⟨_,rfl⟩
   subst hwb
   go_wp2_with fail
   refine zlJ [1,2,3,4,5,6,7,8,9,10,11,12,0,13,14,15,16] 12 51 (fun w9=>Below wb.heap.size wb w9/\w9.cell? ⟨rb,0,none⟩=some (.slice ad o.length cap)/\w9.cell? ⟨w.heap.size,0,none⟩=some (.slice aa f.items.length ca)/\w9.cell? ⟨w.heap.size,1,none⟩=some (.slice av f.vec.length cv)) mixed (by kernel_rfl) (by kernel_rfl) rfl ⟨hc3,c2,g0,g1⟩ _ _ rfl rfl rfl rfl _ rfl ?_
   simp only [z5,List.map_cons,List.map_nil,List.getD_cons_zero,List.getD_cons_succ,List.take_succ_cons,List.take_zero,List.drop_succ_cons,List.drop_zero]
   repeat (refine Pl.wdetK ?_ rfl (fun a w hc _ hr=>?_) ?_;rotate_left;(simp [Pl.Rds,zu,Pl.lk,Op.operands,Call.operands,RdEq] at hr;go_simp;with_reducible rfl);dsimp only [List.nil_append,List.cons_append])
   refine Pl.wgenK (fun u w9=>∃ au cu,u=.slice au f.items.length cu/\OwnR wb.heap.size w9 u f.items) (fun u _ _ h hk=>by obtain⟨au,cu,e,h⟩:=h;exact⟨au,cu,e,h.keep hk fun _ _ h=>h⟩) rfl ?_ ?_
   ·intro a2 w2 hc hk hr K hK
    have HK:=Lib.hid hK
    clear hK
    simp [Pl.Rds,zu,Pl.lk,Op.operands,Call.operands,RdEq] at hr
    go_simp
    refine(HCL.out _ hc.1).mono ?_
    rintro e w3 ⟨au,cu,rfl,ho,hb⟩
    have hkb:Keep qc _ w3:=Keep.of_below' hb (Nat.le_refl _)
    exact HK.out _ _ hkb ⟨hc.1.trans (hb.mono hc.1.size),hkb.cell_some hc.2.1 id,hkb.cell_some hc.2.2.1 id,hkb.cell_some hc.2.2.2 id⟩ ⟨au,cu,rfl,ho.mono hc.1.size⟩
   dsimp only [List.nil_append,List.cons_append]
   repeat (refine Pl.wdetK ?_ rfl (fun a w hc _ hr=>?_) ?_;rotate_left;(simp [Pl.Rds,zu,Pl.lk,Op.operands,Call.operands,RdEq] at hr;go_simp;with_reducible rfl);dsimp only [List.nil_append,List.cons_append])
   refine Pl.wgenK (fun u w9=>∃ au cu,u=.agg #[.slice au f.items.length cu,.slice av f.vec.length cv]/\OwnR wb.heap.size w9 (.slice au f.items.length cu) f.items) (fun u _ _ h hk=>by obtain⟨au,cu,e,h⟩:=h;exact⟨au,cu,e,h.keep hk fun _ _ h=>h⟩) rfl ?_ ?_
   ·intro a2 w2 hc hk hr K hK
    have HK:=Lib.hid hK
    clear hK
    simp [Pl.Rds,zu,Pl.lk,Op.operands,Call.operands,RdEq] at hr
    obtain⟨⟨_,⟨e1,e2⟩,⟨au,cu,rfl⟩,ho⟩,e3,e4⟩:=hr
    go_simp
    exact HK.out _ _ (Keep.refl _ _) hc ⟨au,cu,rfl,ho⟩
   dsimp only [List.nil_append,List.cons_append]
   refine Pl.wgenK (fun u w9=>∃ vb au cu vt,u=.slice (some ⟨vb,0,none⟩) 1 1/\w9.heap[vb]? = some (.cells #[.slice au f.items.length cu,.slice av f.vec.length cv] vt (0,0))/\wb.heap.size<=vb/\OwnR wb.heap.size w9 (.slice au f.items.length cu) f.items) (fun u _ _ h hk=>by obtain⟨vb,au,cu,vt,e,h1,h2,h3⟩:=h;exact⟨vb,au,cu,vt,e,hk.obj h1 id,h2,h3.keep hk fun _ _ h=>h⟩) rfl ?_ ?_
   ·intro a2 w2 hc hk hr K hK
    have HK:=Lib.hid hK
    clear hK
    simp [Pl.Rds,zu,Pl.lk,Op.operands,Call.operands,RdEq] at hr
    obtain⟨_,⟨e1,e2⟩,au,cu,rfl,ho⟩:=hr
    go_simp
    refine HK.out _ _ ((Keep.refl _ _).alloc _) ⟨hc.1.alloc hc.1.size _,?_,?_,?_⟩ ⟨w2.heap.size,au,cu,_,rfl,World.alloc_heap_new w2 _,hc.1.size,ho.keep ((Keep.refl qc _).alloc _) fun _ _ h=>h⟩
    ·exact((Keep.refl qc _).alloc _).cell_some hc.2.1 id
    ·exact((Keep.refl qc _).alloc _).cell_some hc.2.2.1 id
    ·exact((Keep.refl qc _).alloc _).cell_some hc.2.2.2 id
   dsimp only [List.nil_append,List.cons_append]
   repeat (refine Pl.wdetK ?_ rfl (fun a w hc _ hr=>?_) ?_;rotate_left;(simp [Pl.Rds,zu,Pl.lk,Op.operands,Call.operands,RdEq] at hr;go_simp;with_reducible rfl);dsimp only [List.nil_append,List.cons_append])
   have hfin:∀(w2:World) (vb:Nat) (au cu) (vt:TypeId),Below wb.heap.size wb w2->w2.heap[vb]? = some (.cells #[.slice au f.items.length cu,.slice av f.vec.length cv] vt (0,0))->wb.heap.size<=vb->OwnR wb.heap.size w2 (.slice au f.items.length cu) f.items ->
    Calls Tryz.prog 68 #[.slice ad o.length cap,.int .i64 (i:Nat),.slice (some ⟨vb,0,none⟩) 1 1] w2 fun e w3=>∃ g3 cap3,e=.returned (.slice (some ⟨g3,0,none⟩) (o.length+1) cap3)/\Boxed w3 rb 62 (.slice ad o.length cap)/\OutG C (rb+1) base (w3.setCell ⟨rb,0,none⟩ (.slice (some ⟨g3,0,none⟩) (o.length+1) cap3)) (.slice (some ⟨g3,0,none⟩) (o.length+1) cap3) (yf o f)/\Keep (fun k=>k=rb\/base<=k) w w3:=by
    intro w2 vb au cu vt hB2 hvb hvb2 how
    have hout9:=(HO1.out.keep (w':=wb) hs2 fun k hk=>HB2.out.block k hk).keep (w':=w2) hB2.size fun k hk=>hB2.block k hk
    obtain⟨xs,hxs,hel⟩:=id hout9
    have hso:=(HO1.out.keep (w':=wb) hs2 fun k hk=>HB2.out.block k hk).owns
    refine(Z5 base vb vt w2 _ o.length xs _ _ i rfl rfl hi hxs hvb (fun e=>by have:=(hso vb e).2;omega) (by have:=hok.l;omega) (by have:=hB2.size;omega)).mono ?_
    rintro e w3 ⟨v',rfl,ho3,hg3,hv3⟩
    have hsz:=hB2.size
    have hp:Dat (DX C (rb+1) w2 (.slice ad o.length cap)) w2 (.slice au f.items.length cu) (rg f.items):=vL how.rd fun b o h1 h2=>⟨.inr ⟨by omega,h2⟩,fun e=>by have:=(hso b e).2;omega⟩
    have hq:Dat (DX C (rb+1) w2 (.slice ad o.length cap)) w2 (.slice av f.vec.length cv) (vp f.vec):=DX.keep HDV.out (by omega) fun k hk _=>(hB2.block k (by omega)).trans (HB2.out.block k hk)
    have hfo:=OutG.ins hi hxs.2.1 hel hp hq (fun b o h=>Nat.lt_succ_of_lt (hC b o h)) (by omega) ho3 hg3 hv3
    obtain⟨g3,cap3,cur3,rfl,_⟩:=ho3.cases.resolve_left fun h=>by omega
    have hbx3:Boxed w3 rb 62 (.slice ad o.length cap):=Boxed.kept ((hB2.block rb (by omega)).trans ((HB2.out.block rb (by omega)).trans HX1.out)) hg3 fun e=>by have:=(hso rb e.symm);have:=(hxs.1.lt rb e.symm).1;omega
    refine⟨g3,cap3,rfl,hbx3,?_,?_⟩
    ·rw [HI2.out]
     exact hfo.box (by omega) (by omega) fun b o h=>by have:=hC b o h;omega
    ·have hk1:Keep (fun k=>k=rb\/base<=k) w w1:=by rw [HW1.out];exact(Keep.refl _ w).alloc _
     exact(((hk1.trans (Keep.of_below' HB2.out (Nat.le_refl _))).trans (Keep.of_below' hB2 (Nat.le_refl _)))).grown hg3 fun k hk _=>.inr (hxs.1.lt k hk).1
   have HFIN:=Lib.hid hfin
   clear hfin
   refine⟨fun w2 hc2 hk2=>?_,fun w2 hc2 hk2=>?_⟩<;>(simp only [Pl.finG,forall_eq,List.nil_append,List.cons_append,List.take_succ_cons,List.take_zero,List.drop_succ_cons,List.drop_zero,List.drop_nil,vS,Option.map_none];simp only [Act.put,List.setIfInBounds_toArray,List.set_cons_succ,List.set_cons_zero])
   ·rintro _ ⟨au0,cu0,rfl,_⟩ _ ⟨au1,cu1,rfl,_⟩ _ ⟨vb,au,cu,vt,rfl,hvb,hvb2,how⟩
    have HQ:=Lib.hid (HFIN.out w2 vb au cu vt hc2.1 hvb hvb2 how)
    clear hvb how hc2 hk2
    go_wp2_with (first
     | (go_at_call 68;refine HQ.out.mono ?_;rintro e w3 ⟨g3,cap3,rfl,hbx3,ho3,hk3⟩
        have HO3:=Lib.hid ho3
        have HK3:=Lib.hid hk3
        have HX3:=Lib.hid hbx3
        have c9:=hbx3.cell
        have f9:=hbx3.frozen
        clear ho3 hk3 hbx3)
     | go_in)
    go_end0
    exact⟨⟨_,rfl⟩,_,HX3.out.set _,HO3.out,HK3.out.setCell (fun _=>.inl rfl) _⟩
   ·rintro _ ⟨au0,cu0,rfl,_⟩ _ ⟨au1,cu1,rfl,_⟩ _ ⟨vb,au,cu,vt,rfl,hvb,hvb2,how⟩
    have HQ:=Lib.hid (HFIN.out w2 vb au cu vt hc2.1 hvb hvb2 how)
    clear hvb how hc2 hk2
    go_wp2_with (first
     | (go_at_call 68;refine HQ.out.mono ?_;rintro e w3 ⟨g3,cap3,rfl,hbx3,ho3,hk3⟩
        have HO3:=Lib.hid ho3
        have HK3:=Lib.hid hk3
        have HX3:=Lib.hid hbx3
        have c9:=hbx3.cell
        have f9:=hbx3.frozen
        clear ho3 hk3 hbx3)
     | go_in)
    go_end0
    exact⟨⟨_,rfl⟩,_,HX3.out.set _,HO3.out,HK3.out.setCell (fun _=>.inl rfl) _⟩
end Go.Proofs.YtjimggclhlnfbaaGreat
namespace Go.Proofs.YtjimggclhlnfbaaGreat
open Go.RowKit
theorem Qm (k:List Fg) (hr:RightK k) (hz:Z0 k) (hkl:k.length<=1073741824) (hT:(CI k).length<=1000000):Cn Tryz.prog 11 [kp k] (ns (zl k)):=by
 refine xw rfl (enters_of Tryz.func11 (by kernel_rfl) rfl) fun D w vs hG hD hsz hd=>?_
 rw [zaz hsz]
 refine(YA D k _ w hr hz hkl hT (hd 0 _ rfl) hD hG).mono ?_
 rintro e w' ⟨v,rfl,hb,ho⟩
 exact⟨v,rfl,hb,vh ho fun b o h1 h2=>.inr ⟨h1,h2⟩⟩
noncomputable def Xl (k:List Fg) (j:Nat):List Iv:=((yw k).take j).filter fun s=>decide (0<(zG k s.lo).length)
theorem Xm (k:List Fg) {j:Nat} (h:(zl k).length<=j):Xl k j=zA k:=by
 unfold Xl zA
 rw [List.take_of_length_le (by unfold yw;rw [vm];exact h)]
theorem Xn (k:List Fg) (j:Nat):(Xl k j).length<=j:=Nat.le_trans (List.length_filter_le _ _) (List.length_take_le _ _)
theorem QH {k:List Fg} {j:Nat} (h:j<(zl k).length):Xl k (j+1)=Xl k j++if zG k (zl k)[j]=[] then [] else [⟨(zl k)[j],if h:j+1<(zl k).length then (zl k)[j+1] - 1 else zk - 1⟩]:=by
 have hc:j<(yw k).length:=by unfold yw;rw [vm];exact h
 unfold Xl
 rw [List.take_succ_eq_append_getElem hc,List.filter_append]
 congr 1
 have hg:(yw k)[j]=⟨(zl k)[j],if h:j+1<(zl k).length then (zl k)[j+1] - 1 else zk - 1⟩:=Xk _ _ h
 rw [hg]
 by_cases h0:zG k (zl k)[j]=[]
 ·rw [if_pos h0];simp [h0]
 ·rw [if_neg h0];simp [List.length_pos_iff.2 h0]
theorem kE {k:List Fg} (hr:RightK k) {j:Nat} (h:j+1<(zl k).length):1<=(zl k)[j+1]/\(zl k)[j+1]<zk:=by
 refine⟨?_,xM hr _ (List.getElem_mem h)⟩
 have:=List.pairwise_iff_getElem.1 (yi k) j (j+1) (by omega) h (by omega)
 omega
theorem Xr (k:List Fg) (hr:RightK k) (hz:Z0 k) (hkl:k.length<=1073741824) (hT:(CI k).length<=1000000):Cn Tryz.prog 14 [kp k] (rg (zA k)):=by
 have hsl:=vB k
 have hM:=zw
 refine zz Tryz.func14 1 ?_
 refine pw ?_
 refine .c (Qm k hr hz hkl hT) ?_
 refine pLoop.go (fun j=>j<=(zl k).length) (fun j=>[(3,.sl ((Xl k j).map Z6) (.r 38 2)),(12,.v (.int .i64 (j:Nat)))]) (fun _=>[]) (fun j=>(zl k).length - j) 0 [3,12] ?_ ?_ ?_
 ·exact Nat.zero_le _
 ·refine pw ?_
  rfl
 ·rintro j hj
  have hpl:=Xn k j
  refine pw ?_
  refine .i ?_ ?_<;>intro h<;>(try simp only [zf] at h)<;>first | refine pw ?_ | exact pd
  ·have hst:=QH h
   have hlt:=xM hr _ (List.getElem_mem h)
   refine pw ?_
   refine .c (JI k (zl k)[j] hr hz hkl) ?_
   refine .i ?_ ?_<;>intro h2<;>(try simp only [zf] at h2)<;>first | refine pw ?_ | exact pd
   ·rw [if_pos h2,List.append_nil] at hst
    exact⟨j+1,h,by omega,by rw [hst],rfl⟩
   ·rw [if_neg h2] at hst
    refine .i ?_ ?_<;>intro h3<;>(try simp only [zf] at h3)<;>first | refine pw ?_ | exact pd
    ·obtain⟨n1,n2⟩:=kE hr h3
     rw [dif_pos h3] at hst
     refine pw ?_
     refine⟨j+1,h,by omega,?_,rfl⟩
     rw [hst]
     simp [Z6]
    ·rw [dif_neg (by omega)] at hst
     refine pw ?_
     refine⟨j+1,h,by omega,?_,rfl⟩
     rw [hst]
     simp [Z6,hM]
  ·rw [Xm k (by omega)]
theorem ZL (f:Fg) (r:List Fg) (x y:Nat):qG (f::r) x y=((mem f.items x == mem f.items y) && qG r x y):=rfl
theorem VZ (k:List Fg) (x y:Nat) (hz:Z0 k):Cn Tryz.prog 33 [kp k,.v (.int .u64 x),.v (.int .u64 y)] (.v (.bool (qG k x y))):=by
 have hl:=hz.1
 refine zz Tryz.func33 3 ?_
 refine pw ?_
 refine pLoop.go (fun j=>j<=k.length/\qG k x y=qG (k.drop j) x y) (fun j=>[(7,.v (.int .i64 (j:Nat)))]) (fun _=>[]) (fun j=>k.length - j) 0 [7] ?_ ?_ ?_
 ·exact⟨Nat.zero_le _,rfl⟩
 ·exact pd
 ·rintro j ⟨hj,hm⟩
  refine pw ?_
  refine .i ?_ ?_<;>intro h<;>(try simp only [zf] at h)<;>first | refine pw ?_ | exact pd
  ·rw [List.drop_eq_getElem_cons h] at hm
   have hzj:=hz.2 _ (List.getElem_mem h)
   refine pw ?_
   refine .c (x9 k[j].items x hzj.1) ?_
   refine .c (x9 k[j].items y hzj.1) ?_
   refine .i ?_ ?_<;>intro h2<;>(try simp only [zf] at h2)<;>first | refine pw ?_ | exact pd
   ·rw [hm,ZL,h2,Bool.false_and]
   ·refine⟨j+1,⟨h,?_⟩,by omega,rfl⟩
    rw [hm,ZL,h2,Bool.true_and]
  ·rw [hm,List.drop_of_length_le (by omega)]
   rfl
def KH (k:List Fg) (l:List Nat):List Nat:=l.filter fun x=>decide (x=0) || !qG k (x - 1) x
theorem KI (k:List Fg) {l:List Nat} {j:Nat} (h:j<l.length):KH k (l.take (j+1))=KH k (l.take j)++if (decide (l[j]=0) || !qG k (l[j] - 1) l[j])=true then [l[j]] else []:=by
 unfold KH
 rw [List.take_succ_eq_append_getElem h,List.filter_append]
 congr 1
 by_cases h0:(decide (l[j]=0) || !qG k (l[j] - 1) l[j])=true
 ·rw [if_pos h0];simp only [List.filter_cons,List.filter_nil];exact if_pos h0
 ·rw [if_neg h0];simp only [List.filter_cons,List.filter_nil];exact if_neg h0
theorem zbz (k:List Fg) (l:List Nat) (j:Nat):(KH k (l.take j)).length<=j:=Nat.le_trans (List.length_filter_le _ _) (List.length_take_le _ _)
theorem Qc (k:List Fg) (hr:RightK k) (hz:Z0 k) (hkl:k.length<=1048576) (hT:(CI k).length<=1000000) (hi:∀ f ∈ k,f.items.length<=1048576):Cn Tryz.prog 12 [kp k] (ns (zl k)):=by
 have hM:=zw
 have hsl:(zH (k.map Fg.items)).length<=1048576:=by
  have h2:(zH (k.map Fg.items)).length<=(yI (k.map Fg.items)).length:=vO _
  have h3:(yI (k.map Fg.items)).length=1+(CI k).length:=by unfold yI CI;rw [List.length_cons,List.flatMap_map];omega
  omega
 have hlt:∀ x ∈ zH (k.map Fg.items),x<zk:=fun x hx=>ki (fun l hl s hs=>by
  obtain⟨f,hf,rfl⟩:=List.mem_map.1 hl
  have:=NF.lo_ge (hr f hf).1 s hs
  omega) x hx
 have hcs:=XH (k.map Fg.items) (by simp;omega) (fun l hl=>by
  obtain⟨f,hf,rfl⟩:=List.mem_map.1 hl
  exact hi f hf) (by unfold yI;rw [List.length_cons,List.flatMap_map];unfold CI at hT;omega) (fun l hl=>by
  obtain⟨f,hf,rfl⟩:=List.mem_map.1 hl
  exact(hr f hf).1.lt)
 rw [show rgs (k.map Fg.items)=.sl (k.map fun f=>[rg f.items]) .sh by unfold rgs;rw [List.map_map];rfl] at hcs
 refine zz Tryz.func12 1 ?_
 refine pw ?_
 refine pLoop.go (fun j=>j<=k.length) (fun j=>[(3,.sl ((k.take j).map fun f=>[rg f.items]) (.r 21 1)),(4,.v (.int .i64 (j:Nat)))]) (fun _=>[]) (fun j=>k.length - j) 0 [3,4] ?_ ?_ ?_
 ·exact Nat.zero_le _
 ·exact pd
 ·rintro j hj
  refine pw ?_
  refine .i ?_ ?_<;>intro h<;>(try simp only [zf] at h)<;>first | refine pw ?_ | exact pd
  ·refine⟨j+1,h,by omega,?_,rfl⟩
   rw [List.take_succ_eq_append_getElem h,List.map_append]
   rfl
  ·rw [show k.take j=k from List.take_of_length_le (by omega)]
   (first | refine .rd (hcs) rfl ?_ | refine .mk (hcs) rfl ?_)
   obtain⟨l,hl⟩:∃ l,l=zH (k.map Fg.items):=⟨_,rfl⟩
   rw [<-hl] at hsl hlt ⊢
   have hfin:KH k l=zl k:=by rw [hl];rfl
   refine pw ?_
   refine pLoop.go (fun j=>j<=l.length) (fun j=>[(6,.sl ((KH k (l.take j)).map xB) (.r 55 1)),(7,.v (.int .i64 (j:Nat)))]) (fun _=>[]) (fun j=>l.length - j) 0 [6,7] ?_ ?_ ?_
   ·exact Nat.zero_le _
   ·refine pw ?_
    rfl
   ·rintro j hj
    have hkl2:=zbz k l j
    refine pw ?_
    refine .i ?_ ?_<;>intro h<;>(try simp only [zf] at h)<;>first | refine pw ?_ | exact pd
    ·have hst:=KI k h
     have hx:=hlt _ (List.getElem_mem h)
     refine .i ?_ ?_<;>intro h0<;>(try simp only [zf] at h0)<;>first | refine pw ?_ | exact pd
     ·rw [if_pos (by simp [h0])] at hst
      refine⟨j+1,h,by omega,?_,rfl⟩
      rw [hst]
      simp [xB]
     ·refine .c (VZ k (l[j] - 1) l[j] hz) ?_
      refine .i ?_ ?_<;>intro h2<;>(try simp only [zf] at h2)<;>first | refine pw ?_ | exact pd
      ·rw [if_pos (by rw [h2];simp)] at hst
       refine⟨j+1,h,by omega,?_,rfl⟩
       rw [hst]
       simp [xB]
      ·rw [if_neg (by rw [h2];simpa using h0),List.append_nil] at hst
       exact⟨j+1,h,by omega,by rw [hst],rfl⟩
    ·rw [show l.take j=l from List.take_of_length_le (by omega),hfin]
theorem XA (k:List Fg) (hr:RightK k) (hz:Z0 k) (hkl:k.length<=1048576) (hT:(CI k).length<=1000000) (hst:Cn Tryz.prog 12 [kp k] (ns (zl k))):Cn Tryz.prog 15 [kp k] (rg (zA k)):=by
 have hsl:=vB k
 have hM:=zw
 refine zz Tryz.func15 1 ?_
 refine pw ?_
 (first | refine .c (hst) ?_ | refine .o (hst) ?_)
 refine pLoop.go (fun j=>j<=(zl k).length) (fun j=>[(4,.sl ((Xl k j).map Z6) (.r 27 2)),(5,.v (.int .i64 (j:Nat)))]) (fun _=>[]) (fun j=>(zl k).length - j) 0 [4,5] ?_ ?_ ?_
 ·exact Nat.zero_le _
 ·refine pw ?_
  rfl
 ·rintro j hj
  have hpl:=Xn k j
  refine pw ?_
  refine .i ?_ ?_<;>intro h<;>(try simp only [zf] at h)<;>first | refine pw ?_ | exact pd
  ·have hst:=QH h
   have hlt:=xM hr _ (List.getElem_mem h)
   refine pw ?_
   refine .c (VX k (zl k)[j] hz (by omega)) ?_
   refine .i ?_ ?_<;>intro h2<;>(try simp only [zf] at h2)<;>first | refine pw ?_ | exact pd
   ·refine .c (JV (zl k) j h (by omega) (fun h=>kE hr h)) ?_
    rw [if_neg (by intro e;rw [e] at h2;simp at h2)] at hst
    refine⟨j+1,h,by omega,?_,rfl⟩
    rw [hst]
    simp [Z6]
   ·rw [if_pos (by simpa using h2),List.append_nil] at hst
    exact⟨j+1,h,by omega,by rw [hst],rfl⟩
  ·rw [Xm k (by omega)]
structure Ok12 (C:Nat->List Nat) (R:List Nat) (k:List Fg):Prop where
 r:RightK k
 z:Z0 k
 l:k.length<=1048576
 t:(CI k).length<=1000000
 i:∀ f ∈ k,f.items.length<=1048576
 ik:IK C R k
 ok:OkC C R
 s:∀ f ∈ k,SmV f.vec
noncomputable def K4 (k:List Fg) (s:Iv):Fg:=⟨[s],qI k s.lo⟩
theorem XB (k:List Fg) {j:Nat} (h:j<(zA k).length):((zA k).take (j+1)).map (fun s=>fc (K4 k s))=((zA k).take j).map (fun s=>fc (K4 k s))++[fc (K4 k (zA k)[j])]:=by
 rw [List.take_succ_eq_append_getElem h,List.map_append];rfl
theorem J4 (k:List Fg) {j:Nat} (h:(zA k).length<=j):((zA k).take j).map (fun s=>fc (K4 k s))=(z8 k).map fc:=by
 rw [List.take_of_length_le h];unfold z8;rw [List.map_map];rfl
theorem XC {C:Nat->List Nat} {R:List Nat} (k:List Fg) (h12:Ok12 C R k):Cn Tryz.prog 16 [kp k] (kp (z8 k)):=by
 have hpl:=je k
 have h12t:=h12.t
 refine zz Tryz.func16 1 ?_
 refine pw ?_
 refine .c (Xr k h12.r h12.z (by have:=h12.l;omega) h12.t) ?_
 refine pLoop.go (fun j=>j<=(zA k).length) (fun j=>[(3,.sl (((zA k).take j).map (fun s=>fc (K4 k s))) (.r 22 2)),(9,.v (.int .i64 (j:Nat)))]) (fun _=>[]) (fun j=>(zA k).length - j) 0 [3,9] ?_ ?_ ?_
 ·exact Nat.zero_le _
 ·exact pd
 ·rintro j hj
  refine pw ?_
  refine .i ?_ ?_<;>intro h<;>(try simp only [zf] at h)<;>first | refine pw ?_ | exact pd
  ·have hst:=XB k h
   refine .c (ziz k (zA k)[j].lo h12.ik h12.ok h12.r h12.s h12.z) ?_
   refine cutP.full rfl ?_ rfl ?_ ?_
   ·exact pd
   ·exact pd
   ·refine pw ?_
    exact⟨j+1,h,by omega,hst.symm,rfl⟩
  ·exact J4 k (by omega)
theorem Qb {C:Nat->List Nat} {R:List Nat} (k:List Fg) (h12:Ok12 C R k):Cn Tryz.prog 18 [kp k] (kp (z8 k)):=by
 have hpl:=je k
 have h12t:=h12.t
 refine zz Tryz.func18 1 ?_
 refine pw ?_
 refine .c (XA k h12.r h12.z h12.l h12.t (Qc k h12.r h12.z h12.l h12.t h12.i)) ?_
 refine pLoop.go (fun j=>j<=(zA k).length) (fun j=>[(4,.sl (((zA k).take j).map (fun s=>fc (K4 k s))) (.r 29 2)),(5,.v (.int .i64 (j:Nat)))]) (fun _=>[]) (fun j=>(zA k).length - j) 0 [4,5] ?_ ?_ ?_
 ·exact Nat.zero_le _
 ·exact pd
 ·rintro j hj
  refine pw ?_
  refine .i ?_ ?_<;>intro h<;>(try simp only [zf] at h)<;>first | refine pw ?_ | exact pd
  ·have hst:=XB k h
   refine .c (zcr k (zA k)[j].lo h12.ik h12.ok h12.r h12.s h12.z) ?_
   refine cutP.full rfl ?_ rfl ?_ ?_
   ·exact pd
   ·exact pd
   ·refine pw ?_
    exact⟨j+1,h,by omega,hst.symm,rfl⟩
  ·exact J4 k (by omega)
def OkX (C:Nat->List Nat) (R:List Nat):Prop:=(∀ r,(C r).length<=9000)/\R.length<=1000
theorem OkX.c {C:Nat->List Nat} {R:List Nat} (h:OkX C R):OkC C R:=⟨h.1,by have:=h.2;omega⟩
structure Kn (C:Nat->List Nat) (R:List Nat) (n:Nat) (k:List Fg):Prop where
 r:RightK k
 ik:IK C R k
 s:∀ f ∈ k,SmV f.vec
 m:qx k<=n
 l:k.length<=n
theorem Kn.z {C:Nat->List Nat} {R:List Nat} {n:Nat} {k:List Fg} (h:Kn C R n k) (hn:n<=400000):Z0 k:=
 ⟨by have:=h.l;omega,fun f hf=>⟨by have:=xq hf;have:=h.m;omega,by have:=(h.s f hf).2.1;omega,fun e he=>by have:=(h.s f hf).2.2 e he;omega⟩⟩
theorem Kn.ok12 {C:Nat->List Nat} {R:List Nat} {n:Nat} {k:List Fg} (h:Kn C R n k) (ok:OkX C R) (hn:n<=400000):Ok12 C R k:=
 ⟨h.r,h.z hn,by have:=h.l;omega,by have:=X2 k;have:=h.m;omega,fun f hf=>by have:=xq hf;have:=h.m;omega,h.ik,ok.c,h.s⟩
theorem Kn.mono {C C':Nat->List Nat} {R R':List Nat} {n m:Nat} {k:List Fg} (h:Kn C R n k) (hC:∀ r x,x ∈ C r->x ∈ C' r) (hR:∀ x ∈ R,x ∈ R') (hn:n<=m):Kn C' R' m k:=
 ⟨h.r,fun f hf=>(h.ik f hf).mono hC hR,h.s,by have:=h.m;omega,by have:=h.l;omega⟩
theorem XL:∀ {k:List Fg},(∀ f ∈ k,f.items.length<=20)->qx k<=k.length * 20
 | [],_=>Nat.zero_le _
 | f::k,h=>by
   have h1:=XL (k:=k) fun g hg=>h g (by simp [hg])
   have h2:=h f (by simp)
   simp only [qx,List.length_cons];omega
theorem Kn.few {k:List Fg} (h:jX k=true) (hr:RightK k):Kn (CK k) (RK k) 240 k:=by
 have h1:=YS h
 have h2:=XL fun f hf=>(h1.2 f hf).1
 exact⟨hr,hr.ik,fun f hf=>zdy h hr hf,by omega,by omega⟩
theorem JU {k:List Fg} (h:jX k=true) (hr:RightK k):OkX (CK k) (RK k):=by
 have:=zbl h hr
 exact⟨fun r=>by have:=this.1 r;omega,by omega⟩
theorem Kn.refine {C:Nat->List Nat} {R:List Nat} {n:Nat} {k:List Fg} (h:Kn C R n k) (ok:OkX C R):Kn C R (1+2 * n) (z8 k):=by
 have h1:=je k
 have h2:=X2 k
 have h3:=h.m
 have hw:=h.ik.refine
 refine⟨Qd h.r,fun f hf=>(hw f hf).iv,fun f hf=>(hw f hf).smv ok.c,?_,?_⟩
 ·unfold z8;rw [QN];omega
 ·unfold z8;rw [List.length_map];omega
theorem Kn.group {C:Nat->List Nat} {R:List Nat} {n:Nat} {k:List Fg} (h:Kn C R n k) (ok:OkX C R):Kn C R n (ql k):=by
 have h1:=Zg h.r
 have hw:∀ g ∈ ql k,WV C R g.vec:=fun g hg=>by
  obtain⟨f,hf,e⟩:=h1.2.2 g hg
  rw [e]
  exact(h.ik f hf).canVec
 exact⟨(Y1 h.r).right,fun g hg=>(hw g hg).iv,fun g hg=>(hw g hg).smv ok.c,by have:=h.m;omega,by have:=h.l;omega⟩
theorem Kn.take {C:Nat->List Nat} {R:List Nat} {n:Nat} {k:List Fg} (h:Kn C R n k) (j:Nat):Kn C R n (k.take j):=by
 refine⟨h.r.take j,h.ik.take j,fun f hf=>h.s f (List.mem_of_mem_take hf),?_,?_⟩
 ·have h1:=XK (k.take j) (k.drop j)
  rw [List.take_append_drop] at h1
  have:=h.m;omega
 ·have:=h.l
  have:=List.length_take_le j k
  have:=List.length_take_le' j k
  omega
end Go.Proofs.YtjimggclhlnfbaaGreat
namespace Go.Proofs.YtjimggclhlnfbaaGreat
open Go.RowKit
attribute [-go_sem] qo
theorem zau {C:Nat->List Nat} {R:List Nat} {n j:Nat} {k:List Fg} (h:Kn C R n k) (ok:OkX C R) (hn:n<=400000) (hj:j<k.length) (hne:¬(zE k[j].vec=[]\/k[j].items=[])):AddOk (ql (k.take j)) ⟨k[j].items,zE k[j].vec⟩:=by
 have ht:=h.take j
 have hg:=ht.group ok
 have gi:=Y1 ht.r
 have hm:=List.getElem_mem hj
 have hw:=(h.ik _ hm).canVec
 have hs:=Zg ht.r
 have hv:∀ g ∈ ql (k.take j),WV C R g.vec:=fun g hg=>by
  obtain⟨f,hf,e⟩:=hs.2.2 g hg
  rw [e];exact(ht.ik f hf).canVec
 exact⟨gi,Qp (h.r _ hm) hne,by have:=hg.l;omega,by have:=xq hm;have:=h.m;show k[j].items.length<=_;omega,fun g h1=>by have:=xq h1;have:=hg.m;omega,hw.can.bd,fun g h1=>(gi.ok g h1).1.bd,hw.nlen ok.1 (by have:=ok.2;omega),fun g h1=>(hv g h1).nlen ok.1 (by have:=ok.2;omega)⟩
theorem zcR {P:Program} {f:FuncId} {t:Tmp} {p:Value} {xs:List Operand} {c:Call} {o:Oper} {a:Act} {w:World} {K:Act->World->Prop} {Q:Exit->Act->World->Prop} (ho:o.op=.call c) (hc:c.callee=.value (.tmp t)) (hv:a.eval (.tmp t)=.func (.func f) #[p] #[]) (ha:c.args.toList=xs)
 (he:∀ args w,(callFunc f args).run P w=.ok (.enter f args) w)
 (h:Calls P f (p::xs.map a.eval).toArray w fun e w''=>match e with | .returned v=>K (a.put o.dst v) w'' | .panicked chain=>Q (.panic chain) a w'' | .outgrown=>LetsOut Q):o.wp P a w K Q:=by
 have hr:(execOp a.eval o).run P w=.ok (.enter f (p::xs.map a.eval).toArray) w:=by
  have e:c.args.map a.eval=(xs.map a.eval).toArray:=Array.toList_inj.1 (by rw [Array.toList_map,ha])
  simp only [execOp,ho,resolve,hc,e,hv,Deferred.ofValue,Sem.run_bind,Sem.run_pure,Result.andThen_ok,invoke]
  rw [show (#[p]++(xs.map a.eval).toArray++#[]:Array Value)=(p::xs.map a.eval).toArray from by simp]
  exact he _ _
 unfold Oper.wp
 rw [hr,Oper.upon_enter]
 exact h.mono (fun e w' h=>by cases e<;>exact h)
theorem Y0 {B:Nat->List Nat} {R:List Nat} {n:Nat} (C:Nat->Nat->Prop) (k:List Fg) (vk:Value) (w:World) (hk:Kn B R n k) (ok:OkX B R) (hn:n<=400000) (rk:Dat C w vk (kp k)) (hC:∀ b o,C b o->b<w.heap.size) (hG:GL C w) :
 Calls Tryz.prog 19 #[vk] w fun e w'=>∃ v,e=.returned v/\Keep (fun b=>w.heap.size<=b) w w'/\Dat (DL C w.heap.size w') w' v (kp (ql k)):=by
 have hmf:∀(fn:Fn) (first cap:Array Value) (w:World),(Instr.makeFunc fn first cap).run Tryz.prog w=.ok (.func fn first cap) w:=fun _ _ _ _=>rfl
 obtain⟨aa,ca,fs,rfl,hl,hrow,hfs⟩:=Yd rk hC
 have hkl:=hk.l
 have HK:=Lib.hid hk
 have HROW:=Lib.hid hrow
 have HFS:=Lib.hid hfs
 have HGL:=Lib.hid hG
 have hca:=hrow.1
 have hcm:=hrow.2.1
 unfold maxLen at hcm
 rw [hl] at hca
 have hent:∀ args w,(callFunc 39 args).run Tryz.prog w=.ok (.enter 39 args) w:=enters_of Tryz.func39 (by kernel_rfl) rfl
 have HEN:=Lib.hid hent
 clear rk hrow hfs hG hent hk
 go_enter Tryz.func19,Tryz.ntmps19
 go_wp2_with fail
 go_loopg [11] k.length (fun g x wr=>∃ j u,j<=k.length/\g=k.length - j/\x=.int .i64 j/\Boxed wr w.heap.size 62 u/\OutG C (w.heap.size+1) (w.heap.size+2) wr u (ql (k.take j))/\Keep (fun b=>w.heap.size<=b) w wr)
 case atStart=>exact⟨0,_,Nat.zero_le _,rfl,rfl,World.alloc_heap_new w _,OutG.start _ _ _ _,(Keep.refl _ w).alloc _⟩
 case round=>
  obtain⟨j,u,hj,rfl,rfl,hbx,hout,hkr⟩:=hrel
  have HBX:=Lib.hid hbx
  have HOUT:=Lib.hid hout
  have HKR:=Lib.hid hkr
  have hrw:=hbx.lt
  have cb:=hbx.cell
  clear hbx hout hkr
  by_cases hlt:j<k.length
  ·have hltf:j<fs.length:=by omega
   obtain⟨bb,off,rfl,hbn,hcel⟩:=HROW.out.2.2 (by intro e;subst e;simp at hltf)
   obtain⟨c0,c1⟩:=hcel j hltf
   obtain⟨d0,d1⟩:=HFS.out j hltf
   replace c0:=(HKR.out.cell (p:=⟨bb,off+j * 2,none⟩) (by show bb<_;omega) (by show ¬ w.heap.size<=bb;omega)).trans c0
   replace c1:=(HKR.out.cell (p:=⟨bb,off+j * 2+1,none⟩) (by show bb<_;omega) (by show ¬ w.heap.size<=bb;omega)).trans c1
   have HAO:=Lib.hid (fun hne=>zau HK.out ok hn hlt hne)
   have HGT:=Lib.hid (YZ hlt)
   have hfm:=List.getElem_mem hlt
   have hsm:=HK.out.s _ hfm
   have hfr:=HK.out.r _ hfm
   have hil:k[j].items.length<=400000:=by have:=xq hfm;have:=HK.out.m;omega
   generalize k[j]=f at *
   generalize fs[j]=q at *
   obtain⟨ai,ci,e0⟩:=zR d0
   obtain⟨av,cv,e1⟩:=jQ d1
   rw [e0] at c0 d0
   rw [e1] at c1 d1
   have hCr:∀ b o,C b o->b<wr.heap.size:=fun b o h=>by have:=hC b o h;omega
   have hGr:GL C wr:=HGL.out.mono (fun _ _ h=>h) fun b o x hc hx=>HKR.out.cell_some hx (by have:=hC b o hc;show ¬ w.heap.size<=b;omega)
   have hdm:∀(x:Value) (p:PV),Dat C w x p->∀ W,Below wr.heap.size wr W->Dat C W x p:=fun x p h W hW=>h.mono (fun _ _ h=>h) fun b o x hc hx=>(World.cell?_of_block (a:=⟨b,o,none⟩) (hW.block b (hCr b o hc))).trans (HKR.out.cell_some hx (by have:=hC b o hc;show ¬ w.heap.size<=b;omega))
   have hGW:∀ W,Below wr.heap.size wr W->GL C W:=fun W hW=>hGr.mono (fun _ _ h=>h) fun b o x hc hx=>(World.cell?_of_block (a:=⟨b,o,none⟩) (hW.block b (hCr b o hc))).trans hx
   have hcan:∀ W,Below wr.heap.size wr W->Calls Tryz.prog 40 #[.slice av f.vec.length cv] W fun e w'=>∃ a c,e=.returned (.slice a (zE f.vec).length c)/\Below W.heap.size W w'/\Dat (fun b o=>C b o\/(W.heap.size<=b/\b<w'.heap.size)) w' (.slice a (zE f.vec).length c) (vp (zE f.vec)):=fun W hW=>by
    refine(jV (D:=C) (zcN f.vec hfr.2 hsm.2.1 hsm.2.2) (hGW W hW) (fun b o h=>Nat.lt_of_lt_of_le (hCr b o h) hW.size) rfl (fun i p hp=>?_)).mono ?_
    ·match i,hp with
     | 0,hp=>cases hp;exact hdm _ _ d1 W hW
     | i+1,hp=>simp at hp
    ·rintro e w' ⟨v,rfl,hb,hd⟩
     obtain⟨a,c,rfl⟩:=jQ hd
     exact⟨a,c,rfl,hb,hd⟩
   have HCAN:=Lib.hid hcan
   have HD0:=Lib.hid d0
   have HDM:=Lib.hid hdm
   have HGW:=Lib.hid hGW
   have HCR:=Lib.hid hCr
   clear hcan d0 d1 hdm hGW hCr hGr hcel hfm hsm hfr e0 e1
   have tokA:True:=trivial
   by_cases h1:0<(zE f.vec).length
   ·by_cases h2:0<f.items.length
    ·go_wp2_with (first
      | (go_at_call 40;have _t:=tokA;refine(HCAN.out _ ((Below.refl _ _).alloc (Nat.le_refl _) _)).mono ?_;rintro e w3 ⟨a3,n3,rfl,hb3,hd3⟩
         have hx3:w3.heap[wr.heap.size]? = some (.cells #[.slice ai f.items.length ci,.slice av f.vec.length cv] 39 (0,0)):=(hb3.block _ (by simp)).trans (World.alloc_heap_new wr _)
         have f0:=(zU hx3 0 _ rfl).1
         have HB3:=Lib.hid (((Below.refl _ wr).alloc (Nat.le_refl _) _).trans (hb3.mono (by simp)))
         have hs3:=hb3.size
         simp only [World.size_alloc] at hs3
         have HD3:=Lib.hid hd3
         clear hb3 hd3 hx3 tokA)
      | go_in)
     refine zcR (t:=27) (xs:=[.tmp 31]) rfl rfl rfl rfl HEN.out ?_
     have hne:¬(zE f.vec=[]\/f.items=[]):=fun e=>by
      rcases e with e | e
      ·rw [e] at h1;simp at h1
      ·rw [e] at h2;simp at h2
     have hsu:=HOUT.out.owns
     refine(X3 (C:=C) (base:=w.heap.size+2) (rb:=w.heap.size) (v:=u) (o:=ql (k.take j)) (f:=⟨f.items,zE f.vec⟩) (va:=.slice ai f.items.length ci) (vv:=.slice a3 (zE f.vec).length n3) (HAO.out hne) (HOUT.out.keep (by omega) fun b hb=>HB3.out.block b hb) ((HB3.out.block _ hrw).trans HBX.out) (by omega) (by omega) hC (HGW.out _ HB3.out) ?_ ?_).mono ?_
     ·exact(HDM.out _ _ HD0.out _ HB3.out).mono (fun b o h=>⟨.inl h,fun e=>by have:=(hsu b e).1;have:=hC b o h;omega⟩) fun _ _ _ _ h=>h
     ·refine HD3.out.mono (fun b o h=>?_) fun _ _ _ _ h=>h
      rcases h with h | h
      ·exact⟨.inl h,fun e=>by have:=(hsu b e).1;have:=hC b o h;omega⟩
      ·simp only [World.size_alloc] at h
       exact⟨.inr ⟨by omega,h.2⟩,fun e=>by have:=(hsu b e).2;omega⟩
     rintro e w4 ⟨⟨u',rfl⟩,v',hbx4,hout4,hk4⟩
     have HBX4:=Lib.hid hbx4
     have HOUT4:=Lib.hid hout4
     have HK4:=Lib.hid hk4
     clear hbx4 hout4 hk4
     dsimp only
     go_wp2_with fail
     go_roundg (k.length - (j+1))
     case measure=>omega
     case rel=>
      refine⟨j+1,v',hlt,rfl,by simp,HBX4.out,?_,(HKR.out.trans (Keep.of_below' HB3.out (Nat.le_refl _))).trans (HK4.out.mono fun b _ h=>by omega)⟩
      rw [HGT.out,xA,if_neg hne]
      exact HOUT4.out
    ·have h0:f.items=[]:=by cases hf:f.items with | nil=>rfl | cons a l=>rw [hf] at h2;simp at h2
     have H0:=Lib.hid h0
     clear h0
     go_wp2_with (first
      | (go_at_call 40;have _t:=tokA;refine(HCAN.out _ ((Below.refl _ _).alloc (Nat.le_refl _) _)).mono ?_;rintro e w3 ⟨a3,n3,rfl,hb3,hd3⟩
         have hx3:w3.heap[wr.heap.size]? = some (.cells #[.slice ai f.items.length ci,.slice av f.vec.length cv] 39 (0,0)):=(hb3.block _ (by simp)).trans (World.alloc_heap_new wr _)
         have f0:=(zU hx3 0 _ rfl).1
         have HB3:=Lib.hid (((Below.refl _ wr).alloc (Nat.le_refl _) _).trans (hb3.mono (by simp)))
         have hs3:=hb3.size
         simp only [World.size_alloc] at hs3
         clear hb3 hd3 hx3 tokA)
      | go_in)
     go_roundg (k.length - (j+1))
     case measure=>omega
     case rel=>
      refine⟨j+1,u,hlt,rfl,by simp,(HB3.out.block _ hrw).trans HBX.out,?_,HKR.out.trans (Keep.of_below' HB3.out (Nat.le_refl _))⟩
      rw [HGT.out,xA,if_pos (.inr H0.out)]
      exact HOUT.out.keep (by omega) fun b hb=>HB3.out.block b hb
   ·have h0:zE f.vec=[]:=by cases hf:zE f.vec with | nil=>rfl | cons a l=>rw [hf] at h1;simp at h1
    have H0:=Lib.hid h0
    clear h0
    go_wp2_with (first
     | (go_at_call 40;have _t:=tokA;refine(HCAN.out _ ((Below.refl _ _).alloc (Nat.le_refl _) _)).mono ?_;rintro e w3 ⟨a3,n3,rfl,hb3,hd3⟩
        have HB3:=Lib.hid (((Below.refl _ wr).alloc (Nat.le_refl _) _).trans (hb3.mono (by simp)))
        have hs3:=hb3.size
        simp only [World.size_alloc] at hs3
        clear hb3 hd3 tokA)
     | go_in)
    go_roundg (k.length - (j+1))
    case measure=>omega
    case rel=>
     refine⟨j+1,u,hlt,rfl,by simp,(HB3.out.block _ hrw).trans HBX.out,?_,HKR.out.trans (Keep.of_below' HB3.out (Nat.le_refl _))⟩
     rw [HGT.out,xA,if_pos (.inl H0.out)]
     exact HOUT.out.keep (by omega) fun b hb=>HB3.out.block b hb
  ·obtain rfl:j=k.length:=by omega
   go_wp2_with fail
   refine bodyPost_ret (results_tmp rfl _ _ _) rfl ?_
   have h:=HOUT.out.dat (by omega)
   rw [List.take_length] at h
   exact⟨_,rfl,HKR.out,h.mono (fun b o h=>h.imp id fun h=>⟨by omega,h.2⟩) fun _ _ _ _ h=>h⟩
theorem zdD {B:Nat->List Nat} {R:List Nat} {n:Nat} (k:List Fg) (hk:Kn B R n k) (ok:OkX B R) (hn:n<=400000):Cn Tryz.prog 19 [kp k] (kp (ql k)):=by
 refine xw rfl (enters_of Tryz.func19 (by kernel_rfl) rfl) fun D w vs hG hD hsz hd=>?_
 rw [zaz hsz]
 refine(Y0 D k _ w hk ok hn (hd 0 _ rfl) hD hG).mono ?_
 rintro e w' ⟨v,rfl,hb,hv⟩
 exact⟨v,rfl,hb.below (Nat.le_refl _) fun _ h h'=>by omega,hv.mono (fun _ _ h=>h.imp id fun h=>⟨Nat.le_of_lt h.1,h.2⟩) fun _ _ _ _ h=>h⟩
theorem OutG.at {C:Nat->Nat->Prop} {mb base:Nat} {w:World} {ad:Option Addr} {cap:Nat} {o:List Fg} (h:OutG C mb base w (.slice ad o.length cap) o) {i:Nat} (hi:i<o.length) :
 ∃ g ai ci av cv cur,ad=some ⟨g,0,none⟩/\base<=g/\w.heap[g]? = some (.cells cur 39 (0,0))/\w.cell? ⟨g,i * 2,none⟩=some (.slice ai o[i].items.length ci)/\w.cell? ⟨g,i * 2+1,none⟩=some (.slice av o[i].vec.length cv) /\
  Dat (DX C mb w (.slice ad o.length cap)) w (.slice ai o[i].items.length ci) (rg o[i].items)/\Dat (DX C mb w (.slice ad o.length cap)) w (.slice av o[i].vec.length cv) (vp o[i].vec):=by
 obtain⟨xs,hxs,hel⟩:=h
 obtain⟨a,b,ea,eb,da,db⟩:=hel i hi
 obtain⟨g,cap',cur,ev,hgb,hgl,hgc,_⟩:=hxs.cases.resolve_left (fun h=>by omega)
 obtain⟨rfl,_,rfl⟩:ad=some ⟨g,0,none⟩/\o.length=o.length/\cap=cap':=by simpa using ev
 have hc:∀ j x,xs[j]? = some x->w.cell? ⟨g,j,none⟩=some x:=fun j x hx=>by
  have:=World.ownsRow.cells hxs.1 (g:=g) rfl j x hx
  rw [zh,Nat.zero_add] at this
  exact this
 obtain⟨ai,ci,rfl⟩:=zR da
 obtain⟨av,cv,rfl⟩:=jQ db
 exact⟨g,ai,ci,av,cv,cur,rfl,hgb,hgc,hc _ _ ea,hc _ _ eb,da,db⟩
end Go.Proofs.YtjimggclhlnfbaaGreat
namespace Go.Proofs.YtjimggclhlnfbaaGreat
open Go.RowKit
theorem ze6:jX kJ=true:=by decide
theorem Ql:Cn Tryz.prog 9 [] (.v (.bool true)):=by
 have hk:=Kn.few ze6 r12
 have ok:=JU ze6 r12
 have h12:=hk.ok12 ok (by omega)
 have a1:=Qm kJ h12.r h12.z (by decide) h12.t
 have a2:=Xr kJ h12.r h12.z (by decide) h12.t
 rw [zj6] at a1
 rw [zjq] at a2
 have a3:=XC kJ h12
 have a4:=zdD (z8 kJ) (hk.refine ok) ok (by omega)
 have e1:=zh4 [0,1,4,6,10] [0,1,4,6,10] (by decide)
 have e2:=Ys [⟨1,3⟩,⟨4,5⟩,⟨6,9⟩] [⟨1,3⟩,⟨4,5⟩,⟨6,9⟩] (by decide)
 have l1:(z8 kJ).length=3:=by rw [zjR];rfl
 have l2:=zkE
 refine zz Tryz.func9 0 ?_
 refine pw ?_
 (first | refine .c (a1) ?_ | refine .o (a1) ?_)
 (first | refine .c (e1) ?_ | refine .o (e1) ?_)
 (first | refine .c (a2) ?_ | refine .o (a2) ?_)
 (first | refine .c (e2) ?_ | refine .o (e2) ?_)
 (first | refine .c (a3) ?_ | refine .o (a3) ?_)
 rw [l1]
 simp only [show (((3:Nat):Int)=3)=True from eq_true rfl,decide_true]
 refine pw ?_
 (first | refine .c (a3) ?_ | refine .o (a3) ?_)
 (first | refine .c (a4) ?_ | refine .o (a4) ?_)
 rw [l2]
 simp
def kT (k:List Fg):Bool:=jX k && decide ((ckK k).1=0)
theorem K8 (k:List Fg) (hb:BdK k):Cn Tryz.prog 8 [kp k] (.v (.bool (kT k))):=by
 unfold kT
 refine zz Tryz.func8 1 ?_
 refine pw ?_
 refine .c (zgq k hb) ?_
 refine .i ?_ ?_<;>intro h<;>(try simp only [zf] at h)<;>first | refine pw ?_ | exact pd
 ·refine .c (zbD k hb (zfS h)) ?_
  simp [h]
 ·simp [h]
structure Rt12 (k:List Fg):Prop where
 f:jX k=true
 r:RightK k
 kn:Kn (CK k) (RK k) 240 k
 ok:OkX (CK k) (RK k)
theorem XD {k:List Fg} (hb:BdK k) (h:kT k=true):Rt12 k:=by
 unfold kT at h
 rw [Bool.and_eq_true,decide_eq_true_eq] at h
 have hr:=(zda hb).1 h.2
 exact⟨h.1,hr,Kn.few h.1 hr,JU h.1 hr⟩
theorem Rt12.o {k:List Fg} (h:Rt12 k):Ok12 (CK k) (RK k) k:=h.kn.ok12 h.ok (by omega)
theorem Z1 (k:List Fg) (x:Nat × Nat × Nat) (hk:BdK k) (hx:BdX x):Cn Tryz.prog 6 [kp k,xp x] (.v (.bool true)):=by
 refine zz Tryz.func6 2 ?_
 refine pw ?_
 refine .c (K8 k hk) ?_
 refine .i ?_ ?_<;>intro h<;>(try simp only [zf] at h)<;>first | refine pw ?_ | exact pd
 ·exact .d (Ql)
 ·have hR:=XD hk h
  have ho:=hR.o
  have hf:=hR.kn.refine hR.ok
  refine .c (XC k ho) ?_
  refine .c (Ql) ?_
  refine .c (Qb k ho) ?_
  refine .c (VY (z8 k) (z8 k) (hf.z (by omega))) ?_
  refine .c (zgr (z8 k) x.1 x.2.1 x.2.2 hf.r hx.2.2 (hf.z (by omega))) ?_
  refine .c (K5 k x.1 x.2.1 x.2.2 hR.r hx.2.2 ho.z) ?_
  rw [Vr hR.r hx.1 hx.2.2]
  try simp
end Go.Proofs.YtjimggclhlnfbaaGreat
