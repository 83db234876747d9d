import Derived.Test.YtonhfknjcbakiaaGreatDoorB21
set_option maxHeartbeats 16000000
set_option linter.unusedVariables false
set_option linter.unusedSimpArgs false
set_option maxRecDepth 100000
namespace Go.Proofs.YtonhfknjcbakiaaGreatDoor
open Go.RowKit Go.Maps
attribute [-go_sem] z7
def MemV (C:Nat->Nat->Prop) (l:List Nat) (u:Value) (w:World):Prop:=∃ D:Nat->Nat->Prop,(∀ b o,C b o->D b o)/\(∀ b o,D b o->b<w.heap.size)/\Dat D w u (is l)
theorem MemV.stab {C:Nat->Nat->Prop} {l:List Nat} (u:Value) (w w':World) (h:MemV C l u w) (hk:Keep qe w w'):MemV C l u w':=by
 obtain⟨D,h1,h2,h3⟩:=h
 exact⟨D,h1,fun b o hd=>Nat.lt_of_lt_of_le (h2 b o hd) hk.size,h3.mono (fun _ _ h=>h) fun b o x hd hx=>(World.cell?_of_block (a:=⟨b,o,none⟩) (hk.block b (h2 b o hd) id)).trans hx⟩
theorem Xg {C:Nat->Nat->Prop} {w0 w:World} {k:List Fg} {v:Value} (x:Nat) (hr:RightK k) (hz:SzK k) (hkl:k.length<=1073741824) (hd:Dat C w0 v (kp k)) (hC:∀ b o,C b o->b<w0.heap.size) (hG:GL C w0) (hb:Below w0.heap.size w0 w) :
 Calls Tryz.prog 57 #[v,.int .u64 (x:Nat)] w fun e w'=>∃ u,e=.returned u/\Below w.heap.size w w'/\MemV C (zU k x) u w':=by
 have hw:∀ b o y,C b o->w0.cell? ⟨b,o,none⟩=some y->w.cell? ⟨b,o,none⟩=some y:=fun b o y hc hy=>(World.cell?_of_block (a:=⟨b,o,none⟩) (hb.block b (hC b o hc))).trans hy
 have hC':∀ b o,C b o->b<w.heap.size:=fun b o h=>Nat.lt_of_lt_of_le (hC b o h) hb.size
 refine(jP (K9 k x hr hz hkl) (hG.mono (fun _ _ h=>h) hw) hC' (vs:=#[v,.int .u64 (x:Nat)]) rfl (fun i p hp=>by
  match i,hp with
  | 0,hp=>cases hp;exact hd.mono (fun _ _ h=>h) hw
  | 1,hp=>cases hp;exact .v _
  | i+2,hp=>simp at hp)).mono ?_
 rintro e w' ⟨u,rfl,hb',hd'⟩
 exact⟨u,rfl,hb',_,fun b o h=>.inl h,fun b o h=>h.elim (fun h=>Nat.lt_of_lt_of_le (hC' b o h) hb'.size) And.right,hd'⟩
theorem zgP {C:Nat->Nat->Prop} {w0 w:World} {a b:List Nat} {u v:Value} (r:Bool) (hr:decide (a=b)=r) (ha:a.length<=1152921504606846976) (hC:∀ b o,C b o->b<w0.heap.size) (hG:GL C w0) (hb:Below w0.heap.size w0 w) (hu:MemV C a u w) (hv:MemV C b v w) :
 Calls Tryz.prog 56 #[u,v] w fun e w'=>e=.returned (.bool r)/\Below w.heap.size w w':=by
 subst hr
 obtain⟨D1,p1,p2,p3⟩:=hu
 obtain⟨D2,q1,q2,q3⟩:=hv
 have hw:∀ b o y,C b o->w0.cell? ⟨b,o,none⟩=some y->w.cell? ⟨b,o,none⟩=some y:=fun b o y hc hy=>(World.cell?_of_block (a:=⟨b,o,none⟩) (hb.block b (hC b o hc))).trans hy
 refine(jP (D:=fun b o=>D1 b o\/D2 b o) (zjX a b ha) (hG.mono (fun b o h=>.inl (p1 b o h)) hw) (fun b o h=>h.elim (p2 b o) (q2 b o)) (vs:=#[u,v]) rfl (fun i p hp=>by
  match i,hp with
  | 0,hp=>cases hp;exact p3.mono (fun _ _ h=>.inl h) fun _ _ _ _ h=>h
  | 1,hp=>cases hp;exact q3.mono (fun _ _ h=>.inr h) fun _ _ _ _ h=>h
  | i+2,hp=>simp at hp)).mono ?_
 rintro e w' ⟨r,rfl,hb',hd'⟩
 rw [hd'.v_inv]
 exact⟨rfl,hb'⟩
theorem XJ {k:List Fg} (i:Nat):(CI (k.take i)).length<=(CI k).length:=by
 have:CI k=CI (k.take i)++CI (k.drop i):=by unfold CI;rw [<-List.flatMap_append,List.take_append_drop]
 rw [this,List.length_append];omega
theorem Q0 {l:List Iv} (j:Nat):(z6 (l.take j)).length<=(z6 l).length:=by
 have:z6 l=z6 (l.take j)++z6 (l.drop j):=by unfold z6;rw [<-List.flatMap_append,List.take_append_drop]
 rw [this,List.length_append];omega
theorem XD (C:Nat->Nat->Prop) (k:List Fg) (vk:Value) (w:World) (hr:RightK k) (hz:SzK k) (hkl:k.length<=1073741824) (hT:(CI k).length<=1000000) (rk:Dat C w vk (kp k)) (hC:∀ b o,C b o->b<w.heap.size) (hG:GL C w) :
 Calls Tryz.prog 162 #[vk] w fun e w'=>∃ v,e=.returned v/\Below w.heap.size w w'/\OwnU w.heap.size w' v (zq k):=by
 have hmm:=@run_makeMap Tryz.prog
 have rg:=ze3 rk hC hr
 have RK:=Lib.hid rk
 have RG:=Lib.hid rg
 have HR:=Lib.hid hr
 have HGL:=Lib.hid hG
 obtain⟨aa,ca,rfl,hac,ham,_⟩:=rg
 unfold maxLen at ham
 clear rk hG
 have tokA:True:=trivial
 go_enter Tryz.func162,Tryz.ntmps162
 go_wp2_with (first
  | (have _t:=tokA;refine xe rfl _ _ _ (.inr rfl) rfl (MI.made w) (by decide) (r:=0) xM rfl ?_;clear tokA;intro w1 hmi hg1;dsimp only [Act.put])
  | go_in)
 have hs1:w.heap.size<w1.heap.size:=hmi.lt
 have HB1:Hid (Below w.heap.size w w1):=Lib.hid (((Below.refl _ w).alloc (Nat.le_refl _) (.map #[] 0)).grown hg1 (by simp) fun j hj=>by cases hj;exact Nat.le_refl _)
 have HM1:=Lib.hid hmi
 clear hmi hg1
 go_wp2_with fail
 go_loopg [19] k.length (fun g x wr=>∃ i,i<=k.length/\g=k.length - i/\x=.int .i64 i/\MI w.heap.size wr (0::CI (k.take i))/\Below w.heap.size w wr)
 case atStart=>exact⟨0,Nat.zero_le _,rfl,rfl,by simpa [CI] using HM1.out,HB1.out⟩
 case round=>
  obtain⟨i,hi,rfl,rfl,hmi,hB⟩:=hrel
  clear HM1 HB1 hs1
  have HMI:=Lib.hid hmi
  have HB:=Lib.hid hB
  clear hmi hB
  by_cases hlt:i<k.length
  ·obtain⟨a',cap',hav,_,_,hcl⟩:=id RG.out
   obtain⟨bb,off,hab,_,hbn,hcel⟩:=hcl (by intro e;subst e;simp at hlt)
   obtain⟨rfl,_,rfl⟩:aa=a'/\k.length=k.length/\ca=cap':=by simpa using hav
   subst hab
   obtain⟨⟨hv,c0,hrr⟩,av,nv,cv,c1⟩:=hcel i hlt
   replace c0:=(HB.out.cell (p:=⟨bb,off+i * 2,none⟩) hbn).trans c0
   replace c1:=(HB.out.cell (p:=⟨bb,off+i * 2+1,none⟩) hbn).trans c1
   have HE:Hid (∃ f,f=k[i]):=⟨_,rfl⟩
   obtain⟨f,hf⟩:=HE.out
   rw [<-hf] at hrr
   have HF:=Lib.hid hf
   have hfr:ZS f:=by rw [hf];exact hr _ (List.getElem_mem hlt)
   have HFR:=Lib.hid hfr
   obtain⟨ai,ci,rfl,hic,him,_⟩:=id hrr
   have HRR:=Lib.hid hrr
   have hlen:(CI (k.take i)).length+(z6 f.items).length<=1000000:=by
    have:=XJ (k:=k) (i+1)
    rw [Ky hlt,<-hf,List.length_append] at this
    omega
   clear hcl hcel hav hrr hf HE hfr
   unfold maxLen at him
   obtain⟨wo,hwo⟩:∃ wo,wo=wr:=⟨_,rfl⟩
   subst hwo
   go_wp2_with fail
   go_loopg [26] f.items.length (fun g x wq=>∃ j,j<=f.items.length/\g=f.items.length - j/\x=.int .i64 j/\MI w.heap.size wq (0::CI (k.take i)++z6 (f.items.take j))/\Below w.heap.size w wq)
   case atStart=>exact⟨0,Nat.zero_le _,rfl,rfl,by simpa [z6] using HMI.out.keep (Below.heap_alloc _ _ _ HMI.out.lt),HB.out.alloc HB.out.size _⟩
   case round=>
    obtain⟨j,hj,rfl,rfl,hmq,hbq⟩:=hrel
    have HMQ:=Lib.hid hmq
    have HBQ:=Lib.hid hbq
    clear HMI hmq hbq
    by_cases hjl:j<f.items.length
    ·obtain⟨a',cap',hav,_,_,hcl⟩:=HRR.out.keep (w':=wr) (Nat.le_refl _) (Nat.le_refl _) fun b _ h=>HBQ.out.block b h
     obtain⟨bi,oi,hab,_,hbn,hcel⟩:=hcl (by intro e;rw [e] at hjl;simp at hjl)
     obtain⟨rfl,_,rfl⟩:ai=a'/\f.items.length=f.items.length/\ci=cap':=by simpa using hav
     subst hab
     obtain⟨d0,d1,l0,l1⟩:=hcel j hjl
     obtain⟨s,hs⟩:∃ s,s=f.items[j]:=⟨_,rfl⟩
     have hle:s.lo<=s.hi/\s.hi<zk:=by rw [hs];exact HFR.out.1.ivs2 _ (List.getElem_mem hjl)
     have hct:=zaV hjl
     have hcl2:=Q0 (l:=f.items) (j+1)
     rw [<-hs] at d0 d1 l0 l1 hct
     rw [hct,List.length_append] at hcl2
     have HCT:=Lib.hid hct
     clear hcl hcel hav hs hct
     have tokB:True:=trivial
     have tokC:True:=trivial
     by_cases hlast:s.hi=zk - 1
     ·have hc1:=ze0 hlast
      have hh:((s.hi:Nat):Int)=18446744073709551615:=by rw [hlast,zw];rfl
      rw [hh] at d1
      have HC1:=Lib.hid hc1
      clear hc1 hlast hh
      have hBl:=HMQ.out.lt
      go_wp2_with (first
       | (at_mapUpdate;have _t:=tokB;refine xe rfl _ _ _ (.inl rfl) rfl (HMQ.out.keep (Below.heap_alloc _ _ _ HMQ.out.lt)) (by simp;unfold maxLen;omega) (r:=s.lo) l0 rfl ?_;clear tokB;intro w2 hm2 hg2
          have hx2:w2.heap[wr.heap.size]? = some (.cells #[.int .u64 s.lo,.int .u64 18446744073709551615] 36 (0,0)):=(hg2.block _ (by simp) (by simp;omega)).trans (World.alloc_heap_new _ _)
          have f2:=(zW hx2 1 _ rfl).1
          have HM2:=Lib.hid hm2;have HG2:=Lib.hid hg2;clear hm2 hg2 hx2;dsimp only [Act.put])
       | (go_at_call 196;refine(zfO _).mono ?_;rintro e w' ⟨rfl,rfl⟩)
       | go_in)
      go_roundg (f.items.length - (j+1))
      case measure=>omega
      case rel=>
       refine⟨j+1,hjl,rfl,by simp,?_,((HBQ.out.alloc HBQ.out.size _).grown HG2.out (by simp;have:=HBQ.out.size;omega) fun j hj=>by cases hj;exact Nat.le_refl _)⟩
       rw [HCT.out,HC1.out,<-List.append_assoc];exact HM2.out
     ·obtain⟨y,hy⟩:∃ y,s.hi=y:=⟨_,rfl⟩
      have hM:=zw
      have hc1:=zcz (s:=s) (by omega)
      rw [hy] at d1 hc1 hlast hle l1
      have HC1:=Lib.hid hc1
      have hy64:y<18446744073709551615:=by omega
      have hy65:y+1<zk:=by omega
      rw [hc1,List.length_append] at hcl2
      simp at hcl2
      clear hc1 hlast hy hM
      have hBl:=HMQ.out.lt
      go_wp2_with (first
       | (at_mapUpdate;have _t:=tokB;refine xe rfl _ _ _ (.inl rfl) rfl (HMQ.out.keep (Below.heap_alloc _ _ _ HMQ.out.lt)) (by simp;unfold maxLen;omega) (r:=s.lo) l0 rfl ?_;clear tokB;intro w2 hm2 hg2
          have hx2:w2.heap[wr.heap.size]? = some (.cells #[.int .u64 s.lo,.int .u64 y] 36 (0,0)):=(hg2.block _ (by simp) (by simp;omega)).trans (World.alloc_heap_new _ _)
          have f2:=(zW hx2 1 _ rfl).1
          have HM2:=Lib.hid hm2;have HG2:=Lib.hid hg2;clear hm2 hg2 hx2;dsimp only [Act.put])
       | (go_at_call 196;refine(zdr y hy64 _).mono ?_;rintro e w' ⟨rfl,rfl⟩)
       | (at_mapUpdate;have _t:=tokC;refine xe rfl _ _ _ (.inl rfl) rfl HM2.out (by simp;unfold maxLen;omega) (r:=y+1) hy65 rfl ?_;clear tokC;intro w3 hm3 hg3;have HM3:=Lib.hid hm3;have HG3:=Lib.hid hg3;clear hm3 hg3;dsimp only [Act.put])
       | go_in)
      go_roundg (f.items.length - (j+1))
      case measure=>omega
      case rel=>
       refine⟨j+1,hjl,rfl,by simp,?_,((HBQ.out.alloc HBQ.out.size _).grown HG2.out (by simp;have:=HBQ.out.size;omega) fun j hj=>by cases hj;exact Nat.le_refl _).grown HG3.out (by have:=HBQ.out.size;have:=HG2.out.size;simp at this;omega) fun j hj=>by cases hj;exact Nat.le_refl _⟩
       have:=HM3.out
       rw [HCT.out,HC1.out]
       simpa using this
    ·obtain rfl:j=f.items.length:=by omega
     rw [List.take_length] at HMQ
     go_wp2_with fail
     go_roundg (k.length - (i+1))
     case measure=>omega
     case rel=>
      refine⟨i+1,hlt,rfl,by simp,?_,HBQ.out⟩
      rw [Ky hlt,<-HF.out]
      exact HMQ.out
  ·obtain rfl:i=k.length:=by omega
   rw [List.take_length] at HMI
   obtain⟨S,hS⟩:∃ S,S=0::CI k:=⟨_,rfl⟩
   rw [<-hS] at HMI
   have hSl:S.length<=1000001:=by rw [hS];simp;omega
   have HS:=Lib.hid hS
   clear hS
   obtain⟨D,hown,hms⟩:=HMI.out
   have hBl:=hown.lt
   have HO:=Lib.hid hown
   have HMS:=Lib.hid hms
   clear hown hms
   obtain⟨wo,hwo⟩:∃ wo,wo=wr:=⟨_,rfl⟩
   subst hwo
   have tokB:True:=trivial
   go_wp2_with (first
    | (at_range;have _t:=tokB;refine wpList_range_own _ rfl _ 245 rfl 24 4 vF Tryz.underlying245 rV w.heap.size S.length D rfl HO.out ?_;intro w2 hrg2 hg2 hs2;clear tokB)
    | go_in)
   go_frame
   have HR2:Hid (RgS w.heap.size wo.heap.size S.length S (kpB k) (Maps.size D) (Maps.has D) w2):=Lib.hid ⟨D,hrg2,HMS.out.1,fun x=>by rw [HMS.out.2 x];simp;exact .inl,fun x h=>by rw [HMS.out.2 x] at h;simpa using h⟩
   have HB2:Hid (Below w.heap.size w w2):=Lib.hid (HB.out.grown hg2 HB.out.size fun j hj=>by cases hj)
   clear hrg2 hg2 HO HMI HMS
   go_loopg [] (Maps.size D) (fun g wr=>∃ left,RgS w.heap.size wo.heap.size S.length S (kpB k) g left wr/\Below w.heap.size w wr)
   case atStart=>exact⟨_,HR2.out,HB2.out⟩
   case round=>
    obtain⟨left,hrs,hB3⟩:=hrel
    obtain⟨D3,hrg,hIM,hhas,hlf⟩:=hrs
    have HRG:=Lib.hid hrg
    have HIM:=Lib.hid hIM
    have HHS:=Lib.hid hhas
    have HLF:=Lib.hid hlf
    have HB3:=Lib.hid hB3
    clear hrg hIM hhas hlf hB3 HR2 HB2
    go_wp2_with (first
     | (at_next;refine wpList_next_ranges _ rfl _ rfl 24 vF rV (fun r:{r:Nat // r<zk}=>Value.int .u64 (r.1:Nat)) (fun c:Value=>c) zhV (fun v y _=>⟨v,rfl⟩) w.heap.size wo.heap.size S.length D3 left gk rfl HRG.out ?_ ?_)
     | go_in)
    ·intro hc0 hl0
     obtain⟨wl,hwl⟩:∃ wl,wl=wr:=⟨_,rfl⟩
     subst hwl
     obtain⟨S2,hS2⟩:∃ S2,S2=S.filter (kpB k):=⟨_,rfl⟩
     have hms2:∀ y,has D3 (kR y)=decide (y ∈ S2):=fun y=>by rw [HHS.out y,hl0,hS2,Bool.false_or];simp [List.mem_filter]
     have hS2l:S2.length<=1000001:=by have:=List.length_filter_le (kpB k) S;rw [<-hS2] at this;omega
     have HM2:=Lib.hid hms2
     have HS2:=Lib.hid hS2
     have hown:=HRG.out.owns
     have HO:=Lib.hid hown
     have hwlw:w.heap.size<wl.heap.size:=hown.lt
     clear hms2 hS2 hown hl0 hc0
     have tokG:True:=trivial
     go_wp2_with (first
      | (at_range;have _t:=tokG;refine wpList_range_own _ rfl _ 245 rfl 24 4 vF Tryz.underlying245 rV w.heap.size S.length D3 rfl HO.out ?_;intro w5 hrg5 hg5 hs5;clear tokG)
      | go_in)
     go_frame
     have HR5:=Lib.hid hrg5
     have HB5:Hid (Below w.heap.size w w5):=Lib.hid (HB3.out.grown hg5 HB3.out.size fun j hj=>by cases hj)
     have hs5':wl.heap.size+1<=w5.heap.size:=by omega
     clear hrg5 hg5
     go_loopg [13] (Maps.size D3) (fun g v wr=>∃ left l,wr.ranges Tryz.prog 24 rV w.heap.size wl.heap.size S.length D3 left g/\GotS S2 left l/\(∀ y,left (kR y)=true->y ∈ S2)/\OwnU (wl.heap.size+1) wr v l/\Below w.heap.size w wr)
     case atStart=>exact⟨_,[],HR5.out,GotS.nil fun y=>by rw [HM2.out y,decide_eq_true_iff],fun y h=>by rw [HM2.out y] at h;simpa using h,World.ownsRow_nil _ _ _ _,HB5.out⟩
     case round=>
      obtain⟨left2,l,hrg,hgot,hlf,hown,hB6⟩:=hrel
      have HRG6:=Lib.hid hrg
      have HGT:=Lib.hid hgot
      have HLF6:=Lib.hid hlf
      have HOW:=Lib.hid hown
      have HB6:=Lib.hid hB6
      have hll:l.length<=1000001:=Nat.le_trans (qM l S2 hgot.1 fun y hy=>((hgot.2 y).1 hy).1) hS2l
      have hrs6:=hrg.lt
      obtain⟨ad,cap,rfl,hlc,hcm,_⟩:=hown.shape
      unfold maxLen at hcm
      clear hrg hgot hlf hown hB6 HR5 HB5
      go_wp2_with (first
       | (at_next;refine wpList_next_ranges _ rfl _ rfl 24 vF rV (fun r:{r:Nat // r<zk}=>Value.int .u64 (r.1:Nat)) (fun c:Value=>c) zhV (fun v y _=>⟨v,rfl⟩) w.heap.size wl.heap.size S.length D3 left2 gk rfl HRG6.out ?_ ?_)
       | go_in)
      ·intro hc0 hl0
       have hmem:∀ y,y ∈ l ↔ y ∈ S2:=fun y=>by rw [HGT.out.2 y,hl0];simp
       have h0l:0 ∈ l:=(hmem 0).2 (by rw [HS2.out,List.mem_filter,HS.out];exact⟨by simp,by simp [kpB]⟩)
       have hlne:l≠[]:=fun e=>by rw [e] at h0l;cases h0l
       obtain⟨l',hperm,hpw,hcall⟩:=zeb HOW.out hlne (by omega)
       have hfin:l'=zq k:=Yd hr hpw (hperm.nodup_iff.2 HGT.out.1) fun y=>by
        rw [hperm.mem_iff,hmem,HS2.out,HS.out,List.mem_filter]
        refine and_congr_right fun _=>?_
        simp [kpB]
       have hob:∀ j,(Value.slice ad l.length cap).ownBlock=some j->wl.heap.size+1<=j:=fun j hj=>(HOW.out.lt j hj).1
       have HFN:=Lib.hid hfin
       have HCL:=Lib.hid hcall
       have HOB:=Lib.hid hob
       clear hmem h0l hlne hperm hpw hfin hcall hl0 hc0 hob
       have tokH:True:=trivial
       go_wp2_with (first
        | (go_at_call 198;have _t:=tokH;refine HCL.out.mono ?_;rintro e w9 ⟨rfl,ho9,hg9⟩;have HO9:=Lib.hid ho9;have HG9:=Lib.hid hg9;clear ho9 hg9 tokH)
        | go_in)
       refine bodyPost_ret (results_tmp rfl _ _ _) rfl ?_
       exact⟨_,rfl,HB6.out.grown HG9.out HB6.out.size fun j hj=>by have:=HOB.out j hj;omega,by rw [<-HFN.out];exact HO9.out.base (by omega)⟩
      ·intro x hx c kl y ys w7 cnt7 hkey hlk hv hat hrg7 hlt7 hg7 hs7 hen
       try dsimp only at hkey hen ⊢
       obtain rfl:kl=kR x:=by
        have:=(Zq hx).symm.trans hkey
        simpa using this.symm
       have HRG7:=Lib.hid hrg7
       have HG7:=Lib.hid hg7
       have HS7:=Lib.hid hs7
       have hs7w:wl.heap.size+1<=w7.heap.size:=by omega
       have HLK:=Lib.hid hlk
       obtain⟨i0,hi0,hz0,hz1,hz2⟩:=info_parts Vf
       have HO7:Hid (OwnU (wl.heap.size+1) (w7.alloc (.cells #[.int .u64 (x:Nat)] 24)) (.slice ad l.length cap) l):=Lib.hid (HOW.out.keep fun g hg=>by
        have h1:=HOW.out.lt g hg
        rw [Below.heap_alloc _ _ _ (by rw [HS7.out];exact h1.2),HG7.out.block g h1.2 (fun e=>by cases e;omega)])
       have hnb:=World.alloc_heap_new w7 (.cells #[.int .u64 (x:Nat)] 24 (0,0))
       clear hkey hv hat hrg7 hg7 hlk hs7
       have tokH:True:=trivial
       go_wp2_with (first
        | (at_builtin;have _t:=tokH;refine wpList_append_own_at _ rfl _ _ 157 rfl (wl.heap.size+1) 24 i0 (.int .u64 0) 1 8 Tryz.underlying157 hi0 hz0 hz1 hz2 rfl (by decide) _ _ _ rfl HO7.out ⟨w7.heap.size,0,none⟩ 1 1 [.int .u64 (x:Nat)] rfl rfl (kw (cs:=#[.int .u64 (x:Nat)]) (t := 24) (fr:=(0,0)) hnb) (by simp [Value.oneCell']) (by unfold maxLen;omega) (by omega) (by simp;omega) ?_;intro v' w8 ho hgr _ _;clear tokH;have HO8:=Lib.hid ho;have HG8:=Lib.hid hgr;clear ho hgr)
        | go_in)
       have hob:∀ j,(Value.slice ad l.length cap).ownBlock=some j->wl.heap.size+1<=j:=fun j hj=>(HOW.out.lt j hj).1
       have hb78:∀ j,j<wl.heap.size+1->w8.heap[j]? = w7.heap[j]?:=fun j hj=>by
        rw [HG8.out.block j (by simp;omega) (fun e=>by have:=hob j e.symm;omega),Below.heap_alloc _ _ _ (by omega)]
       go_roundg cnt7
       case measure=>exact hlt7
       case rel=>
        refine⟨_,l++[x],yD HRG7.out (hb78 _ (by omega)) (hb78 _ (by omega)),HGT.out.push HLK.out (HLF6.out _ HLK.out),fun r h=>?_,?_,?_⟩
        ·exact HLF6.out r (by cases h0:left2 (kR r) with | true=>rfl | false=>rw [h0] at h;simp at h)
        ·have:=HO8.out
         unfold OwnU
         simpa [uV] using this
        ·exact((HB6.out.grown HG7.out HB6.out.size fun j hj=>by cases hj;omega).alloc (by have:=HG7.out.size;have:=HB6.out.size;omega) _).grown HG8.out (by simp;have:=HB6.out.size;omega) fun j hj=>by have:=hob j hj;omega
    ·intro x hx c kl y ys w3 cnt3 hkey hlk hv hat hrg3 hlt hg3 hs3 hen
     try dsimp only at hkey hen ⊢
     obtain rfl:kl=kR x:=by
      have:=(Zq hx).symm.trans hkey
      simpa using this.symm
     have HRG3:=Lib.hid hrg3
     have HB4:Hid (Below w.heap.size w w3):=Lib.hid (HB3.out.grown hg3 HB3.out.size fun j hj=>by cases hj;exact HB.out.size)
     have HLK:=Lib.hid hlk
     clear hkey hv hat hrg3 hg3 hlk
     cases x with
     | zero=>
       go_wp2_with (first | (go_at_call 197;refine(zgc _).mono ?_;rintro e w' ⟨rfl,rfl⟩) | go_in)
       go_roundg cnt3
       case measure=>exact hlt
       case rel=>exact⟨_,RgS.next HIM.out HHS.out HLF.out HLK.out (by simp [kpB]) HRG3.out,HB4.out⟩
     | succ x=>
       have hx64:x<18446744073709551615:=by have:=zw;omega
       have hml:(zU k x).length<=1152921504606846976:=by
        have h1:=Zg x 0 k
        unfold zU
        rw [List.length_map]
        omega
       have tokC:True:=trivial
       have tokD:True:=trivial
       have tokE:True:=trivial
       have tokF:True:=trivial
       by_cases heq:zU k x=zU k (x+1)
       ·have HQ:=Lib.hid (show decide (zU k x=zU k (x+1))=true from decide_eq_true heq)
        have HKB:=Lib.hid (show kpB k (x+1)=false by simp [kpB,heq])
        clear heq
        go_wp2_with (first
         | (go_at_call 197;refine(VH x hx64 _).mono ?_;rintro e w' ⟨rfl,rfl⟩)
         | (go_at_call 57;have _t:=tokC;refine(Xg x hr hz hkl RK.out hC HGL.out HB4.out).mono ?_;rintro e w4 ⟨u1,rfl,hb1,hm1⟩;have HB5:=Lib.hid hb1;have HM5:=Lib.hid hm1;clear hb1 hm1 tokC)
         | (go_at_call 57;have _t:=tokD;refine(Xg (x+1) hr hz hkl RK.out hC HGL.out (HB4.out.trans (HB5.out.mono HB4.out.size))).mono ?_;rintro e w5 ⟨u2,rfl,hb1,hm1⟩;have HB6:=Lib.hid hb1;have HM6:=Lib.hid hm1;clear hb1 hm1 tokD)
         | (go_at_call 56;have _t:=tokE;refine(zgP true HQ.out hml hC HGL.out ((HB4.out.trans (HB5.out.mono HB4.out.size)).trans (HB6.out.mono ((HB4.out.trans (HB5.out.mono HB4.out.size)).size))) (HM5.out.stab _ _ _ (Keep.of_below' HB6.out (Nat.le_refl _))) HM6.out).mono ?_;rintro e w6 ⟨rfl,hb1⟩;have HB7:=Lib.hid (((Below.refl _ _).trans HB5.out).trans ((HB6.out.mono HB5.out.size).trans (hb1.mono (Nat.le_trans HB5.out.size HB6.out.size))));clear hb1 tokE)
         | (at_delete;have _t:=tokF;refine wpList_delete_ranges _ rfl _ _ 245 24 rfl 4 vF Tryz.underlying245 rV w.heap.size wo.heap.size S.length D3 _ cnt3 rfl (yD HRG3.out (HB7.out.block _ (Nat.lt_trans hBl HRG3.out.lt)) (HB7.out.block _ HRG3.out.lt)) _ (kR (x+1)) rfl (Zq hx) ?_;intro w7 cnt4 hrg7 hle7 hturn;clear tokF;have HRG7:=Lib.hid hrg7;have HG7:=Lib.hid hturn.grown;clear hrg7 hturn;dsimp only [Act.put])
         | go_in)
        go_roundg cnt4
        case measure=>omega
        case rel=>exact⟨_,RgS.del HIM.out HHS.out HLF.out HKB.out HRG7.out,(HB4.out.trans (HB7.out.mono HB4.out.size)).grown HG7.out (HB4.out.trans (HB7.out.mono HB4.out.size)).size fun j hj=>by cases hj;exact Nat.le_refl _⟩
       ·have HQ:=Lib.hid (show decide (zU k x=zU k (x+1))=false from decide_eq_false heq)
        have HKB:=Lib.hid (show kpB k (x+1)=true by simp [kpB,heq])
        clear heq
        go_wp2_with (first
         | (go_at_call 197;refine(VH x hx64 _).mono ?_;rintro e w' ⟨rfl,rfl⟩)
         | (go_at_call 57;have _t:=tokC;refine(Xg x hr hz hkl RK.out hC HGL.out HB4.out).mono ?_;rintro e w4 ⟨u1,rfl,hb1,hm1⟩;have HB5:=Lib.hid hb1;have HM5:=Lib.hid hm1;clear hb1 hm1 tokC)
         | (go_at_call 57;have _t:=tokD;refine(Xg (x+1) hr hz hkl RK.out hC HGL.out (HB4.out.trans (HB5.out.mono HB4.out.size))).mono ?_;rintro e w5 ⟨u2,rfl,hb1,hm1⟩;have HB6:=Lib.hid hb1;have HM6:=Lib.hid hm1;clear hb1 hm1 tokD)
         | (go_at_call 56;have _t:=tokE;refine(zgP false HQ.out hml hC HGL.out ((HB4.out.trans (HB5.out.mono HB4.out.size)).trans (HB6.out.mono ((HB4.out.trans (HB5.out.mono HB4.out.size)).size))) (HM5.out.stab _ _ _ (Keep.of_below' HB6.out (Nat.le_refl _))) HM6.out).mono ?_;rintro e w6 ⟨rfl,hb1⟩;have HB7:=Lib.hid (((Below.refl _ _).trans HB5.out).trans ((HB6.out.mono HB5.out.size).trans (hb1.mono (Nat.le_trans HB5.out.size HB6.out.size))));clear hb1 tokE)
         | go_in)
        go_roundg cnt3
        case measure=>exact hlt
        case rel=>exact⟨_,(RgS.next HIM.out HHS.out HLF.out HLK.out HKB.out HRG3.out).keep (HB7.out.block _ (Nat.lt_trans hBl HRG3.out.lt)) (HB7.out.block _ HRG3.out.lt),HB4.out.trans (HB7.out.mono HB4.out.size)⟩
end Go.Proofs.YtonhfknjcbakiaaGreatDoor
namespace Go.Proofs.YtonhfknjcbakiaaGreatDoor
open Go.RowKit
theorem X3 {k:List Fg} (h:vx k=true):k.length<=12/\∀ f ∈ k,f.items.length<=20/\f.vec.length<=20/\∀ e ∈ f.vec,e.holes.length<=30:=by
 obtain⟨h1,h2⟩:=Z3.1 h
 exact⟨h2,fun f hf=>⟨(h1 f hf).1,(vw.1 (h1 f hf).2).2,(vw.1 (h1 f hf).2).1⟩⟩
theorem zcS {k:List Fg} (h:vx k=true):SzK k:=by
 obtain⟨h1,h2⟩:=X3 h
 exact⟨by omega,fun f hf=>by
  obtain⟨q1,q2,q3⟩:=h2 f hf
  exact⟨by omega,by omega,fun e he=>by have:=q3 e he;omega⟩⟩
theorem zhj (f:Fg) (v:List En) (hf:∀ e ∈ f.vec,ZL e) (hv:∀ e ∈ v,ZL e) (lf:(zv f.vec).length<=1073741824) (lv:(zv v).length<=1073741824):Cn Tryz.prog 164 [fp f,vp v] (.v (.int .i64 (zZ (zv f.vec) (zv v)))):=by
 refine zt Tryz.func164 2 ?_
 refine pw ?_
 exact .d (Ks f.vec v hf hv lf lv)
theorem zhm (k:List Fg) (v:List En) (i:Nat) (hi:i<=k.length) (h1:∀ j,(h:j<k.length)->j<i->ZH k[j].vec v) (h2:∀ j,(h:j<k.length)->i<=j->¬ ZH k[j].vec v) (hl:k.length<=1152921504606846976)
 (hc:∀ f ∈ k,Cn Tryz.prog 164 [fp f,vp v] (.v (.int .i64 (zZ (zv f.vec) (zv v))))) :
 Cn Tryz.prog 163 [kp k,vp v,.fn (.func 164) [] []] (.tup [.v (.int .i64 i),.v (.bool (if h:i<k.length then decide (zZ (zv k[i].vec) (zv v)=0) else false))]):=by
 refine zt Tryz.func163 3 ?_
 refine pw ?_
 refine pLoop.go (fun p:Nat × Nat=>p.1<=i/\i<=p.2/\p.2<=k.length) (fun p=>[(9,.v (.int .i64 (p.1:Nat))),(10,.v (.int .i64 (p.2:Nat)))]) (fun _=>[]) (fun p=>p.2 - p.1) (0,k.length) [9,10] ?_ ?_ ?_
 ·exact⟨Nat.zero_le _,hi,Nat.le_refl _⟩
 ·exact pd
 ·rintro⟨p,q⟩ ⟨k1,k2,k3⟩
  simp only at k1 k2 k3
  refine pw ?_
  refine .i ?_ ?_<;>intro h<;>(try simp only [nrm_l] at h)<;>first | refine pw ?_ | exact pd
  ·have hm:(p+q) / 2<k.length:=by omega
   have a1:=h1 _ hm
   have a2:=h2 _ hm
   refine pw ?_
   (first | refine .c (hc k[(p+q) / 2] (List.getElem_mem hm)) ?_ | refine .o (hc k[(p+q) / 2] (List.getElem_mem hm)) ?_)
   refine .i ?_ ?_<;>intro h4<;>(try simp only [nrm_l] at h4)<;>first | refine pw ?_ | exact pd
   ·refine⟨((p+q) / 2+1,q),⟨?_,k2,k3⟩,by simp only;omega,rfl,rfl⟩
    simp only
    exact Nat.lt_of_not_le fun h5=>a2 h5 h4
   ·refine⟨(p,(p+q) / 2),⟨k1,?_,by simp only;omega⟩,by simp only;omega,rfl,rfl⟩
    simp only
    refine Nat.le_of_not_lt fun h5=>?_
    have:=a1 h5
    unfold ZH at this
    omega
  ·obtain rfl:p=i:=by omega
   obtain rfl:q=p:=by omega
   refine .i ?_ ?_<;>intro h4<;>(try simp only [nrm_l] at h4)<;>first | refine pw ?_ | exact pd
   ·(first | refine .c (hc k[q] (List.getElem_mem h4)) ?_ | refine .o (hc k[q] (List.getElem_mem h4)) ?_)
    rw [dif_pos h4]
    try simp
   ·rw [dif_neg (by omega)]
theorem Qo:∀ {k:List Fg} (v:List En),k.Pairwise (fun f g=>ZH f.vec g.vec)->∃ i,i<=k.length/\(∀ j,(h:j<k.length)->j<i->ZH k[j].vec v)/\(∀ j,(h:j<k.length)->i<=j->¬ ZH k[j].vec v)
 | [],v,_=>⟨0,Nat.le_refl _,fun j h=>by simp at h,fun j h=>by simp at h⟩
 | f::k,v,hp=>by
   have hp':=List.pairwise_cons.1 hp
   by_cases h:ZH f.vec v
   ·obtain⟨i,h0,h1,h2⟩:=Qo v hp'.2
    refine⟨i+1,by simp;omega,fun j hj hlt=>?_,fun j hj hle=>?_⟩
    ·cases j with
     | zero=>exact h
     | succ j=>exact h1 j (by simpa using hj) (by omega)
    ·cases j with
     | zero=>omega
     | succ j=>exact h2 j (by simpa using hj) (by omega)
   ·refine⟨0,Nat.zero_le _,fun j _ h=>absurd h (Nat.not_lt_zero _),fun j hj _ hlt=>?_⟩
    cases j with
    | zero=>exact h hlt
    | succ j=>exact h (k8 (hp'.1 _ (List.getElem_mem (by simpa using hj))) hlt)
theorem Y8:∀ {k:List Fg} {f:Fg} {i:Nat},i<=k.length->(∀ j,(h:j<k.length)->j<i->ZH k[j].vec f.vec)->(∀ j,(h:j<k.length)->i<=j->¬ ZH k[j].vec f.vec) ->
 qN k f=if h:i<k.length then (if zZ (zv k[i].vec) (zv f.vec)=0 then k.take i++⟨qy zn k[i].items f.items,f.vec⟩::k.drop (i+1) else k.take i++f::k.drop i) else k++[f]
 | [],f,i,h0,h1,h2=>by simp [qN]
 | g::k,f,i,h0,h1,h2=>by
   cases i with
   | zero=>
     have hn:=h2 0 (by simp) (Nat.le_refl _)
     have hn':¬ zZ (zv g.vec) (zv f.vec)<0:=hn
     rw [qN,if_neg hn',dif_pos (by simp)]
     simp only [List.getElem_cons_zero,List.take_zero,List.nil_append,List.drop_zero,List.drop_succ_cons]
   | succ i=>
     have hy:zZ (zv g.vec) (zv f.vec)<0:=h1 0 (by simp) (by omega)
     rw [qN,if_pos hy,Y8 (i:=i) (by simpa using h0) (fun j hj hlt=>h1 (j+1) (by simpa using hj) (by omega)) (fun j hj hle=>h2 (j+1) (by simpa using hj) (by omega))]
     simp only [List.length_cons,List.getElem_cons_succ,List.take_succ_cons,List.drop_succ_cons,List.cons_append,Nat.add_lt_add_iff_right]
     split
     ·split<;>rfl
     ·rfl
end Go.Proofs.YtonhfknjcbakiaaGreatDoor
namespace Go.Proofs.YtonhfknjcbakiaaGreatDoor
open Go.RowKit
attribute [-go_sem] z7
structure AddOk (o:List Fg) (f:Fg):Prop where
 gi:GrpI o
 fo:OkG f
 l:o.length<=1048576
 fi:f.items.length<=100000000
 oi:∀ g ∈ o,g.items.length<=100000000
 bd:∀ e ∈ f.vec,ZL e
 bo:∀ g ∈ o,∀ e ∈ g.vec,ZL e
 nf:(zv f.vec).length<=1073741824
 no:∀ g ∈ o,(zv g.vec).length<=1073741824
theorem xL {D:Nat->Nat->Prop} {w:World} {v:Value} {l:List En} (h:Dat D w v (vp l)):∃ ad cap,v=.slice ad l.length cap:=by
 have h':Dat D w v (.sl (l.map ec) .sh):=h
 obtain⟨ad,cap,sz,b,off,f,e1,_⟩:=(Rel.dat (ρ:=fun _=>0) (nb:=0) h').inv_sl
 rw [List.length_map] at e1
 exact⟨ad,cap,e1⟩
def zc1 (o:List Fg) (f:Fg) (i:Nat):Bool:=if h:i<o.length then decide (zZ (zv o[i].vec) (zv f.vec)=0) else false
theorem zjH {C:Nat->Nat->Prop} {rb base:Nat} {w:World} {v vv:Value} {o:List Fg} {f:Fg} (i:Nat) (r:Bool) (hr:zc1 o f i=r) (ho:AddOk o f) (hout:OutG C rb base w v o) (dv:Dat (DL C rb w) w vv (vp f.vec)) (hb:rb<base) (hC:∀ b o,C b o->b<rb) (hrb:rb<w.heap.size) (hG:GL C w)
 (hi:i<=o.length) (h1:∀ j,(h:j<o.length)->j<i->ZH o[j].vec f.vec) (h2:∀ j,(h:j<o.length)->i<=j->¬ ZH o[j].vec f.vec) :
 Calls Tryz.prog 163 #[v,vv,.func (.func 164) #[] #[]] w fun e w'=>e=.returned (.tuple #[.int .i64 (i:Nat),.bool r])/\Below w.heap.size w w':=by
 subst hr
 refine(jP (D:=DL C rb w) (zhm o f.vec i hi h1 h2 (by have:=ho.l;omega) fun g hg=>zhj g f.vec (ho.bo g hg) ho.bd (ho.no g hg) ho.nf) (hG.mono (fun _ _ h=>.inl h) fun _ _ _ _ h=>h) (fun b o h=>h.elim (fun h=>Nat.lt_trans (hC b o h) hrb) And.right) rfl (fun j p hp=>?_)).mono ?_
 ·match j,hp with
  | 0,hp=>cases hp;exact hout.dat hb
  | 1,hp=>cases hp;exact dv
  | 2,hp=>cases hp;exact .fn _ #[] #[] [] [] rfl rfl (fun _ _ h=>by simp at h) (fun _ _ h=>by simp at h)
  | j+3,hp=>simp at hp
 ·rintro e w' ⟨u,rfl,hb',hd⟩
  rw [XY hd]
  exact⟨rfl,hb'⟩
theorem zeo {C:Nat->Nat->Prop} {rb:Nat} {w:World} {v a b:Value} {l m:List Iv} (hl:Nrm l) (hm:Nrm m) (hs:l.length+m.length<=1073741824) (da:Dat (DX C rb w v) w a (rg l)) (db:Dat (DX C rb w v) w b (rg m)) (hv:∀ k,v.ownBlock=some k->rb<k/\k<w.heap.size) (hC:∀ b o,C b o->b<rb) (hrb:rb<w.heap.size) (hG:GL C w) :
 Calls Tryz.prog 69 #[a,b] w fun e w'=>∃ u,e=.returned u/\Below w.heap.size w w'/\Dat (DX C rb w' v) w' u (rg (qy zn l m)):=by
 refine(jP (D:=DX C rb w v) (zaz l m hl hm hs) (hG.mono (fun b o h=>⟨.inl h,fun e=>by have:=(hv b e).1;have:=hC b o h;omega⟩) fun _ _ _ _ h=>h) (fun b o h=>h.1.elim (fun h=>Nat.lt_trans (hC b o h) hrb) And.right) rfl (fun j p hp=>?_)).mono ?_
 ·match j,hp with
  | 0,hp=>cases hp;exact da
  | 1,hp=>cases hp;exact db
  | j+2,hp=>simp at hp
 ·rintro e w' ⟨u,rfl,hb,hd⟩
  exact⟨u,rfl,hb,hd.mono (fun b o h=>by
   rcases h with h | h
   ·exact⟨h.1.imp id fun h=>⟨h.1,Nat.lt_of_lt_of_le h.2 hb.size⟩,h.2⟩
   ·exact⟨.inr ⟨by omega,h.2⟩,fun e=>by have:=(hv b e).2;omega⟩) fun _ _ _ _ h=>h⟩
theorem zhT {o:List Fg} {f:Fg} {i:Nat} (h:zc1 o f i=true):∃ hi:i<o.length,zZ (zv o[i].vec) (zv f.vec)=0:=by
 unfold zc1 at h
 split at h
 ·rename_i hi
  exact⟨hi,by simpa using h⟩
 ·cases h
theorem Jh {C:Nat->Nat->Prop} {base rb:Nat} {w:World} {v va vv:Value} {o:List Fg} {f:Fg} (hok:AddOk o f) (hout:OutG C (rb+1) base w v o) (hbx:Boxed w rb 142 v) (hrb:rb+1<base) (hbase:base<=w.heap.size) (hC:∀ b o,C b o->b<rb) (hG:GL C w)
 (da:Dat (DX C (rb+1) w v) w va (rg f.items)) (dv:Dat (DX C (rb+1) w v) w vv (vp f.vec)) :
 Calls Tryz.prog 117 #[.pointer (some ⟨rb,0,none⟩),.agg #[va,vv]] w fun e w'=>(∃ u,e=.returned u)/\∃ v',Boxed w' rb 142 v'/\OutG C (rb+1) base w' v' (qN o f)/\Keep (fun k=>k=rb\/base<=k) w w':=by
 obtain⟨i,hi,q1,q2⟩:=Qo f.vec hok.gi.srt
 have hins:=Y8 hi q1 q2
 have hrw:=hbx.lt
 obtain⟨w1,hw1⟩:∃ w1,w1=w.alloc (.cells #[va,vv] 34):=⟨_,rfl⟩
 have hs1:w1.heap.size=w.heap.size+1:=by rw [hw1];simp
 have hb1:∀ j,j<w.heap.size->w1.heap[j]? = w.heap[j]?:=fun j hj=>by rw [hw1];exact Below.heap_alloc _ _ _ hj
 have hx1:w1.heap[w.heap.size]? = some (.cells #[va,vv] 34 (0,0)):=by rw [hw1];exact World.alloc_heap_new w _
 have hout1:=hout.keep (w':=w1) (by omega) hb1
 have da1:Dat (DX C (rb+1) w1 v) w1 va (rg f.items):=DX.keep da (by omega) fun k hk _=>hb1 k hk
 have dv1:Dat (DX C (rb+1) w1 v) w1 vv (vp f.vec):=DX.keep dv (by omega) fun k hk _=>hb1 k hk
 have hbx1:Boxed w1 rb 142 v:=(hb1 rb hrw).trans hbx
 have hG1:GL C w1:=hG.mono (fun _ _ h=>h) fun b o x hc hx=>(World.cell?_of_block (a:=⟨b,o,none⟩) (hb1 b (by have:=hC b o hc;omega))).trans hx
 obtain⟨ad,cap,rfl,hlc,hcm⟩:=hout.shape
 unfold maxLen at hcm
 obtain⟨aa,ca,rfl⟩:=zK da
 obtain⟨av,cv,rfl⟩:=xL dv
 obtain⟨r,hr⟩:∃ r,zc1 o f i=r:=⟨_,rfl⟩
 have hbs:∀ W,Below w1.heap.size w1 W->Calls Tryz.prog 163 #[.slice ad o.length cap,.slice av f.vec.length cv,.func (.func 164) #[] #[]] W fun e w'=>e=.returned (.tuple #[.int .i64 (i:Nat),.bool r])/\Below W.heap.size W w':=fun W hW=>
  zjH i r hr hok (hout1.keep hW.size fun k hk=>hW.block k hk) ((DX.keep dv1 hW.size fun k hk _=>hW.block k hk).mono (fun _ _ h=>h.1) fun _ _ _ _ h=>h) hrb (fun b o h=>Nat.lt_succ_of_lt (hC b o h)) (by have:=hW.size;omega) (hG1.mono (fun _ _ h=>h) fun b o x hc hx=>(World.cell?_of_block (a:=⟨b,o,none⟩) (hW.block b (by have:=hC b o hc;omega))).trans hx) hi q1 q2
 have HBS:=Lib.hid hbs
 have c0:=hbx1.cell
 have e0:=(zW hx1 0 _ rfl).1
 have e1:=(zW hx1 1 _ rfl).1
 have HW1:=Lib.hid hw1
 have HO1:=Lib.hid hout1
 have HDA:=Lib.hid da1
 have HDV:=Lib.hid dv1
 have HX1:=Lib.hid hbx1
 have HG1:=Lib.hid hG1
 have HINS:=Lib.hid hins
 have HXX:=Lib.hid hx1
 have HHIT:=Lib.hid hr
 have HBB:=Lib.hid hb1
 clear hins hb1 hx1 hout1 da1 dv1 hbx1 hG1 hr da dv hout hbx hG q1 q2 hbs
 have tokA:True:=trivial
 have hc1:Below w1.heap.size w1 w1.drew:=(Below.refl _ _).drew
 have mixed:Tryz.prog.follows .mixedOrders=true:=by kernel_rfl
 go_enter Tryz.func117,Tryz.ntmps117
 go_wp2_with fail
 rw [<-hw1]
 refine Kg (Sw:=qe) 12 51 (fun w9=>Below w1.heap.size w1 w9/\w9.cell? ⟨rb,0,none⟩=some (.slice ad o.length cap)/\w9.cell? ⟨w.heap.size,1,none⟩=some (.slice av f.vec.length cv)) (by kernel_rfl) (by kernel_rfl) rfl ⟨hc1,c0,e1⟩ ?_
 simp only [List.take_succ_cons,List.take_zero]
 refine Jz ?_
 refine V7 (fun u _=>u=.tuple #[.int .i64 (i:Nat),.bool r]) (yj _) rfl ?_ ?_
 ·intro a2 w2 hc hk hr K hK
  have HK:=Lib.hid hK
  clear hK
  simp [Rds,zA,lk,Op.operands,Call.operands,RdEq] at hr
  go_simp
  refine(HBS.out _ hc.1).mono ?_
  rintro e w3 ⟨rfl,hb⟩
  have hkb:Keep qe w2 w3:=Keep.of_below' hb (Nat.le_refl _)
  exact HK.out _ _ hkb ⟨hc.1.trans (hb.mono hc.1.size),hkb.cell_some hc.2.1 id,hkb.cell_some hc.2.2 id⟩ rfl
 dsimp only [List.nil_append,List.cons_append]
 refine Jz ?_
 intro w2 hc2 hk2
 simp only [finG,forall_eq,List.nil_append,List.cons_append,List.drop_succ_cons,List.drop_zero,List.drop_nil]
 simp only [Act.put,List.setIfInBounds_toArray,List.set_cons_succ,List.set_cons_zero]
 have HB2:=Lib.hid hc2.1
 have c2:=hc2.2.1
 have f2:=(hc2.1.block _ (by omega)).trans (show w1.heap[w.heap.size]? = _ from HXX.out)
 have g0:=(zW f2 0 _ rfl).1
 have g1:=(zW f2 1 _ rfl).1
 clear hc2 hk2 hc1
 cases r with
 | true=>
   obtain⟨hlt,hz⟩:=zhT HHIT.out
   have hout2:=HO1.out.keep (w':=w2) HB2.out.size fun k hk=>HB2.out.block k hk
   have HO2:=Lib.hid hout2
   obtain⟨xs,hxs,hel⟩:=id hout2
   obtain⟨a,b,ea,eb,dva,dvb⟩:=hel i hlt
   obtain⟨g,cap',cur,ev,hgb,hgl,hgc,_,_,_,_⟩:=hxs.cases.resolve_left (fun h=>by omega)
   obtain⟨rfl,_,rfl⟩:ad=some ⟨g,0,none⟩/\o.length=o.length/\cap=cap':=by simpa using ev
   have cia:w2.cell? ⟨g,i * 2,none⟩=some a:=by
    have:=World.ownsRow.cells hxs.1 (g:=g) rfl (i * 2) a ea
    rw [zh,Nat.zero_add] at this
    exact this
   have hbk:∀ k,(Value.slice (some ⟨g,0,none⟩) o.length cap).ownBlock=some k->rb+1<k/\k<w2.heap.size:=fun k hk=>by have:=hout2.owns k hk;omega
   obtain⟨ai,ci,rfl⟩:=zK dva
   have hun:∀ W,Below w2.heap.size w2 W->Calls Tryz.prog 69 #[.slice ai o[i].items.length ci,.slice aa f.items.length ca] W fun e w'=>∃ u,e=.returned u/\Below W.heap.size W w'/\Dat (DX C (rb+1) w' (.slice (some ⟨g,0,none⟩) o.length cap)) w' u (rg (qy zn o[i].items f.items)):=fun W hW=>
    zeo (hok.gi.ok _ (List.getElem_mem hlt)).2.2.1 hok.fo.2.2.1 (by have:=hok.oi _ (List.getElem_mem hlt);have:=hok.fi;omega) (DX.keep dva hW.size fun k hk _=>hW.block k hk) (DX.keep HDA.out (Nat.le_trans HB2.out.size hW.size) fun k hk _=>(hW.block k (Nat.lt_of_lt_of_le hk HB2.out.size)).trans (HB2.out.block k hk)) (fun k hk=>⟨(hbk k hk).1,Nat.lt_of_lt_of_le (hbk k hk).2 hW.size⟩) (fun b o h=>Nat.lt_succ_of_lt (hC b o h)) (by have:=HB2.out.size;have:=hW.size;omega) (HG1.out.mono (fun _ _ h=>h) fun b o x hc hx=>(World.cell?_of_block (a:=⟨b,o,none⟩) ((hW.block b (by have:=hC b o hc;have:=HB2.out.size;omega)).trans (HB2.out.block b (by have:=hC b o hc;omega)))).trans hx)
   have HUN:=Lib.hid hun
   have hc3:Below w2.heap.size w2 w2.drew:=(Below.refl _ _).drew
   have HGC:=Lib.hid hgc
   have hcap:0<cap:=by omega
   have hs2:=HB2.out.size
   clear hun hout2 hxs hel ea eb dva dvb hgc hbk
   obtain⟨wb,hwb⟩:∃ wb,wb=w2:=⟨_,rfl⟩
   subst hwb
   go_wp2_with fail
   refine Kg (Sw:=qe) 16 51 (fun w9=>Below wb.heap.size wb w9/\w9.cell? ⟨rb,0,none⟩=some (.slice (some ⟨g,0,none⟩) o.length cap)/\w9.cell? ⟨g,i * 2,none⟩=some (.slice ai o[i].items.length ci)/\w9.cell? ⟨w.heap.size,0,none⟩=some (.slice aa f.items.length ca)) (by kernel_rfl) (by kernel_rfl) rfl ⟨hc3,c2,cia,g0⟩ ?_
   simp only [List.take_succ_cons,List.take_zero]
   refine Jz ?_
   refine V7 (fun u w9=>Dat (DX C (rb+1) w9 (.slice (some ⟨g,0,none⟩) o.length cap)) w9 u (rg (qy zn o[i].items f.items))) (fun u wa wb h hk=>DX.keep h hk.size fun k hk2 _=>hk.block k hk2 id) rfl ?_ ?_
   ·intro a2 w2 hc hk hr K hK
    have HK:=Lib.hid hK
    clear hK
    simp [Rds,zA,lk,Op.operands,Call.operands,RdEq] at hr
    go_simp
    refine(HUN.out _ hc.1).mono ?_
    rintro e w3 ⟨u,rfl,hb,hd⟩
    have hkb:Keep qe _ w3:=Keep.of_below' hb (Nat.le_refl _)
    exact HK.out _ _ hkb ⟨hc.1.trans (hb.mono hc.1.size),hkb.cell_some hc.2.1 id,hkb.cell_some hc.2.2.1 id,hkb.cell_some hc.2.2.2 id⟩ hd
   dsimp only [List.nil_append,List.cons_append]
   refine Jz ?_
   intro w2 hc2 hk2
   simp only [finG,forall_eq,List.nil_append,List.cons_append,List.drop_succ_cons,List.drop_zero,List.drop_nil]
   simp only [Act.put,List.setIfInBounds_toArray,List.set_cons_succ,List.set_cons_zero]
   intro u hu
   obtain⟨au,cu,rfl⟩:=zK hu
   have HU:=Lib.hid hu
   have HC3:=Lib.hid hc2.1
   have c3:=hc2.2.2.1
   have f3:w2.frozen? ⟨g,i * 2,none⟩=false:=by
    have:=(hc2.1.block g hgl).trans HGC.out
    simp [World.frozen?,this]
   clear hu hc2 hk2 hc3 c2 cia g0 g1 f2
   go_wp2
   (try simp only [Exit.inBlock,Exit.then]);refine bodyPost_ret (results_none rfl _ _ _) rfl ?_
   have hfin:=(HO2.out.keep (w':=w2) HC3.out.size fun k hk=>HC3.out.block k hk).set hlt HU.out hcap
   have hins:qN o f=o.take i++⟨qy zn o[i].items f.items,o[i].vec⟩::o.drop (i+1):=by
    rw [HINS.out,dif_pos hlt,if_pos hz,<-YU hz]
   rw [hins]
   refine⟨⟨_,rfl⟩,_,?_,hfin,?_⟩
   ·refine(Below.heap_setCell _ _ _ _ (by show rb≠g;omega)).trans ((HC3.out.block rb (by omega)).trans ((HB2.out.block rb (by omega)).trans HX1.out))
   ·have hk1:Keep (fun k=>k=rb\/base<=k) w w1:=by rw [HW1.out];exact(Keep.refl _ w).alloc _
    exact((hk1.trans (Keep.of_below' HB2.out (Nat.le_refl _))).trans (Keep.of_below' HC3.out (Nat.le_refl _))).setCell (fun _=>.inr hgb) _
 | false=>
   have hins:qN o f=o.take i++f::o.drop i:=by
    rw [HINS.out]
    have hh:=HHIT.out
    unfold zc1 at hh
    split at hh
    ·rename_i h
     rw [dif_pos h,if_neg (by simpa using hh)]
    ·rename_i h
     rw [dif_neg h,List.take_of_length_le (by omega),List.drop_of_length_le (by omega)]
   have HI2:=Lib.hid hins
   have hs2:=HB2.out.size
   have hcl:∀ W,Below w2.heap.size w2 W->Calls Tryz.prog 59 #[.slice aa f.items.length ca] W fun e w'=>∃ au cu,e=.returned (.slice au f.items.length cu)/\OwnR W.heap.size w' (.slice au f.items.length cu) f.items/\Below W.heap.size W w':=fun W hW=>by
    have hda:=DX.keep HDA.out (Nat.le_trans hs2 hW.size) fun k hk _=>(hW.block k (Nat.lt_of_lt_of_le hk hs2)).trans (HB2.out.block k hk)
    refine(zeX (je hda (fun b o h=>h.1.elim (fun h=>by have:=hC b o h;have:=hW.size;omega) And.right) hok.fo.2.2.1.lt) (by have:=hok.fi;omega) hok.fo.2.2.2).mono ?_
    rintro e w' ⟨v',rfl,h1,h2⟩
    obtain⟨au,cu,rfl⟩:=zK (jp (D:=fun _ _=>True) h1.rd fun _ _ _ _=>trivial)
    exact⟨au,cu,rfl,h1,h2⟩
   have HCL:=Lib.hid hcl
   clear hcl hins
   have hc3:Below w2.heap.size w2 w2.drew:=(Below.refl _ _).drew
   obtain⟨wb,hwb⟩:∃ wb,wb=w2:=⟨_,rfl⟩
   subst hwb
   go_wp2_with fail
   refine znC [1,2,3,4,5,6,7,8,9,10,11,12,0,13,14,15,16] 12 51 (fun w9=>Below wb.heap.size wb w9/\w9.cell? ⟨rb,0,none⟩=some (.slice ad o.length cap)/\w9.cell? ⟨w.heap.size,0,none⟩=some (.slice aa f.items.length ca)/\w9.cell? ⟨w.heap.size,1,none⟩=some (.slice av f.vec.length cv)) mixed (by kernel_rfl) (by kernel_rfl) rfl ⟨hc3,c2,g0,g1⟩ _ _ rfl rfl rfl rfl _ rfl ?_
   simp only [z8,List.map_cons,List.map_nil,List.getD_cons_zero,List.getD_cons_succ,List.take_succ_cons,List.take_zero,List.drop_succ_cons,List.drop_zero]
   repeat (refine Pl.wdetK ?_ rfl (fun a w hc _ hr=>?_) ?_;rotate_left;(simp [Pl.Rds,zA,Pl.lk,Op.operands,Call.operands,RdEq] at hr;go_simp;with_reducible rfl);dsimp only [List.nil_append,List.cons_append])
   refine Pl.wgenK (fun u w9=>∃ au cu,u=.slice au f.items.length cu/\OwnR wb.heap.size w9 u f.items) (fun u _ _ h hk=>by obtain⟨au,cu,e,h⟩:=h;exact⟨au,cu,e,h.keep hk fun _ _ h=>h⟩) rfl ?_ ?_
   ·intro a2 w2 hc hk hr K hK
    have HK:=Lib.hid hK
    clear hK
    simp [Pl.Rds,zA,Pl.lk,Op.operands,Call.operands,RdEq] at hr
    go_simp
    refine(HCL.out _ hc.1).mono ?_
    rintro e w3 ⟨au,cu,rfl,ho,hb⟩
    have hkb:Keep qe _ w3:=Keep.of_below' hb (Nat.le_refl _)
    exact HK.out _ _ hkb ⟨hc.1.trans (hb.mono hc.1.size),hkb.cell_some hc.2.1 id,hkb.cell_some hc.2.2.1 id,hkb.cell_some hc.2.2.2 id⟩ ⟨au,cu,rfl,ho.mono hc.1.size⟩
   dsimp only [List.nil_append,List.cons_append]
   repeat (refine Pl.wdetK ?_ rfl (fun a w hc _ hr=>?_) ?_;rotate_left;(simp [Pl.Rds,zA,Pl.lk,Op.operands,Call.operands,RdEq] at hr;go_simp;with_reducible rfl);dsimp only [List.nil_append,List.cons_append])
   refine Pl.wgenK (fun u w9=>∃ au cu,u=.agg #[.slice au f.items.length cu,.slice av f.vec.length cv]/\OwnR wb.heap.size w9 (.slice au f.items.length cu) f.items) (fun u _ _ h hk=>by obtain⟨au,cu,e,h⟩:=h;exact⟨au,cu,e,h.keep hk fun _ _ h=>h⟩) rfl ?_ ?_
   ·intro a2 w2 hc hk hr K hK
    have HK:=Lib.hid hK
    clear hK
    simp [Pl.Rds,zA,Pl.lk,Op.operands,Call.operands,RdEq] at hr
    obtain⟨⟨_,⟨e1,e2⟩,⟨au,cu,rfl⟩,ho⟩,e3,e4⟩:=hr
    go_simp
    exact HK.out _ _ (Keep.refl _ _) hc ⟨au,cu,rfl,ho⟩
   dsimp only [List.nil_append,List.cons_append]
   refine Pl.wgenK (fun u w9=>∃ vb au cu vt,u=.slice (some ⟨vb,0,none⟩) 1 1/\w9.heap[vb]? = some (.cells #[.slice au f.items.length cu,.slice av f.vec.length cv] vt (0,0))/\wb.heap.size<=vb/\OwnR wb.heap.size w9 (.slice au f.items.length cu) f.items) (fun u _ _ h hk=>by obtain⟨vb,au,cu,vt,e,h1,h2,h3⟩:=h;exact⟨vb,au,cu,vt,e,hk.obj h1 id,h2,h3.keep hk fun _ _ h=>h⟩) rfl ?_ ?_
   ·intro a2 w2 hc hk hr K hK
    have HK:=Lib.hid hK
    clear hK
    simp [Pl.Rds,zA,Pl.lk,Op.operands,Call.operands,RdEq] at hr
    obtain⟨_,⟨e1,e2⟩,au,cu,rfl,ho⟩:=hr
    go_simp
    refine HK.out _ _ ((Keep.refl _ _).alloc _) ⟨hc.1.alloc hc.1.size _,?_,?_,?_⟩ ⟨w2.heap.size,au,cu,_,rfl,World.alloc_heap_new w2 _,hc.1.size,ho.keep ((Keep.refl qe _).alloc _) fun _ _ h=>h⟩
    ·exact((Keep.refl qe _).alloc _).cell_some hc.2.1 id
    ·exact((Keep.refl qe _).alloc _).cell_some hc.2.2.1 id
    ·exact((Keep.refl qe _).alloc _).cell_some hc.2.2.2 id
   dsimp only [List.nil_append,List.cons_append]
   repeat (refine Pl.wdetK ?_ rfl (fun a w hc _ hr=>?_) ?_;rotate_left;(simp [Pl.Rds,zA,Pl.lk,Op.operands,Call.operands,RdEq] at hr;go_simp;with_reducible rfl);dsimp only [List.nil_append,List.cons_append])
   have hfin:∀(w2:World) (vb:Nat) (au cu) (vt:TypeId),Below wb.heap.size wb w2->w2.heap[vb]? = some (.cells #[.slice au f.items.length cu,.slice av f.vec.length cv] vt (0,0))->wb.heap.size<=vb->OwnR wb.heap.size w2 (.slice au f.items.length cu) f.items ->
    Calls Tryz.prog 166 #[.slice ad o.length cap,.int .i64 (i:Nat),.slice (some ⟨vb,0,none⟩) 1 1] w2 fun e w3=>∃ g3 cap3,e=.returned (.slice (some ⟨g3,0,none⟩) (o.length+1) cap3)/\Boxed w3 rb 142 (.slice ad o.length cap)/\OutG C (rb+1) base (w3.setCell ⟨rb,0,none⟩ (.slice (some ⟨g3,0,none⟩) (o.length+1) cap3)) (.slice (some ⟨g3,0,none⟩) (o.length+1) cap3) (qN o f)/\Keep (fun k=>k=rb\/base<=k) w w3:=by
    intro w2 vb au cu vt hB2 hvb hvb2 how
    have hout9:=(HO1.out.keep (w':=wb) hs2 fun k hk=>HB2.out.block k hk).keep (w':=w2) hB2.size fun k hk=>hB2.block k hk
    obtain⟨xs,hxs,hel⟩:=id hout9
    have hso:=(HO1.out.keep (w':=wb) hs2 fun k hk=>HB2.out.block k hk).owns
    refine(Q1 base vb vt w2 _ o.length xs _ _ i rfl rfl hi hxs hvb (fun e=>by have:=(hso vb e).2;omega) (by have:=hok.l;omega) (by have:=hB2.size;omega)).mono ?_
    rintro e w3 ⟨v',rfl,ho3,hg3,hv3⟩
    have hsz:=hB2.size
    have hp:Dat (DX C (rb+1) w2 (.slice ad o.length cap)) w2 (.slice au f.items.length cu) (rg f.items):=jp how.rd fun b o h1 h2=>⟨.inr ⟨by omega,h2⟩,fun e=>by have:=(hso b e).2;omega⟩
    have hq:Dat (DX C (rb+1) w2 (.slice ad o.length cap)) w2 (.slice av f.vec.length cv) (vp f.vec):=DX.keep HDV.out (by omega) fun k hk _=>(hB2.block k (by omega)).trans (HB2.out.block k hk)
    have hfo:=OutG.ins hi hxs.2.1 hel hp hq (fun b o h=>Nat.lt_succ_of_lt (hC b o h)) (by omega) ho3 hg3 hv3
    obtain⟨g3,cap3,cur3,rfl,_⟩:=ho3.cases.resolve_left fun h=>by omega
    have hbx3:Boxed w3 rb 142 (.slice ad o.length cap):=Boxed.kept ((hB2.block rb (by omega)).trans ((HB2.out.block rb (by omega)).trans HX1.out)) hg3 fun e=>by have:=(hso rb e.symm);have:=(hxs.1.lt rb e.symm).1;omega
    refine⟨g3,cap3,rfl,hbx3,?_,?_⟩
    ·rw [HI2.out]
     exact hfo.box (by omega) (by omega) fun b o h=>by have:=hC b o h;omega
    ·have hk1:Keep (fun k=>k=rb\/base<=k) w w1:=by rw [HW1.out];exact(Keep.refl _ w).alloc _
     exact(((hk1.trans (Keep.of_below' HB2.out (Nat.le_refl _))).trans (Keep.of_below' hB2 (Nat.le_refl _)))).grown hg3 fun k hk _=>.inr (hxs.1.lt k hk).1
   have HFIN:=Lib.hid hfin
   clear hfin
   refine⟨fun w2 hc2 hk2=>?_,fun w2 hc2 hk2=>?_⟩<;>(simp only [Pl.finG,forall_eq,List.nil_append,List.cons_append,List.take_succ_cons,List.take_zero,List.drop_succ_cons,List.drop_zero,List.drop_nil,jA,Option.map_none];simp only [Act.put,List.setIfInBounds_toArray,List.set_cons_succ,List.set_cons_zero])
   ·rintro _ ⟨au0,cu0,rfl,_⟩ _ ⟨au1,cu1,rfl,_⟩ _ ⟨vb,au,cu,vt,rfl,hvb,hvb2,how⟩
    have HQ:=Lib.hid (HFIN.out w2 vb au cu vt hc2.1 hvb hvb2 how)
    clear hvb how hc2 hk2
    go_wp2_with (first
     | (go_at_call 166;refine HQ.out.mono ?_;rintro e w3 ⟨g3,cap3,rfl,hbx3,ho3,hk3⟩
        have HO3:=Lib.hid ho3
        have HK3:=Lib.hid hk3
        have HX3:=Lib.hid hbx3
        have c9:=hbx3.cell
        have f9:=hbx3.frozen
        clear ho3 hk3 hbx3)
     | go_in)
    go_end0
    exact⟨⟨_,rfl⟩,_,HX3.out.set _,HO3.out,HK3.out.setCell (fun _=>.inl rfl) _⟩
   ·rintro _ ⟨au0,cu0,rfl,_⟩ _ ⟨au1,cu1,rfl,_⟩ _ ⟨vb,au,cu,vt,rfl,hvb,hvb2,how⟩
    have HQ:=Lib.hid (HFIN.out w2 vb au cu vt hc2.1 hvb hvb2 how)
    clear hvb how hc2 hk2
    go_wp2_with (first
     | (go_at_call 166;refine HQ.out.mono ?_;rintro e w3 ⟨g3,cap3,rfl,hbx3,ho3,hk3⟩
        have HO3:=Lib.hid ho3
        have HK3:=Lib.hid hk3
        have HX3:=Lib.hid hbx3
        have c9:=hbx3.cell
        have f9:=hbx3.frozen
        clear ho3 hk3 hbx3)
     | go_in)
    go_end0
    exact⟨⟨_,rfl⟩,_,HX3.out.set _,HO3.out,HK3.out.setCell (fun _=>.inl rfl) _⟩
end Go.Proofs.YtonhfknjcbakiaaGreatDoor
namespace Go.Proofs.YtonhfknjcbakiaaGreatDoor
open Go.RowKit
theorem zaG (k:List Fg) (hr:RightK k) (hz:SzK k) (hkl:k.length<=1073741824) (hT:(CI k).length<=1000000):Cn Tryz.prog 162 [kp k] (ns (zq k)):=by
 refine yZ rfl (enters_of Tryz.func162 (by kernel_rfl) rfl) fun D w vs hG hD hsz hd=>?_
 rw [KB hsz]
 refine(XD D k _ w hr hz hkl hT (hd 0 _ rfl) hD hG).mono ?_
 rintro e w' ⟨v,rfl,hb,ho⟩
 exact⟨v,rfl,hb,vL ho fun b o h1 h2=>.inr ⟨h1,h2⟩⟩
noncomputable def Vy (k:List Fg) (j:Nat):List Iv:=((y4 k).take j).filter fun s=>decide (0<(zU k s.lo).length)
theorem Vz (k:List Fg) {j:Nat} (h:(zq k).length<=j):Vy k j=zu k:=by
 unfold Vy zu
 rw [List.take_of_length_le (by unfold y4;rw [vO];exact h)]
theorem VB (k:List Fg) (j:Nat):(Vy k j).length<=j:=Nat.le_trans (List.length_filter_le _ _) (List.length_take_le _ _)
theorem YE {k:List Fg} {j:Nat} (h:j<(zq k).length):Vy k (j+1)=Vy k j++if zU k (zq k)[j]=[] then [] else [⟨(zq k)[j],if h:j+1<(zq k).length then (zq k)[j+1] - 1 else zk - 1⟩]:=by
 have hc:j<(y4 k).length:=by unfold y4;rw [vO];exact h
 unfold Vy
 rw [List.take_succ_eq_append_getElem hc,List.filter_append]
 congr 1
 have hg:(y4 k)[j]=⟨(zq k)[j],if h:j+1<(zq k).length then (zq k)[j+1] - 1 else zk - 1⟩:=Vx _ _ h
 rw [hg]
 by_cases h0:zU k (zq k)[j]=[]
 ·rw [if_pos h0];simp [h0]
 ·rw [if_neg h0];simp [List.length_pos_iff.2 h0]
theorem ZE {k:List Fg} (hr:RightK k) {j:Nat} (h:j+1<(zq k).length):1<=(zq k)[j+1]/\(zq k)[j+1]<zk:=by
 refine⟨?_,x7 hr _ (List.getElem_mem h)⟩
 have:=List.pairwise_iff_getElem.1 (xc k) j (j+1) (by omega) h (by omega)
 omega
theorem zdF (k:List Fg) (hr:RightK k) (hz:SzK k) (hkl:k.length<=1073741824) (hT:(CI k).length<=1000000):Cn Tryz.prog 116 [kp k] (rg (zu k)):=by
 have hsl:=vY k
 have hM:=zw
 refine zt Tryz.func116 1 ?_
 refine pw ?_
 refine .c (zaG k hr hz hkl hT) ?_
 refine pLoop.go (fun j=>j<=(zq k).length) (fun j=>[(3,.sl ((Vy k j).map Q2) (.r 38 2)),(12,.v (.int .i64 (j:Nat)))]) (fun _=>[]) (fun j=>(zq k).length - j) 0 [3,12] ?_ ?_ ?_
 ·exact Nat.zero_le _
 ·refine pw ?_
  rfl
 ·rintro j hj
  have hpl:=VB k j
  refine pw ?_
  refine .i ?_ ?_<;>intro h<;>(try simp only [nrm_l] at h)<;>first | refine pw ?_ | exact pd
  ·have hst:=YE h
   have hlt:=x7 hr _ (List.getElem_mem h)
   refine pw ?_
   refine .c (K9 k (zq k)[j] hr hz hkl) ?_
   refine .i ?_ ?_<;>intro h2<;>(try simp only [nrm_l] at h2)<;>first | refine pw ?_ | exact pd
   ·rw [if_pos h2,List.append_nil] at hst
    exact⟨j+1,h,by omega,by rw [hst],rfl⟩
   ·rw [if_neg h2] at hst
    refine .i ?_ ?_<;>intro h3<;>(try simp only [nrm_l] at h3)<;>first | refine pw ?_ | exact pd
    ·obtain⟨n1,n2⟩:=ZE hr h3
     rw [dif_pos h3] at hst
     refine pw ?_
     refine⟨j+1,h,by omega,?_,rfl⟩
     rw [hst]
     simp [Q2]
    ·rw [dif_neg (by omega)] at hst
     refine pw ?_
     refine⟨j+1,h,by omega,?_,rfl⟩
     rw [hst]
     simp [Q2,hM]
  ·rw [Vz k (by omega)]
theorem QG (f:Fg) (r:List Fg) (x y:Nat):qX (f::r) x y=((mem f.items x == mem f.items y) && qX r x y):=rfl
theorem Ke (k:List Fg) (x y:Nat) (hz:SzK k):Cn Tryz.prog 172 [kp k,.v (.int .u64 x),.v (.int .u64 y)] (.v (.bool (qX k x y))):=by
 have hl:=hz.1
 refine zt Tryz.func172 3 ?_
 refine pw ?_
 refine pLoop.go (fun j=>j<=k.length/\qX k x y=qX (k.drop j) x y) (fun j=>[(7,.v (.int .i64 (j:Nat)))]) (fun _=>[]) (fun j=>k.length - j) 0 [7] ?_ ?_ ?_
 ·exact⟨Nat.zero_le _,rfl⟩
 ·exact pd
 ·rintro j ⟨hj,hm⟩
  refine pw ?_
  refine .i ?_ ?_<;>intro h<;>(try simp only [nrm_l] at h)<;>first | refine pw ?_ | exact pd
  ·rw [List.drop_eq_getElem_cons h] at hm
   have hzj:=hz.2 _ (List.getElem_mem h)
   refine pw ?_
   refine .c (kU k[j].items x hzj.1) ?_
   refine .c (kU k[j].items y hzj.1) ?_
   refine .i ?_ ?_<;>intro h2<;>(try simp only [nrm_l] at h2)<;>first | refine pw ?_ | exact pd
   ·rw [hm,QG,h2,Bool.false_and]
   ·refine⟨j+1,⟨h,?_⟩,by omega,rfl⟩
    rw [hm,QG,h2,Bool.true_and]
  ·rw [hm,List.drop_of_length_le (by omega)]
   rfl
def zbb (k:List Fg) (l:List Nat):List Nat:=l.filter fun x=>decide (x=0) || !qX k (x - 1) x
theorem zbc (k:List Fg) {l:List Nat} {j:Nat} (h:j<l.length):zbb k (l.take (j+1))=zbb k (l.take j)++if (decide (l[j]=0) || !qX k (l[j] - 1) l[j])=true then [l[j]] else []:=by
 unfold zbb
 rw [List.take_succ_eq_append_getElem h,List.filter_append]
 congr 1
 by_cases h0:(decide (l[j]=0) || !qX k (l[j] - 1) l[j])=true
 ·rw [if_pos h0];simp only [List.filter_cons,List.filter_nil];exact if_pos h0
 ·rw [if_neg h0];simp only [List.filter_cons,List.filter_nil];exact if_neg h0
theorem zc7 (k:List Fg) (l:List Nat) (j:Nat):(zbb k (l.take j)).length<=j:=Nat.le_trans (List.length_filter_le _ _) (List.length_take_le _ _)
theorem Ya (k:List Fg) (hr:RightK k) (hz:SzK k) (hkl:k.length<=1048576) (hT:(CI k).length<=1000000) (hi:∀ f ∈ k,f.items.length<=1048576):Cn Tryz.prog 130 [kp k] (ns (zq k)):=by
 have hM:=zw
 have hsl:(zH (k.map Fg.items)).length<=1048576:=by
  have h2:(zH (k.map Fg.items)).length<=(yU (k.map Fg.items)).length:=ju _
  have h3:(yU (k.map Fg.items)).length=1+(CI k).length:=by unfold yU CI;rw [List.length_cons,List.flatMap_map];omega
  omega
 have hlt:∀ x ∈ zH (k.map Fg.items),x<zk:=fun x hx=>Ze (fun l hl s hs=>by
  obtain⟨f,hf,rfl⟩:=List.mem_map.1 hl
  have:=NF.lo_ge (hr f hf).1 s hs
  omega) x hx
 have hcs:=VX (k.map Fg.items) (by simp;omega) (fun l hl=>by
  obtain⟨f,hf,rfl⟩:=List.mem_map.1 hl
  exact hi f hf) (by unfold yU;rw [List.length_cons,List.flatMap_map];unfold CI at hT;omega) (fun l hl=>by
  obtain⟨f,hf,rfl⟩:=List.mem_map.1 hl
  exact(hr f hf).1.lt)
 rw [show rgs (k.map Fg.items)=.sl (k.map fun f=>[rg f.items]) .sh by unfold rgs;rw [List.map_map];rfl] at hcs
 refine zt Tryz.func130 1 ?_
 refine pw ?_
 refine pLoop.go (fun j=>j<=k.length) (fun j=>[(3,.sl ((k.take j).map fun f=>[rg f.items]) (.r 21 1)),(4,.v (.int .i64 (j:Nat)))]) (fun _=>[]) (fun j=>k.length - j) 0 [3,4] ?_ ?_ ?_
 ·exact Nat.zero_le _
 ·exact pd
 ·rintro j hj
  refine pw ?_
  refine .i ?_ ?_<;>intro h<;>(try simp only [nrm_l] at h)<;>first | refine pw ?_ | exact pd
  ·refine⟨j+1,h,by omega,?_,rfl⟩
   rw [List.take_succ_eq_append_getElem h,List.map_append]
   rfl
  ·rw [show k.take j=k from List.take_of_length_le (by omega)]
   (first | refine .rd (hcs) rfl ?_ | refine .mk (hcs) rfl ?_)
   obtain⟨l,hl⟩:∃ l,l=zH (k.map Fg.items):=⟨_,rfl⟩
   rw [<-hl] at hsl hlt ⊢
   have hfin:zbb k l=zq k:=by rw [hl];rfl
   refine pw ?_
   refine pLoop.go (fun j=>j<=l.length) (fun j=>[(6,.sl ((zbb k (l.take j)).map yN) (.r 55 1)),(7,.v (.int .i64 (j:Nat)))]) (fun _=>[]) (fun j=>l.length - j) 0 [6,7] ?_ ?_ ?_
   ·exact Nat.zero_le _
   ·refine pw ?_
    rfl
   ·rintro j hj
    have hkl2:=zc7 k l j
    refine pw ?_
    refine .i ?_ ?_<;>intro h<;>(try simp only [nrm_l] at h)<;>first | refine pw ?_ | exact pd
    ·have hst:=zbc k h
     have hx:=hlt _ (List.getElem_mem h)
     refine .i ?_ ?_<;>intro h0<;>(try simp only [nrm_l] at h0)<;>first | refine pw ?_ | exact pd
     ·rw [if_pos (by simp [h0])] at hst
      refine⟨j+1,h,by omega,?_,rfl⟩
      rw [hst]
      simp [yN]
     ·refine .c (Ke k (l[j] - 1) l[j] hz) ?_
      refine .i ?_ ?_<;>intro h2<;>(try simp only [nrm_l] at h2)<;>first | refine pw ?_ | exact pd
      ·rw [if_pos (by rw [h2];simp)] at hst
       refine⟨j+1,h,by omega,?_,rfl⟩
       rw [hst]
       simp [yN]
      ·rw [if_neg (by rw [h2];simpa using h0),List.append_nil] at hst
       exact⟨j+1,h,by omega,by rw [hst],rfl⟩
    ·rw [show l.take j=l from List.take_of_length_le (by omega),hfin]
theorem VT (k:List Fg) (hr:RightK k) (hz:SzK k) (hkl:k.length<=1048576) (hT:(CI k).length<=1000000) (hst:Cn Tryz.prog 130 [kp k] (ns (zq k))):Cn Tryz.prog 87 [kp k] (rg (zu k)):=by
 have hsl:=vY k
 have hM:=zw
 refine zt Tryz.func87 1 ?_
 refine pw ?_
 (first | refine .c (hst) ?_ | refine .o (hst) ?_)
 refine pLoop.go (fun j=>j<=(zq k).length) (fun j=>[(4,.sl ((Vy k j).map Q2) (.r 27 2)),(5,.v (.int .i64 (j:Nat)))]) (fun _=>[]) (fun j=>(zq k).length - j) 0 [4,5] ?_ ?_ ?_
 ·exact Nat.zero_le _
 ·refine pw ?_
  rfl
 ·rintro j hj
  have hpl:=VB k j
  refine pw ?_
  refine .i ?_ ?_<;>intro h<;>(try simp only [nrm_l] at h)<;>first | refine pw ?_ | exact pd
  ·have hst:=YE h
   have hlt:=x7 hr _ (List.getElem_mem h)
   refine pw ?_
   refine .c (Kd k (zq k)[j] hz (by omega)) ?_
   refine .i ?_ ?_<;>intro h2<;>(try simp only [nrm_l] at h2)<;>first | refine pw ?_ | exact pd
   ·refine .c (zan (zq k) j h (by omega) (fun h=>ZE hr h)) ?_
    rw [if_neg (by intro e;rw [e] at h2;simp at h2)] at hst
    refine⟨j+1,h,by omega,?_,rfl⟩
    rw [hst]
    simp [Q2]
   ·rw [if_pos (by simpa using h2),List.append_nil] at hst
    exact⟨j+1,h,by omega,by rw [hst],rfl⟩
  ·rw [Vz k (by omega)]
structure Ok12 (C:Nat->List Nat) (R:List Nat) (k:List Fg):Prop where
 r:RightK k
 z:SzK k
 l:k.length<=1048576
 t:(CI k).length<=1000000
 i:∀ f ∈ k,f.items.length<=1048576
 ik:IK C R k
 ok:OkC C R
 s:∀ f ∈ k,SmV f.vec
def OkX (C:Nat->List Nat) (R:List Nat):Prop:=(∀ r,(C r).length<=9000)/\R.length<=1000
theorem OkX.c {C:Nat->List Nat} {R:List Nat} (h:OkX C R):OkC C R:=⟨h.1,by have:=h.2;omega⟩
structure Kn (C:Nat->List Nat) (R:List Nat) (n:Nat) (k:List Fg):Prop where
 r:RightK k
 ik:IK C R k
 s:∀ f ∈ k,SmV f.vec
 m:qE k<=n
 l:k.length<=n
theorem Kn.z {C:Nat->List Nat} {R:List Nat} {n:Nat} {k:List Fg} (h:Kn C R n k) (hn:n<=400000):SzK k:=
 ⟨by have:=h.l;omega,fun f hf=>⟨by have:=yv hf;have:=h.m;omega,by have:=(h.s f hf).2.1;omega,fun e he=>by have:=(h.s f hf).2.2 e he;omega⟩⟩
theorem Kn.ok12 {C:Nat->List Nat} {R:List Nat} {n:Nat} {k:List Fg} (h:Kn C R n k) (ok:OkX C R) (hn:n<=400000):Ok12 C R k:=
 ⟨h.r,h.z hn,by have:=h.l;omega,by have:=YO k;have:=h.m;omega,fun f hf=>by have:=yv hf;have:=h.m;omega,h.ik,ok.c,h.s⟩
theorem Kn.mono {C C':Nat->List Nat} {R R':List Nat} {n m:Nat} {k:List Fg} (h:Kn C R n k) (hC:∀ r x,x ∈ C r->x ∈ C' r) (hR:∀ x ∈ R,x ∈ R') (hn:n<=m):Kn C' R' m k:=
 ⟨h.r,fun f hf=>(h.ik f hf).mono hC hR,h.s,by have:=h.m;omega,by have:=h.l;omega⟩
theorem V1:∀ {k:List Fg},(∀ f ∈ k,f.items.length<=20)->qE k<=k.length * 20
 | [],_=>Nat.zero_le _
 | f::k,h=>by
   have h1:=V1 (k:=k) fun g hg=>h g (by simp [hg])
   have h2:=h f (by simp)
   simp only [qE,List.length_cons];omega
theorem Kn.few {k:List Fg} (h:vx k=true) (hr:RightK k):Kn (CK k) (RK k) 240 k:=by
 have h1:=X3 h
 have h2:=V1 fun f hf=>(h1.2 f hf).1
 exact⟨hr,hr.ik,fun f hf=>zfh h hr hf,by omega,by omega⟩
theorem Kn.refine {C:Nat->List Nat} {R:List Nat} {n:Nat} {k:List Fg} (h:Kn C R n k) (ok:OkX C R):Kn C R (1+2 * n) (jq k):=by
 have h1:=xW k
 have h2:=YO k
 have h3:=h.m
 have hw:=h.ik.refine
 refine⟨Yb h.r,fun f hf=>(hw f hf).iv,fun f hf=>(hw f hf).smv ok.c,?_,?_⟩
 ·unfold jq;rw [Zf];omega
 ·unfold jq;rw [List.length_map];omega
theorem Kn.group {C:Nat->List Nat} {R:List Nat} {n:Nat} {k:List Fg} (h:Kn C R n k) (ok:OkX C R):Kn C R n (zL k):=by
 have h1:=jU h.r
 have hw:∀ g ∈ zL k,WV C R g.vec:=fun g hg=>by
  obtain⟨f,hf,e⟩:=h1.2.2 g hg
  rw [e]
  exact(h.ik f hf).canVec
 exact⟨(vB h.r).right,fun g hg=>(hw g hg).iv,fun g hg=>(hw g hg).smv ok.c,by have:=h.m;omega,by have:=h.l;omega⟩
theorem Kn.take {C:Nat->List Nat} {R:List Nat} {n:Nat} {k:List Fg} (h:Kn C R n k) (j:Nat):Kn C R n (k.take j):=by
 refine⟨h.r.take j,h.ik.take j,fun f hf=>h.s f (List.mem_of_mem_take hf),?_,?_⟩
 ·have h1:=kK (k.take j) (k.drop j)
  rw [List.take_append_drop] at h1
  have:=h.m;omega
 ·have:=h.l
  have:=List.length_take_le j k
  have:=List.length_take_le' j k
  omega
end Go.Proofs.YtonhfknjcbakiaaGreatDoor
namespace Go.Proofs.YtonhfknjcbakiaaGreatDoor
open Go.RowKit
attribute [-go_sem] z7
theorem XK {C:Nat->List Nat} {R:List Nat} {n j:Nat} {k:List Fg} (h:Kn C R n k) (ok:OkX C R) (hn:n<=400000) (hj:j<k.length) (hne:¬(zi k[j].vec=[]\/k[j].items=[])):AddOk (zL (k.take j)) ⟨k[j].items,zi k[j].vec⟩:=by
 have ht:=h.take j
 have hg:=ht.group ok
 have gi:=vB ht.r
 have hm:=List.getElem_mem hj
 have hw:=(h.ik _ hm).canVec
 have hs:=jU ht.r
 have hv:∀ g ∈ zL (k.take j),WV C R g.vec:=fun g hg=>by
  obtain⟨f,hf,e⟩:=hs.2.2 g hg
  rw [e];exact(ht.ik f hf).canVec
 exact⟨gi,Yi (h.r _ hm) hne,by have:=hg.l;omega,by have:=yv hm;have:=h.m;show k[j].items.length<=_;omega,fun g h1=>by have:=yv h1;have:=hg.m;omega,hw.can.bd,fun g h1=>(gi.ok g h1).1.bd,hw.nlen ok.1 (by have:=ok.2;omega),fun g h1=>(hv g h1).nlen ok.1 (by have:=ok.2;omega)⟩
theorem zeA {P:Program} {f:FuncId} {t:Tmp} {p:Value} {xs:List Operand} {c:Call} {o:Oper} {a:Act} {w:World} {K:Act->World->Prop} {Q:Exit->Act->World->Prop} (ho:o.op=.call c) (hc:c.callee=.value (.tmp t)) (hv:a.eval (.tmp t)=.func (.func f) #[p] #[]) (ha:c.args.toList=xs)
 (he:∀ args w,(callFunc f args).run P w=.ok (.enter f args) w)
 (h:Calls P f (p::xs.map a.eval).toArray w fun e w''=>match e with | .returned v=>K (a.put o.dst v) w'' | .panicked chain=>Q (.panic chain) a w'' | .outgrown=>LetsOut Q):o.wp P a w K Q:=by
 have hr:(execOp a.eval o).run P w=.ok (.enter f (p::xs.map a.eval).toArray) w:=by
  have e:c.args.map a.eval=(xs.map a.eval).toArray:=Array.toList_inj.1 (by rw [Array.toList_map,ha])
  simp only [execOp,ho,resolve,hc,e,hv,Deferred.ofValue,Sem.run_bind,Sem.run_pure,Result.andThen_ok,invoke]
  rw [show (#[p]++(xs.map a.eval).toArray++#[]:Array Value)=(p::xs.map a.eval).toArray from by simp]
  exact he _ _
 unfold Oper.wp
 rw [hr,Oper.upon_enter]
 exact h.mono (fun e w' h=>by cases e<;>exact h)
theorem Vb {B:Nat->List Nat} {R:List Nat} {n:Nat} (C:Nat->Nat->Prop) (k:List Fg) (vk:Value) (w:World) (hk:Kn B R n k) (ok:OkX B R) (hn:n<=400000) (rk:Dat C w vk (kp k)) (hC:∀ b o,C b o->b<w.heap.size) (hG:GL C w) :
 Calls Tryz.prog 74 #[vk] w fun e w'=>∃ v,e=.returned v/\Keep (fun b=>w.heap.size<=b) w w'/\Dat (DL C w.heap.size w') w' v (kp (zL k)):=by
 have hmf:∀(fn:Fn) (first cap:Array Value) (w:World),(Instr.makeFunc fn first cap).run Tryz.prog w=.ok (.func fn first cap) w:=fun _ _ _ _=>rfl
 obtain⟨aa,ca,fs,rfl,hl,hrow,hfs⟩:=kX rk hC
 have hkl:=hk.l
 have HK:=Lib.hid hk
 have HROW:=Lib.hid hrow
 have HFS:=Lib.hid hfs
 have HGL:=Lib.hid hG
 have hca:=hrow.1
 have hcm:=hrow.2.1
 unfold maxLen at hcm
 rw [hl] at hca
 have hent:∀ args w,(callFunc 117 args).run Tryz.prog w=.ok (.enter 117 args) w:=enters_of Tryz.func117 (by kernel_rfl) rfl
 have HEN:=Lib.hid hent
 clear rk hrow hfs hG hent hk
 go_enter Tryz.func74,Tryz.ntmps74
 go_wp2_with fail
 go_loopg [11] k.length (fun g x wr=>∃ j u,j<=k.length/\g=k.length - j/\x=.int .i64 j/\Boxed wr w.heap.size 142 u/\OutG C (w.heap.size+1) (w.heap.size+2) wr u (zL (k.take j))/\Keep (fun b=>w.heap.size<=b) w wr)
 case atStart=>exact⟨0,_,Nat.zero_le _,rfl,rfl,World.alloc_heap_new w _,OutG.start _ _ _ _,(Keep.refl _ w).alloc _⟩
 case round=>
  obtain⟨j,u,hj,rfl,rfl,hbx,hout,hkr⟩:=hrel
  have HBX:=Lib.hid hbx
  have HOUT:=Lib.hid hout
  have HKR:=Lib.hid hkr
  have hrw:=hbx.lt
  have cb:=hbx.cell
  clear hbx hout hkr
  by_cases hlt:j<k.length
  ·have hltf:j<fs.length:=by omega
   obtain⟨bb,off,rfl,hbn,hcel⟩:=HROW.out.2.2 (by intro e;subst e;simp at hltf)
   obtain⟨c0,c1⟩:=hcel j hltf
   obtain⟨d0,d1⟩:=HFS.out j hltf
   replace c0:=(HKR.out.cell (p:=⟨bb,off+j * 2,none⟩) (by show bb<_;omega) (by show ¬ w.heap.size<=bb;omega)).trans c0
   replace c1:=(HKR.out.cell (p:=⟨bb,off+j * 2+1,none⟩) (by show bb<_;omega) (by show ¬ w.heap.size<=bb;omega)).trans c1
   have HAO:=Lib.hid (fun hne=>XK HK.out ok hn hlt hne)
   have HGT:=Lib.hid (Zo hlt)
   have hfm:=List.getElem_mem hlt
   have hsm:=HK.out.s _ hfm
   have hfr:=HK.out.r _ hfm
   have hil:k[j].items.length<=400000:=by have:=yv hfm;have:=HK.out.m;omega
   generalize k[j]=f at *
   generalize fs[j]=q at *
   obtain⟨ai,ci,e0⟩:=zK d0
   obtain⟨av,cv,e1⟩:=xL d1
   rw [e0] at c0 d0
   rw [e1] at c1 d1
   have hCr:∀ b o,C b o->b<wr.heap.size:=fun b o h=>by have:=hC b o h;omega
   have hGr:GL C wr:=HGL.out.mono (fun _ _ h=>h) fun b o x hc hx=>HKR.out.cell_some hx (by have:=hC b o hc;show ¬ w.heap.size<=b;omega)
   have hdm:∀(x:Value) (p:PV),Dat C w x p->∀ W,Below wr.heap.size wr W->Dat C W x p:=fun x p h W hW=>h.mono (fun _ _ h=>h) fun b o x hc hx=>(World.cell?_of_block (a:=⟨b,o,none⟩) (hW.block b (hCr b o hc))).trans (HKR.out.cell_some hx (by have:=hC b o hc;show ¬ w.heap.size<=b;omega))
   have hGW:∀ W,Below wr.heap.size wr W->GL C W:=fun W hW=>hGr.mono (fun _ _ h=>h) fun b o x hc hx=>(World.cell?_of_block (a:=⟨b,o,none⟩) (hW.block b (hCr b o hc))).trans hx
   have hcan:∀ W,Below wr.heap.size wr W->Calls Tryz.prog 118 #[.slice av f.vec.length cv] W fun e w'=>∃ a c,e=.returned (.slice a (zi f.vec).length c)/\Below W.heap.size W w'/\Dat (fun b o=>C b o\/(W.heap.size<=b/\b<w'.heap.size)) w' (.slice a (zi f.vec).length c) (vp (zi f.vec)):=fun W hW=>by
    refine(jP (D:=C) (zer f.vec hfr.2 hsm.2.1 hsm.2.2) (hGW W hW) (fun b o h=>Nat.lt_of_lt_of_le (hCr b o h) hW.size) rfl (fun i p hp=>?_)).mono ?_
    ·match i,hp with
     | 0,hp=>cases hp;exact hdm _ _ d1 W hW
     | i+1,hp=>simp at hp
    ·rintro e w' ⟨v,rfl,hb,hd⟩
     obtain⟨a,c,rfl⟩:=xL hd
     exact⟨a,c,rfl,hb,hd⟩
   have HCAN:=Lib.hid hcan
   have HD0:=Lib.hid d0
   have HDM:=Lib.hid hdm
   have HGW:=Lib.hid hGW
   have HCR:=Lib.hid hCr
   clear hcan d0 d1 hdm hGW hCr hGr hcel hfm hsm hfr e0 e1
   have tokA:True:=trivial
   by_cases h1:0<(zi f.vec).length
   ·by_cases h2:0<f.items.length
    ·go_wp2_with (first
      | (go_at_call 118;have _t:=tokA;refine(HCAN.out _ ((Below.refl _ _).alloc (Nat.le_refl _) _)).mono ?_;rintro e w3 ⟨a3,n3,rfl,hb3,hd3⟩
         have hx3:w3.heap[wr.heap.size]? = some (.cells #[.slice ai f.items.length ci,.slice av f.vec.length cv] 34 (0,0)):=(hb3.block _ (by simp)).trans (World.alloc_heap_new wr _)
         have f0:=(zW hx3 0 _ rfl).1
         have HB3:=Lib.hid (((Below.refl _ wr).alloc (Nat.le_refl _) _).trans (hb3.mono (by simp)))
         have hs3:=hb3.size
         simp only [World.size_alloc] at hs3
         have HD3:=Lib.hid hd3
         clear hb3 hd3 hx3 tokA)
      | go_in)
     refine zeA (t:=27) (xs:=[.tmp 31]) rfl rfl rfl rfl HEN.out ?_
     have hne:¬(zi f.vec=[]\/f.items=[]):=fun e=>by
      rcases e with e | e
      ·rw [e] at h1;simp at h1
      ·rw [e] at h2;simp at h2
     have hsu:=HOUT.out.owns
     refine(Jh (C:=C) (base:=w.heap.size+2) (rb:=w.heap.size) (v:=u) (o:=zL (k.take j)) (f:=⟨f.items,zi f.vec⟩) (va:=.slice ai f.items.length ci) (vv:=.slice a3 (zi f.vec).length n3) (HAO.out hne) (HOUT.out.keep (by omega) fun b hb=>HB3.out.block b hb) ((HB3.out.block _ hrw).trans HBX.out) (by omega) (by omega) hC (HGW.out _ HB3.out) ?_ ?_).mono ?_
     ·exact(HDM.out _ _ HD0.out _ HB3.out).mono (fun b o h=>⟨.inl h,fun e=>by have:=(hsu b e).1;have:=hC b o h;omega⟩) fun _ _ _ _ h=>h
     ·refine HD3.out.mono (fun b o h=>?_) fun _ _ _ _ h=>h
      rcases h with h | h
      ·exact⟨.inl h,fun e=>by have:=(hsu b e).1;have:=hC b o h;omega⟩
      ·simp only [World.size_alloc] at h
       exact⟨.inr ⟨by omega,h.2⟩,fun e=>by have:=(hsu b e).2;omega⟩
     rintro e w4 ⟨⟨u',rfl⟩,v',hbx4,hout4,hk4⟩
     have HBX4:=Lib.hid hbx4
     have HOUT4:=Lib.hid hout4
     have HK4:=Lib.hid hk4
     clear hbx4 hout4 hk4
     dsimp only
     go_wp2_with fail
     go_roundg (k.length - (j+1))
     case measure=>omega
     case rel=>
      refine⟨j+1,v',hlt,rfl,by simp,HBX4.out,?_,(HKR.out.trans (Keep.of_below' HB3.out (Nat.le_refl _))).trans (HK4.out.mono fun b _ h=>by omega)⟩
      rw [HGT.out,yo,if_neg hne]
      exact HOUT4.out
    ·have h0:f.items=[]:=by cases hf:f.items with | nil=>rfl | cons a l=>rw [hf] at h2;simp at h2
     have H0:=Lib.hid h0
     clear h0
     go_wp2_with (first
      | (go_at_call 118;have _t:=tokA;refine(HCAN.out _ ((Below.refl _ _).alloc (Nat.le_refl _) _)).mono ?_;rintro e w3 ⟨a3,n3,rfl,hb3,hd3⟩
         have hx3:w3.heap[wr.heap.size]? = some (.cells #[.slice ai f.items.length ci,.slice av f.vec.length cv] 34 (0,0)):=(hb3.block _ (by simp)).trans (World.alloc_heap_new wr _)
         have f0:=(zW hx3 0 _ rfl).1
         have HB3:=Lib.hid (((Below.refl _ wr).alloc (Nat.le_refl _) _).trans (hb3.mono (by simp)))
         have hs3:=hb3.size
         simp only [World.size_alloc] at hs3
         clear hb3 hd3 hx3 tokA)
      | go_in)
     go_roundg (k.length - (j+1))
     case measure=>omega
     case rel=>
      refine⟨j+1,u,hlt,rfl,by simp,(HB3.out.block _ hrw).trans HBX.out,?_,HKR.out.trans (Keep.of_below' HB3.out (Nat.le_refl _))⟩
      rw [HGT.out,yo,if_pos (.inr H0.out)]
      exact HOUT.out.keep (by omega) fun b hb=>HB3.out.block b hb
   ·have h0:zi f.vec=[]:=by cases hf:zi f.vec with | nil=>rfl | cons a l=>rw [hf] at h1;simp at h1
    have H0:=Lib.hid h0
    clear h0
    go_wp2_with (first
     | (go_at_call 118;have _t:=tokA;refine(HCAN.out _ ((Below.refl _ _).alloc (Nat.le_refl _) _)).mono ?_;rintro e w3 ⟨a3,n3,rfl,hb3,hd3⟩
        have HB3:=Lib.hid (((Below.refl _ wr).alloc (Nat.le_refl _) _).trans (hb3.mono (by simp)))
        have hs3:=hb3.size
        simp only [World.size_alloc] at hs3
        clear hb3 hd3 tokA)
     | go_in)
    go_roundg (k.length - (j+1))
    case measure=>omega
    case rel=>
     refine⟨j+1,u,hlt,rfl,by simp,(HB3.out.block _ hrw).trans HBX.out,?_,HKR.out.trans (Keep.of_below' HB3.out (Nat.le_refl _))⟩
     rw [HGT.out,yo,if_pos (.inl H0.out)]
     exact HOUT.out.keep (by omega) fun b hb=>HB3.out.block b hb
  ·obtain rfl:j=k.length:=by omega
   go_wp2_with fail
   refine bodyPost_ret (results_tmp rfl _ _ _) rfl ?_
   have h:=HOUT.out.dat (by omega)
   rw [List.take_length] at h
   exact⟨_,rfl,HKR.out,h.mono (fun b o h=>h.imp id fun h=>⟨by omega,h.2⟩) fun _ _ _ _ h=>h⟩
theorem zfn {B:Nat->List Nat} {R:List Nat} {n:Nat} (k:List Fg) (hk:Kn B R n k) (ok:OkX B R) (hn:n<=400000):Cn Tryz.prog 74 [kp k] (kp (zL k)):=by
 refine yZ rfl (enters_of Tryz.func74 (by kernel_rfl) rfl) fun D w vs hG hD hsz hd=>?_
 rw [KB hsz]
 refine(Vb D k _ w hk ok hn (hd 0 _ rfl) hD hG).mono ?_
 rintro e w' ⟨v,rfl,hb,hv⟩
 exact⟨v,rfl,hb.below (Nat.le_refl _) fun _ h h'=>by omega,hv.mono (fun _ _ h=>h.imp id fun h=>⟨Nat.le_of_lt h.1,h.2⟩) fun _ _ _ _ h=>h⟩
theorem YI (w:World) (t ty:TypeId) (ht:Tryz.prog.underlying t=some (.slice 34)) (base:Nat) (v:Value) (n:Nat) (xs:List Value) (hown:w.ownsRow base 34 2 v n xs) (ad:Option Addr) (m c:Nat) (news:List Value) (hl:news.length=m * 2)
 (hnews:(m=0/\ad=none)\/∃ a,ad=some a/\∀ j u,news[j]? = some u->w.cell? (a.add j)=some u) (h1:∀ u ∈ news,u.oneCell'=true) (h63:n+m<=1073741824) (hbase:base<=w.heap.size) :
 ∃ v' w',(Builtin.append_ #[t,t] ty #[v,.slice ad m c]).run Tryz.prog w=.ok v' w'/\w'.ownsRow base 34 2 v' (n+m) (xs++news)/\w.grownBy w' v.ownBlock/\(v'.ownBlock=v.ownBlock\/v'.ownBlock=some w.heap.size):=by
 obtain⟨i0,hi0,hz0,hz1,hz2⟩:=info_parts Z9
 rcases hnews with⟨rfl,rfl⟩ | ⟨a,rfl,hn⟩
 ·obtain rfl:news=[]:=List.length_eq_zero_iff.1 hl
  obtain⟨ba,cp,rfl,hcp⟩:∃ ba cp,v=.slice ba n cp/\n<=cp:=by
   rcases hown.2 with⟨rfl,rfl⟩ | ⟨g,cap,cur,rfl,_,_,h,_⟩
   ·exact⟨none,0,rfl,Nat.le_refl _⟩
   ·exact⟨_,_,rfl,h⟩
  exact⟨_,w,ve w t ty _ i0 ht hi0 ba n cp c hcp,by simpa using hown,jW _ _,.inl rfl⟩
 ·obtain⟨v',w',r1,r2,r3,_,r5⟩:=run_append_own_at (P:=Tryz.prog) w base t ty 34 i0 _ 2 48 ht hi0 hz0 hz1 hz2 rfl (by decide) v n xs hown a m c news (by simpa using hl) hn h1 (by unfold maxLen;omega) (by omega) hbase
  exact⟨v',w',r1,r2,r3,r5⟩
theorem yH {ops:Array Oper} {o:Oper} {a:Act} {w:World} {K:Act->World->Prop} {Q:Exit->Act->World->Prop} {E:Prop} (s x:Operand) (t:TypeId) (hgd:o.guard=none)
 (ho:o.op=.call { callee:=.builtin .append,args:=#[s,x],argTypes:=#[t,t] }) (ht:Tryz.prog.underlying t=some (.slice 34)) (base:Nat) (v:Value) (n:Nat) (xs:List Value) (hs:a.eval s=v) (hown:w.ownsRow base 34 2 v n xs)
 (ad:Option Addr) (m c:Nat) (news:List Value) (hx:a.eval x=.slice ad m c) (hl:news.length=m * 2) (hnews:(m=0/\ad=none)\/∃ a,ad=some a/\∀ j u,news[j]? = some u->w.cell? (a.add j)=some u) (h1:∀ u ∈ news,u.oneCell'=true) (h63:n+m<=1073741824) (hbase:base<=w.heap.size)
 (h:∀ v' w',w'.ownsRow base 34 2 v' (n+m) (xs++news)->w.grownBy w' v.ownBlock->(v'.ownBlock=v.ownBlock\/v'.ownBlock=some w.heap.size)->K (a.put o.dst v') w'):if Region.wanted o (yielded ops a.tmps)=true then Oper.wp Tryz.prog o a w K Q else E:=by
 have hw:Region.wanted o (yielded ops a.tmps)=true:=by simp [Region.wanted,hgd]
 rw [if_pos hw]
 obtain⟨v',w',hr,h2,h3,h4⟩:=YI w t o.type ht base v n xs hown ad m c news hl hnews h1 h63 hbase
 unfold Oper.wp execOp
 simp only [ho,resolve,invoke,builtin,Sem.run_bind,Sem.run_pure,Result.andThen_ok,List.map_toArray,List.map_cons,List.map_nil,hs,hx,hr]
 exact h v' w' h2 h3 h4
theorem zdz {w:World} {base A:Nat} (hA:base<=A) (h:w.heap[A]? = some (.cells #[] 34 (0,0))):w.ownsRow base 34 2 (.slice (some ⟨A,0,none⟩) 0 0) 0 []:=⟨rfl,.inr ⟨A,0,#[],rfl,hA,h,Nat.le_refl _,Nat.zero_le _,rfl,rfl⟩⟩
theorem OutG.at {C:Nat->Nat->Prop} {mb base:Nat} {w:World} {ad:Option Addr} {cap:Nat} {o:List Fg} (h:OutG C mb base w (.slice ad o.length cap) o) {i:Nat} (hi:i<o.length) :
 ∃ g ai ci av cv cur,ad=some ⟨g,0,none⟩/\base<=g/\w.heap[g]? = some (.cells cur 34 (0,0))/\w.cell? ⟨g,i * 2,none⟩=some (.slice ai o[i].items.length ci)/\w.cell? ⟨g,i * 2+1,none⟩=some (.slice av o[i].vec.length cv) /\
  Dat (DX C mb w (.slice ad o.length cap)) w (.slice ai o[i].items.length ci) (rg o[i].items)/\Dat (DX C mb w (.slice ad o.length cap)) w (.slice av o[i].vec.length cv) (vp o[i].vec):=by
 obtain⟨xs,hxs,hel⟩:=h
 obtain⟨a,b,ea,eb,da,db⟩:=hel i hi
 obtain⟨g,cap',cur,ev,hgb,hgl,hgc,_⟩:=hxs.cases.resolve_left (fun h=>by omega)
 obtain⟨rfl,_,rfl⟩:ad=some ⟨g,0,none⟩/\o.length=o.length/\cap=cap':=by simpa using ev
 have hc:∀ j x,xs[j]? = some x->w.cell? ⟨g,j,none⟩=some x:=fun j x hx=>by
  have:=World.ownsRow.cells hxs.1 (g:=g) rfl j x hx
  rw [zh,Nat.zero_add] at this
  exact this
 obtain⟨ai,ci,rfl⟩:=zK da
 obtain⟨av,cv,rfl⟩:=xL db
 exact⟨g,ai,ci,av,cv,cur,rfl,hgb,hgc,hc _ _ ea,hc _ _ eb,da,db⟩
theorem zep {C:Nat->Nat->Prop} {rb:Nat} {w:World} {v a b:Value} {l m:List Iv} (hl:Nrm l) (hm:Nrm m) (h1:l.length<=131072) (h2:m.length<=131072) (da:Dat (DX C rb w v) w a (rg l)) (db:Dat (DX C rb w v) w b (rg m)) (hv:∀ k,v.ownBlock=some k->k<w.heap.size) (hCv:∀ b o,C b o->v.ownBlock≠some b) (hC:∀ b o,C b o->b<w.heap.size) (hrb:rb<w.heap.size) (hG:GL C w) :
 Calls Tryz.prog 151 #[a,b] w fun e w'=>∃ u,e=.returned u/\Below w.heap.size w w'/\Dat (DX C rb w' v) w' u (rg (qy zn l m)):=by
 refine(jP (D:=DX C rb w v) (Kf l m hl hm h1 h2) (hG.mono (fun b o h=>⟨.inl h,hCv b o h⟩) fun _ _ _ _ h=>h) (fun b o h=>h.1.elim (hC b o) And.right) rfl (fun j p hp=>?_)).mono ?_
 ·match j,hp with
  | 0,hp=>cases hp;exact da
  | 1,hp=>cases hp;exact db
  | j+2,hp=>simp at hp
 ·rintro e w' ⟨u,rfl,hb,hd⟩
  exact⟨u,rfl,hb,hd.mono (fun b o h=>by
   rcases h with h | h
   ·exact⟨h.1.imp id fun h=>⟨h.1,Nat.lt_of_lt_of_le h.2 hb.size⟩,h.2⟩
   ·exact⟨.inr ⟨by omega,h.2⟩,fun e=>by have:=hv b e;omega⟩) fun _ _ _ _ h=>h⟩
theorem zhr {C:Nat->Nat->Prop} {rb:Nat} {w:World} {v a b:Value} {l m:List En} (c:Int) (hc:zZ (zv l) (zv m)=c) (hl:l.length<=1024/\∀ e ∈ l,e.holes.length<=1048576) (hm:m.length<=1024/\∀ e ∈ m,e.holes.length<=1048576) (da:Dat (DX C rb w v) w a (vp l)) (db:Dat (DX C rb w v) w b (vp m)) (hCv:∀ b o,C b o->v.ownBlock≠some b) (hC:∀ b o,C b o->b<w.heap.size) (hG:GL C w) :
 Calls Tryz.prog 150 #[a,b] w fun e w'=>e=.returned (.int .i64 c)/\Below w.heap.size w w':=by
 subst hc
 refine(jP (D:=DX C rb w v) (Xp l m hl.2 hm.2 hl.1 hm.1) (hG.mono (fun b o h=>⟨.inl h,hCv b o h⟩) fun _ _ _ _ h=>h) (fun b o h=>h.1.elim (hC b o) And.right) rfl (fun j p hp=>?_)).mono ?_
 ·match j,hp with
  | 0,hp=>cases hp;exact da
  | 1,hp=>cases hp;exact db
  | j+2,hp=>simp at hp
 ·rintro e w' ⟨u,rfl,hb,hd⟩
  have e:=(Rel.dat (ρ:=fun _=>0) (nb:=0) hd).v_inv
  rw [e]
  exact⟨rfl,hb⟩
theorem zfP {D:Nat->Nat->Prop} {w:World} {ad:Option Addr} {cap:Nat} (h:cap<=maxLen):Dat D w (.slice ad 0 cap) (kp []):=
 .sl ad cap 2 [] .sh 0 0 (fun _=>undef) (by simp) (fun h=>by cases h) h (fun h=>absurd rfl h) (fun i e h=>by simp at h) (fun j h=>by simp at h) (fun i e j p h=>by simp at h)
end Go.Proofs.YtonhfknjcbakiaaGreatDoor
