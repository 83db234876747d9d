import Derived.Tactics2
import Derived.Defers
import Derived.Recover
import Derived.Laws.Pointers
import Derived.WalkLawsBesides
import Derived.Deep.Cut
import Derived.Test.YtonhfknjcbakiaaGreatDoorB22
set_option maxHeartbeats 16000000
set_option linter.unusedVariables false
set_option linter.unusedSimpArgs false
set_option maxRecDepth 100000
namespace Go.Proofs.YtonhfknjcbakiaaGreatDoor
open Go.RowKit
attribute [-go_sem] z7
theorem Vw {w:World} {base base' size n:Nat} {e:TypeId} {v:Value} {xs:List Value} (h:w.ownsRow base e size v n xs) (hb:base'<=base):w.ownsRow base' e size v n xs:=⟨h.1,h.2.imp id fun⟨g,cap,cur,e1,hg,r⟩=>⟨g,cap,cur,e1,Nat.le_trans hb hg,r⟩⟩
theorem QD {B:Nat->List Nat} {R:List Nat} {n:Nat} (C:Nat->Nat->Prop) (k:List Fg) (vk:Value) (w:World) (hk:Kn B R n k) (ok:OkX B R) (hn:n<=100000) (rk:Dat C w vk (kp k)) (hC:∀ b o,C b o->b<w.heap.size) (hG:GL C w) :
 Calls Tryz.prog 97 #[vk] w fun e w'=>∃ v,e=.returned v/\Keep (fun b=>w.heap.size<=b) w w'/\Dat (fun b o=>C b o\/(w.heap.size<=b/\b<w'.heap.size)) w' v (kp (zL k)):=by
 obtain⟨aa,ca,fs,rfl,hl,hrow,hfs⟩:=kX rk hC
 have hkl:=hk.l
 have HK:=Lib.hid hk
 have HROW:=Lib.hid hrow
 have HFS:=Lib.hid hfs
 have HGL:=Lib.hid hG
 have hca:=hrow.1
 have hcm:=hrow.2.1
 unfold maxLen at hcm
 rw [hl] at hca
 clear rk hrow hfs hG hk
 obtain⟨mb,hmb⟩:∃ mb,mb=w.heap.size - 1:=⟨_,rfl⟩
 go_enter Tryz.func97,Tryz.ntmps97
 go_wp2_with fail
 go_loopg [3,4] k.length (fun g xv xi wr=>∃ j,j<=k.length/\g=k.length - j/\xi=.int .i64 j/\OutG C mb w.heap.size wr xv (zL (k.take j))/\Keep (fun b=>w.heap.size<=b) w wr)
 case atStart=>exact⟨0,Nat.zero_le _,rfl,rfl,OutG.start _ _ _ _,Keep.refl _ w⟩
 case round=>
  obtain⟨j,hj,rfl,rfl,hout,hkr⟩:=hrel
  obtain⟨o,ho⟩:∃ o,o=zL (k.take j):=⟨_,rfl⟩
  rw [<-ho] at hout
  obtain⟨ad,cap,rfl,hlc,hcm2⟩:=hout.shape
  unfold maxLen at hcm2
  have HOUT:=Lib.hid hout
  have HKR:=Lib.hid hkr
  have HO:=Lib.hid ho
  have hwr:=hkr.size
  by_cases hlt:j<k.length
  ·have hltf:j<fs.length:=by omega
   obtain⟨bb,off,rfl,hbn,hcel⟩:=HROW.out.2.2 (by intro e;subst e;simp at hltf)
   obtain⟨c0,c1⟩:=hcel j hltf
   obtain⟨d0,d1⟩:=HFS.out j hltf
   replace c0:=(HKR.out.cell (p:=⟨bb,off+j * 2,none⟩) (by show bb<_;omega) (by show ¬ w.heap.size<=bb;omega)).trans c0
   replace c1:=(HKR.out.cell (p:=⟨bb,off+j * 2+1,none⟩) (by show bb<_;omega) (by show ¬ w.heap.size<=bb;omega)).trans c1
   have hao:¬(zi k[j].vec=[]\/k[j].items=[])->AddOk o ⟨k[j].items,zi k[j].vec⟩:=fun hne=>ho ▸ XK HK.out ok (by omega) hlt hne
   have hgt:zL (k.take (j+1))=yo o k[j]:=ho ▸ Zo hlt
   have hfm:=List.getElem_mem hlt
   have hsm:=HK.out.s _ hfm
   have hfr:=HK.out.r _ hfm
   have hil:k[j].items.length<=100000:=by have:=yv hfm;have:=HK.out.m;omega
   have hkt:=(HK.out.take j).group ok
   rw [<-ho] at hkt
   have hol:o.length<=100000:=by have:=hkt.l;omega
   have hoi:∀ g ∈ o,g.items.length<=100000:=fun g hg=>by have:=yv hg;have:=hkt.m;omega
   have hwv:∀ g ∈ o,g.vec.length<=1024/\∀ e ∈ g.vec,e.holes.length<=1048576:=fun g hg=>by
    obtain⟨x,hx,e⟩:=(jU (HK.out.take j).r).2.2 g (ho ▸ hg)
    have:=((HK.out.take j).ik x hx).canVec.bv ok.1 ok.2
    rw [<-e] at this
    exact⟨by have:=this.2.1;omega,fun e he=>by have:=this.2.2 e he;omega⟩
   have hwf:(zi k[j].vec).length<=1024/\∀ e ∈ zi k[j].vec,e.holes.length<=1048576:=by
    have:=(HK.out.ik _ hfm).canVec.bv ok.1 ok.2
    exact⟨by have:=this.2.1;omega,fun e he=>by have:=this.2.2 e he;omega⟩
   have hsrt:o.Pairwise fun f g=>ZH f.vec g.vec:=ho ▸ (vB (HK.out.take j).r).srt
   have hnr:∀ g ∈ o,Nrm g.items:=fun g hg=>((vB (HK.out.take j).r).ok g (ho ▸ hg)).2.2.1
   generalize k[j]=f at *
   generalize fs[j]=q at *
   obtain⟨ai,ci,e0⟩:=zK d0
   obtain⟨av,cv,e1⟩:=xL d1
   rw [e0] at c0 d0
   rw [e1] at c1 d1
   have hCr:∀ b o,C b o->b<wr.heap.size:=fun b o h=>by have:=hC b o h;omega
   have hGr:GL C wr:=HGL.out.mono (fun _ _ h=>h) fun b o x hc hx=>HKR.out.cell_some hx (by have:=hC b o hc;show ¬ w.heap.size<=b;omega)
   have hdm:∀(x:Value) (p:PV),Dat C w x p->∀ W,Below wr.heap.size wr W->Dat C W x p:=fun x p h W hW=>h.mono (fun _ _ h=>h) fun b o x hc hx=>(World.cell?_of_block (a:=⟨b,o,none⟩) (hW.block b (hCr b o hc))).trans (HKR.out.cell_some hx (by have:=hC b o hc;show ¬ w.heap.size<=b;omega))
   have hGW:∀ W,Below wr.heap.size wr W->GL C W:=fun W hW=>hGr.mono (fun _ _ h=>h) fun b o x hc hx=>(World.cell?_of_block (a:=⟨b,o,none⟩) (hW.block b (hCr b o hc))).trans hx
   have hcan:Calls Tryz.prog 149 #[.slice av f.vec.length cv] wr fun e w'=>∃ a c,e=.returned (.slice a (zi f.vec).length c)/\Below wr.heap.size wr w'/\Dat (DX C mb w' (.slice ad o.length cap)) w' (.slice a (zi f.vec).length c) (vp (zi f.vec)):=by
    refine(jP (D:=C) (Ka f.vec hfr.2 hsm.2.1 hsm.2.2) (hGW wr (Below.refl _ _)) hCr rfl (fun i p hp=>?_)).mono ?_
    ·match i,hp with
     | 0,hp=>cases hp;exact hdm _ _ d1 wr (Below.refl _ _)
     | i+1,hp=>simp at hp
    ·rintro e w' ⟨v,rfl,hb,hd⟩
     obtain⟨a,c,rfl⟩:=xL hd
     have hsu:=HOUT.out.owns
     refine⟨a,c,rfl,hb,hd.mono (fun b o h=>?_) fun _ _ _ _ h=>h⟩
     rcases h with h | h
     ·exact⟨.inl h,fun e=>by have:=(hsu b e).1;have:=hC b o h;omega⟩
     ·exact⟨.inr ⟨by omega,h.2⟩,fun e=>by have:=(hsu b e).2;omega⟩
   have HCAN:=Lib.hid hcan
   have HGW:=Lib.hid hGW
   have HDM:=Lib.hid hdm
   have HD0:=Lib.hid d0
   have HGT:=Lib.hid hgt
   have HWV:=Lib.hid hwv
   have HWF:=Lib.hid hwf
   have HNR:=Lib.hid hnr
   have HOI:=Lib.hid hoi
   have HFR:=Lib.hid hfr.1
   have HCR:=Lib.hid hCr
   have HOW:=Lib.hid HOUT.out.owns
   have HSR:=Lib.hid hsrt
   have hCv:∀ b o',C b o'->(Value.slice ad o.length cap).ownBlock≠some b:=fun b _ h e=>by have:=(HOUT.out.owns b e).1;have:=hC b _ h;omega
   have HCV:=Lib.hid hCv
   have HC:=Lib.hid hC
   clear hcan hGW hdm d0 d1 hgt hwv hwf hnr hoi hfr hsm hCr hsrt hao hfm hkt hGr e0 e1 hcel hCv hC ho hout hkr
   have tokA:True:=trivial
   obtain⟨wo,hwo⟩:∃ wo,wo=wr:=⟨_,rfl⟩
   subst hwo
   by_cases h1:0<(zi f.vec).length
   ·have b1:(((zi f.vec).length:Int) == 0)=false:=beq_eq_false_iff_ne.2 (by omega)
    by_cases h2:0<f.items.length
    ·have b2:((f.items.length:Int) == 0)=false:=beq_eq_false_iff_ne.2 (by omega)
     have hne:¬(zi f.vec=[]\/f.items=[]):=fun e=>by
      rcases e with e | e
      ·rw [e] at h1;simp at h1
      ·rw [e] at h2;simp at h2
     have HNE:=Lib.hid hne
     obtain⟨i,hi,q1,q2⟩:=Qo (zi f.vec) HSR.out
     have HQ1:=Lib.hid q1
     have HQ2:=Lib.hid q2
     have HIN:=Lib.hid (Y8 (f:=⟨f.items,zi f.vec⟩) hi q1 q2)
     clear q1 q2 hne
     go_wp2_with (first
      | (go_at_call 149;have _t:=tokA;refine HCAN.out.mono ?_;rintro e w3 ⟨a3,n3,rfl,hb3,hd3⟩
         have c3:=(hb3.cell (p:=⟨bb,off+j * 2,none⟩) (by show bb<_;omega)).trans c0
         have HB3:=Lib.hid hb3
         have HD3:=Lib.hid hd3
         have hs3:=hb3.size
         clear hb3 hd3 tokA)
      | go_in)
     go_loopg [6] i (fun g x w2=>∃ a,a<=i/\g=i - a/\x=.int .i64 a/\Below w3.heap.size w3 w2)
     case atStart=>exact⟨0,Nat.zero_le _,rfl,rfl,Below.refl _ _⟩
     case round=>
      obtain⟨a,ha,rfl,rfl,hB4⟩:=hrel
      have hB5:=HB3.out.trans (hB4.mono hs3)
      have hk2:=HOUT.out.keep (w':=wr) hB5.size fun b hb=>hB5.block b hb
      have hd4:=DX.keep HD3.out hB4.size fun b hb _=>hB4.block b hb
      have c4:=(hB4.cell (p:=⟨bb,off+j * 2,none⟩) (by show bb<_;omega)).trans c3
      have HB4:=Lib.hid hB4
      have HB5:=Lib.hid hB5
      have HK2:=Lib.hid hk2
      have HD4:=Lib.hid hd4
      have hs4:=hB4.size
      have hcmp:∀(a:Nat) (hal:a<o.length) (c:Int),zZ (zv o[a].vec) (zv (zi f.vec))=c->∀(av2:Option Addr) (cv2:Nat),Dat (DX C mb wr (.slice ad o.length cap)) wr (.slice av2 o[a].vec.length cv2) (vp o[a].vec)->∀ W,Below wr.heap.size wr W->Calls Tryz.prog 150 #[.slice av2 o[a].vec.length cv2,.slice a3 (zi f.vec).length n3] W fun e w'=>e=.returned (.int .i64 c)/\Below W.heap.size W w':=fun a hal c hc av2 cv2 hd W hW=>
       zhr c hc (HWV.out _ (List.getElem_mem hal)) HWF.out (DX.keep hd hW.size fun b hb _=>hW.block b hb) (DX.keep HD4.out hW.size fun b hb _=>hW.block b hb) HCV.out (fun b o h=>by have:=HCR.out b o h;have:=hW.size;omega) (HGW.out W (HB5.out.trans (hW.mono HB5.out.size)))
      have HCMP:=Lib.hid hcmp
      clear hB4 hB5 hk2 hd4 hcmp
      by_cases hai:a<i
      ·have hal:a<o.length:=by omega
       obtain⟨g,ai2,ci2,av2,cv2,cur,rfl,hgb,hgc,x0,x1,da,db⟩:=HK2.out.at hal
       obtain⟨c,hc⟩:∃ c,zZ (zv o[a].vec) (zv (zi f.vec))=c:=⟨_,rfl⟩
       have hcl:c<0:=by rw [<-hc];exact HQ1.out a hal hai
       have HCM:=Lib.hid (HCMP.out a hal c hc av2 cv2 db)
       clear da db hc hgc x0
       generalize o[a]=oa at *
       go_wp2_with (first
        | (go_at_call 150;refine(HCM.out _ (Below.refl _ _)).mono ?_;rintro e w5 ⟨rfl,hb5⟩;have HB6:=Lib.hid hb5;clear hb5)
        | go_in)
       go_roundg (i - (a+1))
       case measure=>omega
       case rel=>exact⟨a+1,hai,rfl,by simp,HB4.out.trans (HB6.out.mono hs4)⟩
      ·obtain rfl:a=i:=by omega
       by_cases hil:a<o.length
       ·obtain⟨g,ai2,ci2,av2,cv2,cur,rfl,hgb,hgc,x0,x1,da,db⟩:=HK2.out.at hil
        obtain⟨c,hc⟩:∃ c,zZ (zv o[a].vec) (zv (zi f.vec))=c:=⟨_,rfl⟩
        have hcl:¬ c<0:=by rw [<-hc];exact HQ2.out a hil (Nat.le_refl _)
        have HCM:=Lib.hid (HCMP.out a hil c hc av2 cv2 db)
        have HC0:=Lib.hid hc
        have HDA:=Lib.hid da
        have HGC:=Lib.hid hgc
        have HX0:=Lib.hid x0
        clear da db hc hgc x0
        have tokB:True:=trivial
        have tokC:True:=trivial
        obtain⟨oa,hoa⟩:∃ oa,oa=o[a]:=⟨_,rfl⟩
        rw [<-hoa] at x1 HCM HC0 HDA HX0
        have HOA:=Lib.hid hoa
        clear hoa
        by_cases hz:c=0
        ·go_wp2_with (first
          | (go_at_call 150;have _t:=tokB;refine(HCM.out _ (Below.refl _ _)).mono ?_;rintro e w5 ⟨rfl,hb5⟩
             have y1:=(hb5.cell (p:=⟨g,a * 2+1,none⟩) (World.block_lt_of_cell? wr ⟨g,a * 2+1,none⟩ x1)).trans x1
             have HB6:=Lib.hid hb5;clear hb5 tokB)
          | (go_at_call 150;have _t:=tokC;refine(HCM.out _ HB6.out).mono ?_;rintro e w6 ⟨rfl,hb5⟩;have HB7:=Lib.hid (HB6.out.trans (hb5.mono HB6.out.size));clear hb5 tokC)
          | go_in)
         have hcD:Below w6.heap.size w6 w6.drew:=(Below.refl _ _).drew
         have hgl:g<wr.heap.size:=World.block_lt_of_cell? wr ⟨g,a * 2+1,none⟩ x1
         have z0:=(HB7.out.cell (p:=⟨g,a * 2,none⟩) hgl).trans HX0.out
         have z1:=(HB7.out.cell (p:=⟨g,a * 2+1,none⟩) hgl).trans x1
         have z4:=(HB7.out.cell (p:=⟨bb,off+j * 2,none⟩) (by show bb<_;omega)).trans c4
         have hs7:=HB7.out.size
         have hun:∀ W,Below w6.heap.size w6 W->Calls Tryz.prog 151 #[.slice ai2 oa.items.length ci2,.slice ai f.items.length ci] W fun e w'=>∃ u,e=.returned u/\Below W.heap.size W w'/\Dat (DX C mb w' (.slice (some ⟨g,0,none⟩) o.length cap)) w' u (rg (qy zn oa.items f.items)):=fun W hW=>by
          have hBW:=HB7.out.trans (hW.mono hs7)
          have hBo:=HB5.out.trans (hBW.mono HB5.out.size)
          have hmo:oa ∈ o:=by rw [HOA.out];exact List.getElem_mem hil
          refine zep (HNR.out _ hmo) HFR.out (by have:=HOI.out _ hmo;omega) (by omega) (DX.keep HDA.out hBW.size fun b hb _=>hBW.block b hb) ((HDM.out _ _ HD0.out W hBo).mono (fun b o' h=>⟨.inl h,HCV.out b o' h⟩) fun _ _ _ _ h=>h) (fun b hb=>by have:=(HOW.out b hb).2;have:=hBo.size;omega) HCV.out (fun b o h=>by have:=HCR.out b o h;have:=hBo.size;omega) (by have:=hBo.size;omega) (HGW.out W hBo)
         have HUN:=Lib.hid hun
         clear hun
         have mixed:Tryz.prog.follows .mixedOrders=true:=by kernel_rfl
         obtain⟨wz,hwz⟩:∃ wz,wz=w6:=⟨_,rfl⟩
         subst hwz
         refine Kg (Sw:=qe) 16 96 (fun w9=>Below wz.heap.size wz w9/\w9.cell? ⟨g,a * 2,none⟩=some (.slice ai2 oa.items.length ci2)/\w9.cell? ⟨bb,off+j * 2,none⟩=some (.slice ai f.items.length ci)) (by kernel_rfl) (by kernel_rfl) rfl ⟨hcD,z0,z4⟩ ?_
         simp only [List.take_succ_cons,List.take_zero]
         refine Jz ?_
         refine V7 (fun u w9=>Dat (DX C mb w9 (.slice (some ⟨g,0,none⟩) o.length cap)) w9 u (rg (qy zn oa.items f.items))) (fun u wa wb h hk=>DX.keep h hk.size fun k hk2 _=>hk.block k hk2 id) rfl ?_ ?_
         ·intro a2 w2 hc hk hr K hK
          have HK:=Lib.hid hK
          clear hK
          simp [Rds,zA,lk,Op.operands,Call.operands,RdEq] at hr
          go_simp
          refine(HUN.out _ hc.1).mono ?_
          rintro e w3 ⟨u,rfl,hb,hd⟩
          have hkb:Keep qe _ w3:=Keep.of_below' hb (Nat.le_refl _)
          exact HK.out _ _ hkb ⟨hc.1.trans (hb.mono hc.1.size),hkb.cell_some hc.2.1 id,hkb.cell_some hc.2.2 id⟩ hd
         dsimp only [List.nil_append,List.cons_append]
         refine Jz ?_
         refine V7 (fun u w9=>∃ au cu,u=.agg #[.slice au (qy zn oa.items f.items).length cu,.slice a3 (zi f.vec).length n3]/\Dat (DX C mb w9 (.slice (some ⟨g,0,none⟩) o.length cap)) w9 (.slice au (qy zn oa.items f.items).length cu) (rg (qy zn oa.items f.items))) (fun u wa wb h hk=>by obtain⟨au,cu,e,h⟩:=h;exact⟨au,cu,e,DX.keep h hk.size fun k hk2 _=>hk.block k hk2 id⟩) rfl ?_ ?_
         ·intro a2 w2 hc hk hr K hK
          have HK:=Lib.hid hK
          clear hK
          simp [Rds,zA,lk,Op.operands,Call.operands,RdEq] at hr
          obtain⟨⟨u,⟨e1,e2⟩,hu⟩,e3,e4⟩:=hr
          obtain⟨au,cu,rfl⟩:=zK hu
          go_simp
          exact HK.out _ _ (Keep.refl _ _) hc ⟨au,cu,rfl,hu⟩
         dsimp only [List.nil_append,List.cons_append]
         refine Jz ?_
         intro w2 hc2 hk2
         simp only [finG,forall_eq,List.nil_append,List.cons_append,List.drop_succ_cons,List.drop_zero,List.drop_nil]
         simp only [Act.put,List.setIfInBounds_toArray,List.set_cons_succ,List.set_cons_zero]
         rintro _ _ _ ⟨au,cu,rfl,hu⟩
         have HB8:=Lib.hid hc2.1
         have HU:=Lib.hid hu
         have hs8:=hc2.1.size
         have r0:=hc2.2.1
         have r1:=(hc2.1.cell (p:=⟨g,a * 2+1,none⟩) (by show g<_;omega)).trans z1
         have hgc:w2.heap[g]? = some (.cells cur 34 (0,0)):=(hc2.1.block g (by omega)).trans ((HB7.out.block g hgl).trans HGC.out)
         have s0:w2.frozen? ⟨g,a * 2,none⟩=false:=by simp [World.frozen?,hgc]
         have s1:w2.frozen? ⟨g,a * 2+1,none⟩=false:=by simp [World.frozen?,hgc]
         have hcap:0<cap:=by omega
         clear hu hc2 hk2 hgc
         go_wp2_with fail
         go_roundg (k.length - (j+1))
         case measure=>omega
         case rel=>
          have hbz:=HB7.out.trans (HB8.out.mono HB7.out.size)
          have hk8:=(HK2.out.keep hbz.size fun b hb=>hbz.block b hb).set hil HU.out hcap
          have hve:o[a].vec=zi f.vec:=by
           have:=HC0.out
           rw [HOA.out,hz] at this
           exact YU this
          have hlen:(o.take a++(⟨qy zn oa.items f.items,o[a].vec⟩:Fg)::o.drop (a+1)).length=o.length:=by simp;omega
          have hg1:(o.take a++(⟨qy zn oa.items f.items,o[a].vec⟩:Fg)::o.drop (a+1))[a]'(by omega)=⟨qy zn oa.items f.items,o[a].vec⟩:=by
           rw [List.getElem_append_right (by rw [List.length_take];exact Nat.min_le_left _ _)]
           simp [Nat.min_eq_left (Nat.le_of_lt hil)]
          have hbk:(Value.slice (some ⟨g,0,none⟩) o.length cap).ownBlock=some g:=by
           cases cap with
           | zero=>omega
           | succ c=>rfl
          refine⟨j+1,hlt,rfl,by simp,?_,?_⟩
          ·have hfin:=hk8.setV (i:=a) (a0:=.slice a3 (zi f.vec).length n3) hlen (by omega) (by
            rw [hg1]
            show Dat _ _ _ (vp o[a].vec)
            rw [hve]
            refine DX.keep HD4.out (by simp;exact hbz.size) fun b hb hne=>?_
            rw [Below.heap_setCell _ _ _ _ (fun e=>hne (by rw [hbk];exact congrArg some e.symm))]
            exact hbz.block b hb) hcap
           rw [HGT.out,yo,if_neg HNE.out,HIN.out,dif_pos hil,if_pos (by have:=HC0.out;rw [HOA.out,hz] at this;exact this)]
           rw [<-HOA.out]
           rw [hve] at hfin
           exact hfin
          ·exact(((HKR.out.trans (Keep.of_below' HB5.out (Nat.le_refl _))).trans (Keep.of_below' hbz (Nat.le_refl _))).setCell (fun _=>hgb) _).setCell (fun _=>hgb) _
        ·have hcq:¬(c=0):=hz
         go_wp2_with (first
          | (go_at_call 150;have _t:=tokB;refine(HCM.out _ (Below.refl _ _)).mono ?_;rintro e w5 ⟨rfl,hb5⟩
             have y1:=(hb5.cell (p:=⟨g,a * 2+1,none⟩) (World.block_lt_of_cell? wr ⟨g,a * 2+1,none⟩ x1)).trans x1
             have HB6:=Lib.hid hb5;clear hb5 tokB)
          | (go_at_call 150;have _t:=tokC;refine(HCM.out _ HB6.out).mono ?_;rintro e w6 ⟨rfl,hb5⟩;have HB7:=Lib.hid (HB6.out.trans (hb5.mono HB6.out.size));clear hb5 tokC)
          | go_in)
         obtain⟨wz,hwz⟩:∃ wz,wz=w6:=⟨_,rfl⟩
         subst hwz
         have hBz:Below wr.heap.size wr wz:=HB7.out
         have hs7:=hBz.size
         have hsw:=HB5.out.size
         obtain⟨xs,hxs,hel⟩:=HK2.out.keep hBz.size fun b hb=>hBz.block b hb
         have hxl:=hxs.2.1
         have HXS:=Lib.hid hxs
         have HEL:=Lib.hid hel
         have mixed:Tryz.prog.follows .mixedOrders=true:=by kernel_rfl
         have hone:∀ u ∈ xs.take (a * 2),u.oneCell'=true:=fun u hu=>hxs.2.2 u (List.mem_of_mem_take hu)
         have hone2:∀ u ∈ xs.drop (a * 2),u.oneCell'=true:=fun u hu=>hxs.2.2 u (List.mem_of_mem_drop hu)
         have hone1:∀ u ∈ [(.slice ai f.items.length ci:Value),.slice a3 (zi f.vec).length n3],u.oneCell'=true:=yF rfl rfl
         have hcells:∀ g0,(some (⟨g,0,none⟩:Addr))=some ⟨g0,0,none⟩->∀ W,Below wz.heap.size wz W->∀ j u,xs[j]? = some u->W.cell? ⟨g0,j,none⟩=some u:=fun g0 hg W hW j u hx=>by
          have h9:=World.ownsRow.cells HXS.out.1 (g:=g0) (by rw [hg];rfl) j u hx
          rw [zh,Nat.zero_add] at h9
          exact(hW.cell (p:=⟨g0,j,none⟩) (World.block_lt_of_cell? wz ⟨g0,j,none⟩ h9)).trans h9
         have HCELLS:=Lib.hid hcells
         have z4:=(hBz.cell (p:=⟨bb,off+j * 2,none⟩) (by show bb<_;omega)).trans c4
         have hfin:∀(v:Value) (W:World),Below wz.heap.size wz W->W.ownsRow wz.heap.size 34 2 v (0+a+1+(o.length - a)) ([]++xs.take (a * 2)++[Value.slice ai f.items.length ci,Value.slice a3 (zi f.vec).length n3]++xs.drop (a * 2)) ->
          OutG C mb w.heap.size W v (zL (k.take (j+1)))/\Keep (fun b=>w.heap.size<=b) w W:=fun v W hW ho=>by
          have hbz:=hBz.trans (hW.mono hs7)
          have hi:zL (k.take (j+1))=o.take a++⟨f.items,zi f.vec⟩::o.drop a:=by
           rw [HGT.out,yo,if_neg HNE.out,HIN.out]
           rw [dif_pos hil,if_neg (by have:=HC0.out;rw [HOA.out] at this;rw [this];exact hcq)]
          refine⟨?_,((HKR.out.trans (Keep.of_below' HB5.out (Nat.le_refl _))).trans (Keep.of_below' hbz (Nat.le_refl _)))⟩
          rw [hi]
          have hp:Dat (DX C mb wz (.slice (some ⟨g,0,none⟩) o.length cap)) wz (.slice ai f.items.length ci) (rg f.items):=(HDM.out _ _ HD0.out wz (HB5.out.trans (hBz.mono hsw))).mono (fun b o' h=>⟨.inl h,HCV.out b o' h⟩) fun _ _ _ _ h=>h
          have hq:Dat (DX C mb wz (.slice (some ⟨g,0,none⟩) o.length cap)) wz (.slice a3 (zi f.vec).length n3) (vp (zi f.vec)):=DX.keep HD4.out hs7 fun b hb _=>hBz.block b hb
          have hown:W.ownsRow wz.heap.size 34 2 v (o.length+1) (xs.take (a * 2)++[Value.slice ai f.items.length ci,Value.slice a3 (zi f.vec).length n3]++xs.drop (a * 2)):=by
           have e1:0+a+1+(o.length - a)=o.length+1:=by omega
           rw [e1,List.nil_append] at ho
           exact ho
          refine OutG.insK (f:=⟨f.items,zi f.vec⟩) (Nat.le_of_lt hil) HXS.out.2.1 HEL.out hp hq (fun h=>DX.new h (fun b o h=>by have:=HCR.out b o h;omega) hW fun k hk=>(hown.lt k hk).1) ⟨Vw hown (by omega),?_,?_⟩
          ·simp [hxl];omega
          ·intro u hu
           rcases List.mem_append.1 hu with hu | hu
           ·rcases List.mem_append.1 hu with hu | hu
            ·exact HXS.out.2.2 u (List.mem_of_mem_take hu)
            ·exact yF rfl rfl u hu
           ·exact HXS.out.2.2 u (List.mem_of_mem_drop hu)
         have HFIN:=Lib.hid hfin
         have HONE:=Lib.hid hone
         clear hfin hcells hxs hel
         have hn1:∀ W:World,Below wz.heap.size wz W->(a=0/\(some (⟨g,0,none⟩:Addr))=none)\/∃ a',some (⟨g,0,none⟩:Addr)=some a'/\∀ j u,(xs.take (a * 2))[j]? = some u->W.cell? (a'.add j)=some u:=fun W hB=>.inr ⟨_,rfl,fun j u h=>by
          rw [zh,Nat.zero_add]
          rw [List.getElem?_take] at h
          split at h
          ·exact HCELLS.out g rfl W hB j u h
          ·cases h⟩
         have hn2:∀ W:World,Below wz.heap.size wz W->(o.length - a=0/\(some (⟨g,a * 2,none⟩:Addr))=none)\/∃ a',some (⟨g,a * 2,none⟩:Addr)=some a'/\∀ j u,(xs.drop (a * 2))[j]? = some u->W.cell? (a'.add j)=some u:=fun W hB=>.inr ⟨_,rfl,fun j u h=>by
          rw [zh]
          rw [List.getElem?_drop] at h
          exact HCELLS.out g rfl W hB _ u h⟩
         have HN1:=Lib.hid hn1
         have HN2:=Lib.hid hn2
         have hck:¬(cap=a):=by omega
         have hbbz:bb<wz.heap.size:=by omega
         have hkc:a<=cap:=by omega
         have hkl2:a<=o.length:=by omega
         clear hn1 hn2
         go_region_law_o (first
          | (refine yH (.tmp 77) (.tmp 80) 23 rfl rfl Tryz.underlying23 wz.heap.size (.slice (some ⟨_,0,none⟩) 0 0) 0 [] rfl (zdz (by omega) (by first | exact World.alloc_heap_new _ _ | exact World.alloc_heap_new wz _ | exact yw _ _ _ | exact yx _ _ _ | exact yw wz _ _ | exact yx wz _ _)) _ a _ (xs.take (a * 2)) rfl (by simp [hxl]<;>omega) (HN1.out _ (by first | exact YR _ _ | exact XM _ _ _)) hone (by omega) (by simp<;>omega) ?_
             intro v37 w37 ho37 hg37 hb37
             have b1:Below wz.heap.size wz w37:=by first | exact(YR wz _).grown hg37 (by simp<;>omega) (fun j hj=>by simp [Value.ownBlock] at hj;omega) | exact(XM wz _ _).grown hg37 (by simp<;>omega) (fun j hj=>by simp [Value.ownBlock] at hj;omega)
             have z37:=(b1.cell (p:=⟨bb,off+j * 2,none⟩) (by show bb<_;omega)).trans z4)
          | (refine yH (.tmp 81) (.tmp 89) 23 rfl rfl Tryz.underlying23 wz.heap.size _ (0+a) ([]++xs.take (a * 2)) rfl (by first | exact ho37 | exact ho37.alloc _) _ 1 _ [Value.slice ai f.items.length ci,Value.slice a3 (zi f.vec).length n3] rfl rfl (.inr ⟨_,rfl,vI (vt := 34) (by first | exact World.alloc_heap_new w37 _ | exact(hg37.block _ (by simp<;>omega) (by simp [Value.ownBlock]<;>omega)).trans (yw wz _ _) | exact(hg37.block _ (by simp<;>omega) (by simp [Value.ownBlock]<;>omega)).trans (yx wz _ _))⟩) hone1 (by omega) (by have:=hg37.size;simp at this ⊢<;>omega) ?_
             intro v40 w40 ho40 hg40 hb40
             have b2:Below wz.heap.size wz w40:=by first | exact b1.grown hg40 b1.size (fun j hj=>(ho37.lt j hj).1) | exact(b1.alloc b1.size _).grown hg40 (by have:=b1.size;simp<;>omega) (fun j hj=>(ho37.lt j hj).1))
          | (refine yH (.tmp 90) (.tmp 93) 23 rfl rfl Tryz.underlying23 wz.heap.size _ (0+a+1) ([]++xs.take (a * 2)++[Value.slice ai f.items.length ci,Value.slice a3 (zi f.vec).length n3]) rfl ho40 _ ((o.length - a)) _ (xs.drop (a * 2)) rfl (by simp [hxl]<;>omega) (HN2.out _ b2) hone2 (by omega) b2.size ?_
             intro v44 w44 ho44 hg44 hb44
             have HR:=Lib.hid (HFIN.out v44 w44 (b2.grown hg44 b2.size fun j hj=>(ho40.lt j hj).1) ho44)
             clear ho44 hg44 hb44))
         all_goals (go_wp2_with fail;all_goals (go_roundg (k.length - (j+1));(case measure=>omega);(case rel=>exact⟨j+1,hlt,rfl,by simp,HR.out.1,HR.out.2⟩)))
       ·obtain rfl:a=o.length:=by omega
        have tokB:True:=trivial
        go_wp2_with fail
        obtain⟨wz,hwz⟩:∃ wz,wz=wr:=⟨_,rfl⟩
        subst hwz
        have hsw:=HB5.out.size
        obtain⟨xs,hxs,hel⟩:=HK2.out
        have hxl:=hxs.2.1
        have HXS:=Lib.hid hxs
        have HEL:=Lib.hid hel
        have mixed:Tryz.prog.follows .mixedOrders=true:=by kernel_rfl
        have hone:∀ u ∈ xs,u.oneCell'=true:=hxs.2.2
        have hone0:∀ u ∈ ([]:List Value),u.oneCell'=true:=fun u hu=>by cases hu
        have hone1:∀ u ∈ [(.slice ai f.items.length ci:Value),.slice a3 (zi f.vec).length n3],u.oneCell'=true:=yF rfl rfl
        have hn1:∀ W:World,Below wz.heap.size wz W->(o.length=0/\ad=none)\/∃ a',ad=some a'/\∀ j u,xs[j]? = some u->W.cell? (a'.add j)=some u:=fun W hW=>by
         rcases HXS.out.cases with⟨e,e2,rfl⟩ | ⟨g,cap',cur,e,_⟩
         ·cases ad with
          | none=>exact .inl ⟨e2,rfl⟩
          | some a=>exact .inr ⟨a,rfl,fun j u h=>by simp at h⟩
         ·obtain⟨rfl,_,rfl⟩:ad=some ⟨g,0,none⟩/\o.length=o.length/\cap=cap':=by simpa using e
          refine .inr ⟨_,rfl,fun j u hx=>?_⟩
          have h9:=World.ownsRow.cells HXS.out.1 (g:=g) rfl j u hx
          rw [zh,Nat.zero_add] at h9 ⊢
          exact(hW.cell (p:=⟨g,j,none⟩) (World.block_lt_of_cell? wz ⟨g,j,none⟩ h9)).trans h9
        have hn2:(0=0/\(if cap=o.length then ad else Option.map (fun x=>x.add (o.length * 2)) ad)=none)\/∃ a',(if cap=o.length then ad else Option.map (fun x=>x.add (o.length * 2)) ad)=some a':=by
         cases ad<;>simp
         split<;>simp
        have HN1:=Lib.hid hn1
        have HN2:=Lib.hid hn2
        have hfin:∀(v:Value) (W:World),Below wz.heap.size wz W->W.ownsRow wz.heap.size 34 2 v (0+o.length+1+0) ([]++xs++[Value.slice ai f.items.length ci,Value.slice a3 (zi f.vec).length n3]++[]) ->
         OutG C mb w.heap.size W v (zL (k.take (j+1)))/\Keep (fun b=>w.heap.size<=b) w W:=fun v W hW ho=>by
         have hi:zL (k.take (j+1))=o.take o.length++⟨f.items,zi f.vec⟩::o.drop o.length:=by
          rw [HGT.out,yo,if_neg HNE.out,HIN.out,dif_neg (Nat.lt_irrefl _),List.take_length,List.drop_length]
         refine⟨?_,((HKR.out.trans (Keep.of_below' HB5.out (Nat.le_refl _))).trans (Keep.of_below' hW (Nat.le_refl _)))⟩
         rw [hi]
         have hp:Dat (DX C mb wz (.slice ad o.length cap)) wz (.slice ai f.items.length ci) (rg f.items):=(HDM.out _ _ HD0.out wz HB5.out).mono (fun b o' h=>⟨.inl h,HCV.out b o' h⟩) fun _ _ _ _ h=>h
         have hown:W.ownsRow wz.heap.size 34 2 v (o.length+1) (xs.take (o.length * 2)++[Value.slice ai f.items.length ci,Value.slice a3 (zi f.vec).length n3]++xs.drop (o.length * 2)):=by
          have e1:0+o.length+1+0=o.length+1:=by omega
          rw [e1,List.nil_append] at ho
          rw [List.take_of_length_le (by omega),List.drop_of_length_le (by omega)]
          exact ho
         refine OutG.insK (f:=⟨f.items,zi f.vec⟩) (Nat.le_refl _) HXS.out.2.1 HEL.out hp HD4.out (fun h=>DX.new h (fun b o h=>by have:=HCR.out b o h;omega) hW fun k hk=>(hown.lt k hk).1) ⟨Vw hown (by omega),?_,?_⟩
         ·simp [hxl];omega
         ·intro u hu
          rcases List.mem_append.1 hu with hu | hu
          ·rcases List.mem_append.1 hu with hu | hu
           ·exact HXS.out.2.2 u (List.mem_of_mem_take hu)
           ·exact yF rfl rfl u hu
          ·exact HXS.out.2.2 u (List.mem_of_mem_drop hu)
        have HFIN:=Lib.hid hfin
        have hbbz:bb<wz.heap.size:=by omega
        have z4:=c4
        clear hfin hxs hel hn1 hn2
        go_region_law_o (first
         | (refine yH (.tmp 77) (.tmp 80) 23 rfl rfl Tryz.underlying23 wz.heap.size (.slice (some ⟨_,0,none⟩) 0 0) 0 [] rfl (zdz (by omega) (by first | exact World.alloc_heap_new _ _ | exact World.alloc_heap_new wz _ | exact yw _ _ _ | exact yx _ _ _ | exact yw wz _ _ | exact yx wz _ _)) _ o.length _ xs rfl (by simp [hxl]<;>omega) (HN1.out _ (by first | exact YR _ _ | exact XM _ _ _)) hone (by omega) (by simp<;>omega) ?_
            intro v37 w37 ho37 hg37 hb37
            have b1:Below wz.heap.size wz w37:=by first | exact(YR wz _).grown hg37 (by simp<;>omega) (fun j hj=>by simp [Value.ownBlock] at hj;omega) | exact(XM wz _ _).grown hg37 (by simp<;>omega) (fun j hj=>by simp [Value.ownBlock] at hj;omega)
            have z37:=(b1.cell (p:=⟨bb,off+j * 2,none⟩) (by show bb<_;omega)).trans z4)
         | (refine yH (.tmp 81) (.tmp 89) 23 rfl rfl Tryz.underlying23 wz.heap.size _ (0+o.length) ([]++xs) rfl (by first | exact ho37 | exact ho37.alloc _) _ 1 _ [Value.slice ai f.items.length ci,Value.slice a3 (zi f.vec).length n3] rfl rfl (.inr ⟨_,rfl,vI (vt := 34) (by first | exact World.alloc_heap_new w37 _ | exact(hg37.block _ (by simp<;>omega) (by simp [Value.ownBlock]<;>omega)).trans (yw wz _ _) | exact(hg37.block _ (by simp<;>omega) (by simp [Value.ownBlock]<;>omega)).trans (yx wz _ _))⟩) hone1 (by omega) (by have:=hg37.size;simp at this ⊢<;>omega) ?_
            intro v40 w40 ho40 hg40 hb40
            have b2:Below wz.heap.size wz w40:=by first | exact b1.grown hg40 b1.size (fun j hj=>(ho37.lt j hj).1) | exact(b1.alloc b1.size _).grown hg40 (by have:=b1.size;simp<;>omega) (fun j hj=>(ho37.lt j hj).1))
         | (refine yH (.tmp 90) (.tmp 93) 23 rfl rfl Tryz.underlying23 wz.heap.size _ (0+o.length+1) ([]++xs++[Value.slice ai f.items.length ci,Value.slice a3 (zi f.vec).length n3]) rfl ho40 _ 0 _ ([]) rfl (by simp) (by rcases HN2.out with h | ⟨a,h⟩;exact .inl h;exact .inr ⟨a,h,fun j u hj=>by simp at hj⟩) hone0 (by omega) b2.size ?_
            intro v44 w44 ho44 hg44 hb44
            have HR:=Lib.hid (HFIN.out v44 w44 (b2.grown hg44 b2.size fun j hj=>(ho40.lt j hj).1) ho44)
            clear ho44 hg44 hb44))
        all_goals (go_wp2_with fail;all_goals (go_roundg (k.length - (j+1));(case measure=>omega);(case rel=>exact⟨j+1,hlt,rfl,by simp,HR.out.1,HR.out.2⟩)))
    ·have h0:f.items=[]:=by cases hf:f.items with | nil=>rfl | cons a l=>rw [hf] at h2;simp at h2
     have b2:((f.items.length:Int) == 0)=true:=by rw [h0];rfl
     have H0:=Lib.hid h0
     clear h0
     go_wp2_with (first
      | (go_at_call 149;have _t:=tokA;refine HCAN.out.mono ?_;rintro e w3 ⟨a3,n3,rfl,hb3,hd3⟩
         have c3:=(hb3.cell (p:=⟨bb,off+j * 2,none⟩) (by show bb<_;omega)).trans c0
         have HB3:=Lib.hid hb3
         clear hb3 hd3 tokA)
      | go_in)
     go_roundg (k.length - (j+1))
     case measure=>omega
     case rel=>
      refine⟨j+1,hlt,rfl,by simp,?_,HKR.out.trans (Keep.of_below' HB3.out (Nat.le_refl _))⟩
      rw [HGT.out,yo,if_pos (.inr H0.out)]
      exact HOUT.out.keep HB3.out.size fun b hb=>HB3.out.block b hb
   ·have h0:zi f.vec=[]:=by cases hf:zi f.vec with | nil=>rfl | cons a l=>rw [hf] at h1;simp at h1
    have b1:(((zi f.vec).length:Int) == 0)=true:=by rw [h0];rfl
    have H0:=Lib.hid h0
    clear h0
    go_wp2_with (first
     | (go_at_call 149;have _t:=tokA;refine HCAN.out.mono ?_;rintro e w3 ⟨a3,n3,rfl,hb3,hd3⟩
        have HB3:=Lib.hid hb3
        clear hb3 hd3 tokA)
     | go_in)
    go_roundg (k.length - (j+1))
    case measure=>omega
    case rel=>
     refine⟨j+1,hlt,rfl,by simp,?_,HKR.out.trans (Keep.of_below' HB3.out (Nat.le_refl _))⟩
     rw [HGT.out,yo,if_pos (.inl H0.out)]
     exact HOUT.out.keep HB3.out.size fun b hb=>HB3.out.block b hb
  ·obtain rfl:j=k.length:=by omega
   go_wp2_with fail
   refine bodyPost_ret (results_tmp rfl _ _ _) rfl ?_
   refine⟨_,rfl,HKR.out,?_⟩
   by_cases h0:1<=w.heap.size
   ·have h:=HOUT.out.dat (by omega)
    rw [HO.out,List.take_length] at h
    refine(show Dat (DL C mb wr) wr _ (kp (zL k)) from by rw [HO.out,List.take_length];exact h).mono (fun b o h=>h.imp id fun h=>⟨by omega,h.2⟩) fun _ _ _ _ h=>h
   ·have hk0:k=[]:=by
     cases k with
     | nil=>rfl
     | cons f l=>
       obtain⟨bb,off,_,hbn,_⟩:=HROW.out.2.2 (by intro e;subst e;simp at hl)
       omega
    have ho0:o=[]:=by rw [HO.out,hk0];rfl
    subst ho0
    subst hk0
    exact zfP (by unfold maxLen;omega)
theorem Kc {B:Nat->List Nat} {R:List Nat} {n:Nat} (k:List Fg) (hk:Kn B R n k) (ok:OkX B R) (hn:n<=100000):Cn Tryz.prog 97 [kp k] (kp (zL k)):=by
 refine yZ rfl (enters_of Tryz.func97 (by kernel_rfl) rfl) fun D w vs hG hD hsz hd=>?_
 rw [KB hsz]
 refine(QD D k _ w hk ok hn (hd 0 _ rfl) hD hG).mono ?_
 rintro e w' ⟨v,rfl,hb,hv⟩
 exact⟨v,rfl,hb.below (Nat.le_refl _) fun _ h h'=>by omega,hv⟩
theorem zdp (s:ByteArray) (w:World):Calls Tryz.prog 78 #[.string s,.nilIface] w fun e w'=>(∃ u,e=.returned u)/\w'=w:=by
 go_enter Tryz.func78,Tryz.ntmps78
 go_wp2
 go_end0
 exact⟨⟨_,rfl⟩,rfl⟩
theorem JI (p:Addr) (w:World) :
 CallsD Tryz.prog 77 #[.pointer (some p)] .returning w fun e u' w'=>e=.returned (.tuple #[])/\u'=.returning/\w'=w:=by
 refine callsD_of_wpS Tryz.func77 rfl fun c₀ cs hu=>?_
 apply wpS_seq
 apply wpS_region
 simp [wpOpsS,go_sem,recoverD,hu,Tryz.ntmps77,Exit.thenS]
 refine wpS_of_wp ?_
 go_wp2
 cases c₀
 simp_all [bodyPostS,results,Tryz.results77]
end Go.Proofs.YtonhfknjcbakiaaGreatDoor
namespace Go.Proofs.YtonhfknjcbakiaaGreatDoor
open Go.RowKit
end Go.Proofs.YtonhfknjcbakiaaGreatDoor
namespace Go.Proofs.YtonhfknjcbakiaaGreatDoor
open Go.RowKit
attribute [-go_sem] z7
theorem BdK.of {k:List Fg} (h:RightK k) (hz:SzK k):BdK k:=by
 refine⟨fun f hf=>⟨?_,fun e he=>Jg ((h f hf).2.1 e he),by have:=(hz.2 f hf).1;omega,by have:=(hz.2 f hf).2.1;omega⟩,by have:=hz.1;omega⟩
 intro s hs
 have:=NF.lo_ge (h f hf).1 s hs
 omega
theorem KH {C:Nat->Nat->Prop} {w0 w:World} {k:List Fg} {v:Value} (hr:RightK k) (hz:SzK k) (hd:Dat C w0 v (kp k)) (hC:∀ b o,C b o->b<w0.heap.size) (hG:GL C w0) (hb:Below w0.heap.size w0 w) :
 Calls Tryz.prog 54 #[v] w fun e w'=>e=.returned .nilIface/\Below w.heap.size w w':=by
 have hbd:=BdK.of hr hz
 have hc:=Vh k hbd hz
 rw [yk ((ZN hbd).2 hr)] at hc
 have hw:∀ b o x,C b o->w0.cell? ⟨b,o,none⟩=some x->w.cell? ⟨b,o,none⟩=some x:=fun b o x h hx=>(World.cell?_of_block (a:=⟨b,o,none⟩) (hb.block b (hC b o h))).trans hx
 refine(jP (D:=C) hc (hG.mono (fun _ _ h=>h) hw) (fun b o h=>Nat.lt_of_lt_of_le (hC b o h) hb.size) rfl (fun i p hp=>?_)).mono ?_
 ·match i,hp with
  | 0,hp=>cases hp;exact hd.mono (fun _ _ h=>h) hw
  | i+1,hp=>simp at hp
 ·rintro e w' ⟨u,rfl,hb',hd'⟩
  have e:=(Rel.dat (ρ:=fun _=>0) (nb:=0) hd').v_inv
  rw [e]
  exact⟨rfl,hb'⟩
end Go.Proofs.YtonhfknjcbakiaaGreatDoor
namespace Go.Proofs.YtonhfknjcbakiaaGreatDoor
open Go.RowKit
structure Rt12 (k:List Fg):Prop where
 f:vx k=true
 r:RightK k
 kn:Kn (CK k) (RK k) 240 k
 ok:OkX (CK k) (RK k)
theorem Rt12.o {k:List Fg} (h:Rt12 k):Ok12 (CK k) (RK k) k:=h.kn.ok12 h.ok (by omega)
end Go.Proofs.YtonhfknjcbakiaaGreatDoor
namespace Go.Proofs.YtonhfknjcbakiaaGreatDoor
open Go.RowKit
attribute [-go_sem] z7
def qB (fs:List Fv):List Value:=fs.flatMap fun f=>[sv f.1,sv f.2]
theorem Yo:∀(fs:List Fv) (j:Nat) (u:Value),(qB fs)[j]? = some u->∃ i,∃ h:i<fs.length,(j=i * 2/\u=sv fs[i].1)\/(j=i * 2+1/\u=sv fs[i].2)
 | [],j,u,h=>by simp [qB] at h
 | f::fs,0,u,h=>⟨0,by simp,.inl ⟨rfl,by simpa [qB] using h.symm⟩⟩
 | f::fs,1,u,h=>⟨0,by simp,.inr ⟨rfl,by simpa [qB] using h.symm⟩⟩
 | f::fs,j+2,u,h=>by
   obtain⟨i,hi,h'⟩:=Yo fs j u (by simpa [qB] using h)
   refine⟨i+1,by simp;omega,?_⟩
   rcases h' with⟨e,e2⟩ | ⟨e,e2⟩
   ·exact .inl ⟨by omega,by simpa using e2⟩
   ·exact .inr ⟨by omega,by simpa using e2⟩
theorem Z5:∀(fs:List Fv) (i:Nat) (h:i<fs.length),(qB fs)[i * 2]? = some (sv fs[i].1)/\(qB fs)[i * 2+1]? = some (sv fs[i].2)
 | f::fs,0,h=>⟨rfl,rfl⟩
 | f::fs,i+1,h=>by
   have:=Z5 fs i (by simpa using h)
   rw [show (i+1) * 2=i * 2+2 by omega]
   exact⟨by simpa [qB] using this.1,by simpa [qB] using this.2⟩
theorem jf (fs:List Fv):(qB fs).length=fs.length * 2:=by
 induction fs with
 | nil=>rfl
 | cons f fs ih=>simp [qB] at ih ⊢;omega
theorem jg (fs:List Fv):∀ u ∈ qB fs,u.oneCell'=true:=fun u hu=>by
 obtain⟨f,_,hf⟩:=List.mem_flatMap.1 hu
 simp at hf
 rcases hf with rfl | rfl<;>rfl
theorem Zn {n0:Nat} {w W:World} {av:Option Addr} {cap:Nat} {fs:List Fv} (h:zeF n0 w av cap fs) (hW:∀ b o x,b<n0->w.cell? ⟨b,o,none⟩=some x->W.cell? ⟨b,o,none⟩=some x):(fs.length=0/\av=none)\/∃ a,av=some a/\∀ j u,(qB fs)[j]? = some u->W.cell? (a.add j)=some u:=by
 by_cases h0:fs=[]
 ·subst h0
  cases av with
  | none=>exact .inl ⟨rfl,rfl⟩
  | some a=>exact .inr ⟨a,rfl,fun j u h=>by simp [qB] at h⟩
 ·obtain⟨b,off,rfl,hb,hc⟩:=h.2.2 h0
  refine .inr ⟨_,rfl,fun j u hj=>?_⟩
  obtain⟨i,hi,h'⟩:=Yo fs j u hj
  rw [zh]
  rcases h' with⟨rfl,rfl⟩ | ⟨rfl,rfl⟩
  ·exact hW _ _ _ hb (hc i hi).1
  ·exact hW _ _ _ hb (by rw [<-Nat.add_assoc];exact(hc i hi).2)
theorem Jb {ops:Array Oper} {rest:List Oper} {o:Oper} {a:Act} {w:World} {Q:Exit->Act->World->Prop} (s x:Operand) (t:TypeId) (hgd:o.guard=none)
 (ho:o.op=.call { callee:=.builtin .append,args:=#[s,x],argTypes:=#[t,t] }) (ht:Tryz.prog.underlying t=some (.slice 34)) (base:Nat) (v:Value) (n:Nat) (xs:List Value) (hs:a.eval s=v) (hown:w.ownsRow base 34 2 v n xs)
 (ad:Option Addr) (m c:Nat) (news:List Value) (hx:a.eval x=.slice ad m c) (hl:news.length=m * 2) (hnews:(m=0/\ad=none)\/∃ a,ad=some a/\∀ j u,news[j]? = some u->w.cell? (a.add j)=some u) (h1:∀ u ∈ news,u.oneCell'=true) (h63:n+m<=1073741824) (hbase:base<=w.heap.size)
 (h:∀ v' w',w'.ownsRow base 34 2 v' (n+m) (xs++news)->w.grownBy w' v.ownBlock->(v'.ownBlock=v.ownBlock\/v'.ownBlock=some w.heap.size)->wpList Tryz.prog ops Q rest (a.put o.dst v') w'):wpList Tryz.prog ops Q (o::rest) a w:=by
 have hw:Region.wanted o (yielded ops a.tmps)=true:=by simp [Region.wanted,hgd]
 unfold wpList
 rw [if_pos hw]
 refine .inl ?_
 obtain⟨v',w',hr,h2,h3,h4⟩:=YI w t o.type ht base v n xs hown ad m c news hl hnews h1 h63 hbase
 unfold Oper.wp execOp
 simp only [ho,resolve,invoke,builtin,Sem.run_bind,Sem.run_pure,Result.andThen_ok,List.map_toArray,List.map_cons,List.map_nil,hs,hx,hr]
 exact h v' w' h2 h3 h4
theorem OutG.two {C:Nat->Nat->Prop} {mb base:Nat} {w0 w:World} {v:Value} {a b:List Fg} {fa fb:List Fv} (hla:fa.length=a.length) (hlb:fb.length=b.length) (ho:w.ownsRow base 34 2 v (0+a.length+b.length) ([]++qB fa++qB fb))
 (hC:∀ b o,C b o->b<w0.heap.size) (hb:Below w0.heap.size w0 w) (hbase:w0.heap.size<=base)
 (da:∀ i (h:i<fa.length),Dat C w0 (sv fa[i].1) (rg (a[i]'(hla ▸ h)).items)/\Dat C w0 (sv fa[i].2) (vp (a[i]'(hla ▸ h)).vec)) (db:∀ i (h:i<fb.length),Dat C w0 (sv fb[i].1) (rg (b[i]'(hlb ▸ h)).items)/\Dat C w0 (sv fb[i].2) (vp (b[i]'(hlb ▸ h)).vec)):OutG C mb base w v (a++b):=by
 have key:∀ {x:Value} {p:PV},Dat C w0 x p->Dat (DX C mb w v) w x p:=fun h=>h.mono (fun b o h=>⟨.inl h,fun e=>by have:=(ho.lt b e).1;have:=hC b o h;omega⟩) fun b o x hc hx=>(World.cell?_of_block (a:=⟨b,o,none⟩) (hb.block b (hC b o hc))).trans hx
 have hl:=jf fa
 have hl2:=jf fb
 refine⟨qB fa++qB fb,⟨by rw [List.length_append,<-Nat.zero_add a.length];exact ho,by simp;omega,fun u hu=>?_⟩,fun i hi=>?_⟩
 ·rcases List.mem_append.1 hu with hu | hu
  ·exact jg fa u hu
  ·exact jg fb u hu
 ·by_cases h1:i<a.length
  ·obtain⟨e1,e2⟩:=Z5 fa i (by omega)
   obtain⟨d1,d2⟩:=da i (by omega)
   have hg:(a++b)[i]=a[i]:=List.getElem_append_left h1
   rw [hg]
   exact⟨_,_,by rw [List.getElem?_append_left (by omega)];exact e1,by rw [List.getElem?_append_left (by omega)];exact e2,key d1,key d2⟩
  ·have hib:i - a.length<b.length:=by simp at hi;omega
   obtain⟨e1,e2⟩:=Z5 fb (i - a.length) (by omega)
   obtain⟨d1,d2⟩:=db (i - a.length) (by omega)
   have hg:(a++b)[i]=b[i - a.length]:=List.getElem_append_right (by omega)
   rw [hg]
   exact⟨_,_,by rw [List.getElem?_append_right (by omega),hl,show i * 2 - fa.length * 2=(i - a.length) * 2 by omega];exact e1,by rw [List.getElem?_append_right (by omega),hl,show i * 2+1 - fa.length * 2=(i - a.length) * 2+1 by omega];exact e2,key d1,key d2⟩
end Go.Proofs.YtonhfknjcbakiaaGreatDoor
namespace Go.Proofs.YtonhfknjcbakiaaGreatDoor
open Go.RowKit
def CKL (l:List (List Fg)) (r:Nat):List Nat:=l.flatMap fun k=>CK k r
def RKL (l:List (List Fg)):List Nat:=l.flatMap RK
theorem zam {l:List (List Fg)} (hl:l.length<=4) (h:∀ k ∈ l,vx k=true/\RightK k):OkX (CKL l) (RKL l):=by
 refine⟨fun r=>?_,?_⟩
 ·have h1:(CKL l r).length<=l.length * 1512:=qL (n:=1512) fun k hk=>(X4 (h k hk).1 (h k hk).2).1 r
  omega
 ·have h1:(RKL l).length<=l.length * 240:=qL (n:=240) fun k hk=>(X4 (h k hk).1 (h k hk).2).2.1
  omega
theorem Kn.all {l:List (List Fg)} {k:List Fg} (hk:k ∈ l) (h:vx k=true) (hr:RightK k):Kn (CKL l) (RKL l) 240 k:=
 (Kn.few h hr).mono (fun r x hx=>List.mem_flatMap.2 ⟨k,hk,hx⟩) (fun x hx=>List.mem_flatMap.2 ⟨k,hk,hx⟩) (Nat.le_refl _)
theorem Kn.at {C:Nat->List Nat} {R:List Nat} {n:Nat} {k:List Fg} (h:Kn C R n k) (ok:OkX C R) (x:Nat):SmV (qc k x):=(h.ik.at x).1.smv ok.c
theorem Kn.app {C:Nat->List Nat} {R:List Nat} {n m:Nat} {a b:List Fg} (ha:Kn C R n a) (hb:Kn C R m b):Kn C R (n+m) (a++b):=by
 refine⟨ha.r.app hb.r,fun f hf=>(List.mem_append.1 hf).elim (ha.ik f) (hb.ik f),fun f hf=>(List.mem_append.1 hf).elim (ha.s f) (hb.s f),?_,?_⟩
 ·have:=kK a b;have:=ha.m;have:=hb.m;omega
 ·rw [List.length_append];have:=ha.l;have:=hb.l;omega
theorem Kn.parts {C:Nat->List Nat} {R:List Nat} {n m:Nat} {f:Bool->Bool->Bool} (hf:f false false=false) {a b:List Fg} (ha:Kn C R n a) (hb:Kn C R m b) (ok:OkX C R):Kn C R (1+2 * (n+m)) (yy f a b):=by
 have h1:=xW (a++b)
 have h2:=YO (a++b)
 have h3:=kK a b
 have h4:=ha.m
 have h5:=hb.m
 have hw:∀ g ∈ yy f a b,WV C R g.vec:=fun g hg=>by
  obtain⟨s,_,rfl⟩:=List.mem_map.1 hg
  exact IV.lat hf (ha.ik.at s.lo).1.iv (hb.ik.at s.lo).1.iv
 refine⟨xU ha.r hb.r,fun f hf=>(hw f hf).iv,fun f hf=>(hw f hf).smv ok.c,?_,?_⟩
 ·unfold yy;rw [Zf];omega
 ·unfold yy;rw [List.length_map];omega
theorem Kn.do {C:Nat->List Nat} {R:List Nat} {n m:Nat} {f:Bool->Bool->Bool} (hf:f false false=false) {a b:List Fg} (ha:Kn C R n a) (hb:Kn C R m b) (ok:OkX C R):Kn C R (1+2 * (n+m)) (vh f a b):=(ha.parts hf hb ok).group ok
noncomputable def Zx (f:Bool->Bool->Bool) (a b:List Fg) (s:Iv):Fg:=⟨[s],ks f (qc a s.lo) (qc b s.lo)⟩
theorem Qr (f:Bool->Bool->Bool) (a b:List Fg) {j:Nat} (h:j<(zu (a++b)).length):((zu (a++b)).take (j+1)).map (fun s=>fc (Zx f a b s))=((zu (a++b)).take j).map (fun s=>fc (Zx f a b s))++[fc (Zx f a b (zu (a++b))[j])]:=by
 rw [List.take_succ_eq_append_getElem h,List.map_append];rfl
theorem YC (f:Bool->Bool->Bool) (a b:List Fg) {j:Nat} (h:(zu (a++b)).length<=j):((zu (a++b)).take j).map (fun s=>fc (Zx f a b s))=(yy f a b).map fc:=by
 rw [List.take_of_length_le h];unfold yy;rw [List.map_map];rfl
def KQ:Nat->Code->Code
 | 0,c=>c
 | n+1,.seq _ c=>KQ n c
 | _,c=>c
theorem zjO {B:Nat->List Nat} {R:List Nat} {n:Nat} (f:Bool->Bool->Bool) (hf:f false false=false) (op:FuncId) (a b:List Fg) (ha:Kn B R n a) (hb:Kn B R n b) (ok:OkX B R) (hn:n<=40000)
 (hop:∀ x,Cn Tryz.prog op [vp (qc a x),vp (qc b x)] (vp (ks f (qc a x) (qc b x)))) :
 pW Tryz.prog Tryz.f70.ntmps True ((qx Tryz.prog Tryz.f70.ntmps [] (KQ 7 (xN Tryz.f70))).getD .sk) (jG [.t 6,.c 7 false 1] (.tup [kp (vh f a b),.v .nilIface])) ⟨[(0,kp a),(1,kp b),(2,.fn (.func op) [] []),(7,.bx 0 0),(8,kp (a++b)),(9,.sl [] .z)],[[.v .nilIface]]⟩:=by
 have hab:=ha.app hb
 have h12:=hab.ok12 ok (by omega)
 have ha12:=ha.ok12 ok (by omega)
 have hb12:=hb.ok12 ok (by omega)
 have hpl:=xW (a++b)
 have h12t:=h12.t
 have hpa:=ha.parts hf hb ok
 have hgr:=zfn (yy f a b) hpa ok (by omega)
 conv=>arg 4;cbv
 refine pw ?_
 refine .c (zdF (a++b) h12.r h12.z (by have:=h12.l;omega) h12.t) ?_
 refine pLoop.go (fun j=>j<=(zu (a++b)).length) (fun j=>[(9,.sl (((zu (a++b)).take j).map (fun s=>fc (Zx f a b s))) (.r 51 2)),(32,.v (.int .i64 (j:Nat)))]) (fun _=>[[.v .nilIface]]) (fun j=>(zu (a++b)).length - j) 0 [9,32] ?_ ?_ ?_
 ·exact Nat.zero_le _
 ·exact pd
 ·rintro j hj
  refine pw ?_
  refine .i ?_ ?_<;>intro h<;>(try simp only [nrm_l] at h)<;>first | refine pw ?_ | exact pd
  ·have hst:=Qr f a b h
   refine .c (zgU a (zu (a++b))[j].lo ha12.ik ha12.ok ha12.r ha12.s ha12.z) ?_
   refine .c (zgU b (zu (a++b))[j].lo hb12.ik hb12.ok hb12.r hb12.s hb12.z) ?_
   have hcl:=hop (zu (a++b))[j].lo
   (first | refine .c (hcl) ?_ | refine .o (hcl) ?_)
   refine cutP.full rfl ?_ rfl ?_ ?_
   ·exact pd
   ·exact pd
   ·refine pw ?_
    exact⟨j+1,h,by omega,hst.symm,rfl⟩
  ·have hg2:Cn Tryz.prog 74 [.sl (((zu (a++b)).take j).map (fun s=>fc (Zx f a b s))) .sh] (kp (vh f a b)):=by rw [YC f a b (by omega)];exact hgr
   (first | exact .d (hg2) | exact .q (hg2))
def orI:List Int->Int
 | []=>0
 | x::l=>if x=0 then orI l else x
theorem zng (l:List Int) (hl:l.length<=1000):Cn Tryz.prog 128 [.sl (l.map fun x=>[.v (.int .i64 x)]) .sh] (.v (.int .i64 (orI l))):=by
 refine zt Tryz.func128 1 ?_
 refine pw ?_
 refine pLoop.go (fun k=>k<=l.length/\orI l=orI (l.drop k)) (fun k=>[(8,.v (.int .i64 (k:Nat)))]) (fun _=>[]) (fun k=>l.length - k) 0 [8] ?_ ?_ ?_
 ·exact⟨Nat.zero_le _,rfl⟩
 ·exact pd
 ·rintro k ⟨hk,ho⟩
  refine pw ?_
  refine .i ?_ ?_<;>intro h<;>(try simp only [nrm_l] at h)<;>first | refine pw ?_ | exact pd
  ·have hd:orI (l.drop k)=if l[k]=0 then orI (l.drop (k+1)) else l[k]:=by
    rw [List.drop_eq_getElem_cons h];rfl
   refine .i ?_ ?_<;>intro h2<;>(try simp only [nrm_l] at h2)<;>first | refine pw ?_ | exact pd
   ·rw [ho,hd,if_neg h2]
   ·refine⟨k+1,⟨h,?_⟩,by omega,rfl⟩
    rw [ho,hd,if_pos (by omega)]
  ·rw [ho,List.drop_of_length_le (by omega)];rfl
def trc (t:Tr):List PV:=[.v (.int .u64 t.1),.v (.int .u64 t.2.1),.v (.int .u64 t.2.2)]
def trp (t:Tr):PV:=.agg (trc t)
attribute [go_sem] trc trp
theorem zi6 (t u:Tr):Cn Tryz.prog 86 [trp t,trp u] (.v (.int .i64 (zeY t u))):=by
 have ho:=zng [if t.1<u.1 then -1 else if u.1<t.1 then 1 else 0,if t.2.1<u.2.1 then -1 else if u.2.1<t.2.1 then 1 else 0,if t.2.2<u.2.2 then -1 else if u.2.2<t.2.2 then 1 else 0] (by simp)
 have e:orI [if t.1<u.1 then -1 else if u.1<t.1 then 1 else 0,if t.2.1<u.2.1 then -1 else if u.2.1<t.2.1 then 1 else 0,if t.2.2<u.2.2 then -1 else if u.2.2<t.2.2 then 1 else 0]=zeY t u:=by
  unfold zeY
  simp only [orI,zZ]
  repeat' split
  all_goals first | rfl | omega
 rw [e] at ho
 refine zt Tryz.func86 2 ?_
 refine pw ?_
 refine .c (XQ t.1 u.1) ?_
 refine .c (XQ t.2.1 u.2.1) ?_
 refine .c (XQ t.2.2 u.2.2) ?_
 (first | exact .d (ho) | exact .q (ho))
def qA (l:List Iv):Iv:=if h:0<l.length then ⟨l[0].lo,(l[l.length - 1]'(by omega)).hi⟩ else ⟨0,0⟩
theorem zhU (l:List Iv) (hl:l.length<=9223372036854775807):Cn Tryz.prog 125 [rg l] (.tup [Je (qA l),.v (.bool (decide (0<l.length)))]):=by
 refine zt Tryz.func125 1 ?_
 refine pw ?_
 refine .i ?_ ?_<;>intro h<;>(try simp only [nrm_l] at h)<;>first | refine pw ?_ | exact pd
 ·subst h
  rfl
 ·have hp:0<l.length:=List.length_pos_iff.2 h
  rw [qA,dif_pos hp,decide_eq_true hp]
  exact pd
theorem KY (l:List Iv) (hl:l.length<=9223372036854775807):Cn Tryz.prog 84 [rg l] (.tup [.v (.int .u64 (qA l).lo),.v (.bool (decide (0<l.length)))]):=by
 refine zt Tryz.func84 1 ?_
 refine pw ?_
 exact .d (zhU l hl)
theorem K5 {s:Iv} {l:List Iv}:(qA (s::l)).lo=s.lo:=by simp [qA]
def xm (k:List Fg) (j:Nat):Option Tr:=((k.take j).flatMap V3).foldl Vq none
theorem zbi (k:List Fg):xm k 0=none:=rfl
def kt (o:Option Tr) (x:Nat) (v:List En) (i:Nat):Option Tr:=((v.take i).flatMap (XE x)).foldl Vq o
theorem zbg (o:Option Tr) (x:Nat) (v:List En):kt o x v 0=o:=rfl
theorem zbh {k:List Fg} {j:Nat} (h:j<k.length):xm k (j+1)=(V3 k[j]).foldl Vq (xm k j):=by
 unfold xm
 rw [List.take_succ_eq_append_getElem h,List.flatMap_append,List.foldl_append]
 simp
theorem zbf {o:Option Tr} {x:Nat} {v:List En} {i:Nat} (h:i<v.length):kt o x v (i+1)=(XE x v[i]).foldl Vq (kt o x v i):=by
 unfold kt
 rw [List.take_succ_eq_append_getElem h,List.flatMap_append,List.foldl_append]
 simp
theorem zem {f:Fg} (h:¬ 0<f.items.length):V3 f=[]:=by
 unfold V3
 rw [List.length_eq_zero_iff.1 (show f.items.length=0 by omega)]
theorem zbR {f:Fg} (h:0<f.items.length):V3 f=f.vec.flatMap (XE (qA f.items).lo):=by
 unfold V3
 cases hf:f.items with
 | nil=>rw [hf] at h;cases h
 | cons s l=>rw [K5]
theorem zel {x:Nat} {e:En} (h:¬ 0<(kn e).length):XE x e=[]:=by
 unfold XE
 rw [List.length_eq_zero_iff.1 (show (kn e).length=0 by omega)]
theorem zbQ {x:Nat} {e:En} (h:0<(kn e).length):XE x e=[(x,e.rep,(qA (kn e)).lo)]:=by
 unfold XE
 cases hf:kn e with
 | nil=>rw [hf] at h;cases h
 | cons s l=>rw [K5]
theorem zfE {C:Nat->List Nat} {R:List Nat} (k:List Fg) (h12:Ok12 C R k):Cn Tryz.prog 31 [kp k] (.tup [trp ((kY k).getD (0,0,0)),.v (.bool (kY k).isSome),.v .nilIface]):=by
 have hr:=h12.r
 have hz:=h12.z
 have hbd:=BdK.of hr hz
 have hc:=Vh k hbd hz
 rw [yk ((ZN hbd).2 hr)] at hc
 have hz1:=hz.1
 refine zt Tryz.func31 1 ?_
 refine pw ?_
 (first | refine .c (hc) ?_ | refine .o (hc) ?_)
 refine pLoop.go (fun j=>j<=k.length) (fun j=>[(7,.v (.bool (xm k j).isSome)),(26,.v (.int .i64 (j:Nat)))]) (fun j=>[trc (0,0,0),trc ((xm k j).getD (0,0,0))]) (fun j=>k.length - j) 0 [7,26] ?_ ?_ ?_
 ·exact Nat.zero_le _
 ·simp only [zbi,Option.isSome_none,Option.getD_none]
  exact pd
 ·rintro j hj
  refine pw ?_
  refine .i ?_ ?_<;>intro h<;>(try simp only [nrm_l] at h)<;>first | refine pw ?_ | exact pd
  ·have hf:=hz.2 _ (List.getElem_mem h)
   have hrf:=hr _ (List.getElem_mem h)
   have hsv:=h12.s _ (List.getElem_mem h)
   have hs:=zbh h
   refine .c (KY k[j].items (by omega)) ?_
   refine .i ?_ ?_<;>intro h2<;>(try simp only [nrm_l] at h2)<;>first | refine pw ?_ | exact pd
   ·rw [zem (by omega)] at hs
    have e:xm k (j+1)=xm k j:=hs
    exact⟨j+1,h,by omega,⟨by rw [e],rfl⟩,by rw [e],by rw [e],by rw [e]⟩
   ·rw [zbR h2] at hs
    refine pLoop.go (fun i=>i<=k[j].vec.length) (fun i=>[(7,.v (.bool (kt (xm k j) (qA k[j].items).lo k[j].vec i).isSome)),(41,.v (.int .i64 (i:Nat)))]) (fun i=>[trc (0,0,0),trc ((kt (xm k j) (qA k[j].items).lo k[j].vec i).getD (0,0,0)),fc k[j]]) (fun i=>k[j].vec.length - i) 0 [7,41] ?_ ?_ ?_
    ·exact Nat.zero_le _
    ·simp only [zbg]
     exact pd
    ·rintro i hi
     refine pw ?_
     refine .i ?_ ?_<;>intro h3<;>(try simp only [nrm_l] at h3)<;>first | refine pw ?_ | exact pd
     ·have hre:=hrf.2.1 _ (List.getElem_mem h3)
      have hhl:=hsv.2.2 _ (List.getElem_mem h3)
      have hkl:=kW k[j].vec[i]
      have hI:=zbf (o:=xm k j) (x:=(qA k[j].items).lo) h3
      refine .c (XZ k[j].vec[i] hre (by omega)) ?_
      refine .c (KY (kn k[j].vec[i]) (by omega)) ?_
      refine .i ?_ ?_<;>intro h4<;>(try simp only [nrm_l] at h4)<;>first | refine pw ?_ | exact pd
      ·rw [zbQ h4] at hI
       cases ho:kt (xm k j) (qA k[j].items).lo k[j].vec i with
       | none=>
         simp only [ho,Option.isSome_none,Option.getD_none]
         rw [ho] at hI
         refine pw ?_
         have e:kt (xm k j) (qA k[j].items).lo k[j].vec (i+1)=some ((qA k[j].items).lo,k[j].vec[i].rep,(qA (kn k[j].vec[i])).lo):=hI
         exact⟨i+1,h3,by omega,⟨by rw [e];rfl,rfl⟩,by rw [e];rfl,by rw [e];rfl,by rw [e];rfl⟩
       | some u=>
         simp only [ho,Option.isSome_some,Option.getD_some]
         rw [ho] at hI
         refine pw ?_
         refine .c (zi6 ((qA k[j].items).lo,k[j].vec[i].rep,(qA (kn k[j].vec[i])).lo) u) ?_
         refine .i ?_ ?_<;>intro h5<;>(try simp only [nrm_l] at h5)<;>first | refine pw ?_ | exact pd
         ·have e:kt (xm k j) (qA k[j].items).lo k[j].vec (i+1)=some ((qA k[j].items).lo,k[j].vec[i].rep,(qA (kn k[j].vec[i])).lo):=by rw [hI];simp only [List.foldl_cons,List.foldl_nil,Vq,if_pos h5]
          exact⟨i+1,h3,by omega,⟨by rw [e];rfl,rfl⟩,by rw [e];rfl,by rw [e];rfl,by rw [e];rfl⟩
         ·have e:kt (xm k j) (qA k[j].items).lo k[j].vec (i+1)=some u:=by rw [hI];simp only [List.foldl_cons,List.foldl_nil,Vq];rw [if_neg (by omega)]
          exact⟨i+1,h3,by omega,⟨by rw [e];rfl,rfl⟩,by rw [e];rfl,by rw [e];rfl,by rw [e];rfl⟩
      ·rw [zel (by omega)] at hI
       have e:kt (xm k j) (qA k[j].items).lo k[j].vec (i+1)=kt (xm k j) (qA k[j].items).lo k[j].vec i:=hI
       exact⟨i+1,h3,by omega,⟨by rw [e],rfl⟩,by rw [e],by rw [e],by rw [e]⟩
     ·have e:xm k (j+1)=kt (xm k j) (qA k[j].items).lo k[j].vec i:=by
       rw [hs];unfold kt;rw [List.take_of_length_le (by omega)]
      exact⟨j+1,h,by omega,⟨by rw [e],rfl⟩,by rw [e],by rw [e],by rw [e]⟩
  ·have e:xm k j=kY k:=by unfold xm kY;rw [List.take_of_length_le (by omega)]
   rw [e]
theorem zgR {f:Bool->Bool->Bool} {C:Nat->List Nat} {R:List Nat} {n:Nat} {a b:List Fg} (hf:f false false=false) (ha:Kn C R n a) (hb:Kn C R n b) (ok:OkX C R) (hn:n<=40000):Ok12 C R (vh f a b):=(ha.do hf hb ok).ok12 ok (by omega)
end Go.Proofs.YtonhfknjcbakiaaGreatDoor
namespace Go.Proofs.YtonhfknjcbakiaaGreatDoor
open Go.RowKit
attribute [-go_sem] z7 zae zaf Vr
theorem zeG (x y:Nat) (h:x+y<=80000) (w:World):(binOp .add 3 (.int .i64 (x:Nat)) (.int .i64 (y:Nat))).run Tryz.prog w=.ok (.int .i64 ((x+y:Nat):Int)) w:=by
 go_simp
 rw [IntKind.wrap_i64]
 omega
theorem Vk {B:Nat->List Nat} {R:List Nat} {n:Nat} (f:Bool->Bool->Bool) (hf:f false false=false) (op:FuncId) (a b:List Fg) (ha:Kn B R n a) (hb:Kn B R n b) (ok:OkX B R) (hn:n<=40000)
 (hop:∀ x,Cn Tryz.prog op [vp (qc a x),vp (qc b x)] (vp (ks f (qc a x) (qc b x)))):Cn Tryz.prog 70 [kp a,kp b,.fn (.func op) [] []] (.tup [kp (vh f a b),.v .nilIface]):=by
 refine yZ rfl (enters_of Tryz.func70 (by kernel_rfl) rfl) fun D w vs hG hD hsz hd=>?_
 have d0:Dat D w (vs.getD 0 undef) (kp a):=hd 0 _ rfl
 have d1:Dat D w (vs.getD 1 undef) (kp b):=hd 1 _ rfl
 have d2:Dat D w (vs.getD 2 undef) (.fn (.func op) [] []):=hd 2 _ rfl
 obtain⟨v0,hv0⟩:∃ v0,v0=vs.getD 0 undef:=⟨_,rfl⟩
 obtain⟨v1,hv1⟩:∃ v1,v1=vs.getD 1 undef:=⟨_,rfl⟩
 rw [<-hv0] at d0
 rw [<-hv1] at d1
 have e2:vs.getD 2 undef=.func (.func op) #[] #[]:=by
  generalize vs.getD 2 undef=x at d2
  cases d2 with
  | fn f va vb fs cs h1 h2 h3 h4=>
    obtain rfl:va=#[]:=Array.eq_empty_of_size_eq_zero (by simpa using h1)
    obtain rfl:vb=#[]:=Array.eq_empty_of_size_eq_zero (by simpa using h2)
    rfl
 obtain rfl:vs=#[v0,v1,.func (.func op) #[] #[]]:=by
  obtain⟨l⟩:=vs
  match l,hsz with
  | [p,q,s],_=>
    simp at hv0 hv1 e2
    rw [hv0,hv1,e2]
 clear d2 e2 hv0 hv1 hsz hd
 obtain⟨aa,ca,fa,rfl,hla,rowa,da⟩:=kX d0 hD
 obtain⟨ab,cb,fb,rfl,hlb,rowb,db⟩:=kX d1 hD
 have hal:=ha.l
 have hbl:=hb.l
 have hca:=rowa.1
 have hcb:=rowb.1
 have hcam:=rowa.2.1
 have hcbm:=rowb.2.1
 unfold maxLen at hcam hcbm
 rw [hla] at hca
 rw [hlb] at hcb
 have HCA:=Lib.hid (fun W (hW:Below w.heap.size w W)=>KH ha.r (ha.z (by omega)) d0 hD hG hW)
 have HCB:=Lib.hid (fun W (hW:Below w.heap.size w W)=>KH hb.r (hb.z (by omega)) d1 hD hG hW)
 have HFA:=Lib.hid (fun W (hW:Below w.heap.size w W)=>Zn (W:=W) rowa fun b o x h hx=>(World.cell?_of_block (a:=⟨b,o,none⟩) (hW.block b h)).trans hx)
 have HFB:=Lib.hid (fun W (hW:Below w.heap.size w W)=>Zn (W:=W) rowb fun b o x h hx=>(World.cell?_of_block (a:=⟨b,o,none⟩) (hW.block b h)).trans hx)
 have HD0:=Lib.hid d0
 have HD1:=Lib.hid d1
 have HDA:=Lib.hid da
 have HDB:=Lib.hid db
 have HGG:=Lib.hid hG
 have HDD:=Lib.hid hD
 have HA:=Lib.hid ha
 have HB:=Lib.hid hb
 have HLA:=Lib.hid hla
 have HLB:=Lib.hid hlb
 have HOP:=Lib.hid hop
 obtain⟨i0,hi0,hz0,hz1,hz2⟩:=info_parts Z9
 have hla2:=jf fa
 have hlb2:=jf fb
 rw [hla] at hla2
 rw [hlb] at hlb2
 clear d0 d1 da db rowa rowb hG hD ha hb
 have hadd:=zeG a.length b.length (by omega)
 have HI:=Lib.hid (And.intro hi0 (And.intro hz0 (And.intro hz1 hz2)))
 have HL2:=Lib.hid (And.intro hla2 hlb2)
 clear hi0 hz0 hz1 hz2 hla2 hlb2 hop
 have tokA:True:=trivial
 have tokB:True:=trivial
 have tokC:True:=trivial
 have tokD:True:=trivial
 have tokE:True:=trivial
 go_enter_defers Tryz.func70,Tryz.ntmps70
 go_upto_region 6 with(first
  | (go_at_call 54;have _t:=tokA;refine(HCA.out _ ((Below.refl _ _).alloc (Nat.le_refl _) _)).mono ?_;rintro e w1 ⟨rfl,hb1⟩
     have hx1:Boxed w1 w.heap.size 44 .nilIface:=(hb1.block _ (by simp)).trans (World.alloc_heap_new w _)
     have HX1:=Lib.hid hx1
     have HB1:=Lib.hid (((Below.refl _ w).alloc (Nat.le_refl _) _).trans (hb1.mono (by simp)))
     have hs1:=hx1.lt
     clear hb1 hx1 tokA)
  | (go_at_call 78;refine(zdp _ _).mono ?_;rintro e w' ⟨⟨u,rfl⟩,rfl⟩)
  | (go_at_call 54;have _t:=tokB;refine(HCB.out _ HB1.out).mono ?_;rintro e w2 ⟨rfl,hb2⟩
     have hx2:Boxed w2 w.heap.size 44 .nilIface:=(hb2.block _ HX1.out.lt).trans HX1.out
     have HX2:=Lib.hid hx2
     have HB2:=Lib.hid (HB1.out.trans (hb2.mono HB1.out.size))
     have hs2:=hx2.lt
     clear hb2 hx2 tokB)
  | (at_make;have _t:=tokC;refine wpList_make_own _ rfl _ _ 23 rfl (w.heap.size+1) 34 i0 _ 2 Tryz.underlying23 HI.out.1 HI.out.2.1 HI.out.2.2.1 .i64 .i64 _ (a.length+b.length) rfl rfl (by simp) (by rw [HI.out.2.2.2];omega) (by unfold maxLen;omega) (by omega) ?_
     intro w3 ho3 hg3
     have HO3:=Lib.hid ho3
     have HB3:=Lib.hid (HB2.out.grown hg3 HB2.out.size fun j hj=>by cases hj)
     have HX3:=Lib.hid (HX2.out.kept hg3 (by simp))
     clear ho3 hg3 tokC
     dsimp only [Act.put])
  | (at_builtin;have _t:=tokD;refine Jb _ _ 23 rfl rfl Tryz.underlying23 (w.heap.size+1) _ 0 [] rfl HO3.out _ a.length ca (qB fa) rfl HL2.out.1 (by rcases HFA.out _ HB3.out with h | h;exact .inl ⟨by have:=h.1;omega,h.2⟩;exact .inr h) (jg fa) (by omega) (by have:=HO3.out.lt;have:=HB3.out.size;have:=HX3.out.lt;omega) ?_
     intro v4 w4 ho4 hg4 hv4
     have HO4:=Lib.hid ho4
     have HB4:=Lib.hid (HB3.out.grown hg4 HB3.out.size fun j hj=>by have:=(HO3.out.lt j hj).1;omega)
     have HX4:=Lib.hid (HX3.out.kept hg4 fun e=>by have:=(HO3.out.lt _ e.symm).1;omega)
     clear ho4 hg4 hv4 tokD
     dsimp only [Act.put])
  | (at_builtin;have _t:=tokE;refine Jb _ _ 23 rfl rfl Tryz.underlying23 (w.heap.size+1) _ (0+a.length) ([]++qB fa) rfl HO4.out _ b.length cb (qB fb) rfl HL2.out.2 (by rcases HFB.out _ HB4.out with h | h;exact .inl ⟨by have:=h.1;omega,h.2⟩;exact .inr h) (jg fb) (by omega) (by have:=HX4.out.lt;omega) ?_
     intro v5 w5 ho5 hg5 hv5
     have HO5:=Lib.hid ho5
     have HB5:=Lib.hid (HB4.out.grown hg5 HB4.out.size fun j hj=>by have:=(HO4.out.lt j hj).1;omega)
     have HX5:=Lib.hid (HX4.out.kept hg5 fun e=>by have:=(HO4.out.lt _ e.symm).1;omega)
     clear ho5 hg5 hv5 tokE
     dsimp only [Act.put])
  | go_in)
 have hog:=OutG.two (C:=D) (mb:=w.heap.size) (base:=w.heap.size+1) (a:=a) (b:=b) HLA.out HLB.out HO5.out HDD.out HB5.out (by omega) HDA.out HDB.out
 have hdab:=hog.dat (by omega)
 have hs5:=HX5.out.lt
 have hcell:∀ b o x,D b o->w.cell? ⟨b,o,none⟩=some x->w5.cell? ⟨b,o,none⟩=some x:=fun b o x h hx=>(World.cell?_of_block (a:=⟨b,o,none⟩) (HB5.out.block b (HDD.out b o h))).trans hx
 have hB5:=HB5.out
 have hnext:=‹∀(a:Act) (w:World),Code.wp _ _ _ a w->_›
 apply wp_region_lit
 unfold wpList
 rw [if_pos (by simp [Region.wanted])]
 refine .inl ?_
 unfold Oper.wp execOp
 simp only [Sem.run_pure]
 refine hnext _ _ ?_
 refine wp_mono (zih (nt:=Tryz.f70.ntmps) (D:=DL D w.heap.size w5) (by kernel_rfl) HGG.out _ ⟨hB5.os,hB5.tape,hB5.output,hB5.size,fun k hk _=>hB5.block k hk,fun b o h=>.inl h,hcell,fun b o h=>h.imp id fun h=>.inl (Nat.le_of_lt h.1),HDD.out⟩ (fun b o h=>h.elim (fun h=>by have:=HDD.out b o h;omega) And.right) (Nat.le_refl _) HX5.out (.v _) rfl (fun o h=>h.elim (fun h=>by have:=HDD.out _ o h;omega) fun h=>by omega) rfl [(0,kp a),(1,kp b),(2,.fn (.func op) [] []),(7,.bx 0 0),(8,kp (a++b)),(9,.sl [] .z)] (fun t=>?_) (fun t=>?_) rfl (Q:=jG [.t 6,.c 7 false 1] (.tup [kp (vh f a b),.v .nilIface])) ?_) ?_
 ·rcases t with _ | _ | _ | _ | _ | _ | _ | _ | _ | _ | t
  ·exact .inr (HD0.out.mono (fun _ _ h=>.inl h) hcell)
  ·exact .inr (HD1.out.mono (fun _ _ h=>.inl h) hcell)
  ·exact .inr (.fn _ #[] #[] [] [] rfl rfl (fun _ _ h=>by simp at h) (fun _ _ h=>by simp at h))
  ·exact .inr (.und _)
  ·exact .inr (.und _)
  ·exact .inr (.und _)
  ·exact .inr (.und _)
  ·exact .inl ⟨rfl,rfl⟩
  ·exact .inr hdab
  ·exact .inr (.sl none 0 0 [] .z 0 0 (fun _=>undef) (Nat.le_refl _) (fun _=>rfl) (Nat.zero_le _) (by simp) (fun i e h=>by simp at h) (fun j h=>by simp at h) (fun i e j p h=>by simp at h))
  ·exact .inr (.und _)
 ·rcases t with _ | _ | _ | _ | _ | _ | _ | _ | _ | _ | t<;>rfl
 ·exact zjO f hf op a b HA.out HB.out ok hn HOP.out
 ·intro e a1 w1 hQ
  obtain⟨he,hdf,v,D',hrun,hfr,hDlt,hdat⟩:=zfM (P:=Tryz.prog) (fn:=Tryz.f70) (by kernel_rfl) hQ
  have hbel:Below w.heap.size w w1:=⟨hfr.os,hfr.tape,hfr.output,hfr.size,fun k hk=>hfr.block k hk fun h=>h⟩
  have hfin:Dat (fun b o=>D b o\/(w.heap.size<=b/\b<w1.heap.size)) w1 v (.tup [kp (vh f a b),.v .nilIface]):=hdat.mono (fun b o h=>by
   rcases hfr.new b o h with h1 | h1 | h1
   ·exact .inl h1
   ·exact .inr ⟨h1,hDlt b o h⟩
   ·exact h1.elim) (fun _ _ _ _ h=>h)
  obtain⟨tm,df⟩:=a1
  simp only [Act.put] at hdf
  subst hdf
  have hend:Leaves Tryz.prog Tryz.f70 tm (fun e w'=>∃ v,e=.returned v/\Below w.heap.size w w'/\Dat (fun b o=>D b o\/(w.heap.size<=b/\b<w'.heap.size)) w' v (.tup [kp (vh f a b),.v .nilIface])) [{ target:=.fn (.func 77) #[],args:=#[.pointer (some ⟨w.heap.size,0,none⟩)] }] .returning w1:=by
   refine leaves_cons (f := 77) (args:=#[.pointer (some ⟨w.heap.size,0,none⟩)]) (by simp) (by simp [go_sem]) ?_
   refine(JI ⟨w.heap.size,0,none⟩ _).mono ?_
   rintro e u' w'' ⟨rfl,rfl,rfl⟩
   exact⟨v,hrun,v,rfl,hbel,hfin⟩
  rcases he with rfl | rfl<;>exact hend
end Go.Proofs.YtonhfknjcbakiaaGreatDoor
namespace Go.Proofs.YtonhfknjcbakiaaGreatDoor
open Go.RowKit
theorem zkw (a b:List En) (ha:SmV a) (hb:SmV b):Cn Tryz.prog 72 [vp a,vp b] (vp (ks y5 a b)):=by
 refine zt Tryz.func72 2 ?_
 refine pw ?_
 exact .d (zfC a b ha hb)
theorem zkv (a b:List En) (ha:SmV a) (hb:SmV b):Cn Tryz.prog 81 [vp a,vp b] (vp (ks zm a b)):=by
 refine zt Tryz.func81 2 ?_
 refine pw ?_
 exact .d (zdb a b ha hb)
theorem JP {C:Nat->List Nat} {R:List Nat} {n:Nat} (a b:List Fg) (ha:Kn C R n a) (hb:Kn C R n b) (ok:OkX C R) (hn:n<=40000):Cn Tryz.prog 23 [kp a,kp b] (.tup [kp (vh y5 a b),.v .nilIface]):=by
 refine zt Tryz.func23 2 ?_
 refine pw ?_
 exact .d (Vk y5 rfl 72 a b ha hb ok hn (fun x=>zkw _ _ (ha.at ok x) (hb.at ok x)))
theorem vD {C:Nat->List Nat} {R:List Nat} {n:Nat} (a b:List Fg) (ha:Kn C R n a) (hb:Kn C R n b) (ok:OkX C R) (hn:n<=40000):Cn Tryz.prog 28 [kp a,kp b] (.tup [kp (vh zm a b),.v .nilIface]):=by
 refine zt Tryz.func28 2 ?_
 refine pw ?_
 exact .d (Vk zm rfl 81 a b ha hb ok hn (fun x=>zkv _ _ (ha.at ok x) (hb.at ok x)))
theorem Zw {C:Nat->List Nat} {R:List Nat} {n:Nat} (a b:List Fg) (ha:Kn C R n a) (hb:Kn C R n b) (ok:OkX C R) (hn:n<=40000):Cn Tryz.prog 41 [kp a,kp b] (.tup [.v (.bool (decide (vh zm a b=[]))),.v .nilIface]):=by
 refine zt Tryz.func41 2 ?_
 refine pw ?_
 exact .d (vD a b ha hb ok hn)
theorem jE {C:Nat->List Nat} {R:List Nat} {n:Nat} (a b:List Fg) (ha:Kn C R n a) (hb:Kn C R n b) (ok:OkX C R) (hn:n<=40000):Cn Tryz.prog 48 [kp a,kp b] (.tup [.v (.bool (decide (vh y5 a b=[]))),.v .nilIface]):=by
 refine zt Tryz.func48 2 ?_
 refine pw ?_
 exact .d (JP a b ha hb ok hn)
theorem Zv {C:Nat->List Nat} {R:List Nat} {n:Nat} (a b:List Fg) (ha:Kn C R n a) (hb:Kn C R n b) (ok:OkX C R) (hn:n<=40000):Cn Tryz.prog 49 [kp a,kp b] (.tup [.v (.int .i64 (zbC a b:Nat)),.v .nilIface]):=by
 unfold zbC
 refine zt Tryz.func49 2 ?_
 refine pw ?_
 refine .c (vD a b ha hb ok hn) ?_
 refine .c (vD b a hb ha ok hn) ?_
 by_cases h1:vh zm a b=[]
 ·by_cases h2:vh zm b a=[]
  ·simp only [h1,h2,List.length_nil,if_true]
   exact pd
  ·have q2:decide (0<(vh zm b a).length)=true:=decide_eq_true (List.length_pos_iff.2 h2)
   simp only [h1,h2,List.length_nil,if_true,if_false]
   try simp (maxSteps:=2000000) (disch:=omega) only [go_sem,seval,q2]
   repeat ((with_reducible refine And.intro ?_ ?_);focus exact yI)
 ·have q1:decide (0<(vh zm a b).length)=true:=decide_eq_true (List.length_pos_iff.2 h1)
  by_cases h2:vh zm b a=[]
  ·simp only [h1,h2,List.length_nil,if_true,if_false]
   try simp (maxSteps:=2000000) (disch:=omega) only [go_sem,seval,q1]
   repeat ((with_reducible refine And.intro ?_ ?_);focus exact yI)
  ·have q2:decide (0<(vh zm b a).length)=true:=decide_eq_true (List.length_pos_iff.2 h2)
   simp only [h1,h2,if_false]
   try simp (maxSteps:=2000000) (disch:=omega) only [go_sem,seval,q1,q2]
   repeat ((with_reducible refine And.intro ?_ ?_);focus exact yI)
theorem zir {op:Nat} (h:op<3):Qj op false false=false:=by
 obtain rfl | rfl | rfl:op=0\/op=1\/op=2:=by omega
 all_goals rfl
theorem YG {C:Nat->List Nat} {R:List Nat} {n:Nat} (a b:List Fg) (op:Nat) (ho:op<3) (ha:Kn C R n a) (hb:Kn C R n b) (ok:OkX C R) (hn:n<=20000):Cn Tryz.prog 40 [kp a,kp b,.v (.int .i64 op)] (kp (vh (Qj op) a b)):=by
 have hab:=ha.app hb
 have h12:=hab.ok12 ok (by omega)
 have ha12:=ha.ok12 ok (by omega)
 have hb12:=hb.ok12 ok (by omega)
 have hpl:=xW (a++b)
 have h12t:=h12.t
 have hal:=ha.l
 have hbl:=hb.l
 have hpa:=ha.parts (zir ho) hb ok
 have hgr:=Kc (yy (Qj op) a b) hpa ok (by omega)
 refine zt Tryz.func40 3 ?_
 refine pw ?_
 rw [<-List.map_append]
 refine .c (VT (a++b) h12.r h12.z h12.l h12.t (Ya (a++b) h12.r h12.z h12.l h12.t h12.i)) ?_
 refine pLoop.go (fun j=>j<=(zu (a++b)).length) (fun j=>[(9,.sl (((zu (a++b)).take j).map (fun s=>fc (Zx (Qj op) a b s))) (.r 51 2)),(10,.v (.int .i64 (j:Nat)))]) (fun _=>[]) (fun j=>(zu (a++b)).length - j) 0 [6,7,9,10,12,13,14,15,16,17,18,19] ?_ ?_ ?_
 ·exact Nat.zero_le _
 ·exact pd
 ·rintro j hj
  refine pw ?_
  refine .i ?_ ?_<;>intro h<;>(try simp only [nrm_l] at h)<;>first | refine pw ?_ | exact pd
  ·have hst:=Qr (Qj op) a b h
   refine .c (VR a (zu (a++b))[j].lo ha12.ik ha12.ok ha12.r ha12.s ha12.z) ?_
   refine .c (VR b (zu (a++b))[j].lo hb12.ik hb12.ok hb12.r hb12.s hb12.z) ?_
   refine .c (zcC (qc a (zu (a++b))[j].lo) (qc b (zu (a++b))[j].lo) op ho (ha.at ok _) (hb.at ok _)) ?_
   exact⟨j+1,h,by omega,hst.symm,rfl⟩
  ·have hg2:Cn Tryz.prog 97 [.sl (((zu (a++b)).take j).map (fun s=>fc (Zx (Qj op) a b s))) .sh] (kp (vh (Qj op) a b)):=by rw [YC (Qj op) a b (by omega)];exact hgr
   (first | exact .d (hg2) | exact .q (hg2))
def Y1 (a b:List Fg):Bool:=vx a && vx b && decide ((ckK a).1=0) && decide ((ckK b).1=0)
theorem zbI (a b:List Fg) (ha:BdK a) (hb:BdK b):Cn Tryz.prog 47 [kp a,kp b] (.v (.bool (vx a && vx b))):=by
 refine zt Tryz.func47 2 ?_
 refine pw ?_
 refine .c (zc8 a ha) ?_
 refine .i ?_ ?_<;>intro h<;>(try simp only [nrm_l] at h)<;>first | refine pw ?_ | exact pd
 ·rw [h]
  exact .d (zc8 b hb)
 ·simp [h]
theorem XV (a b:List Fg) (ha:BdK a) (hb:BdK b):Cn Tryz.prog 29 [kp a,kp b] (.v (.bool (Y1 a b))):=by
 unfold Y1
 refine zt Tryz.func29 2 ?_
 refine pw ?_
 refine .c (zbI a b ha hb) ?_
 refine .i ?_ ?_<;>intro h<;>(try simp only [nrm_l] at h)<;>first | refine pw ?_ | exact pd
 ·refine .c (Vm a ha (zcS h.1)) ?_
  refine .i ?_ ?_<;>intro h2<;>(try simp only [nrm_l] at h2)<;>first | refine pw ?_ | exact pd
  ·refine .c (Vm b hb (zcS h.2)) ?_
   simp [h,h2]
  ·simp [h,h2]
 ·rcases h with h | h<;>simp [h]
structure Cr15 (a b:List Fg):Prop where
 ra:RightK a
 rb:RightK b
 ka:Kn (CKL [a,b]) (RKL [a,b]) 240 a
 kb:Kn (CKL [a,b]) (RKL [a,b]) 240 b
 ok:OkX (CKL [a,b]) (RKL [a,b])
theorem Jy {a b:List Fg} (ha:BdK a) (hb:BdK b) (h:Y1 a b=true):Cr15 a b:=by
 unfold Y1 at h
 simp only [Bool.and_eq_true,decide_eq_true_eq] at h
 obtain⟨⟨⟨h1,h2⟩,h3⟩,h4⟩:=h
 have ra:=(ZN ha).1 h3
 have rb:=(ZN hb).1 h4
 refine⟨ra,rb,Kn.all (by simp) h1 ra,Kn.all (by simp) h2 rb,zam (by simp) fun k hk=>?_⟩
 simp at hk
 rcases hk with rfl | rfl
 ·exact⟨h1,ra⟩
 ·exact⟨h2,rb⟩
def Jf:List Fg:=[⟨[⟨4,5⟩],[⟨1,5,[⟨0,2⟩]⟩]⟩]
theorem zgS:vx Jf=true:=by decide
theorem r15:RightK Jf:=by simp [Jf,RightK,ZS,RightV,zO,zw,Nrm,NF]
theorem znB:zO ⟨1,5,[⟨0,2⟩]⟩:=by simp [zO,zw,Nrm,NF]
theorem zky:kn ⟨1,5,[⟨0,2⟩]⟩=[⟨3,5⟩]:=Nrm.unique (qT znB) (by simp [Nrm,NF,zw]) fun x hx=>by
 unfold kn
 rw [qj (qG (by decide) (by rw [zw];decide)) (by simp [Nrm,NF,zw]) hx]
 simp only [zm,zz,mem,List.any_nil,Bool.or_false]
 rw [Bool.eq_iff_iff]
 simp
 omega
theorem zfD:kY Jf=some (4,1,3):=by simp [kY,Jf,V3,XE,zky,Vq]
theorem zkj:hasK Jf 4 1 3=true:=by
 rw [zfo r15]
 exact⟨_,by simp [Jf];rfl,by simp [mem],_,by simp;rfl,rfl,by rw [zky];simp [mem]⟩
theorem ziZ:vh zm [] Jf=[]:=(V0 (fun f h=>by cases h) r15).2 fun i r c _ _ h=>by cases h
theorem zeg:vh zm Jf []≠[]:=fun h=>by
 have:=(V0 r15 (fun f h=>by cases h)).1 h 4 1 3 (by rw [zw];decide) (by rw [zw];decide) zkj
 cases this
theorem zjN:vh y5 Jf []=[]:=(KP rfl r15 (fun f h=>by cases h)).2 fun i r c _ _=>by rw [zcY];simp [y5]
theorem ZZ:Cr15 Jf []:=⟨r15,fun f h=>(by cases h),Kn.all (by simp) zgS r15,Kn.all (by simp) (by decide) fun f h=>(by cases h),zam (by simp) fun k hk=>by
 simp at hk
 rcases hk with rfl | rfl
 ·exact⟨zgS,r15⟩
 ·exact⟨by decide,fun f h=>by cases h⟩⟩
theorem Yf:Cn Tryz.prog 30 [] (.v (.bool true)):=by
 have a1:=zfE Jf (ZZ.ka.ok12 ZZ.ok (by omega))
 have a2:=Zv [] Jf ZZ.kb ZZ.ka ZZ.ok (by omega)
 have a3:=Zw Jf [] ZZ.ka ZZ.kb ZZ.ok (by omega)
 have a4:=jE Jf [] ZZ.ka ZZ.kb ZZ.ok (by omega)
 rw [zfD] at a1
 rw [show zbC [] Jf=1 by unfold zbC;rw [if_pos ziZ,if_neg zeg]] at a2
 rw [decide_eq_false zeg] at a3
 rw [decide_eq_true zjN] at a4
 refine zt Tryz.func30 0 ?_
 refine pw ?_
 (first | refine .c (a1) ?_ | refine .o (a1) ?_)
 (first | refine .c (a2) ?_ | refine .o (a2) ?_)
 (first | refine .c (a3) ?_ | refine .o (a3) ?_)
 (first | exact .d (a4) | exact .q (a4))
theorem Kn.up {C:Nat->List Nat} {R:List Nat} {n m:Nat} {k:List Fg} (h:Kn C R n k) (hn:n<=m):Kn C R m k:=h.mono (fun _ _ h=>h) (fun _ h=>h) hn
theorem zjb {C:Nat->List Nat} {R:List Nat} {n:Nat} (a b:List Fg) (ha:Kn C R n a) (hb:Kn C R n b) (ok:OkX C R) (hn:n<=40000):Cn Tryz.prog 39 [kp a,kp b] (.tup [trp ((kY (vh zm a b)).getD (0,0,0)),.v (.bool (kY (vh zm a b)).isSome),.v .nilIface]):=by
 refine zt Tryz.func39 2 ?_
 refine pw ?_
 refine .c (vD a b ha hb ok hn) ?_
 exact .d (zfE (vh zm a b) (zgR (f:=zm) rfl ha hb ok hn))
theorem zjc {C:Nat->List Nat} {R:List Nat} (k:List Fg) (h12:Ok12 C R k):Cn Tryz.prog 32 [kp k] (.tup [trp ((kY k).getD (0,0,0)),.v (.bool (kY k).isSome)]):=by
 have hpl:=xW k
 have h12t:=h12.t
 refine zt Tryz.func32 1 ?_
 refine pw ?_
 refine .c (VT k h12.r h12.z h12.l h12.t (Ya k h12.r h12.z h12.l h12.t h12.i)) ?_
 refine pLoop.go (fun j=>j<=(zu k).length/\∀ i (h:i<(zu k).length),i<j->qc k (zu k)[i].lo=[]) (fun j=>[(5,.v (.int .i64 (j:Nat)))]) (fun _=>[trc (0,0,0)]) (fun j=>(zu k).length - j) 0 [5] ?_ ?_ ?_
 ·exact⟨Nat.zero_le _,fun i h hi=>absurd hi (Nat.not_lt_zero _)⟩
 ·exact pd
 ·rintro j ⟨hj,h0⟩
  refine pw ?_
  refine .i ?_ ?_<;>intro h<;>(try simp only [nrm_l] at h)<;>first | refine pw ?_ | exact pd
  ·have hw:=(h12.ik.at (zu k)[j].lo).1
   have hsm:=hw.smv h12.ok
   refine .c (VR k (zu k)[j].lo h12.ik h12.ok h12.r h12.s h12.z) ?_
   cases hv:qc k (zu k)[j].lo with
   | nil=>
     simp only [hv,List.map_nil,List.length_nil]
     refine pw ?_
     refine⟨j+1,⟨h,fun i hi hlt=>?_⟩,by omega,rfl⟩
     rcases Nat.lt_or_ge i j with h4 | h4
     ·exact h0 i hi h4
     ·obtain rfl:i=j:=by omega
      exact hv
   | cons e v=>
     rw [hv] at hw hsm
     have hce:YP e:=hw.can.1 e (by simp)
     have hhl:=hsm.2.2 e (by simp)
     obtain⟨s,l,hs⟩:=znA hce
     have hit:=zje h12.ik h12.r h h0 hv hs
     have hkn:=Vl e hce.1 (by omega)
     rw [hs] at hkn
     have hp:decide (0<v.length+1)=true:=decide_eq_true (Nat.succ_pos _)
     try simp (maxSteps:=2000000) (disch:=omega) only [go_sem,seval,hp]
     repeat ((with_reducible refine And.intro ?_ ?_);focus exact yI)
     (first | refine .c (hkn) ?_ | refine .o (hkn) ?_)
     rw [hit]
     rfl
  ·rw [zjd h12.ik h12.r fun i hi=>h0 i hi (by omega)]
   rfl
theorem zg3 (a b:List Fg) (ha:BdK a) (hb:BdK b):Cn Tryz.prog 8 [kp a,kp b] (.v (.bool true)):=by
 refine zt Tryz.func8 2 ?_
 refine pw ?_
 refine .c (XV a b ha hb) ?_
 refine .i ?_ ?_<;>intro h<;>(try simp only [nrm_l] at h)<;>first | refine pw ?_ | exact pd
 ·exact .d (Yf)
 ·have hc:=Jy ha hb h
  have hd:Cn Tryz.prog 40 [kp a,kp b,.v (.int .i64 2)] (kp (vh zm a b)):=YG a b 2 (by omega) hc.ka hc.kb hc.ok (by omega)
  have s1:=zjb a b hc.ka hc.kb hc.ok (by omega)
  have s2:=zjc (vh zm a b) (zgR (f:=zm) rfl hc.ka hc.kb hc.ok (by omega))
  have s3:=Zw a b hc.ka hc.kb hc.ok (by omega)
  have hdr:=(ze5 (f:=zm) hc.ra hc.rb).right
  have za:=hc.ka.z (by omega)
  have zb:=hc.kb.z (by omega)
  rcases zgH hdr with⟨e1,e2⟩ | ⟨t,e1,e2⟩
  ·rw [e1] at s1 s2
   simp only [Option.getD_none,Option.isSome_none] at s1 s2
   have hnil:vh zm a b=[]:=(KP rfl hc.ra hc.rb).2 fun i r c hi hx=>by rw [<-zcZ (f:=zm) rfl hc.ra hc.rb hi hx];exact e2 i r c
   rw [decide_eq_true hnil] at s3
   (first | refine .c (s1) ?_ | refine .o (s1) ?_)
   (first | refine .c (hd) ?_ | refine .o (hd) ?_)
   (first | refine .c (s2) ?_ | refine .o (s2) ?_)
   (first | refine .c (s3) ?_ | refine .o (s3) ?_)
   exact .d (Yf)
  ·rw [e1] at s1 s2
   simp only [Option.getD_some,Option.isSome_some] at s1 s2
   have hhas:=e2.has
   have hne:vh zm a b≠[]:=fun e=>by rw [e] at hhas;cases hhas
   rw [zcZ rfl hc.ra hc.rb e2.b1 e2.b2] at hhas
   have h1:hasK a t.1 t.2.1 t.2.2=true:=by cases hx:hasK a t.1 t.2.1 t.2.2<;>simp_all [zm]
   have h2:hasK b t.1 t.2.1 t.2.2=false:=by cases hx:hasK b t.1 t.2.1 t.2.2<;>simp_all [zm]
   rw [decide_eq_false hne] at s3
   have c1:=zid a t.1 t.2.1 t.2.2 hc.ra e2.b2 za
   have c2:=zid b t.1 t.2.1 t.2.2 hc.rb e2.b2 zb
   rw [h1] at c1
   rw [h2] at c2
   (first | refine .c (s1) ?_ | refine .o (s1) ?_)
   (first | refine .c (hd) ?_ | refine .o (hd) ?_)
   (first | refine .c (s2) ?_ | refine .o (s2) ?_)
   (first | refine .c (s3) ?_ | refine .o (s3) ?_)
   refine .c (Yf) ?_
   (first | refine .c (c1) ?_ | refine .o (c1) ?_)
   (first | exact .d (c2) | exact .q (c2))
end Go.Proofs.YtonhfknjcbakiaaGreatDoor
