import Derived.Test.YtonhfknjcbakiaaGreatDoorB45
import Derived.Test.YtonhfknjcbakiaaGreatDoorB46
set_option maxHeartbeats 16000000
set_option linter.unusedVariables false
set_option linter.unusedSimpArgs false
set_option maxRecDepth 100000
namespace Go.Proofs.YtonhfknjcbakiaaGreatDoor
open Go.RowKit
theorem zl3 (a b:List En) (ha:SmV a) (hb:SmV b):Cn Tryz.prog 71 [vp a,vp b] (vp (ks zn a b)):=by
 refine zt Tryz.func71 2 ?_
 refine pw ?_
 exact .d (zdc a b ha hb)
theorem zkw (a b:List En) (ha:SmV a) (hb:SmV b):Cn Tryz.prog 72 [vp a,vp b] (vp (ks y5 a b)):=by
 refine zt Tryz.func72 2 ?_
 refine pw ?_
 exact .d (zfC a b ha hb)
theorem zkv (a b:List En) (ha:SmV a) (hb:SmV b):Cn Tryz.prog 81 [vp a,vp b] (vp (ks zm a b)):=by
 refine zt Tryz.func81 2 ?_
 refine pw ?_
 exact .d (zdb a b ha hb)
theorem xv {C:Nat->List Nat} {R:List Nat} {n:Nat} (a b:List Fg) (ha:Kn C R n a) (hb:Kn C R n b) (ok:OkX C R) (hn:n<=40000):Cn Tryz.prog 22 [kp a,kp b] (.tup [kp (vh zn a b),.v .nilIface]):=by
 refine zt Tryz.func22 2 ?_
 refine pw ?_
 exact .d (Vk zn rfl 71 a b ha hb ok hn (fun x=>zl3 _ _ (ha.at ok x) (hb.at ok x)))
theorem JP {C:Nat->List Nat} {R:List Nat} {n:Nat} (a b:List Fg) (ha:Kn C R n a) (hb:Kn C R n b) (ok:OkX C R) (hn:n<=40000):Cn Tryz.prog 23 [kp a,kp b] (.tup [kp (vh y5 a b),.v .nilIface]):=by
 refine zt Tryz.func23 2 ?_
 refine pw ?_
 exact .d (Vk y5 rfl 72 a b ha hb ok hn (fun x=>zkw _ _ (ha.at ok x) (hb.at ok x)))
theorem vD {C:Nat->List Nat} {R:List Nat} {n:Nat} (a b:List Fg) (ha:Kn C R n a) (hb:Kn C R n b) (ok:OkX C R) (hn:n<=40000):Cn Tryz.prog 28 [kp a,kp b] (.tup [kp (vh zm a b),.v .nilIface]):=by
 refine zt Tryz.func28 2 ?_
 refine pw ?_
 exact .d (Vk zm rfl 81 a b ha hb ok hn (fun x=>zkv _ _ (ha.at ok x) (hb.at ok x)))
theorem Zw {C:Nat->List Nat} {R:List Nat} {n:Nat} (a b:List Fg) (ha:Kn C R n a) (hb:Kn C R n b) (ok:OkX C R) (hn:n<=40000):Cn Tryz.prog 41 [kp a,kp b] (.tup [.v (.bool (decide (vh zm a b=[]))),.v .nilIface]):=by
 refine zt Tryz.func41 2 ?_
 refine pw ?_
 exact .d (vD a b ha hb ok hn)
theorem jE {C:Nat->List Nat} {R:List Nat} {n:Nat} (a b:List Fg) (ha:Kn C R n a) (hb:Kn C R n b) (ok:OkX C R) (hn:n<=40000):Cn Tryz.prog 48 [kp a,kp b] (.tup [.v (.bool (decide (vh y5 a b=[]))),.v .nilIface]):=by
 refine zt Tryz.func48 2 ?_
 refine pw ?_
 exact .d (JP a b ha hb ok hn)
theorem Zv {C:Nat->List Nat} {R:List Nat} {n:Nat} (a b:List Fg) (ha:Kn C R n a) (hb:Kn C R n b) (ok:OkX C R) (hn:n<=40000):Cn Tryz.prog 49 [kp a,kp b] (.tup [.v (.int .i64 (zbC a b:Nat)),.v .nilIface]):=by
 unfold zbC
 refine zt Tryz.func49 2 ?_
 refine pw ?_
 refine .c (vD a b ha hb ok hn) ?_
 refine .c (vD b a hb ha ok hn) ?_
 by_cases h1:vh zm a b=[]
 ·by_cases h2:vh zm b a=[]
  ·simp only [h1,h2,List.length_nil,if_true]
   exact pd
  ·have q2:decide (0<(vh zm b a).length)=true:=decide_eq_true (List.length_pos_iff.2 h2)
   simp only [h1,h2,List.length_nil,if_true,if_false]
   try simp (maxSteps:=2000000) (disch:=omega) only [go_sem,seval,q2]
   repeat ((with_reducible refine And.intro ?_ ?_);focus exact yI)
 ·have q1:decide (0<(vh zm a b).length)=true:=decide_eq_true (List.length_pos_iff.2 h1)
  by_cases h2:vh zm b a=[]
  ·simp only [h1,h2,List.length_nil,if_true,if_false]
   try simp (maxSteps:=2000000) (disch:=omega) only [go_sem,seval,q1]
   repeat ((with_reducible refine And.intro ?_ ?_);focus exact yI)
  ·have q2:decide (0<(vh zm b a).length)=true:=decide_eq_true (List.length_pos_iff.2 h2)
   simp only [h1,h2,if_false]
   try simp (maxSteps:=2000000) (disch:=omega) only [go_sem,seval,q1,q2]
   repeat ((with_reducible refine And.intro ?_ ?_);focus exact yI)
theorem zds {C:Nat->List Nat} {R:List Nat} {n:Nat} (k:List Fg) (h:Kn C R n k) (ok:OkX C R) (hn:n<=40000):Cn Tryz.prog 24 [kp k] (kp (zbx k)):=by
 show Cn Tryz.prog 24 [kp k] (kp (zL (jq k)))
 refine zt Tryz.func24 1 ?_
 refine pw ?_
 refine .c (ziJ k (h.ok12 ok (by omega))) ?_
 exact .d (zfn (jq k) (h.refine ok) ok (by omega))
theorem zbI (a b:List Fg) (ha:BdK a) (hb:BdK b):Cn Tryz.prog 47 [kp a,kp b] (.v (.bool (vx a && vx b))):=by
 refine zt Tryz.func47 2 ?_
 refine pw ?_
 refine .c (zc8 a ha) ?_
 refine .i ?_ ?_<;>intro h<;>(try simp only [nrm_l] at h)<;>first | refine pw ?_ | exact pd
 ·rw [h]
  exact .d (zc8 b hb)
 ·simp [h]
structure Cr15 (a b:List Fg):Prop where
 ra:RightK a
 rb:RightK b
 ka:Kn (CKL [a,b]) (RKL [a,b]) 240 a
 kb:Kn (CKL [a,b]) (RKL [a,b]) 240 b
 ok:OkX (CKL [a,b]) (RKL [a,b])
end Go.Proofs.YtonhfknjcbakiaaGreatDoor
namespace Go.Proofs.YtonhfknjcbakiaaGreatDoor
open Go.RowKit
attribute [-go_sem] z7 zae zaf Vr
theorem zqr {C:Nat->Nat->Prop} {w0 w:World} {l:List Iv} {v:Value} (hn:Nrm l) (hl:l.length<=1152921504606846976) (hd:Dat C w0 v (rg l)) (hC:∀ b o,C b o->b<w0.heap.size) (hG:GL C w0) (hb:Below w0.heap.size w0 w) :
 Calls Tryz.prog 79 #[v] w fun e w'=>e=.returned .nilIface/\Below w.heap.size w w':=by
 have hw:∀ b o x,C b o->w0.cell? ⟨b,o,none⟩=some x->w.cell? ⟨b,o,none⟩=some x:=fun b o x h hx=>(World.cell?_of_block (a:=⟨b,o,none⟩) (hb.block b (hC b o h))).trans hx
 refine(jP (D:=C) (zpJ l hn hl) (hG.mono (fun _ _ h=>h) hw) (fun b o h=>Nat.lt_of_lt_of_le (hC b o h) hb.size) rfl (fun i p hp=>?_)).mono ?_
 ·match i,hp with
  | 0,hp=>cases hp;exact hd.mono (fun _ _ h=>h) hw
  | i+1,hp=>simp at hp
 ·rintro e w' ⟨u,rfl,hb',hd'⟩
  have e:=(Rel.dat (ρ:=fun _=>0) (nb:=0) hd').v_inv
  rw [e]
  exact⟨rfl,hb'⟩
theorem zoa {B:Nat->List Nat} {R:List Nat} {n m:Nat} (k:List Fg) (items:List Iv) (hk:Kn B R n k) (hi:Nrm items) (hil:items.length<=400000) (hp:Kn B R m (zl5 k items)) (ok:OkX B R) (hn:n<=400000) (hm:m<=40000):Cn Tryz.prog 27 [kp k,rg items] (.tup [kp (znF k items),.v .nilIface]):=by
 refine yZ rfl (enters_of Tryz.func27 (by kernel_rfl) rfl) fun D w vs hG hD hsz hd=>?_
 have d0:Dat D w (vs.getD 0 undef) (kp k):=hd 0 _ rfl
 have d1:Dat D w (vs.getD 1 undef) (rg items):=hd 1 _ rfl
 obtain⟨v0,hv0⟩:∃ v0,v0=vs.getD 0 undef:=⟨_,rfl⟩
 obtain⟨v1,hv1⟩:∃ v1,v1=vs.getD 1 undef:=⟨_,rfl⟩
 rw [<-hv0] at d0
 rw [<-hv1] at d1
 obtain rfl:vs=#[v0,v1]:=by
  obtain⟨l⟩:=vs
  match l,hsz with
  | [p,q],_=>
    simp at hv0 hv1
    rw [hv0,hv1]
 clear hv0 hv1 hsz hd
 obtain⟨aa,ca,fs,rfl,hla,hrow,hfs⟩:=kX d0 hD
 obtain⟨ai,ci,rfl⟩:=zK d1
 have hkl:=hk.l
 have hca:=hrow.1
 have hcam:=hrow.2.1
 unfold maxLen at hcam
 rw [hla] at hca
 have HCA:=Lib.hid (fun W (hW:Below w.heap.size w W)=>KH hk.r (hk.z (by omega)) d0 hD hG hW)
 have HCB:=Lib.hid (fun W (hW:Below w.heap.size w W)=>zqr hi (by omega) d1 hD hG hW)
 have HROW:=Lib.hid hrow
 have HFS:=Lib.hid hfs
 have HDI:=Lib.hid d1
 have HGG:=Lib.hid hG
 have HDD:=Lib.hid hD
 have HK:=Lib.hid hk
 have HP:=Lib.hid hp
 have HNI:=Lib.hid hi
 obtain⟨i0,hi0,hz0,hz1,hz2⟩:=info_parts Z9
 have HI:=Lib.hid (And.intro hi0 (And.intro hz0 (And.intro hz1 hz2)))
 clear d0 d1 hrow hfs hG hD hk hi hp hi0 hz0 hz1 hz2
 have tokA:True:=trivial
 have tokB:True:=trivial
 have tokC:True:=trivial
 have mixed:Tryz.prog.follows .mixedOrders=true:=by kernel_rfl
 go_enter_defers Tryz.func27,Tryz.ntmps27
 go_wp2_with (first
  | (go_at_call 54;have _t:=tokA;refine(HCA.out _ ((Below.refl _ _).alloc (Nat.le_refl _) _)).mono ?_;rintro e w1 ⟨rfl,hb1⟩
     have hx1:Boxed w1 w.heap.size 44 .nilIface:=(hb1.block _ (by simp)).trans (World.alloc_heap_new w _)
     have HX1:=Lib.hid hx1
     have HB1:=Lib.hid (((Below.refl _ w).alloc (Nat.le_refl _) _).trans (hb1.mono (by simp)))
     have hs1:=hx1.lt
     clear hb1 hx1 tokA)
  | (go_at_call 78;refine(zdp _ _).mono ?_;rintro e w' ⟨⟨u,rfl⟩,rfl⟩)
  | (go_at_call 79;have _t:=tokB;refine(HCB.out _ HB1.out).mono ?_;rintro e w2 ⟨rfl,hb2⟩
     have hx2:Boxed w2 w.heap.size 44 .nilIface:=(hb2.block _ HX1.out.lt).trans HX1.out
     have HX2:=Lib.hid hx2
     have HB2:=Lib.hid (HB1.out.trans (hb2.mono HB1.out.size))
     have hs2:=hx2.lt
     clear hb2 hx2 tokB)
  | (at_make;have _t:=tokC;refine wpList_make_full _ rfl _ _ 23 rfl (w.heap.size+1) 34 i0 _ 2 Tryz.underlying23 HI.out.1 HI.out.2.1 HI.out.2.2.1 .i64 .i64 _ _ k.length rfl rfl rfl rfl (by rw [HI.out.2.2.2];omega) (by unfold maxLen;omega) (by omega) ?_;intro w3 ho3 hg3;rw [show (Value.agg #[.slice none 0 0,.slice none 0 0]).cells=#[.slice none 0 0,.slice none 0 0] from rfl,zqB] at ho3;have HO3:=Lib.hid (OutG.zeros (C:=D) (mb:=w.heap.size) ho3);have HB3:=Lib.hid (HB2.out.grown hg3 HB2.out.size fun j hj=>by cases hj);have HX3:=Lib.hid (HX2.out.kept hg3 (by simp));have hs3:=HX3.out.lt;clear ho3 hg3 tokC;dsimp only [Act.put])
  | go_in)
 have hgw:=hs2
 generalize w'.heap.size=gb at HO3 hgw ⊢
 go_loopg [20] k.length (fun g x wr=>∃ j,j<=k.length/\g=k.length - j/\x=.int .i64 j/\Boxed wr w.heap.size 44 .nilIface/\OutG D w.heap.size (w.heap.size+1) wr (.slice (some ⟨gb,0,none⟩) k.length k.length) (zoL k items j)/\Below w.heap.size w wr)
 case atStart=>exact⟨0,Nat.zero_le _,rfl,rfl,HX3.out,by rw [zp6];exact HO3.out,HB3.out⟩
 case round=>
  obtain⟨j,hj,rfl,rfl,hbx,hout,hbr⟩:=hrel
  have HBX:=Lib.hid hbx
  have HOUT:=Lib.hid hout
  have HBR:=Lib.hid hbr
  have hrw:=hbx.lt
  clear hbx hout hbr HO3 HX3 HB3 HX2 HX1 HB1 HB2 hs3 hs2 hs1
  by_cases hlt:j<k.length
  ·have hltf:j<fs.length:=by omega
   obtain⟨bb,off,rfl,hbn,hcel⟩:=HROW.out.2.2 (by intro e;subst e;simp at hltf)
   obtain⟨c0,c1⟩:=hcel j hltf
   obtain⟨d0,d1⟩:=HFS.out j hltf
   replace c0:=(HBR.out.cell (p:=⟨bb,off+j * 2,none⟩) hbn).trans c0
   replace c1:=(HBR.out.cell (p:=⟨bb,off+j * 2+1,none⟩) hbn).trans c1
   have hfm:=List.getElem_mem hlt
   have hfr:=HK.out.r _ hfm
   have hfl:k[j].items.length<=400000:=by have:=yv hfm;have:=HK.out.m;omega
   have HSU:=Lib.hid (zp5 (items:=items) hlt)
   generalize k[j]=f at *
   generalize fs[j]=q at *
   obtain⟨af,cf,e0⟩:=zK d0
   obtain⟨av,cv,e1⟩:=xL d1
   rw [e0] at c0 d0
   rw [e1] at c1 d1
   have hov:=HOUT.out.owns
   have hgb:gb<wr.heap.size:=by
    cases hk0:k.length with
    | zero=>omega
    | succ c=>exact(hov gb (by rw [hk0];rfl)).2
   obtain⟨wb,hwb⟩:∃ wb,wb=wr.alloc (.cells #[.slice af f.items.length cf,.slice av f.vec.length cv] 34):=⟨_,rfl⟩
   have hxb:wb.heap[wr.heap.size]? = some (.cells #[.slice af f.items.length cf,.slice av f.vec.length cv] 34 (0,0)):=by rw [hwb];exact World.alloc_heap_new wr _
   have hbb:Below wr.heap.size wr wb:=by rw [hwb];exact(Below.refl _ wr).alloc (Nat.le_refl _) _
   have hsb:wb.heap.size=wr.heap.size+1:=by rw [hwb];simp
   have hmt:∀ W,Below wb.heap.size wb W->Calls Tryz.prog 80 #[.slice af f.items.length cf,.slice ai items.length ci] W fun e w'=>∃ au cu,e=.returned (.slice au (qy y5 f.items items).length cu)/\Below W.heap.size W w'/\Dat (DX D w.heap.size w' (.slice (some ⟨gb,0,none⟩) k.length k.length)) w' (.slice au (qy y5 f.items items).length cu) (rg (qy y5 f.items items)):=fun W hW=>by
    have hBW:Below w.heap.size w W:=HBR.out.trans ((hbb.mono (by omega)).trans (hW.mono (by omega)))
    have hw:∀ b o x,D b o->w.cell? ⟨b,o,none⟩=some x->W.cell? ⟨b,o,none⟩=some x:=fun b o x h hx=>(World.cell?_of_block (a:=⟨b,o,none⟩) (hBW.block b (HDD.out b o h))).trans hx
    refine(jP (D:=D) (zif f.items items hfr.1 HNI.out (by omega)) (HGG.out.mono (fun _ _ h=>h) hw) (fun b o h=>Nat.lt_of_lt_of_le (HDD.out b o h) hBW.size) rfl (fun i p hp=>?_)).mono ?_
    ·match i,hp with
     | 0,hp=>cases hp;exact d0.mono (fun _ _ h=>h) hw
     | 1,hp=>cases hp;exact HDI.out.mono (fun _ _ h=>h) hw
     | i+2,hp=>simp at hp
    ·rintro e w' ⟨v,rfl,hb,hd⟩
     obtain⟨au,cu,rfl⟩:=zK hd
     have hsW:=hW.size
     refine⟨au,cu,rfl,hb,hd.mono (fun b o h=>⟨h.imp id fun h=>⟨by omega,h.2⟩,fun e=>?_⟩) fun _ _ _ _ h=>h⟩
     have hbg:b=gb:=by
      cases hk0:k.length with
      | zero=>omega
      | succ c=>rw [hk0] at e;cases e;rfl
     rcases h with h | h
     ·have:=HDD.out b o h;omega
     ·omega
   have HMT:=Lib.hid hmt
   have HXB:=Lib.hid hxb
   have HBB:=Lib.hid hbb
   have g0:=(zW hxb 0 _ rfl).1
   have g1:=(zW hxb 1 _ rfl).1
   have HD1:=Lib.hid d1
   clear d0 d1 hcel hfm e0 e1 hmt hxb hbb
   go_wp2_with fail
   rw [<-hwb]
   have hc1:Below wb.heap.size wb wb.drew:=(Below.refl _ _).drew
   clear hwb
   refine Kg (Sw:=qe) 9 38 (fun w9=>Below wb.heap.size wb w9/\w9.cell? ⟨wr.heap.size,0,none⟩=some (.slice af f.items.length cf)/\w9.cell? ⟨wr.heap.size,1,none⟩=some (.slice av f.vec.length cv)) (by kernel_rfl) (by kernel_rfl) rfl ⟨hc1,g0,g1⟩ ?_
   simp only [List.take_succ_cons,List.take_zero]
   refine Jz ?_
   refine V7 (fun u w9=>∃ au cu,u=.slice au (qy y5 f.items items).length cu/\Dat (DX D w.heap.size w9 (.slice (some ⟨gb,0,none⟩) k.length k.length)) w9 u (rg (qy y5 f.items items))) (fun u wa wb h hk=>by obtain⟨au,cu,e,h⟩:=h;exact⟨au,cu,e,DX.keep h hk.size fun k hk2 _=>hk.block k hk2 id⟩) rfl ?_ ?_
   ·intro a2 w2 hc hk hr K hK
    have HK:=Lib.hid hK
    clear hK
    simp [Rds,zA,lk,Op.operands,Call.operands,RdEq] at hr
    go_simp
    refine(HMT.out _ hc.1).mono ?_
    rintro e w3 ⟨au,cu,rfl,hb,hd⟩
    have hkb:Keep qe _ w3:=Keep.of_below' hb (Nat.le_refl _)
    exact HK.out _ _ hkb ⟨hc.1.trans (hb.mono hc.1.size),hkb.cell_some hc.2.1 id,hkb.cell_some hc.2.2 id⟩ ⟨au,cu,rfl,hd⟩
   dsimp only [List.nil_append,List.cons_append]
   refine Jz ?_
   refine V7 (fun u w9=>∃ au cu,u=.agg #[.slice au (qy y5 f.items items).length cu,.slice av f.vec.length cv]/\Dat (DX D w.heap.size w9 (.slice (some ⟨gb,0,none⟩) k.length k.length)) w9 (.slice au (qy y5 f.items items).length cu) (rg (qy y5 f.items items))) (fun u wa wb h hk=>by obtain⟨au,cu,e,h⟩:=h;exact⟨au,cu,e,DX.keep h hk.size fun k hk2 _=>hk.block k hk2 id⟩) rfl ?_ ?_
   ·intro a2 w2 hc hk hr K hK
    have HK:=Lib.hid hK
    clear hK
    simp [Rds,zA,lk,Op.operands,Call.operands,RdEq] at hr
    obtain⟨⟨_,⟨e1,e2⟩,⟨au,cu,rfl⟩,ho⟩,e3,e4⟩:=hr
    go_simp
    exact HK.out _ _ (Keep.refl _ _) hc ⟨au,cu,rfl,ho⟩
   dsimp only [List.nil_append,List.cons_append]
   intro w2 hc2 hk2
   simp only [finG,forall_eq,List.nil_append,List.cons_append,List.drop_succ_cons,List.drop_zero,List.drop_nil]
   simp only [Act.put,List.setIfInBounds_toArray,List.set_cons_succ,List.set_cons_zero]
   rintro _ ⟨_,_,rfl,_⟩ _ ⟨au,cu,rfl,hu⟩
   have HU:=Lib.hid hu
   have HC2:=Lib.hid hc2.1
   have hsz2:=hc2.1.size
   have hout2:=HOUT.out.keep (w':=w2) (by omega) fun b hb=>(HC2.out.block b (by omega)).trans (HBB.out.block b hb)
   have hlen:=zqq (items:=items) hj
   have HLN:=Lib.hid hlen
   have HO2:=Lib.hid hout2
   obtain⟨xs,hxs,hel⟩:=id hout2
   obtain⟨xa,xb,ea,eb,-,-⟩:=hel j (by omega)
   obtain⟨g,cap',cur,ev,-,-,hgc,-,-,-,-⟩:=hxs.cases.resolve_left (fun h=>by omega)
   obtain⟨rfl,-,rfl⟩:gb=g/\k.length=(zoL k items j).length/\k.length=cap':=by simpa using ev
   have cia:w2.cell? ⟨gb,j * 2,none⟩=some xa:=by
    have:=World.ownsRow.cells hxs.1 (g:=gb) rfl (j * 2) xa ea
    rw [zh,Nat.zero_add] at this
    exact this
   have cib:w2.cell? ⟨gb,j * 2+1,none⟩=some xb:=by
    have:=World.ownsRow.cells hxs.1 (g:=gb) rfl (j * 2+1) xb eb
    rw [zh,Nat.zero_add] at this
    exact this
   have fia:w2.frozen? ⟨gb,j * 2,none⟩=false:=by simp [World.frozen?,hgc]
   have fib:w2.frozen? ⟨gb,j * 2+1,none⟩=false:=by simp [World.frozen?,hgc]
   clear hu hc2 hk2 hc1 hout2 hxs hel ea eb ev hgc g0 g1 c0 c1 hlen
   go_wp2_with fail
   have hd1:Dat (DX D w.heap.size w2 (.slice (some ⟨gb,0,none⟩) k.length k.length)) w2 (.slice av f.vec.length cv) (vp f.vec):=HD1.out.mono (fun b o h=>⟨.inl h,fun e=>by have:=(hov b e).1;have:=HDD.out b o h;omega⟩) fun b o x h hx=>(World.cell?_of_block (a:=⟨b,o,none⟩) ((HC2.out.block b (by have:=HDD.out b o h;omega)).trans ((HBB.out.block b (by have:=HDD.out b o h;omega)).trans (HBR.out.block b (HDD.out b o h))))).trans hx
   have hput:=OutG.put (f:=⟨qy y5 f.items items,f.vec⟩) HLN.out HO2.out hlt HU.out hd1 (by omega)
   rw [<-HSU.out] at hput
   go_roundg (k.length - (j+1))
   case measure=>omega
   case rel=>
    refine⟨j+1,hlt,rfl,by simp,?_,hput,?_⟩
    ·exact(Below.heap_setCell _ _ _ _ (by show w.heap.size≠gb;omega)).trans ((Below.heap_setCell _ _ _ _ (by show w.heap.size≠gb;omega)).trans ((HC2.out.block _ (by omega)).trans ((HBB.out.block _ hrw).trans HBX.out)))
    ·exact Below.setCell (Below.setCell (HBR.out.trans ((HBB.out.mono (by omega)).trans (HC2.out.mono (by omega)))) (by show w.heap.size<=gb;omega) _) (by show w.heap.size<=gb;omega) _
  ·obtain rfl:j=k.length:=by omega
   have hcn:∀ W,Below wr.heap.size wr W->Calls Tryz.prog 24 #[.slice (some ⟨gb,0,none⟩) k.length k.length] W fun e w'=>∃ u,e=.returned u/\Below W.heap.size W w'/\Dat (DL D w.heap.size w') w' u (kp (znF k items)):=fun W hW=>by
    have hdo:=HOUT.out.dat (Nat.lt_succ_self _)
    rw [zqp] at hdo
    have hBW:Below w.heap.size w W:=HBR.out.trans (hW.mono (by omega))
    have hlo:∀ b o,DL D w.heap.size wr b o->b<wr.heap.size:=fun b o h=>h.elim (fun h=>by have:=HDD.out b o h;omega) And.right
    refine(jP (D:=DL D w.heap.size wr) (zds (zl5 k items) HP.out ok hm) (HGG.out.mono (fun _ _ h=>.inl h) fun b o x h hx=>(World.cell?_of_block (a:=⟨b,o,none⟩) (hBW.block b (HDD.out b o h))).trans hx) (fun b o h=>Nat.lt_of_lt_of_le (hlo b o h) hW.size) rfl (fun i p hp=>?_)).mono ?_
    ·match i,hp with
     | 0,hp=>cases hp;exact hdo.mono (fun _ _ h=>h) fun b o x h hx=>(World.cell?_of_block (a:=⟨b,o,none⟩) (hW.block b (hlo b o h))).trans hx
     | i+1,hp=>simp at hp
    ·rintro e w' ⟨u,rfl,hb,hd⟩
     have hsW:=hW.size
     have hsb:=hb.size
     refine⟨u,rfl,hb,hd.mono (fun b o h=>?_) fun _ _ _ _ h=>h⟩
     rcases h with(h | h) | h
     ·exact .inl h
     ·exact .inr ⟨h.1,by omega⟩
     ·exact .inr ⟨by omega,h.2⟩
   have HCN:=Lib.hid hcn
   clear hcn HFS HOUT HDI HP
   go_wp2_with (first
    | (go_at_call 24;refine(HCN.out _ (Below.refl _ _)).mono ?_;rintro e w5 ⟨u5,rfl,hb5,hd5⟩
       have hx5:Boxed w5 w.heap.size 44 .nilIface:=(hb5.block _ hrw).trans HBX.out
       have c5:=hx5.cell
       have f5:=hx5.frozen
       have HX5:=Lib.hid hx5
       have HB5:=Lib.hid (HBR.out.trans (hb5.mono (by omega)))
       have HD5:=Lib.hid hd5
       clear hb5 hx5 hd5)
    | go_in)
   refine leaves_cons (f := 77) (args:=#[.pointer (some ⟨w.heap.size,0,none⟩)]) (by simp) (by simp [go_sem]) ?_
   refine(JI ⟨w.heap.size,0,none⟩ _).mono ?_
   rintro e u' w'' ⟨rfl,rfl,rfl⟩
   have hx3:=(HX5.out.set .nilIface).cell
   simp [Leaves,settle,results,Tryz.results27,go_sem,hx3]
   refine⟨HB5.out.setCell (Nat.le_refl _) _,.tup _ _ rfl fun j p hp=>?_⟩
   match j,hp with
   | 0,hp=>
     cases hp
     exact HD5.out.mono (fun b o h=>h.imp id fun h=>⟨Nat.le_of_lt h.1,by simpa using h.2⟩) fun b o x h hx=>(World.cell?_of_block (a:=⟨b,o,none⟩) (Below.heap_setCell _ _ _ _ (by
      show b≠w.heap.size
      rcases h with h | h
      ·have:=HDD.out b o h;omega
      ·omega))).trans hx
   | 1,hp=>cases hp;exact .v _
   | j+2,hp=>simp at hp
end Go.Proofs.YtonhfknjcbakiaaGreatDoor
