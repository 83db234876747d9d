import Derived.Laws.Concat
import Derived.Test.YtonhfknjcbakiaaGreatDoorB43
set_option maxHeartbeats 16000000
set_option linter.unusedVariables false
set_option linter.unusedSimpArgs false
set_option maxRecDepth 100000
namespace Go.Proofs.YtonhfknjcbakiaaGreatDoor
open Go.RowKit
attribute [-go_sem] z7 zae zaf Vr
theorem zeG (x y:Nat) (h:x+y<=80000) (w:World):(binOp .add 3 (.int .i64 (x:Nat)) (.int .i64 (y:Nat))).run Tryz.prog w=.ok (.int .i64 ((x+y:Nat):Int)) w:=by
 go_simp
 rw [IntKind.wrap_i64]
 omega
theorem Vk {B:Nat->List Nat} {R:List Nat} {n:Nat} (f:Bool->Bool->Bool) (hf:f false false=false) (op:FuncId) (a b:List Fg) (ha:Kn B R n a) (hb:Kn B R n b) (ok:OkX B R) (hn:n<=40000)
 (hop:∀ x,Cn Tryz.prog op [vp (qc a x),vp (qc b x)] (vp (ks f (qc a x) (qc b x)))):Cn Tryz.prog 70 [kp a,kp b,.fn (.func op) [] []] (.tup [kp (vh f a b),.v .nilIface]):=by
 refine yZ rfl (enters_of Tryz.func70 (by kernel_rfl) rfl) fun D w vs hG hD hsz hd=>?_
 have d0:Dat D w (vs.getD 0 undef) (kp a):=hd 0 _ rfl
 have d1:Dat D w (vs.getD 1 undef) (kp b):=hd 1 _ rfl
 have d2:Dat D w (vs.getD 2 undef) (.fn (.func op) [] []):=hd 2 _ rfl
 obtain⟨v0,hv0⟩:∃ v0,v0=vs.getD 0 undef:=⟨_,rfl⟩
 obtain⟨v1,hv1⟩:∃ v1,v1=vs.getD 1 undef:=⟨_,rfl⟩
 rw [<-hv0] at d0
 rw [<-hv1] at d1
 have e2:vs.getD 2 undef=.func (.func op) #[] #[]:=by
  generalize vs.getD 2 undef=x at d2
  cases d2 with
  | fn f va vb fs cs h1 h2 h3 h4=>
    obtain rfl:va=#[]:=Array.eq_empty_of_size_eq_zero (by simpa using h1)
    obtain rfl:vb=#[]:=Array.eq_empty_of_size_eq_zero (by simpa using h2)
    rfl
 obtain rfl:vs=#[v0,v1,.func (.func op) #[] #[]]:=by
  obtain⟨l⟩:=vs
  match l,hsz with
  | [p,q,s],_=>
    simp at hv0 hv1 e2
    rw [hv0,hv1,e2]
 clear d2 e2 hv0 hv1 hsz hd
 obtain⟨aa,ca,fa,rfl,hla,rowa,da⟩:=kX d0 hD
 obtain⟨ab,cb,fb,rfl,hlb,rowb,db⟩:=kX d1 hD
 have hal:=ha.l
 have hbl:=hb.l
 have hca:=rowa.1
 have hcb:=rowb.1
 have hcam:=rowa.2.1
 have hcbm:=rowb.2.1
 unfold maxLen at hcam hcbm
 rw [hla] at hca
 rw [hlb] at hcb
 have HCA:=Lib.hid (fun W (hW:Below w.heap.size w W)=>KH ha.r (ha.z (by omega)) d0 hD hG hW)
 have HCB:=Lib.hid (fun W (hW:Below w.heap.size w W)=>KH hb.r (hb.z (by omega)) d1 hD hG hW)
 have HFA:=Lib.hid (fun W (hW:Below w.heap.size w W)=>Zn (W:=W) rowa fun b o x h hx=>(World.cell?_of_block (a:=⟨b,o,none⟩) (hW.block b h)).trans hx)
 have HFB:=Lib.hid (fun W (hW:Below w.heap.size w W)=>Zn (W:=W) rowb fun b o x h hx=>(World.cell?_of_block (a:=⟨b,o,none⟩) (hW.block b h)).trans hx)
 have HD0:=Lib.hid d0
 have HD1:=Lib.hid d1
 have HDA:=Lib.hid da
 have HDB:=Lib.hid db
 have HGG:=Lib.hid hG
 have HDD:=Lib.hid hD
 have HA:=Lib.hid ha
 have HB:=Lib.hid hb
 have HLA:=Lib.hid hla
 have HLB:=Lib.hid hlb
 have HOP:=Lib.hid hop
 obtain⟨i0,hi0,hz0,hz1,hz2⟩:=info_parts Z9
 have hla2:=jf fa
 have hlb2:=jf fb
 rw [hla] at hla2
 rw [hlb] at hlb2
 clear d0 d1 da db rowa rowb hG hD ha hb
 have hadd:=zeG a.length b.length (by omega)
 have HI:=Lib.hid (And.intro hi0 (And.intro hz0 (And.intro hz1 hz2)))
 have HL2:=Lib.hid (And.intro hla2 hlb2)
 clear hi0 hz0 hz1 hz2 hla2 hlb2 hop
 have tokA:True:=trivial
 have tokB:True:=trivial
 have tokC:True:=trivial
 have tokD:True:=trivial
 have tokE:True:=trivial
 go_enter_defers Tryz.func70,Tryz.ntmps70
 go_upto_region 6 with(first
  | (go_at_call 54;have _t:=tokA;refine(HCA.out _ ((Below.refl _ _).alloc (Nat.le_refl _) _)).mono ?_;rintro e w1 ⟨rfl,hb1⟩
     have hx1:Boxed w1 w.heap.size 44 .nilIface:=(hb1.block _ (by simp)).trans (World.alloc_heap_new w _)
     have HX1:=Lib.hid hx1
     have HB1:=Lib.hid (((Below.refl _ w).alloc (Nat.le_refl _) _).trans (hb1.mono (by simp)))
     have hs1:=hx1.lt
     clear hb1 hx1 tokA)
  | (go_at_call 78;refine(zdp _ _).mono ?_;rintro e w' ⟨⟨u,rfl⟩,rfl⟩)
  | (go_at_call 54;have _t:=tokB;refine(HCB.out _ HB1.out).mono ?_;rintro e w2 ⟨rfl,hb2⟩
     have hx2:Boxed w2 w.heap.size 44 .nilIface:=(hb2.block _ HX1.out.lt).trans HX1.out
     have HX2:=Lib.hid hx2
     have HB2:=Lib.hid (HB1.out.trans (hb2.mono HB1.out.size))
     have hs2:=hx2.lt
     clear hb2 hx2 tokB)
  | (at_make;have _t:=tokC;refine wpList_make_own _ rfl _ _ 23 rfl (w.heap.size+1) 34 i0 _ 2 Tryz.underlying23 HI.out.1 HI.out.2.1 HI.out.2.2.1 .i64 .i64 _ (a.length+b.length) rfl rfl (by simp) (by rw [HI.out.2.2.2];omega) (by unfold maxLen;omega) (by omega) ?_
     intro w3 ho3 hg3
     have HO3:=Lib.hid ho3
     have HB3:=Lib.hid (HB2.out.grown hg3 HB2.out.size fun j hj=>by cases hj)
     have HX3:=Lib.hid (HX2.out.kept hg3 (by simp))
     clear ho3 hg3 tokC
     dsimp only [Act.put])
  | (at_builtin;have _t:=tokD;refine Jb _ _ 23 rfl rfl Tryz.underlying23 (w.heap.size+1) _ 0 [] rfl HO3.out _ a.length ca (qB fa) rfl HL2.out.1 (by rcases HFA.out _ HB3.out with h | h;exact .inl ⟨by have:=h.1;omega,h.2⟩;exact .inr h) (jg fa) (by omega) (by have:=HO3.out.lt;have:=HB3.out.size;have:=HX3.out.lt;omega) ?_
     intro v4 w4 ho4 hg4 hv4
     have HO4:=Lib.hid ho4
     have HB4:=Lib.hid (HB3.out.grown hg4 HB3.out.size fun j hj=>by have:=(HO3.out.lt j hj).1;omega)
     have HX4:=Lib.hid (HX3.out.kept hg4 fun e=>by have:=(HO3.out.lt _ e.symm).1;omega)
     clear ho4 hg4 hv4 tokD
     dsimp only [Act.put])
  | (at_builtin;have _t:=tokE;refine Jb _ _ 23 rfl rfl Tryz.underlying23 (w.heap.size+1) _ (0+a.length) ([]++qB fa) rfl HO4.out _ b.length cb (qB fb) rfl HL2.out.2 (by rcases HFB.out _ HB4.out with h | h;exact .inl ⟨by have:=h.1;omega,h.2⟩;exact .inr h) (jg fb) (by omega) (by have:=HX4.out.lt;omega) ?_
     intro v5 w5 ho5 hg5 hv5
     have HO5:=Lib.hid ho5
     have HB5:=Lib.hid (HB4.out.grown hg5 HB4.out.size fun j hj=>by have:=(HO4.out.lt j hj).1;omega)
     have HX5:=Lib.hid (HX4.out.kept hg5 fun e=>by have:=(HO4.out.lt _ e.symm).1;omega)
     clear ho5 hg5 hv5 tokE
     dsimp only [Act.put])
  | go_in)
 have hog:=OutG.two (C:=D) (mb:=w.heap.size) (base:=w.heap.size+1) (a:=a) (b:=b) HLA.out HLB.out HO5.out HDD.out HB5.out (by omega) HDA.out HDB.out
 have hdab:=hog.dat (by omega)
 have hs5:=HX5.out.lt
 have hcell:∀ b o x,D b o->w.cell? ⟨b,o,none⟩=some x->w5.cell? ⟨b,o,none⟩=some x:=fun b o x h hx=>(World.cell?_of_block (a:=⟨b,o,none⟩) (HB5.out.block b (HDD.out b o h))).trans hx
 have hB5:=HB5.out
 have hnext:=‹∀(a:Act) (w:World),Code.wp _ _ _ a w->_›
 apply wp_region_lit
 unfold wpList
 rw [if_pos (by simp [Region.wanted])]
 refine .inl ?_
 unfold Oper.wp execOp
 simp only [Sem.run_pure]
 refine hnext _ _ ?_
 refine wp_mono (zih (nt:=Tryz.f70.ntmps) (D:=DL D w.heap.size w5) (by kernel_rfl) HGG.out _ ⟨hB5.os,hB5.tape,hB5.output,hB5.size,fun k hk _=>hB5.block k hk,fun b o h=>.inl h,hcell,fun b o h=>h.imp id fun h=>.inl (Nat.le_of_lt h.1),HDD.out⟩ (fun b o h=>h.elim (fun h=>by have:=HDD.out b o h;omega) And.right) (Nat.le_refl _) HX5.out (.v _) rfl (fun o h=>h.elim (fun h=>by have:=HDD.out _ o h;omega) fun h=>by omega) rfl [(0,kp a),(1,kp b),(2,.fn (.func op) [] []),(7,.bx 0 0),(8,kp (a++b)),(9,.sl [] .z)] (fun t=>?_) (fun t=>?_) rfl (Q:=jG [.t 6,.c 7 false 1] (.tup [kp (vh f a b),.v .nilIface])) ?_) ?_
 ·rcases t with _ | _ | _ | _ | _ | _ | _ | _ | _ | _ | t
  ·exact .inr (HD0.out.mono (fun _ _ h=>.inl h) hcell)
  ·exact .inr (HD1.out.mono (fun _ _ h=>.inl h) hcell)
  ·exact .inr (.fn _ #[] #[] [] [] rfl rfl (fun _ _ h=>by simp at h) (fun _ _ h=>by simp at h))
  ·exact .inr (.und _)
  ·exact .inr (.und _)
  ·exact .inr (.und _)
  ·exact .inr (.und _)
  ·exact .inl ⟨rfl,rfl⟩
  ·exact .inr hdab
  ·exact .inr (.sl none 0 0 [] .z 0 0 (fun _=>undef) (Nat.le_refl _) (fun _=>rfl) (Nat.zero_le _) (by simp) (fun i e h=>by simp at h) (fun j h=>by simp at h) (fun i e j p h=>by simp at h))
  ·exact .inr (.und _)
 ·rcases t with _ | _ | _ | _ | _ | _ | _ | _ | _ | _ | t<;>rfl
 ·exact zjO f hf op a b HA.out HB.out ok hn HOP.out
 ·intro e a1 w1 hQ
  obtain⟨he,hdf,v,D',hrun,hfr,hDlt,hdat⟩:=zfM (P:=Tryz.prog) (fn:=Tryz.f70) (by kernel_rfl) hQ
  have hbel:Below w.heap.size w w1:=⟨hfr.os,hfr.tape,hfr.output,hfr.size,fun k hk=>hfr.block k hk fun h=>h⟩
  have hfin:Dat (fun b o=>D b o\/(w.heap.size<=b/\b<w1.heap.size)) w1 v (.tup [kp (vh f a b),.v .nilIface]):=hdat.mono (fun b o h=>by
   rcases hfr.new b o h with h1 | h1 | h1
   ·exact .inl h1
   ·exact .inr ⟨h1,hDlt b o h⟩
   ·exact h1.elim) (fun _ _ _ _ h=>h)
  obtain⟨tm,df⟩:=a1
  simp only [Act.put] at hdf
  subst hdf
  have hend:Leaves Tryz.prog Tryz.f70 tm (fun e w'=>∃ v,e=.returned v/\Below w.heap.size w w'/\Dat (fun b o=>D b o\/(w.heap.size<=b/\b<w'.heap.size)) w' v (.tup [kp (vh f a b),.v .nilIface])) [{ target:=.fn (.func 77) #[],args:=#[.pointer (some ⟨w.heap.size,0,none⟩)] }] .returning w1:=by
   refine leaves_cons (f := 77) (args:=#[.pointer (some ⟨w.heap.size,0,none⟩)]) (by simp) (by simp [go_sem]) ?_
   refine(JI ⟨w.heap.size,0,none⟩ _).mono ?_
   rintro e u' w'' ⟨rfl,rfl,rfl⟩
   exact⟨v,hrun,v,rfl,hbel,hfin⟩
  rcases he with rfl | rfl<;>exact hend
end Go.Proofs.YtonhfknjcbakiaaGreatDoor
namespace Go.Proofs.YtonhfknjcbakiaaGreatDoor
open Go.RowKit
theorem zl3 (a b:List En) (ha:SmV a) (hb:SmV b):Cn Tryz.prog 71 [vp a,vp b] (vp (ks zn a b)):=by
 refine zt Tryz.func71 2 ?_
 refine pw ?_
 exact .d (zdc a b ha hb)
theorem zkw (a b:List En) (ha:SmV a) (hb:SmV b):Cn Tryz.prog 72 [vp a,vp b] (vp (ks y5 a b)):=by
 refine zt Tryz.func72 2 ?_
 refine pw ?_
 exact .d (zfC a b ha hb)
theorem zkv (a b:List En) (ha:SmV a) (hb:SmV b):Cn Tryz.prog 81 [vp a,vp b] (vp (ks zm a b)):=by
 refine zt Tryz.func81 2 ?_
 refine pw ?_
 exact .d (zdb a b ha hb)
theorem xv {C:Nat->List Nat} {R:List Nat} {n:Nat} (a b:List Fg) (ha:Kn C R n a) (hb:Kn C R n b) (ok:OkX C R) (hn:n<=40000):Cn Tryz.prog 22 [kp a,kp b] (.tup [kp (vh zn a b),.v .nilIface]):=by
 refine zt Tryz.func22 2 ?_
 refine pw ?_
 exact .d (Vk zn rfl 71 a b ha hb ok hn (fun x=>zl3 _ _ (ha.at ok x) (hb.at ok x)))
theorem JP {C:Nat->List Nat} {R:List Nat} {n:Nat} (a b:List Fg) (ha:Kn C R n a) (hb:Kn C R n b) (ok:OkX C R) (hn:n<=40000):Cn Tryz.prog 23 [kp a,kp b] (.tup [kp (vh y5 a b),.v .nilIface]):=by
 refine zt Tryz.func23 2 ?_
 refine pw ?_
 exact .d (Vk y5 rfl 72 a b ha hb ok hn (fun x=>zkw _ _ (ha.at ok x) (hb.at ok x)))
theorem vD {C:Nat->List Nat} {R:List Nat} {n:Nat} (a b:List Fg) (ha:Kn C R n a) (hb:Kn C R n b) (ok:OkX C R) (hn:n<=40000):Cn Tryz.prog 28 [kp a,kp b] (.tup [kp (vh zm a b),.v .nilIface]):=by
 refine zt Tryz.func28 2 ?_
 refine pw ?_
 exact .d (Vk zm rfl 81 a b ha hb ok hn (fun x=>zkv _ _ (ha.at ok x) (hb.at ok x)))
theorem Zw {C:Nat->List Nat} {R:List Nat} {n:Nat} (a b:List Fg) (ha:Kn C R n a) (hb:Kn C R n b) (ok:OkX C R) (hn:n<=40000):Cn Tryz.prog 41 [kp a,kp b] (.tup [.v (.bool (decide (vh zm a b=[]))),.v .nilIface]):=by
 refine zt Tryz.func41 2 ?_
 refine pw ?_
 exact .d (vD a b ha hb ok hn)
theorem jE {C:Nat->List Nat} {R:List Nat} {n:Nat} (a b:List Fg) (ha:Kn C R n a) (hb:Kn C R n b) (ok:OkX C R) (hn:n<=40000):Cn Tryz.prog 48 [kp a,kp b] (.tup [.v (.bool (decide (vh y5 a b=[]))),.v .nilIface]):=by
 refine zt Tryz.func48 2 ?_
 refine pw ?_
 exact .d (JP a b ha hb ok hn)
theorem Zv {C:Nat->List Nat} {R:List Nat} {n:Nat} (a b:List Fg) (ha:Kn C R n a) (hb:Kn C R n b) (ok:OkX C R) (hn:n<=40000):Cn Tryz.prog 49 [kp a,kp b] (.tup [.v (.int .i64 (zbC a b:Nat)),.v .nilIface]):=by
 unfold zbC
 refine zt Tryz.func49 2 ?_
 refine pw ?_
 refine .c (vD a b ha hb ok hn) ?_
 refine .c (vD b a hb ha ok hn) ?_
 by_cases h1:vh zm a b=[]
 ·by_cases h2:vh zm b a=[]
  ·simp only [h1,h2,List.length_nil,if_true]
   exact pd
  ·have q2:decide (0<(vh zm b a).length)=true:=decide_eq_true (List.length_pos_iff.2 h2)
   simp only [h1,h2,List.length_nil,if_true,if_false]
   try simp (maxSteps:=2000000) (disch:=omega) only [go_sem,seval,q2]
   repeat ((with_reducible refine And.intro ?_ ?_);focus exact yI)
 ·have q1:decide (0<(vh zm a b).length)=true:=decide_eq_true (List.length_pos_iff.2 h1)
  by_cases h2:vh zm b a=[]
  ·simp only [h1,h2,List.length_nil,if_true,if_false]
   try simp (maxSteps:=2000000) (disch:=omega) only [go_sem,seval,q1]
   repeat ((with_reducible refine And.intro ?_ ?_);focus exact yI)
  ·have q2:decide (0<(vh zm b a).length)=true:=decide_eq_true (List.length_pos_iff.2 h2)
   simp only [h1,h2,if_false]
   try simp (maxSteps:=2000000) (disch:=omega) only [go_sem,seval,q1,q2]
   repeat ((with_reducible refine And.intro ?_ ?_);focus exact yI)
theorem zds {C:Nat->List Nat} {R:List Nat} {n:Nat} (k:List Fg) (h:Kn C R n k) (ok:OkX C R) (hn:n<=40000):Cn Tryz.prog 24 [kp k] (kp (zbx k)):=by
 show Cn Tryz.prog 24 [kp k] (kp (zL (jq k)))
 refine zt Tryz.func24 1 ?_
 refine pw ?_
 refine .c (ziJ k (h.ok12 ok (by omega))) ?_
 exact .d (zfn (jq k) (h.refine ok) ok (by omega))
def Y1 (a b:List Fg):Bool:=vx a && vx b && decide ((ckK a).1=0) && decide ((ckK b).1=0)
theorem zbI (a b:List Fg) (ha:BdK a) (hb:BdK b):Cn Tryz.prog 47 [kp a,kp b] (.v (.bool (vx a && vx b))):=by
 refine zt Tryz.func47 2 ?_
 refine pw ?_
 refine .c (zc8 a ha) ?_
 refine .i ?_ ?_<;>intro h<;>(try simp only [zb] at h)<;>first | refine pw ?_ | exact pd
 ·rw [h]
  exact .d (zc8 b hb)
 ·simp [h]
theorem XV (a b:List Fg) (ha:BdK a) (hb:BdK b):Cn Tryz.prog 29 [kp a,kp b] (.v (.bool (Y1 a b))):=by
 unfold Y1
 refine zt Tryz.func29 2 ?_
 refine pw ?_
 refine .c (zbI a b ha hb) ?_
 refine .i ?_ ?_<;>intro h<;>(try simp only [zb] at h)<;>first | refine pw ?_ | exact pd
 ·refine .c (Vm a ha (zcS h.1)) ?_
  refine .i ?_ ?_<;>intro h2<;>(try simp only [zb] at h2)<;>first | refine pw ?_ | exact pd
  ·refine .c (Vm b hb (zcS h.2)) ?_
   simp [h,h2]
  ·simp [h,h2]
 ·rcases h with h | h<;>simp [h]
structure Cr15 (a b:List Fg):Prop where
 ra:RightK a
 rb:RightK b
 ka:Kn (CKL [a,b]) (RKL [a,b]) 240 a
 kb:Kn (CKL [a,b]) (RKL [a,b]) 240 b
 ok:OkX (CKL [a,b]) (RKL [a,b])
theorem Jy {a b:List Fg} (ha:BdK a) (hb:BdK b) (h:Y1 a b=true):Cr15 a b:=by
 unfold Y1 at h
 simp only [Bool.and_eq_true,decide_eq_true_eq] at h
 obtain⟨⟨⟨h1,h2⟩,h3⟩,h4⟩:=h
 have ra:=(ZN ha).1 h3
 have rb:=(ZN hb).1 h4
 refine⟨ra,rb,Kn.all (by simp) h1 ra,Kn.all (by simp) h2 rb,zam (by simp) fun k hk=>?_⟩
 simp at hk
 rcases hk with rfl | rfl
 ·exact⟨h1,ra⟩
 ·exact⟨h2,rb⟩
end Go.Proofs.YtonhfknjcbakiaaGreatDoor
namespace Go.Proofs.YtonhfknjcbakiaaGreatDoor
open Go.RowKit
attribute [-go_sem] z7 zae zaf Vr
theorem zog {D:Nat->Nat->Prop} {w:World}:Dat D w (.slice none 0 0) (.sl [] .sh):=
 .sl none 0 0 [] .sh 0 0 (fun _=>undef) (Nat.le_refl _) (fun _=>rfl) (Nat.zero_le _) (by simp) (fun i e h=>by simp at h) (fun j h=>by simp at h) (fun i e j p h=>by simp at h)
theorem znT {D:Nat->Nat->Prop} {w:World} {u v:Value} {p q:PV} (h1:Dat D w u p) (h2:Dat D w v q) (o1:u.oneCell'=true) (o2:v.oneCell'=true):Dat D w (.agg #[u,v]) (.agg [p,q]):=
 .agg _ _ rfl (fun i hi=>match i,hi with | 0,_=>o1 | 1,_=>o2 | i+2,hi=>by simp at hi;omega) fun i r hr=>match i,hr with
  | 0,hr=>by cases hr;exact h1
  | 1,hr=>by cases hr;exact h2
  | i+2,hr=>by simp at hr
def znM:ByteArray:=⟨#[114,105,103,104,116]⟩
def zou (s:ByteArray) (x:Nat × Int):PV:=.ifc 150 (.agg [.v (.string s),jS x.1 x.2])
theorem zmb {x:Nat × Int} (h:x.1≠0):jS x.1 x.2=.ifc 120 (.agg [.v (.int .i64 x.1),.v (.int .i64 x.2)]):=if_neg h
theorem zn3 {C:Nat->Nat->Prop} {w0 w:World} {k:List Fg} {v:Value} (hbd:BdK k) (hz:SzK k) (hne:(ckK k).1≠0) (hd:Dat C w0 v (kp k)) (hC:∀ b o,C b o->b<w0.heap.size) (hG:GL C w0) (hb:Below w0.heap.size w0 w) :
 Calls Tryz.prog 54 #[v] w fun e w'=>e=.returned (.iface 120 (.agg #[.int .i64 (ckK k).1,.int .i64 (ckK k).2]))/\Below w.heap.size w w':=by
 have hc:=Vh k hbd hz
 rw [zmb hne] at hc
 have hw:∀ b o x,C b o->w0.cell? ⟨b,o,none⟩=some x->w.cell? ⟨b,o,none⟩=some x:=fun b o x h hx=>(World.cell?_of_block (a:=⟨b,o,none⟩) (hb.block b (hC b o h))).trans hx
 refine(jP (D:=C) hc (hG.mono (fun _ _ h=>h) hw) (fun b o h=>Nat.lt_of_lt_of_le (hC b o h) hb.size) rfl (fun i p hp=>?_)).mono ?_
 ·match i,hp with
  | 0,hp=>cases hp;exact hd.mono (fun _ _ h=>h) hw
  | i+1,hp=>simp at hp
 ·rintro e w' ⟨u,rfl,hb',hd'⟩
  refine⟨?_,hb'⟩
  cases hd' with
  | ifc t x p h=>
    cases h with
    | agg vs cs hs h1 h=>
      have g0:=(Rel.dat (ρ:=fun _=>0) (nb:=0) (h 0 _ rfl)).v_inv
      have g1:=(Rel.dat (ρ:=fun _=>0) (nb:=0) (h 1 _ rfl)).v_inv
      obtain⟨l⟩:=vs
      match l,hs with
      | [p,q],_=>
        simp at g0 g1
        rw [g0,g1]
theorem znG (a b:List Fg) (op:FuncId) (ra:RightK a) (za:SzK a) (hb:BdK b) (hz:SzK b) (hw:(ckK b).1≠0):Cn Tryz.prog 70 [kp a,kp b,.fn (.func op) [] []] (.tup [kp [],zou znM (ckK b)]):=by
 unfold zou
 rw [zmb hw]
 refine yZ rfl (enters_of Tryz.func70 (by kernel_rfl) rfl) fun D w vs hG hD hsz hd=>?_
 have d0:Dat D w (vs.getD 0 undef) (kp a):=hd 0 _ rfl
 have d1:Dat D w (vs.getD 1 undef) (kp b):=hd 1 _ rfl
 have d2:Dat D w (vs.getD 2 undef) (.fn (.func op) [] []):=hd 2 _ rfl
 obtain⟨v0,hv0⟩:∃ v0,v0=vs.getD 0 undef:=⟨_,rfl⟩
 obtain⟨v1,hv1⟩:∃ v1,v1=vs.getD 1 undef:=⟨_,rfl⟩
 rw [<-hv0] at d0
 rw [<-hv1] at d1
 have e2:vs.getD 2 undef=.func (.func op) #[] #[]:=by
  generalize vs.getD 2 undef=x at d2
  cases d2 with
  | fn f va vb fs cs h1 h2 h3 h4=>
    obtain rfl:va=#[]:=Array.eq_empty_of_size_eq_zero (by simpa using h1)
    obtain rfl:vb=#[]:=Array.eq_empty_of_size_eq_zero (by simpa using h2)
    rfl
 obtain rfl:vs=#[v0,v1,.func (.func op) #[] #[]]:=by
  obtain⟨l⟩:=vs
  match l,hsz with
  | [p,q,s],_=>
    simp at hv0 hv1 e2
    rw [hv0,hv1,e2]
 clear d2 e2 hv0 hv1 hsz hd
 obtain⟨aa,ca,rfl,_,_⟩:=zl4 d0
 obtain⟨ab,cb,rfl,_,_⟩:=zl4 d1
 have HCA:=Lib.hid (fun W (hW:Below w.heap.size w W)=>KH ra za d0 hD hG hW)
 have HCB:=Lib.hid (fun W (hW:Below w.heap.size w W)=>zn3 hb hz hw d1 hD hG hW)
 clear d0 d1 hD hG hb hz ra za
 have tokA:True:=trivial
 have tokB:True:=trivial
 have tokC:True:=trivial
 go_enter_defers Tryz.func70,Tryz.ntmps70
 go_wp2_with (first
  | (go_at_call 54;have _t:=tokA;refine(HCA.out _ ((Below.refl _ _).alloc (Nat.le_refl _) _)).mono ?_;rintro e w1 ⟨rfl,hb1⟩
     have hx1:Boxed w1 w.heap.size 44 .nilIface:=(hb1.block _ (by simp)).trans (World.alloc_heap_new w _)
     have HX1:=Lib.hid hx1
     have HB1:=Lib.hid (((Below.refl _ w).alloc (Nat.le_refl _) _).trans (hb1.mono (by simp)))
     clear hb1 hx1 tokA)
  | (go_at_call 78;have _t:=tokC;refine(zdp _ _).mono ?_;rintro e w' ⟨⟨u,rfl⟩,rfl⟩;clear tokC)
  | (go_at_call 54;have _t:=tokB;refine(HCB.out _ HB1.out).mono ?_;rintro e w2 ⟨rfl,hb2⟩
     have hx2:Boxed w2 w.heap.size 44 .nilIface:=(hb2.block _ HX1.out.lt).trans HX1.out
     have HX2:=Lib.hid hx2
     have HB2:=Lib.hid (HB1.out.trans (hb2.mono HB1.out.size))
     clear hb2 hx2 tokB)
  | (go_at_call 78;refine(zn9 _ _ _ _).mono ?_;rintro e w' ⟨rfl,rfl⟩
     refine leaves_cons (f := 77) (args:=#[.pointer (some ⟨w.heap.size,0,none⟩)]) (by simp) (by simp [go_sem]) ?_
     refine(znO w.heap.size .nilIface _ _ _ _ HX2.out).mono ?_
     rintro e u' w'' ⟨rfl,rfl,hbx,hkp⟩
     have hx3:=hbx.cell
     have hs:=HB2.out.size
     have hbel:Below w.heap.size w w'':=HB2.out.trans (hkp.below hs (fun k hk e=>by omega))
     simp [Leaves,settle,results,Tryz.results70,go_sem,hx3]
     refine⟨hbel,.tup _ _ rfl fun j p hp=>?_⟩
     match j,hp with
     | 0,hp=>cases hp;exact zog
     | 1,hp=>cases hp;exact .ifc _ _ _ (znT (.v _) (.ifc _ _ _ (znT (.v _) (.v _) rfl rfl)) rfl rfl)
     | j+2,hp=>simp at hp)
  | go_in)
def zn4 (c:Nat):ByteArray:=⟨#[101,114,114,111,114,32,UInt8.ofNat (48+c)]⟩
theorem zoU (c:Nat) (hc:c<=9) (w:World):Calls Tryz.prog 50 #[.int .i64 c] w fun e w'=>e=.returned (.string (zn4 c))/\w'=w:=by
 have h10:c=0\/c=1\/c=2\/c=3\/c=4\/c=5\/c=6\/c=7\/c=8\/c=9:=by omega
 rcases h10 with rfl | rfl | rfl | rfl | rfl | rfl | rfl | rfl | rfl | rfl
 all_goals
  go_enter Tryz.func50,Tryz.ntmps50
  go_wp2
  apply wp_loop_once
  go_wp2
  refine bodyPost_ret (results_tmp rfl _ _ _) rfl ?_
  exact⟨by kernel_rfl,rfl⟩
theorem zoT (c:Nat) (hc:c<=9):Cn Tryz.prog 50 [.v (.int .i64 c)] (.v (.string (zn4 c))):=by
 refine Js rfl (enters_of Tryz.func50 (by kernel_rfl) rfl) fun D w vs hD hsz hd=>?_
 have d0:=(Rel.dat (ρ:=fun _=>0) (nb:=0) (hd 0 _ rfl)).v_inv
 obtain rfl:vs=#[.int .i64 c]:=by
  obtain⟨l⟩:=vs
  match l,hsz with
  | [p],_=>
    simp at d0
    rw [d0]
 refine(zoU c hc w).mono ?_
 rintro e w' ⟨rfl,rfl⟩
 exact⟨_,rfl,Below.refl _ _,.v _⟩
theorem zol {t:TypeId} {m:String} {f:FuncId} (h:∀(v:Value) (w:World),(method (Tryz.prog.types.size+Made.depth) t v m).run Tryz.prog w=.ok (f,v) w):Mth Tryz.prog t m f:=fun v args w=>by
 unfold callMethod
 simp only [Sem.run_bind,run_program,Result.andThen_ok,h]
theorem zn8:Mth Tryz.prog 150 "Error" 257 := zol fun v w=>by kernel_rfl
theorem zn7:Mth Tryz.prog 120 "Error" 255 := zol fun v w=>by kernel_rfl
end Go.Proofs.YtonhfknjcbakiaaGreatDoor
namespace Go.Proofs.YtonhfknjcbakiaaGreatDoor
open Go.RowKit
theorem zoi (c:Nat) (k:Int) (hc:c<=9):Cn Tryz.prog 255 [.agg [.v (.int .i64 c),.v (.int .i64 k)]] (.v (.string (zn4 c))):=by
 refine zt Tryz.func255 1 ?_
 refine pw ?_
 exact .d (zoT c hc)
def zoq:ByteArray:=⟨#[58,32]⟩
theorem zor:(⟨#[58,32]⟩:ByteArray).size=2:=rfl
theorem zoJ (c:Nat):(zn4 c).size=7:=rfl
theorem zom (s:ByteArray) (x:Nat × Int) (hs:s.size<=1000) (hne:x.1≠0) (hc:x.1<=9):Cn Tryz.prog 257 [.agg [.v (.string s),jS x.1 x.2]] (.v (.string (s++zoq++zn4 x.1))):=by
 rw [zmb hne]
 have z0:(Array.mk [(58:UInt8),32]).size=2:=rfl
 have z1:=zor
 have z2:=zoJ x.1
 have z3:(s++⟨#[58,32]⟩:ByteArray).size=s.size+2:=by rw [ByteArray.size_append,z1]
 refine zt Tryz.func257 1 ?_
 refine pw ?_
 refine .mk zn7 ?_
 refine .c (zoi x.1 x.2 hc) ?_
 rfl
attribute [go_sem] zou
def znP (i r c:Nat):List Fg:=[⟨[⟨i,i⟩],zl9 r c⟩]
theorem zmg:RightV []:=⟨fun e h=>(by cases h),List.Pairwise.nil⟩
theorem zic:RightK []:=fun f h=>by cases h
theorem zoC {r c:Nat} (hr:r<M64) (hc:c<M64):ks zn [] (zl9 r c)=zl9 r c:=
 zoY rfl zmg (zkS hr hc).right (zkS hr hc) fun x=>by
  have hn:=qi (zkS hr hc).right x
  have h0:Nrm []:=trivial
  refine Nrm.unique hn (qH h0 hn) fun y hy=>?_
  rw [kr,qj h0 hn hy]
  simp [zn,mem]
theorem zoH:SmV []:=⟨zmg,by simp,fun e h=>by cases h⟩
theorem znJ {C:Nat->List Nat} {R:List Nat} {n:Nat} (k:List Fg) (i r c:Nat) (hr:r<M64) (hc:c<M64) (hk:Kn C R n k) (h1:Kn C R n (znP i r c)) (ok:OkX C R) (hn:n<=40000):Cn Tryz.prog 34 [kp k,.v (.int .u64 i),.v (.int .u64 r),.v (.int .u64 c)] (.tup [kp (vh zn k (znP i r c)),.v .nilIface]):=by
 have ha:=zoX [] r c zoH hr hc
 rw [zoC hr hc] at ha
 refine zt Tryz.func34 4 ?_
 refine pw ?_
 (first | refine .c (ha) ?_ | refine .o (ha) ?_)
 exact .d (xv k (znP i r c) hk h1 ok hn)
theorem znK (a b:List Fg) (ra:RightK a) (za:SzK a) (hb:BdK b) (hz:SzK b) (hw:(ckK b).1≠0):Cn Tryz.prog 22 [kp a,kp b] (.tup [kp [],zou znM (ckK b)]):=by
 have hd:=znG a b 71 ra za hb hz hw
 refine zt Tryz.func22 2 ?_
 refine pw ?_
 (first | exact .d (hd) | exact .q (hd))
def k14:List Fg:=[⟨[⟨3,3⟩],[⟨7,0,[]⟩]⟩]
theorem znY:CanV [⟨7,0,[]⟩]:=⟨by simp [YP,zO,zw,Nrm,NF],by simp⟩
theorem znW:znP 3 7 0=k14:=by
 have h7:(7:Nat)<M64:=by rw [zw];decide
 have h0:(0:Nat)<M64:=by rw [zw];decide
 unfold znP k14
 rw [Zk (zkS h7 h0) znY fun r=>by rw [zoE h7 h0,qm,kr,zps]]
theorem zkJ:CanK k14:=by
 refine⟨⟨fun f hf=>?_,by simp [k14]⟩,by simp [k14,xh]⟩
 simp only [k14,List.mem_singleton] at hf
 subst hf
 exact⟨znY,by simp,by simp [Nrm,NF,zw],by simp⟩
theorem zoN:vx k14=true:=by decide
theorem zpl:vh zn [] k14=k14:=znD rfl zic zkJ.right zkJ fun i r x _ _=>by rw [zcY];simp [zn]
theorem zpm:vh zn k14 []=k14:=znD rfl zkJ.right zic zkJ fun i r x _ _=>by rw [zcY];simp [zn]
theorem zpn:vh zm k14 k14=[]:=(V0 zkJ.right zkJ.right).2 fun _ _ _ _ _ h=>h
theorem zpp:hasK k14 3 7 0=true:=by
 rw [zfo zkJ.right]
 exact⟨_,by simp [k14];rfl,by simp [mem],_,by simp;rfl,rfl,by rw [zps];simp [mem]⟩
def zma:List Fg:=[⟨[⟨2,1⟩],[]⟩]
theorem zpk:ckK zma=(2,0):=by decide
theorem zpj:BdK zma:=⟨by simp [zma,BdF,BdR,zw],by simp [zma]⟩
theorem zpA:SzK zma:=⟨by simp [zma],by simp [zma]⟩
theorem zn2:Cn Tryz.prog 21 [] (.v (.bool true)):=by
 have h7:(7:Nat)<M64:=by rw [zw];decide
 have h0:(0:Nat)<M64:=by rw [zw];decide
 have kk:Kn (CKL [k14,[]]) (RKL [k14,[]]) 240 k14:=Kn.all (by simp) zoN zkJ.right
 have kn:Kn (CKL [k14,[]]) (RKL [k14,[]]) 240 []:=Kn.all (by simp) (by decide) zic
 have ok:OkX (CKL [k14,[]]) (RKL [k14,[]]):=zam (by simp) fun k hk=>by
  simp at hk
  rcases hk with rfl | rfl
  ·exact⟨zoN,zkJ.right⟩
  ·exact⟨by decide,zic⟩
 have zk:=kk.z (by omega)
 have a1:=znJ [] 3 7 0 h7 h0 kn (by rw [znW];exact kk) ok (by omega)
 rw [znW,zpl] at a1
 have a2:=znK k14 zma zkJ.right zk zpj zpA (by rw [zpk];decide)
 rw [zpk] at a2
 have a3:=xv k14 [] kk kn ok (by omega)
 rw [zpm] at a3
 have a4:=vD k14 k14 kk kk ok (by omega)
 rw [zpn] at a4
 have a5:=zn6 k14 3 7 0 zkJ.right zk h0
 rw [zpp] at a5
 have a6:=zfq k14 k14 zk
 rw [decide_eq_true rfl] at a6
 have a7:=zom znM (2,0) (by decide) (by decide) (by decide)
 have hs:((znM++zoq++zn4 2).toList == (ByteArray.mk (Array.mk [114,105,103,104,116,58,32,101,114,114,111,114,32,50])).toList)=true:=by kernel_rfl
 refine zt Tryz.func21 0 ?_
 refine pw ?_
 (first | refine .c (a1) ?_ | refine .o (a1) ?_)
 (first | refine .c (a2) ?_ | refine .o (a2) ?_)
 (first | refine .c (a3) ?_ | refine .o (a3) ?_)
 (first | refine .c (a4) ?_ | refine .o (a4) ?_)
 (first | refine .c (a5) ?_ | refine .o (a5) ?_)
 (first | refine .c (a6) ?_ | refine .o (a6) ?_)
 refine .mk zn8 ?_
 (first | refine .c (a7) ?_ | refine .o (a7) ?_)
 refine⟨by decide,?_⟩
 try simp (maxSteps:=2000000) (disch:=omega) only [go_sem,seval,hs]
 repeat ((with_reducible refine And.intro ?_ ?_);focus exact yI)
 (first | exact .d (a6) | exact .q (a6))
theorem zoc (l:List (List Fg)) (hl:l.length<=100) (hb:∀ k ∈ l,BdK k):Cn Tryz.prog 20 [.sl (l.map fun k=>[kp k]) .sh] (.v (.bool (l.all vx))):=by
 refine zt Tryz.func20 1 ?_
 refine pw ?_
 refine pLoop.go (fun j=>j<=l.length/\l.all vx=(l.drop j).all vx) (fun j=>[(7,.v (.int .i64 (j:Nat)))]) (fun _=>[]) (fun j=>l.length - j) 0 [7] ?_ ?_ ?_
 ·exact⟨Nat.zero_le _,rfl⟩
 ·exact pd
 ·rintro j ⟨hj,hm⟩
  refine pw ?_
  refine .i ?_ ?_<;>intro h<;>(try simp only [zb] at h)<;>first | refine pw ?_ | exact pd
  ·have hd:(l.drop j).all vx=(vx l[j] && (l.drop (j+1)).all vx):=by rw [List.drop_eq_getElem_cons h];rfl
   rw [hd] at hm
   refine .c (zc8 l[j] (hb _ (List.getElem_mem h))) ?_
   refine .i ?_ ?_<;>intro h2<;>(try simp only [zb] at h2)<;>first | refine pw ?_ | exact pd
   ·rw [hm,h2]
    rfl
   ·rw [h2,Bool.true_and] at hm
    exact⟨j+1,⟨h,hm⟩,by omega,rfl⟩
  ·rw [hm,List.drop_of_length_le (by omega)]
   rfl
theorem zml (a b c:List Fg) (ha:BdK a) (hb:BdK b) (hc:BdK c):Cn Tryz.prog 4 [kp a,kp b,kp c] (.v (.bool true)):=by
 have hs:=zoc [a,b,c] (by simp) (fun k hk=>by
  simp at hk
  rcases hk with rfl | rfl | rfl<;>assumption)
 obtain⟨s,es⟩:∃ s,s=[a,b,c].all vx:=⟨_,rfl⟩
 rw [<-es] at hs
 have al:=zn2
 refine zt Tryz.func4 3 ?_
 refine pw ?_
 (first | refine .c (hs) ?_ | refine .o (hs) ?_)
 cases s with
 | false=>
   refine pw ?_
   (first | exact .d (al) | exact .q (al))
 | true=>
   have hf:vx a=true/\vx b=true/\vx c=true:=by simpa using es.symm
   have wa:=Vm a ha (zcS hf.1)
   have wb:=Vm b hb (zcS hf.2.1)
   have wc:=Vm c hc (zcS hf.2.2)
   refine pw ?_
   refine .i ?_ ?_<;>intro h1<;>(try simp only [zb] at h1)<;>first | refine pw ?_ | exact pd
   ·(first | exact .d (al) | exact .q (al))
   ·refine .i ?_ ?_<;>intro h2<;>(try simp only [zb] at h2)<;>first | refine pw ?_ | exact pd
    ·(first | exact .d (al) | exact .q (al))
    ·refine .i ?_ ?_<;>intro h3<;>(try simp only [zb] at h3)<;>first | refine pw ?_ | exact pd
     ·(first | exact .d (al) | exact .q (al))
     ·(first | refine .c (wa) ?_ | refine .o (wa) ?_)
      refine .i ?_ ?_<;>intro h4<;>(try simp only [zb] at h4)<;>first | refine pw ?_ | exact pd
      ·(first | exact .d (al) | exact .q (al))
      ·(first | refine .c (wb) ?_ | refine .o (wb) ?_)
       refine .i ?_ ?_<;>intro h5<;>(try simp only [zb] at h5)<;>first | refine pw ?_ | exact pd
       ·(first | exact .d (al) | exact .q (al))
       ·(first | refine .c (wc) ?_ | refine .o (wc) ?_)
        refine .i ?_ ?_<;>intro h6<;>(try simp only [zb] at h6)<;>first | refine pw ?_ | exact pd
        ·(first | exact .d (al) | exact .q (al))
        ·have ra:=(ZN ha).1 h4
         have rb:=(ZN hb).1 h5
         have rc:=(ZN hc).1 h6
         have ok:OkX (CKL [a,b,c]) (RKL [a,b,c]):=zam (by simp) fun k hk=>by
          simp at hk
          rcases hk with rfl | rfl | rfl
          ·exact⟨hf.1,ra⟩
          ·exact⟨hf.2.1,rb⟩
          ·exact⟨hf.2.2,rc⟩
         have ka:Kn (CKL [a,b,c]) (RKL [a,b,c]) 240 a:=Kn.all (by simp) hf.1 ra
         have kb:Kn (CKL [a,b,c]) (RKL [a,b,c]) 240 b:=Kn.all (by simp) hf.2.1 rb
         have kc:Kn (CKL [a,b,c]) (RKL [a,b,c]) 240 c:=Kn.all (by simp) hf.2.2 rc
         have ua:=ka.mono (fun _ _ h=>h) (fun _ h=>h) (show 240<=961 by omega)
         have uc:=kc.mono (fun _ _ h=>h) (fun _ h=>h) (show 240<=961 by omega)
         have kab:=ka.do (f:=zn) rfl kb ok
         have kbc:=kb.do (f:=zn) rfl kc ok
         have mac:=ka.do (f:=y5) rfl kc ok
         have mbc:=kb.do (f:=y5) rfl kc ok
         have mab:=ka.do (f:=y5) rfl kb ok
         have maa:=ka.do (f:=y5) rfl ka ok
         have kx:=kab.do (f:=zn) rfl uc ok
         have kp':=kab.do (f:=y5) rfl uc ok
         have c1:=xv a b ka kb ok (by omega)
         have c2:=xv b a kb ka ok (by omega)
         have c3:=xv b c kb kc ok (by omega)
         have c4:=xv (vh zn a b) c kab uc ok (by omega)
         have c5:=xv a (vh zn b c) ua kbc ok (by omega)
         have c6:=JP a b ka kb ok (by omega)
         have c7:=JP b a kb ka ok (by omega)
         have c8:=JP (vh zn a b) c kab uc ok (by omega)
         have c9:=JP a c ka kc ok (by omega)
         have c10:=JP b c kb kc ok (by omega)
         have c11:=xv (vh y5 a c) (vh y5 b c) mac mbc ok (by omega)
         have c12:=JP a a ka ka ok (by omega)
         rw [znU rfl (fun p q=>by cases p<;>cases q<;>rfl) rb ra] at c2
         rw [<-zoh (f:=zn) rfl (fun p q r=>by cases p<;>cases q<;>cases r<;>rfl) ra rb rc] at c5
         rw [znU rfl (fun p q=>by cases p<;>cases q<;>rfl) rb ra] at c7
         rw [<-zow ra rb rc] at c11
         rw [zox ra] at c12
         have e1:=zfq (vh zn a b) (vh zn a b) (kab.z (by omega))
         have e2:=zfq (vh zn (vh zn a b) c) (vh zn (vh zn a b) c) (kx.z (by omega))
         have e3:=zfq (vh y5 a b) (vh y5 a b) (mab.z (by omega))
         have e4:=zfq (vh y5 (vh zn a b) c) (vh y5 (vh zn a b) c) (kp'.z (by omega))
         have e5:=zfq (zbx a) (zbx a) ((ka.canon ok).z (by omega))
         rw [decide_eq_true rfl] at e1 e2 e3 e4 e5
         have e6:=zds a ka ok (by omega)
         (first | refine .c (c1) ?_ | refine .o (c1) ?_)
         (first | refine .c (c2) ?_ | refine .o (c2) ?_)
         (first | refine .c (c3) ?_ | refine .o (c3) ?_)
         (first | refine .c (c4) ?_ | refine .o (c4) ?_)
         (first | refine .c (c5) ?_ | refine .o (c5) ?_)
         (first | refine .c (c6) ?_ | refine .o (c6) ?_)
         (first | refine .c (c7) ?_ | refine .o (c7) ?_)
         (first | refine .c (c8) ?_ | refine .o (c8) ?_)
         (first | refine .c (c9) ?_ | refine .o (c9) ?_)
         (first | refine .c (c10) ?_ | refine .o (c10) ?_)
         (first | refine .c (c11) ?_ | refine .o (c11) ?_)
         (first | refine .c (c12) ?_ | refine .o (c12) ?_)
         (first | refine .c (al) ?_ | refine .o (al) ?_)
         (first | refine .c (e1) ?_ | refine .o (e1) ?_)
         (first | refine .c (e2) ?_ | refine .o (e2) ?_)
         (first | refine .c (e3) ?_ | refine .o (e3) ?_)
         (first | refine .c (e4) ?_ | refine .o (e4) ?_)
         (first | refine .c (e6) ?_ | refine .o (e6) ?_)
         (first | exact .d (e5) | exact .q (e5))
end Go.Proofs.YtonhfknjcbakiaaGreatDoor
