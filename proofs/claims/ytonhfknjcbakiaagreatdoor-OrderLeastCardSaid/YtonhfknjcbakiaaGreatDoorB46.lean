import Derived.Test.YtonhfknjcbakiaaGreatDoorB44
import Derived.Test.YtonhfknjcbakiaaGreatDoorB45
set_option maxHeartbeats 16000000
set_option linter.unusedVariables false
set_option linter.unusedSimpArgs false
set_option maxRecDepth 100000
namespace Go.Proofs.YtonhfknjcbakiaaGreatDoor
open Go.RowKit
def Jf:List Fg:=[⟨[⟨4,5⟩],[⟨1,5,[⟨0,2⟩]⟩]⟩]
theorem zgS:vx Jf=true:=by decide
theorem r15:RightK Jf:=by simp [Jf,RightK,ZS,RightV,zO,zw,Nrm,NF]
theorem znB:zO ⟨1,5,[⟨0,2⟩]⟩:=by simp [zO,zw,Nrm,NF]
theorem zky:kn ⟨1,5,[⟨0,2⟩]⟩=[⟨3,5⟩]:=Nrm.unique (qT znB) (by simp [Nrm,NF,zw]) fun x hx=>by
 unfold kn
 rw [qj (qG (by decide) (by rw [zw];decide)) (by simp [Nrm,NF,zw]) hx]
 simp only [zm,zz,mem,List.any_nil,Bool.or_false]
 rw [Bool.eq_iff_iff]
 simp
 omega
theorem zfD:kY Jf=some (4,1,3):=by simp [kY,Jf,V3,XE,zky,Vq]
theorem zkj:hasK Jf 4 1 3=true:=by
 rw [zfo r15]
 exact⟨_,by simp [Jf];rfl,by simp [mem],_,by simp;rfl,rfl,by rw [zky];simp [mem]⟩
theorem ziZ:vh zm [] Jf=[]:=(V0 (fun f h=>by cases h) r15).2 fun i r c _ _ h=>by cases h
theorem zeg:vh zm Jf []≠[]:=fun h=>by
 have:=(V0 r15 (fun f h=>by cases h)).1 h 4 1 3 (by rw [zw];decide) (by rw [zw];decide) zkj
 cases this
theorem zjN:vh y5 Jf []=[]:=(KP rfl r15 (fun f h=>by cases h)).2 fun i r c _ _=>by rw [zcY];simp [y5]
theorem ZZ:Cr15 Jf []:=⟨r15,fun f h=>(by cases h),Kn.all (by simp) zgS r15,Kn.all (by simp) (by decide) fun f h=>(by cases h),zam (by simp) fun k hk=>by
 simp at hk
 rcases hk with rfl | rfl
 ·exact⟨zgS,r15⟩
 ·exact⟨by decide,fun f h=>by cases h⟩⟩
theorem Yf:Cn Tryz.prog 30 [] (.v (.bool true)):=by
 have a1:=zfE Jf (ZZ.ka.ok12 ZZ.ok (by omega))
 have a2:=Zv [] Jf ZZ.kb ZZ.ka ZZ.ok (by omega)
 have a3:=Zw Jf [] ZZ.ka ZZ.kb ZZ.ok (by omega)
 have a4:=jE Jf [] ZZ.ka ZZ.kb ZZ.ok (by omega)
 rw [zfD] at a1
 rw [show zbC [] Jf=1 by unfold zbC;rw [if_pos ziZ,if_neg zeg]] at a2
 rw [decide_eq_false zeg] at a3
 rw [decide_eq_true zjN] at a4
 refine zt Tryz.func30 0 ?_
 refine pw ?_
 (first | refine .c (a1) ?_ | refine .o (a1) ?_)
 (first | refine .c (a2) ?_ | refine .o (a2) ?_)
 (first | refine .c (a3) ?_ | refine .o (a3) ?_)
 (first | exact .d (a4) | exact .q (a4))
theorem Kn.up {C:Nat->List Nat} {R:List Nat} {n m:Nat} {k:List Fg} (h:Kn C R n k) (hn:n<=m):Kn C R m k:=h.mono (fun _ _ h=>h) (fun _ h=>h) hn
theorem zjc {C:Nat->List Nat} {R:List Nat} (k:List Fg) (h12:Ok12 C R k):Cn Tryz.prog 32 [kp k] (.tup [trp ((kY k).getD (0,0,0)),.v (.bool (kY k).isSome)]):=by
 have hpl:=xW k
 have h12t:=h12.t
 refine zt Tryz.func32 1 ?_
 refine pw ?_
 refine .c (VT k h12.r h12.z h12.l h12.t (Ya k h12.r h12.z h12.l h12.t h12.i)) ?_
 refine pLoop.go (fun j=>j<=(zu k).length/\∀ i (h:i<(zu k).length),i<j->qc k (zu k)[i].lo=[]) (fun j=>[(5,.v (.int .i64 (j:Nat)))]) (fun _=>[trc (0,0,0)]) (fun j=>(zu k).length - j) 0 [5] ?_ ?_ ?_
 ·exact⟨Nat.zero_le _,fun i h hi=>absurd hi (Nat.not_lt_zero _)⟩
 ·exact pd
 ·rintro j ⟨hj,h0⟩
  refine pw ?_
  refine .i ?_ ?_<;>intro h<;>(try simp only [zb] at h)<;>first | refine pw ?_ | exact pd
  ·have hw:=(h12.ik.at (zu k)[j].lo).1
   have hsm:=hw.smv h12.ok
   refine .c (VR k (zu k)[j].lo h12.ik h12.ok h12.r h12.s h12.z) ?_
   cases hv:qc k (zu k)[j].lo with
   | nil=>
     simp only [hv,List.map_nil,List.length_nil]
     refine pw ?_
     refine⟨j+1,⟨h,fun i hi hlt=>?_⟩,by omega,rfl⟩
     rcases Nat.lt_or_ge i j with h4 | h4
     ·exact h0 i hi h4
     ·obtain rfl:i=j:=by omega
      exact hv
   | cons e v=>
     rw [hv] at hw hsm
     have hce:YP e:=hw.can.1 e (by simp)
     have hhl:=hsm.2.2 e (by simp)
     obtain⟨s,l,hs⟩:=znA hce
     have hit:=zje h12.ik h12.r h h0 hv hs
     have hkn:=Vl e hce.1 (by omega)
     rw [hs] at hkn
     have hp:decide (0<v.length+1)=true:=decide_eq_true (Nat.succ_pos _)
     try simp (maxSteps:=2000000) (disch:=omega) only [go_sem,seval,hp]
     repeat ((with_reducible refine And.intro ?_ ?_);focus exact yI)
     (first | refine .c (hkn) ?_ | refine .o (hkn) ?_)
     rw [hit]
     rfl
  ·rw [zjd h12.ik h12.r fun i hi=>h0 i hi (by omega)]
   rfl
theorem zjk:BdK []:=⟨fun f h=>(by cases h),by simp⟩
theorem zjj (k:List Fg) (x:Nat × Nat × Nat) (hk:BdK k) (hx:BdX x):Cn Tryz.prog 6 [kp k,xp x] (.v (.bool true)):=by
 refine zt Tryz.func6 2 ?_
 refine pw ?_
 refine .c (XV k [] hk zjk) ?_
 refine .i ?_ ?_<;>intro h<;>(try simp only [zb] at h)<;>first | refine pw ?_ | exact pd
 ·exact .d (Yf)
 ·have hc:=Jy hk zjk h
  have h12:=hc.ka.ok12 hc.ok (by omega)
  have s1:=zfE k h12
  have s2:=zjc k h12
  have cx:=zid k x.1 x.2.1 x.2.2 hc.ra hx.2.2 h12.z
  rcases zgH hc.ra with⟨e1,e2⟩ | ⟨t,e1,e2⟩
  ·rw [e1] at s1 s2
   simp only [Option.getD_none,Option.isSome_none] at s1 s2
   rw [e2 x.1 x.2.1 x.2.2] at cx
   (first | refine .c (s1) ?_ | refine .o (s1) ?_)
   (first | refine .c (s2) ?_ | refine .o (s2) ?_)
   (first | refine .c (cx) ?_ | refine .o (cx) ?_)
   exact .d (Yf)
  ·rw [e1] at s1 s2
   simp only [Option.getD_some,Option.isSome_some] at s1 s2
   have ct:=zid k t.1 t.2.1 t.2.2 hc.ra e2.b2 h12.z
   rw [e2.has] at ct
   (first | refine .c (s1) ?_ | refine .o (s1) ?_)
   (first | refine .c (s2) ?_ | refine .o (s2) ?_)
   (first | refine .c (ct) ?_ | refine .o (ct) ?_)
   (first | refine .c (cx) ?_ | refine .o (cx) ?_)
   refine .i ?_ ?_<;>intro h2<;>(try simp only [zb] at h2)<;>first | refine pw ?_ | exact pd
   ·exact .d (Yf)
   ·have hle:leT t (x.1,x.2.1,x.2.2):=e2.le _ _ _ hx.1 hx.2.2 h2
    unfold leT at hle
    simp only at hle
    refine .c (Yf) ?_
    refine .i ?_ ?_<;>intro h3<;>(try simp only [zb] at h3)<;>first | refine pw ?_ | exact pd
    have q1:decide (t.1=x.1)=true:=decide_eq_true (by omega)
    try simp (maxSteps:=2000000) (disch:=omega) only [go_sem,seval,q1]
    repeat ((with_reducible refine And.intro ?_ ?_);focus exact yI)
    refine .i ?_ ?_<;>intro h4<;>(try simp only [zb] at h4)<;>first | refine pw ?_ | exact pd
    have q2:decide (t.2.1=x.2.1)=true:=decide_eq_true (by omega)
    have q3:decide (t.2.2<=x.2.2)=true:=decide_eq_true (by omega)
    try simp (maxSteps:=2000000) (disch:=omega) only [go_sem,seval,q2,q3]
    repeat ((with_reducible refine And.intro ?_ ?_);focus exact yI)
end Go.Proofs.YtonhfknjcbakiaaGreatDoor
