import Derived.Test.YtonhfknjcbakiaaGreatDoorB47
import Derived.Test.YtonhfknjcbakiaaGreatDoorB48
set_option maxHeartbeats 16000000
set_option linter.unusedVariables false
set_option linter.unusedSimpArgs false
set_option maxRecDepth 100000
namespace Go.Proofs.YtonhfknjcbakiaaGreatDoor
open Go.RowKit
def Jf:List Fg:=[⟨[⟨4,5⟩],[⟨1,5,[⟨0,2⟩]⟩]⟩]
theorem zgS:vx Jf=true:=by decide
theorem r15:RightK Jf:=by simp [Jf,RightK,ZS,RightV,zO,zw,Nrm,NF]
theorem znB:zO ⟨1,5,[⟨0,2⟩]⟩:=by simp [zO,zw,Nrm,NF]
theorem zky:kn ⟨1,5,[⟨0,2⟩]⟩=[⟨3,5⟩]:=Nrm.unique (qT znB) (by simp [Nrm,NF,zw]) fun x hx=>by
 unfold kn
 rw [qj (qG (by decide) (by rw [zw];decide)) (by simp [Nrm,NF,zw]) hx]
 simp only [zm,zz,mem,List.any_nil,Bool.or_false]
 rw [Bool.eq_iff_iff]
 simp
 omega
theorem zfD:kY Jf=some (4,1,3):=by simp [kY,Jf,V3,XE,zky,Vq]
theorem zkj:hasK Jf 4 1 3=true:=by
 rw [zfo r15]
 exact⟨_,by simp [Jf];rfl,by simp [mem],_,by simp;rfl,rfl,by rw [zky];simp [mem]⟩
theorem ziZ:vh zm [] Jf=[]:=(V0 (fun f h=>by cases h) r15).2 fun i r c _ _ h=>by cases h
theorem zeg:vh zm Jf []≠[]:=fun h=>by
 have:=(V0 r15 (fun f h=>by cases h)).1 h 4 1 3 (by rw [zw];decide) (by rw [zw];decide) zkj
 cases this
theorem zjN:vh y5 Jf []=[]:=(KP rfl r15 (fun f h=>by cases h)).2 fun i r c _ _=>by rw [zcY];simp [y5]
theorem ZZ:Cr15 Jf []:=⟨r15,fun f h=>(by cases h),Kn.all (by simp) zgS r15,Kn.all (by simp) (by decide) fun f h=>(by cases h),zam (by simp) fun k hk=>by
 simp at hk
 rcases hk with rfl | rfl
 ·exact⟨zgS,r15⟩
 ·exact⟨by decide,fun f h=>by cases h⟩⟩
theorem Yf:Cn Tryz.prog 30 [] (.v (.bool true)):=by
 have a1:=zfE Jf (ZZ.ka.ok12 ZZ.ok (by omega))
 have a2:=Zv [] Jf ZZ.kb ZZ.ka ZZ.ok (by omega)
 have a3:=Zw Jf [] ZZ.ka ZZ.kb ZZ.ok (by omega)
 have a4:=jE Jf [] ZZ.ka ZZ.kb ZZ.ok (by omega)
 rw [zfD] at a1
 rw [show zbC [] Jf=1 by unfold zbC;rw [if_pos ziZ,if_neg zeg]] at a2
 rw [decide_eq_false zeg] at a3
 rw [decide_eq_true zjN] at a4
 refine zt Tryz.func30 0 ?_
 refine pw ?_
 (first | refine .c (a1) ?_ | refine .o (a1) ?_)
 (first | refine .c (a2) ?_ | refine .o (a2) ?_)
 (first | refine .c (a3) ?_ | refine .o (a3) ?_)
 (first | exact .d (a4) | exact .q (a4))
theorem Kn.up {C:Nat->List Nat} {R:List Nat} {n m:Nat} {k:List Fg} (h:Kn C R n k) (hn:n<=m):Kn C R m k:=h.mono (fun _ _ h=>h) (fun _ h=>h) hn
def zpu (f:FuncId):PV:=.fn (.func f) [] []
attribute [go_sem] zpu
theorem zqI:Cn Tryz.prog 153 [] (.agg [zpu 180,zpu 181,zpu 183,zpu 185]):=by
 refine zt Tryz.func153 0 ?_
 exact pd
theorem zqE (k:List Fg) (j:Nat) (b:List Iv) (h:j<k.length) (hl:k.length<=1152921504606846976) (h1:k[j].items≠[]) (h2:k[j].vec≠[]):Cn Tryz.prog 180 [kp k,.v (.int .i64 (j:Nat)),rg b] (.v (.bool false)):=by
 have q1:decide (k[j].items=[])=false:=decide_eq_false h1
 have q2:decide (k[j].vec=[])=false:=decide_eq_false h2
 refine zt Tryz.func180 3 ?_
 try simp (maxSteps:=2000000) (disch:=omega) only [go_sem,seval,q1,q2]
 repeat ((with_reducible refine And.intro ?_ ?_);focus exact yI)
theorem zqF (k:List Fg) (j:Nat) (b:List Iv) (h:j<k.length) (hl:k.length<=1152921504606846976) (hv:CanV k[j].vec) (hs:SmV k[j].vec):Cn Tryz.prog 181 [kp k,.v (.int .i64 (j:Nat)),rg b] (.v (.bool false)):=by
 have hb:∀ e ∈ k[j].vec,ZL e:=fun e he=>Jg (hv.1 e he).1
 have hc:=zpc k[j].vec hb (by have:=hs.2.1;omega) (fun e he=>by have:=hs.2.2 e he;omega)
 rw [(zp2 hb).2 hv] at hc
 refine zt Tryz.func181 3 ?_
 refine pw ?_
 (first | exact .d (hc) | exact .q (hc))
theorem zqG (k:List Fg) (j:Nat) (b:List Iv) (h:j<k.length) (hl:k.length<=1152921504606846976) (hn:Nrm k[j].items) (hb:Nrm b) (hd:qy y5 k[j].items b=[]):Cn Tryz.prog 183 [kp k,.v (.int .i64 (j:Nat)),rg b] (.v (.bool false)):=by
 have hc:=zpG k[j].items b hn hb
 rw [decide_eq_true hd] at hc
 refine zt Tryz.func183 3 ?_
 refine pw ?_
 (first | exact .d (hc) | exact .q (hc))
theorem zqH (k:List Fg) (j:Nat) (b:List Iv) (h:j<k.length) (hl:k.length<=1152921504606846976) (hb:∀ f ∈ k,(∀ e ∈ f.vec,ZL e)/\(zv f.vec).length<=1073741824) (hd:∀ h0:0<j,zZ (zv k[j - 1].vec) (zv k[j].vec)<0):Cn Tryz.prog 185 [kp k,.v (.int .i64 (j:Nat)),rg b] (.v (.bool false)):=by
 refine zt Tryz.func185 3 ?_
 refine pw ?_
 refine .i ?_ ?_<;>intro h0<;>(try simp only [nrm_l] at h0)<;>first | refine pw ?_ | exact pd
 ·have q1:=hb k[j - 1] (List.getElem_mem _)
  have q2:=hb k[j] (List.getElem_mem _)
  have q3:=hd h0
  refine .c (Ks k[j - 1].vec k[j].vec q1.1 q2.1 q1.2 q2.2) ?_
  exact decide_eq_false (by omega)
theorem zpF {C:Nat->List Nat} {R:List Nat} {n:Nat} (k:List Fg) (hk:Kn C R n k) (hc:CanK k) (ok:OkX C R) (hn:n<=400000):Cn Tryz.prog 101 [kp k] (.v .nilIface):=by
 have hz:=hk.z hn
 have hbd:=BdK.of hk.r hz
 have hck:=Vh k hbd hz
 rw [yk ((ZN hbd).2 hk.r)] at hck
 have hl:=hz.1
 have hr:=hk.r
 have hnl:∀ f ∈ k,(zv f.vec).length<=1073741824:=fun f hf=>WV.nlen ⟨(hc.gi.ok f hf).1,(hk.ik f hf).ed,(hk.ik f hf).rep⟩ ok.1 (by have:=ok.2;omega)
 have hbe:∀ f ∈ k,(∀ e ∈ f.vec,ZL e)/\(zv f.vec).length<=1073741824:=fun f hf=>⟨fun e he=>Jg ((hr f hf).2.1 e he),hnl f hf⟩
 have hrl:=zqI
 refine zgM Tryz.func101 [12] 1 (by kernel_rfl) rfl (by simp [go_sem,seval]) ?_
 conv=>arg 4;cbv
 conv=>enter [5,1];cbv
 refine pw ?_
 (first | refine .c (hck) ?_ | refine .o (hck) ?_)
 refine pLoop.go (fun j=>j<=k.length) (fun j=>[(4,rg (zoe k j)),(16,.v (.int .i64 (j:Nat)))]) (fun _=>[]) (fun j=>k.length - j) 0 [4,16] ?_ ?_ ?_
 ·exact Nat.zero_le _
 ·refine pw ?_
  rfl
 ·rintro j hj
  obtain⟨b1,b2,b3⟩:=zon hr j hj
  refine pw ?_
  refine .i ?_ ?_<;>intro h<;>(try simp only [nrm_l] at h)<;>first | refine pw ?_ | exact pd
  ·have hf:=hc.gi.ok k[j] (List.getElem_mem h)
   have q1:=zqE k j (zoe k j) h hl hf.2.2.2 hf.2.1
   have q2:=zqF k j (zoe k j) h hl hf.1 (hk.s _ (List.getElem_mem h))
   have q3:=zqG k j (zoe k j) h hl hf.2.2.1 b1 (zpE hc h)
   have q4:=zqH k j (zoe k j) h hl hbe (fun h0=>zqy hc h0 h)
   (first | refine .c (hrl) ?_ | refine .o (hrl) ?_)
   refine pLoop.go (fun i=>i<=4) (fun i=>[(22,.v (.int .i64 (i:Nat)))]) (fun _=>[[rg k[j].items,vp k[j].vec]]) (fun i=>4 - i) 0 [22] ?_ ?_ ?_
   ·exact Nat.zero_le _
   ·exact pd
   ·rintro i hi
    refine pw ?_
    refine .i ?_ ?_<;>intro h4<;>(try simp only [nrm_l] at h4)<;>first | refine pw ?_ | exact pd
    ·have hi4:i=0\/i=1\/i=2\/i=3:=by omega
     rcases hi4 with rfl | rfl | rfl | rfl
     ·refine pw ?_
      (first | refine .c (q1) ?_ | refine .o (q1) ?_)
      exact⟨1,by omega,by omega,rfl⟩
     ·refine pw ?_
      (first | refine .c (q2) ?_ | refine .o (q2) ?_)
      exact⟨2,by omega,by omega,rfl⟩
     ·refine pw ?_
      (first | refine .c (q3) ?_ | refine .o (q3) ?_)
      exact⟨3,by omega,by omega,rfl⟩
     ·refine pw ?_
      (first | refine .c (q4) ?_ | refine .o (q4) ?_)
      exact⟨4,by omega,by omega,rfl⟩
    ·have hst:=zoZ h
     have hsl:=zp9 k j
     have hsm:=yv (List.getElem_mem h)
     have hmm:=hk.m
     refine .c (zaz (zoe k j) k[j].items b1 hf.2.2.1 (by omega)) ?_
     exact⟨j+1,h,by omega,by rw [hst],rfl⟩
end Go.Proofs.YtonhfknjcbakiaaGreatDoor
