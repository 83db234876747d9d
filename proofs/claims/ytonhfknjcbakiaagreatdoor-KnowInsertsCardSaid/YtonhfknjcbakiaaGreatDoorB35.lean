import Derived.Test.YtonhfknjcbakiaaGreatDoorB6
import Derived.Test.YtonhfknjcbakiaaGreatDoorB16
import Derived.Test.YtonhfknjcbakiaaGreatDoorB34
set_option maxHeartbeats 16000000
set_option linter.unusedVariables false
set_option linter.unusedSimpArgs false
set_option maxRecDepth 100000
namespace Go.Proofs.YtonhfknjcbakiaaGreatDoor
open Go.RowKit
theorem zgI (a b:List Iv) (hl:a.length<=1152921504606846976):Cn Tryz.prog 55 [rg a,rg b] (.v (.bool (decide (a=b)))):=by
 refine zt Tryz.func55 2 ?_
 refine pw ?_
 refine .i ?_ ?_<;>intro j<;>(try simp only [nrm_l] at j)<;>first | refine pw ?_ | exact pd
 ·symm
  rw [decide_eq_false_iff_not]
  rintro rfl
  exact j rfl
 ·have y:a.length=b.length:=by simpa using j
  clear j
  refine pLoop.go (fun k=>k<=a.length/\(a=b ↔ a.drop k=b.drop k)) (fun k=>[(5,.v (.int .i64 (k:Nat)))]) (fun _=>[]) (fun k=>a.length - k) 0 [5] ?_ ?_ ?_
  ·exact⟨Nat.zero_le _,Iff.rfl⟩
  ·exact pd
  ·rintro k ⟨hk,u⟩
   refine pw ?_
   refine .i ?_ ?_<;>intro h<;>(try simp only [nrm_l] at h)<;>first | refine pw ?_ | exact pd
   ·have w:k<b.length:=by omega
    rw [List.drop_eq_getElem_cons h,List.drop_eq_getElem_cons w,List.cons.injEq] at u
    refine pw ?_
    refine .i ?_ ?_<;>intro e<;>(try simp only [nrm_l] at e)<;>first | refine pw ?_ | exact pd
    ·symm
     rw [decide_eq_false_iff_not]
     intro A
     have:=(u.1 A).1
     rcases (by simpa using e:¬ a[k].lo=b[k].lo\/¬ a[k].hi=b[k].hi) with e | e
     ·exact e (congrArg Iv.lo this)
     ·exact e (congrArg Iv.hi this)
    ·refine⟨k+1,⟨h,?_⟩,by omega,rfl⟩
     rw [u]
     have e:a[k].lo=b[k].lo/\a[k].hi=b[k].hi:=by simpa using e
     exact⟨fun h=>h.2,fun h=>⟨Iv.ext' e.1 e.2,h⟩⟩
   ·rw [eq_comm,decide_eq_true_eq,u,List.drop_of_length_le h,List.drop_of_length_le (by omega)]
theorem VX (u:List (List Iv)) (H:u.length<=1048576) (I:∀ l ∈ u,l.length<=1048576) (K:(yU u).length<=1048576) (P:∀ l ∈ u,∀ s ∈ l,s.lo<M64/\s.hi<M64):Cn Tryz.prog 171 [rgs u] (.sl ((zH u).map yN) .sh):=by
 have Q:=zw
 refine zt Tryz.func171 1 ?_
 refine pw ?_
 refine pLoop.go (fun i=>i<=u.length) (fun i=>[(3,.sl ((kA u i 0).map yN) (.r 9 1)),(4,.v (.int .i64 (i:Nat)))]) (fun _=>[]) (fun i=>u.length - i) 0 [3,4,9] ?_ ?_ ?_
 ·exact Nat.zero_le _
 ·rw [zf6]
  exact pd
 ·rintro i hi
  refine pw ?_
  refine .i ?_ ?_<;>intro h<;>(try simp only [nrm_l] at h)<;>first | refine pw ?_ | exact pd
  ·have S:=I _ (List.getElem_mem h)
   refine pLoop.go (fun j=>j<=u[i].length) (fun j=>[(3,.sl ((kA u i j).map yN) (.r 9 1)),(5,.v (.int .i64 (j:Nat)))]) (fun _=>[]) (fun j=>u[i].length - j) 0 [3,5,9] ?_ ?_ ?_
   ·exact Nat.zero_le _
   ·exact pd
   ·rintro j N
    have B:=zdK j h
    refine pw ?_
    refine .i ?_ ?_<;>intro y<;>(try simp only [nrm_l] at y)<;>first | refine pw ?_ | exact pd
    ·have hb:=P _ (List.getElem_mem h) _ (List.getElem_mem y)
     refine callQ.mk zgX rfl ?_
     refine pw ?_
     refine .i ?_ ?_<;>intro M<;>(try simp only [nrm_l] at M)<;>first | refine pw ?_ | exact pd
     ·refine⟨j+1,y,by omega,?_,rfl⟩
      rw [YF h y,jQ,if_pos (by omega)]
      simp [yN]
     ·refine⟨j+1,y,by omega,?_,rfl⟩
      rw [YF h y,jQ,if_neg (by omega)]
      simp [yN]
    ·refine⟨i+1,h,by omega,?_,rfl⟩
     rw [zbv h y]
  ·rw [zdJ h]
   generalize G:yU u=xs at K ⊢
   have F:zH u=srt xs:=by rw [<-G];rfl
   rw [F]
   refine pLoop.mk (fun k=>k<=xs.length) (fun k=>⟨[(3,.sl (xs.map yN) (.r 9 1)),(6,.sl ((srt (xs.take k)).map yN) (.r 108 1)),(7,.v (.int .i64 (k:Nat)))],[]⟩) (fun k=>xs.length - k) 0 ?_ ?_ ?_
   ·exact Nat.zero_le _
   ·rw [List.take_zero,XB]
    exact pd
   ·rintro k hk
    have B:=ju (xs.take k)
    have E:(xs.take k).length<=k:=List.length_take_le _ _
    refine pw ?_
    refine .i ?_ ?_<;>intro w<;>(try simp only [nrm_l] at w)<;>first | refine pw ?_ | exact pd
    ·refine pLoop.go (fun a=>a<=(srt (xs.take k)).length/\∀ m (h:m<(srt (xs.take k)).length),a<=m->xs[k]<(srt (xs.take k))[m]) (fun a=>[(8,.v (.int .i64 (a:Nat)))]) (fun _=>[]) (fun a=>a) (srt (xs.take k)).length [8] ?_ ?_ ?_
     ·exact⟨Nat.le_refl _,fun m H I=>absurd H (by omega)⟩
     ·exact pd
     ·rintro at_ ⟨ha,hb⟩
      refine pw ?_
      refine .i ?_ ?_<;>intro L<;>(try simp only [nrm_l] at L)<;>first | refine pw ?_ | exact pd
      ·refine .i ?_ ?_<;>intro J<;>(try simp only [nrm_l] at J)<;>first | refine pw ?_ | exact pd
       ·refine⟨at_ - 1,⟨by omega,fun m O C=>?_⟩,by omega,rfl⟩
        rcases Nat.eq_or_lt_of_le C with A | A
        ·subst A;exact J
        ·exact hb m O (by omega)
       ·refine .i ?_ ?_<;>intro C<;>(try simp only [nrm_l] at C)<;>first | refine pw ?_ | exact pd
        ·exact absurd C (by omega)
        ·refine .i ?_ ?_<;>intro A<;>(try simp only [nrm_l] at A)<;>first | refine pw ?_ | exact pd
         ·refine cutP.mk [3,7] ?_ (keepOk.mk2 rfl rfl ?_ ?_ ?_) ?_
          ·exact pd
          ·exact pd
          ·exact pd
          ·right
           exact pd
          ·refine pw ?_
           refine⟨k+1,w,by omega,?_,rfl⟩
           rw [List.take_succ_eq_append_getElem w,kJ ha hb (.inr ⟨by omega,by omega⟩)]
           simp [yN]
         ·refine⟨k+1,w,by omega,?_,rfl⟩
          rw [List.take_succ_eq_append_getElem w,zaw (by rw [<-A];exact List.getElem_mem _)]
      ·obtain rfl:at_=0:=by omega
       have hz:=kJ ha hb (.inl rfl)
       rw [<-List.take_succ_eq_append_getElem w] at hz
       refine pw ?_
       refine cutP.mk [3,7] ?_ (keepOk.mk2 rfl rfl ?_ ?_ ?_) ?_
       ·exact pd
       ·exact pd
       ·exact pd
       ·right
        exact pd
       ·refine pw ?_
        refine⟨k+1,w,by omega,?_,rfl⟩
        rw [hz]
        simp [yN]
    ·rw [List.take_of_length_le w]
theorem Kl {ls:List (List Iv)}:(zH ls).length<=(yU ls).length:=ju _
theorem zjo (a b:List Iv):(yU [a,b]).length<=1+2 * a.length+2 * b.length:=by
 have:=vq a
 have:=vq b
 simp [yU];omega
theorem zhw (a b:List Iv) (op:Nat) (ha:Nrm a) (hb:Nrm b) (ho:op<3) (K:a.length<=131072) (L:b.length<=131072):Cn Tryz.prog 147 [rg a,rg b,.v (.int .i64 op)] (rg (qy (Qj op) a b)):=by
 have M:=zw
 have C:=zjo a b
 have G:=Kl (ls:=[a,b])
 have hcut:∀ c,c ∈ z6 a\/c ∈ z6 b->c ∈ zH [a,b]:=fun c E=>qr.2 (by simp [yU];exact .inr E)
 have j:∀ x ∈ zH [a,b],x<M64:=Ze (by simp;exact⟨fun s hs=>(ha.lt s hs).1,fun s hs=>(hb.lt s hs).1⟩)
 refine zt Tryz.func147 3 ?_
 refine pw ?_
 refine callO.rd (VX [a,b] (by simp) (by simp;omega) (by omega) (by simp;exact⟨ha.lt,hb.lt⟩)) rfl ?_
 refine pw ?_
 refine pLoop.go (fun p:Nat × List Iv=>p.1<=(zH [a,b]).length/\DoInv (Qj op) a b (zH [a,b]) p.1 p.2) (fun p=>[(8,.sl (p.2.map Q2) (.r 38 2)),(9,.v (.int .i64 (p.1:Nat)))]) (fun _=>[]) (fun p=>(zH [a,b]).length - p.1) (0,[]) [8,9] ?_ ?_ ?_
 ·exact⟨Nat.zero_le _,DoInv.zero _⟩
 ·exact pd
 ·rintro⟨i,w⟩ ⟨hi,u⟩
  simp only at hi u
  have F:=u.len
  refine pw ?_
  refine .i ?_ ?_<;>intro h<;>(try simp only [nrm_l] at h)<;>first | refine pw ?_ | exact pd
  ·refine callQ.mk (kU a _ (by omega)) rfl ?_
   refine pw ?_
   refine callQ.mk (kU b _ (by omega)) rfl ?_
   refine pw ?_
   refine callQ.mk (zi5 _ _ op ho) rfl ?_
   obtain⟨H,I⟩:=u.step ha hb (x8 _) j hcut h
   refine pw ?_
   refine .i ?_ ?_<;>intro y<;>(try simp only [nrm_l] at y)<;>first | refine pw ?_ | exact pd
   ·refine callP.mk (zan _ i h (by omega) fun B=>?_) rfl ?_
    ·have:=jJ (x8 [a,b]) B (Nat.lt_succ_self i)
     have:=j _ (List.getElem_mem B)
     omega
    have J:=H y
    have A:=j _ (List.getElem_mem h)
    refine pw ?_
    refine callO.mk (zlq w ⟨(zH [a,b])[i],if h:i+1<(zH [a,b]).length then (zH [a,b])[i+1] - 1 else M64 - 1⟩ A (fun t ht=>?_) (by omega)) rfl ?_
    ·have e:KD (zH [a,b]) i=(zH [a,b])[i]:=dif_pos h
     have:=u.lt t ht
     have:=u.nrm.lt t ht
     show _/\t.hi<(zH [a,b])[i]
     omega
    refine pw ?_
    exact⟨(i+1,_),⟨h,J⟩,by omega,rfl,rfl⟩
   ·exact⟨(i+1,w),⟨h,I y⟩,by omega,rfl,rfl⟩
  ·obtain rfl:i=(zH [a,b]).length:=by omega
   rw [u.done ha hb]
theorem znf:Qj 0=zn:=rfl
theorem Kf (a b:List Iv) (ha:Nrm a) (hb:Nrm b) (j:a.length<=131072) (u:b.length<=131072):Cn Tryz.prog 151 [rg a,rg b] (rg (qy zn a b)):=by
 refine zt Tryz.func151 2 ?_
 refine pw ?_
 refine callP.mk (zhw a b 0 ha hb (by omega) j u) rfl ?_
 refine pw ?_
 rfl
theorem zqZ (a b:List Iv) (ha:Nrm a) (hb:Nrm b) (j:a.length<=131072) (u:b.length<=131072):Cn Tryz.prog 98 [rg a,rg b] (rg (qy y5 a b)):=by
 refine zt Tryz.func98 2 ?_
 refine pw ?_
 refine callP.mk (zhw a b 1 ha hb (by omega) j u) rfl ?_
 refine pw ?_
 rfl
theorem QE (a b:List Iv) (ha:Nrm a) (hb:Nrm b) (j:a.length<=131072) (u:b.length<=131072):Cn Tryz.prog 133 [rg a,rg b] (rg (qy zm a b)):=by
 refine zt Tryz.func133 2 ?_
 refine pw ?_
 refine callP.mk (zhw a b 2 ha hb (by omega) j u) rfl ?_
 refine pw ?_
 rfl
theorem zd6 (s:Iv):Cn Tryz.prog 119 [Je s] (.v (.bool (decide (s.lo<=s.hi)))):=by
 refine zt Tryz.func119 1 ?_
 exact pd
def y7 (l:List Iv) (k:Nat):Option Iv:=if k=0 then none else l[k - 1]?
theorem XO (l:List Iv) (hl:l.length<=9223372036854775807) (hb:∀ s ∈ l,s.lo<M64/\s.hi<M64):Cn Tryz.prog 76 [rg l] (.tup [.v (.int .i64 (Zl l).1),.v (.int .i64 (Zl l).2)]):=by
 refine zt Tryz.func76 1 ?_
 refine pw ?_
 refine pLoop.go (fun k=>k<=l.length/\Zl l=QZ (y7 l k) (l.drop k) k) (fun k=>[(4,.v (.int .i64 (k:Nat)))]) (fun _=>[]) (fun k=>l.length - k) 0 [4] ?_ ?_ ?_
 ·exact⟨Nat.zero_le _,rfl⟩
 ·exact pd
 ·rintro k ⟨hk,a⟩
  refine pw ?_
  refine .i ?_ ?_<;>intro h<;>(try simp only [nrm_l] at h)<;>first | refine pw ?_ | exact pd
  ·refine callP.mk (zd6 l[k]) rfl ?_
   rw [Yj h] at a
   refine pw ?_
   refine .i ?_ ?_<;>intro w<;>(try simp only [nrm_l] at w)<;>first | refine pw ?_ | exact pd
   ·rw [if_neg (by omega)] at a
    rw [a]
    rfl
   ·rw [if_pos w] at a
    have hs:y7 l (k+1)=some l[k]:=by unfold y7;rw [if_neg (by omega)];exact List.getElem?_eq_getElem h
    refine .i ?_ ?_<;>intro y<;>(try simp only [nrm_l] at y)<;>first | refine pw ?_ | exact pd
    ·have u:y7 l k=some l[k - 1]:=by unfold y7;rw [if_neg (by omega),List.getElem?_eq_getElem]
     rw [u] at a
     refine callQ.mk (zd3 l[k - 1] l[k] (hb _ (List.getElem_mem _)).1 (hb _ (List.getElem_mem _)).1) rfl ?_
     refine pw ?_
     refine .i ?_ ?_<;>intro j<;>(try simp only [nrm_l] at j)<;>first | refine pw ?_ | exact pd
     ·rw [if_neg (by simpa using j)] at a
      rw [a]
      rfl
     ·rw [if_pos (by simpa using j)] at a
      exact⟨k+1,⟨h,by rw [hs];exact a⟩,by omega,rfl⟩
    ·have u:y7 l k=none:=by unfold y7;rw [if_pos (by omega)]
     rw [u] at a
     exact⟨k+1,⟨h,by rw [hs];exact a⟩,by omega,rfl⟩
  ·rw [List.drop_of_length_le h] at a
   rw [a]
   rfl
theorem n23:Nrm [⟨2,3⟩,⟨9,9⟩]:=by simp [Nrm,NF,zw]
theorem n01:Nrm [⟨0,1⟩,⟨4,8⟩]:=by simp [Nrm,NF,zw]
theorem n09:Nrm [⟨0,9⟩]:=by simp [Nrm,NF,zw]
theorem e1:qy zm [⟨0,9⟩] [⟨2,3⟩,⟨9,9⟩]=[⟨0,1⟩,⟨4,8⟩]:=vK n09 n23 n01 fun x _=>by rw [Bool.eq_iff_iff];simp [mem,zm];omega
theorem e2:qy zn [⟨2,3⟩,⟨9,9⟩] [⟨0,1⟩,⟨4,8⟩]=[⟨0,9⟩]:=vK n23 n01 n09 fun x _=>by rw [Bool.eq_iff_iff];simp [mem,zn];omega
theorem e4:qy zm [⟨2,3⟩,⟨9,9⟩] [⟨0,1⟩,⟨4,8⟩]=[⟨2,3⟩,⟨9,9⟩]:=vK n23 n01 n23 fun x _=>by rw [Bool.eq_iff_iff];simp [mem,zm];omega
theorem e5:qy y5 [⟨2,3⟩,⟨9,9⟩] [⟨0,1⟩,⟨4,8⟩]=[]:=vK n23 n01 trivial fun x _=>by rw [Bool.eq_iff_iff];simp [mem,y5];omega
theorem e6:qy zm [⟨2,3⟩,⟨9,9⟩] [⟨0,1⟩,⟨4,8⟩]=[⟨2,3⟩,⟨9,9⟩]:=vK n23 n01 n23 fun x _=>by rw [Bool.eq_iff_iff];simp [mem,zm];omega
def BdR (l:List Iv):Prop:=∀ s ∈ l,s.lo<M64/\s.hi<M64
def ec (e:En):List PV:=[.v (.int .u64 e.rep),.v (.int .u64 e.max),rg e.holes]
def ep (e:En):PV:=.agg (ec e)
attribute [go_sem] ep ec
theorem zjh (a b:En) (hl:a.holes.length<=1152921504606846976):Cn Tryz.prog 109 [ep a,ep b] (.v (.bool (decide (a=b)))):=by
 refine zt Tryz.func109 2 ?_
 refine pw ?_
 have j:(a=b) ↔ (a.rep=b.rep/\a.max=b.max/\a.holes=b.holes):=⟨fun h=>by subst h;exact⟨rfl,rfl,rfl⟩,fun h=>En.ext' h.1 h.2.1 h.2.2⟩
 refine .i ?_ ?_<;>intro u<;>(try simp only [nrm_l] at u)<;>first | refine pw ?_ | exact pd
 ·refine .i ?_ ?_<;>intro w<;>(try simp only [nrm_l] at w)<;>first | refine pw ?_ | exact pd
  ·refine .c (zgI a.holes b.holes hl) ?_
   simp [j,u,w]
  ·simp [j,w]
 ·simp [j,u]
def hk (m:Nat):List Iv->Nat->Nat × Int
 | [],_=>(0,-1)
 | s::r,i=>if m<s.hi then (4,(i:Int)) else hk m r (i+1)
def yV (e:En):Nat × Int:=if (Zl e.holes).1=0 then hk e.max e.holes 0 else Zl e.holes
theorem K4 (m:Nat):∀(l:List Iv) (i:Nat),(hk m l i).1=0 ↔ ∀ s ∈ l,s.hi<=m
 | [],i=>by simp [hk]
 | s::r,i=>by
   have:=K4 m r (i+1)
   unfold hk
   split
   ·simp;omega
   ·rw [this];simp;omega
theorem K3 {m:Nat} {l:List Iv} {k:Nat} (h:k<l.length):hk m (l.drop k) k=if m<l[k].hi then (4,(k:Int)) else hk m (l.drop (k+1)) (k+1):=by
 rw [List.drop_eq_getElem_cons h];rfl
def Xu (e:En):Bool:=decide ((yV e).1=0)
theorem VU {e:En} (h:∀ s ∈ e.holes,s.lo<M64/\s.hi<M64) (u:e.max<M64) (w:e.rep<M64):Xu e=true ↔ zO e:=by
 have j:=YT (l:=e.holes) fun s hs=>(h s hs).2
 have hz:=K4 e.max e.holes 0
 unfold Xu yV zO
 rw [decide_eq_true_eq]
 by_cases a:(Zl e.holes).1=0
 ·rw [if_pos a,hz]
  exact⟨fun g=>⟨j.1 a,g,u,w⟩,fun g=>g.2.1⟩
 ·rw [if_neg a]
  exact⟨fun g=>absurd g a,fun g=>absurd (j.2 g.1) a⟩
theorem zcj (e:En) (hl:e.holes.length<=9223372036854775807) (hb:∀ s ∈ e.holes,s.lo<M64/\s.hi<M64):Cn Tryz.prog 137 [ep e] (.tup [.v (.int .i64 (yV e).1),.v (.int .i64 (yV e).2)]):=by
 refine zt Tryz.func137 1 ?_
 refine pw ?_
 refine .c (XO e.holes hl hb) ?_
 refine .i ?_ ?_<;>intro h<;>(try simp only [nrm_l] at h)<;>first | refine pw ?_ | exact pd
 ·unfold yV
  rw [if_neg (by omega)]
 ·refine pLoop.go (fun k=>k<=e.holes.length/\yV e=hk e.max (e.holes.drop k) k) (fun k=>[(6,.v (.int .i64 (k:Nat)))]) (fun _=>[ec e]) (fun k=>e.holes.length - k) 0 [6] ?_ ?_ ?_
  ·refine⟨Nat.zero_le _,?_⟩
   unfold yV
   rw [if_pos (by omega)];rfl
  ·exact pd
  ·rintro k ⟨w,a⟩
   refine pw ?_
   refine .i ?_ ?_<;>intro j<;>(try simp only [nrm_l] at j)<;>first | refine pw ?_ | exact pd
   ·rw [K3 j] at a
    refine .i ?_ ?_<;>intro u<;>(try simp only [nrm_l] at u)<;>first | refine pw ?_ | exact pd
    ·rw [a,if_pos u]
     simp
    ·rw [if_neg (by omega)] at a
     exact⟨k+1,⟨j,a⟩,by omega,rfl⟩
   ·rw [List.drop_of_length_le j] at a
    rw [a]
    simp [hk]
theorem Vl (e:En) (h:zO e) (hl:e.holes.length<=131072):Cn Tryz.prog 89 [ep e] (rg (kn e)):=by
 refine zt Tryz.func89 1 ?_
 refine pw ?_
 refine .c (QE [⟨0,e.max⟩] e.holes (qG (Nat.zero_le _) h.2.2.1) h.1 (by simp) hl) ?_
 rfl
theorem zg1 (r:Nat) (l:List Iv) (hl:Nrm l) (a:l.length<=131072):Cn Tryz.prog 146 [.v (.int .u64 r),rg l] (.tup [ep (Qi r l).1,.v (.bool (Qi r l).2)]):=by
 refine zt Tryz.func146 2 ?_
 refine pw ?_
 refine .i ?_ ?_<;>intro h<;>(try simp only [nrm_l] at h)<;>first | refine pw ?_ | exact pd
 ·subst h
  rfl
 ·have u:0<l.length:=List.length_pos_iff.2 (by simpa using h)
  have ht:=Kr u
  have j:=(x9 hl (by simpa using h)).2
  try simp (maxSteps:=2000000) (disch:=omega) only [go_sem,seval,ht]
  repeat ((with_reducible refine And.intro ?_ ?_);focus exact yI)
  refine .c (QE [⟨0,QV l⟩] l (qG (Nat.zero_le _) j) hl (by simp) a) ?_
  rw [qD (by simpa using h)]
theorem zgE (x:Nat) (j:x<M64):Cn Tryz.prog 197 [.v (.int .u64 x)] (.tup [.v (.int .u64 (x - 1:Nat)),.v (.bool (decide (x≠0)))]):=by
 have a:=zw
 refine zt Tryz.func197 1 ?_
 refine pw ?_
 refine .i ?_ ?_<;>intro h<;>(try simp only [nrm_l] at h)<;>first | refine pw ?_ | exact pd
 ·subst h
  rfl
 ·simp [h]
theorem zeq (x:Nat):Cn Tryz.prog 127 [.v (.int .u64 x)] (Je ⟨0,x⟩):=by
 refine zt Tryz.func127 1 ?_
 (first | refine pw ?_ | exact pd)
 try rfl
theorem XZ (e:En) (h:zO e) (hl:e.holes.length<=131072):Cn Tryz.prog 85 [ep e] (rg (kn e)):=by
 refine zt Tryz.func85 1 ?_
 refine pw ?_
 refine .c (zeq e.max) ?_
 refine .c (zg0 e.holes ⟨0,e.max⟩ h.1 (Nat.zero_le _) h.2.2.1 (by omega)) ?_
 rfl
theorem zjT (r:Nat) (l:List Iv) (hl:Nrm l) (u:l.length<=131072):Cn Tryz.prog 136 [.v (.int .u64 r),rg l] (.tup [ep (Qi r l).1,.v (.bool (Qi r l).2)]):=by
 refine zt Tryz.func136 2 ?_
 refine pw ?_
 refine .i ?_ ?_<;>intro h<;>(try simp only [nrm_l] at h)<;>first | refine pw ?_ | exact pd
 ·subst h
  rfl
 ·have j:0<l.length:=List.length_pos_iff.2 (by simpa using h)
  have ht:=Kr j
  have a:=(x9 hl (by simpa using h)).2
  try simp (maxSteps:=2000000) (disch:=omega) only [go_sem,seval,ht]
  repeat ((with_reducible refine And.intro ?_ ?_);focus exact yI)
  refine .c (zeq (QV l)) ?_
  refine .c (zg0 l ⟨0,QV l⟩ hl (Nat.zero_le _) a (by omega)) ?_
  rw [qD (by simpa using h)]
section
variable (a b:En) (ha:zO a) (hb:zO b) (la:a.holes.length<=10000) (lb:b.holes.length<=10000)
include ha hb la lb
end
theorem JQ {l:List Iv} (h:0<l.length):l=l.take (l.length - 1)++[l[l.length - 1]]:=by
 conv=>lhs;rw [<-List.take_append_drop (l.length - 1) l]
 congr 1
 rw [List.drop_eq_getElem_cons (by omega),List.drop_of_length_le (by omega)]
theorem zeP (e:En) (h:zO e) (hl:e.holes.length<=10000):Cn Tryz.prog 167 [ep e] (.tup [ep (kP e).1,.v (.bool (kP e).2)]):=by
 have H:=zw
 refine zt Tryz.func167 1 ?_
 refine pw ?_
 refine pLoop.go (fun f:En=>zO f/\f.rep=e.rep/\kn f=kn e/\f.holes.length<=e.holes.length) (fun _=>[]) (fun f=>[ec f,[.v (.int .u64 0),.v (.int .u64 0),.sl [] .sh]]) (fun f=>f.holes.length) e [] ?_ ?_ ?_
 ·exact⟨h,rfl,rfl,Nat.le_refl _⟩
 ·exact pd
 ·rintro f ⟨a,A,w,G⟩
  have u:YP f->Qi e.rep (kn e)=(f,true):=fun u=>by rw [<-A,<-w];exact ZM u
  unfold kP
  refine pw ?_
  refine .i ?_ ?_<;>intro B<;>(try simp only [nrm_l] at B)<;>first | refine pw ?_ | exact pd
  ·have hs:=JQ B
   have hb:=NF.lo_ge a.1 _ (List.getElem_mem (show f.holes.length - 1<f.holes.length by omega))
   have C:=a.2.2.1
   refine pw ?_
   refine .i ?_ ?_<;>intro j<;>(try simp only [nrm_l] at j)<;>first | refine pw ?_ | exact pd
   ·rw [u (zcc a hs j)]
   ·refine .c (zgE (f.holes[f.holes.length - 1]).lo (by omega)) ?_
    refine .i ?_ ?_<;>intro y<;>(try simp only [nrm_l] at y)<;>first | refine pw ?_ | exact pd
    ·rw [<-w,Jl a hs j (by simpa using y)]
     rfl
    ·obtain⟨E,F⟩:=Jm a hs j (by first | omega | (simp at y;omega))
     refine⟨⟨f.rep,f.holes[f.holes.length - 1].lo - 1,f.holes.take (f.holes.length - 1)⟩,⟨E,A,F.trans w,by simp;omega⟩,by simp;omega,?_⟩
     exact pd
  ·rw [u (Xb a (List.eq_nil_of_length_eq_zero (by omega)))]
theorem zi9 {n:Int} (h : -9223372036854775808<=n/\n<9223372036854775808):IntKind.i64.wrap n=n:=by
 simp only [IntKind.wrap,IntKind.bits,IntKind.signed]
 simp
 omega
theorem KV (p:Nat->Prop) [DecidablePred p]:∀ n,(∀ i j,i<=j->j<n->p j->p i)->∃ i,i<=n/\(∀ j,j<i->p j)/\∀ j,i<=j->j<n->¬ p j
 | 0,_=>⟨0,Nat.le_refl _,fun j h=>absurd h (by omega),fun j w a=>absurd a (by omega)⟩
 | n+1,h=>by
   by_cases A:p n
   ·exact⟨n+1,Nat.le_refl _,fun j E=>h j n (by omega) (by omega) A,fun j w a=>absurd a (by omega)⟩
   ·obtain⟨i,w,a,B⟩:=KV p n fun i j u E=>h i j u (by omega)
    refine⟨i,by omega,a,fun j C F=>?_⟩
    rcases Nat.lt_or_ge j n with y | y
    ·exact B j C y
    ·obtain rfl:j=n:=by omega
     exact A
attribute [go_sem] zi9
theorem zhn (l:List Iv) (x:Nat) (g:FuncId) (c:Nat->Int) (i:Nat) (hi:i<=l.length) (F:∀ j,j<i->c j<0) (G:∀ j,i<=j->j<l.length->0<=c j) (hl:l.length<=1152921504606846976)
 (u:∀ k (h:k<l.length),Cn Tryz.prog g [Je l[k],.v (.int .u64 x)] (.v (.int .i64 (c k)))):Cn Tryz.prog 190 [rg l,.v (.int .u64 x),.fn (.func g) [] []] (.tup [.v (.int .i64 i),.v (.bool (decide (i<l.length) && decide (c i=0)))]):=by
 refine zt Tryz.func190 3 ?_
 refine pw ?_
 refine pLoop.go (fun p:Nat × Nat=>p.1<=i/\i<=p.2/\p.2<=l.length) (fun p=>[(9,.v (.int .i64 (p.1:Nat))),(10,.v (.int .i64 (p.2:Nat)))]) (fun _=>[]) (fun p=>p.2 - p.1) (0,l.length) [9,10] ?_ ?_ ?_
 ·exact⟨Nat.zero_le _,hi,Nat.le_refl _⟩
 ·exact pd
 ·rintro⟨p,q⟩ ⟨B,C,E⟩
  simp only at B C E
  refine pw ?_
  refine .i ?_ ?_<;>intro h<;>(try simp only [nrm_l] at h)<;>first | refine pw ?_ | exact pd
  ·have A:(p+q) / 2<l.length:=by omega
   refine pw ?_
   (first | refine .c (u ((p+q) / 2) A) ?_ | refine .o (u ((p+q) / 2) A) ?_)
   refine .i ?_ ?_<;>intro a<;>(try simp only [nrm_l] at a)<;>first | refine pw ?_ | exact pd
   ·refine⟨((p+q) / 2+1,q),⟨?_,C,E⟩,by simp only;omega,rfl,rfl⟩
    simp only
    refine Nat.lt_of_not_le fun y=>?_
    have:=G _ y A
    omega
   ·refine⟨(p,(p+q) / 2),⟨B,?_,by simp only;omega⟩,by simp only;omega,rfl,rfl⟩
    simp only
    refine Nat.le_of_not_lt fun y=>?_
    have:=F _ y
    omega
  ·obtain rfl:p=i:=by omega
   obtain rfl:q=p:=by omega
   refine .i ?_ ?_<;>intro a<;>(try simp only [nrm_l] at a)<;>first | refine pw ?_ | exact pd
   ·(first | refine .c (u q a) ?_ | refine .o (u q a) ?_)
    simp [a]
   ·have w:¬ q<l.length:=by omega
    simp [w]
theorem zd5 (s:Iv) (x:Nat):Cn Tryz.prog 191 [Je s,.v (.int .u64 x)] (.v (.int .i64 (if s.hi<x then -1 else if x<s.lo then 1 else 0))):=by
 refine zt Tryz.func191 2 ?_
 refine pw ?_
 refine .i ?_ ?_<;>intro a<;>(try simp only [nrm_l] at a)<;>first | refine pw ?_ | exact pd
 ·rw [if_pos a]
 ·rw [if_neg (by omega)]
  refine .i ?_ ?_<;>intro j<;>(try simp only [nrm_l] at j)<;>first | refine pw ?_ | exact pd
  ·rw [if_pos j]
  ·rw [if_neg (by omega)]
theorem zdE {l:List Iv} (hl:Nrm l) (x:Nat):∃ i,i<=l.length/\(∀ j,(h:j<l.length)->j<i->l[j].hi<x)/\(∀ j,(h:j<l.length)->i<=j->x<=l[j].hi)/\(mem l x=true ↔ ∃ h:i<l.length,l[i].lo<=x):=by
 have mono:∀ {n:Nat} {l:List Iv},NF n l->∀ i j,(u:i<j)->(w:j<l.length)->l[i].hi<l[j].lo:=by
  intro n l
  induction l generalizing n with
  | nil=>intro _ i j _ w;simp at w
  | cons s l ih=>
    intro h i j u w
    obtain⟨C,rfl⟩:∃ C,j=C+1:=⟨j - 1,by omega⟩
    cases i with
    | zero=>
      have:=NF.lo_ge h.2.2.2 (l[C]'(by simpa using w)) (List.getElem_mem _)
      simp only [List.getElem_cons_zero,List.getElem_cons_succ]
      omega
    | succ i=>exact ih h.2.2.2 i C (by omega) (by simpa using w)
 obtain⟨i,H,F,I⟩:=KV (fun j=>∃ h:j<l.length,l[j].hi<x) l.length fun a b hab hb ⟨B,G⟩=>by
  refine⟨by omega,?_⟩
  rcases Nat.lt_or_eq_of_le hab with y | y
  ·have:=mono hl a b y hb
   have:=NF.lo_ge hl l[b] (List.getElem_mem _)
   omega
  ·subst y;exact G
 have A:∀ j,(h:j<l.length)->i<=j->x<=l[j].hi:=fun j w u=>by
  have:=I j u w
  exact Nat.le_of_not_lt fun h=>this ⟨w,h⟩
 refine⟨i,H,fun j w E=>(F j E).2,A,?_⟩
 rw [qf]
 constructor
 ·rintro⟨s,hs,B,G⟩
  obtain⟨j,w,rfl⟩:=List.getElem_of_mem hs
  have u:i<=j:=Nat.le_of_not_lt fun h=>by have:=(F j h).2;omega
  refine⟨by omega,?_⟩
  rcases Nat.lt_or_eq_of_le u with y | y
  ·have:=mono hl i j y w
   have:=NF.lo_ge hl (l[i]'(by omega)) (List.getElem_mem _)
   omega
  ·subst y;exact B
 ·rintro⟨h,B⟩
  exact⟨l[i],List.getElem_mem _,B,A i h (Nat.le_refl _)⟩
def zaT (x:Nat) (s:Iv):Int:=if s.hi<x then -1 else if x<s.lo then 1 else 0
theorem ziQ (l:List Iv) (x:Nat) (hl:Nrm l) (G:l.length<=1152921504606846976):Cn Tryz.prog 111 [rg l,.v (.int .u64 x)] (.v (.bool (mem l x))):=by
 obtain⟨i,C,E,B,F⟩:=zdE hl x
 have hF:Cn Tryz.prog 158 [rg l,.v (.int .u64 x)] (.v (.int .i64 (if mem l x then (i:Int) else -1))):=by
  refine zt Tryz.func158 2 ?_
  refine pw ?_
  refine .c (zhn l x 191 (fun k=>if h:k<l.length then zaT x l[k] else 0) i C (fun j A=>by rw [dif_pos (show j<l.length by omega)];unfold zaT;rw [if_pos (E j (by omega) A)];decide) (fun j A w=>by rw [dif_pos w];unfold zaT;rw [if_neg (by have:=B j w A;omega)];split<;>decide) G (fun k h=>by rw [dif_pos h];exact zd5 l[k] x)) ?_
  have e:(decide (i<l.length) && decide ((if h:i<l.length then zaT x l[i] else 0)=0))=mem l x:=by
   rw [Bool.eq_iff_iff,F]
   simp only [Bool.and_eq_true,decide_eq_true_eq]
   constructor
   ·rintro⟨u,a⟩
    refine⟨u,?_⟩
    rw [dif_pos u] at a
    unfold zaT at a
    split at a
    ·cases a
    ·split at a
     ·cases a
     ·omega
   ·rintro⟨u,a⟩
    refine⟨u,?_⟩
    rw [dif_pos u]
    unfold zaT
    rw [if_neg (by have:=B i u (Nat.le_refl _);omega),if_neg (by omega)]
  rw [e]
  refine .i ?_ ?_<;>intro y<;>(try simp only [nrm_l] at y)<;>first | refine pw ?_ | exact pd
  ·rw [y];rfl
  ·rw [y];rfl
 refine zt Tryz.func111 2 ?_
 refine pw ?_
 (first | refine .c (hF) ?_ | refine .o (hF) ?_)
 cases mem l x<;>simp
theorem zoS (e:En) (c:Nat) (h:zO e) (u:e.holes.length<=1152921504606846976):Cn Tryz.prog 155 [ep e,.v (.int .u64 c)] (.v (.bool (decide (c<=e.max) && !mem e.holes c))):=by
 refine zt Tryz.func155 2 ?_
 refine pw ?_
 refine .i ?_ ?_<;>intro j<;>(try simp only [nrm_l] at j)<;>first | refine pw ?_ | exact pd
 ·refine .c (ziQ e.holes c h.1 u) ?_
  simp [j]
 ·have a:¬ c<=e.max:=by omega
  simp [a]
def vp (v:List En):PV:=.sl (v.map ec) .sh
attribute [go_sem] vp
def ZL (e:En):Prop:=(∀ s ∈ e.holes,s.lo<M64/\s.hi<M64)/\e.max<M64/\e.rep<M64
def ea:En:=⟨1,2,[]⟩
def eb:En:=⟨1,5,[⟨3,4⟩]⟩
def ed:En:=⟨1,5,[]⟩
section
variable (a b:En) (ha:ZL a) (hb:ZL b)
include ha hb
end
theorem ze4 {D:Nat->Nat->Prop} {w:World} {x:Value} {v:List En} (h:Dat D w x (vp v)) (F:∀ b o,D b o->b<w.heap.size) (hb:∀ e ∈ v,ZL e):RdV w.heap.size w x v:=by
 unfold vp at h
 generalize G:v.map ec=es at h
 cases h with
 | sl a cap sz es o b off u hc hz hm ha hsz hd hx=>
   have hl:es.length=v.length:=by rw [<-G];simp
   refine⟨a,cap,by rw [hl],by omega,hm,fun B=>?_⟩
   have y:0<v.length:=List.length_pos_iff.2 B
   have g:∀ i (h:i<v.length),es[i]? = some (ec v[i]):=fun i h=>by rw [<-G];exact xo h
   obtain rfl:3=sz:=hsz 0 _ (g 0 y)
   have A:es≠[]:=by intro e;subst e;simp at hl;omega
   have j:b<w.heap.size:=F _ _ (hd 0 (by omega)).1
   refine⟨b,off,ha A,Nat.zero_le _,j,fun i hi=>?_⟩
   have J:=(hx i _ 0 _ (g i hi) rfl).v_inv
   have e1:=(hx i _ 1 _ (g i hi) rfl).v_inv
   have e2:=hx i _ 2 _ (g i hi) rfl
   have C:=(hd (i * 3+0) (by omega)).2.1
   have E:=(hd (i * 3+1) (by omega)).2.1
   have I:=(hd (i * 3+2) (by omega)).2.1
   rw [J] at C
   rw [e1] at E
   obtain⟨b1,b2,H⟩:=hb _ (List.getElem_mem hi)
   exact⟨C,E,⟨_,I,je e2 F b1⟩,H,b2⟩
def ns (l:List Nat):PV:=.sl (l.map yN) .sh
attribute [go_sem] ns
theorem vL {D:Nat->Nat->Prop} {base:Nat} {w:World} {v:Value} {l:List Nat} (h:OwnN base w v l) (F:∀ b o,base<=b->b<w.heap.size->D b o):Dat D w v (ns l):=by
 unfold ns
 have a:(l.map yN).length=l.length:=by simp
 rcases id h.2 with⟨rfl,E⟩ | ⟨g,y,C,rfl,H,I,J,G,_⟩
 ·obtain rfl:l=[]:=List.length_eq_zero_iff.1 E
  exact .sl none 0 1 [] .sh 0 0 (fun _=>undef) (by simp) (fun h=>by cases h) (by unfold maxLen;omega) (fun h=>absurd rfl h) (fun i e h=>by simp at h) (fun j h=>by simp at h) (fun i e j p h=>by simp at h)
 ·rw [<-a]
  refine .sl _ y 1 _ .sh g 0 (fun j=>.int .u64 (l.getD j 0:Nat)) (by simpa using J) (fun h=>by cases h) G (fun _=>rfl) (fun i e h=>?_) (fun j B=>?_) (fun i e j p A u=>?_)
  ·simp only [List.getElem?_map,Option.map_eq_some_iff] at h
   obtain⟨s,_,rfl⟩:=h
   rfl
  ·simp only [List.length_map,Nat.mul_one] at B
   refine⟨F _ _ H (Array.getElem?_eq_some_iff.1 I).1,?_,rfl⟩
   rw [Nat.zero_add,h.cellAt _ (by simpa using B)]
   simp [B]
  ·have hi:i<l.length:=by have:=(List.getElem?_eq_some_iff.1 A).1;simpa using this
   rw [xo hi] at A
   cases A
   match j,u with
   | 0,u=>cases u;simp [hi];exact .v _
   | j+1,u=>simp [yN] at u
theorem KB {a:Array Value} (h:a.size=1):a=#[a.getD 0 undef]:=by
 obtain⟨l⟩:=a
 match l,h with
 | [x],_=>rfl
theorem Yz (v:List En) (hb:∀ e ∈ v,ZL e) (hl:(zv v).length<=1073741824):Cn Tryz.prog 200 [vp v] (ns (zv v)):=by
 refine Js rfl (enters_of Tryz.func200 (by kernel_rfl) rfl) fun D w F B j C=>?_
 rw [KB j]
 refine(Q4 v _ w (ze4 (C 0 _ rfl) B hb) hl).mono ?_
 rintro e G ⟨u,rfl,E,a⟩
 exact⟨u,rfl,a,vL E fun b o y A=>.inr ⟨y,A⟩⟩
end Go.Proofs.YtonhfknjcbakiaaGreatDoor
