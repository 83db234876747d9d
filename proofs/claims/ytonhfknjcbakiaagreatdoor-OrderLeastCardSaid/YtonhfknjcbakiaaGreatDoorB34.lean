import Derived.Test.YtonhfknjcbakiaaGreatDoorB6
import Derived.Test.YtonhfknjcbakiaaGreatDoorB16
import Derived.Test.YtonhfknjcbakiaaGreatDoorB33
set_option maxHeartbeats 16000000
set_option linter.unusedVariables false
set_option linter.unusedSimpArgs false
set_option maxRecDepth 100000
namespace Go.Proofs.YtonhfknjcbakiaaGreatDoor
open Go.RowKit
theorem zgI (a b:List Iv) (hl:a.length<=1152921504606846976):Cn Tryz.prog 55 [rg a,rg b] (.v (.bool (decide (a=b)))):=by
 refine zt Tryz.func55 2 ?_
 refine pw ?_
 refine .i ?_ ?_<;>intro h0<;>(try simp only [zb] at h0)<;>first | refine pw ?_ | exact pd
 ·symm
  rw [decide_eq_false_iff_not]
  rintro rfl
  exact h0 rfl
 ·have h0':a.length=b.length:=by simpa using h0
  clear h0
  refine pLoop.go (fun k=>k<=a.length/\(a=b ↔ a.drop k=b.drop k)) (fun k=>[(5,.v (.int .i64 (k:Nat)))]) (fun _=>[]) (fun k=>a.length - k) 0 [5] ?_ ?_ ?_
  ·exact⟨Nat.zero_le _,Iff.rfl⟩
  ·exact pd
  ·rintro k ⟨hk,hm⟩
   refine pw ?_
   refine .i ?_ ?_<;>intro h<;>(try simp only [zb] at h)<;>first | refine pw ?_ | exact pd
   ·have hk':k<b.length:=by omega
    rw [List.drop_eq_getElem_cons h,List.drop_eq_getElem_cons hk',List.cons.injEq] at hm
    refine pw ?_
    refine .i ?_ ?_<;>intro e<;>(try simp only [zb] at e)<;>first | refine pw ?_ | exact pd
    ·symm
     rw [decide_eq_false_iff_not]
     intro he
     have:=(hm.1 he).1
     rcases (by simpa using e:¬ a[k].lo=b[k].lo\/¬ a[k].hi=b[k].hi) with e | e
     ·exact e (congrArg Iv.lo this)
     ·exact e (congrArg Iv.hi this)
    ·refine⟨k+1,⟨h,?_⟩,by omega,rfl⟩
     rw [hm]
     have e:a[k].lo=b[k].lo/\a[k].hi=b[k].hi:=by simpa using e
     exact⟨fun h=>h.2,fun h=>⟨Iv.ext' e.1 e.2,h⟩⟩
   ·rw [eq_comm,decide_eq_true_eq,hm,List.drop_of_length_le h,List.drop_of_length_le (by omega)]
theorem VX (ls:List (List Iv)) (h1:ls.length<=1048576) (h2:∀ l ∈ ls,l.length<=1048576) (h3:(yU ls).length<=1048576) (hv:∀ l ∈ ls,∀ s ∈ l,s.lo<M64/\s.hi<M64):Cn Tryz.prog 171 [rgs ls] (.sl ((zH ls).map yN) .sh):=by
 have hM:=zw
 refine zt Tryz.func171 1 ?_
 refine pw ?_
 refine pLoop.go (fun i=>i<=ls.length) (fun i=>[(3,.sl ((kA ls i 0).map yN) (.r 9 1)),(4,.v (.int .i64 (i:Nat)))]) (fun _=>[]) (fun i=>ls.length - i) 0 [3,4,9] ?_ ?_ ?_
 ·exact Nat.zero_le _
 ·rw [zf6]
  exact pd
 ·rintro i hi
  refine pw ?_
  refine .i ?_ ?_<;>intro h<;>(try simp only [zb] at h)<;>first | refine pw ?_ | exact pd
  ·have hj:=h2 _ (List.getElem_mem h)
   refine pLoop.go (fun j=>j<=ls[i].length) (fun j=>[(3,.sl ((kA ls i j).map yN) (.r 9 1)),(5,.v (.int .i64 (j:Nat)))]) (fun _=>[]) (fun j=>ls[i].length - j) 0 [3,5,9] ?_ ?_ ?_
   ·exact Nat.zero_le _
   ·exact pd
   ·rintro j hj'
    have hlen:=zdK j h
    refine pw ?_
    refine .i ?_ ?_<;>intro hc<;>(try simp only [zb] at hc)<;>first | refine pw ?_ | exact pd
    ·have hb:=hv _ (List.getElem_mem h) _ (List.getElem_mem hc)
     refine callQ.mk zgX rfl ?_
     refine pw ?_
     refine .i ?_ ?_<;>intro hd<;>(try simp only [zb] at hd)<;>first | refine pw ?_ | exact pd
     ·refine⟨j+1,hc,by omega,?_,rfl⟩
      rw [YF h hc,jQ,if_pos (by omega)]
      simp [yN]
     ·refine⟨j+1,hc,by omega,?_,rfl⟩
      rw [YF h hc,jQ,if_neg (by omega)]
      simp [yN]
    ·refine⟨i+1,h,by omega,?_,rfl⟩
     rw [zbv h hc]
  ·rw [zdJ h]
   generalize hxs:yU ls=xs at h3 ⊢
   have hst:zH ls=srt xs:=by rw [<-hxs];rfl
   rw [hst]
   refine pLoop.mk (fun k=>k<=xs.length) (fun k=>⟨[(3,.sl (xs.map yN) (.r 9 1)),(6,.sl ((srt (xs.take k)).map yN) (.r 108 1)),(7,.v (.int .i64 (k:Nat)))],[]⟩) (fun k=>xs.length - k) 0 ?_ ?_ ?_
   ·exact Nat.zero_le _
   ·rw [List.take_zero,XB]
    exact pd
   ·rintro k hk
    have hlen:=ju (xs.take k)
    have hlen2:(xs.take k).length<=k:=List.length_take_le _ _
    refine pw ?_
    refine .i ?_ ?_<;>intro h5<;>(try simp only [zb] at h5)<;>first | refine pw ?_ | exact pd
    ·refine pLoop.go (fun a=>a<=(srt (xs.take k)).length/\∀ m (h:m<(srt (xs.take k)).length),a<=m->xs[k]<(srt (xs.take k))[m]) (fun a=>[(8,.v (.int .i64 (a:Nat)))]) (fun _=>[]) (fun a=>a) (srt (xs.take k)).length [8] ?_ ?_ ?_
     ·exact⟨Nat.le_refl _,fun m h1 h2=>absurd h1 (by omega)⟩
     ·exact pd
     ·rintro at_ ⟨ha,hb⟩
      refine pw ?_
      refine .i ?_ ?_<;>intro h6<;>(try simp only [zb] at h6)<;>first | refine pw ?_ | exact pd
      ·refine .i ?_ ?_<;>intro h7<;>(try simp only [zb] at h7)<;>first | refine pw ?_ | exact pd
       ·refine⟨at_ - 1,⟨by omega,fun m hm h8=>?_⟩,by omega,rfl⟩
        rcases Nat.eq_or_lt_of_le h8 with h9 | h9
        ·subst h9;exact h7
        ·exact hb m hm (by omega)
       ·refine .i ?_ ?_<;>intro h8<;>(try simp only [zb] at h8)<;>first | refine pw ?_ | exact pd
        ·exact absurd h8 (by omega)
        ·refine .i ?_ ?_<;>intro h9<;>(try simp only [zb] at h9)<;>first | refine pw ?_ | exact pd
         ·refine cutP.mk [3,7] ?_ (keepOk.mk2 rfl rfl ?_ ?_ ?_) ?_
          ·exact pd
          ·exact pd
          ·exact pd
          ·right
           exact pd
          ·refine pw ?_
           refine⟨k+1,h5,by omega,?_,rfl⟩
           rw [List.take_succ_eq_append_getElem h5,kJ ha hb (.inr ⟨by omega,by omega⟩)]
           simp [yN]
         ·refine⟨k+1,h5,by omega,?_,rfl⟩
          rw [List.take_succ_eq_append_getElem h5,zaw (by rw [<-h9];exact List.getElem_mem _)]
      ·obtain rfl:at_=0:=by omega
       have hz:=kJ ha hb (.inl rfl)
       rw [<-List.take_succ_eq_append_getElem h5] at hz
       refine pw ?_
       refine cutP.mk [3,7] ?_ (keepOk.mk2 rfl rfl ?_ ?_ ?_) ?_
       ·exact pd
       ·exact pd
       ·exact pd
       ·right
        exact pd
       ·refine pw ?_
        refine⟨k+1,h5,by omega,?_,rfl⟩
        rw [hz]
        simp [yN]
    ·rw [List.take_of_length_le h5]
theorem Kl {ls:List (List Iv)}:(zH ls).length<=(yU ls).length:=ju _
theorem zjo (a b:List Iv):(yU [a,b]).length<=1+2 * a.length+2 * b.length:=by
 have:=vq a
 have:=vq b
 simp [yU];omega
theorem zhw (a b:List Iv) (op:Nat) (ha:Nrm a) (hb:Nrm b) (ho:op<3) (h1:a.length<=131072) (h2:b.length<=131072):Cn Tryz.prog 147 [rg a,rg b,.v (.int .i64 op)] (rg (qy (Qj op) a b)):=by
 have hM:=zw
 have hall:=zjo a b
 have hst:=Kl (ls:=[a,b])
 have hcut:∀ c,c ∈ z6 a\/c ∈ z6 b->c ∈ zH [a,b]:=fun c hc=>qr.2 (by simp [yU];exact .inr hc)
 have hslt:∀ x ∈ zH [a,b],x<M64:=Ze (by simp;exact⟨fun s hs=>(ha.lt s hs).1,fun s hs=>(hb.lt s hs).1⟩)
 refine zt Tryz.func147 3 ?_
 refine pw ?_
 refine callO.rd (VX [a,b] (by simp) (by simp;omega) (by omega) (by simp;exact⟨ha.lt,hb.lt⟩)) rfl ?_
 refine pw ?_
 refine pLoop.go (fun p:Nat × List Iv=>p.1<=(zH [a,b]).length/\DoInv (Qj op) a b (zH [a,b]) p.1 p.2) (fun p=>[(8,.sl (p.2.map Q2) (.r 38 2)),(9,.v (.int .i64 (p.1:Nat)))]) (fun _=>[]) (fun p=>(zH [a,b]).length - p.1) (0,[]) [8,9] ?_ ?_ ?_
 ·exact⟨Nat.zero_le _,DoInv.zero _⟩
 ·exact pd
 ·rintro⟨i,out⟩ ⟨hi,hd⟩
  simp only at hi hd
  have hol:=hd.len
  refine pw ?_
  refine .i ?_ ?_<;>intro h<;>(try simp only [zb] at h)<;>first | refine pw ?_ | exact pd
  ·refine callQ.mk (kU a _ (by omega)) rfl ?_
   refine pw ?_
   refine callQ.mk (kU b _ (by omega)) rfl ?_
   refine pw ?_
   refine callQ.mk (zi5 _ _ op ho) rfl ?_
   obtain⟨s1,s2⟩:=hd.step ha hb (x8 _) hslt hcut h
   refine pw ?_
   refine .i ?_ ?_<;>intro h5<;>(try simp only [zb] at h5)<;>first | refine pw ?_ | exact pd
   ·refine callP.mk (zan _ i h (by omega) fun h'=>?_) rfl ?_
    ·have:=jJ (x8 [a,b]) h' (Nat.lt_succ_self i)
     have:=hslt _ (List.getElem_mem h')
     omega
    have s3:=s1 h5
    have hlo:=hslt _ (List.getElem_mem h)
    refine pw ?_
    refine callO.mk (zlq out ⟨(zH [a,b])[i],if h:i+1<(zH [a,b]).length then (zH [a,b])[i+1] - 1 else M64 - 1⟩ hlo (fun t ht=>?_) (by omega)) rfl ?_
    ·have e:KD (zH [a,b]) i=(zH [a,b])[i]:=dif_pos h
     have:=hd.lt t ht
     have:=hd.nrm.lt t ht
     show _/\t.hi<(zH [a,b])[i]
     omega
    refine pw ?_
    exact⟨(i+1,_),⟨h,s3⟩,by omega,rfl,rfl⟩
   ·exact⟨(i+1,out),⟨h,s2 h5⟩,by omega,rfl,rfl⟩
  ·obtain rfl:i=(zH [a,b]).length:=by omega
   rw [hd.done ha hb]
theorem znf:Qj 0=zn:=rfl
theorem QE (a b:List Iv) (ha:Nrm a) (hb:Nrm b) (h1:a.length<=131072) (h2:b.length<=131072):Cn Tryz.prog 133 [rg a,rg b] (rg (qy zm a b)):=by
 refine zt Tryz.func133 2 ?_
 refine pw ?_
 refine callP.mk (zhw a b 2 ha hb (by omega) h1 h2) rfl ?_
 refine pw ?_
 rfl
theorem zd6 (s:Iv):Cn Tryz.prog 119 [Je s] (.v (.bool (decide (s.lo<=s.hi)))):=by
 refine zt Tryz.func119 1 ?_
 exact pd
def y7 (l:List Iv) (k:Nat):Option Iv:=if k=0 then none else l[k - 1]?
theorem XO (l:List Iv) (hl:l.length<=9223372036854775807) (hb:∀ s ∈ l,s.lo<M64/\s.hi<M64):Cn Tryz.prog 76 [rg l] (.tup [.v (.int .i64 (Zl l).1),.v (.int .i64 (Zl l).2)]):=by
 refine zt Tryz.func76 1 ?_
 refine pw ?_
 refine pLoop.go (fun k=>k<=l.length/\Zl l=QZ (y7 l k) (l.drop k) k) (fun k=>[(4,.v (.int .i64 (k:Nat)))]) (fun _=>[]) (fun k=>l.length - k) 0 [4] ?_ ?_ ?_
 ·exact⟨Nat.zero_le _,rfl⟩
 ·exact pd
 ·rintro k ⟨hk,hm⟩
  refine pw ?_
  refine .i ?_ ?_<;>intro h<;>(try simp only [zb] at h)<;>first | refine pw ?_ | exact pd
  ·refine callP.mk (zd6 l[k]) rfl ?_
   rw [Yj h] at hm
   refine pw ?_
   refine .i ?_ ?_<;>intro h1<;>(try simp only [zb] at h1)<;>first | refine pw ?_ | exact pd
   ·rw [if_neg (by omega)] at hm
    rw [hm]
    rfl
   ·rw [if_pos h1] at hm
    have hs:y7 l (k+1)=some l[k]:=by unfold y7;rw [if_neg (by omega)];exact List.getElem?_eq_getElem h
    refine .i ?_ ?_<;>intro h2<;>(try simp only [zb] at h2)<;>first | refine pw ?_ | exact pd
    ·have hp:y7 l k=some l[k - 1]:=by unfold y7;rw [if_neg (by omega),List.getElem?_eq_getElem]
     rw [hp] at hm
     refine callQ.mk (zd3 l[k - 1] l[k] (hb _ (List.getElem_mem _)).1 (hb _ (List.getElem_mem _)).1) rfl ?_
     refine pw ?_
     refine .i ?_ ?_<;>intro h3<;>(try simp only [zb] at h3)<;>first | refine pw ?_ | exact pd
     ·rw [if_neg (by simpa using h3)] at hm
      rw [hm]
      rfl
     ·rw [if_pos (by simpa using h3)] at hm
      exact⟨k+1,⟨h,by rw [hs];exact hm⟩,by omega,rfl⟩
    ·have hp:y7 l k=none:=by unfold y7;rw [if_pos (by omega)]
     rw [hp] at hm
     exact⟨k+1,⟨h,by rw [hs];exact hm⟩,by omega,rfl⟩
  ·rw [List.drop_of_length_le h] at hm
   rw [hm]
   rfl
theorem n23:Nrm [⟨2,3⟩,⟨9,9⟩]:=by simp [Nrm,NF,zw]
theorem n01:Nrm [⟨0,1⟩,⟨4,8⟩]:=by simp [Nrm,NF,zw]
theorem n09:Nrm [⟨0,9⟩]:=by simp [Nrm,NF,zw]
theorem e1:qy zm [⟨0,9⟩] [⟨2,3⟩,⟨9,9⟩]=[⟨0,1⟩,⟨4,8⟩]:=vK n09 n23 n01 fun x _=>by rw [Bool.eq_iff_iff];simp [mem,zm];omega
theorem e2:qy zn [⟨2,3⟩,⟨9,9⟩] [⟨0,1⟩,⟨4,8⟩]=[⟨0,9⟩]:=vK n23 n01 n09 fun x _=>by rw [Bool.eq_iff_iff];simp [mem,zn];omega
theorem e4:qy zm [⟨2,3⟩,⟨9,9⟩] [⟨0,1⟩,⟨4,8⟩]=[⟨2,3⟩,⟨9,9⟩]:=vK n23 n01 n23 fun x _=>by rw [Bool.eq_iff_iff];simp [mem,zm];omega
theorem e5:qy y5 [⟨2,3⟩,⟨9,9⟩] [⟨0,1⟩,⟨4,8⟩]=[]:=vK n23 n01 trivial fun x _=>by rw [Bool.eq_iff_iff];simp [mem,y5];omega
theorem e6:qy zm [⟨2,3⟩,⟨9,9⟩] [⟨0,1⟩,⟨4,8⟩]=[⟨2,3⟩,⟨9,9⟩]:=vK n23 n01 n23 fun x _=>by rw [Bool.eq_iff_iff];simp [mem,zm];omega
def BdR (l:List Iv):Prop:=∀ s ∈ l,s.lo<M64/\s.hi<M64
def ec (e:En):List PV:=[.v (.int .u64 e.rep),.v (.int .u64 e.max),rg e.holes]
def ep (e:En):PV:=.agg (ec e)
attribute [go_sem] ep ec
theorem zjh (a b:En) (hl:a.holes.length<=1152921504606846976):Cn Tryz.prog 109 [ep a,ep b] (.v (.bool (decide (a=b)))):=by
 refine zt Tryz.func109 2 ?_
 refine pw ?_
 have key:(a=b) ↔ (a.rep=b.rep/\a.max=b.max/\a.holes=b.holes):=⟨fun h=>by subst h;exact⟨rfl,rfl,rfl⟩,fun h=>En.ext' h.1 h.2.1 h.2.2⟩
 refine .i ?_ ?_<;>intro h1<;>(try simp only [zb] at h1)<;>first | refine pw ?_ | exact pd
 ·refine .i ?_ ?_<;>intro h2<;>(try simp only [zb] at h2)<;>first | refine pw ?_ | exact pd
  ·refine .c (zgI a.holes b.holes hl) ?_
   simp [key,h1,h2]
  ·simp [key,h2]
 ·simp [key,h1]
def hk (m:Nat):List Iv->Nat->Nat × Int
 | [],_=>(0,-1)
 | s::r,i=>if m<s.hi then (4,(i:Int)) else hk m r (i+1)
def yV (e:En):Nat × Int:=if (Zl e.holes).1=0 then hk e.max e.holes 0 else Zl e.holes
theorem K4 (m:Nat):∀(l:List Iv) (i:Nat),(hk m l i).1=0 ↔ ∀ s ∈ l,s.hi<=m
 | [],i=>by simp [hk]
 | s::r,i=>by
   have:=K4 m r (i+1)
   unfold hk
   split
   ·simp;omega
   ·rw [this];simp;omega
theorem K3 {m:Nat} {l:List Iv} {k:Nat} (h:k<l.length):hk m (l.drop k) k=if m<l[k].hi then (4,(k:Int)) else hk m (l.drop (k+1)) (k+1):=by
 rw [List.drop_eq_getElem_cons h];rfl
def Xu (e:En):Bool:=decide ((yV e).1=0)
theorem VU {e:En} (h:∀ s ∈ e.holes,s.lo<M64/\s.hi<M64) (h1:e.max<M64) (h2:e.rep<M64):Xu e=true ↔ zO e:=by
 have hn:=YT (l:=e.holes) fun s hs=>(h s hs).2
 have hz:=K4 e.max e.holes 0
 unfold Xu yV zO
 rw [decide_eq_true_eq]
 by_cases h':(Zl e.holes).1=0
 ·rw [if_pos h',hz]
  exact⟨fun g=>⟨hn.1 h',g,h1,h2⟩,fun g=>g.2.1⟩
 ·rw [if_neg h']
  exact⟨fun g=>absurd g h',fun g=>absurd (hn.2 g.1) h'⟩
theorem zcj (e:En) (hl:e.holes.length<=9223372036854775807) (hb:∀ s ∈ e.holes,s.lo<M64/\s.hi<M64):Cn Tryz.prog 137 [ep e] (.tup [.v (.int .i64 (yV e).1),.v (.int .i64 (yV e).2)]):=by
 refine zt Tryz.func137 1 ?_
 refine pw ?_
 refine .c (XO e.holes hl hb) ?_
 refine .i ?_ ?_<;>intro h<;>(try simp only [zb] at h)<;>first | refine pw ?_ | exact pd
 ·unfold yV
  rw [if_neg (by omega)]
 ·refine pLoop.go (fun k=>k<=e.holes.length/\yV e=hk e.max (e.holes.drop k) k) (fun k=>[(6,.v (.int .i64 (k:Nat)))]) (fun _=>[ec e]) (fun k=>e.holes.length - k) 0 [6] ?_ ?_ ?_
  ·refine⟨Nat.zero_le _,?_⟩
   unfold yV
   rw [if_pos (by omega)];rfl
  ·exact pd
  ·rintro k ⟨hk1,hm⟩
   refine pw ?_
   refine .i ?_ ?_<;>intro h1<;>(try simp only [zb] at h1)<;>first | refine pw ?_ | exact pd
   ·rw [K3 h1] at hm
    refine .i ?_ ?_<;>intro h2<;>(try simp only [zb] at h2)<;>first | refine pw ?_ | exact pd
    ·rw [hm,if_pos h2]
     simp
    ·rw [if_neg (by omega)] at hm
     exact⟨k+1,⟨h1,hm⟩,by omega,rfl⟩
   ·rw [List.drop_of_length_le h1] at hm
    rw [hm]
    simp [hk]
theorem Vl (e:En) (h:zO e) (hl:e.holes.length<=131072):Cn Tryz.prog 89 [ep e] (rg (kn e)):=by
 refine zt Tryz.func89 1 ?_
 refine pw ?_
 refine .c (QE [⟨0,e.max⟩] e.holes (qG (Nat.zero_le _) h.2.2.1) h.1 (by simp) hl) ?_
 rfl
theorem zg1 (r:Nat) (l:List Iv) (hl:Nrm l) (h1:l.length<=131072):Cn Tryz.prog 146 [.v (.int .u64 r),rg l] (.tup [ep (Qi r l).1,.v (.bool (Qi r l).2)]):=by
 refine zt Tryz.func146 2 ?_
 refine pw ?_
 refine .i ?_ ?_<;>intro h<;>(try simp only [zb] at h)<;>first | refine pw ?_ | exact pd
 ·subst h
  rfl
 ·have hp:0<l.length:=List.length_pos_iff.2 (by simpa using h)
  have ht:=Kr hp
  have hM:=(x9 hl (by simpa using h)).2
  try simp (maxSteps:=2000000) (disch:=omega) only [go_sem,seval,ht]
  repeat ((with_reducible refine And.intro ?_ ?_);focus exact yI)
  refine .c (QE [⟨0,QV l⟩] l (qG (Nat.zero_le _) hM) hl (by simp) h1) ?_
  rw [qD (by simpa using h)]
theorem zgE (x:Nat) (hx:x<M64):Cn Tryz.prog 197 [.v (.int .u64 x)] (.tup [.v (.int .u64 (x - 1:Nat)),.v (.bool (decide (x≠0)))]):=by
 have hM:=zw
 refine zt Tryz.func197 1 ?_
 refine pw ?_
 refine .i ?_ ?_<;>intro h<;>(try simp only [zb] at h)<;>first | refine pw ?_ | exact pd
 ·subst h
  rfl
 ·simp [h]
theorem zeq (x:Nat):Cn Tryz.prog 127 [.v (.int .u64 x)] (Je ⟨0,x⟩):=by
 refine zt Tryz.func127 1 ?_
 (first | refine pw ?_ | exact pd)
 try rfl
theorem XZ (e:En) (h:zO e) (hl:e.holes.length<=131072):Cn Tryz.prog 85 [ep e] (rg (kn e)):=by
 refine zt Tryz.func85 1 ?_
 refine pw ?_
 refine .c (zeq e.max) ?_
 refine .c (zg0 e.holes ⟨0,e.max⟩ h.1 (Nat.zero_le _) h.2.2.1 (by omega)) ?_
 rfl
theorem zjT (r:Nat) (l:List Iv) (hl:Nrm l) (h1:l.length<=131072):Cn Tryz.prog 136 [.v (.int .u64 r),rg l] (.tup [ep (Qi r l).1,.v (.bool (Qi r l).2)]):=by
 refine zt Tryz.func136 2 ?_
 refine pw ?_
 refine .i ?_ ?_<;>intro h<;>(try simp only [zb] at h)<;>first | refine pw ?_ | exact pd
 ·subst h
  rfl
 ·have hp:0<l.length:=List.length_pos_iff.2 (by simpa using h)
  have ht:=Kr hp
  have hM:=(x9 hl (by simpa using h)).2
  try simp (maxSteps:=2000000) (disch:=omega) only [go_sem,seval,ht]
  repeat ((with_reducible refine And.intro ?_ ?_);focus exact yI)
  refine .c (zeq (QV l)) ?_
  refine .c (zg0 l ⟨0,QV l⟩ hl (Nat.zero_le _) hM (by omega)) ?_
  rw [qD (by simpa using h)]
section
variable (a b:En) (ha:zO a) (hb:zO b) (la:a.holes.length<=10000) (lb:b.holes.length<=10000)
include ha hb la lb
end
theorem JQ {l:List Iv} (h:0<l.length):l=l.take (l.length - 1)++[l[l.length - 1]]:=by
 conv=>lhs;rw [<-List.take_append_drop (l.length - 1) l]
 congr 1
 rw [List.drop_eq_getElem_cons (by omega),List.drop_of_length_le (by omega)]
theorem zeP (e:En) (h:zO e) (hl:e.holes.length<=10000):Cn Tryz.prog 167 [ep e] (.tup [ep (kP e).1,.v (.bool (kP e).2)]):=by
 have hM:=zw
 refine zt Tryz.func167 1 ?_
 refine pw ?_
 refine pLoop.go (fun f:En=>zO f/\f.rep=e.rep/\kn f=kn e/\f.holes.length<=e.holes.length) (fun _=>[]) (fun f=>[ec f,[.v (.int .u64 0),.v (.int .u64 0),.sl [] .sh]]) (fun f=>f.holes.length) e [] ?_ ?_ ?_
 ·exact⟨h,rfl,rfl,Nat.le_refl _⟩
 ·exact pd
 ·rintro f ⟨hf,h1,h2,h3⟩
  have hc:YP f->Qi e.rep (kn e)=(f,true):=fun hc=>by rw [<-h1,<-h2];exact ZM hc
  unfold kP
  refine pw ?_
  refine .i ?_ ?_<;>intro h4<;>(try simp only [zb] at h4)<;>first | refine pw ?_ | exact pd
  ·have hs:=JQ h4
   have hb:=NF.lo_ge hf.1 _ (List.getElem_mem (show f.holes.length - 1<f.holes.length by omega))
   have hmx:=hf.2.2.1
   refine pw ?_
   refine .i ?_ ?_<;>intro h5<;>(try simp only [zb] at h5)<;>first | refine pw ?_ | exact pd
   ·rw [hc (zcc hf hs h5)]
   ·refine .c (zgE (f.holes[f.holes.length - 1]).lo (by omega)) ?_
    refine .i ?_ ?_<;>intro h6<;>(try simp only [zb] at h6)<;>first | refine pw ?_ | exact pd
    ·rw [<-h2,Jl hf hs h5 (by simpa using h6)]
     rfl
    ·obtain⟨q1,q2⟩:=Jm hf hs h5 (by first | omega | (simp at h6;omega))
     refine⟨⟨f.rep,f.holes[f.holes.length - 1].lo - 1,f.holes.take (f.holes.length - 1)⟩,⟨q1,h1,q2.trans h2,by simp;omega⟩,by simp;omega,?_⟩
     exact pd
  ·rw [hc (Xb hf (List.eq_nil_of_length_eq_zero (by omega)))]
theorem zi9 {n:Int} (h : -9223372036854775808<=n/\n<9223372036854775808):IntKind.i64.wrap n=n:=by
 simp only [IntKind.wrap,IntKind.bits,IntKind.signed]
 simp
 omega
theorem KV (p:Nat->Prop) [DecidablePred p]:∀ n,(∀ i j,i<=j->j<n->p j->p i)->∃ i,i<=n/\(∀ j,j<i->p j)/\∀ j,i<=j->j<n->¬ p j
 | 0,_=>⟨0,Nat.le_refl _,fun j h=>absurd h (by omega),fun j h1 h2=>absurd h2 (by omega)⟩
 | n+1,h=>by
   by_cases hp:p n
   ·exact⟨n+1,Nat.le_refl _,fun j hj=>h j n (by omega) (by omega) hp,fun j h1 h2=>absurd h2 (by omega)⟩
   ·obtain⟨i,h1,h2,h3⟩:=KV p n fun i j hij hj=>h i j hij (by omega)
    refine⟨i,by omega,h2,fun j h4 h5=>?_⟩
    rcases Nat.lt_or_ge j n with h6 | h6
    ·exact h3 j h4 h6
    ·obtain rfl:j=n:=by omega
     exact hp
attribute [go_sem] zi9
theorem zhn (l:List Iv) (x:Nat) (g:FuncId) (c:Nat->Int) (i:Nat) (hi:i<=l.length) (h1:∀ j,j<i->c j<0) (h2:∀ j,i<=j->j<l.length->0<=c j) (hl:l.length<=1152921504606846976)
 (hg:∀ k (h:k<l.length),Cn Tryz.prog g [Je l[k],.v (.int .u64 x)] (.v (.int .i64 (c k)))):Cn Tryz.prog 190 [rg l,.v (.int .u64 x),.fn (.func g) [] []] (.tup [.v (.int .i64 i),.v (.bool (decide (i<l.length) && decide (c i=0)))]):=by
 refine zt Tryz.func190 3 ?_
 refine pw ?_
 refine pLoop.go (fun p:Nat × Nat=>p.1<=i/\i<=p.2/\p.2<=l.length) (fun p=>[(9,.v (.int .i64 (p.1:Nat))),(10,.v (.int .i64 (p.2:Nat)))]) (fun _=>[]) (fun p=>p.2 - p.1) (0,l.length) [9,10] ?_ ?_ ?_
 ·exact⟨Nat.zero_le _,hi,Nat.le_refl _⟩
 ·exact pd
 ·rintro⟨p,q⟩ ⟨k1,k2,k3⟩
  simp only at k1 k2 k3
  refine pw ?_
  refine .i ?_ ?_<;>intro h<;>(try simp only [zb] at h)<;>first | refine pw ?_ | exact pd
  ·have hm:(p+q) / 2<l.length:=by omega
   refine pw ?_
   (first | refine .c (hg ((p+q) / 2) hm) ?_ | refine .o (hg ((p+q) / 2) hm) ?_)
   refine .i ?_ ?_<;>intro h4<;>(try simp only [zb] at h4)<;>first | refine pw ?_ | exact pd
   ·refine⟨((p+q) / 2+1,q),⟨?_,k2,k3⟩,by simp only;omega,rfl,rfl⟩
    simp only
    refine Nat.lt_of_not_le fun h5=>?_
    have:=h2 _ h5 hm
    omega
   ·refine⟨(p,(p+q) / 2),⟨k1,?_,by simp only;omega⟩,by simp only;omega,rfl,rfl⟩
    simp only
    refine Nat.le_of_not_lt fun h5=>?_
    have:=h1 _ h5
    omega
  ·obtain rfl:p=i:=by omega
   obtain rfl:q=p:=by omega
   refine .i ?_ ?_<;>intro h4<;>(try simp only [zb] at h4)<;>first | refine pw ?_ | exact pd
   ·(first | refine .c (hg q h4) ?_ | refine .o (hg q h4) ?_)
    simp [h4]
   ·have h4':¬ q<l.length:=by omega
    simp [h4']
theorem zd5 (s:Iv) (x:Nat):Cn Tryz.prog 191 [Je s,.v (.int .u64 x)] (.v (.int .i64 (if s.hi<x then -1 else if x<s.lo then 1 else 0))):=by
 refine zt Tryz.func191 2 ?_
 refine pw ?_
 refine .i ?_ ?_<;>intro h1<;>(try simp only [zb] at h1)<;>first | refine pw ?_ | exact pd
 ·rw [if_pos h1]
 ·rw [if_neg (by omega)]
  refine .i ?_ ?_<;>intro h2<;>(try simp only [zb] at h2)<;>first | refine pw ?_ | exact pd
  ·rw [if_pos h2]
  ·rw [if_neg (by omega)]
theorem zdE {l:List Iv} (hl:Nrm l) (x:Nat):∃ i,i<=l.length/\(∀ j,(h:j<l.length)->j<i->l[j].hi<x)/\(∀ j,(h:j<l.length)->i<=j->x<=l[j].hi)/\(mem l x=true ↔ ∃ h:i<l.length,l[i].lo<=x):=by
 have mono:∀ {n:Nat} {l:List Iv},NF n l->∀ i j,(hij:i<j)->(hj:j<l.length)->l[i].hi<l[j].lo:=by
  intro n l
  induction l generalizing n with
  | nil=>intro _ i j _ hj;simp at hj
  | cons s l ih=>
    intro h i j hij hj
    obtain⟨j',rfl⟩:∃ j',j=j'+1:=⟨j - 1,by omega⟩
    cases i with
    | zero=>
      have:=NF.lo_ge h.2.2.2 (l[j']'(by simpa using hj)) (List.getElem_mem _)
      simp only [List.getElem_cons_zero,List.getElem_cons_succ]
      omega
    | succ i=>exact ih h.2.2.2 i j' (by omega) (by simpa using hj)
 obtain⟨i,h1,h2,h3⟩:=KV (fun j=>∃ h:j<l.length,l[j].hi<x) l.length fun a b hab hb ⟨h4,h5⟩=>by
  refine⟨by omega,?_⟩
  rcases Nat.lt_or_eq_of_le hab with h6 | h6
  ·have:=mono hl a b h6 hb
   have:=NF.lo_ge hl l[b] (List.getElem_mem _)
   omega
  ·subst h6;exact h5
 have h3':∀ j,(h:j<l.length)->i<=j->x<=l[j].hi:=fun j hj hij=>by
  have:=h3 j hij hj
  exact Nat.le_of_not_lt fun h=>this ⟨hj,h⟩
 refine⟨i,h1,fun j hj hji=>(h2 j hji).2,h3',?_⟩
 rw [qf]
 constructor
 ·rintro⟨s,hs,h4,h5⟩
  obtain⟨j,hj,rfl⟩:=List.getElem_of_mem hs
  have hij:i<=j:=Nat.le_of_not_lt fun h=>by have:=(h2 j h).2;omega
  refine⟨by omega,?_⟩
  rcases Nat.lt_or_eq_of_le hij with h6 | h6
  ·have:=mono hl i j h6 hj
   have:=NF.lo_ge hl (l[i]'(by omega)) (List.getElem_mem _)
   omega
  ·subst h6;exact h4
 ·rintro⟨h,h4⟩
  exact⟨l[i],List.getElem_mem _,h4,h3' i h (Nat.le_refl _)⟩
def zaT (x:Nat) (s:Iv):Int:=if s.hi<x then -1 else if x<s.lo then 1 else 0
theorem ziQ (l:List Iv) (x:Nat) (hl:Nrm l) (hn:l.length<=1152921504606846976):Cn Tryz.prog 111 [rg l,.v (.int .u64 x)] (.v (.bool (mem l x))):=by
 obtain⟨i,h1,h2,h3,h4⟩:=zdE hl x
 have hF:Cn Tryz.prog 158 [rg l,.v (.int .u64 x)] (.v (.int .i64 (if mem l x then (i:Int) else -1))):=by
  refine zt Tryz.func158 2 ?_
  refine pw ?_
  refine .c (zhn l x 191 (fun k=>if h:k<l.length then zaT x l[k] else 0) i h1 (fun j hj=>by rw [dif_pos (show j<l.length by omega)];unfold zaT;rw [if_pos (h2 j (by omega) hj)];decide) (fun j hj hjl=>by rw [dif_pos hjl];unfold zaT;rw [if_neg (by have:=h3 j hjl hj;omega)];split<;>decide) hn (fun k h=>by rw [dif_pos h];exact zd5 l[k] x)) ?_
  have e:(decide (i<l.length) && decide ((if h:i<l.length then zaT x l[i] else 0)=0))=mem l x:=by
   rw [Bool.eq_iff_iff,h4]
   simp only [Bool.and_eq_true,decide_eq_true_eq]
   constructor
   ·rintro⟨k1,k2⟩
    refine⟨k1,?_⟩
    rw [dif_pos k1] at k2
    unfold zaT at k2
    split at k2
    ·cases k2
    ·split at k2
     ·cases k2
     ·omega
   ·rintro⟨k1,k2⟩
    refine⟨k1,?_⟩
    rw [dif_pos k1]
    unfold zaT
    rw [if_neg (by have:=h3 i k1 (Nat.le_refl _);omega),if_neg (by omega)]
  rw [e]
  refine .i ?_ ?_<;>intro h5<;>(try simp only [zb] at h5)<;>first | refine pw ?_ | exact pd
  ·rw [h5];rfl
  ·rw [h5];rfl
 refine zt Tryz.func111 2 ?_
 refine pw ?_
 (first | refine .c (hF) ?_ | refine .o (hF) ?_)
 cases mem l x<;>simp
theorem zoS (e:En) (c:Nat) (h:zO e) (hn:e.holes.length<=1152921504606846976):Cn Tryz.prog 155 [ep e,.v (.int .u64 c)] (.v (.bool (decide (c<=e.max) && !mem e.holes c))):=by
 refine zt Tryz.func155 2 ?_
 refine pw ?_
 refine .i ?_ ?_<;>intro h1<;>(try simp only [zb] at h1)<;>first | refine pw ?_ | exact pd
 ·refine .c (ziQ e.holes c h.1 hn) ?_
  simp [h1]
 ·have h1':¬ c<=e.max:=by omega
  simp [h1']
def vp (v:List En):PV:=.sl (v.map ec) .sh
attribute [go_sem] vp
def ZL (e:En):Prop:=(∀ s ∈ e.holes,s.lo<M64/\s.hi<M64)/\e.max<M64/\e.rep<M64
def ea:En:=⟨1,2,[]⟩
def eb:En:=⟨1,5,[⟨3,4⟩]⟩
def ed:En:=⟨1,5,[]⟩
section
variable (a b:En) (ha:ZL a) (hb:ZL b)
include ha hb
end
theorem ze4 {D:Nat->Nat->Prop} {w:World} {x:Value} {v:List En} (h:Dat D w x (vp v)) (hD:∀ b o,D b o->b<w.heap.size) (hb:∀ e ∈ v,ZL e):RdV w.heap.size w x v:=by
 unfold vp at h
 generalize he:v.map ec=es at h
 cases h with
 | sl a cap sz es o b off u hc hz hm ha hsz hd hx=>
   have hl:es.length=v.length:=by rw [<-he];simp
   refine⟨a,cap,by rw [hl],by omega,hm,fun hne=>?_⟩
   have hpos:0<v.length:=List.length_pos_iff.2 hne
   have g:∀ i (h:i<v.length),es[i]? = some (ec v[i]):=fun i h=>by rw [<-he];exact xo h
   obtain rfl:3=sz:=hsz 0 _ (g 0 hpos)
   have hes:es≠[]:=by intro e;subst e;simp at hl;omega
   have hdlt:b<w.heap.size:=hD _ _ (hd 0 (by omega)).1
   refine⟨b,off,ha hes,Nat.zero_le _,hdlt,fun i hi=>?_⟩
   have e0:=(hx i _ 0 _ (g i hi) rfl).v_inv
   have e1:=(hx i _ 1 _ (g i hi) rfl).v_inv
   have e2:=hx i _ 2 _ (g i hi) rfl
   have c0:=(hd (i * 3+0) (by omega)).2.1
   have c1:=(hd (i * 3+1) (by omega)).2.1
   have c2:=(hd (i * 3+2) (by omega)).2.1
   rw [e0] at c0
   rw [e1] at c1
   obtain⟨b1,b2,b3⟩:=hb _ (List.getElem_mem hi)
   exact⟨c0,c1,⟨_,c2,je e2 hD b1⟩,b3,b2⟩
def ns (l:List Nat):PV:=.sl (l.map yN) .sh
attribute [go_sem] ns
theorem vL {D:Nat->Nat->Prop} {base:Nat} {w:World} {v:Value} {l:List Nat} (h:OwnN base w v l) (hD:∀ b o,base<=b->b<w.heap.size->D b o):Dat D w v (ns l):=by
 unfold ns
 have hlen:(l.map yN).length=l.length:=by simp
 rcases id h.2 with⟨rfl,h0⟩ | ⟨g,cap,cur,rfl,hg,hh,hn,hc,_⟩
 ·obtain rfl:l=[]:=List.length_eq_zero_iff.1 h0
  exact .sl none 0 1 [] .sh 0 0 (fun _=>undef) (by simp) (fun h=>by cases h) (by unfold maxLen;omega) (fun h=>absurd rfl h) (fun i e h=>by simp at h) (fun j h=>by simp at h) (fun i e j p h=>by simp at h)
 ·rw [<-hlen]
  refine .sl _ cap 1 _ .sh g 0 (fun j=>.int .u64 (l.getD j 0:Nat)) (by simpa using hn) (fun h=>by cases h) hc (fun _=>rfl) (fun i e h=>?_) (fun j hj=>?_) (fun i e j p he hp=>?_)
  ·simp only [List.getElem?_map,Option.map_eq_some_iff] at h
   obtain⟨s,_,rfl⟩:=h
   rfl
  ·simp only [List.length_map,Nat.mul_one] at hj
   refine⟨hD _ _ hg (Array.getElem?_eq_some_iff.1 hh).1,?_,rfl⟩
   rw [Nat.zero_add,h.cellAt _ (by simpa using hj)]
   simp [hj]
  ·have hi:i<l.length:=by have:=(List.getElem?_eq_some_iff.1 he).1;simpa using this
   rw [xo hi] at he
   cases he
   match j,hp with
   | 0,hp=>cases hp;simp [hi];exact .v _
   | j+1,hp=>simp [yN] at hp
theorem KB {vs:Array Value} (h:vs.size=1):vs=#[vs.getD 0 undef]:=by
 obtain⟨l⟩:=vs
 match l,h with
 | [x],_=>rfl
theorem Yz (v:List En) (hb:∀ e ∈ v,ZL e) (hl:(zv v).length<=1073741824):Cn Tryz.prog 200 [vp v] (ns (zv v)):=by
 refine Js rfl (enters_of Tryz.func200 (by kernel_rfl) rfl) fun D w vs hD hsz hd=>?_
 rw [KB hsz]
 refine(Q4 v _ w (ze4 (hd 0 _ rfl) hD hb) hl).mono ?_
 rintro e w' ⟨u,rfl,hv,hbl⟩
 exact⟨u,rfl,hbl,vL hv fun b o h1 h2=>.inr ⟨h1,h2⟩⟩
end Go.Proofs.YtonhfknjcbakiaaGreatDoor
