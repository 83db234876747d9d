import Derived.Maps.Own
import Derived.Maps.OwnIn
import Derived.Maps.Views
import Derived.Maps.RangeWalk
import Derived.Deep.LoopGhost
import Derived.Shelf.Spec.SlicesInsertGrow
import Derived.Test.YtopfkkogooocgaaGreatB15
import Derived.Test.YtopfkkogooocgaaGreatB19
import Derived.Test.YtopfkkogooocgaaGreatB31
set_option maxHeartbeats 16000000
set_option linter.unusedVariables false
set_option linter.unusedSimpArgs false
set_option maxRecDepth 100000
namespace Go.Proofs.YtopfkkogooocgaaGreat
open Go.RowKit
theorem zgI (a b:List Iv) (hl:a.length<=1152921504606846976):Cn Tryz.prog 16 [rg a,rg b] (.v (.bool (decide (a=b)))):=by
 refine zt Tryz.func16 2 ?_
 refine pw ?_
 refine .i ?_ ?_<;>intro h0<;>(try simp only [zb] at h0)<;>first | refine pw ?_ | exact pd
 ·symm
  rw [decide_eq_false_iff_not]
  rintro rfl
  exact h0 rfl
 ·have h0':a.length=b.length:=by simpa using h0
  clear h0
  refine pLoop.go (fun k=>k<=a.length/\(a=b ↔ a.drop k=b.drop k)) (fun k=>[(5,.v (.int .i64 (k:Nat)))]) (fun _=>[]) (fun k=>a.length - k) 0 [5] ?_ ?_ ?_
  ·exact⟨Nat.zero_le _,Iff.rfl⟩
  ·exact pd
  ·rintro k ⟨hk,hm⟩
   refine pw ?_
   refine .i ?_ ?_<;>intro h<;>(try simp only [zb] at h)<;>first | refine pw ?_ | exact pd
   ·have hk':k<b.length:=by omega
    rw [List.drop_eq_getElem_cons h,List.drop_eq_getElem_cons hk',List.cons.injEq] at hm
    refine pw ?_
    refine .i ?_ ?_<;>intro e<;>(try simp only [zb] at e)<;>first | refine pw ?_ | exact pd
    ·symm
     rw [decide_eq_false_iff_not]
     intro he
     have:=(hm.1 he).1
     rcases (by simpa using e:¬ a[k].lo=b[k].lo\/¬ a[k].hi=b[k].hi) with e | e
     ·exact e (congrArg Iv.lo this)
     ·exact e (congrArg Iv.hi this)
    ·refine⟨k+1,⟨h,?_⟩,by omega,rfl⟩
     rw [hm]
     have e:a[k].lo=b[k].lo/\a[k].hi=b[k].hi:=by simpa using e
     exact⟨fun h=>h.2,fun h=>⟨Iv.ext' e.1 e.2,h⟩⟩
   ·rw [eq_comm,decide_eq_true_eq,hm,List.drop_of_length_le h,List.drop_of_length_le (by omega)]
theorem VX (ls:List (List Iv)) (h1:ls.length<=1048576) (h2:∀ l ∈ ls,l.length<=1048576) (h3:(yU ls).length<=1048576) (hv:∀ l ∈ ls,∀ s ∈ l,s.lo<zk/\s.hi<zk):Cn Tryz.prog 47 [rgs ls] (.sl ((zH ls).map yN) .sh):=by
 have hM:=zw
 refine zt Tryz.func47 1 ?_
 refine pw ?_
 refine pLoop.go (fun i=>i<=ls.length) (fun i=>[(3,.sl ((kA ls i 0).map yN) (.r 9 1)),(4,.v (.int .i64 (i:Nat)))]) (fun _=>[]) (fun i=>ls.length - i) 0 [3,4,9] ?_ ?_ ?_
 ·exact Nat.zero_le _
 ·rw [zf6]
  exact pd
 ·rintro i hi
  refine pw ?_
  refine .i ?_ ?_<;>intro h<;>(try simp only [zb] at h)<;>first | refine pw ?_ | exact pd
  ·have hj:=h2 _ (List.getElem_mem h)
   refine pLoop.go (fun j=>j<=ls[i].length) (fun j=>[(3,.sl ((kA ls i j).map yN) (.r 9 1)),(5,.v (.int .i64 (j:Nat)))]) (fun _=>[]) (fun j=>ls[i].length - j) 0 [3,5,9] ?_ ?_ ?_
   ·exact Nat.zero_le _
   ·exact pd
   ·rintro j hj'
    have hlen:=zdK j h
    refine pw ?_
    refine .i ?_ ?_<;>intro hc<;>(try simp only [zb] at hc)<;>first | refine pw ?_ | exact pd
    ·have hb:=hv _ (List.getElem_mem h) _ (List.getElem_mem hc)
     refine callQ.mk zgX rfl ?_
     refine pw ?_
     refine .i ?_ ?_<;>intro hd<;>(try simp only [zb] at hd)<;>first | refine pw ?_ | exact pd
     ·refine⟨j+1,hc,by omega,?_,rfl⟩
      rw [YF h hc,jQ,if_pos (by omega)]
      simp [yN]
     ·refine⟨j+1,hc,by omega,?_,rfl⟩
      rw [YF h hc,jQ,if_neg (by omega)]
      simp [yN]
    ·refine⟨i+1,h,by omega,?_,rfl⟩
     rw [zbv h hc]
  ·rw [zdJ h]
   generalize hxs:yU ls=xs at h3 ⊢
   have hst:zH ls=srt xs:=by rw [<-hxs];rfl
   rw [hst]
   refine pLoop.mk (fun k=>k<=xs.length) (fun k=>⟨[(3,.sl (xs.map yN) (.r 9 1)),(6,.sl ((srt (xs.take k)).map yN) (.r 108 1)),(7,.v (.int .i64 (k:Nat)))],[]⟩) (fun k=>xs.length - k) 0 ?_ ?_ ?_
   ·exact Nat.zero_le _
   ·rw [List.take_zero,XB]
    exact pd
   ·rintro k hk
    have hlen:=ju (xs.take k)
    have hlen2:(xs.take k).length<=k:=List.length_take_le _ _
    refine pw ?_
    refine .i ?_ ?_<;>intro h5<;>(try simp only [zb] at h5)<;>first | refine pw ?_ | exact pd
    ·refine pLoop.go (fun a=>a<=(srt (xs.take k)).length/\∀ m (h:m<(srt (xs.take k)).length),a<=m->xs[k]<(srt (xs.take k))[m]) (fun a=>[(8,.v (.int .i64 (a:Nat)))]) (fun _=>[]) (fun a=>a) (srt (xs.take k)).length [8] ?_ ?_ ?_
     ·exact⟨Nat.le_refl _,fun m h1 h2=>absurd h1 (by omega)⟩
     ·exact pd
     ·rintro at_ ⟨ha,hb⟩
      refine pw ?_
      refine .i ?_ ?_<;>intro h6<;>(try simp only [zb] at h6)<;>first | refine pw ?_ | exact pd
      ·refine .i ?_ ?_<;>intro h7<;>(try simp only [zb] at h7)<;>first | refine pw ?_ | exact pd
       ·refine⟨at_ - 1,⟨by omega,fun m hm h8=>?_⟩,by omega,rfl⟩
        rcases Nat.eq_or_lt_of_le h8 with h9 | h9
        ·subst h9;exact h7
        ·exact hb m hm (by omega)
       ·refine .i ?_ ?_<;>intro h8<;>(try simp only [zb] at h8)<;>first | refine pw ?_ | exact pd
        ·exact absurd h8 (by omega)
        ·refine .i ?_ ?_<;>intro h9<;>(try simp only [zb] at h9)<;>first | refine pw ?_ | exact pd
         ·refine cutP.mk [3,7] ?_ (keepOk.mk2 rfl rfl ?_ ?_ ?_) ?_
          ·exact pd
          ·exact pd
          ·exact pd
          ·right
           exact pd
          ·refine pw ?_
           refine⟨k+1,h5,by omega,?_,rfl⟩
           rw [List.take_succ_eq_append_getElem h5,kJ ha hb (.inr ⟨by omega,by omega⟩)]
           simp [yN]
         ·refine⟨k+1,h5,by omega,?_,rfl⟩
          rw [List.take_succ_eq_append_getElem h5,zaw (by rw [<-h9];exact List.getElem_mem _)]
      ·obtain rfl:at_=0:=by omega
       have hz:=kJ ha hb (.inl rfl)
       rw [<-List.take_succ_eq_append_getElem h5] at hz
       refine pw ?_
       refine cutP.mk [3,7] ?_ (keepOk.mk2 rfl rfl ?_ ?_ ?_) ?_
       ·exact pd
       ·exact pd
       ·exact pd
       ·right
        exact pd
       ·refine pw ?_
        refine⟨k+1,h5,by omega,?_,rfl⟩
        rw [hz]
        simp [yN]
    ·rw [List.take_of_length_le h5]
theorem Kl {ls:List (List Iv)}:(zH ls).length<=(yU ls).length:=ju _
theorem zjo (a b:List Iv):(yU [a,b]).length<=1+2 * a.length+2 * b.length:=by
 have:=vq a
 have:=vq b
 simp [yU];omega
theorem zhw (a b:List Iv) (op:Nat) (ha:Nrm a) (hb:Nrm b) (ho:op<3) (h1:a.length<=131072) (h2:b.length<=131072):Cn Tryz.prog 27 [rg a,rg b,.v (.int .i64 op)] (rg (qy (Qj op) a b)):=by
 have hM:=zw
 have hall:=zjo a b
 have hst:=Kl (ls:=[a,b])
 have hcut:∀ c,c ∈ z6 a\/c ∈ z6 b->c ∈ zH [a,b]:=fun c hc=>qr.2 (by simp [yU];exact .inr hc)
 have hslt:∀ x ∈ zH [a,b],x<zk:=Ze (by simp;exact⟨fun s hs=>(ha.lt s hs).1,fun s hs=>(hb.lt s hs).1⟩)
 refine zt Tryz.func27 3 ?_
 refine pw ?_
 refine callO.rd (VX [a,b] (by simp) (by simp;omega) (by omega) (by simp;exact⟨ha.lt,hb.lt⟩)) rfl ?_
 refine pw ?_
 refine pLoop.go (fun p:Nat × List Iv=>p.1<=(zH [a,b]).length/\DoInv (Qj op) a b (zH [a,b]) p.1 p.2) (fun p=>[(8,.sl (p.2.map Q2) (.r 38 2)),(9,.v (.int .i64 (p.1:Nat)))]) (fun _=>[]) (fun p=>(zH [a,b]).length - p.1) (0,[]) [8,9] ?_ ?_ ?_
 ·exact⟨Nat.zero_le _,DoInv.zero _⟩
 ·exact pd
 ·rintro⟨i,out⟩ ⟨hi,hd⟩
  simp only at hi hd
  have hol:=hd.len
  refine pw ?_
  refine .i ?_ ?_<;>intro h<;>(try simp only [zb] at h)<;>first | refine pw ?_ | exact pd
  ·refine callQ.mk (kU a _ (by omega)) rfl ?_
   refine pw ?_
   refine callQ.mk (kU b _ (by omega)) rfl ?_
   refine pw ?_
   refine callQ.mk (zi5 _ _ op ho) rfl ?_
   obtain⟨s1,s2⟩:=hd.step ha hb (x8 _) hslt hcut h
   refine pw ?_
   refine .i ?_ ?_<;>intro h5<;>(try simp only [zb] at h5)<;>first | refine pw ?_ | exact pd
   ·refine callP.mk (zan _ i h (by omega) fun h'=>?_) rfl ?_
    ·have:=jJ (x8 [a,b]) h' (Nat.lt_succ_self i)
     have:=hslt _ (List.getElem_mem h')
     omega
    have s3:=s1 h5
    have hlo:=hslt _ (List.getElem_mem h)
    refine pw ?_
    refine callO.mk (zlq out ⟨(zH [a,b])[i],if h:i+1<(zH [a,b]).length then (zH [a,b])[i+1] - 1 else zk - 1⟩ hlo (fun t ht=>?_) (by omega)) rfl ?_
    ·have e:KD (zH [a,b]) i=(zH [a,b])[i]:=dif_pos h
     have:=hd.lt t ht
     have:=hd.nrm.lt t ht
     show _/\t.hi<(zH [a,b])[i]
     omega
    refine pw ?_
    exact⟨(i+1,_),⟨h,s3⟩,by omega,rfl,rfl⟩
   ·exact⟨(i+1,out),⟨h,s2 h5⟩,by omega,rfl,rfl⟩
  ·obtain rfl:i=(zH [a,b]).length:=by omega
   rw [hd.done ha hb]
theorem zq2 (a b:List Iv) (ha:Nrm a) (hb:Nrm b) (h1:a.length<=131072) (h2:b.length<=131072):Cn Tryz.prog 13 [rg a,rg b] (rg (qy y5 a b)):=by
 refine zt Tryz.func13 2 ?_
 refine pw ?_
 refine callP.mk (zhw a b 1 ha hb (by omega) h1 h2) rfl ?_
 refine pw ?_
 rfl
theorem zd6 (s:Iv):Cn Tryz.prog 65 [Je s] (.v (.bool (decide (s.lo<=s.hi)))):=by
 refine zt Tryz.func65 1 ?_
 exact pd
def y7 (l:List Iv) (k:Nat):Option Iv:=if k=0 then none else l[k - 1]?
theorem XO (l:List Iv) (hl:l.length<=9223372036854775807) (hb:∀ s ∈ l,s.lo<zk/\s.hi<zk):Cn Tryz.prog 45 [rg l] (.tup [.v (.int .i64 (Zl l).1),.v (.int .i64 (Zl l).2)]):=by
 refine zt Tryz.func45 1 ?_
 refine pw ?_
 refine pLoop.go (fun k=>k<=l.length/\Zl l=QZ (y7 l k) (l.drop k) k) (fun k=>[(4,.v (.int .i64 (k:Nat)))]) (fun _=>[]) (fun k=>l.length - k) 0 [4] ?_ ?_ ?_
 ·exact⟨Nat.zero_le _,rfl⟩
 ·exact pd
 ·rintro k ⟨hk,hm⟩
  refine pw ?_
  refine .i ?_ ?_<;>intro h<;>(try simp only [zb] at h)<;>first | refine pw ?_ | exact pd
  ·refine callP.mk (zd6 l[k]) rfl ?_
   rw [Yj h] at hm
   refine pw ?_
   refine .i ?_ ?_<;>intro h1<;>(try simp only [zb] at h1)<;>first | refine pw ?_ | exact pd
   ·rw [if_neg (by omega)] at hm
    rw [hm]
    rfl
   ·rw [if_pos h1] at hm
    have hs:y7 l (k+1)=some l[k]:=by unfold y7;rw [if_neg (by omega)];exact List.getElem?_eq_getElem h
    refine .i ?_ ?_<;>intro h2<;>(try simp only [zb] at h2)<;>first | refine pw ?_ | exact pd
    ·have hp:y7 l k=some l[k - 1]:=by unfold y7;rw [if_neg (by omega),List.getElem?_eq_getElem]
     rw [hp] at hm
     refine callQ.mk (zd3 l[k - 1] l[k] (hb _ (List.getElem_mem _)).1 (hb _ (List.getElem_mem _)).1) rfl ?_
     refine pw ?_
     refine .i ?_ ?_<;>intro h3<;>(try simp only [zb] at h3)<;>first | refine pw ?_ | exact pd
     ·rw [if_neg (by simpa using h3)] at hm
      rw [hm]
      rfl
     ·rw [if_pos (by simpa using h3)] at hm
      exact⟨k+1,⟨h,by rw [hs];exact hm⟩,by omega,rfl⟩
    ·have hp:y7 l k=none:=by unfold y7;rw [if_pos (by omega)]
     rw [hp] at hm
     exact⟨k+1,⟨h,by rw [hs];exact hm⟩,by omega,rfl⟩
  ·rw [List.drop_of_length_le h] at hm
   rw [hm]
   rfl
theorem n23:Nrm [⟨2,3⟩,⟨9,9⟩]:=by simp [Nrm,NF,zw]
theorem n01:Nrm [⟨0,1⟩,⟨4,8⟩]:=by simp [Nrm,NF,zw]
theorem n09:Nrm [⟨0,9⟩]:=by simp [Nrm,NF,zw]
theorem e1:qy zm [⟨0,9⟩] [⟨2,3⟩,⟨9,9⟩]=[⟨0,1⟩,⟨4,8⟩]:=vK n09 n23 n01 fun x _=>by rw [Bool.eq_iff_iff];simp [mem,zm];omega
theorem e2:qy zn [⟨2,3⟩,⟨9,9⟩] [⟨0,1⟩,⟨4,8⟩]=[⟨0,9⟩]:=vK n23 n01 n09 fun x _=>by rw [Bool.eq_iff_iff];simp [mem,zn];omega
theorem e4:qy zm [⟨2,3⟩,⟨9,9⟩] [⟨0,1⟩,⟨4,8⟩]=[⟨2,3⟩,⟨9,9⟩]:=vK n23 n01 n23 fun x _=>by rw [Bool.eq_iff_iff];simp [mem,zm];omega
theorem e5:qy y5 [⟨2,3⟩,⟨9,9⟩] [⟨0,1⟩,⟨4,8⟩]=[]:=vK n23 n01 trivial fun x _=>by rw [Bool.eq_iff_iff];simp [mem,y5];omega
theorem e6:qy zm [⟨2,3⟩,⟨9,9⟩] [⟨0,1⟩,⟨4,8⟩]=[⟨2,3⟩,⟨9,9⟩]:=vK n23 n01 n23 fun x _=>by rw [Bool.eq_iff_iff];simp [mem,zm];omega
def BdR (l:List Iv):Prop:=∀ s ∈ l,s.lo<zk/\s.hi<zk
def ec (e:En):List PV:=[.v (.int .u64 e.rep),.v (.int .u64 e.max),rg e.holes]
def ep (e:En):PV:=.agg (ec e)
attribute [go_sem] ep ec
theorem zjh (a b:En) (hl:a.holes.length<=1152921504606846976):Cn Tryz.prog 44 [ep a,ep b] (.v (.bool (decide (a=b)))):=by
 refine zt Tryz.func44 2 ?_
 refine pw ?_
 have key:(a=b) ↔ (a.rep=b.rep/\a.max=b.max/\a.holes=b.holes):=⟨fun h=>by subst h;exact⟨rfl,rfl,rfl⟩,fun h=>En.ext' h.1 h.2.1 h.2.2⟩
 refine .i ?_ ?_<;>intro h1<;>(try simp only [zb] at h1)<;>first | refine pw ?_ | exact pd
 ·refine .i ?_ ?_<;>intro h2<;>(try simp only [zb] at h2)<;>first | refine pw ?_ | exact pd
  ·refine .c (zgI a.holes b.holes hl) ?_
   simp [key,h1,h2]
  ·simp [key,h2]
 ·simp [key,h1]
def hk (m:Nat):List Iv->Nat->Nat × Int
 | [],_=>(0,-1)
 | s::r,i=>if m<s.hi then (4,(i:Int)) else hk m r (i+1)
def yV (e:En):Nat × Int:=if (Zl e.holes).1=0 then hk e.max e.holes 0 else Zl e.holes
theorem K4 (m:Nat):∀(l:List Iv) (i:Nat),(hk m l i).1=0 ↔ ∀ s ∈ l,s.hi<=m
 | [],i=>by simp [hk]
 | s::r,i=>by
   have:=K4 m r (i+1)
   unfold hk
   split
   ·simp;omega
   ·rw [this];simp;omega
theorem K3 {m:Nat} {l:List Iv} {k:Nat} (h:k<l.length):hk m (l.drop k) k=if m<l[k].hi then (4,(k:Int)) else hk m (l.drop (k+1)) (k+1):=by
 rw [List.drop_eq_getElem_cons h];rfl
def Xu (e:En):Bool:=decide ((yV e).1=0)
theorem VU {e:En} (h:∀ s ∈ e.holes,s.lo<zk/\s.hi<zk) (h1:e.max<zk) (h2:e.rep<zk):Xu e=true ↔ zO e:=by
 have hn:=YT (l:=e.holes) fun s hs=>(h s hs).2
 have hz:=K4 e.max e.holes 0
 unfold Xu yV zO
 rw [decide_eq_true_eq]
 by_cases h':(Zl e.holes).1=0
 ·rw [if_pos h',hz]
  exact⟨fun g=>⟨hn.1 h',g,h1,h2⟩,fun g=>g.2.1⟩
 ·rw [if_neg h']
  exact⟨fun g=>absurd g h',fun g=>absurd (hn.2 g.1) h'⟩
theorem zcj (e:En) (hl:e.holes.length<=9223372036854775807) (hb:∀ s ∈ e.holes,s.lo<zk/\s.hi<zk):Cn Tryz.prog 67 [ep e] (.tup [.v (.int .i64 (yV e).1),.v (.int .i64 (yV e).2)]):=by
 refine zt Tryz.func67 1 ?_
 refine pw ?_
 refine .c (XO e.holes hl hb) ?_
 refine .i ?_ ?_<;>intro h<;>(try simp only [zb] at h)<;>first | refine pw ?_ | exact pd
 ·unfold yV
  rw [if_neg (by omega)]
 ·refine pLoop.go (fun k=>k<=e.holes.length/\yV e=hk e.max (e.holes.drop k) k) (fun k=>[(6,.v (.int .i64 (k:Nat)))]) (fun _=>[ec e]) (fun k=>e.holes.length - k) 0 [6] ?_ ?_ ?_
  ·refine⟨Nat.zero_le _,?_⟩
   unfold yV
   rw [if_pos (by omega)];rfl
  ·exact pd
  ·rintro k ⟨hk1,hm⟩
   refine pw ?_
   refine .i ?_ ?_<;>intro h1<;>(try simp only [zb] at h1)<;>first | refine pw ?_ | exact pd
   ·rw [K3 h1] at hm
    refine .i ?_ ?_<;>intro h2<;>(try simp only [zb] at h2)<;>first | refine pw ?_ | exact pd
    ·rw [hm,if_pos h2]
     simp
    ·rw [if_neg (by omega)] at hm
     exact⟨k+1,⟨h1,hm⟩,by omega,rfl⟩
   ·rw [List.drop_of_length_le h1] at hm
    rw [hm]
    simp [hk]
theorem zeq (x:Nat):Cn Tryz.prog 103 [.v (.int .u64 x)] (Je ⟨0,x⟩):=by
 refine zt Tryz.func103 1 ?_
 (first | refine pw ?_ | exact pd)
 try rfl
theorem XZ (e:En) (h:zO e) (hl:e.holes.length<=131072):Cn Tryz.prog 99 [ep e] (rg (kn e)):=by
 refine zt Tryz.func99 1 ?_
 refine pw ?_
 refine .c (zeq e.max) ?_
 refine .c (zg0 e.holes ⟨0,e.max⟩ h.1 (Nat.zero_le _) h.2.2.1 (by omega)) ?_
 rfl
section
variable (a b:En) (ha:zO a) (hb:zO b) (la:a.holes.length<=10000) (lb:b.holes.length<=10000)
include ha hb la lb
end
theorem zi9 {n:Int} (h : -9223372036854775808<=n/\n<9223372036854775808):IntKind.i64.wrap n=n:=by
 simp only [IntKind.wrap,IntKind.bits,IntKind.signed]
 simp
 omega
theorem KV (p:Nat->Prop) [DecidablePred p]:∀ n,(∀ i j,i<=j->j<n->p j->p i)->∃ i,i<=n/\(∀ j,j<i->p j)/\∀ j,i<=j->j<n->¬ p j
 | 0,_=>⟨0,Nat.le_refl _,fun j h=>absurd h (by omega),fun j h1 h2=>absurd h2 (by omega)⟩
 | n+1,h=>by
   by_cases hp:p n
   ·exact⟨n+1,Nat.le_refl _,fun j hj=>h j n (by omega) (by omega) hp,fun j h1 h2=>absurd h2 (by omega)⟩
   ·obtain⟨i,h1,h2,h3⟩:=KV p n fun i j hij hj=>h i j hij (by omega)
    refine⟨i,by omega,h2,fun j h4 h5=>?_⟩
    rcases Nat.lt_or_ge j n with h6 | h6
    ·exact h3 j h4 h6
    ·obtain rfl:j=n:=by omega
     exact hp
attribute [go_sem] zi9
theorem zhn (l:List Iv) (x:Nat) (g:FuncId) (c:Nat->Int) (i:Nat) (hi:i<=l.length) (h1:∀ j,j<i->c j<0) (h2:∀ j,i<=j->j<l.length->0<=c j) (hl:l.length<=1152921504606846976)
 (hg:∀ k (h:k<l.length),Cn Tryz.prog g [Je l[k],.v (.int .u64 x)] (.v (.int .i64 (c k)))):Cn Tryz.prog 97 [rg l,.v (.int .u64 x),.fn (.func g) [] []] (.tup [.v (.int .i64 i),.v (.bool (decide (i<l.length) && decide (c i=0)))]):=by
 refine zt Tryz.func97 3 ?_
 refine pw ?_
 refine pLoop.go (fun p:Nat × Nat=>p.1<=i/\i<=p.2/\p.2<=l.length) (fun p=>[(9,.v (.int .i64 (p.1:Nat))),(10,.v (.int .i64 (p.2:Nat)))]) (fun _=>[]) (fun p=>p.2 - p.1) (0,l.length) [9,10] ?_ ?_ ?_
 ·exact⟨Nat.zero_le _,hi,Nat.le_refl _⟩
 ·exact pd
 ·rintro⟨p,q⟩ ⟨k1,k2,k3⟩
  simp only at k1 k2 k3
  refine pw ?_
  refine .i ?_ ?_<;>intro h<;>(try simp only [zb] at h)<;>first | refine pw ?_ | exact pd
  ·have hm:(p+q) / 2<l.length:=by omega
   refine pw ?_
   (first | refine .c (hg ((p+q) / 2) hm) ?_ | refine .o (hg ((p+q) / 2) hm) ?_)
   refine .i ?_ ?_<;>intro h4<;>(try simp only [zb] at h4)<;>first | refine pw ?_ | exact pd
   ·refine⟨((p+q) / 2+1,q),⟨?_,k2,k3⟩,by simp only;omega,rfl,rfl⟩
    simp only
    refine Nat.lt_of_not_le fun h5=>?_
    have:=h2 _ h5 hm
    omega
   ·refine⟨(p,(p+q) / 2),⟨k1,?_,by simp only;omega⟩,by simp only;omega,rfl,rfl⟩
    simp only
    refine Nat.le_of_not_lt fun h5=>?_
    have:=h1 _ h5
    omega
  ·obtain rfl:p=i:=by omega
   obtain rfl:q=p:=by omega
   refine .i ?_ ?_<;>intro h4<;>(try simp only [zb] at h4)<;>first | refine pw ?_ | exact pd
   ·(first | refine .c (hg q h4) ?_ | refine .o (hg q h4) ?_)
    simp [h4]
   ·have h4':¬ q<l.length:=by omega
    simp [h4']
theorem zd5 (s:Iv) (x:Nat):Cn Tryz.prog 98 [Je s,.v (.int .u64 x)] (.v (.int .i64 (if s.hi<x then -1 else if x<s.lo then 1 else 0))):=by
 refine zt Tryz.func98 2 ?_
 refine pw ?_
 refine .i ?_ ?_<;>intro h1<;>(try simp only [zb] at h1)<;>first | refine pw ?_ | exact pd
 ·rw [if_pos h1]
 ·rw [if_neg (by omega)]
  refine .i ?_ ?_<;>intro h2<;>(try simp only [zb] at h2)<;>first | refine pw ?_ | exact pd
  ·rw [if_pos h2]
  ·rw [if_neg (by omega)]
theorem zdE {l:List Iv} (hl:Nrm l) (x:Nat):∃ i,i<=l.length/\(∀ j,(h:j<l.length)->j<i->l[j].hi<x)/\(∀ j,(h:j<l.length)->i<=j->x<=l[j].hi)/\(mem l x=true ↔ ∃ h:i<l.length,l[i].lo<=x):=by
 have mono:∀ {n:Nat} {l:List Iv},NF n l->∀ i j,(hij:i<j)->(hj:j<l.length)->l[i].hi<l[j].lo:=by
  intro n l
  induction l generalizing n with
  | nil=>intro _ i j _ hj;simp at hj
  | cons s l ih=>
    intro h i j hij hj
    obtain⟨j',rfl⟩:∃ j',j=j'+1:=⟨j - 1,by omega⟩
    cases i with
    | zero=>
      have:=NF.lo_ge h.2.2.2 (l[j']'(by simpa using hj)) (List.getElem_mem _)
      simp only [List.getElem_cons_zero,List.getElem_cons_succ]
      omega
    | succ i=>exact ih h.2.2.2 i j' (by omega) (by simpa using hj)
 obtain⟨i,h1,h2,h3⟩:=KV (fun j=>∃ h:j<l.length,l[j].hi<x) l.length fun a b hab hb ⟨h4,h5⟩=>by
  refine⟨by omega,?_⟩
  rcases Nat.lt_or_eq_of_le hab with h6 | h6
  ·have:=mono hl a b h6 hb
   have:=NF.lo_ge hl l[b] (List.getElem_mem _)
   omega
  ·subst h6;exact h5
 have h3':∀ j,(h:j<l.length)->i<=j->x<=l[j].hi:=fun j hj hij=>by
  have:=h3 j hij hj
  exact Nat.le_of_not_lt fun h=>this ⟨hj,h⟩
 refine⟨i,h1,fun j hj hji=>(h2 j hji).2,h3',?_⟩
 rw [qf]
 constructor
 ·rintro⟨s,hs,h4,h5⟩
  obtain⟨j,hj,rfl⟩:=List.getElem_of_mem hs
  have hij:i<=j:=Nat.le_of_not_lt fun h=>by have:=(h2 j h).2;omega
  refine⟨by omega,?_⟩
  rcases Nat.lt_or_eq_of_le hij with h6 | h6
  ·have:=mono hl i j h6 hj
   have:=NF.lo_ge hl (l[i]'(by omega)) (List.getElem_mem _)
   omega
  ·subst h6;exact h4
 ·rintro⟨h,h4⟩
  exact⟨l[i],List.getElem_mem _,h4,h3' i h (Nat.le_refl _)⟩
def zaT (x:Nat) (s:Iv):Int:=if s.hi<x then -1 else if x<s.lo then 1 else 0
theorem ziQ (l:List Iv) (x:Nat) (hl:Nrm l) (hn:l.length<=1152921504606846976):Cn Tryz.prog 57 [rg l,.v (.int .u64 x)] (.v (.bool (mem l x))):=by
 obtain⟨i,h1,h2,h3,h4⟩:=zdE hl x
 have hF:Cn Tryz.prog 81 [rg l,.v (.int .u64 x)] (.v (.int .i64 (if mem l x then (i:Int) else -1))):=by
  refine zt Tryz.func81 2 ?_
  refine pw ?_
  refine .c (zhn l x 98 (fun k=>if h:k<l.length then zaT x l[k] else 0) i h1 (fun j hj=>by rw [dif_pos (show j<l.length by omega)];unfold zaT;rw [if_pos (h2 j (by omega) hj)];decide) (fun j hj hjl=>by rw [dif_pos hjl];unfold zaT;rw [if_neg (by have:=h3 j hjl hj;omega)];split<;>decide) hn (fun k h=>by rw [dif_pos h];exact zd5 l[k] x)) ?_
  have e:(decide (i<l.length) && decide ((if h:i<l.length then zaT x l[i] else 0)=0))=mem l x:=by
   rw [Bool.eq_iff_iff,h4]
   simp only [Bool.and_eq_true,decide_eq_true_eq]
   constructor
   ·rintro⟨k1,k2⟩
    refine⟨k1,?_⟩
    rw [dif_pos k1] at k2
    unfold zaT at k2
    split at k2
    ·cases k2
    ·split at k2
     ·cases k2
     ·omega
   ·rintro⟨k1,k2⟩
    refine⟨k1,?_⟩
    rw [dif_pos k1]
    unfold zaT
    rw [if_neg (by have:=h3 i k1 (Nat.le_refl _);omega),if_neg (by omega)]
  rw [e]
  refine .i ?_ ?_<;>intro h5<;>(try simp only [zb] at h5)<;>first | refine pw ?_ | exact pd
  ·rw [h5];rfl
  ·rw [h5];rfl
 refine zt Tryz.func57 2 ?_
 refine pw ?_
 (first | refine .c (hF) ?_ | refine .o (hF) ?_)
 cases mem l x<;>simp
def vp (v:List En):PV:=.sl (v.map ec) .sh
attribute [go_sem] vp
def ZL (e:En):Prop:=(∀ s ∈ e.holes,s.lo<zk/\s.hi<zk)/\e.max<zk/\e.rep<zk
def ea:En:=⟨1,2,[]⟩
def eb:En:=⟨1,5,[⟨3,4⟩]⟩
def ed:En:=⟨1,5,[]⟩
section
variable (a b:En) (ha:ZL a) (hb:ZL b)
include ha hb
end
theorem ze4 {D:Nat->Nat->Prop} {w:World} {x:Value} {v:List En} (h:Dat D w x (vp v)) (hD:∀ b o,D b o->b<w.heap.size) (hb:∀ e ∈ v,ZL e):RdV w.heap.size w x v:=by
 unfold vp at h
 generalize he:v.map ec=es at h
 cases h with
 | sl a cap sz es o b off u hc hz hm ha hsz hd hx=>
   have hl:es.length=v.length:=by rw [<-he];simp
   refine⟨a,cap,by rw [hl],by omega,hm,fun hne=>?_⟩
   have hpos:0<v.length:=List.length_pos_iff.2 hne
   have g:∀ i (h:i<v.length),es[i]? = some (ec v[i]):=fun i h=>by rw [<-he];exact xo h
   obtain rfl:3=sz:=hsz 0 _ (g 0 hpos)
   have hes:es≠[]:=by intro e;subst e;simp at hl;omega
   have hdlt:b<w.heap.size:=hD _ _ (hd 0 (by omega)).1
   refine⟨b,off,ha hes,Nat.zero_le _,hdlt,fun i hi=>?_⟩
   have e0:=(hx i _ 0 _ (g i hi) rfl).v_inv
   have e1:=(hx i _ 1 _ (g i hi) rfl).v_inv
   have e2:=hx i _ 2 _ (g i hi) rfl
   have c0:=(hd (i * 3+0) (by omega)).2.1
   have c1:=(hd (i * 3+1) (by omega)).2.1
   have c2:=(hd (i * 3+2) (by omega)).2.1
   rw [e0] at c0
   rw [e1] at c1
   obtain⟨b1,b2,b3⟩:=hb _ (List.getElem_mem hi)
   exact⟨c0,c1,⟨_,c2,je e2 hD b1⟩,b3,b2⟩
end Go.Proofs.YtopfkkogooocgaaGreat
namespace Go.Proofs.YtopfkkogooocgaaGreat
open Go.RowKit Go.Maps
abbrev DV:=DataW Value
def rV (v:Value):Option (DV × List MemPlace):=some (.held v,[])
def zP:Value:=.agg #[.slice none 0 0,.slice none 0 0]
def kR (r:Nat):Lit:=.int .u64 (r:Nat)
theorem vF:Keyed Tryz.prog 33 := int_keyed Tryz.underlying33
theorem zeC (w:World):(zeroValue 125).run Tryz.prog w=.ok zP w:=by kernel_rfl
theorem Zq {r:Nat} (h:r<zk):keyOf Tryz.prog 33 (.int .u64 (r:Nat))=some (kR r):=by
 rw [zw] at h
 refine keyOf_int_mk Tryz.underlying33 ?_
 simp [Lit.wf,IntKind.min,IntKind.max,IntKind.signed,IntKind.bits]
 omega
theorem Qc (r:Nat):WideAt.IsKeyLit (kR r):=trivial
theorem Xa {r s:Nat} (h:kR r=kR s):r=s:=by
 unfold kR at h
 injection h with _ h
 omega
def DL (C:Nat->Nat->Prop) (mb:Nat) (w:World):Nat->Nat->Prop:=fun b o=>C b o\/(mb<b/\b<w.heap.size)
def rdF (C:Nat->Nat->Prop) (w:World) (b o:Nat) (e:En):Prop:=w.cell? ⟨b,o,none⟩=some (.int .u64 e.rep)/\w.cell? ⟨b,o+1,none⟩=some (.int .u64 e.max)/\(∃ hv,w.cell? ⟨b,o+2,none⟩=some hv/\Dat C w hv (rg e.holes))/\e.rep<zk/\e.max<zk
def RdF (C:Nat->Nat->Prop) (n0:Nat) (w:World) (v:Value) (l:List En):Prop:=RdSl 3 (rdF C) 0 n0 w v l
theorem RdF.keep {C:Nat->Nat->Prop} {n0:Nat} {w w':World} {v:Value} {l:List En} (hC:∀ b o,C b o->b<n0) (h:RdF C n0 w v l) (hb:∀ k,k<n0->w'.heap[k]? = w.heap[k]?):RdF C n0 w' v l:=
 RdSl.keep h (Nat.le_refl _) (Nat.le_refl _) fun b o x _ h2 ⟨c0,c1,⟨hv,c2,c3⟩,c4⟩=>
  ⟨(World.cell?_of_block (a:=⟨b,o,none⟩) (hb b h2)).trans c0,(World.cell?_of_block (a:=⟨b,o+1,none⟩) (hb b h2)).trans c1,⟨hv,(World.cell?_of_block (a:=⟨b,o+2,none⟩) (hb b h2)).trans c2,c3.mono (fun _ _ h=>h) fun b o x hD hx=>(World.cell?_of_block (a:=⟨b,o,none⟩) (hb b (hC b o hD))).trans hx⟩,c4⟩
theorem dat_rdf {D:Nat->Nat->Prop} {w:World} {x:Value} {v:List En} (h:Dat D w x (vp v)) (hD:∀ b o,D b o->b<w.heap.size) (hb:∀ e ∈ v,ZL e):RdF D w.heap.size w x v:=by
 unfold vp at h
 generalize he:v.map ec=es at h
 cases h with
 | sl a cap sz es o b off u hc hz hm ha hsz hd hx=>
   have hl:es.length=v.length:=by rw [<-he];simp
   refine⟨a,cap,by rw [hl],by omega,hm,fun hne=>?_⟩
   have hpos:0<v.length:=List.length_pos_iff.2 hne
   have g:∀ i (h:i<v.length),es[i]? = some (ec v[i]):=fun i h=>by rw [<-he];exact xo h
   obtain rfl:3=sz:=hsz 0 _ (g 0 hpos)
   have hes:es≠[]:=by intro e;subst e;simp at hl;omega
   have hdlt:b<w.heap.size:=hD _ _ (hd 0 (by omega)).1
   refine⟨b,off,ha hes,Nat.zero_le _,hdlt,fun i hi=>?_⟩
   have e0:=(hx i _ 0 _ (g i hi) rfl).v_inv
   have e1:=(hx i _ 1 _ (g i hi) rfl).v_inv
   have e2:=hx i _ 2 _ (g i hi) rfl
   have c0:=(hd (i * 3+0) (by omega)).2.1
   have c1:=(hd (i * 3+1) (by omega)).2.1
   have c2:=(hd (i * 3+2) (by omega)).2.1
   rw [e0] at c0
   rw [e1] at c1
   obtain⟨b1,b2,b3⟩:=hb _ (List.getElem_mem hi)
   exact⟨c0,c1,⟨_,c2,e2⟩,b3,b2⟩
def PairD (C:Nat->Nat->Prop) (w:World) (mb:Nat) (D:DV) (dom:List Nat) (f0 f1:Nat->List Iv):Prop:=
 IsMap D/\∀ r,has D (kR r)=decide (r ∈ dom)/\∃ s0 s1,D.atKey (kR r) (.held zP)=.held (.agg #[s0,s1])/\Dat (DL C mb w) w s0 (rg (f0 r))/\Dat (DL C mb w) w s1 (rg (f1 r))
theorem KN {D:Nat->Nat->Prop} {w:World}:Dat D w (.slice none 0 0) (rg []):=.sl none 0 2 [] .sh 0 0 (fun _=>undef) (by simp) (fun h=>by cases h) (by decide) (fun h=>absurd rfl h) (fun i e h=>by simp at h) (fun j h=>by simp at h) (fun i e j p h=>by simp at h)
theorem PairD.start (C:Nat->Nat->Prop) (w:World) (mb:Nat):PairD C w mb (.map []) [] (fun _=>[]) (fun _=>[]):=
 ⟨⟨[],rfl⟩,fun r=>⟨by simp [has],_,_,rfl,KN,KN⟩⟩
theorem PairD.mono {C:Nat->Nat->Prop} {w w':World} {mb:Nat} {D:DV} {dom:List Nat} {f0 f1:Nat->List Iv} (hC:∀ b o,C b o->b<mb) (h:PairD C w mb D dom f0 f1) (hs:w.heap.size<=w'.heap.size) (hb:∀ k,k<w.heap.size->k≠mb->w'.heap[k]? = w.heap[k]?):PairD C w' mb D dom f0 f1:=by
 refine⟨h.1,fun r=>⟨(h.2 r).1,?_⟩⟩
 obtain⟨s0,s1,e,d0,d1⟩:=(h.2 r).2
 have hw:∀ b o x,DL C mb w b o->w.cell? ⟨b,o,none⟩=some x->w'.cell? ⟨b,o,none⟩=some x:=fun b o x hD hx=>
  (World.cell?_of_block (a:=⟨b,o,none⟩) (hb b (World.block_lt_of_cell? w ⟨b,o,none⟩ hx) (by rcases hD with hD | hD;have:=hC b o hD;omega;omega))).trans hx
 have hD:∀ b o,DL C mb w b o->DL C mb w' b o:=fun b o hD=>hD.imp id fun h=>⟨h.1,Nat.lt_of_lt_of_le h.2 hs⟩
 exact⟨s0,s1,e,d0.mono hD hw,d1.mono hD hw⟩
theorem PairD.put0 {C:Nat->Nat->Prop} {w:World} {mb:Nat} {D:DV} {dom:List Nat} {f0 f1:Nat->List Iv} (h:PairD C w mb D dom f0 f1) {r0:Nat} {l:List Iv} {s s0 s1:Value} (hs:Dat (DL C mb w) w s (rg l)) (he:D.atKey (kR r0) (.held zP)=.held (.agg #[s0,s1])) :
 PairD C w mb (D.put (kR r0) (.held (.agg #[s,s1]))) (dom++[r0]) (fun r=>if r=r0 then l else f0 r) f1:=by
 refine⟨h.1.put _ _,fun r=>?_⟩
 by_cases e:r=r0
 ·subst e
  obtain⟨t0,t1,e1,d0,d1⟩:=(h.2 r).2
  rw [he] at e1
  cases e1
  exact⟨by rw [has_put_same h.1 (Qc _)];simp,s,s1,atKey_put_same h.1 (Qc _) _ _,by dsimp only;rw [if_pos rfl];exact hs,d1⟩
 ·have hne:kR r≠kR r0:=fun h=>e (Xa h)
  obtain⟨t0,t1,e1,d0,d1⟩:=(h.2 r).2
  exact⟨by rw [has_put_other hne,(h.2 r).1];simp [e],t0,t1,by rw [atKey_put_other hne];exact e1,by dsimp only;rw [if_neg e];exact d0,d1⟩
theorem PairD.put1 {C:Nat->Nat->Prop} {w:World} {mb:Nat} {D:DV} {dom:List Nat} {f0 f1:Nat->List Iv} (h:PairD C w mb D dom f0 f1) {r0:Nat} {l:List Iv} {s s0 s1:Value} (hs:Dat (DL C mb w) w s (rg l)) (he:D.atKey (kR r0) (.held zP)=.held (.agg #[s0,s1])) :
 PairD C w mb (D.put (kR r0) (.held (.agg #[s0,s]))) (dom++[r0]) f0 (fun r=>if r=r0 then l else f1 r):=by
 refine⟨h.1.put _ _,fun r=>?_⟩
 by_cases e:r=r0
 ·subst e
  obtain⟨t0,t1,e1,d0,d1⟩:=(h.2 r).2
  rw [he] at e1
  cases e1
  exact⟨by rw [has_put_same h.1 (Qc _)];simp,s0,s,atKey_put_same h.1 (Qc _) _ _,d0,by dsimp only;rw [if_pos rfl];exact hs⟩
 ·have hne:kR r≠kR r0:=fun h=>e (Xa h)
  obtain⟨t0,t1,e1,d0,d1⟩:=(h.2 r).2
  exact⟨by rw [has_put_other hne,(h.2 r).1];simp [e],t0,t1,by rw [atKey_put_other hne];exact e1,d0,by dsimp only;rw [if_neg e];exact d1⟩
theorem zc9 {v:List En} {e:En} (h:∀ f ∈ v,f.rep≠e.rep) (r:Nat):zT (v++[e]) r=if r=e.rep then kn e else zT v r:=by
 unfold zT
 rw [List.find?_append]
 by_cases hr:r=e.rep
 ·subst hr
  rw [if_pos rfl,show List.find? (fun f=>f.rep == e.rep) v=none from List.find?_eq_none.2 fun f hf=>by simpa using h f hf]
  simp
 ·rw [if_neg hr]
  have:List.find? (fun f=>f.rep == r) [e]=none:=by simp;exact fun h=>hr h.symm
  rw [this,Option.or_none]
theorem Vj {v:List En} (h:RightV v) {k:Nat} (hk:k<v.length):zT (v.take (k+1))=fun r=>if r=v[k].rep then kn v[k] else zT (v.take k) r:=by
 funext r
 rw [List.take_succ_eq_append_getElem hk]
 refine zc9 (fun f hf=>?_) r
 obtain⟨i,hi,rfl⟩:=List.getElem_of_mem hf
 have hik:i<k:=by simp at hi;omega
 have:=List.pairwise_iff_getElem.1 h.2 i k (by omega) hk hik
 simp only [List.getElem_take]
 omega
def SmV (v:List En):Prop:=RightV v/\v.length<=1048576/\∀ e ∈ v,e.holes.length<=10000
end Go.Proofs.YtopfkkogooocgaaGreat
namespace Go.Proofs.YtopfkkogooocgaaGreat
open Go.RowKit Go.Lib
attribute [-go_sem] z7
def uV (r:Nat):Value:=.int .u64 (r:Nat)
def OwnU (base:Nat) (w:World) (v:Value) (l:List Nat):Prop:=w.ownsRow base 33 1 v l.length (l.map uV)
def kF {α:Type}:List α->Nat->List α->List α
 | xs,_,[]=>xs
 | xs,o,v::r=>kF (xs.set o v) (o+1) r
theorem jt {α:Type}:∀(vs xs:List α) (o:Nat),o+vs.length<=xs.length->kF xs o vs=xs.take o++vs++xs.drop (o+vs.length)
 | [],xs,o,h=>by simp [kF]
 | v::r,xs,o,h=>by
   simp only [List.length_cons] at h
   rw [kF,jt r (xs.set o v) (o+1) (by rw [List.length_set];omega)]
   rw [List.drop_set_of_lt (by omega),List.take_succ_eq_append_getElem (by rw [List.length_set];omega),List.take_set_of_le (Nat.le_refl _),List.getElem_set_self]
   simp only [List.append_assoc,List.length_cons,List.cons_append,List.nil_append]
   rw [show o+1+r.length=o+(r.length+1) by omega]
theorem jW (w:World) (r:Option Nat):w.grownBy w r:=⟨rfl,rfl,rfl,Nat.le_refl _,fun _ _ _=>rfl⟩
theorem yn {a b c:World} {r:Option Nat} (h:a.grownBy b r) (k:b.grownBy c r):a.grownBy c r:=
 ⟨k.os.trans h.os,k.tape.trans h.tape,k.output.trans h.output,Nat.le_trans h.size k.size,fun i hi hs=>(k.block i (Nat.lt_of_lt_of_le hi h.size) hs).trans (h.block i hi hs)⟩
theorem z9 {base:Nat} {e:TypeId} {size g n cap:Nat}:∀(vs:List Value) (o:Nat) (w:World) (xs:List Value),w.ownsRow base e size (.slice (some ⟨g,0,none⟩) n cap) n xs ->
 (w.setCells g o vs).ownsRow base e size (.slice (some ⟨g,0,none⟩) n cap) n (kF xs o vs)/\w.grownBy (w.setCells g o vs) (some g)
 | [],_,w,xs,h=>⟨h,jW _ _⟩
 | v::r,o,w,xs,h=>by
   obtain⟨h1,h2⟩:=h.stored o v
   obtain⟨h3,h4⟩:=z9 r (o+1) _ _ h1
   exact⟨h3,yn h2 h4⟩
theorem Vf:(Tryz.prog.info? 33).map (fun i=>(i.zero,i.size,i.bytes))=some (some (.int .u64 0),1,8):=by kernel_rfl
theorem QN {l:List Nat}:∀ v ∈ l.map uV,v.oneCell'=true:=fun v hv=>by
 obtain⟨r,_,rfl⟩:=List.mem_map.1 hv
 rfl
theorem OwnU.cases {base:Nat} {w:World} {v:Value} {l:List Nat} (h:OwnU base w v l):(v=.slice none 0 0/\l=[]) \/
 ∃ g cap cur,v=.slice (some ⟨g,0,none⟩) l.length cap/\base<=g/\g<w.heap.size/\w.heap[g]? = some (.cells cur 33 (0,0))/\l.length<=cap/\cap<=maxLen/\cur.size=cap/\cur.toList.take l.length=l.map uV:=by
 rcases h.2 with⟨h1,h2⟩ | ⟨g,cap,cur,h1,h2,h3,h4,h5,h6,h7⟩
 ·exact .inl ⟨h1,List.length_eq_zero_iff.1 h2⟩
 ·exact .inr ⟨g,cap,cur,h1,h2,(Array.getElem?_eq_some_iff.1 h3).1,h3,h4,h5,by omega,by rwa [Nat.mul_one] at h7⟩
theorem zc5 {xs:List Value} {u x:Value} {i:Nat} (hi:i<=xs.length):kF (kF (xs++[u]) (i+1) (xs.drop i)) i [x]=xs.take i++x::xs.drop i:=by
 rw [jt (xs.drop i) _ _ (by simp;omega)]
 have hn:i+1+(xs.drop i).length=xs.length+1:=by simp;omega
 rw [hn,show xs.length+1=(xs++[u]).length by simp,List.drop_length,List.append_nil]
 rw [jt [x] _ _ (by simp;omega)]
 rw [List.take_append_of_le_length (by simp;omega),List.take_take,Nat.min_eq_left (by omega),List.take_append_of_le_length hi]
 have hl:((xs++[u]).take (i+1)).length=i+1:=by simp;omega
 rw [show i+[x].length=i+1 from rfl,List.drop_append,hl,Nat.sub_self,List.drop_zero,show ((xs++[u]).take (i+1)).drop (i+1)=[] from List.drop_eq_nil_of_le (by omega)]
 simp
theorem kG {α:Type} (a b c v:List α) (h:b.length=v.length) {i:Nat} (hi:i=a.length):kF (a++b++c) i v=a++v++c:=by
 subst hi
 rw [jt _ _ _ (by simp;omega),List.append_assoc a b c,List.take_left' rfl,<-List.drop_drop,List.drop_left' rfl,<-h,List.drop_left' rfl]
theorem zc4 {xs:List Value} {u x:Value} {i:Nat} (hi:i<=xs.length):kF (kF (xs.take i++List.replicate (xs.length+1 - i) u) i [x]) (i+1) (xs.drop i)=xs.take i++x::xs.drop i:=by
 have hl:(xs.take i).length=i:=by simp;omega
 have e1:=kG (xs.take i) [u] (List.replicate (xs.length - i) u) [x] rfl hl.symm
 have e2:=kG (xs.take i++[x]) (List.replicate (xs.length - i) u) [] (xs.drop i) (by simp) (i:=i+1) (by simp;omega)
 rw [show xs.length+1 - i=(xs.length - i)+1 by omega,List.replicate_succ,show xs.take i++u::List.replicate (xs.length - i) u=xs.take i++[u]++List.replicate (xs.length - i) u by simp,e1]
 rw [List.append_nil,List.append_nil] at e2
 rw [e2]
 simp
theorem vH {w:World} {vb:Nat} {vt:TypeId} {x:Nat} (hvb:w.heap[vb]? = some (.cells #[uV x] vt (0,0))):∀ j u,[uV x][j]? = some u->w.cell? ((⟨vb,0,none⟩:Addr).add j)=some u:=fun j u hj=>by
 match j,hj with
 | 0,hj=>cases hj;simp [World.cell?,Addr.add,hvb]
 | j+1,hj=>simp at hj
theorem zfr (base vb:Nat) (vt:TypeId) (w:World) (v:Value) (l:List Nat) (x:Nat) (hown:OwnU base w v l) (hvb:w.heap[vb]? = some (.cells #[uV x] vt (0,0))) (hl:l.length<=1099511627776) (hbase:base<=w.heap.size) :
 Calls Tryz.prog 101 #[v,.int .i64 (l.length:Nat),.slice (some ⟨vb,0,none⟩) 1 1] w fun e w'=>∃ v',e=.returned v'/\OwnU base w' v' (l++[x])/\w.grownBy w' v.ownBlock/\(v'.ownBlock=v.ownBlock\/v'.ownBlock=some w.heap.size):=by
 obtain⟨i0,hi0,hz0,hz1,hz2⟩:=info_parts Vf
 have hn:=vH hvb
 have hone:∀ u ∈ [uV x],u.oneCell'=true:=fun u hu=>by simp at hu;subst hu;rfl
 have HO:=Lib.hid hown
 have fin:∀ v' w',w'.ownsRow base 33 1 v' (l.length+1) (l.map uV++[uV x])->OwnU base w' v' (l++[x]):=fun v' w' h=>by
  unfold OwnU
  simpa using h
 rcases hown.cases with⟨rfl,rfl⟩ | ⟨g,cap,cur,rfl,hg1,hg2,hg3,hg4,hg5,hg6,hg7⟩
 ·clear hown
  go_enter Tryz.func101,Tryz.ntmps101
  go_wp2_with (at_builtin;refine wpList_append_own_at _ rfl _ _ 41 rfl base 33 i0 (.int .u64 0) 1 8 Tryz.underlying41 hi0 hz0 hz1 hz2 rfl (by decide) _ _ _ rfl HO.out ⟨vb,0,none⟩ 1 1 [uV x] rfl rfl hn hone (by simp [maxLen]) (by simp) hbase ?_;intro v' w' ho hgr _ hbl)
  go_ret
  exact⟨v',rfl,fin v' w' ho,hgr,hbl⟩
 ·unfold maxLen at hg5
  have hc63:cap<=9223372036854775807:=by omega
  clear hown hg7
  go_enter Tryz.func101,Tryz.ntmps101
  go_wp2_with (at_builtin;refine wpList_append_own_at _ rfl _ _ 41 rfl base 33 i0 (.int .u64 0) 1 8 Tryz.underlying41 hi0 hz0 hz1 hz2 rfl (by decide) _ _ _ rfl HO.out ⟨vb,0,none⟩ 1 1 [uV x] rfl rfl hn hone (by unfold maxLen;omega) (by omega) hbase ?_;intro v' w' ho hgr _ hbl)
  all_goals (go_ret;exact⟨v',rfl,fin v' w' ho,hgr,hbl⟩)
theorem zgG (n:Nat):(Builtin.zeroCells (Value.int .u64 0).cells n).toList=List.replicate n (.int .u64 0):=by
 apply List.ext_getElem
 ·simp [Builtin.zeroCells,Value.cells]
 ·intro i h1 h2
  simp [Builtin.zeroCells,Value.cells,Nat.mod_one]
theorem KX {base:Nat} {w:World} {v:Value} {l:List Nat} {x i:Nat} (hi:i<=l.length) (h:w.ownsRow base 33 1 v (l.length+1) ((l.map uV).take i++uV x::(l.map uV).drop i)):OwnU base w v (l.take i++x::l.drop i):=by
 unfold OwnU
 rw [show (l.take i++x::l.drop i).length=l.length+1 by simp;omega,List.map_append,List.map_cons,List.map_take,List.map_drop]
 exact h
theorem zfs (base vb:Nat) (vt:TypeId) (w:World) (g cap:Nat) (l:List Nat) (x i:Nat) (hi:i<l.length) (hown:OwnU base w (.slice (some ⟨g,0,none⟩) l.length cap) l) (hfull:cap<l.length+1) (hvb:w.heap[vb]? = some (.cells #[uV x] vt (0,0))) (hl:l.length<=1099511627776) (hbase:base<=w.heap.size) :
 Calls Tryz.prog 101 #[.slice (some ⟨g,0,none⟩) l.length cap,.int .i64 (i:Nat),.slice (some ⟨vb,0,none⟩) 1 1] w fun e w'=>∃ v',e=.returned v'/\OwnU base w' v' (l.take i++x::l.drop i)/\w.grownBy w' none/\v'.ownBlock=some w.heap.size:=by
 obtain⟨i0,hi0,hz0,hzs,hzb⟩:=info_parts Vf
 obtain⟨n,hn⟩:∃ n,n=l.length:=⟨_,rfl⟩
 obtain⟨cs,hcs⟩:∃ cs,cs=l.map uV:=⟨_,rfl⟩
 have hcl:cs.length=n:=by rw [hcs,hn,List.length_map]
 have hone:∀ u ∈ cs,u.oneCell'=true:=by rw [hcs];exact QN
 have hnx:=vH hvb
 have hvw:vb<w.heap.size:=(Array.getElem?_eq_some_iff.1 hvb).1
 have hgw:g<w.heap.size:=(hown.lt g rfl).2
 have hnc:n<=cap:=by
  rcases hown.cases with⟨h,_⟩ | ⟨g',cap',_,h,_,_,_,h4,_⟩
  ·cases h
  ·cases h;omega
 have hg:∀ j v,cs[j]? = some v->w.cell? ⟨g,j,none⟩=some v:=fun j v hj=>by
  have:=World.ownsRow.cells hown (g:=g) rfl j v (by rw [<-hcs];exact hj)
  rw [zh,Nat.zero_add] at this
  exact this
 rw [<-hn] at hi hown hfull hl ⊢
 have hkk:(n:Int)+1 - (i:Int)=((n+1 - i:Nat):Int):=by omega
 have hik:i+(n+1 - i)=n+1:=by omega
 have hold:(Builtin.firstCells i0.size i (.slice (some ⟨g,0,none⟩) i cap)).run Tryz.prog w.drew=.ok (cs.take i).toArray w.drew:=by
  rw [hzs]
  refine run_firstCells_some w.drew 1 i ⟨g,0,none⟩ i cap (cs.take i) (by rw [List.length_take];omega) (fun j v hj=>?_)
  rw [List.getElem?_take] at hj
  split at hj
  ·have:=hg j v hj
   rw [zh,Nat.zero_add]
   exact this
  ·cases hj
 have hrz:∀ ty,(Builtin.append_ #[41,3] ty #[.slice (some ⟨g,0,none⟩) i cap,.int .i64 ((n:Int)+1 - (i:Int))]).run Tryz.prog w =
  .ok (.slice (some ⟨w.heap.size,0,none⟩) (n+1) (grownCap w (n+1) cap 33)) (w.drew.alloc (.cells ((cs.take i).toArray++Builtin.zeroCells (Value.int .u64 0).cells (n+1 - i)++Builtin.zeroCells (Value.int .u64 0).cells (grownCap w (n+1) cap 33 - (n+1))) 33)):=fun ty=>by
  have h:=Lib.run_append_grow_zeros w 41 3 ty 33 i0 _ .i64 .i64 Tryz.underlying41 Tryz.underlying3 hi0 hz0 (some ⟨g,0,none⟩) i cap (cs.take i) hold (n+1 - i) (by omega) (by omega) (by omega) (by omega) (by rw [hzb];omega) (by rw [hzb,hik];exact growslice_fits hfull (by omega))
  rw [hik] at h
  rw [hkk]
  exact h
 obtain⟨G,hG⟩:∃ G,G=grownCap w (n+1) cap 33 := ⟨_,rfl⟩
 have hGn:n+1<=G:=by rw [hG];exact grownCap_ge w _ _ _
 have hGm:G<=maxLen:=by rw [hG];exact grownCap_le_maxLen w _ _ _ (by unfold maxLen;omega)
 obtain⟨R,hR⟩:∃ R:Array Value,R=(cs.take i).toArray++Builtin.zeroCells (Value.int .u64 0).cells (n+1 - i)++Builtin.zeroCells (Value.int .u64 0).cells (G - (n+1)):=⟨_,rfl⟩
 rw [<-hG,<-hR] at hrz
 have htl:(cs.take i).length=i:=by rw [List.length_take];omega
 have hRl:R.toList=(cs.take i++List.replicate (cs.length+1 - i) (.int .u64 0))++List.replicate (G - (n+1)) (.int .u64 0):=by
  rw [hR]
  simp only [Array.toList_append,zgG,hcl]
 have hRs:R.size=G:=by
  have:R.toList.length=G:=by rw [hRl];simp;omega
  simpa using this
 obtain⟨W1,hW1⟩:∃ W1,W1=w.drew.alloc (.cells R 33):=⟨_,rfl⟩
 have o1:W1.ownsRow base 33 1 (.slice (some ⟨w.heap.size,0,none⟩) (n+1) G) (n+1) (cs.take i++List.replicate (cs.length+1 - i) (.int .u64 0)):=by
  refine⟨by simp;omega,.inr ⟨w.heap.size,G,R,rfl,hbase,?_,hGn,hGm,by omega,?_⟩⟩
  ·rw [hW1];exact World.alloc_heap_new w.drew _
  ·rw [hRl,List.take_append_of_le_length (by simp;omega),List.take_of_length_le (by simp;omega)]
 obtain⟨o2,g2⟩:=z9 [uV x] i _ _ o1
 obtain⟨o3,g3⟩:=z9 (cs.drop i) (i+1) ((W1.setCells w.heap.size i [uV x]).drew) _ o2
 rw [zc4 (by omega)] at o3
 have g1:w.grownBy W1 none:=by
  rw [hW1]
  exact⟨rfl,rfl,rfl,by simp,fun k hk _=>Below.heap_alloc w.drew _ _ hk⟩
 have gall:w.grownBy (((W1.setCells w.heap.size i [uV x]).drew).setCells w.heap.size (i+1) (cs.drop i)) none:=by
  refine⟨g3.os.trans (g2.os.trans g1.os),g3.tape.trans (g2.tape.trans g1.tape),g3.output.trans (g2.output.trans g1.output),Nat.le_trans g1.size (Nat.le_trans g2.size g3.size),fun k hk _=>?_⟩
  have hk1:k<W1.heap.size:=Nat.lt_of_lt_of_le hk g1.size
  have hne:some k≠some w.heap.size:=fun e=>by cases e;omega
  rw [g3.block k (Nat.lt_of_lt_of_le hk1 g2.size) hne]
  show (W1.setCells w.heap.size i [uV x]).heap[k]? = _
  rw [g2.block k hk1 hne,g1.block k hk (by simp)]
 have OF:=Lib.hid (KX (l:=l) (x:=x) (i:=i) (by omega) (by rw [<-hn,<-hcs];exact o3))
 have GA:=Lib.hid gall
 clear o3 gall o1 o2
 rw [<-hW1] at hrz
 have hN:∀ j,j<n+1->(W1.cell? ⟨w.heap.size,j,none⟩).isSome=true:=fun j hj=>by
  rw [hW1,World.cell?_alloc_at (w:=w.drew) R _ w.heap.size j rfl,Array.getElem?_eq_getElem (by omega)];rfl
 have hNf:∀ j,W1.frozen? ⟨w.heap.size,j,none⟩=false:=fun j=>by rw [hW1];exact World.frozen?_alloc_at (w:=w.drew) R _ w.heap.size j rfl
 have hOb:∀ j v,w.cell? ⟨g,j,none⟩=some v->W1.cell? ⟨g,j,none⟩=some v:=fun j v h=>by rw [hW1,World.cell?_alloc_past (w:=w.drew) _ g j hgw];exact h
 have hOv:∀ j v,w.cell? ⟨vb,j,none⟩=some v->W1.cell? ⟨vb,j,none⟩=some v:=fun j v h=>by rw [hW1,World.cell?_alloc_past (w:=w.drew) _ vb j hvw];exact h
 have hsz:(Tryz.prog.info? 33).map (·.size)=some 1:=by rw [hi0];simp [hzs]
 have hone1:∀ u ∈ [uV x],u.oneCell'=true:=fun u hu=>by simp at hu;subst hu;rfl
 have hcpA:∀(W:World),(∀ y,W.cell? y=W1.cell? y)->(∀ y,W.frozen? y=W1.frozen? y)->∀ ty dc,(Builtin.copy_ #[41,41] ty #[.slice (some ⟨w.heap.size,i,none⟩) (n+1 - i) dc,.slice (some ⟨vb,0,none⟩) 1 1]).run Tryz.prog W=.ok (goInt [uV x].length) (W.setCells w.heap.size i [uV x]):=fun W hWc hWf ty dc=>
  run_copy_cells W _ _ ty 33 w.heap.size i (n+1 - i) dc ⟨vb,0,none⟩ 1 1 [uV x] Tryz.underlying41 hsz (by simp only [List.length_singleton,Nat.min_def];split<;>omega)
   (fun j v hj=>by have:=hnx j v hj;rw [zh] at this;rw [hWc,zh];exact hOv _ v this)
   (fun j hj=>by rw [hWc];simp at hj;exact hN _ (by omega)) (fun j hj=>by rw [hWf];exact hNf _) hone1
 have hdl:(cs.drop i).length=n - i:=by rw [List.length_drop,hcl]
 have hne:g≠w.heap.size:=by omega
 have hcpB:∀(W:World),(∀ y,W.cell? y=(W1.setCells w.heap.size i [uV x]).cell? y)->(∀ y,W.frozen? y=(W1.setCells w.heap.size i [uV x]).frozen? y)->∀ ty dc sc,(Builtin.copy_ #[41,41] ty #[.slice (some ⟨w.heap.size,i+1,none⟩) (n - i) dc,.slice (some ⟨g,i,none⟩) (n - i) sc]).run Tryz.prog W=.ok (goInt (cs.drop i).length) (W.setCells w.heap.size (i+1) (cs.drop i)):=fun W hWc hWf ty dc sc=>
  run_copy_cells W _ _ ty 33 w.heap.size (i+1) (n - i) dc ⟨g,i,none⟩ (n - i) sc (cs.drop i) Tryz.underlying41 hsz (by rw [hdl];simp only [Nat.min_def];split<;>omega)
   (fun j v hj=>by
     rw [hWc,zh,World.cell?_setCells_out _ _ _ _ _ (fun h _=>absurd h hne)]
     exact hOb _ v (hg (i+j) v (by rwa [List.getElem?_drop] at hj)))
   (fun j hj=>by rw [hWc];exact isSome_setCells _ _ _ _ (fun t ht=>hN _ (by simp at ht;omega)) _ (hN _ (by omega)))
   (fun j hj=>by rw [hWf,World.frozen?_setCells];exact hNf _) (fun v hv=>hone v (List.mem_of_mem_drop hv))
 have hF1:∀ y,((W1.setCells w.heap.size i [uV x]).drew).cell? y=(W1.setCells w.heap.size i [uV x]).cell? y:=fun y=>rfl
 have hF2:∀ y,((W1.setCells w.heap.size i [uV x]).drew).frozen? y=(W1.setCells w.heap.size i [uV x]).frozen? y:=fun y=>rfl
 have hz2:¬((i:Int)=(n:Int)):=by omega
 have hz3:(cap:Int)<(n:Int)+1:=by omega
 unfold maxLen at hGm
 have hGi:¬(G=i):=by omega
 have hGim:¬(G=i+1):=by omega
 have hci:¬(cap=i):=by omega
 have hw1:IntKind.i64.wrap ((i:Int)+1)=(i:Int)+1:=by rw [IntKind.wrap_i64];omega
 have hb1:(0:Int)<=(i:Int)+1:=by omega
 have hin:i<=n:=by omega
 have htn:((i:Int)+1).toNat=i+1:=by omega
 have hb3:(i:Int)<=(n:Int):=by omega
 clear hn hkk hik hold hG hRl hR hRs hown hg hN hNf hOb hOv hone hone1 hcl hcs hnx hvb htl hdl g1 g2 g3 hW1
 go_enter Tryz.func101,Tryz.ntmps101
 go_wp2_with (first
  | (at_builtin;refine Lib.wpList_append_run _ rfl _ _ _ _ rfl _ _ rfl rfl _ _ (hrz _) ?_)
  | (at_builtin;refine wpList_copy_runI _ rfl _ _ 41 41 rfl _ _ rfl rfl (hcpA _ (fun _=>rfl) (fun _=>rfl) _ _) ?_)
  | (at_builtin;refine wpList_copy_runI _ rfl _ _ 41 41 rfl _ _ rfl rfl (hcpB _ (fun _=>rfl) (fun _=>rfl) _ _ _) ?_))
 have mixed:Tryz.prog.follows .mixedOrders=true:=by kernel_rfl
 go_region_law_o (refine step_copy_runI rfl _ _ 41 41 rfl (.slice (some ⟨w.heap.size,i+1,none⟩) (n - i) (G - (i+1))) (.slice (some ⟨g,i,none⟩) (n - i) (cap - i)) (by simp [Act.eval,Act.put]) (by simp [Act.eval,Act.put]) (hcpB _ hF1 hF2 _ (G - (i+1)) (cap - i)) ?_)
 go_wp2
 refine bodyPost_ret (results_tmp rfl _ _ _) rfl ?_
 exact⟨_,rfl,OF.out,GA.out,rfl⟩
theorem za8 (base vb:Nat) (vt:TypeId) (w:World) (g cap:Nat) (l:List Nat) (x i:Nat) (hi:i<l.length) (hown:OwnU base w (.slice (some ⟨g,0,none⟩) l.length cap) l) (hroom:l.length+1<=cap) (hvb:w.heap[vb]? = some (.cells #[uV x] vt (0,0))) (hne:vb≠g) (hl:l.length<=1099511627776) :
 Calls Tryz.prog 101 #[.slice (some ⟨g,0,none⟩) l.length cap,.int .i64 (i:Nat),.slice (some ⟨vb,0,none⟩) 1 1] w fun e w'=>∃ v',e=.returned v'/\OwnU base w' v' (l.take i++x::l.drop i)/\w.grownBy w' (some g)/\v'.ownBlock=some g:=by
 obtain⟨i0,hi0,hz0,hzs,hzb⟩:=info_parts Vf
 obtain⟨n,hn⟩:∃ n,n=l.length:=⟨_,rfl⟩
 obtain⟨cs,hcs⟩:∃ cs,cs=l.map uV:=⟨_,rfl⟩
 have hcl:cs.length=n:=by rw [hcs,hn,List.length_map]
 have hone:∀ u ∈ cs,u.oneCell'=true:=by rw [hcs];exact QN
 have hnx:=vH hvb
 obtain⟨cur,hbg,hgb,hc63,hcz,htk⟩:∃ cur,base<=g/\w.heap[g]? = some (.cells cur 33 (0,0))/\cap<=maxLen/\cur.size=cap/\cur.toList.take l.length=l.map uV:=by
  rcases hown.cases with⟨h,_⟩ | ⟨g',cap',cur,h,h1,_,h3,_,h5,h6,h7⟩
  ·cases h
  ·cases h;exact⟨cur,h1,h3,h5,h6,h7⟩
 rw [<-hn,<-hcs] at htk
 rw [<-hn] at hi hown hroom hl ⊢
 have hlt:n<cur.toList.length:=by simp;omega
 obtain⟨u,hu⟩:∃ u,u=cur.toList[n]:=⟨_,rfl⟩
 have o0:w.drew.ownsRow base 33 1 (.slice (some ⟨g,0,none⟩) (n+1) cap) (n+1) (cs++[u]):=by
  refine⟨by simp;omega,.inr ⟨g,cap,cur,rfl,hbg,hgb,hroom,hc63,by omega,?_⟩⟩
  rw [Nat.mul_one,List.take_succ_eq_append_getElem hlt,htk,hu]
 obtain⟨o1,g1⟩:=z9 (cs.drop i) (i+1) _ _ o0
 obtain⟨o2,g2⟩:=z9 [uV x] i _ _ o1
 rw [zc5 (by omega)] at o2
 have g0:w.grownBy w.drew (some g):=⟨rfl,rfl,rfl,Nat.le_refl _,fun _ _ _=>rfl⟩
 have OF:=Lib.hid (KX (l:=l) (x:=x) (i:=i) (by omega) (by rw [<-hn,<-hcs];exact o2))
 have GA:=Lib.hid (yn g0 (yn g1 g2))
 have hcell:∀ j,j<cap->(w.cell? ⟨g,j,none⟩).isSome=true:=fun j hj=>by
  simp [World.cell?,hgb,hcz,hj]
 have hfz:∀ j,w.frozen? ⟨g,j,none⟩=false:=fun j=>by simp [World.frozen?,hgb]
 have hg:∀ j v,cs[j]? = some v->w.cell? ⟨g,j,none⟩=some v:=fun j v hj=>by
  have:=World.ownsRow.cells hown (g:=g) rfl j v (by rw [<-hcs];exact hj)
  rw [zh,Nat.zero_add] at this
  exact this
 have hsa:w.shape? vb=some (vt,1):=by simp [World.shape?,hvb]
 have hsb:w.shape? g=some (33,cap):=by simp [World.shape?,hgb,hcz]
 have hfa:w.frozen? ⟨vb,0,none⟩=false:=by simp [World.frozen?,hvb]
 have hfe:w.frozen? ⟨vb,1,none⟩=false:=by simp [World.frozen?,hvb]
 have hsz:(Tryz.prog.info? 33).map (·.size)=some 1:=by rw [hi0];simp [hzs]
 have hone1:∀ u ∈ [uV x],u.oneCell'=true:=fun u hu=>by simp at hu;subst hu;rfl
 have hov:∀ lb cb,(callFunc 112 #[.slice (some ⟨vb,0,none⟩) 1 1,.slice (some ⟨g,i+1,none⟩) lb cb]).run Tryz.prog w=.ok (.value (.bool false)) w:=fun lb cb=>by
  rw [run_callFunc_extern Tryz.func112 (by kernel_rfl) (by kernel_rfl) (by kernel_rfl) (e:=Extern.SlicesOverlaps.overlaps #[41,41] #[4]) (by kernel_rfl),
   Lib.run_overlaps_apart w 41 4 33 Tryz.underlying41 1 (fun w=>by kernel_rfl) ⟨vb,0,none⟩ ⟨g,i+1,none⟩ 1 1 lb cb hne vt 33 1 cap hsa hsb (by omega) hfa hfe]
  rfl
 have hdl:(cs.drop i).length=n - i:=by rw [List.length_drop,hcl]
 have hcp1:∀ ty dc sc,(Builtin.copy_ #[41,41] ty #[.slice (some ⟨g,i+1,none⟩) (n - i) dc,.slice (some ⟨g,i,none⟩) (n+1 - i) sc]).run Tryz.prog w.drew=.ok (goInt (cs.drop i).length) (w.drew.setCells g (i+1) (cs.drop i)):=fun ty dc sc=>
  run_copy_cells w.drew _ _ ty 33 g (i+1) (n - i) dc ⟨g,i,none⟩ (n+1 - i) sc (cs.drop i) Tryz.underlying41 hsz (by rw [hdl];simp only [Nat.min_def];split<;>omega)
   (fun j v hj=>by rw [zh];exact hg (i+j) v (by rwa [List.getElem?_drop] at hj))
   (fun j hj=>hcell _ (by omega)) (fun j hj=>hfz _) (fun v hv=>hone v (List.mem_of_mem_drop hv))
 obtain⟨W1,hW1⟩:∃ W1,W1=w.drew.setCells g (i+1) (cs.drop i):=⟨_,rfl⟩
 have hsp1:∀ k,k<cap->(W1.cell? ⟨g,k,none⟩).isSome=true:=fun k hk=>by
  rw [hW1]
  exact isSome_setCells g (cs.drop i) (i+1) w.drew (fun j hj=>hcell _ (by rw [hdl] at hj;omega)) k (hcell k hk)
 have hcp2:∀(W:World),(∀ y,W.cell? y=W1.cell? y)->(∀ y,W.frozen? y=W1.frozen? y)->∀ ty dc,(Builtin.copy_ #[41,41] ty #[.slice (some ⟨g,i,none⟩) (n+1 - i) dc,.slice (some ⟨vb,0,none⟩) 1 1]).run Tryz.prog W=.ok (goInt [uV x].length) (W.setCells g i [uV x]):=fun W hWc hWf ty dc=>
  run_copy_cells W _ _ ty 33 g i (n+1 - i) dc ⟨vb,0,none⟩ 1 1 [uV x] Tryz.underlying41 hsz (by simp only [List.length_singleton,Nat.min_def];split<;>omega)
   (fun j v hj=>by
     rw [hWc,hW1,World.cell?_setCells_out g _ _ _ _ (fun h _=>absurd h (by rw [zh];exact hne))]
     exact hnx j v hj)
   (fun j hj=>by rw [hWc];simp at hj;exact hsp1 _ (by omega)) (fun j hj=>by rw [hWf,hW1,World.frozen?_setCells];exact hfz _) hone1
 rw [<-hW1] at hcp1
 have HW1:=Lib.hid hW1
 have hz2:¬((i:Int)=(n:Int)):=by omega
 unfold maxLen at hc63
 have hw1:IntKind.i64.wrap ((i:Int)+1)=(i:Int)+1:=by rw [IntKind.wrap_i64];omega
 have hb1:(0:Int)<=(i:Int)+1:=by omega
 have hin:i<=n:=by omega
 have htn:((i:Int)+1).toNat=i+1:=by omega
 have hb2:¬(cap=i+1):=by omega
 have hb3:(i:Int)<=(n:Int)+1:=by omega
 have hb4:¬(cap=i):=by omega
 clear hn o0 o1 o2 g0 g1 g2 hown hcell hfz hg hsa hsb hfa hfe hsp1 hW1 hdl hone hone1 hnx hcl hcs hvb hgb hcz htk hlt hu
 go_enter Tryz.func101,Tryz.ntmps101
 have hcp1':=fun ty=>hcp1 ty (cap - (i+1)) (cap - i)
 have mixed:Tryz.prog.follows .mixedOrders=true:=by kernel_rfl
 go_wp2_with (simp only [hov])
 go_region_law_o (refine step_copy_runI rfl _ _ 41 41 rfl _ _ (by simp [Act.eval,Act.put]) (by simp [Act.eval,Act.put]) (hcp1 _ _ _) ?_)
 go_wp2_with (first | (at_builtin;refine wpList_copy_runI _ rfl _ _ 41 41 rfl _ _ rfl rfl (hcp2 _ (fun _=>rfl) (fun _=>rfl) _ _) ?_))
 have OF':=OF.out
 have GA':=GA.out
 rw [<-HW1.out] at OF' GA'
 refine bodyPost_ret (results_tmp rfl _ _ _) rfl ?_
 exact⟨_,rfl,OF',GA',rfl⟩
theorem Y9 (base vb:Nat) (vt:TypeId) (w:World) (v:Value) (l:List Nat) (x i:Nat) (hi:i<=l.length) (hown:OwnU base w v l) (hvb:w.heap[vb]? = some (.cells #[uV x] vt (0,0))) (hne:v.ownBlock≠some vb) (hl:l.length<=1099511627776) (hbase:base<=w.heap.size) :
 Calls Tryz.prog 101 #[v,.int .i64 (i:Nat),.slice (some ⟨vb,0,none⟩) 1 1] w fun e w'=>∃ v',e=.returned v'/\OwnU base w' v' (l.take i++x::l.drop i)/\w.grownBy w' v.ownBlock/\(v'.ownBlock=v.ownBlock\/v'.ownBlock=some w.heap.size):=by
 by_cases he:i=l.length
 ·subst he
  rw [List.take_length,List.drop_length]
  exact zfr base vb vt w v l x hown hvb hl hbase
 ·have hlt:i<l.length:=by omega
  rcases hown.cases with⟨_,h0⟩ | ⟨g,cap,cur,rfl,_⟩
  ·subst h0;simp at hlt
  ·by_cases hc:cap<l.length+1
   ·refine(zfs base vb vt w g cap l x i hlt hown hc hvb hl hbase).mono ?_
    rintro e w' ⟨v',rfl,h1,h2,h3⟩
    exact⟨v',rfl,h1,⟨h2.os,h2.tape,h2.output,h2.size,fun k hk _=>h2.block k hk (by simp)⟩,.inr h3⟩
   ·refine(za8 base vb vt w g cap l x i hlt hown (by omega) hvb (fun e=>hne (by rw [e];rfl)) hl).mono ?_
    rintro e w' ⟨v',rfl,h1,h2,h3⟩
    exact⟨v',rfl,h1,h2,.inl h3⟩
theorem Z9:(Tryz.prog.info? 32).map (fun i=>(i.zero,i.size,i.bytes))=some (some (.agg #[.slice none 0 0,.slice none 0 0]),2,48):=by kernel_rfl
def OwnC (base:Nat) (w:World) (v:Value) (n:Nat) (xs:List Value):Prop:=w.ownsRow base 32 2 v n xs/\xs.length=n * 2/\∀ u ∈ xs,u.oneCell'=true
theorem OwnC.cases {base:Nat} {w:World} {v:Value} {n:Nat} {xs:List Value} (h:OwnC base w v n xs):(v=.slice none 0 0/\n=0/\xs=[]) \/
 ∃ g cap cur,v=.slice (some ⟨g,0,none⟩) n cap/\base<=g/\g<w.heap.size/\w.heap[g]? = some (.cells cur 32 (0,0))/\n<=cap/\cap<=maxLen/\cur.size=cap * 2/\cur.toList.take (n * 2)=xs:=by
 rcases h.1.2 with⟨h1,h2⟩ | ⟨g,cap,cur,h1,h2,h3,h4,h5,h6,h7⟩
 ·subst h2;exact .inl ⟨h1,rfl,List.length_eq_zero_iff.1 (by rw [h.2.1])⟩
 ·exact .inr ⟨g,cap,cur,h1,h2,(Array.getElem?_eq_some_iff.1 h3).1,h3,h4,h5,h6,h7⟩
theorem vI {w:World} {vb:Nat} {vt:TypeId} {p q:Value} (hvb:w.heap[vb]? = some (.cells #[p,q] vt (0,0))):∀ j u,[p,q][j]? = some u->w.cell? ((⟨vb,0,none⟩:Addr).add j)=some u:=fun j u hj=>by
 match j,hj with
 | 0,hj=>cases hj;simp [World.cell?,Addr.add,hvb]
 | 1,hj=>cases hj;simp [World.cell?,Addr.add,hvb]
 | j+2,hj=>simp at hj
theorem yF {p q:Value} (hp:p.oneCell'=true) (hq:q.oneCell'=true):∀ u ∈ [p,q],u.oneCell'=true:=fun u hu=>by
 simp at hu
 rcases hu with rfl | rfl
 ·exact hp
 ·exact hq
theorem x3 {P:Program} (w:World) (dT sT ty elem:TypeId) (b o dLen dCap:Nat) (a:Addr) (sLen sCap sz:Nat) (cs:List Value)
 (hu:P.underlying dT=some (.slice elem)) (hs:(P.info? elem).map (·.size)=some sz) (hn:cs.length=Nat.min sLen dLen * sz)
 (hsrc:∀ j v,cs[j]? = some v->w.cell? (a.add j)=some v) (hc:∀ j,j<cs.length->(w.cell? ⟨b,o+j,none⟩).isSome=true) (hf:∀ j,j<cs.length->w.frozen? ⟨b,o+j,none⟩=false) (h1:∀ v ∈ cs,v.oneCell'=true) :
 (Builtin.copy_ #[dT,sT] ty #[.slice (some ⟨b,o,none⟩) dLen dCap,.slice (some a) sLen sCap]).run P w=.ok (goInt (Nat.min sLen dLen)) (w.setCells b o cs):=by
 have hl:=run_loadCells_list (P:=P) w a cs hsrc
 have hst:=run_storeCells_cells (P:=P) b o cs 0 w (by simpa using hc) (by simpa using hf) h1
 cases hq:P.info? elem with
 | none=>simp [hq] at hs
 | some i=>
   have hi:i.size=sz:=by simpa [hq] using hs
   simp [Builtin.copy_,run_underlying hu,Builtin.lenOf,Builtin.firstCells,sizeOf,typeInfo,hq,hi,<-hn,hl,hst]
theorem zaF {P:Program} {t t2 ty e e2:TypeId} {b:Option Addr} {n c:Nat} {x:Value} {w:World} (h1:P.underlying t=some (.slice e)) (h2:P.underlying t2=some (.slice e2)):(Builtin.append_ #[t,t2] ty #[.slice b n c,x]).run P w=(Builtin.append_ #[t,t] ty #[.slice b n c,x]).run P w:=by
 simp [Builtin.append_,run_underlying h1,run_underlying h2]
theorem yR {P:Program} {w:World} {ops:Array Oper} {rest:List Oper} {o:Oper} {a:Act} {Q:Exit->Act->World->Prop} (hgd:o.guard=none) (s x:Operand) (t t2 e2:TypeId)
 (ho:o.op=.call { callee:=.builtin .append,args:=#[s,x],argTypes:=#[t,t2] }) (ht2:P.underlying t2=some (.slice e2))
 (base:Nat) (e:TypeId) (i:TypeInfo) (z:Value) (size bytes:Nat) (ht:P.underlying t=some (.slice e)) (hi:P.info? e=some i) (hz:i.zero=some z)
 (hsize:i.size=size) (hby:i.bytes=bytes) (hzs:z.cells.size=size) (hsz:0<size)
 (v:Value) (n:Nat) (xs:List Value) (hs:a.eval s=v) (hown:w.ownsRow base e size v n xs)
 (ad:Addr) (m c:Nat) (news:List Value) (hx:a.eval x=.slice (some ad) m c) (hl:news.length=m * size) (hnews:∀ j u,news[j]? = some u->w.cell? (ad.add j)=some u) (h1:∀ u ∈ news,u.oneCell'=true)
 (h63:n+m<=maxLen) (hbytes:(n+m) * bytes<=140737488355328) (hbase:base<=w.heap.size)
 (h:∀ v' w',w'.ownsRow base e size v' (n+m) (xs++news)->w.grownBy w' v.ownBlock->(v'.ownBlock=v.ownBlock\/v'.ownBlock=some w.heap.size)->wpList P ops Q rest (a.put o.dst v') w') :
 wpList P ops Q (o::rest) a w:=by
 refine wpList_plain hgd fun K hK=>?_
 obtain⟨v',w',hr,h2,h3,_,h5⟩:=run_append_own_at (P:=P) w base t o.type e i z size bytes ht hi hz hsize hby hzs hsz v n xs hown ad m c news hl hnews h1 h63 hbytes hbase
 obtain⟨b0,n0,c0,rfl⟩:∃ b n c,v=.slice b n c:=by rcases hown.2 with⟨h,_⟩ | ⟨_,_,_,h,_⟩<;>exact⟨_,_,_,h⟩
 rw [<-zaF ht ht2] at hr
 unfold Oper.wp execOp
 simp only [ho,resolve,invoke,builtin,Sem.run_bind,Sem.run_pure,Result.andThen_ok,List.map_toArray,List.map_cons,List.map_nil,hs,hx,hr]
 exact hK _ _ (h v' w' h2 h3 h5)
theorem zc2 (base vb:Nat) (vt:TypeId) (w:World) (v:Value) (n:Nat) (xs:List Value) (p q:Value) (hp:p.oneCell'=true) (hq:q.oneCell'=true) (hown:OwnC base w v n xs) (hvb:w.heap[vb]? = some (.cells #[p,q] vt (0,0))) (hl:n<=1073741824) (hbase:base<=w.heap.size) :
 Calls Tryz.prog 42 #[v,.int .i64 (n:Nat),.slice (some ⟨vb,0,none⟩) 1 1] w fun e w'=>∃ v',e=.returned v'/\OwnC base w' v' (n+1) (xs++[p,q])/\w.grownBy w' v.ownBlock/\(v'.ownBlock=v.ownBlock\/v'.ownBlock=some w.heap.size):=by
 obtain⟨i0,hi0,hz0,hz1,hz2⟩:=info_parts Z9
 have hn:=vI hvb
 have hone:=yF hp hq
 have fin:∀ v' w',w'.ownsRow base 32 2 v' (n+1) (xs++[p,q])->OwnC base w' v' (n+1) (xs++[p,q]):=fun v' w' h=>⟨h,by have:=hown.2.1;simp;omega,fun u hu=>by
  rcases List.mem_append.1 hu with hu | hu
  ·exact hown.2.2 u hu
  ·exact hone u hu⟩
 have HO:=Lib.hid hown.1
 rcases hown.cases with⟨rfl,rfl,rfl⟩ | ⟨g,cap,cur,rfl,hg1,hg2,hg3,hg4,hg5,hg6,hg7⟩
 ·clear hown
  go_enter Tryz.func42,Tryz.ntmps42
  go_wp2_with (at_builtin;refine yR rfl _ _ 23 22 32 rfl Tryz.underlying22 base 32 i0 (.agg #[.slice none 0 0,.slice none 0 0]) 2 48 Tryz.underlying23 hi0 hz0 hz1 hz2 rfl (by decide) _ _ _ rfl HO.out ⟨vb,0,none⟩ 1 1 [p,q] rfl rfl hn hone (by simp [maxLen]) (by simp) hbase ?_;intro v' w' ho hgr hbl)
  go_ret
  exact⟨v',rfl,fin v' w' ho,hgr,hbl⟩
 ·unfold maxLen at hg5
  have hc63:cap<=9223372036854775807:=by omega
  clear hown hg7 hg6
  go_enter Tryz.func42,Tryz.ntmps42
  go_wp2_with (at_builtin;refine yR rfl _ _ 23 22 32 rfl Tryz.underlying22 base 32 i0 (.agg #[.slice none 0 0,.slice none 0 0]) 2 48 Tryz.underlying23 hi0 hz0 hz1 hz2 rfl (by decide) _ _ _ rfl HO.out ⟨vb,0,none⟩ 1 1 [p,q] rfl rfl hn hone (by unfold maxLen;omega) (by omega) hbase ?_;intro v' w' ho hgr hbl)
  all_goals (go_ret;exact⟨v',rfl,fin v' w' ho,hgr,hbl⟩)
def zS:Value:=.slice none 0 0
theorem zgF (n:Nat):(Builtin.zeroCells (Value.agg #[.slice none 0 0,.slice none 0 0]).cells n).toList=List.replicate (n * 2) zS:=by
 apply List.ext_getElem
 ·simp [Builtin.zeroCells,Value.cells]
 ·intro i h1 h2
  rcases Nat.mod_two_eq_zero_or_one i with h | h<;>simp [Builtin.zeroCells,Value.cells,h,zS]
theorem za6 {xs ms:List Value} {u:Value} {i:Nat} (hi:i<=xs.length):kF (kF (xs.take i++List.replicate (xs.length+ms.length - i) u) i ms) (i+ms.length) (xs.drop i)=xs.take i++ms++xs.drop i:=by
 have hl:(xs.take i).length=i:=by simp;omega
 have e1:=kG (xs.take i) (List.replicate ms.length u) (List.replicate (xs.length - i) u) ms (by simp) hl.symm
 have e2:=kG (xs.take i++ms) (List.replicate (xs.length - i) u) [] (xs.drop i) (by simp) (i:=i+ms.length) (by simp;omega)
 rw [show xs.length+ms.length - i=ms.length+(xs.length - i) by omega,<-List.replicate_append_replicate,<-List.append_assoc,e1]
 simpa using e2
theorem za7 {xs ms us:List Value} {i:Nat} (hi:i<=xs.length) (hu:us.length=ms.length):kF (kF (xs++us) (i+ms.length) (xs.drop i)) i ms=xs.take i++ms++xs.drop i:=by
 rw [jt (xs.drop i) _ _ (by simp;omega)]
 have hn:i+ms.length+(xs.drop i).length=(xs++us).length:=by simp;omega
 rw [hn,List.drop_length,List.append_nil]
 rw [jt ms _ _ (by simp;omega)]
 have ht:((xs++us).take (i+ms.length)).length=i+ms.length:=by simp;omega
 rw [List.take_append_of_le_length (by rw [ht];omega),List.take_take,Nat.min_eq_left (by omega),List.take_append_of_le_length hi]
 rw [List.drop_append,ht,Nat.sub_self,List.drop_zero,List.drop_eq_nil_of_le (by omega),List.nil_append]
theorem X6 {base:Nat} {w:World} {v:Value} {n i:Nat} {xs ms:List Value} (hi:i<=n) (hx:xs.length=n * 2) (hm:ms.length=2) (h1:∀ u ∈ xs,u.oneCell'=true) (h2:∀ u ∈ ms,u.oneCell'=true)
 (h:w.ownsRow base 32 2 v (n+1) (xs.take (i * 2)++ms++xs.drop (i * 2))):OwnC base w v (n+1) (xs.take (i * 2)++ms++xs.drop (i * 2)):=
 ⟨h,by simp;omega,fun u hu=>by
  rcases List.mem_append.1 hu with hu | hu
  ·rcases List.mem_append.1 hu with hu | hu
   ·exact h1 u (List.mem_of_mem_take hu)
   ·exact h2 u hu
  ·exact h1 u (List.mem_of_mem_drop hu)⟩
theorem zc3 (base vb:Nat) (vt:TypeId) (w:World) (g cap n:Nat) (cs:List Value) (p q:Value) (i:Nat) (hp:p.oneCell'=true) (hq:q.oneCell'=true) (hi:i<n) (hown:OwnC base w (.slice (some ⟨g,0,none⟩) n cap) n cs) (hfull:cap<n+1) (hvb:w.heap[vb]? = some (.cells #[p,q] vt (0,0))) (hl:n<=1073741824) (hbase:base<=w.heap.size) :
 Calls Tryz.prog 42 #[.slice (some ⟨g,0,none⟩) n cap,.int .i64 (i:Nat),.slice (some ⟨vb,0,none⟩) 1 1] w fun e w'=>∃ v',e=.returned v'/\OwnC base w' v' (n+1) (cs.take (i * 2)++[p,q]++cs.drop (i * 2))/\w.grownBy w' none/\v'.ownBlock=some w.heap.size:=by
 obtain⟨i0,hi0,hz0,hzs,hzb⟩:=info_parts Z9
 have hcl:cs.length=n * 2:=hown.2.1
 have hone:=hown.2.2
 have hnx:=vI hvb
 have hvw:vb<w.heap.size:=(Array.getElem?_eq_some_iff.1 hvb).1
 have hgw:g<w.heap.size:=(hown.1.lt g rfl).2
 have hnc:n<=cap:=by
  rcases hown.cases with⟨h,_⟩ | ⟨g',cap',_,h,_,_,_,h4,_⟩
  ·cases h
  ·cases h;omega
 have hg:∀ j v,cs[j]? = some v->w.cell? ⟨g,j,none⟩=some v:=fun j v hj=>by
  have:=World.ownsRow.cells hown.1 (g:=g) rfl j v hj
  rw [zh,Nat.zero_add] at this
  exact this
 have hkk:(n:Int)+1 - (i:Int)=((n+1 - i:Nat):Int):=by omega
 have hik:i+(n+1 - i)=n+1:=by omega
 have hold:(Builtin.firstCells i0.size i (.slice (some ⟨g,0,none⟩) i cap)).run Tryz.prog w.drew=.ok (cs.take (i * 2)).toArray w.drew:=by
  rw [hzs]
  refine run_firstCells_some w.drew 2 i ⟨g,0,none⟩ i cap (cs.take (i * 2)) (by rw [List.length_take];omega) (fun j v hj=>?_)
  rw [List.getElem?_take] at hj
  split at hj
  ·have:=hg j v hj
   rw [zh,Nat.zero_add]
   exact this
  ·cases hj
 have hrz:∀ ty,(Builtin.append_ #[23,3] ty #[.slice (some ⟨g,0,none⟩) i cap,.int .i64 ((n:Int)+1 - (i:Int))]).run Tryz.prog w =
  .ok (.slice (some ⟨w.heap.size,0,none⟩) (n+1) (grownCap w (n+1) cap 32)) (w.drew.alloc (.cells ((cs.take (i * 2)).toArray++Builtin.zeroCells (Value.agg #[.slice none 0 0,.slice none 0 0]).cells (n+1 - i)++Builtin.zeroCells (Value.agg #[.slice none 0 0,.slice none 0 0]).cells (grownCap w (n+1) cap 32 - (n+1))) 32)):=fun ty=>by
  have h:=Lib.run_append_grow_zeros w 23 3 ty 32 i0 _ .i64 .i64 Tryz.underlying23 Tryz.underlying3 hi0 hz0 (some ⟨g,0,none⟩) i cap (cs.take (i * 2)) hold (n+1 - i) (by omega) (by omega) (by omega) (by omega) (by rw [hzb];omega) (by rw [hzb,hik];exact growslice_fits hfull (by omega))
  rw [hik] at h
  rw [hkk]
  exact h
 obtain⟨G,hG⟩:∃ G,G=grownCap w (n+1) cap 32 := ⟨_,rfl⟩
 have hGn:n+1<=G:=by rw [hG];exact grownCap_ge w _ _ _
 have hGm:G<=maxLen:=by rw [hG];exact grownCap_le_maxLen w _ _ _ (by unfold maxLen;omega)
 obtain⟨R,hR⟩:∃ R:Array Value,R=(cs.take (i * 2)).toArray++Builtin.zeroCells (Value.agg #[.slice none 0 0,.slice none 0 0]).cells (n+1 - i)++Builtin.zeroCells (Value.agg #[.slice none 0 0,.slice none 0 0]).cells (G - (n+1)):=⟨_,rfl⟩
 rw [<-hG,<-hR] at hrz
 have htl:(cs.take (i * 2)).length=i * 2:=by rw [List.length_take];omega
 have hRl:R.toList=(cs.take (i * 2)++List.replicate (cs.length+[p,q].length - i * 2) zS)++List.replicate ((G - (n+1)) * 2) zS:=by
  rw [hR]
  simp only [Array.toList_append,zgF,hcl]
  congr 3
  simp
  omega
 have hRs:R.size=G * 2:=by
  have:R.toList.length=G * 2:=by rw [hRl];simp;omega
  simpa using this
 obtain⟨W1,hW1⟩:∃ W1,W1=w.drew.alloc (.cells R 32):=⟨_,rfl⟩
 have o1:W1.ownsRow base 32 2 (.slice (some ⟨w.heap.size,0,none⟩) (n+1) G) (n+1) (cs.take (i * 2)++List.replicate (cs.length+[p,q].length - i * 2) zS):=by
  refine⟨by simp;omega,.inr ⟨w.heap.size,G,R,rfl,hbase,?_,hGn,hGm,by omega,?_⟩⟩
  ·rw [hW1];exact World.alloc_heap_new w.drew _
  ·rw [hRl,List.take_append_of_le_length (by simp;omega),List.take_of_length_le (by simp;omega)]
 obtain⟨o2,g2⟩:=z9 [p,q] (i * 2) _ _ o1
 obtain⟨o3,g3⟩:=z9 (cs.drop (i * 2)) (i * 2+2) ((W1.setCells w.heap.size (i * 2) [p,q]).drew) _ o2
 have eg:=za6 (xs:=cs) (ms:=[p,q]) (u:=zS) (i:=i * 2) (by omega)
 rw [show i * 2+[p,q].length=i * 2+2 from rfl] at eg
 rw [eg] at o3
 have g1:w.grownBy W1 none:=by
  rw [hW1]
  exact⟨rfl,rfl,rfl,by simp,fun k hk _=>Below.heap_alloc w.drew _ _ hk⟩
 have e12:(i+1) * 2=i * 2+2:=by omega
 have gall:w.grownBy (((W1.setCells w.heap.size (i * 2) [p,q]).drew).setCells w.heap.size (i * 2+2) (cs.drop (i * 2))) none:=by
  refine⟨g3.os.trans (g2.os.trans g1.os),g3.tape.trans (g2.tape.trans g1.tape),g3.output.trans (g2.output.trans g1.output),Nat.le_trans g1.size (Nat.le_trans g2.size g3.size),fun k hk _=>?_⟩
  have hk1:k<W1.heap.size:=Nat.lt_of_lt_of_le hk g1.size
  have hne:some k≠some w.heap.size:=fun e=>by cases e;omega
  rw [g3.block k (Nat.lt_of_lt_of_le hk1 g2.size) hne]
  show (W1.setCells w.heap.size (i * 2) [p,q]).heap[k]? = _
  rw [g2.block k hk1 hne,g1.block k hk (by simp)]
 have OF:=Lib.hid (X6 (by omega) hcl rfl hone (yF hp hq) o3)
 have GA:=Lib.hid gall
 clear o3 gall o1 o2
 rw [<-hW1] at hrz
 have hN:∀ j,j<n * 2+2->(W1.cell? ⟨w.heap.size,j,none⟩).isSome=true:=fun j hj=>by
  rw [hW1,World.cell?_alloc_at (w:=w.drew) R _ w.heap.size j rfl,Array.getElem?_eq_getElem (by omega)];rfl
 have hNf:∀ j,W1.frozen? ⟨w.heap.size,j,none⟩=false:=fun j=>by rw [hW1];exact World.frozen?_alloc_at (w:=w.drew) R _ w.heap.size j rfl
 have hOb:∀ j v,w.cell? ⟨g,j,none⟩=some v->W1.cell? ⟨g,j,none⟩=some v:=fun j v h=>by rw [hW1,World.cell?_alloc_past (w:=w.drew) _ g j hgw];exact h
 have hOv:∀ j v,w.cell? ⟨vb,j,none⟩=some v->W1.cell? ⟨vb,j,none⟩=some v:=fun j v h=>by rw [hW1,World.cell?_alloc_past (w:=w.drew) _ vb j hvw];exact h
 have hsz:(Tryz.prog.info? 32).map (·.size)=some 2:=by rw [hi0];simp [hzs]
 have hmA:Nat.min 1 (n+1 - i)=1:=by simp only [Nat.min_def];split<;>omega
 have hmB:Nat.min (n - i) (n - i)=n - i:=Nat.min_self _
 have hdl:(cs.drop (i * 2)).length=(n - i) * 2:=by rw [List.length_drop,hcl];omega
 have hcpA:∀(W:World),(∀ y,W.cell? y=W1.cell? y)->(∀ y,W.frozen? y=W1.frozen? y)->∀ ty dc,(Builtin.copy_ #[23,22] ty #[.slice (some ⟨w.heap.size,i * 2,none⟩) (n+1 - i) dc,.slice (some ⟨vb,0,none⟩) 1 1]).run Tryz.prog W=.ok (goInt 1) (W.setCells w.heap.size (i * 2) [p,q]):=fun W hWc hWf ty dc=>by
  have h:=x3 W 23 22 ty 32 w.heap.size (i * 2) (n+1 - i) dc ⟨vb,0,none⟩ 1 1 2 [p,q] Tryz.underlying23 hsz (by rw [hmA];rfl)
   (fun j v hj=>by have:=hnx j v hj;rw [zh] at this;rw [hWc,zh];exact hOv _ v this)
   (fun j hj=>by rw [hWc];simp at hj;exact hN _ (by omega)) (fun j hj=>by rw [hWf];exact hNf _) (yF hp hq)
  rw [hmA] at h
  exact h
 have hne:g≠w.heap.size:=by omega
 have hcpB:∀(W:World),(∀ y,W.cell? y=(W1.setCells w.heap.size (i * 2) [p,q]).cell? y)->(∀ y,W.frozen? y=(W1.setCells w.heap.size (i * 2) [p,q]).frozen? y)->∀ ty dc sc,(Builtin.copy_ #[23,23] ty #[.slice (some ⟨w.heap.size,(i+1) * 2,none⟩) (n - i) dc,.slice (some ⟨g,i * 2,none⟩) (n - i) sc]).run Tryz.prog W=.ok (goInt ((n - i:Nat):Int)) (W.setCells w.heap.size (i * 2+2) (cs.drop (i * 2))):=fun W hWc hWf ty dc sc=>by
  have h:=x3 W 23 23 ty 32 w.heap.size ((i+1) * 2) (n - i) dc ⟨g,i * 2,none⟩ (n - i) sc 2 (cs.drop (i * 2)) Tryz.underlying23 hsz (by rw [hdl,hmB])
   (fun j v hj=>by
     rw [hWc,zh,World.cell?_setCells_out _ _ _ _ _ (fun h _=>absurd h hne)]
     exact hOb _ v (hg (i * 2+j) v (by rwa [List.getElem?_drop] at hj)))
   (fun j hj=>by rw [hWc];exact isSome_setCells _ _ _ _ (fun t ht=>hN _ (by simp at ht;omega)) _ (hN _ (by omega)))
   (fun j hj=>by rw [hWf,World.frozen?_setCells];exact hNf _) (fun v hv=>hone v (List.mem_of_mem_drop hv))
  rw [hmB,e12] at h
  rw [e12]
  exact h
 have hF1:∀ y,((W1.setCells w.heap.size (i * 2) [p,q]).drew).cell? y=(W1.setCells w.heap.size (i * 2) [p,q]).cell? y:=fun y=>rfl
 have hF2:∀ y,((W1.setCells w.heap.size (i * 2) [p,q]).drew).frozen? y=(W1.setCells w.heap.size (i * 2) [p,q]).frozen? y:=fun y=>rfl
 have hz2:¬((i:Int)=(n:Int)):=by omega
 have hz3:(cap:Int)<(n:Int)+1:=by omega
 unfold maxLen at hGm
 have hGi:¬(G=i):=by omega
 have hGim:¬(G=i+1):=by omega
 have hci:¬(cap=i):=by omega
 have hw1:IntKind.i64.wrap ((i:Int)+1)=(i:Int)+1:=by rw [IntKind.wrap_i64];omega
 have hb1:(0:Int)<=(i:Int)+1:=by omega
 have hin:i<=n:=by omega
 have htn:((i:Int)+1).toNat=i+1:=by omega
 have hb3:(i:Int)<=(n:Int):=by omega
 clear hkk hik hold hG hRl hR hRs hown hg hN hNf hOb hOv hone hcl hnx hvb htl hdl g1 g2 g3 hW1 e12 hmA hmB hsz
 go_enter Tryz.func42,Tryz.ntmps42
 go_wp2_with (first
  | (at_builtin;refine Lib.wpList_append_run _ rfl _ _ _ _ rfl _ _ rfl rfl _ _ (hrz _) ?_)
  | (at_builtin;refine wpList_copy_runI _ rfl _ _ 23 22 rfl _ _ rfl rfl (hcpA _ (fun _=>rfl) (fun _=>rfl) _ _) ?_)
  | (at_builtin;refine wpList_copy_runI _ rfl _ _ 23 23 rfl _ _ rfl rfl (hcpB _ (fun _=>rfl) (fun _=>rfl) _ _ _) ?_))
 have mixed:Tryz.prog.follows .mixedOrders=true:=by kernel_rfl
 go_region_law_o (refine step_copy_runI rfl _ _ 23 23 rfl (.slice (some ⟨w.heap.size,(i+1) * 2,none⟩) (n - i) (G - (i+1))) (.slice (some ⟨g,i * 2,none⟩) (n - i) (cap - i)) (by simp [Act.eval,Act.put]) (by simp [Act.eval,Act.put]) (hcpB _ hF1 hF2 _ (G - (i+1)) (cap - i)) ?_)
 go_wp2
 refine bodyPost_ret (results_tmp rfl _ _ _) rfl ?_
 exact⟨_,rfl,OF.out,GA.out,rfl⟩
theorem JK (base vb:Nat) (vt:TypeId) (w:World) (g cap n:Nat) (cs:List Value) (p q:Value) (i:Nat) (hp:p.oneCell'=true) (hq:q.oneCell'=true) (hi:i<n) (hown:OwnC base w (.slice (some ⟨g,0,none⟩) n cap) n cs) (hroom:n+1<=cap) (hvb:w.heap[vb]? = some (.cells #[p,q] vt (0,0))) (hne:vb≠g) (hl:n<=1073741824) :
 Calls Tryz.prog 42 #[.slice (some ⟨g,0,none⟩) n cap,.int .i64 (i:Nat),.slice (some ⟨vb,0,none⟩) 1 1] w fun e w'=>∃ v',e=.returned v'/\OwnC base w' v' (n+1) (cs.take (i * 2)++[p,q]++cs.drop (i * 2))/\w.grownBy w' (some g)/\v'.ownBlock=some g:=by
 obtain⟨i0,hi0,hz0,hzs,hzb⟩:=info_parts Z9
 have hcl:cs.length=n * 2:=hown.2.1
 have hone:=hown.2.2
 have hnx:=vI hvb
 obtain⟨cur,hbg,hgb,hc63,hcz,htk⟩:∃ cur,base<=g/\w.heap[g]? = some (.cells cur 32 (0,0))/\cap<=maxLen/\cur.size=cap * 2/\cur.toList.take (n * 2)=cs:=by
  rcases hown.cases with⟨h,_⟩ | ⟨g',cap',cur,h,h1,_,h3,_,h5,h6,h7⟩
  ·cases h
  ·cases h;exact⟨cur,h1,h3,h5,h6,h7⟩
 obtain⟨us,hus⟩:∃ us,us=(cur.toList.drop (n * 2)).take 2:=⟨_,rfl⟩
 have hul:us.length=[p,q].length:=by rw [hus];simp;omega
 have o0:w.drew.ownsRow base 32 2 (.slice (some ⟨g,0,none⟩) (n+1) cap) (n+1) (cs++us):=by
  refine⟨by rw [List.length_append,hul,hcl];simp;omega,.inr ⟨g,cap,cur,rfl,hbg,hgb,hroom,hc63,by omega,?_⟩⟩
  rw [show (n+1) * 2=n * 2+2 by omega,List.take_add,htk,hus]
 obtain⟨o1,g1⟩:=z9 (cs.drop (i * 2)) (i * 2+2) _ _ o0
 obtain⟨o2,g2⟩:=z9 [p,q] (i * 2) _ _ o1
 have eg:=za7 (xs:=cs) (ms:=[p,q]) (us:=us) (i:=i * 2) (by omega) hul
 rw [show i * 2+[p,q].length=i * 2+2 from rfl] at eg
 rw [eg] at o2
 have g0:w.grownBy w.drew (some g):=⟨rfl,rfl,rfl,Nat.le_refl _,fun _ _ _=>rfl⟩
 have OF:=Lib.hid (X6 (by omega) hcl rfl hone (yF hp hq) o2)
 have GA:=Lib.hid (yn g0 (yn g1 g2))
 have hcell:∀ j,j<cap * 2->(w.cell? ⟨g,j,none⟩).isSome=true:=fun j hj=>by
  simp [World.cell?,hgb,hcz,hj]
 have hfz:∀ j,w.frozen? ⟨g,j,none⟩=false:=fun j=>by simp [World.frozen?,hgb]
 have hg:∀ j v,cs[j]? = some v->w.cell? ⟨g,j,none⟩=some v:=fun j v hj=>by
  have:=World.ownsRow.cells hown.1 (g:=g) rfl j v hj
  rw [zh,Nat.zero_add] at this
  exact this
 have hsa:w.shape? vb=some (vt,2):=by simp [World.shape?,hvb]
 have hsb:w.shape? g=some (32,cap * 2):=by simp [World.shape?,hgb,hcz]
 have hfa:w.frozen? ⟨vb,0,none⟩=false:=by simp [World.frozen?,hvb]
 have hfe:w.frozen? ⟨vb,2,none⟩=false:=by simp [World.frozen?,hvb]
 have hsz:(Tryz.prog.info? 32).map (·.size)=some 2:=by rw [hi0];simp [hzs]
 have hov:∀ lb cb,(callFunc 63 #[.slice (some ⟨vb,0,none⟩) 1 1,.slice (some ⟨g,(i+1) * 2,none⟩) lb cb]).run Tryz.prog w=.ok (.value (.bool false)) w:=fun lb cb=>by
  rw [run_callFunc_extern Tryz.func63 (by kernel_rfl) (by kernel_rfl) (by kernel_rfl) (e:=Extern.SlicesOverlaps.overlaps #[22,22] #[4]) (by kernel_rfl),
   Lib.run_overlaps_apart w 22 4 32 Tryz.underlying22 2 (fun w=>by kernel_rfl) ⟨vb,0,none⟩ ⟨g,(i+1) * 2,none⟩ 1 1 lb cb hne vt 32 2 (cap * 2) hsa hsb (by omega) hfa hfe]
  rfl
 have hdl:(cs.drop (i * 2)).length=(n - i) * 2:=by rw [List.length_drop,hcl];omega
 have hmA:Nat.min (n+1 - i) (n - i)=n - i:=by simp only [Nat.min_def];split<;>omega
 have hmB:Nat.min 1 (n+1 - i)=1:=by simp only [Nat.min_def];split<;>omega
 have e12:(i+1) * 2=i * 2+2:=by omega
 have hcp1:∀ ty dc sc,(Builtin.copy_ #[23,23] ty #[.slice (some ⟨g,(i+1) * 2,none⟩) (n - i) dc,.slice (some ⟨g,i * 2,none⟩) (n+1 - i) sc]).run Tryz.prog w.drew=.ok (goInt ((n - i:Nat):Int)) (w.drew.setCells g (i * 2+2) (cs.drop (i * 2))):=fun ty dc sc=>by
  have h:=x3 w.drew 23 23 ty 32 g ((i+1) * 2) (n - i) dc ⟨g,i * 2,none⟩ (n+1 - i) sc 2 (cs.drop (i * 2)) Tryz.underlying23 hsz (by rw [hdl,hmA])
   (fun j v hj=>by rw [zh];exact hg (i * 2+j) v (by rwa [List.getElem?_drop] at hj))
   (fun j hj=>hcell _ (by omega)) (fun j hj=>hfz _) (fun v hv=>hone v (List.mem_of_mem_drop hv))
  rw [hmA,e12] at h
  rw [e12]
  exact h
 obtain⟨W1,hW1⟩:∃ W1,W1=w.drew.setCells g (i * 2+2) (cs.drop (i * 2)):=⟨_,rfl⟩
 have hsp1:∀ k,k<cap * 2->(W1.cell? ⟨g,k,none⟩).isSome=true:=fun k hk=>by
  rw [hW1]
  exact isSome_setCells g (cs.drop (i * 2)) (i * 2+2) w.drew (fun j hj=>hcell _ (by rw [hdl] at hj;omega)) k (hcell k hk)
 have hcp2:∀(W:World),(∀ y,W.cell? y=W1.cell? y)->(∀ y,W.frozen? y=W1.frozen? y)->∀ ty dc,(Builtin.copy_ #[23,22] ty #[.slice (some ⟨g,i * 2,none⟩) (n+1 - i) dc,.slice (some ⟨vb,0,none⟩) 1 1]).run Tryz.prog W=.ok (goInt 1) (W.setCells g (i * 2) [p,q]):=fun W hWc hWf ty dc=>by
  have h:=x3 W 23 22 ty 32 g (i * 2) (n+1 - i) dc ⟨vb,0,none⟩ 1 1 2 [p,q] Tryz.underlying23 hsz (by rw [hmB];rfl)
   (fun j v hj=>by
     rw [hWc,hW1,World.cell?_setCells_out g _ _ _ _ (fun h _=>absurd h (by rw [zh];exact hne))]
     exact hnx j v hj)
   (fun j hj=>by rw [hWc];simp at hj;exact hsp1 _ (by omega)) (fun j hj=>by rw [hWf,hW1,World.frozen?_setCells];exact hfz _) (yF hp hq)
  rw [hmB] at h
  exact h
 rw [<-hW1] at hcp1
 have HW1:=Lib.hid hW1
 have hz2:¬((i:Int)=(n:Int)):=by omega
 unfold maxLen at hc63
 have hw1:IntKind.i64.wrap ((i:Int)+1)=(i:Int)+1:=by rw [IntKind.wrap_i64];omega
 have hb1:(0:Int)<=(i:Int)+1:=by omega
 have hin:i<=n:=by omega
 have htn:((i:Int)+1).toNat=i+1:=by omega
 have hb2:¬(cap=i+1):=by omega
 have hb3:(i:Int)<=(n:Int)+1:=by omega
 have hb4:¬(cap=i):=by omega
 clear o0 o1 o2 g0 g1 g2 eg hown hcell hfz hg hsa hsb hfa hfe hsp1 hW1 hdl hone hnx hcl hvb hgb hcz htk hus hul hmA hmB e12 hsz
 go_enter Tryz.func42,Tryz.ntmps42
 have hcp1':=fun ty=>hcp1 ty (cap - (i+1)) (cap - i)
 have mixed:Tryz.prog.follows .mixedOrders=true:=by kernel_rfl
 go_wp2_with (simp only [hov])
 go_region_law_o (refine step_copy_runI rfl _ _ 23 23 rfl _ _ (by simp [Act.eval,Act.put]) (by simp [Act.eval,Act.put]) (hcp1 _ _ _) ?_)
 go_wp2_with (first | (at_builtin;refine wpList_copy_runI _ rfl _ _ 23 22 rfl _ _ rfl rfl (hcp2 _ (fun _=>rfl) (fun _=>rfl) _ _) ?_))
 have OF':=OF.out
 have GA':=GA.out
 rw [<-HW1.out] at OF' GA'
 refine bodyPost_ret (results_tmp rfl _ _ _) rfl ?_
 exact⟨_,rfl,OF',GA',rfl⟩
theorem Q1 (base vb:Nat) (vt:TypeId) (w:World) (v:Value) (n:Nat) (cs:List Value) (p q:Value) (i:Nat) (hp:p.oneCell'=true) (hq:q.oneCell'=true) (hi:i<=n) (hown:OwnC base w v n cs) (hvb:w.heap[vb]? = some (.cells #[p,q] vt (0,0))) (hne:v.ownBlock≠some vb) (hl:n<=1073741824) (hbase:base<=w.heap.size) :
 Calls Tryz.prog 42 #[v,.int .i64 (i:Nat),.slice (some ⟨vb,0,none⟩) 1 1] w fun e w'=>∃ v',e=.returned v'/\OwnC base w' v' (n+1) (cs.take (i * 2)++[p,q]++cs.drop (i * 2))/\w.grownBy w' v.ownBlock/\(v'.ownBlock=v.ownBlock\/v'.ownBlock=some w.heap.size):=by
 have hcl:=hown.2.1
 by_cases he:i=n
 ·subst he
  rw [List.take_of_length_le (by omega),List.drop_of_length_le (by omega),List.append_nil]
  exact zc2 base vb vt w v i cs p q hp hq hown hvb hl hbase
 ·have hlt:i<n:=by omega
  rcases hown.cases with⟨_,h0,_⟩ | ⟨g,cap,cur,rfl,_⟩
  ·omega
  ·by_cases hc:cap<n+1
   ·refine(zc3 base vb vt w g cap n cs p q i hp hq hlt hown hc hvb hl hbase).mono ?_
    rintro e w' ⟨v',rfl,h1,h2,h3⟩
    exact⟨v',rfl,h1,⟨h2.os,h2.tape,h2.output,h2.size,fun k hk _=>h2.block k hk (by simp)⟩,.inr h3⟩
   ·refine(JK base vb vt w g cap n cs p q i hp hq hlt hown (by omega) hvb (fun e=>hne (by rw [e];rfl)) hl).mono ?_
    rintro e w' ⟨v',rfl,h1,h2,h3⟩
    exact⟨v',rfl,h1,h2,.inl h3⟩
end Go.Proofs.YtopfkkogooocgaaGreat
namespace Go.Proofs.YtopfkkogooocgaaGreat
open Go.RowKit
def ns (l:List Nat):PV:=.sl (l.map yN) .sh
attribute [go_sem] ns
theorem vL {D:Nat->Nat->Prop} {base:Nat} {w:World} {v:Value} {l:List Nat} (h:OwnN base w v l) (hD:∀ b o,base<=b->b<w.heap.size->D b o):Dat D w v (ns l):=by
 unfold ns
 have hlen:(l.map yN).length=l.length:=by simp
 rcases id h.2 with⟨rfl,h0⟩ | ⟨g,cap,cur,rfl,hg,hh,hn,hc,_⟩
 ·obtain rfl:l=[]:=List.length_eq_zero_iff.1 h0
  exact .sl none 0 1 [] .sh 0 0 (fun _=>undef) (by simp) (fun h=>by cases h) (by unfold maxLen;omega) (fun h=>absurd rfl h) (fun i e h=>by simp at h) (fun j h=>by simp at h) (fun i e j p h=>by simp at h)
 ·rw [<-hlen]
  refine .sl _ cap 1 _ .sh g 0 (fun j=>.int .u64 (l.getD j 0:Nat)) (by simpa using hn) (fun h=>by cases h) hc (fun _=>rfl) (fun i e h=>?_) (fun j hj=>?_) (fun i e j p he hp=>?_)
  ·simp only [List.getElem?_map,Option.map_eq_some_iff] at h
   obtain⟨s,_,rfl⟩:=h
   rfl
  ·simp only [List.length_map,Nat.mul_one] at hj
   refine⟨hD _ _ hg (Array.getElem?_eq_some_iff.1 hh).1,?_,rfl⟩
   rw [Nat.zero_add,h.cellAt _ (by simpa using hj)]
   simp [hj]
  ·have hi:i<l.length:=by have:=(List.getElem?_eq_some_iff.1 he).1;simpa using this
   rw [xo hi] at he
   cases he
   match j,hp with
   | 0,hp=>cases hp;simp [hi];exact .v _
   | j+1,hp=>simp [yN] at hp
theorem KB {vs:Array Value} (h:vs.size=1):vs=#[vs.getD 0 undef]:=by
 obtain⟨l⟩:=vs
 match l,h with
 | [x],_=>rfl
theorem Yz (v:List En) (hb:∀ e ∈ v,ZL e) (hl:(zv v).length<=1073741824):Cn Tryz.prog 60 [vp v] (ns (zv v)):=by
 refine Js rfl (enters_of Tryz.func60 (by kernel_rfl) rfl) fun D w vs hD hsz hd=>?_
 rw [KB hsz]
 refine(Q4 v _ w (ze4 (hd 0 _ rfl) hD hb) hl).mono ?_
 rintro e w' ⟨u,rfl,hv,hbl⟩
 exact⟨u,rfl,hbl,vL hv fun b o h1 h2=>.inr ⟨h1,h2⟩⟩
end Go.Proofs.YtopfkkogooocgaaGreat
