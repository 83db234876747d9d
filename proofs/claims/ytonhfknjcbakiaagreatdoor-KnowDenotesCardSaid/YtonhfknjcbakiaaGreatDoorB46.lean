import Derived.Test.YtonhfknjcbakiaaGreatDoorB44
set_option maxHeartbeats 16000000
set_option linter.unusedVariables false
set_option linter.unusedSimpArgs false
set_option maxRecDepth 100000
namespace Go.Proofs.YtonhfknjcbakiaaGreatDoor
open Go.RowKit
abbrev Tr:=Nat × Nat × Nat
def zeY (t u:Tr):Int:=zZ [t.1,t.2.1,t.2.2] [u.1,u.2.1,u.2.2]
def Vq (o:Option Tr) (t:Tr):Option Tr:=match o with
 | none=>some t
 | some u=>if zeY t u<0 then some t else some u
def XE (x:Nat) (e:En):List Tr:=match kn e with
 | []=>[]
 | s::_=>[(x,e.rep,s.lo)]
def V3 (f:Fg):List Tr:=match f.items with
 | []=>[]
 | s::_=>f.vec.flatMap (XE s.lo)
def kY (k:List Fg):Option Tr:=(k.flatMap V3).foldl Vq none
def leT (t u:Tr):Prop:=t.1<u.1\/(t.1=u.1/\(t.2.1<u.2.1\/(t.2.1=u.2.1/\t.2.2<=u.2.2)))
theorem zdf {t u:Tr} (h1:leT t u) (h2:leT u t):t=u:=by
 obtain⟨a,b,c⟩:=t
 obtain⟨a',b',c'⟩:=u
 unfold leT at h1 h2
 simp only at h1 h2
 have e1:a=a':=by omega
 have e2:b=b':=by omega
 have e3:c=c':=by omega
 rw [e1,e2,e3]
structure IsLeast (k:List Fg) (t:Tr):Prop where
 b1:t.1<M64
 b2:t.2.2<M64
 has:hasK k t.1 t.2.1 t.2.2=true
 le:∀ i r c,i<M64->c<M64->hasK k i r c=true->leT t (i,r,c)
theorem IsLeast.eq {k:List Fg} {t u:Tr} (h:IsLeast k t) (g:IsLeast k u):t=u:=
 zdf (h.le _ _ _ g.b1 g.b2 g.has) (g.le _ _ _ h.b1 h.b2 h.has)
theorem zfo {k:List Fg} (h:RightK k) {i r c:Nat}:hasK k i r c=true ↔ ∃ f ∈ k,mem f.items i=true/\∃ e ∈ f.vec,e.rep=r/\mem (kn e) c=true:=by
 rw [hasK_iff]
 refine exists_congr fun f=>and_congr_right fun hf=>and_congr_right fun _=>?_
 have hv:=(h f hf).2
 constructor
 ·intro hm
  by_cases hn:∀ e ∈ f.vec,e.rep≠r
  ·rw [qC hn] at hm;cases hm
  ·simp only [Classical.not_forall,Classical.not_not] at hn
   obtain⟨e,he,hr⟩:=hn
   refine⟨e,he,hr,?_⟩
   rw [<-hr,kq hv.2 he] at hm
   exact hm
 ·rintro⟨e,he,rfl,hm⟩
  rw [kq hv.2 he];exact hm
def orI:List Int->Int
 | []=>0
 | x::l=>if x=0 then orI l else x
theorem zng (l:List Int) (hl:l.length<=1000):Cn Tryz.prog 128 [.sl (l.map fun x=>[.v (.int .i64 x)]) .sh] (.v (.int .i64 (orI l))):=by
 refine zt Tryz.func128 1 ?_
 refine pw ?_
 refine pLoop.go (fun k=>k<=l.length/\orI l=orI (l.drop k)) (fun k=>[(8,.v (.int .i64 (k:Nat)))]) (fun _=>[]) (fun k=>l.length - k) 0 [8] ?_ ?_ ?_
 ·exact⟨Nat.zero_le _,rfl⟩
 ·exact pd
 ·rintro k ⟨hk,ho⟩
  refine pw ?_
  refine .i ?_ ?_<;>intro h<;>(try simp only [nrm_l] at h)<;>first | refine pw ?_ | exact pd
  ·have hd:orI (l.drop k)=if l[k]=0 then orI (l.drop (k+1)) else l[k]:=by
    rw [List.drop_eq_getElem_cons h];rfl
   refine .i ?_ ?_<;>intro h2<;>(try simp only [nrm_l] at h2)<;>first | refine pw ?_ | exact pd
   ·rw [ho,hd,if_neg h2]
   ·refine⟨k+1,⟨h,?_⟩,by omega,rfl⟩
    rw [ho,hd,if_pos (by omega)]
  ·rw [ho,List.drop_of_length_le (by omega)];rfl
def trc (t:Tr):List PV:=[.v (.int .u64 t.1),.v (.int .u64 t.2.1),.v (.int .u64 t.2.2)]
def trp (t:Tr):PV:=.agg (trc t)
attribute [go_sem] trc trp
theorem zi6 (t u:Tr):Cn Tryz.prog 86 [trp t,trp u] (.v (.int .i64 (zeY t u))):=by
 have ho:=zng [if t.1<u.1 then -1 else if u.1<t.1 then 1 else 0,if t.2.1<u.2.1 then -1 else if u.2.1<t.2.1 then 1 else 0,if t.2.2<u.2.2 then -1 else if u.2.2<t.2.2 then 1 else 0] (by simp)
 have e:orI [if t.1<u.1 then -1 else if u.1<t.1 then 1 else 0,if t.2.1<u.2.1 then -1 else if u.2.1<t.2.1 then 1 else 0,if t.2.2<u.2.2 then -1 else if u.2.2<t.2.2 then 1 else 0]=zeY t u:=by
  unfold zeY
  simp only [orI,zZ]
  repeat' split
  all_goals first | rfl | omega
 rw [e] at ho
 refine zt Tryz.func86 2 ?_
 refine pw ?_
 refine .c (XQ t.1 u.1) ?_
 refine .c (XQ t.2.1 u.2.1) ?_
 refine .c (XQ t.2.2 u.2.2) ?_
 (first | exact .d (ho) | exact .q (ho))
def qA (l:List Iv):Iv:=if h:0<l.length then ⟨l[0].lo,(l[l.length - 1]'(by omega)).hi⟩ else ⟨0,0⟩
theorem zhU (l:List Iv) (hl:l.length<=9223372036854775807):Cn Tryz.prog 125 [rg l] (.tup [Je (qA l),.v (.bool (decide (0<l.length)))]):=by
 refine zt Tryz.func125 1 ?_
 refine pw ?_
 refine .i ?_ ?_<;>intro h<;>(try simp only [nrm_l] at h)<;>first | refine pw ?_ | exact pd
 ·subst h
  rfl
 ·have hp:0<l.length:=List.length_pos_iff.2 h
  rw [qA,dif_pos hp,decide_eq_true hp]
  exact pd
theorem KY (l:List Iv) (hl:l.length<=9223372036854775807):Cn Tryz.prog 84 [rg l] (.tup [.v (.int .u64 (qA l).lo),.v (.bool (decide (0<l.length)))]):=by
 refine zt Tryz.func84 1 ?_
 refine pw ?_
 exact .d (zhU l hl)
theorem K5 {s:Iv} {l:List Iv}:(qA (s::l)).lo=s.lo:=by simp [qA]
def xm (k:List Fg) (j:Nat):Option Tr:=((k.take j).flatMap V3).foldl Vq none
theorem zbi (k:List Fg):xm k 0=none:=rfl
def kt (o:Option Tr) (x:Nat) (v:List En) (i:Nat):Option Tr:=((v.take i).flatMap (XE x)).foldl Vq o
theorem zbg (o:Option Tr) (x:Nat) (v:List En):kt o x v 0=o:=rfl
theorem zbh {k:List Fg} {j:Nat} (h:j<k.length):xm k (j+1)=(V3 k[j]).foldl Vq (xm k j):=by
 unfold xm
 rw [List.take_succ_eq_append_getElem h,List.flatMap_append,List.foldl_append]
 simp
theorem zbf {o:Option Tr} {x:Nat} {v:List En} {i:Nat} (h:i<v.length):kt o x v (i+1)=(XE x v[i]).foldl Vq (kt o x v i):=by
 unfold kt
 rw [List.take_succ_eq_append_getElem h,List.flatMap_append,List.foldl_append]
 simp
theorem zem {f:Fg} (h:¬ 0<f.items.length):V3 f=[]:=by
 unfold V3
 rw [List.length_eq_zero_iff.1 (show f.items.length=0 by omega)]
theorem zbR {f:Fg} (h:0<f.items.length):V3 f=f.vec.flatMap (XE (qA f.items).lo):=by
 unfold V3
 cases hf:f.items with
 | nil=>rw [hf] at h;cases h
 | cons s l=>rw [K5]
theorem zel {x:Nat} {e:En} (h:¬ 0<(kn e).length):XE x e=[]:=by
 unfold XE
 rw [List.length_eq_zero_iff.1 (show (kn e).length=0 by omega)]
theorem zbQ {x:Nat} {e:En} (h:0<(kn e).length):XE x e=[(x,e.rep,(qA (kn e)).lo)]:=by
 unfold XE
 cases hf:kn e with
 | nil=>rw [hf] at h;cases h
 | cons s l=>rw [K5]
theorem zfE {C:Nat->List Nat} {R:List Nat} (k:List Fg) (h12:Ok12 C R k):Cn Tryz.prog 31 [kp k] (.tup [trp ((kY k).getD (0,0,0)),.v (.bool (kY k).isSome),.v .nilIface]):=by
 have hr:=h12.r
 have hz:=h12.z
 have hbd:=BdK.of hr hz
 have hc:=Vh k hbd hz
 rw [yk ((ZN hbd).2 hr)] at hc
 have hz1:=hz.1
 refine zt Tryz.func31 1 ?_
 refine pw ?_
 (first | refine .c (hc) ?_ | refine .o (hc) ?_)
 refine pLoop.go (fun j=>j<=k.length) (fun j=>[(7,.v (.bool (xm k j).isSome)),(26,.v (.int .i64 (j:Nat)))]) (fun j=>[trc (0,0,0),trc ((xm k j).getD (0,0,0))]) (fun j=>k.length - j) 0 [7,26] ?_ ?_ ?_
 ·exact Nat.zero_le _
 ·simp only [zbi,Option.isSome_none,Option.getD_none]
  exact pd
 ·rintro j hj
  refine pw ?_
  refine .i ?_ ?_<;>intro h<;>(try simp only [nrm_l] at h)<;>first | refine pw ?_ | exact pd
  ·have hf:=hz.2 _ (List.getElem_mem h)
   have hrf:=hr _ (List.getElem_mem h)
   have hsv:=h12.s _ (List.getElem_mem h)
   have hs:=zbh h
   refine .c (KY k[j].items (by omega)) ?_
   refine .i ?_ ?_<;>intro h2<;>(try simp only [nrm_l] at h2)<;>first | refine pw ?_ | exact pd
   ·rw [zem (by omega)] at hs
    have e:xm k (j+1)=xm k j:=hs
    exact⟨j+1,h,by omega,⟨by rw [e],rfl⟩,by rw [e],by rw [e],by rw [e]⟩
   ·rw [zbR h2] at hs
    refine pLoop.go (fun i=>i<=k[j].vec.length) (fun i=>[(7,.v (.bool (kt (xm k j) (qA k[j].items).lo k[j].vec i).isSome)),(41,.v (.int .i64 (i:Nat)))]) (fun i=>[trc (0,0,0),trc ((kt (xm k j) (qA k[j].items).lo k[j].vec i).getD (0,0,0)),fc k[j]]) (fun i=>k[j].vec.length - i) 0 [7,41] ?_ ?_ ?_
    ·exact Nat.zero_le _
    ·simp only [zbg]
     exact pd
    ·rintro i hi
     refine pw ?_
     refine .i ?_ ?_<;>intro h3<;>(try simp only [nrm_l] at h3)<;>first | refine pw ?_ | exact pd
     ·have hre:=hrf.2.1 _ (List.getElem_mem h3)
      have hhl:=hsv.2.2 _ (List.getElem_mem h3)
      have hkl:=kW k[j].vec[i]
      have hI:=zbf (o:=xm k j) (x:=(qA k[j].items).lo) h3
      refine .c (XZ k[j].vec[i] hre (by omega)) ?_
      refine .c (KY (kn k[j].vec[i]) (by omega)) ?_
      refine .i ?_ ?_<;>intro h4<;>(try simp only [nrm_l] at h4)<;>first | refine pw ?_ | exact pd
      ·rw [zbQ h4] at hI
       cases ho:kt (xm k j) (qA k[j].items).lo k[j].vec i with
       | none=>
         simp only [ho,Option.isSome_none,Option.getD_none]
         rw [ho] at hI
         refine pw ?_
         have e:kt (xm k j) (qA k[j].items).lo k[j].vec (i+1)=some ((qA k[j].items).lo,k[j].vec[i].rep,(qA (kn k[j].vec[i])).lo):=hI
         exact⟨i+1,h3,by omega,⟨by rw [e];rfl,rfl⟩,by rw [e];rfl,by rw [e];rfl,by rw [e];rfl⟩
       | some u=>
         simp only [ho,Option.isSome_some,Option.getD_some]
         rw [ho] at hI
         refine pw ?_
         refine .c (zi6 ((qA k[j].items).lo,k[j].vec[i].rep,(qA (kn k[j].vec[i])).lo) u) ?_
         refine .i ?_ ?_<;>intro h5<;>(try simp only [nrm_l] at h5)<;>first | refine pw ?_ | exact pd
         ·have e:kt (xm k j) (qA k[j].items).lo k[j].vec (i+1)=some ((qA k[j].items).lo,k[j].vec[i].rep,(qA (kn k[j].vec[i])).lo):=by rw [hI];simp only [List.foldl_cons,List.foldl_nil,Vq,if_pos h5]
          exact⟨i+1,h3,by omega,⟨by rw [e];rfl,rfl⟩,by rw [e];rfl,by rw [e];rfl,by rw [e];rfl⟩
         ·have e:kt (xm k j) (qA k[j].items).lo k[j].vec (i+1)=some u:=by rw [hI];simp only [List.foldl_cons,List.foldl_nil,Vq];rw [if_neg (by omega)]
          exact⟨i+1,h3,by omega,⟨by rw [e];rfl,rfl⟩,by rw [e];rfl,by rw [e];rfl,by rw [e];rfl⟩
      ·rw [zel (by omega)] at hI
       have e:kt (xm k j) (qA k[j].items).lo k[j].vec (i+1)=kt (xm k j) (qA k[j].items).lo k[j].vec i:=hI
       exact⟨i+1,h3,by omega,⟨by rw [e],rfl⟩,by rw [e],by rw [e],by rw [e]⟩
     ·have e:xm k (j+1)=kt (xm k j) (qA k[j].items).lo k[j].vec i:=by
       rw [hs];unfold kt;rw [List.take_of_length_le (by omega)]
      exact⟨j+1,h,by omega,⟨by rw [e],rfl⟩,by rw [e],by rw [e],by rw [e]⟩
  ·have e:xm k j=kY k:=by unfold xm kY;rw [List.take_of_length_le (by omega)]
   rw [e]
end Go.Proofs.YtonhfknjcbakiaaGreatDoor
