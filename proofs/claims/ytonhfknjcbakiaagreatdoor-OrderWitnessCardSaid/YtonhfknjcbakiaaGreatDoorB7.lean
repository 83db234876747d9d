import Derived.RangeFuncNested
import Derived.Shelf.Abstract
import Derived.Shelf.RegionOpen
import Derived.WalkKit
import Derived.Laws.AppendOwn
import Derived.Lib.Hide
import Derived.Test.YtonhfknjcbakiaaGreatDoorProg
import Derived.LaidEql
import Derived.Stop.Asserts
import Derived.RowKitTokens
import Derived.Test.YtonhfknjcbakiaaGreatDoorB6
set_option linter.unusedVariables false
set_option linter.unusedSimpArgs false
set_option maxRecDepth 100000
namespace Go.Proofs.YtonhfknjcbakiaaGreatDoor
def zk:Nat:=18446744073709551616
theorem zw:zk=18446744073709551616:=rfl
theorem xM:0<zk:=by rw [zw];omega
structure Iv where
 lo:Nat
 hi:Nat
deriving DecidableEq
theorem Iv.ext' {s t:Iv} (h1:s.lo=t.lo) (h2:s.hi=t.hi):s=t:=by cases s;cases t;simp_all
def mem (l:List Iv) (x:Nat):Bool:=l.any fun s=>decide (s.lo<=x) && decide (x<=s.hi)
@[simp] theorem Xf (x:Nat):mem [] x=false:=rfl
theorem zz (s:Iv) (l:List Iv) (x:Nat):mem (s::l) x=((decide (s.lo<=x) && decide (x<=s.hi)) || mem l x):=rfl
theorem yd (l k:List Iv) (x:Nat):mem (l++k) x=(mem l x || mem k x):=by simp [mem,List.any_append]
theorem qf {l:List Iv} {x:Nat}:mem l x=true ↔ ∃ s ∈ l,s.lo<=x/\x<=s.hi:=by simp [mem]
def NF:Nat->List Iv->Prop
 | _,[]=>True
 | n,s::l=>n<=s.lo/\s.lo<=s.hi/\s.hi<zk/\NF (s.hi+2) l
def Nrm (l:List Iv):Prop:=NF 0 l
theorem NF.mono {l:List Iv} {n m:Nat} (h:NF n l) (hm:m<=n):NF m l:=by
 cases l with
 | nil=>trivial
 | cons s l=>exact⟨Nat.le_trans hm h.1,h.2.1,h.2.2.1,h.2.2.2⟩
theorem NF.tail {s:Iv} {l:List Iv} {n:Nat} (h:NF n (s::l)):NF n l:=h.2.2.2.mono (by have:=h.1;have:=h.2.1;omega)
theorem NF.lo_ge {l:List Iv}:∀ {n:Nat},NF n l->∀ s ∈ l,n<=s.lo/\s.lo<=s.hi/\s.hi<zk:=by
 induction l with
 | nil=>intro n _ s hs;cases hs
 | cons t l ih=>
   intro n h s hs
   cases hs with
   | head=>exact⟨h.1,h.2.1,h.2.2.1⟩
   | tail _ hs=>have:=ih h.2.2.2 s hs;have:=h.1;have:=h.2.1;exact⟨by omega,by omega,by omega⟩
theorem NF.mem_ge {l:List Iv} {n:Nat} (h:NF n l) {x:Nat} (hx:mem l x=true):n<=x/\x<zk:=by
 obtain⟨s,hs,h1,h2⟩:=qf.1 hx
 have:=h.lo_ge s hs
 omega
theorem NF.mem_lt {l:List Iv} {n:Nat} (h:NF n l) {x:Nat} (hx:x<n):mem l x=false:=by
 cases e:mem l x with
 | false=>rfl
 | true=>have:=(h.mem_ge e).1;omega
theorem NF.unique:∀ {a b:List Iv} {n:Nat},NF n a->NF n b->(∀ x,mem a x=mem b x)->a=b
 | [],[],_,_,_,_=>rfl
 | [],s::l,_,_,hb,h=>by
   have:=h s.lo
   have h1:=hb.2.1
   simp [zz,h1] at this
 | s::l,[],_,ha,_,h=>by
   have:=h s.lo
   have h1:=ha.2.1
   simp [zz,h1] at this
 | s::l,t::k,n,ha,hb,h=>by
   have ha2:=ha.2.1
   have hb2:=hb.2.1
   have hlo:s.lo=t.lo:=by
    have h1:=h s.lo
    have h2:=h t.lo
    rw [zz,zz] at h1 h2
    have e1:mem l t.lo=true->s.hi+2<=t.lo:=fun e=>(ha.2.2.2.mem_ge e).1
    have e2:mem k s.lo=true->t.hi+2<=s.lo:=fun e=>(hb.2.2.2.mem_ge e).1
    cases c1:mem l t.lo<;>cases c2:mem k s.lo<;>simp_all<;>omega
   have hhi:s.hi=t.hi:=by
    rcases Nat.lt_trichotomy s.hi t.hi with hlt | heq | hgt
    ·exfalso
     have h1:=h (s.hi+1)
     have g1:s.lo<=s.hi+1:=by omega
     have g2:¬ s.hi+1<=s.hi:=by omega
     have g3:t.lo<=s.hi+1:=by omega
     have g4:s.hi+1<=t.hi:=by omega
     rw [zz,zz,ha.2.2.2.mem_lt (show s.hi+1<s.hi+2 by omega)] at h1
     simp [g2,g3,g4] at h1
    ·exact heq
    ·exfalso
     have h1:=h (t.hi+1)
     have g1:t.lo<=t.hi+1:=by omega
     have g2:¬ t.hi+1<=t.hi:=by omega
     have g3:s.lo<=t.hi+1:=by omega
     have g4:t.hi+1<=s.hi:=by omega
     rw [zz,zz,hb.2.2.2.mem_lt (show t.hi+1<t.hi+2 by omega)] at h1
     simp [g2,g3,g4] at h1
   have hst:s=t:=Iv.ext' hlo hhi
   subst hst
   have:l=k:=NF.unique (n:=s.hi+2) ha.2.2.2 hb.2.2.2 fun x=>by
    by_cases hx:x<s.hi+2
    ·rw [ha.2.2.2.mem_lt hx,hb.2.2.2.mem_lt hx]
    ·have:=h x
     rw [zz,zz] at this
     have hn:¬ x<=s.hi:=by omega
     simpa [hn] using this
   rw [this]
theorem Nrm.unique {a b:List Iv} (ha:Nrm a) (hb:Nrm b) (h:∀ x,x<zk->mem a x=mem b x):a=b:=
 NF.unique ha hb fun x=>by
  by_cases hx:x<zk
  ·exact h x hx
  ·have:∀ {l},Nrm l->mem l x=false:=fun {l} hl=>by
    cases e:mem l x with
    | false=>rfl
    | true=>have:=(NF.mem_ge hl e).2;omega
   rw [this ha,this hb]
theorem NF.append {a b:List Iv}:∀ {n:Nat},NF n a->(∀ m,n<=m->(∀ s ∈ a,s.hi+2<=m)->(a=[]->m=n)->NF m b->NF n (a++b)):=by
 induction a with
 | nil=>intro n _ m _ _ h1 hb;have:=h1 rfl;subst this;exact hb
 | cons s a ih=>
   intro n h m hm hs _ hb
   refine⟨h.1,h.2.1,h.2.2.1,?_⟩
   have h2:=hs s (by simp)
   cases a with
   | nil=>exact hb.mono h2
   | cons t a=>exact ih h.2.2.2 m h2 (fun u hu=>hs u (by simp [hu])) (fun e=>by cases e) hb
def ye:List Iv->Nat->Option Nat
 | [],_=>none
 | s::l,x=>if x<s.lo then some s.lo else if s.hi+1<zk/\x<s.hi+1 then some (s.hi+1) else ye l x
def kv:Option Nat->Option Nat->Option Nat
 | none,b=>b
 | some x,none=>some x
 | some x,some y=>if y<x then some y else some x
theorem xr {l:List Iv} {x y:Nat} (h:ye l x=some y):x<y:=by
 induction l with
 | nil=>cases h
 | cons s l ih=>
   unfold ye at h
   split at h
   ·cases h;assumption
   ·split at h
    ·cases h;omega
    ·exact ih h
theorem vJ {l:List Iv} {n x y:Nat} (hl:NF n l) (h:ye l x=some y):y<zk:=by
 induction l generalizing n with
 | nil=>cases h
 | cons s l ih=>
   have h1:=hl.2.1
   have h2:=hl.2.2.1
   unfold ye at h
   split at h
   ·cases h;omega
   ·split at h
    ·cases h;omega
    ·exact ih hl.2.2.2 h
theorem xB {l:List Iv} {n x y z:Nat} (hl:NF n l) (h:ye l x=some y) (h1:x<=z) (h2:z<y):mem l z=mem l x:=by
 induction l generalizing n with
 | nil=>cases h
 | cons s l ih=>
   have g1:=hl.2.1
   unfold ye at h
   split at h
   ·rename_i hlt
    cases h
    rw [(hl.2.2.2.mono (m:=s.lo) (by omega) |> fun k:NF s.lo l=>(show NF s.lo (s::l) from ⟨Nat.le_refl _,g1,hl.2.2.1,hl.2.2.2⟩)).mem_lt h2,
     (show NF s.lo (s::l) from ⟨Nat.le_refl _,g1,hl.2.2.1,hl.2.2.2⟩).mem_lt hlt]
   ·split at h
    ·rename_i hn hc
     cases h
     have e1:mem l z=false:=hl.2.2.2.mem_lt (by omega)
     have e2:mem l x=false:=hl.2.2.2.mem_lt (by omega)
     rw [zz,zz,e1,e2]
     have:(s.lo<=z)=True:=by simp;omega
     have:(s.lo<=x)=True:=by simp;omega
     have:(z<=s.hi)=True:=by simp;omega
     have:(x<=s.hi)=True:=by simp;omega
     simp [*]
    ·rename_i hn hc
     rw [zz,zz,ih hl.2.2.2 h]
     have g2:=hl.2.2.1
     by_cases hh:s.hi+1<zk
     ·have a1:¬ x<=s.hi:=by omega
      have a2:¬ z<=s.hi:=by omega
      simp [a1,a2]
     ·exfalso
      have:l=[]:=by
       cases l with
       | nil=>rfl
       | cons t l=>have:=hl.2.2.2.1;have:=hl.2.2.2.2.1;have:=hl.2.2.2.2.2.1;omega
      subst this
      cases h
theorem kx {l:List Iv} {n x z:Nat} (hl:NF n l) (h:ye l x=none) (h1:x<=z) (h2:z<zk):mem l z=mem l x:=by
 induction l generalizing n with
 | nil=>rfl
 | cons s l ih=>
   have g2:=hl.2.2.1
   unfold ye at h
   split at h
   ·cases h
   ·split at h
    ·cases h
    ·rename_i hn hc
     rw [zz,zz,ih hl.2.2.2 h]
     by_cases hh:s.hi+1<zk
     ·have a1:¬ x<=s.hi:=by omega
      have a2:¬ z<=s.hi:=by omega
      simp [a1,a2]
     ·have:(s.lo<=z)=True:=by simp;omega
      have:(s.lo<=x)=True:=by simp;omega
      have:(z<=s.hi)=True:=by simp;omega
      have:(x<=s.hi)=True:=by simp;omega
      simp [*]
theorem zdt {s:Iv} {l:List Iv} {x:Nat} (h:s.hi<x) (h0:s.lo<=s.hi):ye (s::l) x=ye l x:=by
 conv=>lhs;unfold ye
 rw [if_neg (by omega),if_neg (by omega)]
def QU (a b:List Iv):Nat->Nat->List (Iv × Bool × Bool)
 | 0,_=>[]
 | f+1,x=>
   match kv (ye a x) (ye b x) with
   | none=>[(⟨x,zk - 1⟩,mem a x,mem b x)]
   | some y=>(⟨x,y - 1⟩,mem a x,mem b x)::QU a b f y
def yO (a b:List Iv):List (Iv × Bool × Bool):=QU a b zk 0
def Cov (a b:List Iv):Nat->List (Iv × Bool × Bool)->Prop
 | x,[]=>x=zk
 | x,(s,p,q)::r=>s.lo=x/\x<=s.hi/\s.hi<zk/\(∀ z,x<=z->z<=s.hi->mem a z=p/\mem b z=q)/\Cov a b (s.hi+1) r
theorem zbl {a b:Option Nat} (h:kv a b=none):a=none/\b=none:=by
 cases a<;>cases b<;>simp [kv] at h ⊢
 split at h<;>cases h
theorem zf0 {a b:List Iv} (ha:Nrm a) (hb:Nrm b):∀(f x:Nat),x<zk->zk<=f+x->Cov a b x (QU a b f x):=by
 intro f
 induction f with
 | zero=>intro x h1 h2;omega
 | succ f ih=>
   intro x h1 h2
   unfold QU
   cases hm:kv (ye a x) (ye b x) with
   | none=>
     obtain⟨na,nb⟩:=zbl hm
     refine⟨rfl,?_,?_,?_,?_⟩
     ·show x<=zk - 1;omega
     ·show zk - 1<zk;omega
     ·intro z z1 z2
      have z3:z<zk:=by have:z<=zk - 1:=z2;omega
      exact⟨kx ha na z1 z3,kx hb nb z1 z3⟩
     ·show zk - 1+1=zk;omega
   | some y=>
     have hy:x<y/\y<zk/\∀ z,x<=z->z<y->mem a z=mem a x/\mem b z=mem b x:=by
      cases ea:ye a x with
      | none=>
        rw [ea] at hm
        have eb:ye b x=some y:=hm
        refine⟨xr eb,vJ hb eb,fun z z1 z2=>⟨kx ha ea z1 (by have:=vJ hb eb;omega),xB hb eb z1 z2⟩⟩
      | some u=>
        cases eb:ye b x with
        | none=>
          rw [ea,eb] at hm
          simp only [kv] at hm
          cases hm
          exact⟨xr ea,vJ ha ea,fun z z1 z2=>⟨xB ha ea z1 z2,kx hb eb z1 (by have:=vJ ha ea;omega)⟩⟩
        | some v=>
          rw [ea,eb] at hm
          simp only [kv] at hm
          split at hm
          ·cases hm
           exact⟨xr eb,vJ hb eb,fun z z1 z2=>⟨xB ha ea z1 (by omega),xB hb eb z1 z2⟩⟩
          ·cases hm
           exact⟨xr ea,vJ ha ea,fun z z1 z2=>⟨xB ha ea z1 z2,xB hb eb z1 (by omega)⟩⟩
     obtain⟨y1,y2,y3⟩:=hy
     refine⟨rfl,?_,?_,?_,?_⟩
     ·show x<=y - 1;omega
     ·show y - 1<zk;omega
     ·intro z z1 z2
      have:z<=y - 1:=z2
      exact y3 z z1 (by omega)
     ·show Cov a b (y - 1+1) _
      rw [show y - 1+1=y from by omega]
      exact ih y y2 (by omega)
theorem j4 {a b:List Iv} (ha:Nrm a) (hb:Nrm b):Cov a b 0 (yO a b):=zf0 ha hb zk 0 xM (by omega)
def Q8 (out:List Iv) (s:Iv):List Iv:=
 match out.getLast? with
 | none=>[s]
 | some t=>if t.hi+1=s.lo then out.dropLast++[⟨t.lo,s.hi⟩] else out++[s]
def qg (f:Bool->Bool->Bool) (out:List Iv):List (Iv × Bool × Bool)->List Iv
 | []=>out
 | (s,p,q)::r=>qg f (if f p q then Q8 out s else out) r
def qy (f:Bool->Bool->Bool) (a b:List Iv):List Iv:=qg f [] (yO a b)
theorem yf (f:Bool->Bool->Bool) (out:List Iv) (xs ys:List (Iv × Bool × Bool)):qg f out (xs++ys)=qg f (qg f out xs) ys:=by
 induction xs generalizing out with
 | nil=>rfl
 | cons x xs ih=>obtain⟨s,p,q⟩:=x;simp only [List.cons_append,qg];exact ih _
theorem NF.snoc {l:List Iv} {s:Iv} {n:Nat} (h:NF n l) (hl:∀ t ∈ l,t.hi+2<=s.lo) (hn:n<=s.lo) (h1:s.lo<=s.hi) (h2:s.hi<zk):NF n (l++[s]):=by
 induction l generalizing n with
 | nil=>exact⟨hn,h1,h2,trivial⟩
 | cons t l ih=>exact⟨h.1,h.2.1,h.2.2.1,ih h.2.2.2 (fun u hu=>hl u (by simp [hu])) (hl t (by simp))⟩
theorem NF.last_lt {l:List Iv} {t:Iv}:∀ {n:Nat},NF n (l++[t])->∀ u ∈ l,u.hi+2<=t.lo:=by
 induction l with
 | nil=>intro n _ u hu;cases hu
 | cons s l ih=>
   intro n h u hu
   cases hu with
   | head=>exact(h.2.2.2.lo_ge t (by simp)).1
   | tail _ hu=>exact ih h.2.2.2 u hu
theorem NF.init {l:List Iv} {t:Iv}:∀ {n:Nat},NF n (l++[t])->NF n l:=by
 induction l with
 | nil=>intro n _;trivial
 | cons s l ih=>intro n h;exact⟨h.1,h.2.1,h.2.2.1,ih h.2.2.2⟩
theorem Xm {out:List Iv} {s:Iv} (h:Nrm out) (hs:∀ t ∈ out,t.hi<s.lo) (h1:s.lo<=s.hi) (h2:s.hi<zk) :
 Nrm (Q8 out s)/\(∀ x,mem (Q8 out s) x=(mem out x || (decide (s.lo<=x) && decide (x<=s.hi))))/\∀ t ∈ Q8 out s,t.hi<=s.hi:=by
 rcases List.eq_nil_or_concat out with rfl | ⟨l,t,rfl⟩
 ·refine⟨⟨Nat.zero_le _,h1,h2,trivial⟩,fun x=>by simp [Q8,zz],fun t ht=>?_⟩
  simp [Q8] at ht;subst ht;exact Nat.le_refl _
 ·simp only [List.concat_eq_append] at *
  have ht:=NF.lo_ge h t (by simp)
  have hts:=hs t (by simp)
  unfold Q8
  simp only [List.getLast?_concat,List.dropLast_concat]
  by_cases e:t.hi+1=s.lo
  ·rw [if_pos e]
   refine⟨NF.snoc (NF.init h) (fun u hu=>by have:=NF.last_lt h u hu;show u.hi+2<=t.lo;omega) (Nat.zero_le _) (by show t.lo<=s.hi;omega) h2,fun x=>?_,fun u hu=>?_⟩
   ·rw [yd,yd,zz,zz,Bool.or_assoc]
    congr 1
    simp only [Xf,Bool.or_false]
    rw [Bool.eq_iff_iff]
    simp
    omega
   ·simp at hu
    rcases hu with hu | rfl
    ·have:=NF.last_lt h u hu;omega
    ·exact Nat.le_refl _
  ·rw [if_neg e]
   refine⟨NF.snoc h (fun u hu=>?_) (Nat.zero_le _) h1 h2,fun x=>by rw [yd,zz];simp,fun u hu=>?_⟩
   ·simp at hu
    rcases hu with hu | rfl
    ·have:=NF.last_lt h u hu;omega
    ·omega
   ·simp at hu
    rcases hu with hu | rfl | rfl
    ·have:=NF.last_lt h u hu;omega
    ·omega
    ·exact Nat.le_refl _
theorem Zt {f:Bool->Bool->Bool} {a b:List Iv}:∀(xs:List (Iv × Bool × Bool)) (x:Nat) (out:List Iv),Cov a b x xs->Nrm out->(∀ t ∈ out,t.hi<x) ->
 Nrm (qg f out xs)/\∀ z,z<zk->mem (qg f out xs) z=if z<x then mem out z else f (mem a z) (mem b z):=by
 intro xs
 induction xs with
 | nil=>
   intro x out hc h _
   refine⟨h,fun z hz=>?_⟩
   have:x=zk:=hc
   rw [if_pos (by omega)];rfl
 | cons y xs ih=>
   intro x out hc h hx
   obtain⟨s,p,q⟩:=y
   obtain⟨h1,h2,h3,h4,h5⟩:=hc
   have hx':∀ t ∈ out,t.hi<s.lo:=by rw [h1];exact hx
   have hmo:∀ z,x<=z->mem out z=false:=fun z hz=>by
    cases e:mem out z with
    | false=>rfl
    | true=>obtain⟨t,ht,_,ht2⟩:=qf.1 e;have:=hx t ht;omega
   simp only [qg]
   by_cases e:f p q=true
   ·rw [if_pos e]
    obtain⟨p1,p2,p3⟩:=Xm h hx' (by omega) h3
    obtain⟨r1,r2⟩:=ih (s.hi+1) _ h5 p1 (fun t ht=>by have:=p3 t ht;omega)
    refine⟨r1,fun z hz=>?_⟩
    rw [r2 z hz,p2 z]
    by_cases z1:z<x
    ·rw [if_pos (by omega),if_pos z1]
     have:¬ s.lo<=z:=by omega
     simp [this]
    ·rw [if_neg z1]
     by_cases z2:z<s.hi+1
     ·rw [if_pos z2,(h4 z (by omega) (by omega)).1,(h4 z (by omega) (by omega)).2,e]
      have a1:s.lo<=z:=by omega
      have a2:z<=s.hi:=by omega
      simp [a1,a2]
     ·rw [if_neg z2]
   ·rw [if_neg e]
    obtain⟨r1,r2⟩:=ih (s.hi+1) _ h5 h (fun t ht=>by have:=hx t ht;omega)
    refine⟨r1,fun z hz=>?_⟩
    rw [r2 z hz]
    by_cases z1:z<x
    ·rw [if_pos (by omega),if_pos z1]
    ·rw [if_neg z1]
     by_cases z2:z<s.hi+1
     ·rw [if_pos z2,(h4 z (by omega) (by omega)).1,(h4 z (by omega) (by omega)).2]
      rw [hmo z (by omega)]
      simpa using e
     ·rw [if_neg z2]
theorem qH {f:Bool->Bool->Bool} {a b:List Iv} (ha:Nrm a) (hb:Nrm b):Nrm (qy f a b):=(Zt (f:=f) _ 0 [] (j4 ha hb) trivial (fun _ h=>by cases h)).1
theorem qj {f:Bool->Bool->Bool} {a b:List Iv} (ha:Nrm a) (hb:Nrm b) {x:Nat} (hx:x<zk):mem (qy f a b) x=f (mem a x) (mem b x):=by
 have:=(Zt (f:=f) _ 0 [] (j4 ha hb) trivial (fun _ h=>by cases h)).2 x hx
 rwa [if_neg (by omega)] at this
theorem vK {f:Bool->Bool->Bool} {a b c:List Iv} (ha:Nrm a) (hb:Nrm b) (hc:Nrm c) (h:∀ x,x<zk->mem c x=f (mem a x) (mem b x)):qy f a b=c:=
 Nrm.unique (qH ha hb) hc fun x hx=>by rw [qj ha hb hx,h x hx]
end Go.Proofs.YtonhfknjcbakiaaGreatDoor
namespace Go.Proofs.YtonhfknjcbakiaaGreatDoor
open Go.RowKit
inductive Ow where
 | sh
 | z
 | n (sz:Nat)
 | p (i:Nat)
 | r (n sz:Nat)
inductive PV where
 | v (x:Value)
 | agg (cs:List PV)
 | tup (cs:List PV)
 | sl (es:List (List PV)) (o:Ow)
 | cp (cs:List PV) (o:Nat)
 | bx (i o:Nat)
 | fn (f:Fn) (fs cs:List PV)
 | ifc (t:TypeId) (x:PV)
 | und
inductive Dat (D:Nat->Nat->Prop) (w:World):Value->PV->Prop where
 | v (x:Value):Dat D w x (.v x)
 | und (x:Value):Dat D w x .und
 | agg (vs:Array Value) (cs:List PV) (hs:vs.size=cs.length) (h1:∀ i,i<cs.length->(vs.getD i undef).oneCell'=true) (h:∀(i:Nat) (p:PV),cs[i]? = some p->Dat D w (vs.getD i undef) p):Dat D w (.agg vs) (.agg cs)
 | tup (vs:Array Value) (cs:List PV) (hs:vs.size=cs.length) (h:∀(i:Nat) (p:PV),cs[i]? = some p->Dat D w (vs.getD i undef) p):Dat D w (.tuple vs) (.tup cs)
 | fn (f:Fn) (va vb:Array Value) (fs cs:List PV) (h1:va.size=fs.length) (h2:vb.size=cs.length) (h3:∀(i:Nat) (p:PV),fs[i]? = some p->Dat D w (va.getD i undef) p) (h4:∀(i:Nat) (p:PV),cs[i]? = some p->Dat D w (vb.getD i undef) p):Dat D w (.func f va vb) (.fn f fs cs)
 | ifc (t:TypeId) (x:Value) (p:PV) (h:Dat D w x p):Dat D w (.iface t x) (.ifc t p)
 | sl (a:Option Addr) (cap sz:Nat) (es:List (List PV)) (o:Ow) (b off:Nat) (u:Nat->Value) (hc:es.length<=cap) (hz:o=.z->cap=es.length) (hm:cap<=maxLen) (ha:es≠[]->a=some ⟨b,off,none⟩)
    (hsz:∀(i:Nat) (e:List PV),es[i]? = some e->e.length=sz) (hD:∀ j,j<es.length * sz->D b (off+j)/\w.cell? ⟨b,off+j,none⟩=some (u j)/\(u j).oneCell'=true)
    (h:∀(i:Nat) (e:List PV) (j:Nat) (p:PV),es[i]? = some e->e[j]? = some p->Dat D w (u (i * sz+j)) p):Dat D w (.slice a es.length cap) (.sl es o)
 | cp (b off:Nat) (cs:List PV) (o:Nat) (u:Nat->Value) (hD:∀ j,j<cs.length->D b (off+j)/\w.cell? ⟨b,off+j,none⟩=some (u j)/\(u j).oneCell'=true)
    (h:∀(j:Nat) (p:PV),cs[j]? = some p->Dat D w (u j) p):Dat D w (.pointer (some ⟨b,off+o,none⟩)) (.cp cs o)
theorem Dat.mono {D D':Nat->Nat->Prop} {w w':World} {x:Value} {p:PV} (h:Dat D w x p) (hD:∀ b o,D b o->D' b o) (hw:∀ b o x,D b o->w.cell? ⟨b,o,none⟩=some x->w'.cell? ⟨b,o,none⟩=some x):Dat D' w' x p:=by
 induction h with
 | v x=>exact .v x
 | und x=>exact .und x
 | agg vs cs hs h1 _ ih=>exact .agg vs cs hs h1 ih
 | tup vs cs hs _ ih=>exact .tup vs cs hs ih
 | fn f va vb fs cs h1 h2 _ _ ih1 ih2=>exact .fn f va vb fs cs h1 h2 ih1 ih2
 | ifc t x p _ ih=>exact .ifc t x p ih
 | sl a cap sz es o b off u hc hz hm ha hsz hd _ ih=>exact .sl a cap sz es o b off u hc hz hm ha hsz (fun j hj=>⟨hD _ _ (hd j hj).1,hw _ _ _ (hd j hj).1 (hd j hj).2.1,(hd j hj).2.2⟩) ih
 | cp b off cs o u hd _ ih=>exact .cp b off cs o u (fun j hj=>⟨hD _ _ (hd j hj).1,hw _ _ _ (hd j hj).1 (hd j hj).2.1,(hd j hj).2.2⟩) ih
def Rel1 (D:Nat->Nat->Prop) (ρ:Nat->Nat) (nb:Nat) (w:World) (x:Value) (p:PV):Prop:=
 Dat D w x p\/∃ i o,p=.bx i o/\i<nb/\x=.pointer (some ⟨ρ i,o,none⟩)
def Rel (D:Nat->Nat->Prop) (ρ:Nat->Nat) (nb:Nat) (w:World) (x:Value) (p:PV):Prop:=
 Rel1 D ρ nb w x p\/∃ f va vb fs cs,p=.fn f fs cs/\x=.func f va vb/\va.size=fs.length/\vb.size=cs.length/\(∀ i q,fs[i]? = some q->Rel1 D ρ nb w (va.getD i undef) q)/\(∀ i q,cs[i]? = some q->Rel1 D ρ nb w (vb.getD i undef) q)
theorem Rel1.mono {D D':Nat->Nat->Prop} {ρ ρ':Nat->Nat} {nb nb':Nat} {w w':World} {x:Value} {p:PV} (h:Rel1 D ρ nb w x p) (hD:∀ b o,D b o->D' b o) (hw:∀ b o x,D b o->w.cell? ⟨b,o,none⟩=some x->w'.cell? ⟨b,o,none⟩=some x)
 (hn:nb<=nb') (hρ:∀ i,i<nb->ρ' i=ρ i):Rel1 D' ρ' nb' w' x p:=by
 rcases h with h | ⟨i,o,rfl,hi,rfl⟩
 ·exact .inl (h.mono hD hw)
 ·exact .inr ⟨i,o,rfl,by omega,by rw [hρ i hi]⟩
theorem Rel.mono {D D':Nat->Nat->Prop} {ρ ρ':Nat->Nat} {nb nb':Nat} {w w':World} {x:Value} {p:PV} (h:Rel D ρ nb w x p) (hD:∀ b o,D b o->D' b o) (hw:∀ b o x,D b o->w.cell? ⟨b,o,none⟩=some x->w'.cell? ⟨b,o,none⟩=some x)
 (hn:nb<=nb') (hρ:∀ i,i<nb->ρ' i=ρ i):Rel D' ρ' nb' w' x p:=by
 rcases h with h | ⟨f,va,vb,fs,cs,rfl,rfl,h1,h2,h3,h4⟩
 ·exact .inl (h.mono hD hw hn hρ)
 ·exact .inr ⟨f,va,vb,fs,cs,rfl,rfl,h1,h2,fun i q hq=>(h3 i q hq).mono hD hw hn hρ,fun i q hq=>(h4 i q hq).mono hD hw hn hρ⟩
theorem Rel.dat {D:Nat->Nat->Prop} {ρ:Nat->Nat} {nb:Nat} {w:World} {x:Value} {p:PV} (h:Dat D w x p):Rel D ρ nb w x p:=.inl (.inl h)
def PV.own:PV->Option Nat
 | .sl _ (.r n _)=>some n
 | _=>none
def PV.isB:PV->Bool
 | .bx _ _=>true
 | _=>false
def PV.isD:PV->Bool
 | .bx _ _=>false
 | .fn _ fs cs=>fs.all (fun p=>!p.isB) && cs.all (fun p=>!p.isB)
 | _=>true
def PV.strip:PV->PV
 | .sl es (.r _ _)=>.sl es .sh
 | .sl es (.n _)=>.sl es .sh
 | .sl es (.p _)=>.sl es .sh
 | p=>p
def PV.sh:PV->PV
 | .sl es _=>.sl es .sh
 | p=>p
theorem PV.strip_own (p:PV):p.strip.own=none:=by
 cases p<;>try rfl
 rename_i o;cases o<;>rfl
def PV.isN:PV->Bool
 | .sl _ (.n _)=>true
 | .sl _ (.p _)=>true
 | _=>false
theorem PV.strip_isN (p:PV):p.strip.isN=false:=by
 cases p<;>try rfl
 rename_i o;cases o<;>rfl
def NewOk (x0:Nat->Value) (n0:Nat) (w:World) (x:Value):PV->Prop
 | .sl es (.p i)=>∃ ad len cap,x0 i=.slice ad len cap/\x=.slice ad es.length cap
 | .sl es (.n sz)=>(∃ ad,x=.slice ad es.length es.length)\/∃ g cap cur e,n0<=g/\x=.slice (some ⟨g,0,none⟩) es.length cap/\w.heap[g]? = some (.cells cur e (0,0))/\cur.size=cap * sz
 | _=>True
theorem xA {x0:Nat->Value} {n0:Nat} {w:World} {x:Value} {p:PV} (h:p.isN=false):NewOk x0 n0 w x p:=by
 cases p<;>try trivial
 rename_i o;cases o<;>first | trivial | cases h
theorem NewOk.mono {x0:Nat->Value} {n0 n1:Nat} {w w':World} {x:Value} {p:PV} (h:NewOk x0 n0 w x p) (hn:n1<=n0) (hw:∀ k,k<w.heap.size->w'.heap[k]? = w.heap[k]?):NewOk x0 n1 w' x p:=by
 cases p<;>try trivial
 rename_i es o;cases o<;>first | exact h | skip
 rcases h with h | ⟨g,cap,cur,e,h1,h2,h3,h4⟩
 ·exact .inl h
 ·exact .inr ⟨g,cap,cur,e,by omega,h2,(hw g (Array.getElem?_eq_some_iff.1 h3).1).trans h3,h4⟩
theorem Dat.strip {D:Nat->Nat->Prop} {w:World} {x:Value} {p:PV} (h:Dat D w x p):Dat D w x p.strip:=by
 cases h with
 | sl a cap sz es o b off u hc hz hm ha hsz hD h=>
   cases o with
   | sh=>exact .sl a cap sz es _ b off u hc hz hm ha hsz hD h
   | z=>exact .sl a cap sz es _ b off u hc hz hm ha hsz hD h
   | n m=>exact .sl a cap sz es _ b off u hc (fun h=>by cases h) hm ha hsz hD h
   | p m=>exact .sl a cap sz es _ b off u hc (fun h=>by cases h) hm ha hsz hD h
   | r n m=>exact .sl a cap sz es _ b off u hc (fun h=>by cases h) hm ha hsz hD h
 | v x=>exact .v x
 | und x=>exact .und x
 | agg vs cs hs h1 h=>exact .agg vs cs hs h1 h
 | tup vs cs hs h=>exact .tup vs cs hs h
 | fn f va vb fs cs h1 h2 h3 h4=>exact .fn f va vb fs cs h1 h2 h3 h4
 | ifc t x p h=>exact .ifc t x p h
 | cp b off cs o u hD h=>exact .cp b off cs o u hD h
theorem Dat.sh {D:Nat->Nat->Prop} {w:World} {x:Value} {p:PV} (h:Dat D w x p):Dat D w x p.sh:=by
 cases h with
 | sl a cap sz es o b off u hc hz hm ha hsz hD h=>exact .sl a cap sz es _ b off u hc (fun h=>by cases h) hm ha hsz hD h
 | v x=>exact .v x
 | und x=>exact .und x
 | agg vs cs hs h1 h=>exact .agg vs cs hs h1 h
 | tup vs cs hs h=>exact .tup vs cs hs h
 | fn f va vb fs cs h1 h2 h3 h4=>exact .fn f va vb fs cs h1 h2 h3 h4
 | ifc t x p h=>exact .ifc t x p h
 | cp b off cs o u hD h=>exact .cp b off cs o u hD h
theorem Dat.owned {D:Nat->Nat->Prop} {w:World} {x:Value} {es:List (List PV)} {k:Ow} (h:Dat D w x (.sl es k)) (n m:Nat):Dat D w x (.sl es (.r n m)):=by
 cases h with
 | sl a cap sz es o b off u hc hz hm ha hsz hD h=>exact .sl a cap sz es _ b off u hc (fun h=>by cases h) hm ha hsz hD h
theorem PV.sh_own (p:PV):p.sh.own=none:=by cases p<;>rfl
theorem PV.sh_isD (p:PV):p.sh.isD=p.isD:=by cases p<;>rfl
theorem Rel1.strip {D:Nat->Nat->Prop} {ρ:Nat->Nat} {nb:Nat} {w:World} {x:Value} {p:PV} (h:Rel1 D ρ nb w x p):Rel1 D ρ nb w x p.strip:=by
 rcases h with h | ⟨i,o,rfl,hi,rfl⟩
 ·exact .inl h.strip
 ·exact .inr ⟨i,o,rfl,hi,rfl⟩
theorem Rel.strip {D:Nat->Nat->Prop} {ρ:Nat->Nat} {nb:Nat} {w:World} {x:Value} {p:PV} (h:Rel D ρ nb w x p):Rel D ρ nb w x p.strip:=by
 rcases h with h | ⟨f,va,vb,fs,cs,rfl,h⟩
 ·exact .inl h.strip
 ·exact .inr ⟨f,va,vb,fs,cs,rfl,h⟩
def yW (D:Nat->Nat->Prop) (W:Nat->Prop) (w:World) (x:Value):PV->Prop
 | .sl es (.r _ sz)=>(∃ a,x=.slice a 0 0/\es=[])\/∃ g cap cur e,x=.slice (some ⟨g,0,none⟩) es.length cap/\W g/\w.heap[g]? = some (.cells cur e (0,0))/\cur.size=cap * sz/\(∀ e ∈ es,e.length=sz)/\∀ o,es.length * sz<=o->¬ D g o
 | _=>True
theorem zr {D:Nat->Nat->Prop} {W:Nat->Prop} {w:World} {x:Value} {p:PV} (h:p.own=none):yW D W w x p:=by
 cases p<;>try trivial
 rename_i o;cases o<;>first | trivial | cases h
def zc:Value->Option Nat
 | .slice (some a) _ (_+1)=>some a.block
 | _=>Option.none
theorem Dat.restrict {D:Nat->Nat->Prop} {w:World} {x:Value} {p:PV} (h:Dat D w x p):Dat (fun b o=>D b o/\b<w.heap.size) w x p:=by
 induction h with
 | v x=>exact .v x
 | und x=>exact .und x
 | agg vs cs hs h1 _ ih=>exact .agg vs cs hs h1 ih
 | tup vs cs hs _ ih=>exact .tup vs cs hs ih
 | fn f va vb fs cs h1 h2 _ _ ih1 ih2=>exact .fn f va vb fs cs h1 h2 ih1 ih2
 | ifc t x p _ ih=>exact .ifc t x p ih
 | sl a cap sz es o b off u hc hz hm ha hsz hd _ ih=>exact .sl a cap sz es o b off u hc hz hm ha hsz (fun j hj=>⟨⟨(hd j hj).1,World.block_lt_of_cell? w ⟨b,off+j,_⟩ (hd j hj).2.1⟩,(hd j hj).2⟩) ih
 | cp b off cs o u hd _ ih=>exact .cp b off cs o u (fun j hj=>⟨⟨(hd j hj).1,World.block_lt_of_cell? w ⟨b,off+j,_⟩ (hd j hj).2.1⟩,(hd j hj).2⟩) ih
theorem Rel1.restrict {D:Nat->Nat->Prop} {ρ:Nat->Nat} {nb:Nat} {w:World} {x:Value} {p:PV} (h:Rel1 D ρ nb w x p):Rel1 (fun b o=>D b o/\b<w.heap.size) ρ nb w x p:=by
 rcases h with h | h
 ·exact .inl h.restrict
 ·exact .inr h
theorem Rel.restrict {D:Nat->Nat->Prop} {ρ:Nat->Nat} {nb:Nat} {w:World} {x:Value} {p:PV} (h:Rel D ρ nb w x p):Rel (fun b o=>D b o/\b<w.heap.size) ρ nb w x p:=by
 rcases h with h | ⟨f,va,vb,fs,cs,h1,h2,h3,h4,h5,h6⟩
 ·exact .inl h.restrict
 ·exact .inr ⟨f,va,vb,fs,cs,h1,h2,h3,h4,fun i q hq=>(h5 i q hq).restrict,fun i q hq=>(h6 i q hq).restrict⟩
theorem Dat.isD {D:Nat->Nat->Prop} {w:World} {x:Value} {p:PV} (h:Dat D w x p):p.isD=true:=by
 have hB:∀ {x p},Dat D w x p->p.isB=false:=fun h=>by cases h<;>rfl
 cases h<;>try rfl
 rename_i f va vb fs cs h1 h2 h3 h4
 simp only [PV.isD,Bool.and_eq_true,List.all_eq_true,Bool.not_eq_true']
 exact⟨fun p hp=>by obtain⟨i,hi⟩:=List.getElem?_of_mem hp;exact hB (h3 i p hi),fun p hp=>by obtain⟨i,hi⟩:=List.getElem?_of_mem hp;exact hB (h4 i p hi)⟩
theorem Rel1.data {D:Nat->Nat->Prop} {ρ:Nat->Nat} {nb:Nat} {w:World} {x:Value} {p:PV} (h:Rel1 D ρ nb w x p) (hd:p.isB=false):Dat D w x p:=by
 rcases h with h | ⟨i,o,rfl,_⟩
 ·exact h
 ·cases hd
theorem Rel.data {D:Nat->Nat->Prop} {ρ:Nat->Nat} {nb:Nat} {w:World} {x:Value} {p:PV} (h:Rel D ρ nb w x p) (hd:p.isD=true):Dat D w x p:=by
 rcases h with h | ⟨f,va,vb,fs,cs,rfl,rfl,h3,h4,h5,h6⟩
 ·rcases h with h | ⟨i,o,rfl,_⟩
  ·exact h
  ·cases hd
 ·simp only [PV.isD,Bool.and_eq_true,List.all_eq_true,Bool.not_eq_true'] at hd
  exact .fn f va vb fs cs h3 h4 (fun i q hq=>(h5 i q hq).data (hd.1 q (List.mem_of_getElem? hq))) (fun i q hq=>(h6 i q hq).data (hd.2 q (List.mem_of_getElem? hq)))
theorem Rel.v_inv {D:Nat->Nat->Prop} {ρ:Nat->Nat} {nb:Nat} {w:World} {x y:Value} (h:Rel D ρ nb w x (.v y)):x=y:=by
 rcases h with(h | ⟨i,o,h,_⟩) | ⟨f,va,vb,fs,cs,h,_⟩
 ·cases h;rfl
 ·cases h
 ·cases h
def PV.pre (i:Nat):PV->PV
 | .sl es (.r _ _)=>.sl es (.p i)
 | p=>p.strip
theorem PV.pre_or (i:Nat) (p:PV):p.pre i=p.strip\/∃ es n m,p=.sl es (.r n m)/\p.pre i=.sl es (.p i):=by
 cases p<;>try exact .inl rfl
 rename_i es o;cases o<;>first | exact .inl rfl | exact .inr ⟨_,_,_,rfl,rfl⟩
def PV.clean:PV->PV
 | .sl es (.n _)=>.sl es .sh
 | .sl es (.p _)=>.sl es .sh
 | p=>p
theorem PV.clean_or (p:PV):p.clean=p.strip\/p.clean=p:=by
 cases p<;>try exact .inr rfl
 rename_i es o;cases o<;>first | exact .inl rfl | exact .inr rfl
theorem PV.clean_isN (p:PV):p.clean.isN=false:=by
 cases p<;>try rfl
 rename_i es o;cases o<;>rfl
end Go.Proofs.YtonhfknjcbakiaaGreatDoor
namespace Go.Proofs.YtonhfknjcbakiaaGreatDoor.As
open Go.RowKit Go.Extern.Stop Go.Stop Go.Extern
theorem methodKind (h:Value) (w:World):(Go.method 411 217 (.agg #[h]) "Kind").run Tryz.prog w=.ok (252,h) w:=by kernel_rfl
theorem methodElem (h:Value) (w:World):(Go.method 411 217 (.agg #[h]) "Elem").run Tryz.prog w=.ok (265,.agg #[h]) w:=by kernel_rfl
theorem methodImplements (h:Value) (w:World):(Go.method 411 217 (.agg #[h]) "Implements").run Tryz.prog w=.ok (266,.agg #[h]) w:=by kernel_rfl
theorem methodAssignableTo (h:Value) (w:World):(Go.method 411 217 (.agg #[h]) "AssignableTo").run Tryz.prog w=.ok (263,.agg #[h]) w:=by kernel_rfl
theorem methodUnwrap (c k:Int) (w:World):(Go.method 411 120 (.agg #[.int .i64 c,.int .i64 k]) "Unwrap").run Tryz.prog w=.ok (256,.agg #[.int .i64 c,.int .i64 k]) w:=by kernel_rfl
theorem rlm (z:Sem Value) (f:TypeId->Addr->Nat->Nat->Sem Value) (v:Value) :
 ReflectliteValue.method z f #[v]=(do match <-ReflectliteValue.parts v with | none=>z | some (t,a,fl)=>f t a fl (fl % 32)):=rfl
theorem rls (v x:Value):ReflectliteValue.set #[v,x]=(do
 let (some (dst,a,fl),some (src,b,_)):=(<-ReflectliteValue.parts v,<-ReflectliteValue.parts x)
  | unsupported (.noEntry "extern/(internal/reflectlite.Value).Set.zeroValue")
 if fl / ReflectliteValue.flagAddr % 2 == 0 then unsupported (.noEntry "extern/(internal/reflectlite.Value).Set.unaddressable")
 let val <-loadVar src b
 if <-Rtype.directlyAssignable dst src then storeVar dst a val
 else if <-Rtype.implements dst src then
  if (<-Rtype.kind src) == 20 then
   match val with
   | .nilIface=>unsupported (.noEntry "extern/reflectlite: a nil value of one interface type handed on as a value of another")
   | _=>storeVar dst a val
  else storeVar dst a (.iface src val)
 else panicString ("reflectlite.Set: value of type " ++ (<-Rtype.spelt src) ++ " is not assignable to type " ++ (<-Rtype.spelt dst))
 pure (.tuple #[])):=rfl
theorem valueOfNp (t:Addr) (w:World):(ReflectliteValue.unpack (.iface 127 (.pointer (some t)))).run Tryz.prog w
 = .ok (.agg #[.pointer (some ⟨2,127,none⟩),.pointer (some ⟨w.heap.size,0,none⟩),.int .u64 150]) (w.alloc (.cells #[.pointer (some t)] 127)):=by kernel_rfl
theorem typeNp (a:Addr) (w:World):(ReflectliteValue.methodAny (ReflectliteValue.valueError "reflectlite.Value.Type" 0) (fun t _ _ _=>ReflectliteType.toType t) #[.agg #[.pointer (some ⟨2,127,none⟩),.pointer (some a),.int .u64 150]]).run Tryz.prog w
 = .ok (.iface 217 (.agg #[.pointer (some ⟨2,127,none⟩)])) w:=by kernel_rfl
theorem kindNp (w:World):((ReflectliteType.abiMethod fun t=>(fun a:Nat=>Value.int IntKind.u8 (a:Int)) <$> Rtype.kind t) #[.pointer (some ⟨2,127,none⟩)]).run Tryz.prog w=.ok (.int .u8 22) w:=by kernel_rfl
theorem kindN (w:World):((ReflectliteType.abiMethod fun t=>(fun a:Nat=>Value.int IntKind.u8 (a:Int)) <$> Rtype.kind t) #[.pointer (some ⟨2,82,none⟩)]).run Tryz.prog w=.ok (.int .u8 2) w:=by kernel_rfl
theorem partsNp (a:Addr) (w:World):(ReflectliteValue.parts (.agg #[.pointer (some ⟨2,127,none⟩),.pointer (some a),.int .u64 150])).run Tryz.prog w=.ok (some (127,a,150)) w:=by kernel_rfl
theorem isNilNp (a p:Addr) (W:World) (ha:W.cell? a=some (.pointer (some p))) :
 (ReflectliteValue.method (ReflectliteValue.valueError "reflectlite.Value.IsNil" 0) ReflectliteValue.isNil #[.agg #[.pointer (some ⟨2,127,none⟩),.pointer (some a),.int .u64 150]]).run Tryz.prog W=.ok (.bool false) W:=by
 rw [rlm]
 simp only [Sem.run_bind,partsNp,Result.andThen]
 simp [ReflectliteValue.isNil,loadVar,isAgg,underlying,Tryz.underlying127,ha,Result.andThen]
theorem elemNp (w:World):(ReflectliteType.method ReflectliteType.elem #[.agg #[.pointer (some ⟨2,127,none⟩)]]).run Tryz.prog w=.ok (.iface 217 (.agg #[.pointer (some ⟨2,82,none⟩)])) w:=by kernel_rfl
theorem implementsN (w:World):(ReflectliteType.relation "Implements" ReflectliteType.implements_ #[.agg #[.pointer (some ⟨2,82,none⟩)],.iface 217 (.agg #[.pointer (some ⟨2,44,none⟩)])]).run Tryz.prog w=.ok (.bool true) w:=by kernel_rfl
theorem typeOfN (v:Value) (w:World):(ReflectliteType.typeOf #[.iface 82 v]).run Tryz.prog w=.ok (.iface 217 (.agg #[.pointer (some ⟨2,82,none⟩)])) w:=by kernel_rfl
theorem assignableN (w:World):(ReflectliteType.relation "AssignableTo" ReflectliteType.assignableTo #[.agg #[.pointer (some ⟨2,82,none⟩)],.iface 217 (.agg #[.pointer (some ⟨2,82,none⟩)])]).run Tryz.prog w=.ok (.bool true) w:=by kernel_rfl
theorem valueOfN (c:Int) (w:World):(ReflectliteValue.unpack (.iface 82 (.int .i64 c))).run Tryz.prog w
 = .ok (.agg #[.pointer (some ⟨2,82,none⟩),.pointer (some ⟨w.heap.size,0,none⟩),.int .u64 130]) (w.alloc (.cells #[.int .i64 c] 82)):=by kernel_rfl
theorem elemOfNp (w:World):(Rtype.elem? 127).run Tryz.prog w=.ok (some 82) w:=by kernel_rfl
theorem mkN (p:Addr) (w:World):(ReflectliteValue.mk 82 p ReflectliteValue.flagAddr).run Tryz.prog w=.ok (.agg #[.pointer (some ⟨2,82,none⟩),.pointer (some p),.int .u64 386]) w:=by kernel_rfl
theorem elemVNp (a p:Addr) (W:World) (ha:W.cell? a=some (.pointer (some p))) :
 (ReflectliteValue.method (ReflectliteValue.valueError "reflectlite.Value.Elem" 0) ReflectliteValue.elem #[.agg #[.pointer (some ⟨2,127,none⟩),.pointer (some a),.int .u64 150]]).run Tryz.prog W
   = .ok (.agg #[.pointer (some ⟨2,82,none⟩),.pointer (some p),.int .u64 386]) W:=by
 rw [rlm]
 simp only [Sem.run_bind,partsNp,Result.andThen]
 simp [ReflectliteValue.elem,loadVar,isAgg,underlying,Tryz.underlying127,ha,Result.andThen,elemOfNp,mkN]
theorem partsNa (a:Addr) (w:World):(ReflectliteValue.parts (.agg #[.pointer (some ⟨2,82,none⟩),.pointer (some a),.int .u64 386])).run Tryz.prog w=.ok (some (82,a,386)) w:=by kernel_rfl
theorem partsN (a:Addr) (w:World):(ReflectliteValue.parts (.agg #[.pointer (some ⟨2,82,none⟩),.pointer (some a),.int .u64 130])).run Tryz.prog w=.ok (some (82,a,130)) w:=by kernel_rfl
theorem directN (w:World):(Rtype.directlyAssignable 82 82).run Tryz.prog w=.ok true w:=by kernel_rfl
theorem typeOfF (v:Value) (w:World):(ReflectliteType.typeOf #[.iface 120 v]).run Tryz.prog w=.ok (.iface 217 (.agg #[.pointer (some ⟨2,120,none⟩)])) w:=by kernel_rfl
theorem assignableFN (w:World):(ReflectliteType.relation "AssignableTo" ReflectliteType.assignableTo #[.agg #[.pointer (some ⟨2,120,none⟩)],.iface 217 (.agg #[.pointer (some ⟨2,82,none⟩)])]).run Tryz.prog w=.ok (.bool false) w:=by kernel_rfl
theorem setN (ta b:Addr) (c:Int) (old:Value) (W:World) (hb:W.cell? b=some (.int .i64 c)) (ht:W.cell? ta=some old) (hf:W.frozen? ta=false) :
 (ReflectliteValue.set #[.agg #[.pointer (some ⟨2,82,none⟩),.pointer (some ta),.int .u64 386],.agg #[.pointer (some ⟨2,82,none⟩),.pointer (some b),.int .u64 130]]).run Tryz.prog W
   = .ok (.tuple #[]) (W.setCell ta (.int .i64 c)):=by
 rw [rls]
 simp only [Sem.run_bind,partsNa,partsN,Result.andThen]
 simp [ReflectliteValue.flagAddr,loadVar,isAgg,underlying,Tryz.underlying82,hb,Result.andThen,directN,storeVar,Value.cells,storeCells,Addr.add]
 rw [run_store Tryz.prog W ta _ _ (by rfl)]
 simp [ht,hf]
abbrev Ext (f:FuncId) (e:Array Value->Sem Value):Prop:=∀(args:Array Value) (w:World),(callFunc f args).run Tryz.prog w=((e args).run Tryz.prog w).andThen fun v w'=>.ok (.value v) w'
theorem xt0:Ext 140 (fun args=>ReflectliteValue.unpack (args.getD 0 (.tuple #[]))):=run_callFunc_extern Tryz.func140 (by kernel_rfl) (by kernel_rfl) (by kernel_rfl) (by kernel_rfl)
theorem xt1:Ext 141 (ReflectliteValue.methodAny (ReflectliteValue.valueError "reflectlite.Value.Type" 0) (fun t _ _ _=>ReflectliteType.toType t)):=run_callFunc_extern Tryz.func141 (by kernel_rfl) (by kernel_rfl) (by kernel_rfl) (by kernel_rfl)
theorem xt2:Ext 142 (ReflectliteValue.method (ReflectliteValue.valueError "reflectlite.Value.IsNil" 0) ReflectliteValue.isNil):=run_callFunc_extern Tryz.func142 (by kernel_rfl) (by kernel_rfl) (by kernel_rfl) (by kernel_rfl)
theorem xt3:Ext 252 (ReflectliteType.abiMethod fun t=>do pure (.int .u8 (<-Rtype.kind t))):=run_callFunc_extern Tryz.func252 (by kernel_rfl) (by kernel_rfl) (by kernel_rfl) (by kernel_rfl)
theorem xt4:Ext 265 (ReflectliteType.method ReflectliteType.elem):=run_callFunc_extern Tryz.func265 (by kernel_rfl) (by kernel_rfl) (by kernel_rfl) (by kernel_rfl)
theorem xt5:Ext 266 (ReflectliteType.relation "Implements" ReflectliteType.implements_):=run_callFunc_extern Tryz.func266 (by kernel_rfl) (by kernel_rfl) (by kernel_rfl) (by kernel_rfl)
theorem xt6:Ext 138 ReflectliteType.typeOf:=run_callFunc_extern Tryz.func138 (by kernel_rfl) (by kernel_rfl) (by kernel_rfl) (by kernel_rfl)
theorem xt7:Ext 263 (ReflectliteType.relation "AssignableTo" ReflectliteType.assignableTo):=run_callFunc_extern Tryz.func263 (by kernel_rfl) (by kernel_rfl) (by kernel_rfl) (by kernel_rfl)
theorem xt8:Ext 174 (ReflectliteValue.method (ReflectliteValue.valueError "reflectlite.Value.Elem" 0) ReflectliteValue.elem):=run_callFunc_extern Tryz.func174 (by kernel_rfl) (by kernel_rfl) (by kernel_rfl) (by kernel_rfl)
theorem xt9:Ext 175 ReflectliteValue.set:=run_callFunc_extern Tryz.func175 (by kernel_rfl) (by kernel_rfl) (by kernel_rfl) (by kernel_rfl)
end Go.Proofs.YtonhfknjcbakiaaGreatDoor.As
namespace Go.Proofs.YtonhfknjcbakiaaGreatDoor
open Go.RowKit
def RdSl {α:Type} (sz:Nat) (rd:World->Nat->Nat->α->Prop) (lo hi:Nat) (w:World) (v:Value) (l:List α):Prop:=
 ∃ a cap,v=.slice a l.length cap/\l.length<=cap/\cap<=maxLen/\(l≠[]->∃ b off,a=some ⟨b,off,none⟩/\lo<=b/\b<hi/\∀ i (h:i<l.length),rd w b (off+i * sz) l[i])
theorem RdSl.keep {α:Type} {sz:Nat} {rd rd':World->Nat->Nat->α->Prop} {lo hi lo' hi':Nat} {w w':World} {v:Value} {l:List α} (h:RdSl sz rd lo hi w v l)
 (hl:lo'<=lo) (hh:hi<=hi') (hr:∀ b o x,lo<=b->b<hi->rd w b o x->rd' w' b o x):RdSl sz rd' lo' hi' w' v l:=by
 obtain⟨a,cap,hv,h1,h2,h3⟩:=h
 refine⟨a,cap,hv,h1,h2,fun hne=>?_⟩
 obtain⟨b,off,ha,hb1,hb2,hc⟩:=h3 hne
 exact⟨b,off,ha,by omega,by omega,fun i hi=>hr _ _ _ hb1 hb2 (hc i hi)⟩
theorem RdSl.nil {α:Type} {sz:Nat} {rd:World->Nat->Nat->α->Prop} {lo hi:Nat} {w:World} (a:Option Addr) (cap:Nat) (h:cap<=maxLen):RdSl sz rd lo hi w (.slice a 0 cap) []:=
 ⟨a,cap,rfl,Nat.zero_le _,h,fun h=>absurd rfl h⟩
theorem RdSl.len {α:Type} {sz:Nat} {rd:World->Nat->Nat->α->Prop} {lo hi:Nat} {w:World} {v:Value} {l:List α} (h:RdSl sz rd lo hi w v l):l.length<=maxLen:=by
 obtain⟨a,cap,hv,h1,h2,h3⟩:=h;omega
def rdIv (w:World) (b o:Nat) (s:Iv):Prop:=
 w.cell? ⟨b,o,none⟩=some (.int .u64 s.lo)/\w.cell? ⟨b,o+1,none⟩=some (.int .u64 s.hi)/\s.lo<zk/\s.hi<zk
theorem rdIv.keep {w w':World} {b o:Nat} {s:Iv} (h:rdIv w b o s) (hb:w'.heap[b]? = w.heap[b]?):rdIv w' b o s:=
 ⟨(World.cell?_of_block (a:=⟨b,o,none⟩) hb).trans h.1,(World.cell?_of_block (a:=⟨b,o+1,none⟩) hb).trans h.2.1,h.2.2⟩
def RdR (lo hi:Nat) (w:World) (v:Value) (l:List Iv):Prop:=RdSl 2 rdIv lo hi w v l
theorem RdR.keep {lo hi lo' hi':Nat} {w w':World} {v:Value} {l:List Iv} (h:RdR lo hi w v l) (hl:lo'<=lo) (hh:hi<=hi') (hb:∀ b,lo<=b->b<hi->w'.heap[b]? = w.heap[b]?):RdR lo' hi' w' v l:=
 RdSl.keep h hl hh fun b _ _ h1 h2 hx=>hx.keep (hb b h1 h2)
theorem RdR.below {hi n:Nat} {w w':World} {v:Value} {l:List Iv} (h:RdR 0 hi w v l) (hb:Below n w w') (hn:hi<=n):RdR 0 hi w' v l:=
 h.keep (Nat.le_refl _) (Nat.le_refl _) fun b _ h2=>hb.block b (by omega)
theorem RdR.bound {lo hi:Nat} {w:World} {v:Value} {l:List Iv} (h:RdR lo hi w v l):∀ s ∈ l,s.lo<zk/\s.hi<zk:=by
 obtain⟨a,cap,hv,h1,h2,h3⟩:=h
 intro s hs
 obtain⟨i,hi,rfl⟩:=List.getElem_of_mem hs
 obtain⟨b,off,_,_,_,hc⟩:=h3 (by intro e;subst e;simp at hi)
 exact(hc i hi).2.2
def xw (l:List Iv):List Value:=l.flatMap fun s=>[.int .u64 s.lo,.int .u64 s.hi]
theorem y6 (l:List Iv):(xw l).length=l.length * 2:=by
 induction l with
 | nil=>rfl
 | cons s l ih=>simp [xw] at ih ⊢;omega
theorem vy (l k:List Iv):xw (l++k)=xw l++xw k:=by simp [xw]
theorem vz (l:List Iv):∀(i:Nat) (h:i<l.length),(xw l)[i * 2]? = some (.int .u64 l[i].lo)/\(xw l)[i * 2+1]? = some (.int .u64 l[i].hi):=by
 induction l with
 | nil=>intro i h;simp at h
 | cons s l ih=>
   intro i h
   cases i with
   | zero=>simp [xw]
   | succ i=>
     have:=ih i (by simpa using h)
     have e:xw (s::l)=.int .u64 s.lo::.int .u64 s.hi::xw l:=rfl
     rw [e,show (i+1) * 2=i * 2+1+1 from by omega]
     simpa using this
def OwnR (base:Nat) (w:World) (v:Value) (l:List Iv):Prop:=w.ownsRow base 36 2 v l.length (xw l)/\∀ s ∈ l,s.lo<zk/\s.hi<zk
theorem OwnR.rd {base:Nat} {w:World} {v:Value} {l:List Iv} (h:OwnR base w v l):RdR base w.heap.size w v l:=by
 obtain⟨⟨h1,h2⟩,hb⟩:=h
 rcases h2 with⟨rfl,h0⟩ | ⟨g,cap,cur,rfl,hg,hh,hn,hc,hs,ht⟩
 ·obtain rfl:l=[]:=List.eq_nil_of_length_eq_zero h0
  exact RdSl.nil _ _ (by decide)
 ·refine⟨_,cap,rfl,hn,hc,fun _=>⟨g,0,rfl,hg,(Array.getElem?_eq_some_iff.1 hh).1,fun i hi=>?_⟩⟩
  have hf:=vz l i hi
  rw [<-ht,List.getElem?_take,List.getElem?_take,if_pos (by omega),if_pos (by omega)] at hf
  refine⟨?_,?_,hb _ (List.getElem_mem hi)⟩
  ·simp only [World.cell?,hh];simpa using hf.1
  ·simp only [World.cell?,hh];simpa using hf.2
theorem OwnR.nil (base:Nat) (w:World):OwnR base w (.slice none 0 0) []:=⟨World.ownsRow_nil _ _ _ _,fun _ h=>by cases h⟩
theorem OwnR.val {base:Nat} {w:World} {v:Value} {l:List Iv} (h:OwnR base w v l):∃ a cap,v=.slice a l.length cap:=by
 obtain⟨a,cap,e,_⟩:=h.rd;exact⟨a,cap,e⟩
theorem OwnR.below {base n:Nat} {w w':World} {v:Value} {l:List Iv} (h:OwnR base w v l) (hb:Below n w w') (hn:w.heap.size<=n):OwnR base w' v l:=
 ⟨(Keep.of_below' (S:=fun _=>False) hb hn).ownsRow h.1 fun _ _=>id,h.2⟩
theorem OwnR.keep {base:Nat} {S:Nat->Prop} {w w':World} {v:Value} {l:List Iv} (h:OwnR base w v l) (hb:Keep S w w') (hs:∀ g,base<=g->¬ S g):OwnR base w' v l:=
 ⟨hb.ownsRow h.1 fun g hg=>hs g ((h.1.lt g hg).1),h.2⟩
theorem OwnR.mono {base base':Nat} {w:World} {v:Value} {l:List Iv} (h:OwnR base w v l) (hb:base'<=base):OwnR base' w v l:=by
 refine⟨⟨h.1.1,?_⟩,h.2⟩
 rcases h.1.2 with hn | ⟨g,cap,cur,hv,hg,r⟩
 ·exact .inl hn
 ·exact .inr ⟨g,cap,cur,hv,by omega,r⟩
theorem qO {W w1:World} {n₀ B:Nat} {t e:TypeId} {size:Nat} {v v':Value} {k m:Nat} {xs ys:List Value} {tmp:Obj}
 (hv:Boxed W B t v) (hte:t≠e) (hrow:W.ownsRow n₀ e size v k xs) (hown':w1.ownsRow n₀ e size v' m ys) (hgrow:(W.alloc tmp).grownBy w1 v.ownBlock) :
 Boxed w1 B t v/\Boxed (w1.setCell ⟨B,0,none⟩ v') B t v'/\(w1.setCell ⟨B,0,none⟩ v').ownsRow n₀ e size v' m ys/\Keep (fun k=>k=B\/n₀<=k) W (w1.setCell ⟨B,0,none⟩ v'):=by
 have hv1:Boxed w1 B t v:=(hv.alloc tmp).kept hgrow (hv.not_row hte hrow)
 refine⟨hv1,hv1.set v',hown'.kept (grownBy_setCell' w1 B v') (.inr (hv1.not_row hte hown').symm),?_⟩
 refine Keep.setCell (p:=⟨B,0,none⟩) ?_ (fun _=>.inl rfl) _
 exact((Keep.refl _ W).alloc tmp).grown hgrow fun j ej _=>.inr ((hrow.lt j ej).1)
theorem kw {w:World} {B:Nat} {cs:Array Value} {t:TypeId} {fr:Nat × Nat} (hb:w.heap[B]? = some (.cells cs t fr)):∀ j u,cs.toList[j]? = some u->w.cell? ((⟨B,0,none⟩:Addr).add j)=some u:=fun j u hu=>by
 have hadd:(⟨B,0,none⟩:Addr).add j=⟨B,j,none⟩:=by unfold Addr.add;split<;>simp_all
 rw [hadd]
 simp only [World.cell?,hb]
 simpa using hu
theorem OwnR.snoc {base:Nat} {w w':World} {v v':Value} {l:List Iv} {s:Iv} (h:OwnR base w v l) (hs:s.lo<zk/\s.hi<zk)
 (ho:w'.ownsRow base 36 2 v' (l.length+1) (xw l++[.int .u64 s.lo,.int .u64 s.hi])):OwnR base w' v' (l++[s]):=by
 refine⟨?_,fun t ht=>?_⟩
 ·rw [vy,List.length_append];exact ho
 ·simp at ht;rcases ht with ht | rfl
  ·exact h.2 t ht
  ·exact hs
theorem Tryz.infoIv:(Tryz.prog.info? 36).map (fun i=>(i.zero,i.size,i.bytes))=some (some (Value.agg #[.int .u64 0,.int .u64 0]),2,16):=by kernel_rfl
theorem ZR {x:Nat} (h:x<zk):IntKind.u64.wrap (x:Int)=x:=by
 rw [zw] at h
 simp [IntKind.wrap,IntKind.bits,IntKind.signed]<;>omega
end Go.Proofs.YtonhfknjcbakiaaGreatDoor
namespace Go.Proofs.YtonhfknjcbakiaaGreatDoor
open Go.ChangeShapes Go.WideShapes Go.RowKit
theorem zcR {P:Program} {f:FuncId} {fn:Func} {s:ChangeSpec} {c:OpenClaim}
 (h0:(c.wf (OpenSpec.ofChange s))=true)
 (h1:(laidOutB P)=true)
 (h2:(mapsRowed P)=true)
 (h3:(fn.params.all (P.readableRec ·))=true)
 (h4:(namedTie P c.named s.vars)=true)
 (h5:((c.stops == []))=true)
 (h6:((P.stops == []))=true)
 (h7:((c.knobs == []))=true)
 (h8:((P.stopKnobs == []))=true)
 (h9:((c.inPlace == P.inPlace f))=true)
 (h10:((c.unfollowed == P.unfollowed f))=true)
 (h11:((c.recurses == P.recurses f))=true)
 (h12:((c.named == P.varsNamed f))=true)
 (h13:((c.maps == (fn.params.toList++s.plain.varTypes P).any (P.mapsRec ·)))=true)
 (h14:((c.ifaces == (fn.params.toList++s.plain.varTypes P).any (P.ifacesRec ·)))=true)
 (h15:((c.mapsOut == P.mapsAmong fn.resultTypes.toList))=true)
 (h16:((c.loops == (fn.params.toList++s.plain.varTypes P).any (P.loopsFrom ·)))=true)
 (h17:((c.wideKeys == (fn.params.toList++s.plain.varTypes P++fn.resultTypes.toList).any (P.wideKeysFrom ·)))=true)
 (h18:(s.vars.all (P.varReadable ·))=true)
 (h19:(fn.resultTypes.all (fun t=>P.readableRec t && decide (t<P.types.size)))=true)
 (h20:((c.ifacesOut == fn.resultTypes.toList.any (P.ifacesRec ·)))=true)
 (h21:((c.loopsOut == fn.resultTypes.toList.any (P.loopsFrom ·)))=true)
 (h22:((c.plainKeys == P.plainKeys))=true)
 (h23:(c.shortTexts.isNone)=true)
 (h24:(P.stopsHeard)=true)
 (h25:(P.mayEnter)=true)
 (h26:((c.lifted == P.liftsFinal))=true)
 (h27:((P.make == some c.make))=true)
 (h28:((c.kinds == (if c.domain.isEmpty then [] else fn.params.toList.map fun t=>match P.underlying t with | some (.int k)=>some k | _=>none)))=true)
 (h29:((c.pinned == c.pinnedBy))=true)
 (h30:((c.veiled == (fn.params.toList++s.plain.varTypes P++fn.resultTypes.toList).any (P.veiledRec ·)))=true)
 (h31:(c.veiledFits P fn.params.toList (fn.params.toList++s.plain.varTypes P++fn.resultTypes.toList))=true) :
 joinedFacts P f fn s c=true:=by
 unfold joinedFacts
 simp only [Bool.and_eq_true]
 exact⟨⟨⟨⟨⟨⟨⟨⟨⟨⟨⟨⟨⟨⟨⟨⟨⟨⟨⟨⟨⟨⟨⟨⟨⟨⟨⟨⟨⟨⟨⟨h0,h1⟩,h2⟩,h3⟩,h4⟩,h5⟩,h6⟩,h7⟩,h8⟩,h9⟩,h10⟩,h11⟩,h12⟩,h13⟩,h14⟩,h15⟩,h16⟩,h17⟩,h18⟩,h19⟩,h20⟩,h21⟩,h22⟩,h23⟩,h24⟩,h25⟩,h26⟩,h27⟩,h28⟩,h29⟩,h30⟩,h31⟩
end Go.Proofs.YtonhfknjcbakiaaGreatDoor
namespace Go.Proofs.YtonhfknjcbakiaaGreatDoor
open Go.RowKit
structure PS where
 t:List (Nat × PV)
 b:List (List PV)
def yr:List (Nat × PV)->Nat->PV
 | [],_=>.und
 | (j,p)::r,i=>if j=i then p else yr r i
def PS.get (s:PS) (i:Nat):PV:=yr s.t i
def PS.put (s:PS) (d:Option Nat) (p:PV):PS:=match d with | some d=>⟨(d,p)::s.t,s.b⟩ | none=>s
structure Gh where
 D:Nat->Nat->Prop
 ρ:Nat->Nat
structure Bs where
 w0:World
 D0:Nat->Nat->Prop
 Sb:Nat->Prop
 gl:GL D0 w0
 df:List Deferred
def Bs.W (B:Bs) (k:Nat):Prop:=B.w0.heap.size<=k\/B.Sb k
structure Fr (B:Bs) (D:Nat->Nat->Prop) (w:World):Prop where
 os:w.os=B.w0.os
 tape:w.tape=B.w0.tape
 output:w.output=B.w0.output
 size:B.w0.heap.size<=w.heap.size
 block:∀ k,k<B.w0.heap.size->¬ B.Sb k->w.heap[k]? = B.w0.heap[k]?
 d0:∀ b o,B.D0 b o->D b o
 cell:∀ b o x,B.D0 b o->B.w0.cell? ⟨b,o,none⟩=some x->w.cell? ⟨b,o,none⟩=some x
 new:∀ b o,D b o->B.D0 b o\/B.W b
 d0lt:∀ b o,B.D0 b o->b<B.w0.heap.size
def zaA (g:Gh) (nb:Nat) (w:World) (i:Nat) (cs:List PV):Prop:=
 ∃ vs e,w.heap[g.ρ i]? = some (.cells vs e (0,0))/\vs.size=cs.length/\∀(j:Nat) (p:PV),cs[j]? = some p->Rel g.D g.ρ nb w (vs.getD j undef) p/\(vs.getD j undef).oneCell'=true
def zQ (g:Gh) (s:PS) (x:Nat->Value) (w:World) (u:Value) (p:PV):Prop:=
 (∃ t,u=x t/\p=s.get t)\/(∃(i j:Nat) (cs:List PV),s.b[i]? = some cs/\cs[j]? = some p/\w.cell? ⟨g.ρ i,j,none⟩=some u)
structure R (B:Bs) (g:Gh) (s:PS) (x:Nat->Value) (w:World):Prop where
 slots:∀ t,Rel g.D g.ρ s.b.length w (x t) (s.get t)
 boxes:∀(i:Nat) cs,s.b[i]? = some cs->B.W (g.ρ i)/\zaA g s.b.length w i cs
 inj:∀ i j,i<s.b.length->j<s.b.length->g.ρ i=g.ρ j->i=j
 owns:∀ u p,zQ g s x w u p->yW g.D B.W w u p
 disj:∀ u p u' p' b,zQ g s x w u p->zQ g s x w u' p'->p.own≠none->p'.own≠none->zc u=some b->zc u'=some b->p.own=p'.own
 ownbox:∀ u p b i,zQ g s x w u p->p.own≠none->zc u=some b->i<s.b.length->g.ρ i≠b
 dlt:∀ b o,g.D b o->b<w.heap.size
 dbox:∀ i,i<s.b.length->∀ o,¬ g.D (g.ρ i) o
 fr:Fr B g.D w
theorem qa {n:Nat} {w w':World} (h:Below n w w') {b o:Nat} {x:Value} (hb:b<n) (hx:w.cell? ⟨b,o,none⟩=some x):w'.cell? ⟨b,o,none⟩=some x:=(h.cell (p:=⟨b,o,none⟩) hb).trans hx
theorem qF {w:World} {b o:Nat} {x:Value} (hx:w.cell? ⟨b,o,none⟩=some x):b<w.heap.size:=World.block_lt_of_cell? w ⟨b,o,none⟩ hx
def QO (x:Nat->Value) (d:Option Nat) (u:Value):Nat->Value:=fun t=>if d=some t then u else x t
theorem kN (x:Nat->Value) (d:Nat) (u:Value):QO x (some d) u d=u:=by simp [QO]
theorem QP (x:Nat->Value) {d t:Nat} (u:Value) (h:d≠t):QO x (some d) u t=x t:=by simp [QO,h]
theorem zF (s:PS) (d:Nat) (p:PV):(s.put (some d) p).get d=p:=by simp [PS.put,PS.get,yr]
theorem zV (s:PS) {d t:Nat} (p:PV) (h:d≠t):(s.put (some d) p).get t=s.get t:=by simp [PS.put,PS.get,yr,h]
variable {B:Bs} {g:Gh} {s:PS} {x:Nat->Value} {w w':World}
theorem R.gl (h:R B g s x w):GL g.D w:=B.gl.mono h.fr.d0 h.fr.cell
theorem R.slot (h:R B g s x w) (t:Nat):zQ g s x w (x t) (s.get t):=.inl ⟨t,rfl,rfl⟩
theorem R.ρlt (h:R B g s x w) {i:Nat} (hi:i<s.b.length):g.ρ i<w.heap.size:=by
 obtain⟨_,vs,e,hv,_⟩:=h.boxes i _ (List.getElem?_eq_getElem hi)
 exact(Array.getElem?_eq_some_iff.1 hv).1
theorem zX {D:Nat->Nat->Prop} {W:Nat->Prop} {u:Value} {p:PV} {b:Nat} (h:yW D W w u p) (ho:p.own≠none) (hb:zc u=some b):b<w.heap.size/\W b:=by
 cases p<;>try exact absurd rfl ho
 rename_i o
 cases o<;>try exact absurd rfl ho
 rcases h with⟨a,rfl,_⟩ | ⟨gg,cap,cur,e,rfl,hW,hh,_⟩
 ·cases a<;>cases hb
 ·obtain rfl:gg=b:=by cases cap<;>simp [zc] at hb;exact hb
  exact⟨(Array.getElem?_eq_some_iff.1 hh).1,hW⟩
theorem QH {D:Nat->Nat->Prop} {ρ:Nat->Nat} {nb:Nat} {a:Option Addr} {n cap:Nat} {es:List (List PV)} {o:Ow} (h:Rel D ρ nb w (.slice a n cap) (.sl es o)):n<=cap/\n=es.length/\cap<=maxLen:=by
 rcases h with(h | ⟨i,o,h,_⟩) | ⟨f,va,vb,fs,cs,h,_⟩
 ·cases h with
  | sl a cap sz es o b off u hc hz hm ha hsz hD h=>exact⟨hc,rfl,hm⟩
 ·cases h
 ·cases h
theorem R.slot_rel (h:R B g s x w) {u:Value} {p:PV} (hs:zQ g s x w u p):Rel g.D g.ρ s.b.length w u p:=by
 rcases hs with⟨t,rfl,rfl⟩ | ⟨i,j,cs,h4,h5,h6⟩
 ·exact h.slots t
 ·obtain⟨_,vs,e,hv,hsz,hr⟩:=h.boxes i cs h4
  have:=(hr j p h5).1
  simp only [World.cell?,hv] at h6
  simp only [Option.isSome_none,Bool.false_eq_true,if_false] at h6
  rw [Array.getD_eq_getD_getElem?,h6] at this
  exact this
def OwnNew (B:Bs) (g:Gh) (s:PS) (x:Nat->Value) (w:World) (u:Value) (p:PV):Prop:=
 p.own≠none->yW g.D B.W w u p/\(∀ v q b,zQ g s x w v q->q.own≠none->zc v=some b->zc u=some b->q.own=p.own)/\(∀ b i,zc u=some b->i<s.b.length->g.ρ i≠b)
theorem OwnNew.none {u:Value} {p:PV} (h:p.own=none):OwnNew B g s x w u p:=fun h'=>absurd h h'
theorem R.ownNew (h:R B g s x w) {u:Value} {p:PV} (hs:zQ g s x w u p):OwnNew B g s x w u p:=fun ho=>
 ⟨h.owns _ _ hs,fun v q b k1 k2 k3 k4=>h.disj _ _ _ _ b k1 hs k2 ho k3 k4,fun b i k1 k2=>h.ownbox _ _ b i hs ho k1 k2⟩
theorem R.put (h:R B g s x w) (d:Option Nat) {u:Value} {p:PV} (hr:Rel g.D g.ρ s.b.length w u p) (ho:OwnNew B g s x w u p) :
 R B g (s.put d p) (QO x d u) w:=by
 cases d with
 | none=>
   have:QO x none u=x:=by funext t;simp [QO]
   rw [this];exact h
 | some d=>
 have hs:∀ v q,zQ g (s.put (some d) p) (QO x (some d) u) w v q->(v=u/\q=p)\/zQ g s x w v q:=by
  rintro v q (⟨t,rfl,rfl⟩ | hb)
  ·by_cases e:d=t
   ·subst e;exact .inl ⟨kN _ _ _,zF _ _ _⟩
   ·exact .inr (.inl ⟨t,QP _ _ e,zV _ _ e⟩)
  ·exact .inr (.inr hb)
 refine⟨?_,h.boxes,h.inj,?_,?_,?_,h.dlt,h.dbox,h.fr⟩
 ·intro t
  by_cases e:d=t
  ·subst e;rw [kN,zF];exact hr
  ·rw [QP _ _ e,zV _ _ e];exact h.slots t
 ·intro v q hv
  by_cases hq:q.own=none
  ·exact zr hq
  ·rcases hs v q hv with⟨rfl,rfl⟩ | hv
   ·exact(ho hq).1
   ·exact h.owns _ _ hv
 ·intro v q v' q' b h1 h2 o1 o2 b1 b2
  rcases hs v q h1 with⟨rfl,rfl⟩ | k1<;>rcases hs v' q' h2 with⟨rfl,rfl⟩ | k2
  ·rfl
  ·exact((ho o1).2.1 v' q' b k2 o2 b2 b1).symm
  ·exact(ho o2).2.1 v q b k1 o1 b1 b2
  ·exact h.disj _ _ _ _ b k1 k2 o1 o2 b1 b2
 ·intro v q b i hv o1 b1 hi
  rcases hs v q hv with⟨rfl,rfl⟩ | hv
  ·exact(ho o1).2.2 b i b1 hi
  ·exact h.ownbox _ _ b i hv o1 b1 hi
theorem R.frame (h:R B g s x w) (D':Nat->Nat->Prop) (c1:∀ b o y,g.D b o->w.cell? ⟨b,o,none⟩=some y->w'.cell? ⟨b,o,none⟩=some y)
 (c2:∀ i,i<s.b.length->w'.heap[g.ρ i]? = w.heap[g.ρ i]?) (c3:∀ u p b,zQ g s x w u p->p.own≠none->zc u=some b->w'.heap[b]? = w.heap[b]?)
 (d1:∀ b o,g.D b o->D' b o) (d2:∀ b o,D' b o->g.D b o\/(B.W b/\(∀ i,i<s.b.length->g.ρ i≠b)/\∀ u p,zQ g s x w u p->p.own≠none->zc u≠some b)) (d3:∀ b o,D' b o->b<w'.heap.size)
 (e1:w'.os=w.os) (e2:w'.tape=w.tape) (e3:w'.output=w.output) (e4:w.heap.size<=w'.heap.size) (e5:∀ k,k<B.w0.heap.size->¬ B.Sb k->w'.heap[k]? = w.heap[k]?):R B ⟨D',g.ρ⟩ s x w':=by
 have hs:∀ u q,zQ ⟨D',g.ρ⟩ s x w' u q->zQ g s x w u q:=by
  rintro u q (hx | ⟨i,j,cs,h4,h5,h6⟩)
  ·exact .inl hx
  ·exact .inr ⟨i,j,cs,h4,h5,by rw [<-h6];exact(World.cell?_of_block (a:=⟨g.ρ i,j,none⟩) (c2 i (List.getElem?_eq_some_iff.1 h4).1)).symm⟩
 refine⟨fun t=>(h.slots t).mono d1 c1 (Nat.le_refl _) fun _ _=>rfl,?_,h.inj,?_,?_,?_,d3,?_,?_⟩
 ·intro i cs hi
  obtain⟨hW,vs,e,hv,hsz,hr⟩:=h.boxes i cs hi
  exact⟨hW,vs,e,(c2 i (List.getElem?_eq_some_iff.1 hi).1).trans hv,hsz,fun j p hp=>⟨(hr j p hp).1.mono d1 c1 (Nat.le_refl _) fun _ _=>rfl,(hr j p hp).2⟩⟩
 ·intro u q hx
  by_cases hq:q.own=none
  ·exact zr hq
  have hx':=hs u q hx
  have:=h.owns u q hx'
  cases q<;>try trivial
  rename_i es o
  cases o<;>try trivial
  rcases this with hn | ⟨gg,cap,cur,e,rfl,hW,hh,hc,he,hd⟩
  ·exact .inl hn
  ·cases cap with
   | zero=>
     by_cases hes:es=[]
     ·subst hes;exact .inl ⟨_,rfl,rfl⟩
     ·obtain⟨hle,_⟩:=QH (h.slot_rel hx')
      exact absurd (List.eq_nil_of_length_eq_zero (Nat.le_zero.1 hle)) hes
   | succ cap=>
     refine .inr ⟨gg,_,cur,e,rfl,hW,(c3 _ _ gg hx' hq rfl).trans hh,hc,he,fun o ho hD=>?_⟩
     rcases d2 _ _ hD with h' | h'
     ·exact hd o ho h'
     ·exact h'.2.2 _ _ hx' hq rfl
 ·intro u q u' q' b k1 k2
  exact h.disj u q u' q' b (hs _ _ k1) (hs _ _ k2)
 ·intro u q b i k1
  exact h.ownbox u q b i (hs _ _ k1)
 ·intro i hi o hD
  rcases d2 _ _ hD with h' | h'
  ·exact h.dbox i hi o h'
  ·exact h'.2.1 i hi rfl
 ·refine⟨e1.trans h.fr.os,e2.trans h.fr.tape,e3.trans h.fr.output,Nat.le_trans h.fr.size e4,fun k hk hn=>(e5 k hk hn).trans (h.fr.block k hk hn),fun b o hD=>d1 _ _ (h.fr.d0 b o hD),?_,?_,?_⟩
  ·intro b o y hD hy
   exact c1 _ _ _ (h.fr.d0 b o hD) (h.fr.cell b o y hD hy)
  ·intro b o hD
   rcases d2 _ _ hD with h' | h'
   ·exact h.fr.new b o h'
   ·exact .inr h'.1
  ·exact h.fr.d0lt
theorem R.grow (h:R B g s x w) (hb:Below w.heap.size w w') (D':Nat->Nat->Prop) (h1:∀ b o,g.D b o->D' b o)
 (h2:∀ b o,D' b o->g.D b o\/w.heap.size<=b) (h3:∀ b o,D' b o->b<w'.heap.size):R B ⟨D',g.ρ⟩ s x w':=by
 refine h.frame D' (fun b o y _ hy=>qa hb (qF hy) hy) (fun i hi=>hb.block _ (h.ρlt hi)) (fun u p b hu ho hbb=>hb.block _ (zX (h.owns u p hu) ho hbb).1) h1 ?_ h3
  hb.os hb.tape hb.output hb.size fun k hk _=>hb.block k (Nat.lt_of_lt_of_le hk h.fr.size)
 intro b o hD
 rcases h2 b o hD with h' | h'
 ·exact .inl h'
 ·refine .inr ⟨.inl (Nat.le_trans h.fr.size h'),fun i hi e=>?_,fun u p hu ho e=>?_⟩
  ·have:=h.ρlt hi;omega
  ·have:=(zX (h.owns u p hu) ho e).1;omega
theorem R.drew (h:R B g s x w):R B g s x w.drew:=
 h.grow (w':=w.drew) ⟨rfl,rfl,rfl,Nat.le_refl _,fun _ _=>rfl⟩ g.D (fun _ _ h=>h) (fun _ _ h=>.inl h) h.dlt
theorem R.box (h:R B g s x w) (d:Option Nat) (vs:Array Value) (e:TypeId) (cs:List PV) (hsz:vs.size=cs.length)
 (hr:∀(j:Nat) (p:PV),cs[j]? = some p->Rel g.D g.ρ s.b.length w (vs.getD j undef) p/\(vs.getD j undef).oneCell'=true) (ho:∀ p ∈ cs,p.own=none) :
 R B ⟨g.D,fun i=>if i=s.b.length then w.heap.size else g.ρ i⟩ (PS.put ⟨s.t,s.b++[cs]⟩ d (.bx s.b.length 0)) (QO x d (.pointer (some ⟨w.heap.size,0,none⟩))) (w.alloc (.cells vs e)):=by
 have hb:Below w.heap.size w (w.alloc (.cells vs e)):=(Below.refl _ _).alloc (Nat.le_refl _) _
 have h':R B g s x (w.alloc (.cells vs e)):=h.grow hb g.D (fun _ _ h=>h) (fun _ _ h=>.inl h) fun b o hD=>Nat.lt_of_lt_of_le (h.dlt b o hD) hb.size
 obtain⟨ρ',hρ'⟩:∃ ρ',(fun i=>if i=s.b.length then w.heap.size else g.ρ i)=ρ':=⟨_,rfl⟩
 rw [hρ']
 have e1:∀ i,i<s.b.length->ρ' i=g.ρ i:=fun i hi=>by rw [<-hρ'];simp;omega
 have e2:ρ' s.b.length=w.heap.size:=by rw [<-hρ'];simp
 have hcell:∀ b o x,g.D b o->w.cell? ⟨b,o,none⟩=some x->(w.alloc (.cells vs e)).cell? ⟨b,o,none⟩=some x:=fun b o x _ hx=>qa hb (qF hx) hx
 have mono:∀ u p,Rel g.D g.ρ s.b.length (w.alloc (.cells vs e)) u p->Rel g.D ρ' (s.b++[cs]).length (w.alloc (.cells vs e)) u p:=fun u p hu=>hu.mono (fun _ _ h=>h) (fun _ _ _ _ h=>h) (by simp) e1
 have lens:(s.b++[cs]).length=s.b.length+1:=by simp
 have hs:∀ u q,zQ ⟨g.D,ρ'⟩ ⟨s.t,s.b++[cs]⟩ x (w.alloc (.cells vs e)) u q->q.own≠none->zQ g s x (w.alloc (.cells vs e)) u q:=by
  rintro u q (hx | ⟨i,j,cs',h4,h5,h6⟩) hq
  ·exact .inl hx
  ·rcases Nat.lt_or_ge i s.b.length with hi | hi
   ·rw [List.getElem?_append_left hi] at h4
    exact .inr ⟨i,j,cs',h4,h5,by rw [<-h6];show _=World.cell? _ ⟨ρ' i,j,none⟩;rw [e1 i hi]⟩
   ·rw [List.getElem?_append_right hi] at h4
    have hii:i - s.b.length=0:=by
     have:=(List.getElem?_eq_some_iff.1 h4).1
     simp at this;omega
    rw [hii] at h4
    simp at h4
    subst h4
    exact absurd (ho q (List.mem_of_getElem? h5)) hq
 have r1:R B ⟨g.D,ρ'⟩ ⟨s.t,s.b++[cs]⟩ x (w.alloc (.cells vs e)):=by
  refine⟨fun t=>mono _ _ (h'.slots t),?_,?_,?_,?_,?_,h'.dlt,?_,h'.fr⟩
  ·intro i cs' hi
   rcases Nat.lt_or_ge i s.b.length with hl | hl
   ·rw [List.getElem?_append_left hl] at hi
    obtain⟨hW,vs',e',hv,hsz',hr'⟩:=h'.boxes i cs' hi
    refine⟨by show B.W (ρ' i);rw [e1 i hl];exact hW,vs',e',by show _=_;rw [<-hv];show (World.alloc _ _).heap[ρ' i]? = _;rw [e1 i hl],hsz',fun j p hp=>⟨mono _ _ (hr' j p hp).1,(hr' j p hp).2⟩⟩
   ·rw [List.getElem?_append_right hl] at hi
    have hii:i - s.b.length=0:=by
     have:=(List.getElem?_eq_some_iff.1 hi).1
     simp at this;omega
    rw [hii] at hi
    simp at hi
    subst hi
    have:i=s.b.length:=by omega
    subst this
    refine⟨by show B.W (ρ' _);rw [e2];exact .inl h.fr.size,vs,e,?_,hsz,fun j p hp=>⟨mono _ _ ((hr j p hp).1.mono (fun _ _ h=>h) hcell (Nat.le_refl _) fun _ _=>rfl),(hr j p hp).2⟩⟩
    show (World.alloc _ _).heap[ρ' _]? = _
    rw [e2]
    exact World.alloc_heap_new w _
  ·intro i j hi hj hij
   have hi':i<s.b.length+1:=by simpa using hi
   have hj':j<s.b.length+1:=by simpa using hj
   have hij':ρ' i=ρ' j:=hij
   rcases Nat.lt_or_ge i s.b.length with hl | hl<;>rcases Nat.lt_or_ge j s.b.length with hm | hm
   ·rw [e1 i hl,e1 j hm] at hij';exact h'.inj i j hl hm hij'
   ·have:j=s.b.length:=by omega
    rw [e1 i hl,this,e2] at hij';have:=h.ρlt hl;omega
   ·have:i=s.b.length:=by omega
    rw [e1 j hm,this,e2] at hij';have:=h.ρlt hm;omega
   ·omega
  ·intro u q hu
   by_cases hq:q.own=none
   ·exact zr hq
   ·exact h'.owns u q (hs u q hu hq)
  ·intro u q u' q' b k1 k2 o1 o2
   exact h'.disj u q u' q' b (hs _ _ k1 o1) (hs _ _ k2 o2) o1 o2
  ·intro u q b i k1 o1 b1 hi
   have k:=hs _ _ k1 o1
   show ρ' i≠b
   rcases Nat.lt_or_ge i s.b.length with hl | hl
   ·rw [e1 i hl];exact h'.ownbox u q b i k o1 b1 hl
   ·have:i=s.b.length:=by have:i<(s.b++[cs]).length:=hi;simp at this;omega
    rw [this,e2]
    have k0:zQ g s x w u q:=by
     rcases k with hx | ⟨i,j,cs',h4,h5,h6⟩
     ·exact .inl hx
     ·exact .inr ⟨i,j,cs',h4,h5,by rw [<-h6];exact(hb.cell (p:=⟨g.ρ i,j,none⟩) (h.ρlt (List.getElem?_eq_some_iff.1 h4).1)).symm⟩
    have:=(zX (h.owns u q k0) o1 b1).1
    omega
  ·intro i hi o hD
   have hi':i<s.b.length+1:=by have:i<(s.b++[cs]).length:=hi;simpa using this
   have hD':g.D (ρ' i) o:=hD
   rcases Nat.lt_or_ge i s.b.length with hl | hl
   ·rw [e1 i hl] at hD';exact h.dbox i hl o hD'
   ·have:i=s.b.length:=by omega
    rw [this,e2] at hD'
    have:=h.dlt _ _ hD'
    omega
 refine r1.put d (.inl (.inr ⟨s.b.length,0,rfl,by simp,?_⟩)) (.none rfl)
 show _=Value.pointer (some ⟨ρ' s.b.length,0,none⟩)
 rw [e2]
theorem R.boxAt (h:R B g s x w) (d:Option Nat) (vs:Array Value) (e:TypeId) (cs:List PV) (hsz:vs.size=cs.length) {b0:Nat} (hh:w.heap[b0]? = some (.cells vs e (0,0))) (hW:B.W b0) (hne:∀ i,i<s.b.length->g.ρ i≠b0) (hnD:∀ o,¬ g.D b0 o) (hno:∀ u q,zQ g s x w u q->q.own≠none->zc u≠some b0)
 (hr:∀(j:Nat) (p:PV),cs[j]? = some p->Rel g.D g.ρ s.b.length w (vs.getD j undef) p/\(vs.getD j undef).oneCell'=true) (ho:∀ p ∈ cs,p.own=none) :
 R B ⟨g.D,fun i=>if i=s.b.length then b0 else g.ρ i⟩ (PS.put ⟨s.t,s.b++[cs]⟩ d (.bx s.b.length 0)) (QO x d (.pointer (some ⟨b0,0,none⟩))) w:=by
 obtain⟨ρ',hρ'⟩:∃ ρ',(fun i=>if i=s.b.length then b0 else g.ρ i)=ρ':=⟨_,rfl⟩
 rw [hρ']
 have e1:∀ i,i<s.b.length->ρ' i=g.ρ i:=fun i hi=>by rw [<-hρ'];simp;omega
 have e2:ρ' s.b.length=b0:=by rw [<-hρ'];simp
 have mono:∀ u p,Rel g.D g.ρ s.b.length w u p->Rel g.D ρ' (s.b++[cs]).length w u p:=fun u p hu=>hu.mono (fun _ _ h=>h) (fun _ _ _ _ h=>h) (by simp) e1
 have lens:(s.b++[cs]).length=s.b.length+1:=by simp
 have hs:∀ u q,zQ ⟨g.D,ρ'⟩ ⟨s.t,s.b++[cs]⟩ x w u q->q.own≠none->zQ g s x w u q:=by
  rintro u q (hx | ⟨i,j,cs',h4,h5,h6⟩) hq
  ·exact .inl hx
  ·rcases Nat.lt_or_ge i s.b.length with hi | hi
   ·rw [List.getElem?_append_left hi] at h4
    exact .inr ⟨i,j,cs',h4,h5,by rw [<-h6];show _=World.cell? _ ⟨ρ' i,j,none⟩;rw [e1 i hi]⟩
   ·rw [List.getElem?_append_right hi] at h4
    have hii:i - s.b.length=0:=by
     have:=(List.getElem?_eq_some_iff.1 h4).1
     simp at this;omega
    rw [hii] at h4
    simp at h4
    subst h4
    exact absurd (ho q (List.mem_of_getElem? h5)) hq
 have r1:R B ⟨g.D,ρ'⟩ ⟨s.t,s.b++[cs]⟩ x w:=by
  refine⟨fun t=>mono _ _ (h.slots t),?_,?_,?_,?_,?_,h.dlt,?_,h.fr⟩
  ·intro i cs' hi
   rcases Nat.lt_or_ge i s.b.length with hl | hl
   ·rw [List.getElem?_append_left hl] at hi
    obtain⟨hW,vs',e',hv,hsz',hr'⟩:=h.boxes i cs' hi
    refine⟨by show B.W (ρ' i);rw [e1 i hl];exact hW,vs',e',by show _=_;rw [<-hv];show w.heap[ρ' i]? = _;rw [e1 i hl],hsz',fun j p hp=>⟨mono _ _ (hr' j p hp).1,(hr' j p hp).2⟩⟩
   ·rw [List.getElem?_append_right hl] at hi
    have hii:i - s.b.length=0:=by
     have:=(List.getElem?_eq_some_iff.1 hi).1
     simp at this;omega
    rw [hii] at hi
    simp at hi
    subst hi
    have:i=s.b.length:=by omega
    subst this
    refine⟨by show B.W (ρ' _);rw [e2];exact hW,vs,e,?_,hsz,fun j p hp=>⟨mono _ _ (hr j p hp).1,(hr j p hp).2⟩⟩
    show w.heap[ρ' _]? = _
    rw [e2]
    exact hh
  ·intro i j hi hj hij
   have hi':i<s.b.length+1:=by simpa using hi
   have hj':j<s.b.length+1:=by simpa using hj
   have hij':ρ' i=ρ' j:=hij
   rcases Nat.lt_or_ge i s.b.length with hl | hl<;>rcases Nat.lt_or_ge j s.b.length with hm | hm
   ·rw [e1 i hl,e1 j hm] at hij';exact h.inj i j hl hm hij'
   ·have:j=s.b.length:=by omega
    rw [e1 i hl,this,e2] at hij';exact absurd hij' (hne i hl)
   ·have:i=s.b.length:=by omega
    rw [e1 j hm,this,e2] at hij';exact absurd hij'.symm (hne j hm)
   ·omega
  ·intro u q hu
   by_cases hq:q.own=none
   ·exact zr hq
   ·exact h.owns u q (hs u q hu hq)
  ·intro u q u' q' b k1 k2 o1 o2
   exact h.disj u q u' q' b (hs _ _ k1 o1) (hs _ _ k2 o2) o1 o2
  ·intro u q b i k1 o1 b1 hi
   have k:=hs _ _ k1 o1
   show ρ' i≠b
   rcases Nat.lt_or_ge i s.b.length with hl | hl
   ·rw [e1 i hl];exact h.ownbox u q b i k o1 b1 hl
   ·have:i=s.b.length:=by have:i<(s.b++[cs]).length:=hi;simp at this;omega
    rw [this,e2]
    exact fun e3=>hno u q k o1 (by rw [b1,<-e3])
  ·intro i hi o hD
   have hi':i<s.b.length+1:=by have:i<(s.b++[cs]).length:=hi;simpa using this
   have hD':g.D (ρ' i) o:=hD
   rcases Nat.lt_or_ge i s.b.length with hl | hl
   ·rw [e1 i hl] at hD';exact h.dbox i hl o hD'
   ·have:i=s.b.length:=by omega
    rw [this,e2] at hD'
    exact hnD o hD'
 refine r1.put d (.inl (.inr ⟨s.b.length,0,rfl,by simp,?_⟩)) (.none rfl)
 show _=Value.pointer (some ⟨ρ' s.b.length,0,none⟩)
 rw [e2]
def PV.down (n:Nat):PV->PV
 | .sl es (.r m sz)=>if m=n then .sl es .sh else .sl es (.r m sz)
 | p=>p
def PS.down (n:Nat) (s:PS):PS:=⟨s.t.map fun y=>(y.1,y.2.down n),s.b.map fun cs=>cs.map (PV.down n)⟩
theorem PV.down_or (n:Nat) (p:PV):p.down n=p.strip\/(p.down n=p/\p.own≠some n):=by
 cases p<;>try exact .inl rfl
 rename_i es o
 cases o with
 | sh=>exact .inl rfl
 | z=>exact .inl rfl
 | n k=>exact .inr ⟨rfl,by simp [PV.own]⟩
 | p k=>exact .inr ⟨rfl,by simp [PV.own]⟩
 | r m sz=>
   by_cases e:m=n
   ·exact .inl (by simp [PV.down,PV.strip,e])
   ·exact .inr ⟨by simp [PV.down,e],by simp [PV.own,e]⟩
theorem PV.down_own {n:Nat} {p:PV} (h:(p.down n).own≠none):p.down n=p/\p.own≠some n:=by
 rcases PV.down_or n p with e | e
 ·rw [e] at h;exact absurd p.strip_own h
 ·exact e
theorem Vn (n t:Nat):∀ l:List (Nat × PV),yr (l.map fun y=>(y.1,y.2.down n)) t=(yr l t).down n
 | []=>rfl
 | (j,p)::l=>by
   simp only [List.map_cons,yr]
   split
   ·rfl
   ·exact Vn n t l
theorem Va (n t:Nat) (s:PS):(s.down n).get t=(s.get t).down n:=Vn n t s.t
theorem Rel.down {D:Nat->Nat->Prop} {ρ:Nat->Nat} {nb:Nat} {u:Value} {p:PV} (n:Nat) (h:Rel D ρ nb w u p):Rel D ρ nb w u (p.down n):=by
 rcases PV.down_or n p with e | e
 ·rw [e];exact h.strip
 ·rw [e.1];exact h
theorem zbH {n:Nat} {u:Value} {q:PV} (h:zQ g (s.down n) x w u q):∃ p,q=p.down n/\zQ g s x w u p:=by
 rcases h with⟨t,rfl,rfl⟩ | ⟨i,j,cs,h1,h2,h3⟩
 ·exact⟨_,Va n t s,.inl ⟨t,rfl,rfl⟩⟩
 ·simp only [PS.down,List.getElem?_map,Option.map_eq_some_iff] at h1
  obtain⟨cs',h1,rfl⟩:=h1
  simp only [List.getElem?_map,Option.map_eq_some_iff] at h2
  obtain⟨p,h2,rfl⟩:=h2
  exact⟨p,rfl,.inr ⟨i,j,cs',h1,h2,h3⟩⟩
theorem R.down (h:R B g s x w) (n:Nat):R B g (s.down n) x w/\∀ u p,zQ g (s.down n) x w u p->p.own≠none->zQ g s x w u p/\p.own≠some n:=by
 have hl:(s.down n).b.length=s.b.length:=by simp [PS.down]
 have hs:∀ u p,zQ g (s.down n) x w u p->p.own≠none->zQ g s x w u p/\p.own≠some n:=by
  intro u q hq ho
  obtain⟨p,rfl,hp⟩:=zbH hq
  obtain⟨e1,e2⟩:=PV.down_own ho
  rw [e1];exact⟨hp,e2⟩
 refine⟨⟨fun t=>?_,?_,fun i j=>by rw [hl];exact h.inj i j,?_,?_,?_,h.dlt,fun i=>by rw [hl];exact h.dbox i,h.fr⟩,hs⟩
 ·rw [Va,hl];exact(h.slots t).down n
 ·intro i cs hi
  simp only [PS.down,List.getElem?_map,Option.map_eq_some_iff] at hi
  obtain⟨cs',hi,rfl⟩:=hi
  obtain⟨hW,vs,e,h1,h2,h3⟩:=h.boxes i cs' hi
  refine⟨hW,vs,e,h1,by simpa using h2,fun j p hp=>?_⟩
  simp only [List.getElem?_map,Option.map_eq_some_iff] at hp
  obtain⟨p',hp,rfl⟩:=hp
  rw [hl]
  exact⟨(h3 j p' hp).1.down n,(h3 j p' hp).2⟩
 ·intro u q hq
  by_cases ho:q.own=none
  ·exact zr ho
  ·exact h.owns _ _ (hs u q hq ho).1
 ·intro u q u' q' b k1 k2 o1 o2
  exact h.disj _ _ _ _ b (hs _ _ k1 o1).1 (hs _ _ k2 o2).1 o1 o2
 ·intro u q b i k1 o1 b1 hi
  exact h.ownbox _ _ b i (hs _ _ k1 o1).1 o1 b1 (by rw [<-hl];exact hi)
def PS.clean (s:PS):PS:=⟨s.t.map fun y=>(y.1,y.2.clean),s.b⟩
theorem Yy (t:Nat):∀ l:List (Nat × PV),yr (l.map fun y=>(y.1,y.2.clean)) t=(yr l t).clean
 | []=>rfl
 | (j,p)::l=>by
   simp only [List.map_cons,yr]
   split
   ·rfl
   ·exact Yy t l
theorem kT (t:Nat) (s:PS):s.clean.get t=(s.get t).clean:=Yy t s.t
theorem Rel.clean {D:Nat->Nat->Prop} {ρ:Nat->Nat} {nb:Nat} {u:Value} {p:PV} (h:Rel D ρ nb w u p):Rel D ρ nb w u p.clean:=by
 rcases PV.clean_or p with e | e
 ·rw [e];exact h.strip
 ·rw [e];exact h
theorem R.clean (h:R B g s x w):R B g s.clean x w:=by
 have hs:∀ u p,zQ g s.clean x w u p->p.own≠none->zQ g s x w u p:=fun u p hp ho=>by
  rcases hp with⟨t,rfl,rfl⟩ | hp
  ·rw [kT] at ho ⊢
   rcases PV.clean_or (s.get t) with e | e
   ·rw [e] at ho;exact absurd (s.get t).strip_own ho
   ·rw [e];exact .inl ⟨t,rfl,rfl⟩
  ·exact .inr hp
 refine⟨fun t=>by rw [kT];exact(h.slots t).clean,h.boxes,h.inj,fun u p hp=>?_,fun u p u' p' b k1 k2 o1 o2=>h.disj u p u' p' b (hs _ _ k1 o1) (hs _ _ k2 o2) o1 o2,fun u p b i k o1=>h.ownbox u p b i (hs _ _ k o1) o1,h.dlt,h.dbox,h.fr⟩
 by_cases ho:p.own=none
 ·exact zr ho
 ·exact h.owns _ _ (hs _ _ hp ho)
end Go.Proofs.YtonhfknjcbakiaaGreatDoor
namespace Go.Proofs.YtonhfknjcbakiaaGreatDoor
def YN (l:List Nat):Prop:=l.Pairwise (· < ·)
theorem jK:∀ {a b:List Nat},YN a->YN b->(∀ x,x ∈ a ↔ x ∈ b)->a=b
 | [],[],_,_,_=>rfl
 | [],y::b,_,_,h=>absurd ((h y).2 (by simp)) (by simp)
 | x::a,[],_,_,h=>absurd ((h x).1 (by simp)) (by simp)
 | x::a,y::b,ha,hb,h=>by
   have ha':=List.pairwise_cons.1 ha
   have hb':=List.pairwise_cons.1 hb
   have hxy:x=y:=by
    have h1:=(h x).1 (by simp)
    have h2:=(h y).2 (by simp)
    simp at h1 h2
    rcases h1 with h1 | h1
    ·exact h1
    ·rcases h2 with h2 | h2
     ·exact h2.symm
     ·have:=hb'.1 x h1;have:=ha'.1 y h2;omega
   subst hxy
   congr 1
   refine jK ha'.2 hb'.2 fun z=>?_
   have:=h z
   simp at this
   constructor
   ·intro hz
    rcases this.1 (.inr hz) with e | e
    ·have:=ha'.1 z hz;omega
    ·exact e
   ·intro hz
    rcases this.2 (.inr hz) with e | e
    ·have:=hb'.1 z hz;omega
    ·exact e
theorem Y6:∀ xs:List Nat,∃ r,YN r/\∀ y,y ∈ r ↔ y ∈ xs
 | []=>⟨[],List.Pairwise.nil,fun _=>Iff.rfl⟩
 | x::xs=>by
   obtain⟨r,h1,h2⟩:=Y6 xs
   refine⟨r.filter (·<x)++x::r.filter (x < ·),?_,fun y=>?_⟩
   ·refine List.pairwise_append.2 ⟨h1.filter _,List.pairwise_cons.2 ⟨fun y hy=>by simpa using (List.mem_filter.1 hy).2,h1.filter _⟩,fun y hy z hz=>?_⟩
    have:=(List.mem_filter.1 hy).2
    simp at this hz
    rcases hz with rfl | hz<;>omega
   ·simp only [List.mem_append,List.mem_filter,List.mem_cons,h2,decide_eq_true_eq]
    by_cases e:y=x
    ·simp [e]
    ·rcases Nat.lt_or_ge y x with h | h
     ·simp [h,e];omega
     ·have:x<y:=by omega
      simp [this,e];omega
noncomputable def srt (xs:List Nat):List Nat:=Classical.choose (Y6 xs)
theorem yi (xs:List Nat):YN (srt xs):=(Classical.choose_spec (Y6 xs)).1
theorem qr {xs:List Nat} {y:Nat}:y ∈ srt xs ↔ y ∈ xs:=(Classical.choose_spec (Y6 xs)).2 y
theorem XA {xs r:List Nat} (h:YN r) (hm:∀ y,y ∈ r ↔ y ∈ xs):srt xs=r:=jK (yi xs) h fun y=>by rw [qr,hm]
theorem XB:srt []=[]:=XA List.Pairwise.nil fun _=>Iff.rfl
theorem jJ {l:List Nat} (h:YN l) {i j:Nat} (hj:j<l.length) (hi:i<j):l[i]<l[j]:=List.pairwise_iff_getElem.1 h i j (by omega) hj hi
theorem kJ {xs:List Nat} {x at_:Nat} (h0:at_<=(srt xs).length) (h1:∀ k (h:k<(srt xs).length),at_<=k->x<(srt xs)[k]) (h2:at_=0\/∃ h:at_ - 1<(srt xs).length,(srt xs)[at_ - 1]<x) :
 srt (xs++[x])=(srt xs).take at_++x::(srt xs).drop at_:=by
 have ha:=yi xs
 have hlo:∀ y ∈ (srt xs).take at_,y<x:=fun y hy=>by
  obtain⟨i,hi,rfl⟩:=List.getElem_of_mem hy
  simp at hi ⊢
  rcases h2 with h2 | ⟨h,h2⟩
  ·omega
  ·rcases Nat.lt_or_ge i (at_ - 1) with h' | h'
   ·have:=jJ ha h h';omega
   ·have:i=at_ - 1:=by omega
    subst this;exact h2
 have hhi:∀ y ∈ (srt xs).drop at_,x<y:=fun y hy=>by
  obtain⟨i,hi,rfl⟩:=List.getElem_of_mem hy
  simp at hi ⊢
  exact h1 _ (by omega) (by omega)
 refine XA (List.pairwise_append.2 ⟨ha.sublist (List.take_sublist _ _),List.pairwise_cons.2 ⟨fun y hy=>hhi y hy,ha.sublist (List.drop_sublist _ _)⟩,fun y hy z hz=>?_⟩) fun y=>?_
 ·simp at hz
  rcases hz with rfl | hz
  ·exact hlo y hy
  ·exact Nat.lt_trans (hlo y hy) (hhi z hz)
 ·have:y ∈ (srt xs).take at_++(srt xs).drop at_ ↔ y ∈ xs:=by rw [List.take_append_drop];exact qr
  simp only [List.mem_append,List.mem_cons,List.not_mem_nil,or_false] at this ⊢
  constructor
  ·rintro(h | h | h)
   ·exact .inl (this.1 (.inl h))
   ·exact .inr h
   ·exact .inl (this.1 (.inr h))
  ·rintro(h | h)
   ·rcases this.2 h with h | h
    ·exact .inl h
    ·exact .inr (.inr h)
   ·exact .inr (.inl h)
theorem zaw {xs:List Nat} {x:Nat} (h:x ∈ srt xs):srt (xs++[x])=srt xs:=XA (yi xs) fun y=>by
 rw [qr] at *
 simp
 intro e;subst e;exact h
theorem ju (xs:List Nat):(srt xs).length<=xs.length:=by
 have key:∀(r xs:List Nat),YN r->(∀ y ∈ r,y ∈ xs)->r.length<=xs.length:=by
  intro r
  induction r with
  | nil=>intro xs _ _;exact Nat.zero_le _
  | cons x r ih=>
    intro xs h hm
    have h':=List.pairwise_cons.1 h
    have:=ih (xs.erase x) h'.2 fun y hy=>by
     have h3:=h'.1 y hy
     exact(List.mem_erase_of_ne (by omega)).2 (hm y (by simp [hy]))
    have hx:x ∈ xs:=hm x (by simp)
    rw [List.length_erase_of_mem hx] at this
    have:=List.length_pos_of_mem hx
    simp;omega
 exact key _ _ (yi xs) fun y hy=>qr.1 hy
def jQ (s:Iv):List Nat:=s.lo::if s.hi<zk - 1 then [s.hi+1] else []
def z6 (l:List Iv):List Nat:=l.flatMap jQ
def yU (ls:List (List Iv)):List Nat:=0::ls.flatMap z6
noncomputable def zH (ls:List (List Iv)):List Nat:=srt (yU ls)
theorem zcy (s:Iv):(jQ s).length<=2:=by unfold jQ;split<;>simp
theorem vq (l:List Iv):(z6 l).length<=2 * l.length:=by
 induction l with
 | nil=>simp [z6]
 | cons s l ih=>
   have:=zcy s
   simp only [z6,List.flatMap_cons,List.length_append,List.length_cons] at ih ⊢
   omega
theorem zaU {l:List Iv} {k:Nat} (h:k<l.length):z6 (l.take (k+1))=z6 (l.take k)++jQ l[k]:=by
 unfold z6;rw [List.take_succ_eq_append_getElem h,List.flatMap_append];simp only [List.flatMap_cons,List.flatMap_nil,List.append_nil]
theorem Qh {l:List Iv} (hr:∀ s ∈ l,s.lo<=s.hi/\s.hi<zk) {x y:Nat} (hxy:x<=y) (hy:y<zk) (hc:∀ c ∈ z6 l,c<=x\/y<c):mem l y=mem l x:=by
 induction l with
 | nil=>rfl
 | cons s l ih=>
   have hs:=hr s (by simp)
   rw [zz,zz,ih (fun t ht=>hr t (by simp [ht])) fun c h=>hc c (by simp [z6] at h ⊢;exact .inr h)]
   congr 1
   have h1:=hc s.lo (by simp [z6,jQ])
   have h2:s.hi<zk - 1->s.hi+1<=x\/y<s.hi+1:=fun h=>hc (s.hi+1) (by simp [z6,jQ,h])
   rw [Bool.eq_iff_iff]
   simp only [Bool.and_eq_true,decide_eq_true_eq]
   by_cases h3:s.hi<zk - 1
   ·have:=h2 h3;omega
   ·omega
def Qj:Nat->Bool->Bool->Bool
 | 0,a,b=>a || b
 | 1,a,b=>a && b
 | _,a,b=>a && !b
def KD (st:List Nat) (i:Nat):Nat:=if h:i<st.length then st[i] else zk
structure DoInv (f:Bool->Bool->Bool) (a b:List Iv) (st:List Nat) (i:Nat) (out:List Iv):Prop where
 nrm:Nrm out
 lt:∀ t ∈ out,t.hi<KD st i
 mm:∀ x,x<KD st i->mem out x=f (mem a x) (mem b x)
 len:out.length<=i
theorem zgd (out:List Iv) (s:Iv):(Q8 out s).length<=out.length+1:=by
 unfold Q8
 split
 ·simp
 ·split<;>simp<;>omega
theorem DoInv.step {f:Bool->Bool->Bool} {a b:List Iv} {st:List Nat} {i:Nat} {out:List Iv} (h:DoInv f a b st i out) (ha:Nrm a) (hb:Nrm b) (hs:YN st) (hlt:∀ x ∈ st,x<zk) (hc:∀ c,c ∈ z6 a\/c ∈ z6 b->c ∈ st) (hi:i<st.length) :
 (f (mem a st[i]) (mem b st[i])=true->DoInv f a b st (i+1) (Q8 out ⟨st[i],if h:i+1<st.length then st[i+1] - 1 else zk - 1⟩))/\(f (mem a st[i]) (mem b st[i])=false->DoInv f a b st (i+1) out):=by
 have e0:KD st i=st[i]:=dif_pos hi
 have hM:=zw
 have hlo:st[i]<zk:=hlt _ (List.getElem_mem _)
 have e1:(if h:i+1<st.length then st[i+1] - 1 else zk - 1)+1=KD st (i+1)/\st[i]<KD st (i+1)/\KD st (i+1)<=zk:=by
  unfold KD
  split
  ·rename_i h;have:=jJ hs h (Nat.lt_succ_self i);have:=hlt _ (List.getElem_mem h);omega
  ·omega
 obtain⟨e1,e2,e3⟩:=e1
 have hcut:∀ x,st[i]<=x->x<KD st (i+1)->∀ c ∈ st,c<=st[i]\/x<c:=fun x h1 h2 c hc=>by
  obtain⟨j,hj,rfl⟩:=List.getElem_of_mem hc
  rcases Nat.lt_trichotomy j i with h | h | h
  ·have:=jJ hs hi h;omega
  ·subst h;omega
  ·right
   unfold KD at h2
   split at h2
   ·rcases Nat.eq_or_lt_of_le (show i+1<=j from h) with h' | h'
    ·subst h';exact h2
    ·have:=jJ hs hj h';omega
   ·omega
 have ra:∀ s ∈ a,s.lo<=s.hi/\s.hi<zk:=fun s hs=>by have:=NF.lo_ge ha s hs;omega
 have rb:∀ s ∈ b,s.lo<=s.hi/\s.hi<zk:=fun s hs=>by have:=NF.lo_ge hb s hs;omega
 have same:∀ x,st[i]<=x->x<KD st (i+1)->mem a x=mem a st[i]/\mem b x=mem b st[i]:=fun x h1 h2=>
  ⟨Qh ra h1 (by omega) fun c h=>hcut x h1 h2 c (hc c (.inl h)),Qh rb h1 (by omega) fun c h=>hcut x h1 h2 c (hc c (.inr h))⟩
 constructor
 ·intro hf
  obtain⟨p1,p2,p3⟩:=Xm (s:=⟨st[i],if h:i+1<st.length then st[i+1] - 1 else zk - 1⟩) h.nrm (fun t ht=>by have:=h.lt t ht;rw [e0] at this;exact this) (by show st[i]<=(if h:i+1<st.length then st[i+1] - 1 else zk - 1);omega) (by show (if h:i+1<st.length then st[i+1] - 1 else zk - 1)<zk;omega)
  refine⟨p1,fun t ht=>by have:=p3 t ht;show t.hi<_;simp only at this;omega,fun x hx=>?_,Nat.le_trans (zgd _ _) (by have:=h.len;omega)⟩
  rw [p2 x]
  simp only
  rcases Nat.lt_or_ge x st[i] with h' | h'
  ·rw [h.mm x (by omega)]
   have:¬ st[i]<=x:=by omega
   simp [this]
  ·rw [(same x h' hx).1,(same x h' hx).2,hf]
   have:x<=(if h:i+1<st.length then st[i+1] - 1 else zk - 1):=by omega
   simp [h',this]
 ·intro hf
  refine⟨h.nrm,fun t ht=>by have:=h.lt t ht;omega,fun x hx=>?_,by have:=h.len;omega⟩
  rcases Nat.lt_or_ge x st[i] with h' | h'
  ·exact h.mm x (by omega)
  ·rw [(same x h' hx).1,(same x h' hx).2,hf]
   cases e:mem out x with
   | false=>rfl
   | true=>obtain⟨t,ht,_,ht2⟩:=qf.1 e;have:=h.lt t ht;omega
theorem DoInv.done {f:Bool->Bool->Bool} {a b:List Iv} {st:List Nat} {out:List Iv} (h:DoInv f a b st st.length out) (ha:Nrm a) (hb:Nrm b):out=qy f a b:=
 (vK ha hb h.nrm fun x hx=>h.mm x (by unfold KD;rw [dif_neg (by omega)];exact hx)).symm
theorem x8 (ls:List (List Iv)):YN (zH ls):=yi _
theorem VY (ls:List (List Iv)):∃ h:0<(zH ls).length,(zH ls)[0]=0:=by
 have h0:0 ∈ zH ls:=qr.2 (by simp [yU])
 obtain⟨i,hi,e⟩:=List.getElem_of_mem h0
 refine⟨by omega,?_⟩
 rcases Nat.eq_zero_or_pos i with h | h
 ·subst h;exact e
 ·have:=jJ (x8 ls) hi h;omega
theorem Ze {ls:List (List Iv)} (h:∀ l ∈ ls,∀ s ∈ l,s.lo<zk):∀ x ∈ zH ls,x<zk:=fun x hx=>by
 have:=qr.1 hx
 simp only [yU,List.mem_cons,List.mem_flatMap,z6,jQ] at this
 rcases this with rfl | ⟨l,hl,s,hs,h'⟩
 ·exact xM
 ·rcases h' with rfl | h'
  ·exact h l hl s hs
  ·split at h'
   ·simp at h';omega
   ·cases h'
theorem DoInv.zero {f:Bool->Bool->Bool} {a b:List Iv} (ls:List (List Iv)):DoInv f a b (zH ls) 0 []:=by
 obtain⟨h,e⟩:=VY ls
 have:KD (zH ls) 0=0:=by unfold KD;rw [dif_pos h,e]
 exact⟨trivial,(fun _ h=>by cases h),fun x hx=>(by omega),Nat.le_refl _⟩
def kA (ls:List (List Iv)) (i j:Nat):List Nat:=0::((ls.take i).flatMap z6++z6 ((ls[i]?.getD []).take j))
theorem zf6 (ls:List (List Iv)):kA ls 0 0=[0]:=by simp [kA,z6]
theorem XW (a b:List Iv):z6 (a++b)=z6 a++z6 b:=by simp [z6]
theorem zbv {ls:List (List Iv)} {i j:Nat} (h:i<ls.length) (hj:ls[i].length<=j):kA ls i j=kA ls (i+1) 0:=by
 unfold kA
 rw [List.getElem?_eq_getElem h,Option.getD_some,List.take_of_length_le hj,List.take_succ_eq_append_getElem h,List.flatMap_append]
 simp [z6]
theorem YF {ls:List (List Iv)} {i j:Nat} (h:i<ls.length) (hj:j<ls[i].length):kA ls i (j+1)=kA ls i j++jQ ls[i][j]:=by
 unfold kA
 rw [List.getElem?_eq_getElem h,Option.getD_some,zaU hj]
 simp
theorem zdJ {ls:List (List Iv)} {i:Nat} (h:ls.length<=i):kA ls i 0=yU ls:=by
 unfold kA yU
 rw [List.take_of_length_le h];simp [z6]
theorem zdK {ls:List (List Iv)} {i:Nat} (j:Nat) (h:i<ls.length):(kA ls i j).length<=(yU ls).length:=by
 have e:ls.flatMap z6=(ls.take i).flatMap z6++(z6 (ls[i].take j)++z6 (ls[i].drop j)++(ls.drop (i+1)).flatMap z6):=by
  rw [<-XW,List.take_append_drop]
  conv=>lhs;rw [<-List.take_append_drop i ls,List.drop_eq_getElem_cons h,List.flatMap_append,List.flatMap_cons]
 unfold kA yU
 rw [e,List.getElem?_eq_getElem h,Option.getD_some]
 simp
end Go.Proofs.YtonhfknjcbakiaaGreatDoor
namespace Go.Proofs.YtonhfknjcbakiaaGreatDoor
open Go.RowKit
abbrev VP:=Value->World->Prop
abbrev qe:Nat->Prop:=fun _=>False
def zJ (ops:Array Oper) (j:Nat):Option Tmp:=(ops[j]?).bind (·.dst)
def edge (ops:Array Oper) (i j:Nat):Bool:=match ops[i]? with | some o=>o.after.any fun e=>Region.binds .any e && e.on == j | none=>false
def zA (o:Oper):List Tmp:=o.op.operands.toList.filterMap fun | .tmp t=>some t | _=>none
def RdEq (a:Act) (t:Tmp) (u:Value):Prop:=a.eval (.tmp t)=u/\a.tmps.getD t undef=u/\a.tmps[t]?.getD undef=u
theorem RdEq.of {a:Act} {t:Tmp} {u:Value} (h:a.tmps.getD t undef=u):RdEq a t u:=⟨h,h,by rw [<-h];simp⟩
def XG (ops:Array Oper) (nh:Nat) (t:Tmp):Option Nat:=(List.range nh).find? fun j=>zJ ops j == some t
def yB (ops:Array Oper) (nh i:Nat) (t:Tmp):Bool:=
 match XG ops nh t with
 | some j=>if j<i then edge ops i j else if i<j then edge ops j i else true
 | none=>true
def xk (ops:Array Oper) (nh nt:Nat):Bool:=
 decide (nh<=ops.size) &&
 (List.range nh).all fun i=>
   match ops[i]? with
   | none=>false
   | some o=>((zA o).all (yB ops nh i)) &&
     (match o.guard with | none=>true | some (j,_)=>decide (j<i) && edge ops i j && (zJ ops j).isSome) &&
     (match o.dst with | none=>true | some d=>decide (d<nt) && (List.range nh).all fun j=>decide (j=i) || !(zJ ops j == some d)) &&
     (decide (nh=ops.size) || (List.range (nh+1)).any fun j=>decide (i<j) && edge ops j i)
def yK (ops:Array Oper) (nh:Nat):Bool:=(List.range ops.size).all fun t=>(decide (t<=nh) || edge ops t (t - 1)) && match ops[t]? with | some o=>o.after.all fun e=>!Region.binds .any e || decide (e.on<t) | none=>false
section
variable {ops:Array Oper} {nh:Nat}
theorem Z1 {i j:Nat} {o:Oper} (ho:ops[i]? = some o):edge ops i j=true ↔ ∃ e ∈ o.after,Region.binds .any e=true/\e.on=j:=by
 unfold edge
 simp only [ho]
 rw [Array.any_eq_true']
 constructor
 ·rintro⟨e,he,hb⟩
  simp only [Bool.and_eq_true,beq_iff_eq] at hb
  exact⟨e,he,hb.1,hb.2⟩
 ·rintro⟨e,he,hb,rfl⟩
  exact⟨e,he,by simp [hb]⟩
theorem zx {listed:Array Bool} {i:Nat} (h:listed.getD i true=false):listed.getD i false=false/\i<listed.size:=by
 rcases Nat.lt_or_ge i listed.size with h' | h'
 ·simp [h'] at h ⊢;exact h
 ·simp [Array.getElem?_eq_none h'] at h
theorem zfm {listed:Array Bool} {i:Nat} (h:listed.getD i false=false) (hi:i<listed.size):listed.getD i true=false:=by
 simp [hi] at h ⊢;exact h
theorem zl {listed:Array Bool} {i:Nat} (hi:i<listed.size):(listed.setIfInBounds i true).getD i false=true:=by simp [hi]
theorem zj {listed:Array Bool} {i j:Nat} (h:j≠i):(listed.setIfInBounds i true).getD j false=listed.getD j false:=by
 simp [Array.getElem?_setIfInBounds_ne (Ne.symm h)]
theorem yh {a:Act} {d:Tmp} {u:Value} (h:d<a.tmps.size):(a.put (some d) u).tmps.getD d undef=u:=by simp [Act.put,h]
theorem qn {a:Act} {d t:Tmp} {u:Value} (h:t≠d):(a.put (some d) u).tmps.getD t undef=a.tmps.getD t undef:=by
 simp [Act.put,Array.getElem?_setIfInBounds_ne (Ne.symm h)]
theorem yb {nt i:Nat} (h:xk ops nh nt=true) (hi:i<nh):∃ o,ops[i]? = some o/\(∀ t ∈ zA o,yB ops nh i t=true) /\
 (∀ j b,o.guard=some (j,b)->j<i/\edge ops i j=true/\(zJ ops j).isSome)/\(∀ d,o.dst=some d->d<nt/\∀ j,j<nh->zJ ops j=some d->j=i) /\
 (nh=ops.size\/∃ j,j<=nh/\i<j/\edge ops j i=true):=by
 unfold xk at h
 simp only [Bool.and_eq_true,List.all_eq_true,List.mem_range] at h
 have h:=h.2 i hi
 cases ho:ops[i]? with
 | none=>simp [ho] at h
 | some o=>
   simp only [ho,Bool.and_eq_true,List.all_eq_true,Bool.or_eq_true,decide_eq_true_eq,List.any_eq_true,List.mem_range] at h
   obtain⟨⟨⟨h1,h2⟩,h3⟩,h4⟩:=h
   refine⟨o,rfl,h1,?_,?_,?_⟩
   ·intro j b hg
    simp only [hg,Bool.and_eq_true,decide_eq_true_eq] at h2
    exact⟨h2.1.1,h2.1.2,h2.2⟩
   ·intro d hd
    simp only [hd,Bool.and_eq_true,decide_eq_true_eq,List.all_eq_true,List.mem_range,Bool.or_eq_true,Bool.not_eq_true',beq_eq_false_iff_ne] at h3
    exact⟨h3.1,fun j hj e=>(h3.2 j hj).resolve_right fun hne=>hne e⟩
   ·rcases h4 with h4 | ⟨j,hj,h5,h6⟩
    ·exact .inl h4
    ·exact .inr ⟨j,by omega,h5,h6⟩
theorem xf {t:Tmp} {j:Nat} (h:XG ops nh t=some j):j<nh/\zJ ops j=some t:=by
 have h1:=List.find?_some h
 have h2:=List.mem_of_find?_eq_some h
 simp at h1 h2
 exact⟨h2,h1⟩
theorem jw {t:Tmp} {j:Nat} (hj:j<nh) (h:zJ ops j=some t):∃ j',XG ops nh t=some j':=by
 cases hw:XG ops nh t with
 | some j'=>exact⟨j',rfl⟩
 | none=>
   have:=List.find?_eq_none.1 hw j (by simpa using hj)
   simp [h] at this
theorem Act.ext' {a b:Act} (hs:a.tmps.size=b.tmps.size) (hd:a.defers=b.defers) (h:∀ t,t<b.tmps.size->a.tmps.getD t undef=b.tmps.getD t undef):a=b:=by
 obtain⟨ta,da⟩:=a
 obtain⟨tb,db⟩:=b
 simp only at hs hd h
 subst hd
 have:ta=tb:=Array.ext hs fun i h1 h2=>by
  have:=h i h2
  simpa [h1,h2] using this
 rw [this]
theorem yS {j:Nat} {d:Tmp} {tmps:Array Value} (hd:zJ ops j=some d) (hs:d<tmps.size):yielded ops tmps j=match tmps.getD d undef with | .bool b=>some b | _=>none:=by
 unfold yielded
 unfold zJ at hd
 rw [hd]
 simp only [Option.bind_some,Array.getElem?_eq_getElem hs,Array.getD_eq_getD_getElem?,Option.getD_some]
 split<;>simp_all
theorem qP {t:Nat} (h:yK ops nh=true) (ht:t<ops.size):(t<=nh\/edge ops t (t - 1)=true)/\∀ j,edge ops t j=true->j<t:=by
 unfold yK at h
 rw [List.all_eq_true] at h
 have h:=h t (by simpa using ht)
 simp only [Bool.and_eq_true,Bool.or_eq_true,decide_eq_true_eq] at h
 refine⟨h.1,fun j hj=>?_⟩
 have h2:=h.2
 cases ho:ops[t]? with
 | none=>simp [ho] at h2
 | some o=>
   simp only [ho,Array.all_eq_true'] at h2
   obtain⟨e,he,hb,rfl⟩:=(Z1 ho).1 hj
   have:=h2 e he
   simpa [hb] using this
theorem zo {i:Nat} {listed:Array Bool} (h:i ∈ Region.ready .any ops listed):listed.getD i true=false/\i<ops.size/\(∃ o,ops[i]? = some o)/\∀ j,edge ops i j=true->listed.getD j false=true:=by
 obtain⟨h1,o,ho,h2⟩:=mem_ready.1 h
 refine⟨h1,(Array.getElem?_eq_some_iff.1 ho).1,⟨o,ho⟩,fun j hj=>?_⟩
 obtain⟨e,he,hb,rfl⟩:=(Z1 ho).1 hj
 exact h2 e he hb
theorem zd1 {i:Nat} {listed:Array Bool} {o:Oper} (ho:ops[i]? = some o) (h1:listed.getD i true=false) (h2:∀ j,edge ops i j=true->listed.getD j false=true):i ∈ Region.ready .any ops listed:=
 mem_ready.2 ⟨h1,o,ho,fun e he hb=>h2 _ ((Z1 ho).2 ⟨e,he,hb,rfl⟩)⟩
theorem qh {listed:Array Bool} (hct:yK ops nh=true) (hs:listed.size=ops.size):∀(i:Nat),i<ops.size->listed.getD i false=false->∃ k,k ∈ Region.ready .any ops listed:=by
 intro i
 induction i using Nat.strongRecOn with
 | _ i ih=>
   intro hi hun
   by_cases hall:∀ j,edge ops i j=true->listed.getD j false=true
   ·exact⟨i,zd1 (Array.getElem?_eq_getElem hi) (zfm hun (by omega)) hall⟩
   ·have:∃ j,edge ops i j=true/\listed.getD j false=false:=by
     apply Classical.byContradiction
     intro hn
     refine hall fun j hj=>?_
     cases h:listed.getD j false with
     | true=>rfl
     | false=>exact absurd ⟨j,hj,h⟩ hn
    obtain⟨j,hj,hu⟩:=this
    have:=(qP hct hi).2 j hj
    exact ih j this (by omega) hu
theorem qM:∀(l S:List Nat),l.Nodup->l ⊆ S->l.length<=S.length
 | [],_,_,_=>Nat.zero_le _
 | x::l,S,hn,hs=>by
   have hx:x ∈ S:=hs (by simp)
   have h1:l ⊆ S.erase x:=fun y hy=>(List.mem_erase_of_ne (fun e=>(List.nodup_cons.1 hn).1 (by rw [<-e];exact hy))).2 (hs (by simp [hy]))
   have:=qM l (S.erase x) (List.nodup_cons.1 hn).2 h1
   rw [List.length_erase_of_mem hx] at this
   have:=List.length_pos_of_mem hx
   simp;omega
end
structure Hd (p:Prop):Prop where
 h:p
end Go.Proofs.YtonhfknjcbakiaaGreatDoor
