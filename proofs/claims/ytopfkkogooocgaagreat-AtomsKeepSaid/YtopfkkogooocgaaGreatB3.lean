import Derived.Test.YtopfkkogooocgaaGreatProg
import Derived.Test.YtopfkkogooocgaaGreatB2
set_option linter.unusedVariables false
set_option linter.unusedSimpArgs false
set_option maxRecDepth 100000
namespace Go.Proofs.YtopfkkogooocgaaGreat
def zk:Nat:=18446744073709551616
theorem zw:zk=18446744073709551616:=rfl
theorem xM:0<zk:=by rw [zw];omega
structure Iv where
 lo:Nat
 hi:Nat
deriving DecidableEq
theorem Iv.ext' {s t:Iv} (h1:s.lo=t.lo) (h2:s.hi=t.hi):s=t:=by cases s;cases t;simp_all
def mem (l:List Iv) (x:Nat):Bool:=l.any fun s=>decide (s.lo<=x) && decide (x<=s.hi)
@[simp] theorem Xf (x:Nat):mem [] x=false:=rfl
theorem zz (s:Iv) (l:List Iv) (x:Nat):mem (s::l) x=((decide (s.lo<=x) && decide (x<=s.hi)) || mem l x):=rfl
theorem yd (l k:List Iv) (x:Nat):mem (l++k) x=(mem l x || mem k x):=by simp [mem,List.any_append]
theorem qf {l:List Iv} {x:Nat}:mem l x=true ↔ ∃ s ∈ l,s.lo<=x/\x<=s.hi:=by simp [mem]
def NF:Nat->List Iv->Prop
 | _,[]=>True
 | n,s::l=>n<=s.lo/\s.lo<=s.hi/\s.hi<zk/\NF (s.hi+2) l
def Nrm (l:List Iv):Prop:=NF 0 l
theorem NF.mono {l:List Iv} {n m:Nat} (h:NF n l) (hm:m<=n):NF m l:=by
 cases l with
 | nil=>trivial
 | cons s l=>exact⟨Nat.le_trans hm h.1,h.2.1,h.2.2.1,h.2.2.2⟩
theorem NF.tail {s:Iv} {l:List Iv} {n:Nat} (h:NF n (s::l)):NF n l:=h.2.2.2.mono (by have:=h.1;have:=h.2.1;omega)
theorem NF.lo_ge {l:List Iv}:∀ {n:Nat},NF n l->∀ s ∈ l,n<=s.lo/\s.lo<=s.hi/\s.hi<zk:=by
 induction l with
 | nil=>intro n _ s hs;cases hs
 | cons t l ih=>
   intro n h s hs
   cases hs with
   | head=>exact⟨h.1,h.2.1,h.2.2.1⟩
   | tail _ hs=>have:=ih h.2.2.2 s hs;have:=h.1;have:=h.2.1;exact⟨by omega,by omega,by omega⟩
theorem NF.mem_ge {l:List Iv} {n:Nat} (h:NF n l) {x:Nat} (hx:mem l x=true):n<=x/\x<zk:=by
 obtain⟨s,hs,h1,h2⟩:=qf.1 hx
 have:=h.lo_ge s hs
 omega
theorem NF.mem_lt {l:List Iv} {n:Nat} (h:NF n l) {x:Nat} (hx:x<n):mem l x=false:=by
 cases e:mem l x with
 | false=>rfl
 | true=>have:=(h.mem_ge e).1;omega
theorem NF.unique:∀ {a b:List Iv} {n:Nat},NF n a->NF n b->(∀ x,mem a x=mem b x)->a=b
 | [],[],_,_,_,_=>rfl
 | [],s::l,_,_,hb,h=>by
   have:=h s.lo
   have h1:=hb.2.1
   simp [zz,h1] at this
 | s::l,[],_,ha,_,h=>by
   have:=h s.lo
   have h1:=ha.2.1
   simp [zz,h1] at this
 | s::l,t::k,n,ha,hb,h=>by
   have ha2:=ha.2.1
   have hb2:=hb.2.1
   have hlo:s.lo=t.lo:=by
    have h1:=h s.lo
    have h2:=h t.lo
    rw [zz,zz] at h1 h2
    have e1:mem l t.lo=true->s.hi+2<=t.lo:=fun e=>(ha.2.2.2.mem_ge e).1
    have e2:mem k s.lo=true->t.hi+2<=s.lo:=fun e=>(hb.2.2.2.mem_ge e).1
    cases c1:mem l t.lo<;>cases c2:mem k s.lo<;>simp_all<;>omega
   have hhi:s.hi=t.hi:=by
    rcases Nat.lt_trichotomy s.hi t.hi with hlt | heq | hgt
    ·exfalso
     have h1:=h (s.hi+1)
     have g1:s.lo<=s.hi+1:=by omega
     have g2:¬ s.hi+1<=s.hi:=by omega
     have g3:t.lo<=s.hi+1:=by omega
     have g4:s.hi+1<=t.hi:=by omega
     rw [zz,zz,ha.2.2.2.mem_lt (show s.hi+1<s.hi+2 by omega)] at h1
     simp [g2,g3,g4] at h1
    ·exact heq
    ·exfalso
     have h1:=h (t.hi+1)
     have g1:t.lo<=t.hi+1:=by omega
     have g2:¬ t.hi+1<=t.hi:=by omega
     have g3:s.lo<=t.hi+1:=by omega
     have g4:t.hi+1<=s.hi:=by omega
     rw [zz,zz,hb.2.2.2.mem_lt (show t.hi+1<t.hi+2 by omega)] at h1
     simp [g2,g3,g4] at h1
   have hst:s=t:=Iv.ext' hlo hhi
   subst hst
   have:l=k:=NF.unique (n:=s.hi+2) ha.2.2.2 hb.2.2.2 fun x=>by
    by_cases hx:x<s.hi+2
    ·rw [ha.2.2.2.mem_lt hx,hb.2.2.2.mem_lt hx]
    ·have:=h x
     rw [zz,zz] at this
     have hn:¬ x<=s.hi:=by omega
     simpa [hn] using this
   rw [this]
theorem Nrm.unique {a b:List Iv} (ha:Nrm a) (hb:Nrm b) (h:∀ x,x<zk->mem a x=mem b x):a=b:=
 NF.unique ha hb fun x=>by
  by_cases hx:x<zk
  ·exact h x hx
  ·have:∀ {l},Nrm l->mem l x=false:=fun {l} hl=>by
    cases e:mem l x with
    | false=>rfl
    | true=>have:=(NF.mem_ge hl e).2;omega
   rw [this ha,this hb]
theorem NF.append {a b:List Iv}:∀ {n:Nat},NF n a->(∀ m,n<=m->(∀ s ∈ a,s.hi+2<=m)->(a=[]->m=n)->NF m b->NF n (a++b)):=by
 induction a with
 | nil=>intro n _ m _ _ h1 hb;have:=h1 rfl;subst this;exact hb
 | cons s a ih=>
   intro n h m hm hs _ hb
   refine⟨h.1,h.2.1,h.2.2.1,?_⟩
   have h2:=hs s (by simp)
   cases a with
   | nil=>exact hb.mono h2
   | cons t a=>exact ih h.2.2.2 m h2 (fun u hu=>hs u (by simp [hu])) (fun e=>by cases e) hb
def ye:List Iv->Nat->Option Nat
 | [],_=>none
 | s::l,x=>if x<s.lo then some s.lo else if s.hi+1<zk/\x<s.hi+1 then some (s.hi+1) else ye l x
def kv:Option Nat->Option Nat->Option Nat
 | none,b=>b
 | some x,none=>some x
 | some x,some y=>if y<x then some y else some x
theorem xr {l:List Iv} {x y:Nat} (h:ye l x=some y):x<y:=by
 induction l with
 | nil=>cases h
 | cons s l ih=>
   unfold ye at h
   split at h
   ·cases h;assumption
   ·split at h
    ·cases h;omega
    ·exact ih h
theorem vJ {l:List Iv} {n x y:Nat} (hl:NF n l) (h:ye l x=some y):y<zk:=by
 induction l generalizing n with
 | nil=>cases h
 | cons s l ih=>
   have h1:=hl.2.1
   have h2:=hl.2.2.1
   unfold ye at h
   split at h
   ·cases h;omega
   ·split at h
    ·cases h;omega
    ·exact ih hl.2.2.2 h
theorem xB {l:List Iv} {n x y z:Nat} (hl:NF n l) (h:ye l x=some y) (h1:x<=z) (h2:z<y):mem l z=mem l x:=by
 induction l generalizing n with
 | nil=>cases h
 | cons s l ih=>
   have g1:=hl.2.1
   unfold ye at h
   split at h
   ·rename_i hlt
    cases h
    rw [(hl.2.2.2.mono (m:=s.lo) (by omega) |> fun k:NF s.lo l=>(show NF s.lo (s::l) from ⟨Nat.le_refl _,g1,hl.2.2.1,hl.2.2.2⟩)).mem_lt h2,
     (show NF s.lo (s::l) from ⟨Nat.le_refl _,g1,hl.2.2.1,hl.2.2.2⟩).mem_lt hlt]
   ·split at h
    ·rename_i hn hc
     cases h
     have e1:mem l z=false:=hl.2.2.2.mem_lt (by omega)
     have e2:mem l x=false:=hl.2.2.2.mem_lt (by omega)
     rw [zz,zz,e1,e2]
     have:(s.lo<=z)=True:=by simp;omega
     have:(s.lo<=x)=True:=by simp;omega
     have:(z<=s.hi)=True:=by simp;omega
     have:(x<=s.hi)=True:=by simp;omega
     simp [*]
    ·rename_i hn hc
     rw [zz,zz,ih hl.2.2.2 h]
     have g2:=hl.2.2.1
     by_cases hh:s.hi+1<zk
     ·have a1:¬ x<=s.hi:=by omega
      have a2:¬ z<=s.hi:=by omega
      simp [a1,a2]
     ·exfalso
      have:l=[]:=by
       cases l with
       | nil=>rfl
       | cons t l=>have:=hl.2.2.2.1;have:=hl.2.2.2.2.1;have:=hl.2.2.2.2.2.1;omega
      subst this
      cases h
theorem kx {l:List Iv} {n x z:Nat} (hl:NF n l) (h:ye l x=none) (h1:x<=z) (h2:z<zk):mem l z=mem l x:=by
 induction l generalizing n with
 | nil=>rfl
 | cons s l ih=>
   have g2:=hl.2.2.1
   unfold ye at h
   split at h
   ·cases h
   ·split at h
    ·cases h
    ·rename_i hn hc
     rw [zz,zz,ih hl.2.2.2 h]
     by_cases hh:s.hi+1<zk
     ·have a1:¬ x<=s.hi:=by omega
      have a2:¬ z<=s.hi:=by omega
      simp [a1,a2]
     ·have:(s.lo<=z)=True:=by simp;omega
      have:(s.lo<=x)=True:=by simp;omega
      have:(z<=s.hi)=True:=by simp;omega
      have:(x<=s.hi)=True:=by simp;omega
      simp [*]
theorem zdt {s:Iv} {l:List Iv} {x:Nat} (h:s.hi<x) (h0:s.lo<=s.hi):ye (s::l) x=ye l x:=by
 conv=>lhs;unfold ye
 rw [if_neg (by omega),if_neg (by omega)]
def QU (a b:List Iv):Nat->Nat->List (Iv × Bool × Bool)
 | 0,_=>[]
 | f+1,x=>
   match kv (ye a x) (ye b x) with
   | none=>[(⟨x,zk - 1⟩,mem a x,mem b x)]
   | some y=>(⟨x,y - 1⟩,mem a x,mem b x)::QU a b f y
def yO (a b:List Iv):List (Iv × Bool × Bool):=QU a b zk 0
def Cov (a b:List Iv):Nat->List (Iv × Bool × Bool)->Prop
 | x,[]=>x=zk
 | x,(s,p,q)::r=>s.lo=x/\x<=s.hi/\s.hi<zk/\(∀ z,x<=z->z<=s.hi->mem a z=p/\mem b z=q)/\Cov a b (s.hi+1) r
theorem zbl {a b:Option Nat} (h:kv a b=none):a=none/\b=none:=by
 cases a<;>cases b<;>simp [kv] at h ⊢
 split at h<;>cases h
theorem zf0 {a b:List Iv} (ha:Nrm a) (hb:Nrm b):∀(f x:Nat),x<zk->zk<=f+x->Cov a b x (QU a b f x):=by
 intro f
 induction f with
 | zero=>intro x h1 h2;omega
 | succ f ih=>
   intro x h1 h2
   unfold QU
   cases hm:kv (ye a x) (ye b x) with
   | none=>
     obtain⟨na,nb⟩:=zbl hm
     refine⟨rfl,?_,?_,?_,?_⟩
     ·show x<=zk - 1;omega
     ·show zk - 1<zk;omega
     ·intro z z1 z2
      have z3:z<zk:=by have:z<=zk - 1:=z2;omega
      exact⟨kx ha na z1 z3,kx hb nb z1 z3⟩
     ·show zk - 1+1=zk;omega
   | some y=>
     have hy:x<y/\y<zk/\∀ z,x<=z->z<y->mem a z=mem a x/\mem b z=mem b x:=by
      cases ea:ye a x with
      | none=>
        rw [ea] at hm
        have eb:ye b x=some y:=hm
        refine⟨xr eb,vJ hb eb,fun z z1 z2=>⟨kx ha ea z1 (by have:=vJ hb eb;omega),xB hb eb z1 z2⟩⟩
      | some u=>
        cases eb:ye b x with
        | none=>
          rw [ea,eb] at hm
          simp only [kv] at hm
          cases hm
          exact⟨xr ea,vJ ha ea,fun z z1 z2=>⟨xB ha ea z1 z2,kx hb eb z1 (by have:=vJ ha ea;omega)⟩⟩
        | some v=>
          rw [ea,eb] at hm
          simp only [kv] at hm
          split at hm
          ·cases hm
           exact⟨xr eb,vJ hb eb,fun z z1 z2=>⟨xB ha ea z1 (by omega),xB hb eb z1 z2⟩⟩
          ·cases hm
           exact⟨xr ea,vJ ha ea,fun z z1 z2=>⟨xB ha ea z1 z2,xB hb eb z1 (by omega)⟩⟩
     obtain⟨y1,y2,y3⟩:=hy
     refine⟨rfl,?_,?_,?_,?_⟩
     ·show x<=y - 1;omega
     ·show y - 1<zk;omega
     ·intro z z1 z2
      have:z<=y - 1:=z2
      exact y3 z z1 (by omega)
     ·show Cov a b (y - 1+1) _
      rw [show y - 1+1=y from by omega]
      exact ih y y2 (by omega)
theorem j4 {a b:List Iv} (ha:Nrm a) (hb:Nrm b):Cov a b 0 (yO a b):=zf0 ha hb zk 0 xM (by omega)
def Q8 (out:List Iv) (s:Iv):List Iv:=
 match out.getLast? with
 | none=>[s]
 | some t=>if t.hi+1=s.lo then out.dropLast++[⟨t.lo,s.hi⟩] else out++[s]
def qg (f:Bool->Bool->Bool) (out:List Iv):List (Iv × Bool × Bool)->List Iv
 | []=>out
 | (s,p,q)::r=>qg f (if f p q then Q8 out s else out) r
def qy (f:Bool->Bool->Bool) (a b:List Iv):List Iv:=qg f [] (yO a b)
theorem yf (f:Bool->Bool->Bool) (out:List Iv) (xs ys:List (Iv × Bool × Bool)):qg f out (xs++ys)=qg f (qg f out xs) ys:=by
 induction xs generalizing out with
 | nil=>rfl
 | cons x xs ih=>obtain⟨s,p,q⟩:=x;simp only [List.cons_append,qg];exact ih _
theorem NF.snoc {l:List Iv} {s:Iv} {n:Nat} (h:NF n l) (hl:∀ t ∈ l,t.hi+2<=s.lo) (hn:n<=s.lo) (h1:s.lo<=s.hi) (h2:s.hi<zk):NF n (l++[s]):=by
 induction l generalizing n with
 | nil=>exact⟨hn,h1,h2,trivial⟩
 | cons t l ih=>exact⟨h.1,h.2.1,h.2.2.1,ih h.2.2.2 (fun u hu=>hl u (by simp [hu])) (hl t (by simp))⟩
theorem NF.last_lt {l:List Iv} {t:Iv}:∀ {n:Nat},NF n (l++[t])->∀ u ∈ l,u.hi+2<=t.lo:=by
 induction l with
 | nil=>intro n _ u hu;cases hu
 | cons s l ih=>
   intro n h u hu
   cases hu with
   | head=>exact(h.2.2.2.lo_ge t (by simp)).1
   | tail _ hu=>exact ih h.2.2.2 u hu
theorem NF.init {l:List Iv} {t:Iv}:∀ {n:Nat},NF n (l++[t])->NF n l:=by
 induction l with
 | nil=>intro n _;trivial
 | cons s l ih=>intro n h;exact⟨h.1,h.2.1,h.2.2.1,ih h.2.2.2⟩
theorem Xm {out:List Iv} {s:Iv} (h:Nrm out) (hs:∀ t ∈ out,t.hi<s.lo) (h1:s.lo<=s.hi) (h2:s.hi<zk) :
 Nrm (Q8 out s)/\(∀ x,mem (Q8 out s) x=(mem out x || (decide (s.lo<=x) && decide (x<=s.hi))))/\∀ t ∈ Q8 out s,t.hi<=s.hi:=by
 rcases List.eq_nil_or_concat out with rfl | ⟨l,t,rfl⟩
 ·refine⟨⟨Nat.zero_le _,h1,h2,trivial⟩,fun x=>by simp [Q8,zz],fun t ht=>?_⟩
  simp [Q8] at ht;subst ht;exact Nat.le_refl _
 ·simp only [List.concat_eq_append] at *
  have ht:=NF.lo_ge h t (by simp)
  have hts:=hs t (by simp)
  unfold Q8
  simp only [List.getLast?_concat,List.dropLast_concat]
  by_cases e:t.hi+1=s.lo
  ·rw [if_pos e]
   refine⟨NF.snoc (NF.init h) (fun u hu=>by have:=NF.last_lt h u hu;show u.hi+2<=t.lo;omega) (Nat.zero_le _) (by show t.lo<=s.hi;omega) h2,fun x=>?_,fun u hu=>?_⟩
   ·rw [yd,yd,zz,zz,Bool.or_assoc]
    congr 1
    simp only [Xf,Bool.or_false]
    rw [Bool.eq_iff_iff]
    simp
    omega
   ·simp at hu
    rcases hu with hu | rfl
    ·have:=NF.last_lt h u hu;omega
    ·exact Nat.le_refl _
  ·rw [if_neg e]
   refine⟨NF.snoc h (fun u hu=>?_) (Nat.zero_le _) h1 h2,fun x=>by rw [yd,zz];simp,fun u hu=>?_⟩
   ·simp at hu
    rcases hu with hu | rfl
    ·have:=NF.last_lt h u hu;omega
    ·omega
   ·simp at hu
    rcases hu with hu | rfl | rfl
    ·have:=NF.last_lt h u hu;omega
    ·omega
    ·exact Nat.le_refl _
theorem Zt {f:Bool->Bool->Bool} {a b:List Iv}:∀(xs:List (Iv × Bool × Bool)) (x:Nat) (out:List Iv),Cov a b x xs->Nrm out->(∀ t ∈ out,t.hi<x) ->
 Nrm (qg f out xs)/\∀ z,z<zk->mem (qg f out xs) z=if z<x then mem out z else f (mem a z) (mem b z):=by
 intro xs
 induction xs with
 | nil=>
   intro x out hc h _
   refine⟨h,fun z hz=>?_⟩
   have:x=zk:=hc
   rw [if_pos (by omega)];rfl
 | cons y xs ih=>
   intro x out hc h hx
   obtain⟨s,p,q⟩:=y
   obtain⟨h1,h2,h3,h4,h5⟩:=hc
   have hx':∀ t ∈ out,t.hi<s.lo:=by rw [h1];exact hx
   have hmo:∀ z,x<=z->mem out z=false:=fun z hz=>by
    cases e:mem out z with
    | false=>rfl
    | true=>obtain⟨t,ht,_,ht2⟩:=qf.1 e;have:=hx t ht;omega
   simp only [qg]
   by_cases e:f p q=true
   ·rw [if_pos e]
    obtain⟨p1,p2,p3⟩:=Xm h hx' (by omega) h3
    obtain⟨r1,r2⟩:=ih (s.hi+1) _ h5 p1 (fun t ht=>by have:=p3 t ht;omega)
    refine⟨r1,fun z hz=>?_⟩
    rw [r2 z hz,p2 z]
    by_cases z1:z<x
    ·rw [if_pos (by omega),if_pos z1]
     have:¬ s.lo<=z:=by omega
     simp [this]
    ·rw [if_neg z1]
     by_cases z2:z<s.hi+1
     ·rw [if_pos z2,(h4 z (by omega) (by omega)).1,(h4 z (by omega) (by omega)).2,e]
      have a1:s.lo<=z:=by omega
      have a2:z<=s.hi:=by omega
      simp [a1,a2]
     ·rw [if_neg z2]
   ·rw [if_neg e]
    obtain⟨r1,r2⟩:=ih (s.hi+1) _ h5 h (fun t ht=>by have:=hx t ht;omega)
    refine⟨r1,fun z hz=>?_⟩
    rw [r2 z hz]
    by_cases z1:z<x
    ·rw [if_pos (by omega),if_pos z1]
    ·rw [if_neg z1]
     by_cases z2:z<s.hi+1
     ·rw [if_pos z2,(h4 z (by omega) (by omega)).1,(h4 z (by omega) (by omega)).2]
      rw [hmo z (by omega)]
      simpa using e
     ·rw [if_neg z2]
theorem qH {f:Bool->Bool->Bool} {a b:List Iv} (ha:Nrm a) (hb:Nrm b):Nrm (qy f a b):=(Zt (f:=f) _ 0 [] (j4 ha hb) trivial (fun _ h=>by cases h)).1
theorem qj {f:Bool->Bool->Bool} {a b:List Iv} (ha:Nrm a) (hb:Nrm b) {x:Nat} (hx:x<zk):mem (qy f a b) x=f (mem a x) (mem b x):=by
 have:=(Zt (f:=f) _ 0 [] (j4 ha hb) trivial (fun _ h=>by cases h)).2 x hx
 rwa [if_neg (by omega)] at this
theorem vK {f:Bool->Bool->Bool} {a b c:List Iv} (ha:Nrm a) (hb:Nrm b) (hc:Nrm c) (h:∀ x,x<zk->mem c x=f (mem a x) (mem b x)):qy f a b=c:=
 Nrm.unique (qH ha hb) hc fun x hx=>by rw [qj ha hb hx,h x hx]
end Go.Proofs.YtopfkkogooocgaaGreat
namespace Go.Proofs.YtopfkkogooocgaaGreat
open Go.RowKit
def RdSl {α:Type} (sz:Nat) (rd:World->Nat->Nat->α->Prop) (lo hi:Nat) (w:World) (v:Value) (l:List α):Prop:=
 ∃ a cap,v=.slice a l.length cap/\l.length<=cap/\cap<=maxLen/\(l≠[]->∃ b off,a=some ⟨b,off,none⟩/\lo<=b/\b<hi/\∀ i (h:i<l.length),rd w b (off+i * sz) l[i])
theorem RdSl.keep {α:Type} {sz:Nat} {rd rd':World->Nat->Nat->α->Prop} {lo hi lo' hi':Nat} {w w':World} {v:Value} {l:List α} (h:RdSl sz rd lo hi w v l)
 (hl:lo'<=lo) (hh:hi<=hi') (hr:∀ b o x,lo<=b->b<hi->rd w b o x->rd' w' b o x):RdSl sz rd' lo' hi' w' v l:=by
 obtain⟨a,cap,hv,h1,h2,h3⟩:=h
 refine⟨a,cap,hv,h1,h2,fun hne=>?_⟩
 obtain⟨b,off,ha,hb1,hb2,hc⟩:=h3 hne
 exact⟨b,off,ha,by omega,by omega,fun i hi=>hr _ _ _ hb1 hb2 (hc i hi)⟩
theorem RdSl.nil {α:Type} {sz:Nat} {rd:World->Nat->Nat->α->Prop} {lo hi:Nat} {w:World} (a:Option Addr) (cap:Nat) (h:cap<=maxLen):RdSl sz rd lo hi w (.slice a 0 cap) []:=
 ⟨a,cap,rfl,Nat.zero_le _,h,fun h=>absurd rfl h⟩
theorem RdSl.len {α:Type} {sz:Nat} {rd:World->Nat->Nat->α->Prop} {lo hi:Nat} {w:World} {v:Value} {l:List α} (h:RdSl sz rd lo hi w v l):l.length<=maxLen:=by
 obtain⟨a,cap,hv,h1,h2,h3⟩:=h;omega
def rdIv (w:World) (b o:Nat) (s:Iv):Prop:=
 w.cell? ⟨b,o,none⟩=some (.int .u64 s.lo)/\w.cell? ⟨b,o+1,none⟩=some (.int .u64 s.hi)/\s.lo<zk/\s.hi<zk
theorem rdIv.keep {w w':World} {b o:Nat} {s:Iv} (h:rdIv w b o s) (hb:w'.heap[b]? = w.heap[b]?):rdIv w' b o s:=
 ⟨(World.cell?_of_block (a:=⟨b,o,none⟩) hb).trans h.1,(World.cell?_of_block (a:=⟨b,o+1,none⟩) hb).trans h.2.1,h.2.2⟩
def RdR (lo hi:Nat) (w:World) (v:Value) (l:List Iv):Prop:=RdSl 2 rdIv lo hi w v l
theorem RdR.keep {lo hi lo' hi':Nat} {w w':World} {v:Value} {l:List Iv} (h:RdR lo hi w v l) (hl:lo'<=lo) (hh:hi<=hi') (hb:∀ b,lo<=b->b<hi->w'.heap[b]? = w.heap[b]?):RdR lo' hi' w' v l:=
 RdSl.keep h hl hh fun b _ _ h1 h2 hx=>hx.keep (hb b h1 h2)
theorem RdR.below {hi n:Nat} {w w':World} {v:Value} {l:List Iv} (h:RdR 0 hi w v l) (hb:Below n w w') (hn:hi<=n):RdR 0 hi w' v l:=
 h.keep (Nat.le_refl _) (Nat.le_refl _) fun b _ h2=>hb.block b (by omega)
theorem RdR.bound {lo hi:Nat} {w:World} {v:Value} {l:List Iv} (h:RdR lo hi w v l):∀ s ∈ l,s.lo<zk/\s.hi<zk:=by
 obtain⟨a,cap,hv,h1,h2,h3⟩:=h
 intro s hs
 obtain⟨i,hi,rfl⟩:=List.getElem_of_mem hs
 obtain⟨b,off,_,_,_,hc⟩:=h3 (by intro e;subst e;simp at hi)
 exact(hc i hi).2.2
def xw (l:List Iv):List Value:=l.flatMap fun s=>[.int .u64 s.lo,.int .u64 s.hi]
theorem y6 (l:List Iv):(xw l).length=l.length * 2:=by
 induction l with
 | nil=>rfl
 | cons s l ih=>simp [xw] at ih ⊢;omega
theorem vy (l k:List Iv):xw (l++k)=xw l++xw k:=by simp [xw]
theorem vz (l:List Iv):∀(i:Nat) (h:i<l.length),(xw l)[i * 2]? = some (.int .u64 l[i].lo)/\(xw l)[i * 2+1]? = some (.int .u64 l[i].hi):=by
 induction l with
 | nil=>intro i h;simp at h
 | cons s l ih=>
   intro i h
   cases i with
   | zero=>simp [xw]
   | succ i=>
     have:=ih i (by simpa using h)
     have e:xw (s::l)=.int .u64 s.lo::.int .u64 s.hi::xw l:=rfl
     rw [e,show (i+1) * 2=i * 2+1+1 from by omega]
     simpa using this
def OwnR (base:Nat) (w:World) (v:Value) (l:List Iv):Prop:=w.ownsRow base 35 2 v l.length (xw l)/\∀ s ∈ l,s.lo<zk/\s.hi<zk
theorem OwnR.rd {base:Nat} {w:World} {v:Value} {l:List Iv} (h:OwnR base w v l):RdR base w.heap.size w v l:=by
 obtain⟨⟨h1,h2⟩,hb⟩:=h
 rcases h2 with⟨rfl,h0⟩ | ⟨g,cap,cur,rfl,hg,hh,hn,hc,hs,ht⟩
 ·obtain rfl:l=[]:=List.eq_nil_of_length_eq_zero h0
  exact RdSl.nil _ _ (by decide)
 ·refine⟨_,cap,rfl,hn,hc,fun _=>⟨g,0,rfl,hg,(Array.getElem?_eq_some_iff.1 hh).1,fun i hi=>?_⟩⟩
  have hf:=vz l i hi
  rw [<-ht,List.getElem?_take,List.getElem?_take,if_pos (by omega),if_pos (by omega)] at hf
  refine⟨?_,?_,hb _ (List.getElem_mem hi)⟩
  ·simp only [World.cell?,hh];simpa using hf.1
  ·simp only [World.cell?,hh];simpa using hf.2
theorem OwnR.nil (base:Nat) (w:World):OwnR base w (.slice none 0 0) []:=⟨World.ownsRow_nil _ _ _ _,fun _ h=>by cases h⟩
theorem OwnR.val {base:Nat} {w:World} {v:Value} {l:List Iv} (h:OwnR base w v l):∃ a cap,v=.slice a l.length cap:=by
 obtain⟨a,cap,e,_⟩:=h.rd;exact⟨a,cap,e⟩
theorem OwnR.below {base n:Nat} {w w':World} {v:Value} {l:List Iv} (h:OwnR base w v l) (hb:Below n w w') (hn:w.heap.size<=n):OwnR base w' v l:=
 ⟨(Keep.of_below' (S:=fun _=>False) hb hn).ownsRow h.1 fun _ _=>id,h.2⟩
theorem OwnR.keep {base:Nat} {S:Nat->Prop} {w w':World} {v:Value} {l:List Iv} (h:OwnR base w v l) (hb:Keep S w w') (hs:∀ g,base<=g->¬ S g):OwnR base w' v l:=
 ⟨hb.ownsRow h.1 fun g hg=>hs g ((h.1.lt g hg).1),h.2⟩
theorem OwnR.mono {base base':Nat} {w:World} {v:Value} {l:List Iv} (h:OwnR base w v l) (hb:base'<=base):OwnR base' w v l:=by
 refine⟨⟨h.1.1,?_⟩,h.2⟩
 rcases h.1.2 with hn | ⟨g,cap,cur,hv,hg,r⟩
 ·exact .inl hn
 ·exact .inr ⟨g,cap,cur,hv,by omega,r⟩
theorem zrj {n:Nat} {W w1:World} (hb:Below n W w1):(∀ b o,b<n->w1.cell? ⟨b,o,none⟩=W.cell? ⟨b,o,none⟩)/\(∀ b o,b<n->w1.frozen? ⟨b,o,none⟩=W.frozen? ⟨b,o,none⟩):=
 ⟨fun b o h=>hb.cell (p:=⟨b,o,none⟩) h,fun b o h=>hb.frozen (p:=⟨b,o,none⟩) h⟩
theorem qO {W w1:World} {n₀ B:Nat} {t e:TypeId} {size:Nat} {v v':Value} {k m:Nat} {xs ys:List Value} {tmp:Obj}
 (hv:Boxed W B t v) (hte:t≠e) (hrow:W.ownsRow n₀ e size v k xs) (hown':w1.ownsRow n₀ e size v' m ys) (hgrow:(W.alloc tmp).grownBy w1 v.ownBlock) :
 Boxed w1 B t v/\Boxed (w1.setCell ⟨B,0,none⟩ v') B t v'/\(w1.setCell ⟨B,0,none⟩ v').ownsRow n₀ e size v' m ys/\Keep (fun k=>k=B\/n₀<=k) W (w1.setCell ⟨B,0,none⟩ v'):=by
 have hv1:Boxed w1 B t v:=(hv.alloc tmp).kept hgrow (hv.not_row hte hrow)
 refine⟨hv1,hv1.set v',hown'.kept (grownBy_setCell' w1 B v') (.inr (hv1.not_row hte hown').symm),?_⟩
 refine Keep.setCell (p:=⟨B,0,none⟩) ?_ (fun _=>.inl rfl) _
 exact((Keep.refl _ W).alloc tmp).grown hgrow fun j ej _=>.inr ((hrow.lt j ej).1)
theorem kw {w:World} {B:Nat} {cs:Array Value} {t:TypeId} {fr:Nat × Nat} (hb:w.heap[B]? = some (.cells cs t fr)):∀ j u,cs.toList[j]? = some u->w.cell? ((⟨B,0,none⟩:Addr).add j)=some u:=fun j u hu=>by
 have hadd:(⟨B,0,none⟩:Addr).add j=⟨B,j,none⟩:=by unfold Addr.add;split<;>simp_all
 rw [hadd]
 simp only [World.cell?,hb]
 simpa using hu
theorem OwnR.snoc {base:Nat} {w w':World} {v v':Value} {l:List Iv} {s:Iv} (h:OwnR base w v l) (hs:s.lo<zk/\s.hi<zk)
 (ho:w'.ownsRow base 35 2 v' (l.length+1) (xw l++[.int .u64 s.lo,.int .u64 s.hi])):OwnR base w' v' (l++[s]):=by
 refine⟨?_,fun t ht=>?_⟩
 ·rw [vy,List.length_append];exact ho
 ·simp at ht;rcases ht with ht | rfl
  ·exact h.2 t ht
  ·exact hs
theorem Tryz.infoIv:(Tryz.prog.info? 35).map (fun i=>(i.zero,i.size,i.bytes))=some (some (Value.agg #[.int .u64 0,.int .u64 0]),2,16):=by kernel_rfl
theorem ZR {x:Nat} (h:x<zk):IntKind.u64.wrap (x:Int)=x:=by
 rw [zw] at h
 simp [IntKind.wrap,IntKind.bits,IntKind.signed]<;>omega
structure Kd (base:Nat) (w w':World):Prop where
 below:Below base w w'
 cell:∀ a v,w.cell? a=some v->∃ v',w'.cell? a=some v'/\(v'=v\/((∃ m,v=.int .u64 m)/\∃ m',v'=.int .u64 m'))
 frz:∀ a v,w.cell? a=some v->w'.frozen? a=w.frozen? a
theorem Kd.refl (base:Nat) (w:World):Kd base w w:=⟨Below.refl _ _,fun a v h=>⟨v,h,.inl rfl⟩,fun _ _ _=>rfl⟩
theorem Kd.trans {base:Nat} {w w1 w2:World} (h:Kd base w w1) (g:Kd base w1 w2):Kd base w w2:=by
 refine⟨h.below.trans g.below,fun a v hv=>?_,fun a v hv=>?_⟩
 ·obtain⟨v1,h1,h2⟩:=h.cell a v hv
  obtain⟨v2,g1,g2⟩:=g.cell a v1 h1
  refine⟨v2,g1,?_⟩
  rcases g2 with rfl | ⟨⟨m,hm⟩,g2⟩
  ·exact h2
  ·rcases h2 with rfl | ⟨h2,_⟩
   ·exact .inr ⟨⟨m,hm⟩,g2⟩
   ·exact .inr ⟨h2,g2⟩
 ·obtain⟨v1,h1,_⟩:=h.cell a v hv
  exact(g.frz a v1 h1).trans (h.frz a v hv)
theorem Kd.of_below {base:Nat} {w w':World} (h:Below w.heap.size w w') (hb:base<=w.heap.size):Kd base w w':=by
 refine⟨h.mono hb,fun a v hv=>?_,fun a v hv=>?_⟩
 ·have hlt:=World.block_lt_of_cell? _ _ hv
  exact⟨v,(World.cell?_of_block (h.block _ hlt)).trans hv,.inl rfl⟩
 ·have hlt:=World.block_lt_of_cell? _ _ hv
  unfold World.frozen?
  rw [h.block _ hlt]
theorem Kd.alloc {base:Nat} {w w1:World} (h:Kd base w w1) (hb:base<=w1.heap.size) (o:Obj):Kd base w (w1.alloc o):=
 h.trans (Kd.of_below ((Below.refl _ w1).alloc (Nat.le_refl _) o) hb)
theorem Kd.set {base:Nat} {w w1:World} (h:Kd base w w1) {b o:Nat} {m:Int} (hb:base<=b) (hc:w1.cell? ⟨b,o,none⟩=some (.int .u64 m)) (x:Int):Kd base w (w1.setCell ⟨b,o,none⟩ (.int .u64 x)):=by
 refine h.trans ⟨(Below.refl _ w1).setCell hb _,fun a v hv=>?_,fun a v _=>?_⟩
 ·by_cases e:a=⟨b,o,none⟩
  ·subst e
   rw [hc] at hv
   cases hv
   exact⟨_,World.cell?_setCell_same _ _ _ hc,.inr ⟨⟨m,rfl⟩,x,rfl⟩⟩
  ·exact⟨v,(World.cell?_setCell_other _ _ _ _ (Ne.symm e)).trans hv,.inl rfl⟩
 ·simp
theorem Kd.keep {base:Nat} {w w':World} (h:Kd base w w') {a:Addr} {v:Value} (hv:w.cell? a=some v) (hn:∀ m,v≠.int .u64 m):w'.cell? a=some v:=by
 obtain⟨v',h1,h2⟩:=h.cell a v hv
 rcases h2 with rfl | ⟨⟨m,hm⟩,_⟩
 ·exact h1
 ·exact absurd hm (hn m)
theorem Kd.num {base:Nat} {w w':World} (h:Kd base w w') {a:Addr} {m:Int} (hv:w.cell? a=some (.int .u64 m)) (hf:w.frozen? a=false):∃ m',w'.cell? a=some (.int .u64 m')/\w'.frozen? a=false:=by
 obtain⟨v',h1,h2⟩:=h.cell a _ hv
 refine(show ∃ m',v'=.int .u64 m' from ?_).elim fun m' e=>⟨m',e ▸ h1,(h.frz a _ hv).trans hf⟩
 rcases h2 with rfl | ⟨_,m',e⟩
 ·exact⟨m,rfl⟩
 ·exact⟨m',e⟩
def NumAt (S:Nat->Prop) (w:World) (b o:Nat):Prop:=S b/\∃ m,w.cell? ⟨b,o,none⟩=some (.int .u64 m)/\w.frozen? ⟨b,o,none⟩=false
def MuR (f:Nat->Nat->Prop) (sz:Nat) (v:Value) (n:Nat):Prop:=∃ a cap,v=.slice a n cap/\n<=cap/\cap<=maxLen/\(n≠0->∃ b off,a=some ⟨b,off,none⟩/\∀ j,j<n->f b (off+j * sz))
def MuI (S:Nat->Prop) (w:World) (v:Value):Prop:=∃ n,MuR (fun b o=>NumAt S w b o/\NumAt S w b (o+1)) 2 v n
def MuE (S:Nat->Prop) (w:World) (v:Value):Prop:=∃ n,MuR (fun b o=>NumAt S w b o/\NumAt S w b (o+1)/\∃ h,w.cell? ⟨b,o+2,none⟩=some h/\MuI S w h) 3 v n
def MuF (S:Nat->Prop) (w:World) (v:Value):Prop:=∃ n,MuR (fun b o=>(∃ h,w.cell? ⟨b,o,none⟩=some h/\MuI S w h)/\∃ h,w.cell? ⟨b,o+1,none⟩=some h/\MuE S w h) 2 v n
theorem MuR.imp {f g:Nat->Nat->Prop} {sz n:Nat} {v:Value} (h:MuR f sz v n) (hi:∀ b o,f b o->g b o):MuR g sz v n:=by
 obtain⟨a,cap,h1,h2,h3,h4⟩:=h
 refine⟨a,cap,h1,h2,h3,fun hn=>?_⟩
 obtain⟨b,off,e,h5⟩:=h4 hn
 exact⟨b,off,e,fun j hj=>hi _ _ (h5 j hj)⟩
theorem MuR.nil {f:Nat->Nat->Prop} {sz:Nat}:MuR f sz (.slice none 0 0) 0:=⟨none,0,rfl,Nat.le_refl _,by decide,fun h=>absurd rfl h⟩
section
variable {S T:Nat->Prop} {base b o:Nat} {w w':World} {v:Value}
theorem NumAt.kd (h:NumAt S w b o) (k:Kd base w w'):NumAt S w' b o:=⟨h.1,by
 obtain⟨_,m,h1,h2⟩:=h
 exact k.num h1 h2⟩
theorem NumAt.mono (h:NumAt S w b o) (hS:∀ b,S b->T b):NumAt T w b o:=⟨hS _ h.1,h.2⟩
theorem NumAt.same (h:NumAt S w b o) (hb:∀ b,S b->b<w.heap.size->w'.heap[b]? = w.heap[b]?):NumAt S w' b o:=⟨h.1,by
 obtain⟨h0,m,h1,h2⟩:=h
 have e:=hb b h0 (World.block_lt_of_cell? _ _ h1)
 exact⟨m,(World.cell?_of_block (a:=⟨b,o,none⟩) e).trans h1,by simp only [World.frozen?,e] at h2 ⊢;exact h2⟩⟩
theorem MuI.kd (h:MuI S w v) (k:Kd base w w'):MuI S w' v:=
 h.imp fun _ h=>h.imp fun _ _ h=>⟨h.1.kd k,h.2.kd k⟩
theorem MuI.mono (h:MuI S w v) (hS:∀ b,S b->T b):MuI T w v:=
 h.imp fun _ h=>h.imp fun _ _ h=>⟨h.1.mono hS,h.2.mono hS⟩
theorem MuI.same (h:MuI S w v) (hb:∀ b,S b->b<w.heap.size->w'.heap[b]? = w.heap[b]?):MuI S w' v:=
 h.imp fun _ h=>h.imp fun _ _ h=>⟨h.1.same hb,h.2.same hb⟩
theorem MuI.slice (h:MuI S w v):∀ m,v≠.int .u64 m:=by
 obtain⟨n,a,cap,rfl,_⟩:=h
 intro m e
 cases e
theorem MuE.slice (h:MuE S w v):∀ m,v≠.int .u64 m:=by
 obtain⟨n,a,cap,rfl,_⟩:=h
 intro m e
 cases e
theorem MuE.kd (h:MuE S w v) (k:Kd base w w'):MuE S w' v:=
 h.imp fun _ h=>h.imp fun _ _ h=>⟨h.1.kd k,h.2.1.kd k,h.2.2.imp fun _ g=>⟨k.keep g.1 g.2.slice,g.2.kd k⟩⟩
theorem MuE.mono (h:MuE S w v) (hS:∀ b,S b->T b):MuE T w v:=
 h.imp fun _ h=>h.imp fun _ _ h=>⟨h.1.mono hS,h.2.1.mono hS,h.2.2.imp fun _ g=>⟨g.1,g.2.mono hS⟩⟩
theorem MuE.same (h:MuE S w v) (hb:∀ b,S b->b<w.heap.size->w'.heap[b]? = w.heap[b]?):MuE S w' v:=
 h.imp fun _ h=>h.imp fun b _ h=>⟨h.1.same hb,h.2.1.same hb,h.2.2.imp fun _ g=>⟨(World.cell?_of_block (hb b h.1.1 (World.block_lt_of_cell? _ _ g.1))).trans g.1,g.2.same hb⟩⟩
theorem MuF.kd (h:MuF S w v) (k:Kd base w w'):MuF S w' v:=
 h.imp fun _ h=>h.imp fun _ _ h=>⟨h.1.imp fun _ g=>⟨k.keep g.1 g.2.slice,g.2.kd k⟩,h.2.imp fun _ g=>⟨k.keep g.1 g.2.slice,g.2.kd k⟩⟩
theorem MuF.mono (h:MuF S w v) (hS:∀ b,S b->T b):MuF T w v:=
 h.imp fun _ h=>h.imp fun _ _ h=>⟨h.1.imp fun _ g=>⟨g.1,g.2.mono hS⟩,h.2.imp fun _ g=>⟨g.1,g.2.mono hS⟩⟩
end
theorem OwnR.mu {base:Nat} {w:World} {v:Value} {l:List Iv} (h:OwnR base w v l):MuI (fun b=>base<=b/\b<w.heap.size) w v:=by
 obtain⟨ho,_⟩:=h
 rcases ho.2 with⟨rfl,h0⟩ | ⟨g,cap,cur,rfl,hg,hc,hn,hm,hs,ht⟩
 ·exact⟨0,MuR.nil⟩
 ·refine⟨l.length,some ⟨g,0,none⟩,cap,rfl,hn,hm,fun _=>⟨g,0,rfl,fun j hj=>?_⟩⟩
  have key:∀ i x,(xw l)[i]? = some x->w.cell? ⟨g,i,none⟩=some x/\w.frozen? ⟨g,i,none⟩=false:=fun i x hx=>by
   rw [<-ht] at hx
   have hx':cur[i]? = some x:=by
    rw [List.getElem?_take] at hx
    split at hx
    ·simpa using hx
    ·cases hx
   simp [World.cell?,World.frozen?,hc,hx']
  obtain⟨f1,f2⟩:=vz l j hj
  obtain⟨a1,a2⟩:=key _ _ f1
  obtain⟨b1,b2⟩:=key _ _ f2
  simp only [Nat.zero_add]
  have hgl:=(Array.getElem?_eq_some_iff.1 hc).1
  exact⟨⟨⟨hg,hgl⟩,_,a1,a2⟩,⟨hg,hgl⟩,_,b1,b2⟩
end Go.Proofs.YtopfkkogooocgaaGreat
