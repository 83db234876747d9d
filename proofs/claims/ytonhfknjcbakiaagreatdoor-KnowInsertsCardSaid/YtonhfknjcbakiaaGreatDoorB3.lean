import Derived.Test.YtonhfknjcbakiaaGreatDoorProg
import Derived.Test.YtonhfknjcbakiaaGreatDoorB2
set_option linter.unusedVariables false
set_option linter.unusedSimpArgs false
namespace Go.Proofs.YtonhfknjcbakiaaGreatDoor
def M64:Nat:=18446744073709551616
theorem zw:M64=18446744073709551616:=rfl
theorem xM:0<M64:=by rw [zw];omega
structure Iv where
 lo:Nat
 hi:Nat
deriving DecidableEq
theorem Iv.ext' {s t:Iv} (a:s.lo=t.lo) (j:s.hi=t.hi):s=t:=by cases s;cases t;simp_all
def mem (l:List Iv) (x:Nat):Bool:=l.any fun s=>decide (s.lo<=x) && decide (x<=s.hi)
@[simp] theorem Xf (x:Nat):mem [] x=false:=rfl
theorem zz (s:Iv) (l:List Iv) (x:Nat):mem (s::l) x=((decide (s.lo<=x) && decide (x<=s.hi)) || mem l x):=rfl
theorem yd (l k:List Iv) (x:Nat):mem (l++k) x=(mem l x || mem k x):=by simp [mem,List.any_append]
theorem qf {l:List Iv} {x:Nat}:mem l x=true ↔ ∃ s ∈ l,s.lo<=x/\x<=s.hi:=by simp [mem]
def NF:Nat->List Iv->Prop
 | _,[]=>True
 | n,s::l=>n<=s.lo/\s.lo<=s.hi/\s.hi<M64/\NF (s.hi+2) l
def Nrm (l:List Iv):Prop:=NF 0 l
theorem NF.mono {l:List Iv} {n m:Nat} (h:NF n l) (a:m<=n):NF m l:=by
 cases l with
 | nil=>trivial
 | cons s l=>exact⟨Nat.le_trans a h.1,h.2.1,h.2.2.1,h.2.2.2⟩
theorem NF.tail {s:Iv} {l:List Iv} {n:Nat} (h:NF n (s::l)):NF n l:=h.2.2.2.mono (by have:=h.1;have:=h.2.1;omega)
theorem NF.lo_ge {l:List Iv}:∀ {n:Nat},NF n l->∀ s ∈ l,n<=s.lo/\s.lo<=s.hi/\s.hi<M64:=by
 induction l with
 | nil=>intro n _ s hs;cases hs
 | cons t l ih=>
   intro n h s hs
   cases hs with
   | head=>exact⟨h.1,h.2.1,h.2.2.1⟩
   | tail _ hs=>have:=ih h.2.2.2 s hs;have:=h.1;have:=h.2.1;exact⟨by omega,by omega,by omega⟩
theorem NF.mem_ge {l:List Iv} {n:Nat} (h:NF n l) {x:Nat} (a:mem l x=true):n<=x/\x<M64:=by
 obtain⟨s,hs,j,u⟩:=qf.1 a
 have:=h.lo_ge s hs
 omega
theorem NF.mem_lt {l:List Iv} {n:Nat} (h:NF n l) {x:Nat} (a:x<n):mem l x=false:=by
 cases e:mem l x with
 | false=>rfl
 | true=>have:=(h.mem_ge e).1;omega
theorem NF.unique:∀ {a b:List Iv} {n:Nat},NF n a->NF n b->(∀ x,mem a x=mem b x)->a=b
 | [],[],_,_,_,_=>rfl
 | [],s::l,_,_,hb,h=>by
   have:=h s.lo
   have j:=hb.2.1
   simp [zz,j] at this
 | s::l,[],_,ha,_,h=>by
   have:=h s.lo
   have j:=ha.2.1
   simp [zz,j] at this
 | s::l,t::k,n,ha,hb,h=>by
   have I:=ha.2.1
   have J:=hb.2.1
   have C:s.lo=t.lo:=by
    have j:=h s.lo
    have H:=h t.lo
    rw [zz,zz] at j H
    have e1:mem l t.lo=true->s.hi+2<=t.lo:=fun e=>(ha.2.2.2.mem_ge e).1
    have e2:mem k s.lo=true->t.hi+2<=s.lo:=fun e=>(hb.2.2.2.mem_ge e).1
    cases c1:mem l t.lo<;>cases c2:mem k s.lo<;>simp_all<;>omega
   have B:s.hi=t.hi:=by
    rcases Nat.lt_trichotomy s.hi t.hi with L | A | K
    ·exfalso
     have j:=h (s.hi+1)
     have G:s.lo<=s.hi+1:=by omega
     have u:¬ s.hi+1<=s.hi:=by omega
     have w:t.lo<=s.hi+1:=by omega
     have y:s.hi+1<=t.hi:=by omega
     rw [zz,zz,ha.2.2.2.mem_lt (show s.hi+1<s.hi+2 by omega)] at j
     simp [u,w,y] at j
    ·exact A
    ·exfalso
     have j:=h (t.hi+1)
     have G:t.lo<=t.hi+1:=by omega
     have u:¬ t.hi+1<=t.hi:=by omega
     have w:s.lo<=t.hi+1:=by omega
     have y:t.hi+1<=s.hi:=by omega
     rw [zz,zz,hb.2.2.2.mem_lt (show t.hi+1<t.hi+2 by omega)] at j
     simp [u,w,y] at j
   have E:s=t:=Iv.ext' C B
   subst E
   have:l=k:=NF.unique (n:=s.hi+2) ha.2.2.2 hb.2.2.2 fun x=>by
    by_cases F:x<s.hi+2
    ·rw [ha.2.2.2.mem_lt F,hb.2.2.2.mem_lt F]
    ·have:=h x
     rw [zz,zz] at this
     have M:¬ x<=s.hi:=by omega
     simpa [M] using this
   rw [this]
theorem Nrm.unique {a b:List Iv} (j:Nrm a) (hb:Nrm b) (h:∀ x,x<M64->mem a x=mem b x):a=b:=
 NF.unique j hb fun x=>by
  by_cases u:x<M64
  ·exact h x u
  ·have:∀ {l},Nrm l->mem l x=false:=fun {l} hl=>by
    cases e:mem l x with
    | false=>rfl
    | true=>have:=(NF.mem_ge hl e).2;omega
   rw [this j,this hb]
theorem NF.append {a b:List Iv}:∀ {n:Nat},NF n a->(∀ m,n<=m->(∀ s ∈ a,s.hi+2<=m)->(a=[]->m=n)->NF m b->NF n (a++b)):=by
 induction a with
 | nil=>intro n _ m _ _ w hb;have:=w rfl;subst this;exact hb
 | cons s a ih=>
   intro n h m A hs _ hb
   refine⟨h.1,h.2.1,h.2.2.1,?_⟩
   have j:=hs s (by simp)
   cases a with
   | nil=>exact hb.mono j
   | cons t a=>exact ih h.2.2.2 m j (fun u y=>hs u (by simp [y])) (fun e=>by cases e) hb
def ye:List Iv->Nat->Option Nat
 | [],_=>none
 | s::l,x=>if x<s.lo then some s.lo else if s.hi+1<M64/\x<s.hi+1 then some (s.hi+1) else ye l x
def kv:Option Nat->Option Nat->Option Nat
 | none,b=>b
 | some x,none=>some x
 | some x,some y=>if y<x then some y else some x
theorem xr {l:List Iv} {x y:Nat} (h:ye l x=some y):x<y:=by
 induction l with
 | nil=>cases h
 | cons s l ih=>
   unfold ye at h
   split at h
   ·cases h;assumption
   ·split at h
    ·cases h;omega
    ·exact ih h
theorem vJ {l:List Iv} {n x y:Nat} (hl:NF n l) (h:ye l x=some y):y<M64:=by
 induction l generalizing n with
 | nil=>cases h
 | cons s l ih=>
   have a:=hl.2.1
   have j:=hl.2.2.1
   unfold ye at h
   split at h
   ·cases h;omega
   ·split at h
    ·cases h;omega
    ·exact ih hl.2.2.2 h
theorem xB {l:List Iv} {n x y z:Nat} (hl:NF n l) (h:ye l x=some y) (B:x<=z) (w:z<y):mem l z=mem l x:=by
 induction l generalizing n with
 | nil=>cases h
 | cons s l ih=>
   have a:=hl.2.1
   unfold ye at h
   split at h
   ·rename_i hlt
    cases h
    rw [(hl.2.2.2.mono (m:=s.lo) (by omega) |> fun k:NF s.lo l=>(show NF s.lo (s::l) from ⟨Nat.le_refl _,a,hl.2.2.1,hl.2.2.2⟩)).mem_lt w,
     (show NF s.lo (s::l) from ⟨Nat.le_refl _,a,hl.2.2.1,hl.2.2.2⟩).mem_lt hlt]
   ·split at h
    ·rename_i hn hc
     cases h
     have e1:mem l z=false:=hl.2.2.2.mem_lt (by omega)
     have e2:mem l x=false:=hl.2.2.2.mem_lt (by omega)
     rw [zz,zz,e1,e2]
     have:(s.lo<=z)=True:=by simp;omega
     have:(s.lo<=x)=True:=by simp;omega
     have:(z<=s.hi)=True:=by simp;omega
     have:(x<=s.hi)=True:=by simp;omega
     simp [*]
    ·rename_i hn hc
     rw [zz,zz,ih hl.2.2.2 h]
     have A:=hl.2.2.1
     by_cases C:s.hi+1<M64
     ·have j:¬ x<=s.hi:=by omega
      have u:¬ z<=s.hi:=by omega
      simp [j,u]
     ·exfalso
      have:l=[]:=by
       cases l with
       | nil=>rfl
       | cons t l=>have:=hl.2.2.2.1;have:=hl.2.2.2.2.1;have:=hl.2.2.2.2.2.1;omega
      subst this
      cases h
theorem kx {l:List Iv} {n x z:Nat} (hl:NF n l) (h:ye l x=none) (w:x<=z) (y:z<M64):mem l z=mem l x:=by
 induction l generalizing n with
 | nil=>rfl
 | cons s l ih=>
   have u:=hl.2.2.1
   unfold ye at h
   split at h
   ·cases h
   ·split at h
    ·cases h
    ·rename_i hn hc
     rw [zz,zz,ih hl.2.2.2 h]
     by_cases A:s.hi+1<M64
     ·have a:¬ x<=s.hi:=by omega
      have j:¬ z<=s.hi:=by omega
      simp [a,j]
     ·have:(s.lo<=z)=True:=by simp;omega
      have:(s.lo<=x)=True:=by simp;omega
      have:(z<=s.hi)=True:=by simp;omega
      have:(x<=s.hi)=True:=by simp;omega
      simp [*]
theorem zdt {s:Iv} {l:List Iv} {x:Nat} (h:s.hi<x) (a:s.lo<=s.hi):ye (s::l) x=ye l x:=by
 conv=>lhs;unfold ye
 rw [if_neg (by omega),if_neg (by omega)]
def QU (a b:List Iv):Nat->Nat->List (Iv × Bool × Bool)
 | 0,_=>[]
 | f+1,x=>
   match kv (ye a x) (ye b x) with
   | none=>[(⟨x,M64 - 1⟩,mem a x,mem b x)]
   | some y=>(⟨x,y - 1⟩,mem a x,mem b x)::QU a b f y
def yO (a b:List Iv):List (Iv × Bool × Bool):=QU a b M64 0
def Cov (a b:List Iv):Nat->List (Iv × Bool × Bool)->Prop
 | x,[]=>x=M64
 | x,(s,p,q)::r=>s.lo=x/\x<=s.hi/\s.hi<M64/\(∀ z,x<=z->z<=s.hi->mem a z=p/\mem b z=q)/\Cov a b (s.hi+1) r
theorem zbl {a b:Option Nat} (h:kv a b=none):a=none/\b=none:=by
 cases a<;>cases b<;>simp [kv] at h ⊢
 split at h<;>cases h
theorem zf0 {a b:List Iv} (w:Nrm a) (hb:Nrm b):∀(f x:Nat),x<M64->M64<=f+x->Cov a b x (QU a b f x):=by
 intro f
 induction f with
 | zero=>intro x B C;omega
 | succ f ih=>
   intro x B C
   unfold QU
   cases hm:kv (ye a x) (ye b x) with
   | none=>
     obtain⟨F,G⟩:=zbl hm
     refine⟨rfl,?_,?_,?_,?_⟩
     ·show x<=M64 - 1;omega
     ·show M64 - 1<M64;omega
     ·intro z j z2
      have A:z<M64:=by have:z<=M64 - 1:=z2;omega
      exact⟨kx w F j A,kx hb G j A⟩
     ·show M64 - 1+1=M64;omega
   | some y=>
     have E:x<y/\y<M64/\∀ z,x<=z->z<y->mem a z=mem a x/\mem b z=mem b x:=by
      cases ea:ye a x with
      | none=>
        rw [ea] at hm
        have eb:ye b x=some y:=hm
        refine⟨xr eb,vJ hb eb,fun z j z2=>⟨kx w ea j (by have:=vJ hb eb;omega),xB hb eb j z2⟩⟩
      | some u=>
        cases eb:ye b x with
        | none=>
          rw [ea,eb] at hm
          simp only [kv] at hm
          cases hm
          exact⟨xr ea,vJ w ea,fun z j z2=>⟨xB w ea j z2,kx hb eb j (by have:=vJ w ea;omega)⟩⟩
        | some v=>
          rw [ea,eb] at hm
          simp only [kv] at hm
          split at hm
          ·cases hm
           exact⟨xr eb,vJ hb eb,fun z j z2=>⟨xB w ea j (by omega),xB hb eb j z2⟩⟩
          ·cases hm
           exact⟨xr ea,vJ w ea,fun z j z2=>⟨xB w ea j z2,xB hb eb j (by omega)⟩⟩
     obtain⟨J,H,I⟩:=E
     refine⟨rfl,?_,?_,?_,?_⟩
     ·show x<=y - 1;omega
     ·show y - 1<M64;omega
     ·intro z j z2
      have:z<=y - 1:=z2
      exact I z j (by omega)
     ·show Cov a b (y - 1+1) _
      rw [show y - 1+1=y from by omega]
      exact ih y H (by omega)
theorem j4 {a b:List Iv} (j:Nrm a) (hb:Nrm b):Cov a b 0 (yO a b):=zf0 j hb M64 0 xM (by omega)
def Q8 (a:List Iv) (s:Iv):List Iv:=
 match a.getLast? with
 | none=>[s]
 | some t=>if t.hi+1=s.lo then a.dropLast++[⟨t.lo,s.hi⟩] else a++[s]
def qg (f:Bool->Bool->Bool) (a:List Iv):List (Iv × Bool × Bool)->List Iv
 | []=>a
 | (s,p,q)::r=>qg f (if f p q then Q8 a s else a) r
def qy (f:Bool->Bool->Bool) (a b:List Iv):List Iv:=qg f [] (yO a b)
theorem yf (f:Bool->Bool->Bool) (a:List Iv) (j u:List (Iv × Bool × Bool)):qg f a (j++u)=qg f (qg f a j) u:=by
 induction j generalizing a with
 | nil=>rfl
 | cons x j ih=>obtain⟨s,p,q⟩:=x;simp only [List.cons_append,qg];exact ih _
theorem NF.snoc {l:List Iv} {s:Iv} {n:Nat} (h:NF n l) (hl:∀ t ∈ l,t.hi+2<=s.lo) (w:n<=s.lo) (a:s.lo<=s.hi) (j:s.hi<M64):NF n (l++[s]):=by
 induction l generalizing n with
 | nil=>exact⟨w,a,j,trivial⟩
 | cons t l ih=>exact⟨h.1,h.2.1,h.2.2.1,ih h.2.2.2 (fun u y=>hl u (by simp [y])) (hl t (by simp))⟩
theorem NF.last_lt {l:List Iv} {t:Iv}:∀ {n:Nat},NF n (l++[t])->∀ u ∈ l,u.hi+2<=t.lo:=by
 induction l with
 | nil=>intro n _ u a;cases a
 | cons s l ih=>
   intro n h u a
   cases a with
   | head=>exact(h.2.2.2.lo_ge t (by simp)).1
   | tail _ a=>exact ih h.2.2.2 u a
theorem NF.init {l:List Iv} {t:Iv}:∀ {n:Nat},NF n (l++[t])->NF n l:=by
 induction l with
 | nil=>intro n _;trivial
 | cons s l ih=>intro n h;exact⟨h.1,h.2.1,h.2.2.1,ih h.2.2.2⟩
theorem Xm {j:List Iv} {s:Iv} (h:Nrm j) (hs:∀ t ∈ j,t.hi<s.lo) (y:s.lo<=s.hi) (w:s.hi<M64) :
 Nrm (Q8 j s)/\(∀ x,mem (Q8 j s) x=(mem j x || (decide (s.lo<=x) && decide (x<=s.hi))))/\∀ t ∈ Q8 j s,t.hi<=s.hi:=by
 rcases List.eq_nil_or_concat j with rfl | ⟨l,t,rfl⟩
 ·refine⟨⟨Nat.zero_le _,y,w,trivial⟩,fun x=>by simp [Q8,zz],fun t ht=>?_⟩
  simp [Q8] at ht;subst ht;exact Nat.le_refl _
 ·simp only [List.concat_eq_append] at *
  have ht:=NF.lo_ge h t (by simp)
  have A:=hs t (by simp)
  unfold Q8
  simp only [List.getLast?_concat,List.dropLast_concat]
  by_cases e:t.hi+1=s.lo
  ·rw [if_pos e]
   refine⟨NF.snoc (NF.init h) (fun u a=>by have:=NF.last_lt h u a;show u.hi+2<=t.lo;omega) (Nat.zero_le _) (by show t.lo<=s.hi;omega) w,fun x=>?_,fun u a=>?_⟩
   ·rw [yd,yd,zz,zz,Bool.or_assoc]
    congr 1
    simp only [Xf,Bool.or_false]
    rw [Bool.eq_iff_iff]
    simp
    omega
   ·simp at a
    rcases a with a | rfl
    ·have:=NF.last_lt h u a;omega
    ·exact Nat.le_refl _
  ·rw [if_neg e]
   refine⟨NF.snoc h (fun u a=>?_) (Nat.zero_le _) y w,fun x=>by rw [yd,zz];simp,fun u a=>?_⟩
   ·simp at a
    rcases a with a | rfl
    ·have:=NF.last_lt h u a;omega
    ·omega
   ·simp at a
    rcases a with a | rfl | rfl
    ·have:=NF.last_lt h u a;omega
    ·omega
    ·exact Nat.le_refl _
theorem Zt {f:Bool->Bool->Bool} {a b:List Iv}:∀(u:List (Iv × Bool × Bool)) (x:Nat) (j:List Iv),Cov a b x u->Nrm j->(∀ t ∈ j,t.hi<x) ->
 Nrm (qg f j u)/\∀ z,z<M64->mem (qg f j u) z=if z<x then mem j z else f (mem a z) (mem b z):=by
 intro u
 induction u with
 | nil=>
   intro x j B h _
   refine⟨h,fun z hz=>?_⟩
   have:x=M64:=B
   rw [if_pos (by omega)];rfl
 | cons y u ih=>
   intro x j B h E
   obtain⟨s,p,q⟩:=y
   obtain⟨L,S,M,A,I⟩:=B
   have F:∀ t ∈ j,t.hi<s.lo:=by rw [L];exact E
   have C:∀ z,x<=z->mem j z=false:=fun z hz=>by
    cases e:mem j z with
    | false=>rfl
    | true=>obtain⟨t,ht,_,N⟩:=qf.1 e;have:=E t ht;omega
   simp only [qg]
   by_cases e:f p q=true
   ·rw [if_pos e]
    obtain⟨O,P,Q⟩:=Xm h F (by omega) M
    obtain⟨G,H⟩:=ih (s.hi+1) _ I O (fun t ht=>by have:=Q t ht;omega)
    refine⟨G,fun z hz=>?_⟩
    rw [H z hz,P z]
    by_cases w:z<x
    ·rw [if_pos (by omega),if_pos w]
     have:¬ s.lo<=z:=by omega
     simp [this]
    ·rw [if_neg w]
     by_cases z2:z<s.hi+1
     ·rw [if_pos z2,(A z (by omega) (by omega)).1,(A z (by omega) (by omega)).2,e]
      have J:s.lo<=z:=by omega
      have K:z<=s.hi:=by omega
      simp [J,K]
     ·rw [if_neg z2]
   ·rw [if_neg e]
    obtain⟨G,H⟩:=ih (s.hi+1) _ I h (fun t ht=>by have:=E t ht;omega)
    refine⟨G,fun z hz=>?_⟩
    rw [H z hz]
    by_cases w:z<x
    ·rw [if_pos (by omega),if_pos w]
    ·rw [if_neg w]
     by_cases z2:z<s.hi+1
     ·rw [if_pos z2,(A z (by omega) (by omega)).1,(A z (by omega) (by omega)).2]
      rw [C z (by omega)]
      simpa using e
     ·rw [if_neg z2]
theorem qH {f:Bool->Bool->Bool} {a b:List Iv} (j:Nrm a) (hb:Nrm b):Nrm (qy f a b):=(Zt (f:=f) _ 0 [] (j4 j hb) trivial (fun _ h=>by cases h)).1
theorem qj {f:Bool->Bool->Bool} {a b:List Iv} (j:Nrm a) (hb:Nrm b) {x:Nat} (u:x<M64):mem (qy f a b) x=f (mem a x) (mem b x):=by
 have:=(Zt (f:=f) _ 0 [] (j4 j hb) trivial (fun _ h=>by cases h)).2 x u
 rwa [if_neg (by omega)] at this
theorem vK {f:Bool->Bool->Bool} {a b c:List Iv} (j:Nrm a) (hb:Nrm b) (w:Nrm c) (h:∀ x,x<M64->mem c x=f (mem a x) (mem b x)):qy f a b=c:=
 Nrm.unique (qH j hb) w fun x u=>by rw [qj j hb u,h x u]
end Go.Proofs.YtonhfknjcbakiaaGreatDoor
namespace Go.Proofs.YtonhfknjcbakiaaGreatDoor
open Go.RowKit
def RdSl {α:Type} (y:Nat) (rd:World->Nat->Nat->α->Prop) (lo hi:Nat) (w:World) (v:Value) (l:List α):Prop:=
 ∃ a j,v=.slice a l.length j/\l.length<=j/\j<=maxLen/\(l≠[]->∃ b u,a=some ⟨b,u,none⟩/\lo<=b/\b<hi/\∀ i (h:i<l.length),rd w b (u+i * y) l[i])
theorem RdSl.keep {α:Type} {G:Nat} {rd y:World->Nat->Nat->α->Prop} {lo hi u j:Nat} {w w':World} {v:Value} {l:List α} (h:RdSl G rd lo hi w v l)
 (hl:u<=lo) (O:hi<=j) (M:∀ b o x,lo<=b->b<hi->rd w b o x->y w' b o x):RdSl G y u j w' v l:=by
 obtain⟨a,A,N,H,I,J⟩:=h
 refine⟨a,A,N,H,I,fun E=>?_⟩
 obtain⟨b,F,K,B,C,L⟩:=J E
 exact⟨b,F,K,by omega,by omega,fun i hi=>M _ _ _ B C (L i hi)⟩
theorem RdSl.nil {α:Type} {u:Nat} {rd:World->Nat->Nat->α->Prop} {lo hi:Nat} {w:World} (a:Option Addr) (j:Nat) (h:j<=maxLen):RdSl u rd lo hi w (.slice a 0 j) []:=
 ⟨a,j,rfl,Nat.zero_le _,h,fun h=>absurd rfl h⟩
theorem RdSl.len {α:Type} {u:Nat} {rd:World->Nat->Nat->α->Prop} {lo hi:Nat} {w:World} {v:Value} {l:List α} (h:RdSl u rd lo hi w v l):l.length<=maxLen:=by
 obtain⟨a,j,C,y,A,B⟩:=h;omega
def rdIv (w:World) (b o:Nat) (s:Iv):Prop:=
 w.cell? ⟨b,o,none⟩=some (.int .u64 s.lo)/\w.cell? ⟨b,o+1,none⟩=some (.int .u64 s.hi)/\s.lo<M64/\s.hi<M64
theorem rdIv.keep {w w':World} {b o:Nat} {s:Iv} (h:rdIv w b o s) (hb:w'.heap[b]? = w.heap[b]?):rdIv w' b o s:=
 ⟨(World.cell?_of_block (a:=⟨b,o,none⟩) hb).trans h.1,(World.cell?_of_block (a:=⟨b,o+1,none⟩) hb).trans h.2.1,h.2.2⟩
def RdR (lo hi:Nat) (w:World) (v:Value) (l:List Iv):Prop:=RdSl 2 rdIv lo hi w v l
theorem RdR.keep {lo hi j a:Nat} {w w':World} {v:Value} {l:List Iv} (h:RdR lo hi w v l) (hl:j<=lo) (A:hi<=a) (hb:∀ b,lo<=b->b<hi->w'.heap[b]? = w.heap[b]?):RdR j a w' v l:=
 RdSl.keep h hl A fun b _ _ u y B=>B.keep (hb b u y)
theorem RdR.below {hi n:Nat} {w a:World} {v:Value} {l:List Iv} (h:RdR 0 hi w v l) (hb:Below n w a) (u:hi<=n):RdR 0 hi a v l:=
 h.keep (Nat.le_refl _) (Nat.le_refl _) fun b _ j=>hb.block b (by omega)
theorem RdR.bound {lo hi:Nat} {w:World} {v:Value} {l:List Iv} (h:RdR lo hi w v l):∀ s ∈ l,s.lo<M64/\s.hi<M64:=by
 obtain⟨a,j,E,B,C,u⟩:=h
 intro s hs
 obtain⟨i,hi,rfl⟩:=List.getElem_of_mem hs
 obtain⟨b,A,_,_,_,y⟩:=u (by intro e;subst e;simp at hi)
 exact(y i hi).2.2
def xw (l:List Iv):List Value:=l.flatMap fun s=>[.int .u64 s.lo,.int .u64 s.hi]
theorem y6 (l:List Iv):(xw l).length=l.length * 2:=by
 induction l with
 | nil=>rfl
 | cons s l ih=>simp [xw] at ih ⊢;omega
theorem vy (l k:List Iv):xw (l++k)=xw l++xw k:=by simp [xw]
theorem vz (l:List Iv):∀(i:Nat) (h:i<l.length),(xw l)[i * 2]? = some (.int .u64 l[i].lo)/\(xw l)[i * 2+1]? = some (.int .u64 l[i].hi):=by
 induction l with
 | nil=>intro i h;simp at h
 | cons s l ih=>
   intro i h
   cases i with
   | zero=>simp [xw]
   | succ i=>
     have:=ih i (by simpa using h)
     have e:xw (s::l)=.int .u64 s.lo::.int .u64 s.hi::xw l:=rfl
     rw [e,show (i+1) * 2=i * 2+1+1 from by omega]
     simpa using this
def OwnR (base:Nat) (w:World) (v:Value) (l:List Iv):Prop:=w.ownsRow base 36 2 v l.length (xw l)/\∀ s ∈ l,s.lo<M64/\s.hi<M64
theorem OwnR.rd {base:Nat} {w:World} {v:Value} {l:List Iv} (h:OwnR base w v l):RdR base w.heap.size w v l:=by
 obtain⟨⟨G,B⟩,hb⟩:=h
 rcases B with⟨rfl,A⟩ | ⟨g,a,y,rfl,E,u,F,C,hs,ht⟩
 ·obtain rfl:l=[]:=List.eq_nil_of_length_eq_zero A
  exact RdSl.nil _ _ (by decide)
 ·refine⟨_,a,rfl,F,C,fun _=>⟨g,0,rfl,E,(Array.getElem?_eq_some_iff.1 u).1,fun i hi=>?_⟩⟩
  have j:=vz l i hi
  rw [<-ht,List.getElem?_take,List.getElem?_take,if_pos (by omega),if_pos (by omega)] at j
  refine⟨?_,?_,hb _ (List.getElem_mem hi)⟩
  ·simp only [World.cell?,u];simpa using j.1
  ·simp only [World.cell?,u];simpa using j.2
theorem OwnR.nil (base:Nat) (w:World):OwnR base w (.slice none 0 0) []:=⟨World.ownsRow_nil _ _ _ _,fun _ h=>by cases h⟩
theorem OwnR.val {base:Nat} {w:World} {v:Value} {l:List Iv} (h:OwnR base w v l):∃ a j,v=.slice a l.length j:=by
 obtain⟨a,j,e,_⟩:=h.rd;exact⟨a,j,e⟩
theorem OwnR.below {base n:Nat} {w a:World} {v:Value} {l:List Iv} (h:OwnR base w v l) (hb:Below n w a) (j:w.heap.size<=n):OwnR base a v l:=
 ⟨(Keep.of_below' (S:=fun _=>False) hb j).ownsRow h.1 fun _ _=>id,h.2⟩
theorem OwnR.keep {base:Nat} {S:Nat->Prop} {w w':World} {v:Value} {l:List Iv} (h:OwnR base w v l) (hb:Keep S w w') (hs:∀ g,base<=g->¬ S g):OwnR base w' v l:=
 ⟨hb.ownsRow h.1 fun g a=>hs g ((h.1.lt g a).1),h.2⟩
theorem OwnR.mono {base a:Nat} {w:World} {v:Value} {l:List Iv} (h:OwnR base w v l) (hb:a<=base):OwnR a w v l:=by
 refine⟨⟨h.1.1,?_⟩,h.2⟩
 rcases h.1.2 with y | ⟨g,j,u,A,B,r⟩
 ·exact .inl y
 ·exact .inr ⟨g,j,u,A,by omega,r⟩
theorem qO {W A:World} {G B:Nat} {t e:TypeId} {size:Nat} {v y:Value} {k m:Nat} {K I:List Value} {E:Obj}
 (H:Boxed W B t v) (F:t≠e) (w:W.ownsRow G e size v k K) (u:A.ownsRow G e size y m I) (a:(W.alloc E).grownBy A v.ownBlock) :
 Boxed A B t v/\Boxed (A.setCell ⟨B,0,none⟩ y) B t y/\(A.setCell ⟨B,0,none⟩ y).ownsRow G e size y m I/\Keep (fun k=>k=B\/G<=k) W (A.setCell ⟨B,0,none⟩ y):=by
 have C:Boxed A B t v:=(H.alloc E).kept a (H.not_row F w)
 refine⟨C,C.set y,u.kept (grownBy_setCell' A B y) (.inr (C.not_row F u).symm),?_⟩
 refine Keep.setCell (p:=⟨B,0,none⟩) ?_ (fun _=>.inl rfl) _
 exact((Keep.refl _ W).alloc E).grown a fun j J _=>.inr ((w.lt j J).1)
theorem kw {w:World} {B:Nat} {cs:Array Value} {t:TypeId} {fr:Nat × Nat} (hb:w.heap[B]? = some (.cells cs t fr)):∀ j u,cs.toList[j]? = some u->w.cell? ((⟨B,0,none⟩:Addr).add j)=some u:=fun j u y=>by
 have a:(⟨B,0,none⟩:Addr).add j=⟨B,j,none⟩:=by unfold Addr.add;split<;>simp_all
 rw [a]
 simp only [World.cell?,hb]
 simpa using y
theorem OwnR.snoc {base:Nat} {w j:World} {v a:Value} {l:List Iv} {s:Iv} (h:OwnR base w v l) (hs:s.lo<M64/\s.hi<M64)
 (ho:j.ownsRow base 36 2 a (l.length+1) (xw l++[.int .u64 s.lo,.int .u64 s.hi])):OwnR base j a (l++[s]):=by
 refine⟨?_,fun t ht=>?_⟩
 ·rw [vy,List.length_append];exact ho
 ·simp at ht;rcases ht with ht | rfl
  ·exact h.2 t ht
  ·exact hs
theorem Tryz.infoIv:(Tryz.prog.info? 36).map (fun i=>(i.zero,i.size,i.bytes))=some (some (Value.agg #[.int .u64 0,.int .u64 0]),2,16):=by kernel_rfl
theorem ZR {x:Nat} (h:x<M64):IntKind.u64.wrap (x:Int)=x:=by
 rw [zw] at h
 simp [IntKind.wrap,IntKind.bits,IntKind.signed]<;>omega
theorem zeB:IntKind.u64.wrap (((M64 - 1:Nat):Int)+1)=0:=by decide
theorem Jc {x y:Nat} (h:y<=x) (a:x<M64):IntKind.u64.wrap ((x:Int) - y)=((x - y:Nat):Int):=by
 rw [show ((x:Int) - y)=((x - y:Nat):Int) from by omega];exact ZR (by omega)
theorem Zj {x:Nat} (h:1<=x) (a:x<M64):IntKind.u64.wrap ((x:Int) - 1)=((x - 1:Nat):Int):=Jc (y:=1) h a
theorem zbV {x:Nat} (a:x+1<M64):IntKind.u64.wrap ((x:Int)+1)=(x:Int)+1:=by
 have:=ZR (x:=x+1) a;push_cast at this;exact this
theorem kO (x:Nat) (w:World) (h:x+1<M64):Calls Tryz.prog 196 #[.int .u64 x] w fun e a=>e=.returned (.tuple #[.int .u64 ((x:Int)+1),.bool true])/\w=a:=by
 have j:=zbV h
 have u:((x:Int)+1 != 0)=true:=by simp;omega
 go_enter Tryz.func196,Tryz.ntmps196
 go_wp2
 go_ret2
 exact⟨rfl,rfl⟩
theorem V9 (w:World):Calls Tryz.prog 196 #[.int .u64 ((M64 - 1:Nat):Int)] w fun e a=>e=.returned (.tuple #[.int .u64 0,.bool false])/\w=a:=by
 have j:=zeB
 generalize ((M64 - 1:Nat):Int)=m at *
 go_enter Tryz.func196,Tryz.ntmps196
 go_wp2
 go_ret2
 exact⟨rfl,rfl⟩
theorem ya (a b:Nat) (w:World) (h:b<=a):Calls Tryz.prog 168 #[.int .u64 a,.int .u64 b] w fun e j=>e=.returned (.tuple #[.int .u64 0,.bool false])/\w=j:=by
 go_enter Tryz.func168,Tryz.ntmps168
 go_wp2
 go_ret2
 exact⟨rfl,rfl⟩
theorem yX (a b:Nat) (w:World) (h:a<b) (hb:b<M64):Calls Tryz.prog 168 #[.int .u64 a,.int .u64 b] w fun e A=>e=.returned (.tuple #[.int .u64 ((b - a - 1:Nat):Int),.bool true])/\w=A:=by
 have B:=Jc (x:=b) (y:=a) (by omega) hb
 have j:=Zj (x:=b - a) (by omega) (by omega)
 generalize b - a=d at *
 have u:=Lib.hid j
 clear j
 go_enter Tryz.func168,Tryz.ntmps168
 go_wp2
 rw [u.out]
 go_ret2
 exact⟨rfl,rfl⟩
def zR (s t:Iv):Nat:=if s.hi<t.lo then (if s.hi+1=t.lo then 1 else 0) else if t.hi<s.lo then (if t.hi+1=s.lo then 3 else 4) else 2
theorem QF (s t:Iv) (w:World) (hs:s.lo<=s.hi) (ht:t.lo<=t.hi) (F:s.hi<M64) (G:t.hi<M64) :
 Calls Tryz.prog 122 #[.agg #[.int .u64 s.lo,.int .u64 s.hi],.agg #[.int .u64 t.lo,.int .u64 t.hi]] w fun e u=>e=.returned (.int .i64 (zR s t))/\Below w.heap.size w u:=by
 have H:∀ n:Nat,zR s t=n->Hid (zR s t=n):=fun _ h=>h
 by_cases B:s.hi<t.lo
 ·by_cases A:s.hi+1=t.lo
  ·have a:=Lib.hid A
   clear A
   have R:=H 1 (by unfold zR;rw [if_pos B,if_pos a.out])
   have y:=Lib.hid (show t.lo - s.hi - 1=0 by have:=a.out;omega)
   clear H
   go_enter Tryz.func122,Tryz.ntmps122
   go_wp2_with (first | (go_at_call 168;with_reducible refine(yX s.hi t.lo _ (by omega) (by omega)).mono ?_;rw [y.out];rintro e u ⟨rfl,rfl⟩) | (go_at_call 168;with_reducible refine(ya t.hi s.lo _ (by omega)).mono ?_;rintro e u ⟨rfl,rfl⟩))
   go_ret
   rw [R.out]
   exact⟨rfl,((Below.refl _ _).alloc (Nat.le_refl _) _).alloc (by simp) _⟩
  ·have R:=H 0 (by unfold zR;rw [if_pos B,if_neg A])
   obtain⟨g,j⟩:∃ g,t.lo - s.hi - 1=g:=⟨_,rfl⟩
   have E:0<g:=by omega
   have y:=Lib.hid j
   clear j
   clear H
   go_enter Tryz.func122,Tryz.ntmps122
   go_wp2_with (first | (go_at_call 168;with_reducible refine(yX s.hi t.lo _ (by omega) (by omega)).mono ?_;rw [y.out];rintro e u ⟨rfl,rfl⟩) | (go_at_call 168;with_reducible refine(ya t.hi s.lo _ (by omega)).mono ?_;rintro e u ⟨rfl,rfl⟩))
   go_ret
   rw [R.out]
   exact⟨rfl,((Below.refl _ _).alloc (Nat.le_refl _) _).alloc (by simp) _⟩
 ·by_cases C:t.hi<s.lo
  ·by_cases A:t.hi+1=s.lo
   ·have a:=Lib.hid A
    clear A
    have R:=H 3 (by unfold zR;rw [if_neg B,if_pos C,if_pos a.out])
    have y:=Lib.hid (show s.lo - t.hi - 1=0 by have:=a.out;omega)
    clear H
    go_enter Tryz.func122,Tryz.ntmps122
    go_wp2_with (first | (go_at_call 168;with_reducible refine(ya s.hi t.lo _ (by omega)).mono ?_;rintro e u ⟨rfl,rfl⟩) | (go_at_call 168;with_reducible refine(yX t.hi s.lo _ (by omega) (by omega)).mono ?_;rw [y.out];rintro e u ⟨rfl,rfl⟩))
    go_ret
    rw [R.out]
    exact⟨rfl,((Below.refl _ _).alloc (Nat.le_refl _) _).alloc (by simp) _⟩
   ·have R:=H 4 (by unfold zR;rw [if_neg B,if_pos C,if_neg A])
    obtain⟨g,j⟩:∃ g,s.lo - t.hi - 1=g:=⟨_,rfl⟩
    have E:0<g:=by omega
    have y:=Lib.hid j
    clear j
    clear H
    go_enter Tryz.func122,Tryz.ntmps122
    go_wp2_with (first | (go_at_call 168;with_reducible refine(ya s.hi t.lo _ (by omega)).mono ?_;rintro e u ⟨rfl,rfl⟩) | (go_at_call 168;with_reducible refine(yX t.hi s.lo _ (by omega) (by omega)).mono ?_;rw [y.out];rintro e u ⟨rfl,rfl⟩))
    go_ret
    rw [R.out]
    exact⟨rfl,((Below.refl _ _).alloc (Nat.le_refl _) _).alloc (by simp) _⟩
  ·have R:=H 2 (by unfold zR;rw [if_neg B,if_neg C])
   clear H
   go_enter Tryz.func122,Tryz.ntmps122
   go_wp2_with (first | (go_at_call 168;with_reducible refine(ya s.hi t.lo _ (by omega)).mono ?_;rintro e u ⟨rfl,rfl⟩) | (go_at_call 168;with_reducible refine(ya t.hi s.lo _ (by omega)).mono ?_;rintro e u ⟨rfl,rfl⟩))
   go_ret
   rw [R.out]
   exact⟨rfl,((Below.refl _ _).alloc (Nat.le_refl _) _).alloc (by simp) _⟩
end Go.Proofs.YtonhfknjcbakiaaGreatDoor
