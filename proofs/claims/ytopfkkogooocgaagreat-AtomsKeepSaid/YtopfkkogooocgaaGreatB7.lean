import Derived.Test.YtopfkkogooocgaaGreatB5
import Derived.Test.YtopfkkogooocgaaGreatB6
set_option linter.unusedVariables false
set_option linter.unusedSimpArgs false
namespace Go.Proofs.YtopfkkogooocgaaGreat
theorem xR (f:Bool->Bool->Bool) (a b:List Iv):(qy f a b).length<=2 * (a.length+b.length)+1:=Nat.le_trans (jD f _ _) (by simpa using jF a b)
structure En where
 rep:Nat
 max:Nat
 holes:List Iv
deriving DecidableEq
theorem En.ext' {e f:En} (h1:e.rep=f.rep) (h2:e.max=f.max) (h3:e.holes=f.holes):e=f:=by cases e;cases f;simp_all
def zO (e:En):Prop:=Nrm e.holes/\(∀ s ∈ e.holes,s.hi<=e.max)/\e.max<zk/\e.rep<zk
theorem qG {m n:Nat} (h:m<=n) (h':n<zk):Nrm [⟨m,n⟩]:=⟨Nat.zero_le _,h,h',trivial⟩
theorem jl (m n x:Nat):mem [⟨m,n⟩] x=(decide (m<=x) && decide (x<=n)):=by simp [mem]
def kn (e:En):List Iv:=qy zm [⟨0,e.max⟩] e.holes
theorem qT {e:En} (h:zO e):Nrm (kn e):=qH (qG (Nat.zero_le _) h.2.2.1) h.1
theorem vC {e:En} (h:zO e) {x:Nat} (hx:x<zk):mem (kn e) x=(decide (x<=e.max) && !mem e.holes x):=by
 unfold kn
 rw [qj (qG (Nat.zero_le _) h.2.2.1) h.1 hx,jl]
 simp [zm]
def QV (l:List Iv):Nat:=match l.getLast? with
 | some s=>s.hi
 | none=>0
theorem Kr {l:List Iv} (h:0<l.length):l[l.length - 1].hi=QV l:=by
 unfold QV
 rw [List.getLast?_eq_getElem?,List.getElem?_eq_getElem (by omega)]
theorem x9 {l:List Iv} (hl:Nrm l) (h:l≠[]):mem l (QV l)=true/\QV l<zk:=by
 have h':0<l.length:=List.length_pos_iff.2 h
 have:=NF.lo_ge hl l[l.length - 1] (List.getElem_mem _)
 rw [<-Kr h']
 exact⟨qf.2 ⟨_,List.getElem_mem _,this.2.1,Nat.le_refl _⟩,this.2.2⟩
theorem zek {l:List Iv} (hl:Nrm l) {x:Nat} (hx:mem l x=true):x<=QV l:=by
 obtain⟨s,hs,h1,h2⟩:=qf.1 hx
 have hne:l≠[]:=by intro e;subst e;cases hs
 obtain⟨k,t,rfl⟩:=List.eq_nil_or_concat l |>.resolve_left hne
 unfold QV
 rw [List.concat_eq_append] at *
 rw [List.getLast?_concat]
 rcases List.mem_append.1 hs with h | h
 ·have:=hl.last_lt s h
  have:=(NF.lo_ge hl t (by simp)).2.1
  simp only;omega
 ·simp at h;subst h;exact h2
def Qi (r:Nat) (l:List Iv):En × Bool:=if l=[] then (⟨0,0,[]⟩,false) else (⟨r,QV l,qy zm [⟨0,QV l⟩] l⟩,true)
theorem qD {r:Nat} {l:List Iv} (h:l≠[]):Qi r l=(⟨r,QV l,qy zm [⟨0,QV l⟩] l⟩,true):=if_neg h
theorem zaj (r:Nat) (l:List Iv):(Qi r l).2=decide (l≠[]):=by
 unfold Qi
 split
 ·rename_i h;simp [h]
 ·rename_i h;simp [h]
theorem k9 {r:Nat} {l:List Iv} (hr:r<zk) (hl:Nrm l):zO (Qi r l).1:=by
 by_cases h:l=[]
 ·subst h;exact⟨trivial,(fun _ h=>by cases h),xM,xM⟩
 ·rw [qD h]
  have ht:=(x9 hl h).2
  have hn:Nrm (qy zm [⟨0,QV l⟩] l):=qH (qG (Nat.zero_le _) ht) hl
  refine⟨hn,fun s hs=>?_,ht,hr⟩
  have h1:=NF.lo_ge hn s hs
  have h2:mem (qy zm [⟨0,QV l⟩] l) s.hi=true:=qf.2 ⟨s,hs,h1.2.1,Nat.le_refl _⟩
  rw [qj (qG (Nat.zero_le _) ht) hl h1.2.2,jl] at h2
  simp [zm] at h2
  exact h2.1
theorem JO {r:Nat} {l:List Iv} (hr:r<zk) (hl:Nrm l) (h:l≠[]):kn (Qi r l).1=l:=by
 have hR:=k9 hr hl
 refine Nrm.unique (qT hR) hl fun x hx=>?_
 rw [vC hR hx]
 rw [qD h]
 have ht:=(x9 hl h).2
 simp only
 rw [qj (qG (Nat.zero_le _) ht) hl hx,jl]
 simp only [zm]
 by_cases hxt:x<=QV l
 ·simp [hxt]
 ·have:mem l x=false:=by
   cases e:mem l x with
   | false=>rfl
   | true=>exact absurd (zek hl e) hxt
  simp [hxt,this]
def YP (e:En):Prop:=zO e/\∀ s ∈ e.holes,s.hi<e.max
theorem zeO {e:En} (h:YP e):mem e.holes e.max=false:=by
 cases h':mem e.holes e.max with
 | false=>rfl
 | true=>
   obtain⟨s,hs,_,h2⟩:=qf.1 h'
   have:=h.2 s hs
   omega
theorem jO {e:En} (h:YP e):kn e≠[]/\QV (kn e)=e.max:=by
 have hm:mem (kn e) e.max=true:=by rw [vC h.1 h.1.2.2.1,zeO h];simp
 have hne:kn e≠[]:=by intro h';rw [h'] at hm;cases hm
 refine⟨hne,?_⟩
 have h1:=zek (qT h.1) hm
 have h2:=x9 (qT h.1) hne
 rw [vC h.1 h2.2] at h2
 simp at h2
 omega
theorem ZM {e:En} (h:YP e):Qi e.rep (kn e)=(e,true):=by
 obtain⟨h1,h2⟩:=jO h
 rw [qD h1,h2]
 have:qy zm [⟨0,e.max⟩] (kn e)=e.holes:=by
  refine vK (qG (Nat.zero_le _) h.1.2.2.1) (qT h.1) h.1.1 fun x hx=>?_
  rw [vC h.1 hx,jl]
  simp only [zm]
  by_cases hx':x<=e.max
  ·simp [hx']
  ·have:mem e.holes x=false:=by
    cases h':mem e.holes x with
    | false=>rfl
    | true=>
      obtain⟨s,hs,_,h2⟩:=qf.1 h'
      have:=h.1.2.1 s hs
      omega
   simp [hx',this]
 rw [this]
theorem zak {r:Nat} {l:List Iv} (hr:r<zk) (hl:Nrm l) (h:l≠[]):YP (Qi r l).1:=by
 refine⟨k9 hr hl,fun s hs=>?_⟩
 have hR:=k9 hr hl
 have h1:=hR.2.1 s hs
 rcases Nat.lt_or_eq_of_le h1 with h2 | h2
 ·exact h2
 ·have h3:mem (Qi r l).1.holes (Qi r l).1.max=true:=qf.2 ⟨s,hs,by have:=NF.lo_ge hR.1 s hs;omega,by omega⟩
  have h4:=x9 hl h
  have h5:mem (kn (Qi r l).1) (QV l)=true:=by rw [JO hr hl h];exact h4.1
  rw [vC hR h4.2] at h5
  rw [qD h] at h3 h5
  simp only at h3 h5
  rw [h3] at h5
  simp at h5
theorem Jm {e:En} (h:zO e) {l:List Iv} {s:Iv} (hs:e.holes=l++[s]) (hm:e.max<=s.hi) (h0:0<s.lo):zO ⟨e.rep,s.lo - 1,l⟩/\kn ⟨e.rep,s.lo - 1,l⟩=kn e:=by
 have hn:Nrm (l++[s]):=hs ▸ h.1
 have hs1:=NF.lo_ge hn s (by simp)
 have hR:zO ⟨e.rep,s.lo - 1,l⟩:=by
  refine⟨hn.init,fun t ht=>?_,?_,h.2.2.2⟩
  ·have:=hn.last_lt t ht
   simp only;omega
  ·simp only;omega
 refine⟨hR,Nrm.unique (qT hR) (qT h) fun x hx=>?_⟩
 have hmax:s.hi=e.max:=by have:=h.2.1 s (by rw [hs];simp);omega
 rw [vC hR hx,vC h hx,hs,yd,mem_one' s x]
 simp only
 by_cases h1:x<=s.lo - 1
 ·have e1:x<=e.max:=by omega
  have e2:¬ s.lo<=x:=by omega
  simp [h1,e1,e2]
 ·by_cases h2:x<=e.max
  ·have e2:s.lo<=x:=by omega
   have e3:x<=s.hi:=by omega
   simp [h1,e2,e3]
  ·simp [h1,h2]
where mem_one' (s:Iv) (x:Nat):mem [s] x=(decide (s.lo<=x) && decide (x<=s.hi)):=by simp [mem]
theorem Jl {e:En} (h:zO e) {l:List Iv} {s:Iv} (hs:e.holes=l++[s]) (hm:e.max<=s.hi) (h0:s.lo=0):kn e=[]:=by
 refine Nrm.unique (qT h) trivial fun x hx=>?_
 rw [vC h hx,hs,yd]
 by_cases h2:x<=e.max
 ·have:mem [s] x=true:=qf.2 ⟨s,by simp,by omega,by omega⟩
  simp [this]
 ·simp [h2]
theorem Xb {e:En} (h:zO e) (hh:e.holes=[]):YP e:=⟨h,fun s hs=>by rw [hh] at hs;cases hs⟩
theorem zcc {e:En} (h:zO e) {l:List Iv} {s:Iv} (hs:e.holes=l++[s]) (hm:s.hi<e.max):YP e:=by
 refine⟨h,fun t ht=>?_⟩
 rw [hs] at ht
 have hn:Nrm (l++[s]):=hs ▸ h.1
 have hs1:=NF.lo_ge hn s (by simp)
 rcases List.mem_append.1 ht with h1 | h1
 ·have:=hn.last_lt t h1;omega
 ·simp at h1;subst h1;exact hm
theorem J0 (r:Nat) (l:List Iv):(Qi r l).1.holes.length<=2 * l.length+3:=by
 by_cases h:l=[]
 ·subst h;simp [Qi]
 ·rw [qD h]
  have:=xR zm [⟨0,QV l⟩] l
  simp at this ⊢
  omega
theorem kW (e:En):(kn e).length<=2 * e.holes.length+3:=by
 have:=xR zm [⟨0,e.max⟩] e.holes
 simp at this
 unfold kn;omega
end Go.Proofs.YtopfkkogooocgaaGreat
namespace Go.Proofs.YtopfkkogooocgaaGreat
def jn (f:Bool->Bool->Bool) (a b:En):En × Bool:=Qi a.rep (qy f (kn a) (kn b))
variable {f:Bool->Bool->Bool} {a b c:En}
def below (c:Nat):List Iv:=if c=0 then [] else [⟨0,c - 1⟩]
def kP (e:En):En × Bool:=Qi e.rep (kn e)
end Go.Proofs.YtopfkkogooocgaaGreat
namespace Go.Proofs.YtopfkkogooocgaaGreat
def zT (v:List En) (r:Nat):List Iv:=match v.find? (fun e=>e.rep == r) with
 | some e=>kn e
 | none=>[]
def RightV (v:List En):Prop:=(∀ e ∈ v,zO e)/\v.Pairwise (fun a b=>a.rep<b.rep)
def CanV (v:List En):Prop:=(∀ e ∈ v,YP e)/\v.Pairwise (fun a b=>a.rep<b.rep)
theorem CanV.right {v:List En} (h:CanV v):RightV v:=⟨fun e he=>(h.1 e he).1,h.2⟩
theorem kr (r:Nat):zT [] r=[]:=rfl
theorem qm (e:En) (v:List En) (r:Nat):zT (e::v) r=if e.rep=r then kn e else zT v r:=by
 unfold zT
 by_cases h:e.rep=r
 ·simp [h]
 ·simp [h]
theorem qC {v:List En} {r:Nat} (h:∀ e ∈ v,e.rep≠r):zT v r=[]:=by
 induction v with
 | nil=>rfl
 | cons e v ih=>rw [qm,if_neg (h e (by simp)),ih fun e' h'=>h e' (by simp [h'])]
theorem kq {v:List En} (h:v.Pairwise fun a b=>a.rep<b.rep) {e:En} (he:e ∈ v):zT v e.rep=kn e:=by
 induction v with
 | nil=>cases he
 | cons x v ih=>
   have h':=List.pairwise_cons.1 h
   rw [qm]
   rcases List.mem_cons.1 he with rfl | he'
   ·rw [if_pos rfl]
   ·have:=h'.1 e he'
    rw [if_neg (by omega),ih h'.2 he']
theorem qi {v:List En} (h:RightV v) (r:Nat):Nrm (zT v r):=by
 unfold zT
 split
 ·rename_i e he;exact qT (h.1 e (List.mem_of_find?_eq_some he))
 ·trivial
theorem Zk:∀ {a b:List En},CanV a->CanV b->(∀ r,zT a r=zT b r)->a=b
 | [],[],_,_,_=>rfl
 | [],y::b,_,hb,h=>by
   have:=h y.rep
   rw [kr,qm,if_pos rfl] at this
   exact absurd this.symm (jO (hb.1 y (by simp))).1
 | x::a,[],ha,_,h=>by
   have:=h x.rep
   rw [kr,qm,if_pos rfl] at this
   exact absurd this (jO (ha.1 x (by simp))).1
 | x::a,y::b,ha,hb,h=>by
   have pa:=List.pairwise_cons.1 ha.2
   have pb:=List.pairwise_cons.1 hb.2
   have cx:=ha.1 x (by simp)
   have cy:=hb.1 y (by simp)
   have hr:x.rep=y.rep:=by
    rcases Nat.lt_trichotomy x.rep y.rep with h1 | h1 | h1
    ·have:=h x.rep
     rw [qm,if_pos rfl,qC fun e he=>by rcases List.mem_cons.1 he with rfl | he;omega;have:=pb.1 e he;omega] at this
     exact absurd this (jO cx).1
    ·exact h1
    ·have:=h y.rep
     rw [qm (e:=y),if_pos rfl,qC fun e he=>by rcases List.mem_cons.1 he with rfl | he;omega;have:=pa.1 e he;omega] at this
     exact absurd this.symm (jO cy).1
   have hk:=h x.rep
   rw [qm,qm,if_pos rfl,if_pos hr.symm] at hk
   have e1:=ZM cx
   have e2:=ZM cy
   rw [hk,hr,e2] at e1
   have hxy:x=y:=by injection e1 with e1;exact e1.symm
   subst hxy
   congr 1
   refine Zk ⟨fun e he=>ha.1 e (by simp [he]),pa.2⟩ ⟨fun e he=>hb.1 e (by simp [he]),pb.2⟩ fun r=>?_
   by_cases h1:x.rep=r
   ·rw [qC fun e he=>by have:=pa.1 e he;omega,qC fun e he=>by have:=pb.1 e he;omega]
   ·have:=h r
    rw [qm,qm,if_neg h1,if_neg h1] at this
    exact this
def Xd (f:Bool->Bool->Bool) (a b:List En) (r:Nat):En × Bool:=Qi r (qy f (zT a r) (zT b r))
def vE (f:Bool->Bool->Bool) (a b:List En) (r:Nat):Option En:=if (Xd f a b r).2 then some (Xd f a b r).1 else none
def zM (v:List En):List Nat:=v.map En.rep
noncomputable def ks (f:Bool->Bool->Bool) (a b:List En):List En:=(srt (zM a++zM b)).filterMap (vE f a b)
theorem xz {f:Bool->Bool->Bool} {a b:List En} {r:Nat} {e:En} (h:vE f a b r=some e):qy f (zT a r) (zT b r)≠[]/\e=(Xd f a b r).1/\e.rep=r:=by
 unfold vE Xd at h
 split at h
 ·rename_i h1
  rw [zaj] at h1
  simp at h1
  cases h
  exact⟨h1,rfl,by rw [qD h1]⟩
 ·cases h
theorem zad {f:Bool->Bool->Bool} {a b:List En} {r:Nat} (h:qy f (zT a r) (zT b r)≠[]):vE f a b r=some (Xd f a b r).1:=by
 unfold vE
 rw [if_pos]
 unfold Xd
 rw [zaj];simpa using h
theorem Xr {a b:List En} (ha:RightV a) (hb:RightV b):∀ r ∈ srt (zM a++zM b),r<zk:=fun r hr=>by
 have:=qr.1 hr
 simp only [zM,List.mem_append,List.mem_map] at this
 rcases this with⟨e,he,rfl⟩ | ⟨e,he,rfl⟩
 ·exact(ha.1 e he).2.2.2
 ·exact(hb.1 e he).2.2.2
theorem xj {g:Nat->Option En} (hg:∀ r e,g r=some e->e.rep=r):∀ {l:List Nat},YN l->(l.filterMap g).Pairwise fun a b=>a.rep<b.rep
 | [],_=>List.Pairwise.nil
 | r::l,h=>by
   have h':=List.pairwise_cons.1 h
   rw [List.filterMap_cons]
   cases e:g r with
   | none=>exact xj hg h'.2
   | some x=>
     refine List.pairwise_cons.2 ⟨fun y hy=>?_,xj hg h'.2⟩
     obtain⟨r',hr',e'⟩:=List.mem_filterMap.1 hy
     rw [hg _ _ e,hg _ _ e']
     exact h'.1 r' hr'
theorem Xe (f:Bool->Bool->Bool) {a b:List En} (ha:RightV a) (hb:RightV b):CanV (ks f a b):=by
 refine⟨fun e he=>?_,xj (fun r e h=>(xz h).2.2) (yi _)⟩
 obtain⟨r,hr,e'⟩:=List.mem_filterMap.1 he
 obtain⟨h1,rfl,_⟩:=xz e'
 exact zak (Xr ha hb r hr) (qH (qi ha r) (qi hb r)) h1
theorem zdv {f:Bool->Bool->Bool} (hf:f false false=false):qy f [] []=[]:=
 vK (a:=[]) (b:=[]) trivial trivial trivial fun x hx=>by simp [hf]
theorem JR {f:Bool->Bool->Bool} (hf:f false false=false) {a b:List En} (ha:RightV a) (hb:RightV b) (r:Nat):zT (ks f a b) r=qy f (zT a r) (zT b r):=by
 by_cases h:qy f (zT a r) (zT b r)=[]
 ·rw [h]
  refine qC fun e he hr=>?_
  obtain⟨r',hr',e'⟩:=List.mem_filterMap.1 he
  obtain⟨h1,_,h3⟩:=xz e'
  rw [hr] at h3
  subst h3
  exact h1 h
 ·have hm:r ∈ srt (zM a++zM b):=by
   refine qr.2 (List.mem_append.2 ?_)
   rcases Classical.em (r ∈ zM a) with h1 | h1
   ·exact .inl h1
   ·rcases Classical.em (r ∈ zM b) with h2 | h2
    ·exact .inr h2
    ·refine absurd ?_ h
     rw [qC (v:=a) fun e he hr=>h1 (List.mem_map.2 ⟨e,he,hr⟩),qC (v:=b) fun e he hr=>h2 (List.mem_map.2 ⟨e,he,hr⟩)]
     exact zdv hf
  have he:(Xd f a b r).1 ∈ ks f a b:=List.mem_filterMap.2 ⟨r,hm,zad h⟩
  have h3:(Xd f a b r).1.rep=r:=(xz (zad h)).2.2
  have:=kq (Xe f ha hb).2 he
  rw [h3] at this
  rw [this]
  exact JO (Xr ha hb r hm) (qH (qi ha r) (qi hb r)) h
def QX (e:En):Option En:=if (kP e).2 then some (kP e).1 else none
def zi (v:List En):List En:=v.filterMap QX
theorem v9 {e c:En} (h:QX e=some c):kn e≠[]/\c=(kP e).1/\c.rep=e.rep:=by
 unfold QX kP at h
 split at h
 ·rename_i h1
  rw [zaj] at h1
  simp at h1
  cases h
  exact⟨h1,rfl,by rw [qD h1]⟩
 ·cases h
theorem jN:∀ {v:List En},RightV v->CanV (zi v)
 | [],_=>⟨fun e h=>(by cases h),List.Pairwise.nil⟩
 | x::v,h=>by
   have p:=List.pairwise_cons.1 h.2
   obtain⟨h1,h2⟩:=jN (v:=v) ⟨fun e he=>h.1 e (by simp [he]),p.2⟩
   unfold zi
   rw [List.filterMap_cons]
   cases e:QX x with
   | none=>exact⟨h1,h2⟩
   | some c=>
     obtain⟨k1,rfl,k3⟩:=v9 e
     have hx:=h.1 x (by simp)
     refine⟨fun e he=>?_,List.pairwise_cons.2 ⟨fun y hy=>?_,h2⟩⟩
     ·rcases List.mem_cons.1 he with rfl | he
      ·exact zak hx.2.2.2 (qT hx) k1
      ·exact h1 e he
     ·obtain⟨z,hz,e'⟩:=List.mem_filterMap.1 hy
      obtain⟨_,_,k4⟩:=v9 e'
      rw [k3,k4]
      exact p.1 z hz
theorem ja:∀ {v:List En},RightV v->∀ r,zT (zi v) r=zT v r
 | [],_,r=>rfl
 | x::v,h,r=>by
   have p:=List.pairwise_cons.1 h.2
   have hv:RightV v:=⟨fun e he=>h.1 e (by simp [he]),p.2⟩
   have ih:=ja hv r
   have hx:=h.1 x (by simp)
   unfold zi at ih ⊢
   rw [List.filterMap_cons,qm]
   cases e:QX x with
   | none=>
     have hk:kn x=[]:=by
      unfold QX kP at e
      rw [zaj] at e
      by_cases h':kn x=[]
      ·exact h'
      ·simp [h'] at e
     show zT (v.filterMap QX) r=_
     rw [ih]
     split
     ·rename_i hr
      rw [hk]
      exact qC fun e he=>by have:=p.1 e he;omega
     ·rfl
   | some c=>
     obtain⟨k1,rfl,k3⟩:=v9 e
     show zT ((kP x).1::v.filterMap QX) r=_
     rw [qm,k3,ih]
     split
     ·exact JO hx.2.2.2 (qT hx) k1
     ·rfl
section
variable {a b c:List En}
theorem fU0:zn false false=false:=rfl
theorem fM0:zm false false=false:=rfl
end
end Go.Proofs.YtopfkkogooocgaaGreat
