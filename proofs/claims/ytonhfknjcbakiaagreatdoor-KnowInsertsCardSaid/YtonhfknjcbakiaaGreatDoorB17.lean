import Derived.Test.YtonhfknjcbakiaaGreatDoorB15
set_option linter.unusedVariables false
set_option linter.unusedSimpArgs false
namespace Go.Proofs.YtonhfknjcbakiaaGreatDoor
def YN (l:List Nat):Prop:=l.Pairwise (· < ·)
theorem jK:∀ {a b:List Nat},YN a->YN b->(∀ x,x ∈ a ↔ x ∈ b)->a=b
 | [],[],_,_,_=>rfl
 | [],y::b,_,_,h=>absurd ((h y).2 (by simp)) (by simp)
 | x::a,[],_,_,h=>absurd ((h x).1 (by simp)) (by simp)
 | x::a,y::b,ha,hb,h=>by
   have j:=List.pairwise_cons.1 ha
   have u:=List.pairwise_cons.1 hb
   have B:x=y:=by
    have w:=(h x).1 (by simp)
    have A:=(h y).2 (by simp)
    simp at w A
    rcases w with w | w
    ·exact w
    ·rcases A with A | A
     ·exact A.symm
     ·have:=u.1 x w;have:=j.1 y A;omega
   subst B
   congr 1
   refine jK j.2 u.2 fun z=>?_
   have:=h z
   simp at this
   constructor
   ·intro hz
    rcases this.1 (.inr hz) with e | e
    ·have:=j.1 z hz;omega
    ·exact e
   ·intro hz
    rcases this.2 (.inr hz) with e | e
    ·have:=u.1 z hz;omega
    ·exact e
theorem Y6:∀ j:List Nat,∃ r,YN r/\∀ y,y ∈ r ↔ y ∈ j
 | []=>⟨[],List.Pairwise.nil,fun _=>Iff.rfl⟩
 | x::j=>by
   obtain⟨r,u,w⟩:=Y6 j
   refine⟨r.filter (·<x)++x::r.filter (x < ·),?_,fun y=>?_⟩
   ·refine List.pairwise_append.2 ⟨u.filter _,List.pairwise_cons.2 ⟨fun y a=>by simpa using (List.mem_filter.1 a).2,u.filter _⟩,fun y a z hz=>?_⟩
    have:=(List.mem_filter.1 a).2
    simp at this hz
    rcases hz with rfl | hz<;>omega
   ·simp only [List.mem_append,List.mem_filter,List.mem_cons,w,decide_eq_true_eq]
    by_cases e:y=x
    ·simp [e]
    ·rcases Nat.lt_or_ge y x with h | h
     ·simp [h,e];omega
     ·have:x<y:=by omega
      simp [this,e];omega
noncomputable def srt (a:List Nat):List Nat:=Classical.choose (Y6 a)
theorem yi (a:List Nat):YN (srt a):=(Classical.choose_spec (Y6 a)).1
theorem qr {a:List Nat} {y:Nat}:y ∈ srt a ↔ y ∈ a:=(Classical.choose_spec (Y6 a)).2 y
theorem XA {a r:List Nat} (h:YN r) (j:∀ y,y ∈ r ↔ y ∈ a):srt a=r:=jK (yi a) h fun y=>by rw [qr,j]
theorem XB:srt []=[]:=XA List.Pairwise.nil fun _=>Iff.rfl
theorem jJ {l:List Nat} (h:YN l) {i j:Nat} (a:j<l.length) (hi:i<j):l[i]<l[j]:=List.pairwise_iff_getElem.1 h i j (by omega) a hi
theorem kJ {xs:List Nat} {x at_:Nat} (E:at_<=(srt xs).length) (C:∀ k (h:k<(srt xs).length),at_<=k->x<(srt xs)[k]) (w:at_=0\/∃ h:at_ - 1<(srt xs).length,(srt xs)[at_ - 1]<x) :
 srt (xs++[x])=(srt xs).take at_++x::(srt xs).drop at_:=by
 have A:=yi xs
 have u:∀ y ∈ (srt xs).take at_,y<x:=fun y a=>by
  obtain⟨i,hi,rfl⟩:=List.getElem_of_mem a
  simp at hi ⊢
  rcases w with w | ⟨h,w⟩
  ·omega
  ·rcases Nat.lt_or_ge i (at_ - 1) with B | B
   ·have:=jJ A h B;omega
   ·have:i=at_ - 1:=by omega
    subst this;exact w
 have j:∀ y ∈ (srt xs).drop at_,x<y:=fun y a=>by
  obtain⟨i,hi,rfl⟩:=List.getElem_of_mem a
  simp at hi ⊢
  exact C _ (by omega) (by omega)
 refine XA (List.pairwise_append.2 ⟨A.sublist (List.take_sublist _ _),List.pairwise_cons.2 ⟨fun y a=>j y a,A.sublist (List.drop_sublist _ _)⟩,fun y a z hz=>?_⟩) fun y=>?_
 ·simp at hz
  rcases hz with rfl | hz
  ·exact u y a
  ·exact Nat.lt_trans (u y a) (j z hz)
 ·have:y ∈ (srt xs).take at_++(srt xs).drop at_ ↔ y ∈ xs:=by rw [List.take_append_drop];exact qr
  simp only [List.mem_append,List.mem_cons,List.not_mem_nil,or_false] at this ⊢
  constructor
  ·rintro(h | h | h)
   ·exact .inl (this.1 (.inl h))
   ·exact .inr h
   ·exact .inl (this.1 (.inr h))
  ·rintro(h | h)
   ·rcases this.2 h with h | h
    ·exact .inl h
    ·exact .inr (.inr h)
   ·exact .inr (.inl h)
theorem zaw {a:List Nat} {x:Nat} (h:x ∈ srt a):srt (a++[x])=srt a:=XA (yi a) fun y=>by
 rw [qr] at *
 simp
 intro e;subst e;exact h
theorem ju (a:List Nat):(srt a).length<=a.length:=by
 have u:∀(r a:List Nat),YN r->(∀ y ∈ r,y ∈ a)->r.length<=a.length:=by
  intro r
  induction r with
  | nil=>intro a _ _;exact Nat.zero_le _
  | cons x r ih=>
    intro a h A
    have w:=List.pairwise_cons.1 h
    have:=ih (a.erase x) w.2 fun y j=>by
     have C:=w.1 y j
     exact(List.mem_erase_of_ne (by omega)).2 (A y (by simp [j]))
    have B:x ∈ a:=A x (by simp)
    rw [List.length_erase_of_mem B] at this
    have:=List.length_pos_of_mem B
    simp;omega
 exact u _ _ (yi a) fun y j=>qr.1 j
def jQ (s:Iv):List Nat:=s.lo::if s.hi<M64 - 1 then [s.hi+1] else []
def z6 (l:List Iv):List Nat:=l.flatMap jQ
def yU (a:List (List Iv)):List Nat:=0::a.flatMap z6
noncomputable def zH (a:List (List Iv)):List Nat:=srt (yU a)
theorem zcy (s:Iv):(jQ s).length<=2:=by unfold jQ;split<;>simp
theorem vq (l:List Iv):(z6 l).length<=2 * l.length:=by
 induction l with
 | nil=>simp [z6]
 | cons s l ih=>
   have:=zcy s
   simp only [z6,List.flatMap_cons,List.length_append,List.length_cons] at ih ⊢
   omega
theorem zaU {l:List Iv} {k:Nat} (h:k<l.length):z6 (l.take (k+1))=z6 (l.take k)++jQ l[k]:=by
 unfold z6;rw [List.take_succ_eq_append_getElem h,List.flatMap_append];simp only [List.flatMap_cons,List.flatMap_nil,List.append_nil]
theorem Qh {l:List Iv} (j:∀ s ∈ l,s.lo<=s.hi/\s.hi<M64) {x y:Nat} (A:x<=y) (C:y<M64) (a:∀ c ∈ z6 l,c<=x\/y<c):mem l y=mem l x:=by
 induction l with
 | nil=>rfl
 | cons s l ih=>
   have hs:=j s (by simp)
   rw [zz,zz,ih (fun t ht=>j t (by simp [ht])) fun c h=>a c (by simp [z6] at h ⊢;exact .inr h)]
   congr 1
   have B:=a s.lo (by simp [z6,jQ])
   have u:s.hi<M64 - 1->s.hi+1<=x\/y<s.hi+1:=fun h=>a (s.hi+1) (by simp [z6,jQ,h])
   rw [Bool.eq_iff_iff]
   simp only [Bool.and_eq_true,decide_eq_true_eq]
   by_cases w:s.hi<M64 - 1
   ·have:=u w;omega
   ·omega
def Qj:Nat->Bool->Bool->Bool
 | 0,a,b=>a || b
 | 1,a,b=>a && b
 | _,a,b=>a && !b
def KD (st:List Nat) (i:Nat):Nat:=if h:i<st.length then st[i] else M64
structure DoInv (f:Bool->Bool->Bool) (a b:List Iv) (st:List Nat) (i:Nat) (out:List Iv):Prop where
 nrm:Nrm out
 lt:∀ t ∈ out,t.hi<KD st i
 mm:∀ x,x<KD st i->mem out x=f (mem a x) (mem b x)
 len:out.length<=i
theorem zgd (a:List Iv) (s:Iv):(Q8 a s).length<=a.length+1:=by
 unfold Q8
 split
 ·simp
 ·split<;>simp<;>omega
theorem DoInv.step {f:Bool->Bool->Bool} {a b:List Iv} {st:List Nat} {i:Nat} {y:List Iv} (h:DoInv f a b st i y) (I:Nrm a) (hb:Nrm b) (hs:YN st) (C:∀ x ∈ st,x<M64) (F:∀ c,c ∈ z6 a\/c ∈ z6 b->c ∈ st) (hi:i<st.length) :
 (f (mem a st[i]) (mem b st[i])=true->DoInv f a b st (i+1) (Q8 y ⟨st[i],if h:i+1<st.length then st[i+1] - 1 else M64 - 1⟩))/\(f (mem a st[i]) (mem b st[i])=false->DoInv f a b st (i+1) y):=by
 have H:KD st i=st[i]:=dif_pos hi
 have Q:=zw
 have K:st[i]<M64:=C _ (List.getElem_mem _)
 have e1:(if h:i+1<st.length then st[i+1] - 1 else M64 - 1)+1=KD st (i+1)/\st[i]<KD st (i+1)/\KD st (i+1)<=M64:=by
  unfold KD
  split
  ·rename_i h;have:=jJ hs h (Nat.lt_succ_self i);have:=C _ (List.getElem_mem h);omega
  ·omega
 obtain⟨e1,e2,P⟩:=e1
 have hcut:∀ x,st[i]<=x->x<KD st (i+1)->∀ c ∈ st,c<=st[i]\/x<c:=fun x B A c F=>by
  obtain⟨j,J,rfl⟩:=List.getElem_of_mem F
  rcases Nat.lt_trichotomy j i with h | h | h
  ·have:=jJ hs hi h;omega
  ·subst h;omega
  ·right
   unfold KD at A
   split at A
   ·rcases Nat.eq_or_lt_of_le (show i+1<=j from h) with w | w
    ·subst w;exact A
    ·have:=jJ hs J w;omega
   ·omega
 have ra:∀ s ∈ a,s.lo<=s.hi/\s.hi<M64:=fun s hs=>by have:=NF.lo_ge I s hs;omega
 have rb:∀ s ∈ b,s.lo<=s.hi/\s.hi<M64:=fun s hs=>by have:=NF.lo_ge hb s hs;omega
 have u:∀ x,st[i]<=x->x<KD st (i+1)->mem a x=mem a st[i]/\mem b x=mem b st[i]:=fun x B A=>
  ⟨Qh ra B (by omega) fun c h=>hcut x B A c (F c (.inl h)),Qh rb B (by omega) fun c h=>hcut x B A c (F c (.inr h))⟩
 constructor
 ·intro G
  obtain⟨M,N,O⟩:=Xm (s:=⟨st[i],if h:i+1<st.length then st[i+1] - 1 else M64 - 1⟩) h.nrm (fun t ht=>by have:=h.lt t ht;rw [H] at this;exact this) (by show st[i]<=(if h:i+1<st.length then st[i+1] - 1 else M64 - 1);omega) (by show (if h:i+1<st.length then st[i+1] - 1 else M64 - 1)<M64;omega)
  refine⟨M,fun t ht=>by have:=O t ht;show t.hi<_;simp only at this;omega,fun x E=>?_,Nat.le_trans (zgd _ _) (by have:=h.len;omega)⟩
  rw [N x]
  simp only
  rcases Nat.lt_or_ge x st[i] with w | w
  ·rw [h.mm x (by omega)]
   have:¬ st[i]<=x:=by omega
   simp [this]
  ·rw [(u x w E).1,(u x w E).2,G]
   have:x<=(if h:i+1<st.length then st[i+1] - 1 else M64 - 1):=by omega
   simp [w,this]
 ·intro G
  refine⟨h.nrm,fun t ht=>by have:=h.lt t ht;omega,fun x E=>?_,by have:=h.len;omega⟩
  rcases Nat.lt_or_ge x st[i] with w | w
  ·exact h.mm x (by omega)
  ·rw [(u x w E).1,(u x w E).2,G]
   cases e:mem y x with
   | false=>rfl
   | true=>obtain⟨t,ht,_,L⟩:=qf.1 e;have:=h.lt t ht;omega
theorem DoInv.done {f:Bool->Bool->Bool} {a b:List Iv} {st:List Nat} {j:List Iv} (h:DoInv f a b st st.length j) (u:Nrm a) (hb:Nrm b):j=qy f a b:=
 (vK u hb h.nrm fun x w=>h.mm x (by unfold KD;rw [dif_neg (by omega)];exact w)).symm
theorem x8 (a:List (List Iv)):YN (zH a):=yi _
theorem VY (a:List (List Iv)):∃ h:0<(zH a).length,(zH a)[0]=0:=by
 have j:0 ∈ zH a:=qr.2 (by simp [yU])
 obtain⟨i,hi,e⟩:=List.getElem_of_mem j
 refine⟨by omega,?_⟩
 rcases Nat.eq_zero_or_pos i with h | h
 ·subst h;exact e
 ·have:=jJ (x8 a) hi h;omega
theorem Ze {j:List (List Iv)} (h:∀ l ∈ j,∀ s ∈ l,s.lo<M64):∀ x ∈ zH j,x<M64:=fun x u=>by
 have:=qr.1 u
 simp only [yU,List.mem_cons,List.mem_flatMap,z6,jQ] at this
 rcases this with rfl | ⟨l,hl,s,hs,a⟩
 ·exact xM
 ·rcases a with rfl | a
  ·exact h l hl s hs
  ·split at a
   ·simp at a;omega
   ·cases a
theorem DoInv.zero {f:Bool->Bool->Bool} {a b:List Iv} (j:List (List Iv)):DoInv f a b (zH j) 0 []:=by
 obtain⟨h,e⟩:=VY j
 have:KD (zH j) 0=0:=by unfold KD;rw [dif_pos h,e]
 exact⟨trivial,(fun _ h=>by cases h),fun x u=>(by omega),Nat.le_refl _⟩
def kA (a:List (List Iv)) (i j:Nat):List Nat:=0::((a.take i).flatMap z6++z6 ((a[i]?.getD []).take j))
theorem zf6 (a:List (List Iv)):kA a 0 0=[0]:=by simp [kA,z6]
theorem XW (a b:List Iv):z6 (a++b)=z6 a++z6 b:=by simp [z6]
theorem zbv {a:List (List Iv)} {i j:Nat} (h:i<a.length) (u:a[i].length<=j):kA a i j=kA a (i+1) 0:=by
 unfold kA
 rw [List.getElem?_eq_getElem h,Option.getD_some,List.take_of_length_le u,List.take_succ_eq_append_getElem h,List.flatMap_append]
 simp [z6]
theorem YF {a:List (List Iv)} {i j:Nat} (h:i<a.length) (u:j<a[i].length):kA a i (j+1)=kA a i j++jQ a[i][j]:=by
 unfold kA
 rw [List.getElem?_eq_getElem h,Option.getD_some,zaU u]
 simp
theorem zdJ {a:List (List Iv)} {i:Nat} (h:a.length<=i):kA a i 0=yU a:=by
 unfold kA yU
 rw [List.take_of_length_le h];simp [z6]
theorem zdK {a:List (List Iv)} {i:Nat} (j:Nat) (h:i<a.length):(kA a i j).length<=(yU a).length:=by
 have e:a.flatMap z6=(a.take i).flatMap z6++(z6 (a[i].take j)++z6 (a[i].drop j)++(a.drop (i+1)).flatMap z6):=by
  rw [<-XW,List.take_append_drop]
  conv=>lhs;rw [<-List.take_append_drop i a,List.drop_eq_getElem_cons h,List.flatMap_append,List.flatMap_cons]
 unfold kA yU
 rw [e,List.getElem?_eq_getElem h,Option.getD_some]
 simp
def zT (v:List En) (r:Nat):List Iv:=match v.find? (fun e=>e.rep == r) with
 | some e=>kn e
 | none=>[]
def RightV (v:List En):Prop:=(∀ e ∈ v,zO e)/\v.Pairwise (fun a b=>a.rep<b.rep)
def CanV (v:List En):Prop:=(∀ e ∈ v,YP e)/\v.Pairwise (fun a b=>a.rep<b.rep)
theorem CanV.right {v:List En} (h:CanV v):RightV v:=⟨fun e a=>(h.1 e a).1,h.2⟩
theorem kr (r:Nat):zT [] r=[]:=rfl
theorem qm (e:En) (v:List En) (r:Nat):zT (e::v) r=if e.rep=r then kn e else zT v r:=by
 unfold zT
 by_cases h:e.rep=r
 ·simp [h]
 ·simp [h]
theorem qC {v:List En} {r:Nat} (h:∀ e ∈ v,e.rep≠r):zT v r=[]:=by
 induction v with
 | nil=>rfl
 | cons e v ih=>rw [qm,if_neg (h e (by simp)),ih fun a j=>h a (by simp [j])]
theorem kq {v:List En} (h:v.Pairwise fun a b=>a.rep<b.rep) {e:En} (w:e ∈ v):zT v e.rep=kn e:=by
 induction v with
 | nil=>cases w
 | cons x v ih=>
   have u:=List.pairwise_cons.1 h
   rw [qm]
   rcases List.mem_cons.1 w with rfl | j
   ·rw [if_pos rfl]
   ·have:=u.1 e j
    rw [if_neg (by omega),ih u.2 j]
theorem qi {v:List En} (h:RightV v) (r:Nat):Nrm (zT v r):=by
 unfold zT
 split
 ·rename_i e he;exact qT (h.1 e (List.mem_of_find?_eq_some he))
 ·trivial
theorem Zk:∀ {a b:List En},CanV a->CanV b->(∀ r,zT a r=zT b r)->a=b
 | [],[],_,_,_=>rfl
 | [],y::b,_,hb,h=>by
   have:=h y.rep
   rw [kr,qm,if_pos rfl] at this
   exact absurd this.symm (jO (hb.1 y (by simp))).1
 | x::a,[],ha,_,h=>by
   have:=h x.rep
   rw [kr,qm,if_pos rfl] at this
   exact absurd this (jO (ha.1 x (by simp))).1
 | x::a,y::b,ha,hb,h=>by
   have A:=List.pairwise_cons.1 ha.2
   have B:=List.pairwise_cons.1 hb.2
   have C:=ha.1 x (by simp)
   have E:=hb.1 y (by simp)
   have F:x.rep=y.rep:=by
    rcases Nat.lt_trichotomy x.rep y.rep with u | u | u
    ·have:=h x.rep
     rw [qm,if_pos rfl,qC fun e j=>by rcases List.mem_cons.1 j with rfl | j;omega;have:=B.1 e j;omega] at this
     exact absurd this (jO C).1
    ·exact u
    ·have:=h y.rep
     rw [qm (e:=y),if_pos rfl,qC fun e j=>by rcases List.mem_cons.1 j with rfl | j;omega;have:=A.1 e j;omega] at this
     exact absurd this.symm (jO E).1
   have hk:=h x.rep
   rw [qm,qm,if_pos rfl,if_pos F.symm] at hk
   have e1:=ZM C
   have e2:=ZM E
   rw [hk,F,e2] at e1
   have w:x=y:=by injection e1 with e1;exact e1.symm
   subst w
   congr 1
   refine Zk ⟨fun e j=>ha.1 e (by simp [j]),A.2⟩ ⟨fun e j=>hb.1 e (by simp [j]),B.2⟩ fun r=>?_
   by_cases u:x.rep=r
   ·rw [qC fun e j=>by have:=A.1 e j;omega,qC fun e j=>by have:=B.1 e j;omega]
   ·have:=h r
    rw [qm,qm,if_neg u,if_neg u] at this
    exact this
def Xd (f:Bool->Bool->Bool) (a b:List En) (r:Nat):En × Bool:=Qi r (qy f (zT a r) (zT b r))
def vE (f:Bool->Bool->Bool) (a b:List En) (r:Nat):Option En:=if (Xd f a b r).2 then some (Xd f a b r).1 else none
def zM (v:List En):List Nat:=v.map En.rep
noncomputable def ks (f:Bool->Bool->Bool) (a b:List En):List En:=(srt (zM a++zM b)).filterMap (vE f a b)
theorem latO_some {f:Bool->Bool->Bool} {a b:List En} {r:Nat} {e:En} (h:vE f a b r=some e):qy f (zT a r) (zT b r)≠[]/\e=(Xd f a b r).1/\e.rep=r:=by
 unfold vE Xd at h
 split at h
 ·rename_i h1
  rw [zaj] at h1
  simp at h1
  cases h
  exact⟨h1,rfl,by rw [qD h1]⟩
 ·cases h
theorem zad {f:Bool->Bool->Bool} {a b:List En} {r:Nat} (h:qy f (zT a r) (zT b r)≠[]):vE f a b r=some (Xd f a b r).1:=by
 unfold vE
 rw [if_pos]
 unfold Xd
 rw [zaj];simpa using h
theorem Xr {a b:List En} (u:RightV a) (hb:RightV b):∀ r ∈ srt (zM a++zM b),r<M64:=fun r w=>by
 have:=qr.1 w
 simp only [zM,List.mem_append,List.mem_map] at this
 rcases this with⟨e,j,rfl⟩ | ⟨e,j,rfl⟩
 ·exact(u.1 e j).2.2.2
 ·exact(hb.1 e j).2.2.2
theorem xj {g:Nat->Option En} (j:∀ r e,g r=some e->e.rep=r):∀ {l:List Nat},YN l->(l.filterMap g).Pairwise fun a b=>a.rep<b.rep
 | [],_=>List.Pairwise.nil
 | r::l,h=>by
   have u:=List.pairwise_cons.1 h
   rw [List.filterMap_cons]
   cases e:g r with
   | none=>exact xj j u.2
   | some x=>
     refine List.pairwise_cons.2 ⟨fun y B=>?_,xj j u.2⟩
     obtain⟨C,w,A⟩:=List.mem_filterMap.1 B
     rw [j _ _ e,j _ _ A]
     exact u.1 C w
theorem Xe (f:Bool->Bool->Bool) {a b:List En} (j:RightV a) (hb:RightV b):CanV (ks f a b):=by
 refine⟨fun e y=>?_,xj (fun r e h=>(latO_some h).2.2) (yi _)⟩
 obtain⟨r,A,u⟩:=List.mem_filterMap.1 y
 obtain⟨w,rfl,_⟩:=latO_some u
 exact zak (Xr j hb r A) (qH (qi j r) (qi hb r)) w
theorem zdv {f:Bool->Bool->Bool} (j:f false false=false):qy f [] []=[]:=
 vK (a:=[]) (b:=[]) trivial trivial trivial fun x u=>by simp [j]
theorem JR {f:Bool->Bool->Bool} (F:f false false=false) {a b:List En} (B:RightV a) (hb:RightV b) (r:Nat):zT (ks f a b) r=qy f (zT a r) (zT b r):=by
 by_cases h:qy f (zT a r) (zT b r)=[]
 ·rw [h]
  refine qC fun e j w=>?_
  obtain⟨H,G,E⟩:=List.mem_filterMap.1 j
  obtain⟨u,_,y⟩:=latO_some E
  rw [w] at y
  subst y
  exact u h
 ·have C:r ∈ srt (zM a++zM b):=by
   refine qr.2 (List.mem_append.2 ?_)
   rcases Classical.em (r ∈ zM a) with u | u
   ·exact .inl u
   ·rcases Classical.em (r ∈ zM b) with A | A
    ·exact .inr A
    ·refine absurd ?_ h
     rw [qC (v:=a) fun e j w=>u (List.mem_map.2 ⟨e,j,w⟩),qC (v:=b) fun e j w=>A (List.mem_map.2 ⟨e,j,w⟩)]
     exact zdv F
  have j:(Xd f a b r).1 ∈ ks f a b:=List.mem_filterMap.2 ⟨r,C,zad h⟩
  have y:(Xd f a b r).1.rep=r:=(latO_some (zad h)).2.2
  have:=kq (Xe f B hb).2 j
  rw [y] at this
  rw [this]
  exact JO (Xr B hb r C) (qH (qi B r) (qi hb r)) h
theorem zoY {f:Bool->Bool->Bool} (w:f false false=false) {a b c:List En} (j:RightV a) (hb:RightV b) (u:CanV c) (h:∀ r,zT c r=qy f (zT a r) (zT b r)):ks f a b=c:=
 Zk (Xe f j hb) u fun r=>by rw [JR w j hb,h]
def QX (e:En):Option En:=if (kP e).2 then some (kP e).1 else none
def zi (v:List En):List En:=v.filterMap QX
theorem v9 {e c:En} (h:QX e=some c):kn e≠[]/\c=(kP e).1/\c.rep=e.rep:=by
 unfold QX kP at h
 split at h
 ·rename_i h1
  rw [zaj] at h1
  simp at h1
  cases h
  exact⟨h1,rfl,by rw [qD h1]⟩
 ·cases h
theorem jN:∀ {v:List En},RightV v->CanV (zi v)
 | [],_=>⟨fun e h=>(by cases h),List.Pairwise.nil⟩
 | x::v,h=>by
   have p:=List.pairwise_cons.1 h.2
   obtain⟨j,u⟩:=jN (v:=v) ⟨fun e a=>h.1 e (by simp [a]),p.2⟩
   unfold zi
   rw [List.filterMap_cons]
   cases e:QX x with
   | none=>exact⟨j,u⟩
   | some c=>
     obtain⟨C,rfl,E⟩:=v9 e
     have w:=h.1 x (by simp)
     refine⟨fun e a=>?_,List.pairwise_cons.2 ⟨fun y B=>?_,u⟩⟩
     ·rcases List.mem_cons.1 a with rfl | a
      ·exact zak w.2.2.2 (qT w) C
      ·exact j e a
     ·obtain⟨z,hz,A⟩:=List.mem_filterMap.1 B
      obtain⟨_,_,F⟩:=v9 A
      rw [E,F]
      exact p.1 z hz
theorem ja:∀ {v:List En},RightV v->∀ r,zT (zi v) r=zT v r
 | [],_,r=>rfl
 | x::v,h,r=>by
   have p:=List.pairwise_cons.1 h.2
   have w:RightV v:=⟨fun e a=>h.1 e (by simp [a]),p.2⟩
   have ih:=ja w r
   have u:=h.1 x (by simp)
   unfold zi at ih ⊢
   rw [List.filterMap_cons,qm]
   cases e:QX x with
   | none=>
     have hk:kn x=[]:=by
      unfold QX kP at e
      rw [zaj] at e
      by_cases j:kn x=[]
      ·exact j
      ·simp [j] at e
     show zT (v.filterMap QX) r=_
     rw [ih]
     split
     ·rename_i hr
      rw [hk]
      exact qC fun e a=>by have:=p.1 e a;omega
     ·rfl
   | some c=>
     obtain⟨y,rfl,A⟩:=v9 e
     show zT ((kP x).1::v.filterMap QX) r=_
     rw [qm,A,ih]
     split
     ·exact JO u.2.2.2 (qT u) y
     ·rfl
section
variable {a b c:List En}
theorem fU0:zn false false=false:=rfl
theorem fM0:zm false false=false:=rfl
end
end Go.Proofs.YtonhfknjcbakiaaGreatDoor
