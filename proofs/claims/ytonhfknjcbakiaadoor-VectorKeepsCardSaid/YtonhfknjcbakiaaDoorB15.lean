import Derived.Test.YtonhfknjcbakiaaDoorB13
set_option linter.unusedVariables false
set_option linter.unusedSimpArgs false
namespace Go.Proofs.YtonhfknjcbakiaaDoor
def YN (l:List Nat):Prop:=l.Pairwise (· < ·)
theorem Y6:∀ xs:List Nat,∃ r,YN r/\∀ y,y ∈ r ↔ y ∈ xs
 | []=>⟨[],List.Pairwise.nil,fun _=>Iff.rfl⟩
 | x::xs=>by
   obtain⟨r,h1,h2⟩:=Y6 xs
   refine⟨r.filter (·<x)++x::r.filter (x < ·),?_,fun y=>?_⟩
   ·refine List.pairwise_append.2 ⟨h1.filter _,List.pairwise_cons.2 ⟨fun y hy=>by simpa using (List.mem_filter.1 hy).2,h1.filter _⟩,fun y hy z hz=>?_⟩
    have:=(List.mem_filter.1 hy).2
    simp at this hz
    rcases hz with rfl | hz<;>omega
   ·simp only [List.mem_append,List.mem_filter,List.mem_cons,h2,decide_eq_true_eq]
    by_cases e:y=x
    ·simp [e]
    ·rcases Nat.lt_or_ge y x with h | h
     ·simp [h,e];omega
     ·have:x<y:=by omega
      simp [this,e];omega
noncomputable def srt (xs:List Nat):List Nat:=Classical.choose (Y6 xs)
theorem yi (xs:List Nat):YN (srt xs):=(Classical.choose_spec (Y6 xs)).1
theorem qr {xs:List Nat} {y:Nat}:y ∈ srt xs ↔ y ∈ xs:=(Classical.choose_spec (Y6 xs)).2 y
theorem jJ {l:List Nat} (h:YN l) {i j:Nat} (hj:j<l.length) (hi:i<j):l[i]<l[j]:=List.pairwise_iff_getElem.1 h i j (by omega) hj hi
theorem ju (xs:List Nat):(srt xs).length<=xs.length:=by
 have key:∀(r xs:List Nat),YN r->(∀ y ∈ r,y ∈ xs)->r.length<=xs.length:=by
  intro r
  induction r with
  | nil=>intro xs _ _;exact Nat.zero_le _
  | cons x r ih=>
    intro xs h hm
    have h':=List.pairwise_cons.1 h
    have:=ih (xs.erase x) h'.2 fun y hy=>by
     have h3:=h'.1 y hy
     exact(List.mem_erase_of_ne (by omega)).2 (hm y (by simp [hy]))
    have hx:x ∈ xs:=hm x (by simp)
    rw [List.length_erase_of_mem hx] at this
    have:=List.length_pos_of_mem hx
    simp;omega
 exact key _ _ (yi xs) fun y hy=>qr.1 hy
def jQ (s:Iv):List Nat:=s.lo::if s.hi<zk - 1 then [s.hi+1] else []
def z6 (l:List Iv):List Nat:=l.flatMap jQ
def yU (ls:List (List Iv)):List Nat:=0::ls.flatMap z6
noncomputable def zH (ls:List (List Iv)):List Nat:=srt (yU ls)
theorem zcy (s:Iv):(jQ s).length<=2:=by unfold jQ;split<;>simp
theorem vq (l:List Iv):(z6 l).length<=2 * l.length:=by
 induction l with
 | nil=>simp [z6]
 | cons s l ih=>
   have:=zcy s
   simp only [z6,List.flatMap_cons,List.length_append,List.length_cons] at ih ⊢
   omega
theorem Qh {l:List Iv} (hr:∀ s ∈ l,s.lo<=s.hi/\s.hi<zk) {x y:Nat} (hxy:x<=y) (hy:y<zk) (hc:∀ c ∈ z6 l,c<=x\/y<c):mem l y=mem l x:=by
 induction l with
 | nil=>rfl
 | cons s l ih=>
   have hs:=hr s (by simp)
   rw [zz,zz,ih (fun t ht=>hr t (by simp [ht])) fun c h=>hc c (by simp [z6] at h ⊢;exact .inr h)]
   congr 1
   have h1:=hc s.lo (by simp [z6,jQ])
   have h2:s.hi<zk - 1->s.hi+1<=x\/y<s.hi+1:=fun h=>hc (s.hi+1) (by simp [z6,jQ,h])
   rw [Bool.eq_iff_iff]
   simp only [Bool.and_eq_true,decide_eq_true_eq]
   by_cases h3:s.hi<zk - 1
   ·have:=h2 h3;omega
   ·omega
def KD (st:List Nat) (i:Nat):Nat:=if h:i<st.length then st[i] else zk
structure DoInv (f:Bool->Bool->Bool) (a b:List Iv) (st:List Nat) (i:Nat) (out:List Iv):Prop where
 nrm:Nrm out
 lt:∀ t ∈ out,t.hi<KD st i
 mm:∀ x,x<KD st i->mem out x=f (mem a x) (mem b x)
 len:out.length<=i
theorem zgd (out:List Iv) (s:Iv):(Q8 out s).length<=out.length+1:=by
 unfold Q8
 split
 ·simp
 ·split<;>simp<;>omega
theorem DoInv.step {f:Bool->Bool->Bool} {a b:List Iv} {st:List Nat} {i:Nat} {out:List Iv} (h:DoInv f a b st i out) (ha:Nrm a) (hb:Nrm b) (hs:YN st) (hlt:∀ x ∈ st,x<zk) (hc:∀ c,c ∈ z6 a\/c ∈ z6 b->c ∈ st) (hi:i<st.length) :
 (f (mem a st[i]) (mem b st[i])=true->DoInv f a b st (i+1) (Q8 out ⟨st[i],if h:i+1<st.length then st[i+1] - 1 else zk - 1⟩))/\(f (mem a st[i]) (mem b st[i])=false->DoInv f a b st (i+1) out):=by
 have e0:KD st i=st[i]:=dif_pos hi
 have hM:=zw
 have hlo:st[i]<zk:=hlt _ (List.getElem_mem _)
 have e1:(if h:i+1<st.length then st[i+1] - 1 else zk - 1)+1=KD st (i+1)/\st[i]<KD st (i+1)/\KD st (i+1)<=zk:=by
  unfold KD
  split
  ·rename_i h;have:=jJ hs h (Nat.lt_succ_self i);have:=hlt _ (List.getElem_mem h);omega
  ·omega
 obtain⟨e1,e2,e3⟩:=e1
 have hcut:∀ x,st[i]<=x->x<KD st (i+1)->∀ c ∈ st,c<=st[i]\/x<c:=fun x h1 h2 c hc=>by
  obtain⟨j,hj,rfl⟩:=List.getElem_of_mem hc
  rcases Nat.lt_trichotomy j i with h | h | h
  ·have:=jJ hs hi h;omega
  ·subst h;omega
  ·right
   unfold KD at h2
   split at h2
   ·rcases Nat.eq_or_lt_of_le (show i+1<=j from h) with h' | h'
    ·subst h';exact h2
    ·have:=jJ hs hj h';omega
   ·omega
 have ra:∀ s ∈ a,s.lo<=s.hi/\s.hi<zk:=fun s hs=>by have:=NF.lo_ge ha s hs;omega
 have rb:∀ s ∈ b,s.lo<=s.hi/\s.hi<zk:=fun s hs=>by have:=NF.lo_ge hb s hs;omega
 have same:∀ x,st[i]<=x->x<KD st (i+1)->mem a x=mem a st[i]/\mem b x=mem b st[i]:=fun x h1 h2=>
  ⟨Qh ra h1 (by omega) fun c h=>hcut x h1 h2 c (hc c (.inl h)),Qh rb h1 (by omega) fun c h=>hcut x h1 h2 c (hc c (.inr h))⟩
 constructor
 ·intro hf
  obtain⟨p1,p2,p3⟩:=Xm (s:=⟨st[i],if h:i+1<st.length then st[i+1] - 1 else zk - 1⟩) h.nrm (fun t ht=>by have:=h.lt t ht;rw [e0] at this;exact this) (by show st[i]<=(if h:i+1<st.length then st[i+1] - 1 else zk - 1);omega) (by show (if h:i+1<st.length then st[i+1] - 1 else zk - 1)<zk;omega)
  refine⟨p1,fun t ht=>by have:=p3 t ht;show t.hi<_;simp only at this;omega,fun x hx=>?_,Nat.le_trans (zgd _ _) (by have:=h.len;omega)⟩
  rw [p2 x]
  simp only
  rcases Nat.lt_or_ge x st[i] with h' | h'
  ·rw [h.mm x (by omega)]
   have:¬ st[i]<=x:=by omega
   simp [this]
  ·rw [(same x h' hx).1,(same x h' hx).2,hf]
   have:x<=(if h:i+1<st.length then st[i+1] - 1 else zk - 1):=by omega
   simp [h',this]
 ·intro hf
  refine⟨h.nrm,fun t ht=>by have:=h.lt t ht;omega,fun x hx=>?_,by have:=h.len;omega⟩
  rcases Nat.lt_or_ge x st[i] with h' | h'
  ·exact h.mm x (by omega)
  ·rw [(same x h' hx).1,(same x h' hx).2,hf]
   cases e:mem out x with
   | false=>rfl
   | true=>obtain⟨t,ht,_,ht2⟩:=qf.1 e;have:=h.lt t ht;omega
theorem DoInv.done {f:Bool->Bool->Bool} {a b:List Iv} {st:List Nat} {out:List Iv} (h:DoInv f a b st st.length out) (ha:Nrm a) (hb:Nrm b):out=qy f a b:=
 (vK ha hb h.nrm fun x hx=>h.mm x (by unfold KD;rw [dif_neg (by omega)];exact hx)).symm
theorem x8 (ls:List (List Iv)):YN (zH ls):=yi _
theorem VY (ls:List (List Iv)):∃ h:0<(zH ls).length,(zH ls)[0]=0:=by
 have h0:0 ∈ zH ls:=qr.2 (by simp [yU])
 obtain⟨i,hi,e⟩:=List.getElem_of_mem h0
 refine⟨by omega,?_⟩
 rcases Nat.eq_zero_or_pos i with h | h
 ·subst h;exact e
 ·have:=jJ (x8 ls) hi h;omega
theorem Ze {ls:List (List Iv)} (h:∀ l ∈ ls,∀ s ∈ l,s.lo<zk):∀ x ∈ zH ls,x<zk:=fun x hx=>by
 have:=qr.1 hx
 simp only [yU,List.mem_cons,List.mem_flatMap,z6,jQ] at this
 rcases this with rfl | ⟨l,hl,s,hs,h'⟩
 ·exact xM
 ·rcases h' with rfl | h'
  ·exact h l hl s hs
  ·split at h'
   ·simp at h';omega
   ·cases h'
theorem DoInv.zero {f:Bool->Bool->Bool} {a b:List Iv} (ls:List (List Iv)):DoInv f a b (zH ls) 0 []:=by
 obtain⟨h,e⟩:=VY ls
 have:KD (zH ls) 0=0:=by unfold KD;rw [dif_pos h,e]
 exact⟨trivial,(fun _ h=>by cases h),fun x hx=>(by omega),Nat.le_refl _⟩
def zT (v:List En) (r:Nat):List Iv:=match v.find? (fun e=>e.rep == r) with
 | some e=>kn e
 | none=>[]
def RightV (v:List En):Prop:=(∀ e ∈ v,zO e)/\v.Pairwise (fun a b=>a.rep<b.rep)
def CanV (v:List En):Prop:=(∀ e ∈ v,YP e)/\v.Pairwise (fun a b=>a.rep<b.rep)
theorem CanV.right {v:List En} (h:CanV v):RightV v:=⟨fun e he=>(h.1 e he).1,h.2⟩
theorem kr (r:Nat):zT [] r=[]:=rfl
theorem qm (e:En) (v:List En) (r:Nat):zT (e::v) r=if e.rep=r then kn e else zT v r:=by
 unfold zT
 by_cases h:e.rep=r
 ·simp [h]
 ·simp [h]
theorem qC {v:List En} {r:Nat} (h:∀ e ∈ v,e.rep≠r):zT v r=[]:=by
 induction v with
 | nil=>rfl
 | cons e v ih=>rw [qm,if_neg (h e (by simp)),ih fun e' h'=>h e' (by simp [h'])]
theorem kq {v:List En} (h:v.Pairwise fun a b=>a.rep<b.rep) {e:En} (he:e ∈ v):zT v e.rep=kn e:=by
 induction v with
 | nil=>cases he
 | cons x v ih=>
   have h':=List.pairwise_cons.1 h
   rw [qm]
   rcases List.mem_cons.1 he with rfl | he'
   ·rw [if_pos rfl]
   ·have:=h'.1 e he'
    rw [if_neg (by omega),ih h'.2 he']
theorem qi {v:List En} (h:RightV v) (r:Nat):Nrm (zT v r):=by
 unfold zT
 split
 ·rename_i e he;exact qT (h.1 e (List.mem_of_find?_eq_some he))
 ·trivial
def Xd (f:Bool->Bool->Bool) (a b:List En) (r:Nat):En × Bool:=Qi r (qy f (zT a r) (zT b r))
def vE (f:Bool->Bool->Bool) (a b:List En) (r:Nat):Option En:=if (Xd f a b r).2 then some (Xd f a b r).1 else none
def zM (v:List En):List Nat:=v.map En.rep
noncomputable def ks (f:Bool->Bool->Bool) (a b:List En):List En:=(srt (zM a++zM b)).filterMap (vE f a b)
theorem xz {f:Bool->Bool->Bool} {a b:List En} {r:Nat} {e:En} (h:vE f a b r=some e):qy f (zT a r) (zT b r)≠[]/\e=(Xd f a b r).1/\e.rep=r:=by
 unfold vE Xd at h
 split at h
 ·rename_i h1
  rw [zaj] at h1
  simp at h1
  cases h
  exact⟨h1,rfl,by rw [qD h1]⟩
 ·cases h
theorem zad {f:Bool->Bool->Bool} {a b:List En} {r:Nat} (h:qy f (zT a r) (zT b r)≠[]):vE f a b r=some (Xd f a b r).1:=by
 unfold vE
 rw [if_pos]
 unfold Xd
 rw [zaj];simpa using h
theorem Xr {a b:List En} (ha:RightV a) (hb:RightV b):∀ r ∈ srt (zM a++zM b),r<zk:=fun r hr=>by
 have:=qr.1 hr
 simp only [zM,List.mem_append,List.mem_map] at this
 rcases this with⟨e,he,rfl⟩ | ⟨e,he,rfl⟩
 ·exact(ha.1 e he).2.2.2
 ·exact(hb.1 e he).2.2.2
theorem xj {g:Nat->Option En} (hg:∀ r e,g r=some e->e.rep=r):∀ {l:List Nat},YN l->(l.filterMap g).Pairwise fun a b=>a.rep<b.rep
 | [],_=>List.Pairwise.nil
 | r::l,h=>by
   have h':=List.pairwise_cons.1 h
   rw [List.filterMap_cons]
   cases e:g r with
   | none=>exact xj hg h'.2
   | some x=>
     refine List.pairwise_cons.2 ⟨fun y hy=>?_,xj hg h'.2⟩
     obtain⟨r',hr',e'⟩:=List.mem_filterMap.1 hy
     rw [hg _ _ e,hg _ _ e']
     exact h'.1 r' hr'
theorem Xe (f:Bool->Bool->Bool) {a b:List En} (ha:RightV a) (hb:RightV b):CanV (ks f a b):=by
 refine⟨fun e he=>?_,xj (fun r e h=>(xz h).2.2) (yi _)⟩
 obtain⟨r,hr,e'⟩:=List.mem_filterMap.1 he
 obtain⟨h1,rfl,_⟩:=xz e'
 exact zak (Xr ha hb r hr) (qH (qi ha r) (qi hb r)) h1
theorem zdv {f:Bool->Bool->Bool} (hf:f false false=false):qy f [] []=[]:=
 vK (a:=[]) (b:=[]) trivial trivial trivial fun x hx=>by simp [hf]
theorem JR {f:Bool->Bool->Bool} (hf:f false false=false) {a b:List En} (ha:RightV a) (hb:RightV b) (r:Nat):zT (ks f a b) r=qy f (zT a r) (zT b r):=by
 by_cases h:qy f (zT a r) (zT b r)=[]
 ·rw [h]
  refine qC fun e he hr=>?_
  obtain⟨r',hr',e'⟩:=List.mem_filterMap.1 he
  obtain⟨h1,_,h3⟩:=xz e'
  rw [hr] at h3
  subst h3
  exact h1 h
 ·have hm:r ∈ srt (zM a++zM b):=by
   refine qr.2 (List.mem_append.2 ?_)
   rcases Classical.em (r ∈ zM a) with h1 | h1
   ·exact .inl h1
   ·rcases Classical.em (r ∈ zM b) with h2 | h2
    ·exact .inr h2
    ·refine absurd ?_ h
     rw [qC (v:=a) fun e he hr=>h1 (List.mem_map.2 ⟨e,he,hr⟩),qC (v:=b) fun e he hr=>h2 (List.mem_map.2 ⟨e,he,hr⟩)]
     exact zdv hf
  have he:(Xd f a b r).1 ∈ ks f a b:=List.mem_filterMap.2 ⟨r,hm,zad h⟩
  have h3:(Xd f a b r).1.rep=r:=(xz (zad h)).2.2
  have:=kq (Xe f ha hb).2 he
  rw [h3] at this
  rw [this]
  exact JO (Xr ha hb r hm) (qH (qi ha r) (qi hb r)) h
section
variable {a b c:List En}
theorem fU0:zn false false=false:=rfl
theorem fM0:zm false false=false:=rfl
end
end Go.Proofs.YtonhfknjcbakiaaDoor
