import Derived.Test.YtopfkkogooocgaaGreatB3
set_option linter.unusedVariables false
set_option linter.unusedSimpArgs false
namespace Go.Proofs.YtopfkkogooocgaaGreat
def YN (l:List Nat):Prop:=l.Pairwise (· < ·)
theorem jK:∀ {a b:List Nat},YN a->YN b->(∀ x,x ∈ a ↔ x ∈ b)->a=b
 | [],[],_,_,_=>rfl
 | [],y::b,_,_,h=>absurd ((h y).2 (by simp)) (by simp)
 | x::a,[],_,_,h=>absurd ((h x).1 (by simp)) (by simp)
 | x::a,y::b,ha,hb,h=>by
   have ha':=List.pairwise_cons.1 ha
   have hb':=List.pairwise_cons.1 hb
   have hxy:x=y:=by
    have h1:=(h x).1 (by simp)
    have h2:=(h y).2 (by simp)
    simp at h1 h2
    rcases h1 with h1 | h1
    ·exact h1
    ·rcases h2 with h2 | h2
     ·exact h2.symm
     ·have:=hb'.1 x h1;have:=ha'.1 y h2;omega
   subst hxy
   congr 1
   refine jK ha'.2 hb'.2 fun z=>?_
   have:=h z
   simp at this
   constructor
   ·intro hz
    rcases this.1 (.inr hz) with e | e
    ·have:=ha'.1 z hz;omega
    ·exact e
   ·intro hz
    rcases this.2 (.inr hz) with e | e
    ·have:=hb'.1 z hz;omega
    ·exact e
theorem Y6:∀ xs:List Nat,∃ r,YN r/\∀ y,y ∈ r ↔ y ∈ xs
 | []=>⟨[],List.Pairwise.nil,fun _=>Iff.rfl⟩
 | x::xs=>by
   obtain⟨r,h1,h2⟩:=Y6 xs
   refine⟨r.filter (·<x)++x::r.filter (x < ·),?_,fun y=>?_⟩
   ·refine List.pairwise_append.2 ⟨h1.filter _,List.pairwise_cons.2 ⟨fun y hy=>by simpa using (List.mem_filter.1 hy).2,h1.filter _⟩,fun y hy z hz=>?_⟩
    have:=(List.mem_filter.1 hy).2
    simp at this hz
    rcases hz with rfl | hz<;>omega
   ·simp only [List.mem_append,List.mem_filter,List.mem_cons,h2,decide_eq_true_eq]
    by_cases e:y=x
    ·simp [e]
    ·rcases Nat.lt_or_ge y x with h | h
     ·simp [h,e];omega
     ·have:x<y:=by omega
      simp [this,e];omega
noncomputable def srt (xs:List Nat):List Nat:=Classical.choose (Y6 xs)
theorem yi (xs:List Nat):YN (srt xs):=(Classical.choose_spec (Y6 xs)).1
theorem qr {xs:List Nat} {y:Nat}:y ∈ srt xs ↔ y ∈ xs:=(Classical.choose_spec (Y6 xs)).2 y
theorem XA {xs r:List Nat} (h:YN r) (hm:∀ y,y ∈ r ↔ y ∈ xs):srt xs=r:=jK (yi xs) h fun y=>by rw [qr,hm]
theorem XB:srt []=[]:=XA List.Pairwise.nil fun _=>Iff.rfl
theorem jJ {l:List Nat} (h:YN l) {i j:Nat} (hj:j<l.length) (hi:i<j):l[i]<l[j]:=List.pairwise_iff_getElem.1 h i j (by omega) hj hi
theorem kJ {xs:List Nat} {x at_:Nat} (h0:at_<=(srt xs).length) (h1:∀ k (h:k<(srt xs).length),at_<=k->x<(srt xs)[k]) (h2:at_=0\/∃ h:at_ - 1<(srt xs).length,(srt xs)[at_ - 1]<x) :
 srt (xs++[x])=(srt xs).take at_++x::(srt xs).drop at_:=by
 have ha:=yi xs
 have hlo:∀ y ∈ (srt xs).take at_,y<x:=fun y hy=>by
  obtain⟨i,hi,rfl⟩:=List.getElem_of_mem hy
  simp at hi ⊢
  rcases h2 with h2 | ⟨h,h2⟩
  ·omega
  ·rcases Nat.lt_or_ge i (at_ - 1) with h' | h'
   ·have:=jJ ha h h';omega
   ·have:i=at_ - 1:=by omega
    subst this;exact h2
 have hhi:∀ y ∈ (srt xs).drop at_,x<y:=fun y hy=>by
  obtain⟨i,hi,rfl⟩:=List.getElem_of_mem hy
  simp at hi ⊢
  exact h1 _ (by omega) (by omega)
 refine XA (List.pairwise_append.2 ⟨ha.sublist (List.take_sublist _ _),List.pairwise_cons.2 ⟨fun y hy=>hhi y hy,ha.sublist (List.drop_sublist _ _)⟩,fun y hy z hz=>?_⟩) fun y=>?_
 ·simp at hz
  rcases hz with rfl | hz
  ·exact hlo y hy
  ·exact Nat.lt_trans (hlo y hy) (hhi z hz)
 ·have:y ∈ (srt xs).take at_++(srt xs).drop at_ ↔ y ∈ xs:=by rw [List.take_append_drop];exact qr
  simp only [List.mem_append,List.mem_cons,List.not_mem_nil,or_false] at this ⊢
  constructor
  ·rintro(h | h | h)
   ·exact .inl (this.1 (.inl h))
   ·exact .inr h
   ·exact .inl (this.1 (.inr h))
  ·rintro(h | h)
   ·rcases this.2 h with h | h
    ·exact .inl h
    ·exact .inr (.inr h)
   ·exact .inr (.inl h)
theorem zaw {xs:List Nat} {x:Nat} (h:x ∈ srt xs):srt (xs++[x])=srt xs:=XA (yi xs) fun y=>by
 rw [qr] at *
 simp
 intro e;subst e;exact h
theorem ju (xs:List Nat):(srt xs).length<=xs.length:=by
 have key:∀(r xs:List Nat),YN r->(∀ y ∈ r,y ∈ xs)->r.length<=xs.length:=by
  intro r
  induction r with
  | nil=>intro xs _ _;exact Nat.zero_le _
  | cons x r ih=>
    intro xs h hm
    have h':=List.pairwise_cons.1 h
    have:=ih (xs.erase x) h'.2 fun y hy=>by
     have h3:=h'.1 y hy
     exact(List.mem_erase_of_ne (by omega)).2 (hm y (by simp [hy]))
    have hx:x ∈ xs:=hm x (by simp)
    rw [List.length_erase_of_mem hx] at this
    have:=List.length_pos_of_mem hx
    simp;omega
 exact key _ _ (yi xs) fun y hy=>qr.1 hy
def jQ (s:Iv):List Nat:=s.lo::if s.hi<zk - 1 then [s.hi+1] else []
def z6 (l:List Iv):List Nat:=l.flatMap jQ
def yU (ls:List (List Iv)):List Nat:=0::ls.flatMap z6
noncomputable def zH (ls:List (List Iv)):List Nat:=srt (yU ls)
theorem zcy (s:Iv):(jQ s).length<=2:=by unfold jQ;split<;>simp
theorem vq (l:List Iv):(z6 l).length<=2 * l.length:=by
 induction l with
 | nil=>simp [z6]
 | cons s l ih=>
   have:=zcy s
   simp only [z6,List.flatMap_cons,List.length_append,List.length_cons] at ih ⊢
   omega
theorem zaU {l:List Iv} {k:Nat} (h:k<l.length):z6 (l.take (k+1))=z6 (l.take k)++jQ l[k]:=by
 unfold z6;rw [List.take_succ_eq_append_getElem h,List.flatMap_append];simp only [List.flatMap_cons,List.flatMap_nil,List.append_nil]
theorem Qh {l:List Iv} (hr:∀ s ∈ l,s.lo<=s.hi/\s.hi<zk) {x y:Nat} (hxy:x<=y) (hy:y<zk) (hc:∀ c ∈ z6 l,c<=x\/y<c):mem l y=mem l x:=by
 induction l with
 | nil=>rfl
 | cons s l ih=>
   have hs:=hr s (by simp)
   rw [zz,zz,ih (fun t ht=>hr t (by simp [ht])) fun c h=>hc c (by simp [z6] at h ⊢;exact .inr h)]
   congr 1
   have h1:=hc s.lo (by simp [z6,jQ])
   have h2:s.hi<zk - 1->s.hi+1<=x\/y<s.hi+1:=fun h=>hc (s.hi+1) (by simp [z6,jQ,h])
   rw [Bool.eq_iff_iff]
   simp only [Bool.and_eq_true,decide_eq_true_eq]
   by_cases h3:s.hi<zk - 1
   ·have:=h2 h3;omega
   ·omega
def Qj:Nat->Bool->Bool->Bool
 | 0,a,b=>a || b
 | 1,a,b=>a && b
 | _,a,b=>a && !b
def KD (st:List Nat) (i:Nat):Nat:=if h:i<st.length then st[i] else zk
structure DoInv (f:Bool->Bool->Bool) (a b:List Iv) (st:List Nat) (i:Nat) (out:List Iv):Prop where
 nrm:Nrm out
 lt:∀ t ∈ out,t.hi<KD st i
 mm:∀ x,x<KD st i->mem out x=f (mem a x) (mem b x)
 len:out.length<=i
theorem zgd (out:List Iv) (s:Iv):(Q8 out s).length<=out.length+1:=by
 unfold Q8
 split
 ·simp
 ·split<;>simp<;>omega
theorem DoInv.step {f:Bool->Bool->Bool} {a b:List Iv} {st:List Nat} {i:Nat} {out:List Iv} (h:DoInv f a b st i out) (ha:Nrm a) (hb:Nrm b) (hs:YN st) (hlt:∀ x ∈ st,x<zk) (hc:∀ c,c ∈ z6 a\/c ∈ z6 b->c ∈ st) (hi:i<st.length) :
 (f (mem a st[i]) (mem b st[i])=true->DoInv f a b st (i+1) (Q8 out ⟨st[i],if h:i+1<st.length then st[i+1] - 1 else zk - 1⟩))/\(f (mem a st[i]) (mem b st[i])=false->DoInv f a b st (i+1) out):=by
 have e0:KD st i=st[i]:=dif_pos hi
 have hM:=zw
 have hlo:st[i]<zk:=hlt _ (List.getElem_mem _)
 have e1:(if h:i+1<st.length then st[i+1] - 1 else zk - 1)+1=KD st (i+1)/\st[i]<KD st (i+1)/\KD st (i+1)<=zk:=by
  unfold KD
  split
  ·rename_i h;have:=jJ hs h (Nat.lt_succ_self i);have:=hlt _ (List.getElem_mem h);omega
  ·omega
 obtain⟨e1,e2,e3⟩:=e1
 have hcut:∀ x,st[i]<=x->x<KD st (i+1)->∀ c ∈ st,c<=st[i]\/x<c:=fun x h1 h2 c hc=>by
  obtain⟨j,hj,rfl⟩:=List.getElem_of_mem hc
  rcases Nat.lt_trichotomy j i with h | h | h
  ·have:=jJ hs hi h;omega
  ·subst h;omega
  ·right
   unfold KD at h2
   split at h2
   ·rcases Nat.eq_or_lt_of_le (show i+1<=j from h) with h' | h'
    ·subst h';exact h2
    ·have:=jJ hs hj h';omega
   ·omega
 have ra:∀ s ∈ a,s.lo<=s.hi/\s.hi<zk:=fun s hs=>by have:=NF.lo_ge ha s hs;omega
 have rb:∀ s ∈ b,s.lo<=s.hi/\s.hi<zk:=fun s hs=>by have:=NF.lo_ge hb s hs;omega
 have same:∀ x,st[i]<=x->x<KD st (i+1)->mem a x=mem a st[i]/\mem b x=mem b st[i]:=fun x h1 h2=>
  ⟨Qh ra h1 (by omega) fun c h=>hcut x h1 h2 c (hc c (.inl h)),Qh rb h1 (by omega) fun c h=>hcut x h1 h2 c (hc c (.inr h))⟩
 constructor
 ·intro hf
  obtain⟨p1,p2,p3⟩:=Xm (s:=⟨st[i],if h:i+1<st.length then st[i+1] - 1 else zk - 1⟩) h.nrm (fun t ht=>by have:=h.lt t ht;rw [e0] at this;exact this) (by show st[i]<=(if h:i+1<st.length then st[i+1] - 1 else zk - 1);omega) (by show (if h:i+1<st.length then st[i+1] - 1 else zk - 1)<zk;omega)
  refine⟨p1,fun t ht=>by have:=p3 t ht;show t.hi<_;simp only at this;omega,fun x hx=>?_,Nat.le_trans (zgd _ _) (by have:=h.len;omega)⟩
  rw [p2 x]
  simp only
  rcases Nat.lt_or_ge x st[i] with h' | h'
  ·rw [h.mm x (by omega)]
   have:¬ st[i]<=x:=by omega
   simp [this]
  ·rw [(same x h' hx).1,(same x h' hx).2,hf]
   have:x<=(if h:i+1<st.length then st[i+1] - 1 else zk - 1):=by omega
   simp [h',this]
 ·intro hf
  refine⟨h.nrm,fun t ht=>by have:=h.lt t ht;omega,fun x hx=>?_,by have:=h.len;omega⟩
  rcases Nat.lt_or_ge x st[i] with h' | h'
  ·exact h.mm x (by omega)
  ·rw [(same x h' hx).1,(same x h' hx).2,hf]
   cases e:mem out x with
   | false=>rfl
   | true=>obtain⟨t,ht,_,ht2⟩:=qf.1 e;have:=h.lt t ht;omega
theorem DoInv.done {f:Bool->Bool->Bool} {a b:List Iv} {st:List Nat} {out:List Iv} (h:DoInv f a b st st.length out) (ha:Nrm a) (hb:Nrm b):out=qy f a b:=
 (vK ha hb h.nrm fun x hx=>h.mm x (by unfold KD;rw [dif_neg (by omega)];exact hx)).symm
theorem x8 (ls:List (List Iv)):YN (zH ls):=yi _
theorem VY (ls:List (List Iv)):∃ h:0<(zH ls).length,(zH ls)[0]=0:=by
 have h0:0 ∈ zH ls:=qr.2 (by simp [yU])
 obtain⟨i,hi,e⟩:=List.getElem_of_mem h0
 refine⟨by omega,?_⟩
 rcases Nat.eq_zero_or_pos i with h | h
 ·subst h;exact e
 ·have:=jJ (x8 ls) hi h;omega
theorem Ze {ls:List (List Iv)} (h:∀ l ∈ ls,∀ s ∈ l,s.lo<zk):∀ x ∈ zH ls,x<zk:=fun x hx=>by
 have:=qr.1 hx
 simp only [yU,List.mem_cons,List.mem_flatMap,z6,jQ] at this
 rcases this with rfl | ⟨l,hl,s,hs,h'⟩
 ·exact xM
 ·rcases h' with rfl | h'
  ·exact h l hl s hs
  ·split at h'
   ·simp at h';omega
   ·cases h'
theorem DoInv.zero {f:Bool->Bool->Bool} {a b:List Iv} (ls:List (List Iv)):DoInv f a b (zH ls) 0 []:=by
 obtain⟨h,e⟩:=VY ls
 have:KD (zH ls) 0=0:=by unfold KD;rw [dif_pos h,e]
 exact⟨trivial,(fun _ h=>by cases h),fun x hx=>(by omega),Nat.le_refl _⟩
def kA (ls:List (List Iv)) (i j:Nat):List Nat:=0::((ls.take i).flatMap z6++z6 ((ls[i]?.getD []).take j))
theorem zf6 (ls:List (List Iv)):kA ls 0 0=[0]:=by simp [kA,z6]
theorem XW (a b:List Iv):z6 (a++b)=z6 a++z6 b:=by simp [z6]
theorem zbv {ls:List (List Iv)} {i j:Nat} (h:i<ls.length) (hj:ls[i].length<=j):kA ls i j=kA ls (i+1) 0:=by
 unfold kA
 rw [List.getElem?_eq_getElem h,Option.getD_some,List.take_of_length_le hj,List.take_succ_eq_append_getElem h,List.flatMap_append]
 simp [z6]
theorem YF {ls:List (List Iv)} {i j:Nat} (h:i<ls.length) (hj:j<ls[i].length):kA ls i (j+1)=kA ls i j++jQ ls[i][j]:=by
 unfold kA
 rw [List.getElem?_eq_getElem h,Option.getD_some,zaU hj]
 simp
theorem zdJ {ls:List (List Iv)} {i:Nat} (h:ls.length<=i):kA ls i 0=yU ls:=by
 unfold kA yU
 rw [List.take_of_length_le h];simp [z6]
theorem zdK {ls:List (List Iv)} {i:Nat} (j:Nat) (h:i<ls.length):(kA ls i j).length<=(yU ls).length:=by
 have e:ls.flatMap z6=(ls.take i).flatMap z6++(z6 (ls[i].take j)++z6 (ls[i].drop j)++(ls.drop (i+1)).flatMap z6):=by
  rw [<-XW,List.take_append_drop]
  conv=>lhs;rw [<-List.take_append_drop i ls,List.drop_eq_getElem_cons h,List.flatMap_append,List.flatMap_cons]
 unfold kA yU
 rw [e,List.getElem?_eq_getElem h,Option.getD_some]
 simp
end Go.Proofs.YtopfkkogooocgaaGreat
