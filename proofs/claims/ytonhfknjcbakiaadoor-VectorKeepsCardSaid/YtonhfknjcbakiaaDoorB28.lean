import Derived.Test.YtonhfknjcbakiaaDoorB27
set_option linter.unusedVariables false
set_option linter.unusedSimpArgs false
set_option maxRecDepth 100000
namespace Go.Proofs.YtonhfknjcbakiaaDoor
open Go.RowKit
theorem zi9 {n:Int} (h : -9223372036854775808<=n/\n<9223372036854775808):IntKind.i64.wrap n=n:=by
 simp only [IntKind.wrap,IntKind.bits,IntKind.signed]
 simp
 omega
theorem KV (p:Nat->Prop) [DecidablePred p]:∀ n,(∀ i j,i<=j->j<n->p j->p i)->∃ i,i<=n/\(∀ j,j<i->p j)/\∀ j,i<=j->j<n->¬ p j
 | 0,_=>⟨0,Nat.le_refl _,fun j h=>absurd h (by omega),fun j h1 h2=>absurd h2 (by omega)⟩
 | n+1,h=>by
   by_cases hp:p n
   ·exact⟨n+1,Nat.le_refl _,fun j hj=>h j n (by omega) (by omega) hp,fun j h1 h2=>absurd h2 (by omega)⟩
   ·obtain⟨i,h1,h2,h3⟩:=KV p n fun i j hij hj=>h i j hij (by omega)
    refine⟨i,by omega,h2,fun j h4 h5=>?_⟩
    rcases Nat.lt_or_ge j n with h6 | h6
    ·exact h3 j h4 h6
    ·obtain rfl:j=n:=by omega
     exact hp
attribute [go_sem] zi9
theorem zhn (l:List Iv) (x:Nat) (g:FuncId) (c:Nat->Int) (i:Nat) (hi:i<=l.length) (h1:∀ j,j<i->c j<0) (h2:∀ j,i<=j->j<l.length->0<=c j) (hl:l.length<=1152921504606846976)
 (hg:∀ k (h:k<l.length),Cn Tryd.prog g [Je l[k],.v (.int .u64 x)] (.v (.int .i64 (c k)))):Cn Tryd.prog 62 [rg l,.v (.int .u64 x),.fn (.func g) [] []] (.tup [.v (.int .i64 i),.v (.bool (decide (i<l.length) && decide (c i=0)))]):=by
 refine zt Tryd.func62 3 ?_
 refine pw ?_
 refine pLoop.go (fun p:Nat × Nat=>p.1<=i/\i<=p.2/\p.2<=l.length) (fun p=>[(9,.v (.int .i64 (p.1:Nat))),(10,.v (.int .i64 (p.2:Nat)))]) (fun _=>[]) (fun p=>p.2 - p.1) (0,l.length) [9,10] ?_ ?_ ?_
 ·exact⟨Nat.zero_le _,hi,Nat.le_refl _⟩
 ·exact pd
 ·rintro⟨p,q⟩ ⟨k1,k2,k3⟩
  simp only at k1 k2 k3
  refine pw ?_
  refine .i ?_ ?_<;>intro h<;>(try simp only [zb] at h)<;>first | refine pw ?_ | exact pd
  ·have hm:(p+q) / 2<l.length:=by omega
   refine pw ?_
   (first | refine .c (hg ((p+q) / 2) hm) ?_ | refine .o (hg ((p+q) / 2) hm) ?_)
   refine .i ?_ ?_<;>intro h4<;>(try simp only [zb] at h4)<;>first | refine pw ?_ | exact pd
   ·refine⟨((p+q) / 2+1,q),⟨?_,k2,k3⟩,by simp only;omega,rfl,rfl⟩
    simp only
    refine Nat.lt_of_not_le fun h5=>?_
    have:=h2 _ h5 hm
    omega
   ·refine⟨(p,(p+q) / 2),⟨k1,?_,by simp only;omega⟩,by simp only;omega,rfl,rfl⟩
    simp only
    refine Nat.le_of_not_lt fun h5=>?_
    have:=h1 _ h5
    omega
  ·obtain rfl:p=i:=by omega
   obtain rfl:q=p:=by omega
   refine .i ?_ ?_<;>intro h4<;>(try simp only [zb] at h4)<;>first | refine pw ?_ | exact pd
   ·(first | refine .c (hg q h4) ?_ | refine .o (hg q h4) ?_)
    simp [h4]
   ·have h4':¬ q<l.length:=by omega
    simp [h4']
theorem zd5 (s:Iv) (x:Nat):Cn Tryd.prog 63 [Je s,.v (.int .u64 x)] (.v (.int .i64 (if s.hi<x then -1 else if x<s.lo then 1 else 0))):=by
 refine zt Tryd.func63 2 ?_
 refine pw ?_
 refine .i ?_ ?_<;>intro h1<;>(try simp only [zb] at h1)<;>first | refine pw ?_ | exact pd
 ·rw [if_pos h1]
 ·rw [if_neg (by omega)]
  refine .i ?_ ?_<;>intro h2<;>(try simp only [zb] at h2)<;>first | refine pw ?_ | exact pd
  ·rw [if_pos h2]
  ·rw [if_neg (by omega)]
theorem zdE {l:List Iv} (hl:Nrm l) (x:Nat):∃ i,i<=l.length/\(∀ j,(h:j<l.length)->j<i->l[j].hi<x)/\(∀ j,(h:j<l.length)->i<=j->x<=l[j].hi)/\(mem l x=true ↔ ∃ h:i<l.length,l[i].lo<=x):=by
 have mono:∀ {n:Nat} {l:List Iv},NF n l->∀ i j,(hij:i<j)->(hj:j<l.length)->l[i].hi<l[j].lo:=by
  intro n l
  induction l generalizing n with
  | nil=>intro _ i j _ hj;simp at hj
  | cons s l ih=>
    intro h i j hij hj
    obtain⟨j',rfl⟩:∃ j',j=j'+1:=⟨j - 1,by omega⟩
    cases i with
    | zero=>
      have:=NF.lo_ge h.2.2.2 (l[j']'(by simpa using hj)) (List.getElem_mem _)
      simp only [List.getElem_cons_zero,List.getElem_cons_succ]
      omega
    | succ i=>exact ih h.2.2.2 i j' (by omega) (by simpa using hj)
 obtain⟨i,h1,h2,h3⟩:=KV (fun j=>∃ h:j<l.length,l[j].hi<x) l.length fun a b hab hb ⟨h4,h5⟩=>by
  refine⟨by omega,?_⟩
  rcases Nat.lt_or_eq_of_le hab with h6 | h6
  ·have:=mono hl a b h6 hb
   have:=NF.lo_ge hl l[b] (List.getElem_mem _)
   omega
  ·subst h6;exact h5
 have h3':∀ j,(h:j<l.length)->i<=j->x<=l[j].hi:=fun j hj hij=>by
  have:=h3 j hij hj
  exact Nat.le_of_not_lt fun h=>this ⟨hj,h⟩
 refine⟨i,h1,fun j hj hji=>(h2 j hji).2,h3',?_⟩
 rw [qf]
 constructor
 ·rintro⟨s,hs,h4,h5⟩
  obtain⟨j,hj,rfl⟩:=List.getElem_of_mem hs
  have hij:i<=j:=Nat.le_of_not_lt fun h=>by have:=(h2 j h).2;omega
  refine⟨by omega,?_⟩
  rcases Nat.lt_or_eq_of_le hij with h6 | h6
  ·have:=mono hl i j h6 hj
   have:=NF.lo_ge hl (l[i]'(by omega)) (List.getElem_mem _)
   omega
  ·subst h6;exact h4
 ·rintro⟨h,h4⟩
  exact⟨l[i],List.getElem_mem _,h4,h3' i h (Nat.le_refl _)⟩
def zaT (x:Nat) (s:Iv):Int:=if s.hi<x then -1 else if x<s.lo then 1 else 0
theorem ziQ (l:List Iv) (x:Nat) (hl:Nrm l) (hn:l.length<=1152921504606846976):Cn Tryd.prog 44 [rg l,.v (.int .u64 x)] (.v (.bool (mem l x))):=by
 obtain⟨i,h1,h2,h3,h4⟩:=zdE hl x
 have hF:Cn Tryd.prog 54 [rg l,.v (.int .u64 x)] (.v (.int .i64 (if mem l x then (i:Int) else -1))):=by
  refine zt Tryd.func54 2 ?_
  refine pw ?_
  refine .c (zhn l x 63 (fun k=>if h:k<l.length then zaT x l[k] else 0) i h1 (fun j hj=>by rw [dif_pos (show j<l.length by omega)];unfold zaT;rw [if_pos (h2 j (by omega) hj)];decide) (fun j hj hjl=>by rw [dif_pos hjl];unfold zaT;rw [if_neg (by have:=h3 j hjl hj;omega)];split<;>decide) hn (fun k h=>by rw [dif_pos h];exact zd5 l[k] x)) ?_
  have e:(decide (i<l.length) && decide ((if h:i<l.length then zaT x l[i] else 0)=0))=mem l x:=by
   rw [Bool.eq_iff_iff,h4]
   simp only [Bool.and_eq_true,decide_eq_true_eq]
   constructor
   ·rintro⟨k1,k2⟩
    refine⟨k1,?_⟩
    rw [dif_pos k1] at k2
    unfold zaT at k2
    split at k2
    ·cases k2
    ·split at k2
     ·cases k2
     ·omega
   ·rintro⟨k1,k2⟩
    refine⟨k1,?_⟩
    rw [dif_pos k1]
    unfold zaT
    rw [if_neg (by have:=h3 i k1 (Nat.le_refl _);omega),if_neg (by omega)]
  rw [e]
  refine .i ?_ ?_<;>intro h5<;>(try simp only [zb] at h5)<;>first | refine pw ?_ | exact pd
  ·rw [h5];rfl
  ·rw [h5];rfl
 refine zt Tryd.func44 2 ?_
 refine pw ?_
 (first | refine .c (hF) ?_ | refine .o (hF) ?_)
 cases mem l x<;>simp
theorem zoS (e:En) (c:Nat) (h:zO e) (hn:e.holes.length<=1152921504606846976):Cn Tryd.prog 30 [ep e,.v (.int .u64 c)] (.v (.bool (decide (c<=e.max) && !mem e.holes c))):=by
 refine zt Tryd.func30 2 ?_
 refine pw ?_
 refine .i ?_ ?_<;>intro h1<;>(try simp only [zb] at h1)<;>first | refine pw ?_ | exact pd
 ·refine .c (ziQ e.holes c h.1 hn) ?_
  simp [h1]
 ·have h1':¬ c<=e.max:=by omega
  simp [h1']
def vp (v:List En):PV:=.sl (v.map ec) .sh
attribute [go_sem] vp
def ZL (e:En):Prop:=(∀ s ∈ e.holes,s.lo<zk/\s.hi<zk)/\e.max<zk/\e.rep<zk
def ea:En:=⟨1,2,[]⟩
def eb:En:=⟨1,5,[⟨3,4⟩]⟩
def ed:En:=⟨1,5,[]⟩
section
variable (a b:En) (ha:ZL a) (hb:ZL b)
include ha hb
end
theorem ze4 {D:Nat->Nat->Prop} {w:World} {x:Value} {v:List En} (h:Dat D w x (vp v)) (hD:∀ b o,D b o->b<w.heap.size) (hb:∀ e ∈ v,ZL e):RdV w.heap.size w x v:=by
 unfold vp at h
 generalize he:v.map ec=es at h
 cases h with
 | sl a cap sz es o b off u hc hz hm ha hsz hd hx=>
   have hl:es.length=v.length:=by rw [<-he];simp
   refine⟨a,cap,by rw [hl],by omega,hm,fun hne=>?_⟩
   have hpos:0<v.length:=List.length_pos_iff.2 hne
   have g:∀ i (h:i<v.length),es[i]? = some (ec v[i]):=fun i h=>by rw [<-he];exact xo h
   obtain rfl:3=sz:=hsz 0 _ (g 0 hpos)
   have hes:es≠[]:=by intro e;subst e;simp at hl;omega
   have hdlt:b<w.heap.size:=hD _ _ (hd 0 (by omega)).1
   refine⟨b,off,ha hes,Nat.zero_le _,hdlt,fun i hi=>?_⟩
   have e0:=(hx i _ 0 _ (g i hi) rfl).v_inv
   have e1:=(hx i _ 1 _ (g i hi) rfl).v_inv
   have e2:=hx i _ 2 _ (g i hi) rfl
   have c0:=(hd (i * 3+0) (by omega)).2.1
   have c1:=(hd (i * 3+1) (by omega)).2.1
   have c2:=(hd (i * 3+2) (by omega)).2.1
   rw [e0] at c0
   rw [e1] at c1
   obtain⟨b1,b2,b3⟩:=hb _ (List.getElem_mem hi)
   exact⟨c0,c1,⟨_,c2,je e2 hD b1⟩,b3,b2⟩
def ns (l:List Nat):PV:=.sl (l.map yN) .sh
attribute [go_sem] ns
theorem vL {D:Nat->Nat->Prop} {base:Nat} {w:World} {v:Value} {l:List Nat} (h:OwnN base w v l) (hD:∀ b o,base<=b->b<w.heap.size->D b o):Dat D w v (ns l):=by
 unfold ns
 have hlen:(l.map yN).length=l.length:=by simp
 rcases id h.2 with⟨rfl,h0⟩ | ⟨g,cap,cur,rfl,hg,hh,hn,hc,_⟩
 ·obtain rfl:l=[]:=List.length_eq_zero_iff.1 h0
  exact .sl none 0 1 [] .sh 0 0 (fun _=>undef) (by simp) (fun h=>by cases h) (by unfold maxLen;omega) (fun h=>absurd rfl h) (fun i e h=>by simp at h) (fun j h=>by simp at h) (fun i e j p h=>by simp at h)
 ·rw [<-hlen]
  refine .sl _ cap 1 _ .sh g 0 (fun j=>.int .u64 (l.getD j 0:Nat)) (by simpa using hn) (fun h=>by cases h) hc (fun _=>rfl) (fun i e h=>?_) (fun j hj=>?_) (fun i e j p he hp=>?_)
  ·simp only [List.getElem?_map,Option.map_eq_some_iff] at h
   obtain⟨s,_,rfl⟩:=h
   rfl
  ·simp only [List.length_map,Nat.mul_one] at hj
   refine⟨hD _ _ hg (Array.getElem?_eq_some_iff.1 hh).1,?_,rfl⟩
   rw [Nat.zero_add,h.cellAt _ (by simpa using hj)]
   simp [hj]
  ·have hi:i<l.length:=by have:=(List.getElem?_eq_some_iff.1 he).1;simpa using this
   rw [xo hi] at he
   cases he
   match j,hp with
   | 0,hp=>cases hp;simp [hi];exact .v _
   | j+1,hp=>simp [yN] at hp
theorem KB {vs:Array Value} (h:vs.size=1):vs=#[vs.getD 0 undef]:=by
 obtain⟨l⟩:=vs
 match l,h with
 | [x],_=>rfl
theorem Yz (v:List En) (hb:∀ e ∈ v,ZL e) (hl:(zv v).length<=1073741824):Cn Tryd.prog 11 [vp v] (ns (zv v)):=by
 refine Js rfl (enters_of Tryd.func11 (by kernel_rfl) rfl) fun D w vs hD hsz hd=>?_
 rw [KB hsz]
 refine(Q4 v _ w (ze4 (hd 0 _ rfl) hD hb) hl).mono ?_
 rintro e w' ⟨u,rfl,hv,hbl⟩
 exact⟨u,rfl,hbl,vL hv fun b o h1 h2=>.inr ⟨h1,h2⟩⟩
end Go.Proofs.YtonhfknjcbakiaaDoor
