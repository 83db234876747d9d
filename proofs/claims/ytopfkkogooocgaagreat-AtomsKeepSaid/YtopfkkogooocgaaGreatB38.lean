import Derived.Test.YtopfkkogooocgaaGreatB37
set_option linter.unusedVariables false
set_option linter.unusedSimpArgs false
namespace Go.Proofs.YtopfkkogooocgaaGreat
theorem Ji:∀(r xs:List Nat),YN r->(∀ y ∈ r,y ∈ xs)->r.length<=xs.length:=by
 intro r
 induction r with
 | nil=>intro xs _ _;exact Nat.zero_le _
 | cons x r ih=>
   intro xs h hm
   have h':=List.pairwise_cons.1 h
   have:=ih (xs.erase x) h'.2 fun y hy=>by
    have h3:=h'.1 y hy
    exact(List.mem_erase_of_ne (by omega)).2 (hm y (by simp [hy]))
   have hx:x ∈ xs:=hm x (by simp)
   rw [List.length_erase_of_mem hx] at this
   have:=List.length_pos_of_mem hx
   simp;omega
def Ed (l:List Iv) (x:Nat):Prop:=x<zk/\mem l x≠(if x=0 then false else mem l (x - 1))
theorem NF.lo_prev:∀ {l:List Iv} {n:Nat},NF n l->∀ s ∈ l,s.lo≠0->mem l (s.lo - 1)=false
 | [],_,_,s,hs,_=>by cases hs
 | t::l,n,h,s,hs,h0=>by
   obtain⟨h1,h2,h3,h4⟩:=h
   rcases List.mem_cons.1 hs with rfl | hs
   ·rw [zz,h4.mem_lt (by omega),decide_eq_false (show ¬ s.lo<=s.lo - 1 by omega)]
    rfl
   ·have:=h4.lo_ge s hs
    rw [zz,NF.lo_prev h4 s hs h0,decide_eq_false (show ¬ s.lo - 1<=t.hi by omega)]
    simp
theorem NF.asc:∀ {l:List Iv} {n:Nat},NF n l->YN (l.map Iv.lo)
 | [],_,_=>List.Pairwise.nil
 | t::l,n,h=>by
   refine List.pairwise_cons.2 ⟨fun y hy=>?_,NF.asc h.2.2.2⟩
   obtain⟨s,hs,rfl⟩:=List.mem_map.1 hy
   have:=h.2.2.2.lo_ge s hs
   have:=h.2.1
   omega
theorem zjS {l:List Iv} (h:Nrm l) {s:Iv} (hs:s ∈ l):Ed l s.lo:=by
 have h1:=NF.lo_ge h s hs
 have h2:mem l s.lo=true:=qf.2 ⟨s,hs,Nat.le_refl _,h1.2.1⟩
 refine⟨by omega,?_⟩
 rw [h2]
 split
 ·simp
 ·rename_i h0
  rw [NF.lo_prev h s hs h0]
  simp
theorem zcK {l:List Iv} {C:List Nat} (h:Nrm l) (hC:∀ x,Ed l x->x ∈ C):l.length<=C.length:=by
 have:=Ji (l.map Iv.lo) C (NF.asc h) fun y hy=>by
  obtain⟨s,hs,rfl⟩:=List.mem_map.1 hy
  exact hC _ (zjS h hs)
 simpa using this
theorem Y3 {l:List Iv} (h:∀ s ∈ l,s.lo<=s.hi/\s.hi<zk) {x:Nat} (hx:Ed l x):x ∈ z6 l:=by
 refine Classical.byContradiction fun hn=>hx.2 ?_
 split
 ·rename_i h0
  subst h0
  cases hm:mem l 0 with
  | false=>rfl
  | true=>
    obtain⟨s,hs,h1,h2⟩:=qf.1 hm
    exact absurd (show 0 ∈ z6 l from List.mem_flatMap.2 ⟨s,hs,List.mem_cons.2 (.inl (by omega))⟩) hn
 ·exact Qh h (x:=x - 1) (y:=x) (by omega) hx.1 fun c hc=>by
   have:c≠x:=fun e=>hn (e ▸ hc)
   omega
theorem Nrm.ivs2 {l:List Iv} (h:Nrm l):∀ s ∈ l,s.lo<=s.hi/\s.hi<zk:=fun s hs=>(NF.lo_ge h s hs).2
theorem zcM {f:Bool->Bool->Bool} (hf:f false false=false) {a b:List Iv} (ha:Nrm a) (hb:Nrm b) {x:Nat} (h:Ed (qy f a b) x):Ed a x\/Ed b x:=by
 obtain⟨hx,hne⟩:=h
 by_cases h1:mem a x=(if x=0 then false else mem a (x - 1))
 ·by_cases h2:mem b x=(if x=0 then false else mem b (x - 1))
  ·refine absurd ?_ hne
   rw [qj ha hb hx,h1,h2]
   split
   ·exact hf
   ·rw [qj ha hb (by omega)]
  ·exact .inr ⟨hx,h2⟩
 ·exact .inl ⟨hx,h1⟩
theorem zcL {x:Nat}:¬ Ed [] x:=fun h=>h.2 (by simp)
theorem zhC {m n x:Nat} (h:Ed [⟨m,n⟩] x):x=m\/x=n+1:=by
 obtain⟨_,h⟩:=h
 rw [jl,jl] at h
 by_cases e1:x=m
 ·exact .inl e1
 ·by_cases e2:x=n+1
  ·exact .inr e2
  ·refine absurd ?_ h
   split
   ·rename_i h0
    rw [decide_eq_false (show ¬ m<=x by omega)]
    rfl
   ·rw [Bool.eq_iff_iff]
    simp only [Bool.and_eq_true,decide_eq_true_eq]
    omega
def EdV (C:Nat->List Nat) (v:List En):Prop:=∀ r x,Ed (zT v r) x->x ∈ C r
structure IV (C:Nat->List Nat) (R:List Nat) (v:List En):Prop where
 right:RightV v
 ed:EdV C v
 rep:∀ e ∈ v,e.rep ∈ R
structure WV (C:Nat->List Nat) (R:List Nat) (v:List En):Prop where
 can:CanV v
 ed:EdV C v
 rep:∀ e ∈ v,e.rep ∈ R
variable {C C':Nat->List Nat} {R R':List Nat} {v a b:List En}
theorem WV.iv (h:WV C R v):IV C R v:=⟨h.can.right,h.ed,h.rep⟩
theorem WV.nil:WV C R []:=⟨⟨fun e h=>(by cases h),List.Pairwise.nil⟩,fun r x h=>absurd h (by rw [kr];exact zcL),fun e h=>(by cases h)⟩
theorem IV.mono (h:IV C R v) (hC:∀ r x,x ∈ C r->x ∈ C' r) (hR:∀ x ∈ R,x ∈ R'):IV C' R' v:=⟨h.right,fun r x hx=>hC _ _ (h.ed r x hx),fun e he=>hR _ (h.rep e he)⟩
theorem WV.mono (h:WV C R v) (hC:∀ r x,x ∈ C r->x ∈ C' r) (hR:∀ x ∈ R,x ∈ R'):WV C' R' v:=⟨h.can,fun r x hx=>hC _ _ (h.ed r x hx),fun e he=>hR _ (h.rep e he)⟩
theorem IV.lat {f:Bool->Bool->Bool} (hf:f false false=false) (ha:IV C R a) (hb:IV C R b):WV C R (ks f a b):=by
 refine⟨Xe f ha.right hb.right,fun r x hx=>?_,fun e he=>?_⟩
 ·rw [JR hf ha.right hb.right] at hx
  rcases zcM hf (qi ha.right r) (qi hb.right r) hx with h | h
  ·exact ha.ed r x h
  ·exact hb.ed r x h
 ·have:=qr.1 (zdd e he)
  rcases List.mem_append.1 this with h | h
  ·obtain⟨e',he',h⟩:=List.mem_map.1 h
   rw [<-h];exact ha.rep e' he'
  ·obtain⟨e',he',h⟩:=List.mem_map.1 h
   rw [<-h];exact hb.rep e' he'
theorem IV.canVec (h:IV C R v):WV C R (zi v):=by
 refine⟨jN h.right,fun r x hx=>h.ed r x (by rwa [ja h.right] at hx),fun e he=>?_⟩
 obtain⟨e',he',h1⟩:=List.mem_filterMap.1 he
 rw [(v9 h1).2.2]
 exact h.rep e' he'
theorem QY {e:En} (h:YP e) {L:List Nat} (hL:∀ x,Ed (kn e) x->x ∈ L):e.holes.length<=L.length+2:=by
 have h1:=ZM h
 have h2:=(jO h).1
 have hn:=qT h.1
 rw [qD h2] at h1
 have h3:e.holes=qy zm [⟨0,QV (kn e)⟩] (kn e):=by
  have:=congrArg (fun p=>p.1.holes) h1
  exact this.symm
 have ht:=(x9 hn h2).2
 have h0:=qG (Nat.zero_le (QV (kn e))) ht
 rw [h3]
 have:=zcK (C:=0::(QV (kn e)+1)::L) (qH (f:=zm) h0 hn) fun x hx=>by
  rcases zcM fM0 h0 hn hx with h | h
  ·rcases zhC h with h | h<;>simp [h]
  ·simp [hL x h]
 simpa using this
theorem zb5 (h:v.Pairwise fun a b=>a.rep<b.rep):YN (zM v):=by
 unfold YN zM
 rw [List.pairwise_map]
 exact h
theorem WV.bv (h:WV C R v) {n m:Nat} (hC:∀ r,(C r).length<=n) (hR:R.length<=m):BV m (n+2) v:=by
 refine⟨h.can.right,?_,fun e he=>?_⟩
 ·have:=Ji (zM v) R (zb5 h.can.2) fun y hy=>by
   obtain⟨e,he,rfl⟩:=List.mem_map.1 hy
   exact h.rep e he
  simp only [zM,List.length_map] at this
  omega
 ·have:=QY (h.can.1 e he) (L:=C e.rep) fun x hx=>h.ed e.rep x (by rw [kq h.can.2 he];exact hx)
  have:=hC e.rep
  omega
theorem IV.of (h:RightV v):IV (fun r=>z6 (zT v r)) (zM v) v:=⟨h,fun r x hx=>Y3 (qi h r).ivs2 hx,fun e he=>List.mem_map.2 ⟨e,he,rfl⟩⟩
end Go.Proofs.YtopfkkogooocgaaGreat
namespace Go.Proofs.YtopfkkogooocgaaGreat
open Go.RowKit
structure Fg where
 items:List Iv
 vec:List En
deriving DecidableEq
instance : Inhabited Fg:=⟨⟨[],[]⟩⟩
theorem Fg.ext' {f g:Fg} (h1:f.items=g.items) (h2:f.vec=g.vec):f=g:=by cases f;cases g;simp_all
def fc (f:Fg):List PV:=[rg f.items,vp f.vec]
def fp (f:Fg):PV:=.agg (fc f)
def kp (k:List Fg):PV:=.sl (k.map fc) .sh
attribute [go_sem] kp fp fc
def ZS (f:Fg):Prop:=Nrm f.items/\RightV f.vec
def RightK (k:List Fg):Prop:=∀ f ∈ k,ZS f
def BdF (f:Fg):Prop:=BdR f.items/\(∀ e ∈ f.vec,ZL e)/\f.items.length<=9223372036854775807/\f.vec.length<=9223372036854775807
def BdK (k:List Fg):Prop:=(∀ f ∈ k,BdF f)/\k.length<=9223372036854775807
def HlK (k:List Fg):Prop:=∀ f ∈ k,∀ e ∈ f.vec,e.holes.length<=9223372036854775807
def vx (k:List Fg):Bool:=k.all (fun f=>decide (f.items.length<=20) && JF f.vec) && decide (k.length<=12)
theorem Z3 {k:List Fg}:vx k=true ↔ (∀ f ∈ k,f.items.length<=20/\JF f.vec=true)/\k.length<=12:=by simp [vx]
def hkK:Nat->List Fg->Nat × Int
 | _,[]=>(0,-1)
 | i,f::r=>if (Zl f.items).1≠0 then ((Zl f.items).1,(i:Int)) else if (jx f.vec).1≠0 then ((jx f.vec).1,(i:Int)) else hkK (i+1) r
def ckK (k:List Fg):Nat × Int:=hkK 0 k
theorem Vd:∀(i:Nat) (k:List Fg),(hkK i k).1=0 ↔ ∀ f ∈ k,(Zl f.items).1=0/\(jx f.vec).1=0
 | _,[]=>by simp [hkK]
 | i,f::r=>by
   have ih:=Vd (i+1) r
   unfold hkK
   by_cases h1:(Zl f.items).1≠0
   ·rw [if_pos h1]
    exact⟨fun h=>absurd h h1,fun h=>(h f (by simp)).1⟩
   ·rw [if_neg h1]
    by_cases h2:(jx f.vec).1≠0
    ·rw [if_pos h2]
     exact⟨fun h=>absurd h h2,fun h=>(h f (by simp)).2⟩
    ·rw [if_neg h2,ih]
     constructor
     ·intro h g hg
      rcases List.mem_cons.1 hg with rfl | hg
      ·exact⟨by omega,by omega⟩
      ·exact h g hg
     ·intro h g hg
      exact h g (by simp [hg])
theorem ZN {k:List Fg} (hb:BdK k):(ckK k).1=0 ↔ RightK k:=by
 unfold ckK
 rw [Vd]
 constructor
 ·intro h f hf
  obtain⟨h1,h2⟩:=h f hf
  have hbf:=hb.1 f hf
  exact⟨(YT fun s hs=>(hbf.1 s hs).2).1 h1,(XP hbf.2.1).1 h2⟩
 ·intro h f hf
  have hbf:=hb.1 f hf
  exact⟨(YT fun s hs=>(hbf.1 s hs).2).2 (h f hf).1,(XP hbf.2.1).2 (h f hf).2⟩
def qd (i:Nat):Nat->List Fg->List (Nat × Fg)
 | _,[]=>[]
 | n,f::r=>if mem f.items i=true then (n,f)::qd i (n+1) r else qd i (n+1) r
theorem QR (i:Nat) (f:Fg):∀(n:Nat) (l:List Fg),qd i n (l++[f])=qd i n l++(if mem f.items i=true then [(n+l.length,f)] else [])
 | n,[]=>by simp [qd]
 | n,g::l=>by
   have ih:=QR i f (n+1) l
   have e:n+1+l.length=n+(l.length+1):=by omega
   rw [List.cons_append,qd,qd,ih,List.length_cons,e]
   split<;>simp
theorem j9 {k:List Fg} {j:Nat} (i:Nat) (h:j<k.length):qd i 0 (k.take (j+1))=qd i 0 (k.take j)++(if mem k[j].items i=true then [(j,k[j])] else []):=by
 rw [List.take_succ_eq_append_getElem h,QR,List.length_take,Nat.min_eq_left (by omega),Nat.zero_add]
theorem jv {i:Nat} {p:Nat × Fg}:∀ {n:Nat} {l:List Fg},p ∈ qd i n l->p.2 ∈ l/\mem p.2.items i=true/\n<=p.1/\p.1<n+l.length
 | n,[],h=>by cases h
 | n,f::l,h=>by
   unfold qd at h
   split at h
   ·rename_i hf
    rcases List.mem_cons.1 h with rfl | h
    ·exact⟨by simp,hf,Nat.le_refl _,by simp⟩
    ·obtain⟨h1,h2,h3,h4⟩:=jv h
     exact⟨by simp [h1],h2,by omega,by simp;omega⟩
   ·obtain⟨h1,h2,h3,h4⟩:=jv h
    exact⟨by simp [h1],h2,by omega,by simp;omega⟩
theorem Zg (i:Nat):∀(n:Nat) (l:List Fg),(qd i n l).length<=l.length
 | _,[]=>Nat.le_refl _
 | n,f::l=>by
   have:=Zg i (n+1) l
   unfold qd
   split<;>simp<;>omega
theorem YL {i:Nat} {q:Fg->Bool}:∀(n:Nat) (l:List Fg),(qd i n l).any (fun p=>q p.2)=l.any fun f=>mem f.items i && q f
 | _,[]=>rfl
 | n,f::l=>by
   have ih:=YL (i:=i) (q:=q) (n+1) l
   unfold qd
   rw [List.any_cons,<-ih]
   cases h:mem f.items i<;>simp
def zU (k:List Fg) (i:Nat):List Nat:=(qd i 0 k).map Prod.fst
def hasK (k:List Fg) (i r c:Nat):Bool:=k.any fun f=>mem f.items i && mem (zT f.vec r) c
theorem jh (k:List Fg) (i r c:Nat):(qd i 0 k).any (fun p=>mem (zT p.2.vec r) c)=hasK k i r c:=YL (q:=fun f=>mem (zT f.vec r) c) 0 k
noncomputable def qc (k:List Fg) (i:Nat):List En:=(qd i 0 k).foldl (fun o p=>ks zn o p.2.vec) []
def JM (k:List Fg):List Iv:=k.foldl (fun o f=>qy zn o f.items) []
theorem RightK.take {k:List Fg} (h:RightK k) (j:Nat):RightK (k.take j):=fun f hf=>h f (List.mem_of_mem_take hf)
def CK (k:List Fg) (r:Nat):List Nat:=k.flatMap fun f=>z6 (zT f.vec r)
def RK (k:List Fg):List Nat:=k.flatMap fun f=>zM f.vec
def CI (k:List Fg):List Nat:=k.flatMap fun f=>z6 f.items
theorem IV.frag {k:List Fg} (h:RightK k) {f:Fg} (hf:f ∈ k):IV (CK k) (RK k) f.vec:=
 (IV.of (h f hf).2).mono (fun r x hx=>List.mem_flatMap.2 ⟨f,hf,hx⟩) fun x hx=>List.mem_flatMap.2 ⟨f,hf,hx⟩
def IK (C:Nat->List Nat) (R:List Nat) (k:List Fg):Prop:=∀ f ∈ k,IV C R f.vec
theorem RightK.ik {k:List Fg} (h:RightK k):IK (CK k) (RK k) k:=fun f hf=>IV.frag h hf
theorem IK.take {C:Nat->List Nat} {R:List Nat} {k:List Fg} (h:IK C R k) (j:Nat):IK C R (k.take j):=fun f hf=>h f (List.mem_of_mem_take hf)
theorem zgT {C:Nat->List Nat} {R:List Nat}:∀(l:List (Nat × Fg)) (o:List En),(∀ p ∈ l,IV C R p.2.vec)->WV C R o->WV C R (l.foldl (fun o p=>ks zn o p.2.vec) o) /\
 ∀ r c,c<zk->mem (zT (l.foldl (fun o p=>ks zn o p.2.vec) o) r) c=(mem (zT o r) c || l.any fun p=>mem (zT p.2.vec r) c)
 | [],o,_,ho=>⟨ho,fun r c _=>by simp⟩
 | p::l,o,hl,ho=>by
   have hp:=hl p (by simp)
   obtain⟨h1,h2⟩:=zgT l (ks zn o p.2.vec) (fun q hq=>hl q (by simp [hq])) (ho.iv.lat fU0 hp)
   refine⟨h1,fun r c hc=>?_⟩
   rw [List.foldl_cons,h2 r c hc,JR fU0 ho.can.right hp.right,qj (qi ho.can.right r) (qi hp.right r) hc,List.any_cons]
   simp only [zn,Bool.or_assoc]
theorem IK.at {C:Nat->List Nat} {R:List Nat} {k:List Fg} (h:IK C R k) (i:Nat):WV C R (qc k i)/\∀ r c,c<zk->mem (zT (qc k i) r) c=hasK k i r c:=by
 obtain⟨h1,h2⟩:=zgT (qd i 0 k) [] (fun p hp=>h _ (jv hp).1) WV.nil
 refine⟨h1,fun r c hc=>?_⟩
 rw [<-jh]
 have:=h2 r c hc
 rw [kr,Xf,Bool.false_or] at this
 exact this
theorem Zp:∀(l:List Fg) (o:List Iv),Nrm o->(∀ f ∈ l,Nrm f.items)->Nrm (l.foldl (fun o f=>qy zn o f.items) o) /\
 (∀ x,x<zk->mem (l.foldl (fun o f=>qy zn o f.items) o) x=(mem o x || l.any fun f=>mem f.items x))/\∀ x,Ed (l.foldl (fun o f=>qy zn o f.items) o) x->Ed o x\/x ∈ CI l
 | [],o,ho,_=>⟨ho,fun x _=>by simp,fun x h=>.inl h⟩
 | f::l,o,ho,hl=>by
   have hf:=hl f (by simp)
   obtain⟨h1,h2,h3⟩:=Zp l (qy zn o f.items) (qH ho hf) fun g hg=>hl g (by simp [hg])
   refine⟨h1,fun x hx=>?_,fun x hx=>?_⟩
   ·rw [List.foldl_cons,h2 x hx,qj ho hf hx,List.any_cons]
    simp only [zn,Bool.or_assoc]
   ·rcases h3 x hx with h | h
    ·rcases zcM fU0 ho hf h with h | h
     ·exact .inl h
     ·exact .inr (List.mem_flatMap.2 ⟨f,by simp,Y3 hf.ivs2 h⟩)
    ·obtain⟨g,hg,h⟩:=List.mem_flatMap.1 h
     exact .inr (List.mem_flatMap.2 ⟨g,by simp [hg],h⟩)
theorem RightK.items {k:List Fg} (h:RightK k):Nrm (JM k)/\(∀ x,x<zk->mem (JM k) x=k.any fun f=>mem f.items x)/\(JM k).length<=(CI k).length:=by
 obtain⟨h1,h2,h3⟩:=Zp k [] trivial fun f hf=>(h f hf).1
 refine⟨h1,fun x hx=>?_,zcK h1 fun x hx=>?_⟩
 ·have:=h2 x hx
  rw [Xf,Bool.false_or] at this
  exact this
 ·exact(h3 x hx).resolve_left zcL
theorem qL {α β:Type} {g:α->List β} {n:Nat}:∀ {l:List α},(∀ x ∈ l,(g x).length<=n)->(l.flatMap g).length<=l.length * n
 | [],_=>by simp
 | x::l,h=>by
   have:=qL (l:=l) fun y hy=>h y (by simp [hy])
   have h1:=h x (by simp)
   rw [List.flatMap_cons,List.length_append,List.length_cons,Nat.add_mul,Nat.one_mul]
   omega
theorem X4 {k:List Fg} (h:vx k=true) (hr:RightK k):(∀ r,(CK k r).length<=1512)/\(RK k).length<=240/\(CI k).length<=480:=by
 obtain⟨h1,h2⟩:=Z3.1 h
 have hk:∀ n,k.length * n<=12 * n:=fun n=>Nat.mul_le_mul_right n h2
 refine⟨fun r=>?_,?_,?_⟩
 ·refine Nat.le_trans (qL (n:=126) fun f hf=>?_) (hk 126)
  have:=vw.1 (h1 f hf).2
  have l1:=vq (zT f.vec r)
  have l2:=ji (n:=20) (h:=30) ⟨(hr f hf).2,this.2,this.1⟩ r
  omega
 ·refine Nat.le_trans (qL (n:=20) fun f hf=>?_) (hk 20)
  have:=vw.1 (h1 f hf).2
  simp only [zM,List.length_map]
  omega
 ·refine Nat.le_trans (qL (n:=40) fun f hf=>?_) (hk 40)
  have l1:=vq f.items
  have:=(h1 f hf).1
  omega
def OkC (C:Nat->List Nat) (R:List Nat):Prop:=(∀ r,(C r).length<=9000)/\R.length<=1048576
end Go.Proofs.YtopfkkogooocgaaGreat
