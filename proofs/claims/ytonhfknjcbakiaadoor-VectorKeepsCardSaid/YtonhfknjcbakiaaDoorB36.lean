import Derived.Test.YtonhfknjcbakiaaDoorB19
import Derived.Test.YtonhfknjcbakiaaDoorB33
import Derived.Test.YtonhfknjcbakiaaDoorB35
set_option linter.unusedVariables false
set_option linter.unusedSimpArgs false
set_option maxRecDepth 100000
namespace Go.Proofs.YtonhfknjcbakiaaDoor
theorem Ji:∀(r xs:List Nat),YN r->(∀ y ∈ r,y ∈ xs)->r.length<=xs.length:=by
 intro r
 induction r with
 | nil=>intro xs _ _;exact Nat.zero_le _
 | cons x r ih=>
   intro xs h hm
   have h':=List.pairwise_cons.1 h
   have:=ih (xs.erase x) h'.2 fun y hy=>by
    have h3:=h'.1 y hy
    exact(List.mem_erase_of_ne (by omega)).2 (hm y (by simp [hy]))
   have hx:x ∈ xs:=hm x (by simp)
   rw [List.length_erase_of_mem hx] at this
   have:=List.length_pos_of_mem hx
   simp;omega
def Ed (l:List Iv) (x:Nat):Prop:=x<zk/\mem l x≠(if x=0 then false else mem l (x - 1))
theorem NF.lo_prev:∀ {l:List Iv} {n:Nat},NF n l->∀ s ∈ l,s.lo≠0->mem l (s.lo - 1)=false
 | [],_,_,s,hs,_=>by cases hs
 | t::l,n,h,s,hs,h0=>by
   obtain⟨h1,h2,h3,h4⟩:=h
   rcases List.mem_cons.1 hs with rfl | hs
   ·rw [zz,h4.mem_lt (by omega),decide_eq_false (show ¬ s.lo<=s.lo - 1 by omega)]
    rfl
   ·have:=h4.lo_ge s hs
    rw [zz,NF.lo_prev h4 s hs h0,decide_eq_false (show ¬ s.lo - 1<=t.hi by omega)]
    simp
theorem NF.asc:∀ {l:List Iv} {n:Nat},NF n l->YN (l.map Iv.lo)
 | [],_,_=>List.Pairwise.nil
 | t::l,n,h=>by
   refine List.pairwise_cons.2 ⟨fun y hy=>?_,NF.asc h.2.2.2⟩
   obtain⟨s,hs,rfl⟩:=List.mem_map.1 hy
   have:=h.2.2.2.lo_ge s hs
   have:=h.2.1
   omega
theorem zjS {l:List Iv} (h:Nrm l) {s:Iv} (hs:s ∈ l):Ed l s.lo:=by
 have h1:=NF.lo_ge h s hs
 have h2:mem l s.lo=true:=qf.2 ⟨s,hs,Nat.le_refl _,h1.2.1⟩
 refine⟨by omega,?_⟩
 rw [h2]
 split
 ·simp
 ·rename_i h0
  rw [NF.lo_prev h s hs h0]
  simp
theorem zcK {l:List Iv} {C:List Nat} (h:Nrm l) (hC:∀ x,Ed l x->x ∈ C):l.length<=C.length:=by
 have:=Ji (l.map Iv.lo) C (NF.asc h) fun y hy=>by
  obtain⟨s,hs,rfl⟩:=List.mem_map.1 hy
  exact hC _ (zjS h hs)
 simpa using this
theorem Y3 {l:List Iv} (h:∀ s ∈ l,s.lo<=s.hi/\s.hi<zk) {x:Nat} (hx:Ed l x):x ∈ z6 l:=by
 refine Classical.byContradiction fun hn=>hx.2 ?_
 split
 ·rename_i h0
  subst h0
  cases hm:mem l 0 with
  | false=>rfl
  | true=>
    obtain⟨s,hs,h1,h2⟩:=qf.1 hm
    exact absurd (show 0 ∈ z6 l from List.mem_flatMap.2 ⟨s,hs,List.mem_cons.2 (.inl (by omega))⟩) hn
 ·exact Qh h (x:=x - 1) (y:=x) (by omega) hx.1 fun c hc=>by
   have:c≠x:=fun e=>hn (e ▸ hc)
   omega
theorem Nrm.ivs2 {l:List Iv} (h:Nrm l):∀ s ∈ l,s.lo<=s.hi/\s.hi<zk:=fun s hs=>(NF.lo_ge h s hs).2
theorem zcM {f:Bool->Bool->Bool} (hf:f false false=false) {a b:List Iv} (ha:Nrm a) (hb:Nrm b) {x:Nat} (h:Ed (qy f a b) x):Ed a x\/Ed b x:=by
 obtain⟨hx,hne⟩:=h
 by_cases h1:mem a x=(if x=0 then false else mem a (x - 1))
 ·by_cases h2:mem b x=(if x=0 then false else mem b (x - 1))
  ·refine absurd ?_ hne
   rw [qj ha hb hx,h1,h2]
   split
   ·exact hf
   ·rw [qj ha hb (by omega)]
  ·exact .inr ⟨hx,h2⟩
 ·exact .inl ⟨hx,h1⟩
theorem zcL {x:Nat}:¬ Ed [] x:=fun h=>h.2 (by simp)
theorem zhC {m n x:Nat} (h:Ed [⟨m,n⟩] x):x=m\/x=n+1:=by
 obtain⟨_,h⟩:=h
 rw [jl,jl] at h
 by_cases e1:x=m
 ·exact .inl e1
 ·by_cases e2:x=n+1
  ·exact .inr e2
  ·refine absurd ?_ h
   split
   ·rename_i h0
    rw [decide_eq_false (show ¬ m<=x by omega)]
    rfl
   ·rw [Bool.eq_iff_iff]
    simp only [Bool.and_eq_true,decide_eq_true_eq]
    omega
def EdV (C:Nat->List Nat) (v:List En):Prop:=∀ r x,Ed (zT v r) x->x ∈ C r
structure IV (C:Nat->List Nat) (R:List Nat) (v:List En):Prop where
 right:RightV v
 ed:EdV C v
 rep:∀ e ∈ v,e.rep ∈ R
structure WV (C:Nat->List Nat) (R:List Nat) (v:List En):Prop where
 can:CanV v
 ed:EdV C v
 rep:∀ e ∈ v,e.rep ∈ R
variable {C C':Nat->List Nat} {R R':List Nat} {v a b:List En}
theorem WV.iv (h:WV C R v):IV C R v:=⟨h.can.right,h.ed,h.rep⟩
theorem WV.nil:WV C R []:=⟨⟨fun e h=>(by cases h),List.Pairwise.nil⟩,fun r x h=>absurd h (by rw [kr];exact zcL),fun e h=>(by cases h)⟩
theorem IV.mono (h:IV C R v) (hC:∀ r x,x ∈ C r->x ∈ C' r) (hR:∀ x ∈ R,x ∈ R'):IV C' R' v:=⟨h.right,fun r x hx=>hC _ _ (h.ed r x hx),fun e he=>hR _ (h.rep e he)⟩
theorem WV.mono (h:WV C R v) (hC:∀ r x,x ∈ C r->x ∈ C' r) (hR:∀ x ∈ R,x ∈ R'):WV C' R' v:=⟨h.can,fun r x hx=>hC _ _ (h.ed r x hx),fun e he=>hR _ (h.rep e he)⟩
theorem IV.lat {f:Bool->Bool->Bool} (hf:f false false=false) (ha:IV C R a) (hb:IV C R b):WV C R (ks f a b):=by
 refine⟨Xe f ha.right hb.right,fun r x hx=>?_,fun e he=>?_⟩
 ·rw [JR hf ha.right hb.right] at hx
  rcases zcM hf (qi ha.right r) (qi hb.right r) hx with h | h
  ·exact ha.ed r x h
  ·exact hb.ed r x h
 ·have:=qr.1 (zdd e he)
  rcases List.mem_append.1 this with h | h
  ·obtain⟨e',he',h⟩:=List.mem_map.1 h
   rw [<-h];exact ha.rep e' he'
  ·obtain⟨e',he',h⟩:=List.mem_map.1 h
   rw [<-h];exact hb.rep e' he'
theorem QY {e:En} (h:YP e) {L:List Nat} (hL:∀ x,Ed (kn e) x->x ∈ L):e.holes.length<=L.length+2:=by
 have h1:=ZM h
 have h2:=(jO h).1
 have hn:=qT h.1
 rw [qD h2] at h1
 have h3:e.holes=qy zm [⟨0,QV (kn e)⟩] (kn e):=by
  have:=congrArg (fun p=>p.1.holes) h1
  exact this.symm
 have ht:=(x9 hn h2).2
 have h0:=qG (Nat.zero_le (QV (kn e))) ht
 rw [h3]
 have:=zcK (C:=0::(QV (kn e)+1)::L) (qH (f:=zm) h0 hn) fun x hx=>by
  rcases zcM fM0 h0 hn hx with h | h
  ·rcases zhC h with h | h<;>simp [h]
  ·simp [hL x h]
 simpa using this
theorem zb5 (h:v.Pairwise fun a b=>a.rep<b.rep):YN (zM v):=by
 unfold YN zM
 rw [List.pairwise_map]
 exact h
theorem WV.bv (h:WV C R v) {n m:Nat} (hC:∀ r,(C r).length<=n) (hR:R.length<=m):BV m (n+2) v:=by
 refine⟨h.can.right,?_,fun e he=>?_⟩
 ·have:=Ji (zM v) R (zb5 h.can.2) fun y hy=>by
   obtain⟨e,he,rfl⟩:=List.mem_map.1 hy
   exact h.rep e he
  simp only [zM,List.length_map] at this
  omega
 ·have:=QY (h.can.1 e he) (L:=C e.rep) fun x hx=>h.ed e.rep x (by rw [kq h.can.2 he];exact hx)
  have:=hC e.rep
  omega
theorem IV.of (h:RightV v):IV (fun r=>z6 (zT v r)) (zM v) v:=⟨h,fun r x hx=>Y3 (qi h r).ivs2 hx,fun e he=>List.mem_map.2 ⟨e,he,rfl⟩⟩
end Go.Proofs.YtonhfknjcbakiaaDoor
namespace Go.Proofs.YtonhfknjcbakiaaDoor
open Go.RowKit
structure Fg where
 items:List Iv
 vec:List En
deriving DecidableEq
instance : Inhabited Fg:=⟨⟨[],[]⟩⟩
theorem Fg.ext' {f g:Fg} (h1:f.items=g.items) (h2:f.vec=g.vec):f=g:=by cases f;cases g;simp_all
def fc (f:Fg):List PV:=[rg f.items,vp f.vec]
def fp (f:Fg):PV:=.agg (fc f)
def kp (k:List Fg):PV:=.sl (k.map fc) .sh
attribute [go_sem] kp fp fc
def ZS (f:Fg):Prop:=Nrm f.items/\RightV f.vec
def RightK (k:List Fg):Prop:=∀ f ∈ k,ZS f
def HlK (k:List Fg):Prop:=∀ f ∈ k,∀ e ∈ f.vec,e.holes.length<=9223372036854775807
def qd (i:Nat):Nat->List Fg->List (Nat × Fg)
 | _,[]=>[]
 | n,f::r=>if mem f.items i=true then (n,f)::qd i (n+1) r else qd i (n+1) r
theorem jv {i:Nat} {p:Nat × Fg}:∀ {n:Nat} {l:List Fg},p ∈ qd i n l->p.2 ∈ l/\mem p.2.items i=true/\n<=p.1/\p.1<n+l.length
 | n,[],h=>by cases h
 | n,f::l,h=>by
   unfold qd at h
   split at h
   ·rename_i hf
    rcases List.mem_cons.1 h with rfl | h
    ·exact⟨by simp,hf,Nat.le_refl _,by simp⟩
    ·obtain⟨h1,h2,h3,h4⟩:=jv h
     exact⟨by simp [h1],h2,by omega,by simp;omega⟩
   ·obtain⟨h1,h2,h3,h4⟩:=jv h
    exact⟨by simp [h1],h2,by omega,by simp;omega⟩
theorem YL {i:Nat} {q:Fg->Bool}:∀(n:Nat) (l:List Fg),(qd i n l).any (fun p=>q p.2)=l.any fun f=>mem f.items i && q f
 | _,[]=>rfl
 | n,f::l=>by
   have ih:=YL (i:=i) (q:=q) (n+1) l
   unfold qd
   rw [List.any_cons,<-ih]
   cases h:mem f.items i<;>simp
def zU (k:List Fg) (i:Nat):List Nat:=(qd i 0 k).map Prod.fst
def zqx (k:List Fg) (i r c:Nat):Bool:=k.any fun f=>mem f.items i && mem (zT f.vec r) c
theorem jh (k:List Fg) (i r c:Nat):(qd i 0 k).any (fun p=>mem (zT p.2.vec r) c)=zqx k i r c:=YL (q:=fun f=>mem (zT f.vec r) c) 0 k
noncomputable def qc (k:List Fg) (i:Nat):List En:=(qd i 0 k).foldl (fun o p=>ks zn o p.2.vec) []
def JM (k:List Fg):List Iv:=k.foldl (fun o f=>qy zn o f.items) []
theorem RightK.take {k:List Fg} (h:RightK k) (j:Nat):RightK (k.take j):=fun f hf=>h f (List.mem_of_mem_take hf)
def CK (k:List Fg) (r:Nat):List Nat:=k.flatMap fun f=>z6 (zT f.vec r)
def RK (k:List Fg):List Nat:=k.flatMap fun f=>zM f.vec
def CI (k:List Fg):List Nat:=k.flatMap fun f=>z6 f.items
theorem IV.frag {k:List Fg} (h:RightK k) {f:Fg} (hf:f ∈ k):IV (CK k) (RK k) f.vec:=
 (IV.of (h f hf).2).mono (fun r x hx=>List.mem_flatMap.2 ⟨f,hf,hx⟩) fun x hx=>List.mem_flatMap.2 ⟨f,hf,hx⟩
def IK (C:Nat->List Nat) (R:List Nat) (k:List Fg):Prop:=∀ f ∈ k,IV C R f.vec
theorem RightK.ik {k:List Fg} (h:RightK k):IK (CK k) (RK k) k:=fun f hf=>IV.frag h hf
theorem IK.take {C:Nat->List Nat} {R:List Nat} {k:List Fg} (h:IK C R k) (j:Nat):IK C R (k.take j):=fun f hf=>h f (List.mem_of_mem_take hf)
theorem zgT {C:Nat->List Nat} {R:List Nat}:∀(l:List (Nat × Fg)) (o:List En),(∀ p ∈ l,IV C R p.2.vec)->WV C R o->WV C R (l.foldl (fun o p=>ks zn o p.2.vec) o) /\
 ∀ r c,c<zk->mem (zT (l.foldl (fun o p=>ks zn o p.2.vec) o) r) c=(mem (zT o r) c || l.any fun p=>mem (zT p.2.vec r) c)
 | [],o,_,ho=>⟨ho,fun r c _=>by simp⟩
 | p::l,o,hl,ho=>by
   have hp:=hl p (by simp)
   obtain⟨h1,h2⟩:=zgT l (ks zn o p.2.vec) (fun q hq=>hl q (by simp [hq])) (ho.iv.lat fU0 hp)
   refine⟨h1,fun r c hc=>?_⟩
   rw [List.foldl_cons,h2 r c hc,JR fU0 ho.can.right hp.right,qj (qi ho.can.right r) (qi hp.right r) hc,List.any_cons]
   simp only [zn,Bool.or_assoc]
theorem IK.at {C:Nat->List Nat} {R:List Nat} {k:List Fg} (h:IK C R k) (i:Nat):WV C R (qc k i)/\∀ r c,c<zk->mem (zT (qc k i) r) c=zqx k i r c:=by
 obtain⟨h1,h2⟩:=zgT (qd i 0 k) [] (fun p hp=>h _ (jv hp).1) WV.nil
 refine⟨h1,fun r c hc=>?_⟩
 rw [<-jh]
 have:=h2 r c hc
 rw [kr,Xf,Bool.false_or] at this
 exact this
theorem Zp:∀(l:List Fg) (o:List Iv),Nrm o->(∀ f ∈ l,Nrm f.items)->Nrm (l.foldl (fun o f=>qy zn o f.items) o) /\
 (∀ x,x<zk->mem (l.foldl (fun o f=>qy zn o f.items) o) x=(mem o x || l.any fun f=>mem f.items x))/\∀ x,Ed (l.foldl (fun o f=>qy zn o f.items) o) x->Ed o x\/x ∈ CI l
 | [],o,ho,_=>⟨ho,fun x _=>by simp,fun x h=>.inl h⟩
 | f::l,o,ho,hl=>by
   have hf:=hl f (by simp)
   obtain⟨h1,h2,h3⟩:=Zp l (qy zn o f.items) (qH ho hf) fun g hg=>hl g (by simp [hg])
   refine⟨h1,fun x hx=>?_,fun x hx=>?_⟩
   ·rw [List.foldl_cons,h2 x hx,qj ho hf hx,List.any_cons]
    simp only [zn,Bool.or_assoc]
   ·rcases h3 x hx with h | h
    ·rcases zcM fU0 ho hf h with h | h
     ·exact .inl h
     ·exact .inr (List.mem_flatMap.2 ⟨f,by simp,Y3 hf.ivs2 h⟩)
    ·obtain⟨g,hg,h⟩:=List.mem_flatMap.1 h
     exact .inr (List.mem_flatMap.2 ⟨g,by simp [hg],h⟩)
theorem RightK.items {k:List Fg} (h:RightK k):Nrm (JM k)/\(∀ x,x<zk->mem (JM k) x=k.any fun f=>mem f.items x)/\(JM k).length<=(CI k).length:=by
 obtain⟨h1,h2,h3⟩:=Zp k [] trivial fun f hf=>(h f hf).1
 refine⟨h1,fun x hx=>?_,zcK h1 fun x hx=>?_⟩
 ·have:=h2 x hx
  rw [Xf,Bool.false_or] at this
  exact this
 ·exact(h3 x hx).resolve_left zcL
def OkC (C:Nat->List Nat) (R:List Nat):Prop:=(∀ r,(C r).length<=9000)/\R.length<=1048576
theorem DX.grown {C:Nat->Nat->Prop} {mb:Nat} {w w':World} {v v' x:Value} {p:PV} (h:Dat (DX C mb w v) w x p) (hC:∀ b o,C b o->b<mb) (hmb:mb<w.heap.size) (hg:w.grownBy w' v.ownBlock) (hv':v'.ownBlock=v.ownBlock\/v'.ownBlock=some w.heap.size):Dat (DX C mb w' v') w' x p:=
 h.mono (fun b o h=>⟨h.1.imp id fun h=>⟨h.1,Nat.lt_of_lt_of_le h.2 hg.size⟩,fun e=>by
  rcases hv' with hv' | hv'
  ·exact h.2 (hv'.symm.trans e)
  ·rw [hv'] at e
   cases e
   rcases h.1 with h | h
   ·have:=hC _ _ h;omega
   ·omega⟩) fun b o x h hx=>(World.cell?_of_block (a:=⟨b,o,none⟩) (hg.block b (World.block_lt_of_cell? w ⟨b,o,none⟩ hx) fun e=>h.2 e.symm)).trans hx
theorem DX.new {C:Nat->Nat->Prop} {mb:Nat} {w w':World} {v v' x:Value} {p:PV} (h:Dat (DX C mb w v) w x p) (hC:∀ b o,C b o->b<w.heap.size) (hb:Below w.heap.size w w') (hv':∀ k,v'.ownBlock=some k->w.heap.size<=k):Dat (DX C mb w' v') w' x p:=
 h.mono (fun b o h=>⟨h.1.imp id fun h=>⟨h.1,Nat.lt_of_lt_of_le h.2 hb.size⟩,fun e=>by
  have:=hv' b e
  rcases h.1 with h | h
  ·have:=hC _ _ h;omega
  ·omega⟩) fun b o x _ hx=>(World.cell?_of_block (a:=⟨b,o,none⟩) (hb.block b (World.block_lt_of_cell? w ⟨b,o,none⟩ hx))).trans hx
def qX (k:List Fg) (x y:Nat):Bool:=k.all fun f=>mem f.items x == mem f.items y
theorem qo {k:List Fg} {x y:Nat}:qX k x y=true ↔ ∀ f ∈ k,mem f.items x=mem f.items y:=by simp [qX]
theorem km {k:List Fg} {i r c:Nat}:zqx k i r c=true ↔ ∃ f ∈ k,mem f.items i=true/\mem (zT f.vec r) c=true:=by simp [zqx]
noncomputable def zq (k:List Fg):List Nat:=(zH (k.map Fg.items)).filter fun x=>decide (x=0) || !qX k (x - 1) x
theorem xc (k:List Fg):YN (zq k):=(x8 _).filter _
theorem vZ {k:List Fg} (h:RightK k) {x:Nat}:x ∈ zq k ↔ x<zk/\(x=0\/qX k (x - 1) x=false):=by
 unfold zq
 rw [List.mem_filter]
 constructor
 ·rintro⟨h1,h2⟩
  refine⟨Ze (fun l hl s hs=>?_) x h1,by simpa using h2⟩
  obtain⟨f,hf,rfl⟩:=List.mem_map.1 hl
  have:=NF.lo_ge (h f hf).1 s hs
  omega
 ·rintro⟨h1,h2⟩
  refine⟨?_,by simpa using h2⟩
  unfold zH
  rw [qr]
  unfold yU
  rcases Nat.eq_zero_or_pos x with h0 | h0
  ·simp [h0]
  ·have h3:=h2.resolve_left (by omega)
   refine List.mem_cons.2 (.inr ?_)
   have:∃ f ∈ k,mem f.items (x - 1)≠mem f.items x:=Classical.byContradiction fun hn=>by
    have:qX k (x - 1) x=true:=qo.2 fun f hf=>Classical.byContradiction fun he=>hn ⟨f,hf,he⟩
    rw [h3] at this
    cases this
   obtain⟨f,hf,hne⟩:=this
   exact List.mem_flatMap.2 ⟨f.items,List.mem_map.2 ⟨f,hf,rfl⟩,Y3 (h f hf).1.ivs2 ⟨h1,by rw [if_neg (by omega)];exact fun e=>hne e.symm⟩⟩
theorem XC {k:List Fg} (h:RightK k):0 ∈ zq k:=(vZ h).2 ⟨xM,.inl rfl⟩
theorem vY (k:List Fg):(zq k).length<=1+(CI k).length:=by
 have h1:(zq k).length<=(zH (k.map Fg.items)).length:=List.length_filter_le _ _
 have h2:(zH (k.map Fg.items)).length<=(yU (k.map Fg.items)).length:=ju _
 have h3:(yU (k.map Fg.items)).length=1+(CI k).length:=by
  unfold yU CI
  rw [List.length_cons,List.flatMap_map]
  omega
 omega
def vN:List Nat->List Iv
 | []=>[]
 | [x]=>[⟨x,zk - 1⟩]
 | x::y::r=>⟨x,y - 1⟩::vN (y::r)
theorem vO:∀ l:List Nat,(vN l).length=l.length
 | []=>rfl
 | [_]=>rfl
 | x::y::r=>by rw [vN,List.length_cons,vO (y::r)];rfl
theorem YD:∀ {l:List Nat},YN l->(∀ x ∈ l,x<zk)->(∀ s ∈ vN l,s.lo<=s.hi/\s.hi<zk/\s.lo ∈ l)/\(vN l).Pairwise (fun s t=>s.hi<t.lo)/\(∀ s ∈ vN l,∀ y ∈ l,s.lo<y->s.hi<y)/\∀ i x r,l=x::r->x<=i->i<zk->∃ s ∈ vN l,s.lo<=i/\i<=s.hi
 | [],_,_=>⟨fun s h=>(by cases h),List.Pairwise.nil,fun s h=>(by cases h),fun i x r h=>by cases h⟩
 | [x],_,hl=>by
   have hx:=hl x (by simp)
   refine⟨fun s h=>?_,by simp [vN],fun s h y hy hlt=>?_,fun i y r h h1 h2=>?_⟩
   ·simp only [vN,List.mem_singleton] at h
    subst h
    exact⟨by simp only;omega,by simp only;omega,by simp⟩
   ·simp only [vN,List.mem_singleton] at h hy
    subst h hy
    simp at hlt
   ·cases h
    exact⟨⟨x,zk - 1⟩,by simp [vN],h1,by simp only;omega⟩
 | x::y::r,ha,hl=>by
   have hp:=List.pairwise_cons.1 ha
   have hxy:=hp.1 y (by simp)
   have hy:=hl y (by simp)
   obtain⟨h1,h2,h3,h4⟩:=YD hp.2 fun z hz=>hl z (by simp [hz])
   have hge:∀ z ∈ y::r,y<=z:=fun z hz=>by
    rcases List.mem_cons.1 hz with rfl | hz
    ·exact Nat.le_refl _
    ·exact Nat.le_of_lt ((List.pairwise_cons.1 hp.2).1 z hz)
   rw [vN]
   refine⟨fun s h=>?_,List.pairwise_cons.2 ⟨fun t ht=>?_,h2⟩,fun s h z hz hlt=>?_,fun i x' r' h k1 k2=>?_⟩
   ·rcases List.mem_cons.1 h with rfl | h
    ·exact⟨by simp only;omega,by simp only;omega,by simp⟩
    ·obtain⟨q1,q2,q3⟩:=h1 s h
     exact⟨q1,q2,by rw [List.mem_cons];exact .inr q3⟩
   ·have:=hge _ (h1 t ht).2.2
    simp only;omega
   ·rcases List.mem_cons.1 h with e | hs'
    ·subst e
     rcases List.mem_cons.1 hz with e | hz
     ·subst e;simp at hlt
     ·have:=hge z hz
      simp only;omega
    ·rcases List.mem_cons.1 hz with e | hz
     ·subst e
      have:=hge _ (h1 s hs').2.2
      omega
     ·exact h3 s hs' z hz hlt
   ·cases h
    rcases Nat.lt_or_ge i y with hi | hi
    ·exact⟨⟨x,y - 1⟩,by simp,k1,by simp only;omega⟩
    ·obtain⟨s,hs,q⟩:=h4 i y r rfl hi k2
     exact⟨s,by simp [hs],q⟩
noncomputable def y4 (k:List Fg):List Iv:=vN (zq k)
noncomputable def zu (k:List Fg):List Iv:=(y4 k).filter fun s=>decide (0<(zU k s.lo).length)
section
variable {k:List Fg} (h:RightK k)
include h
theorem x7:∀ x ∈ zq k,x<zk:=fun x hx=>((vZ h).1 hx).1
theorem xO:(∀ s ∈ y4 k,s.lo<=s.hi/\s.hi<zk/\s.lo ∈ zq k)/\(y4 k).Pairwise (fun s t=>s.hi<t.lo)/\(∀ s ∈ y4 k,∀ y ∈ zq k,s.lo<y->s.hi<y)/\∀ i,i<zk->∃ s ∈ y4 k,s.lo<=i/\i<=s.hi:=by
 obtain⟨h1,h2,h3,h4⟩:=YD (xc k) (x7 h)
 refine⟨h1,h2,h3,fun i hi=>?_⟩
 have h0:=XC h
 cases hs:zq k with
 | nil=>rw [hs] at h0;cases h0
 | cons x r=>
   have:x=0:=by
    rw [hs] at h0
    rcases List.mem_cons.1 h0 with e | e
    ·exact e.symm
    ·have ha:=xc k
     rw [hs] at ha
     have:=(List.pairwise_cons.1 ha).1 0 e
     omega
   exact h4 i x r hs (by omega) hi
theorem yt:(∀ s ∈ zu k,s.lo<=s.hi/\s.hi<zk/\s ∈ y4 k/\0<(zU k s.lo).length)/\(zu k).Pairwise (fun s t=>s.hi<t.lo):=by
 refine⟨fun s hs=>?_,(xO h).2.1.filter _⟩
 obtain⟨h1,h2⟩:=List.mem_filter.1 hs
 obtain⟨q1,q2,_⟩:=(xO h).1 s h1
 exact⟨q1,q2,h1,by simpa using h2⟩
end
theorem xW (k:List Fg):(zu k).length<=1+(CI k).length:=by
 have h1:(zu k).length<=(y4 k).length:=List.length_filter_le _ _
 have h2:(y4 k).length=(zq k).length:=vO _
 have:=vY k
 omega
noncomputable def jq (k:List Fg):List Fg:=(zu k).map fun s=>⟨[s],qc k s.lo⟩
theorem ZB {k:List Fg} {f:Fg} (hf:f ∈ jq k):∃ s ∈ zu k,f=⟨[s],qc k s.lo⟩:=by
 obtain⟨s,hs,e⟩:=List.mem_map.1 hf
 exact⟨s,hs,e.symm⟩
def xh (k:List Fg):Prop:=k.Pairwise fun f g=>∀ x,x<zk->¬(mem f.items x=true/\mem g.items x=true)
theorem IK.refine {C:Nat->List Nat} {R:List Nat} {k:List Fg} (hk:IK C R k):∀ f ∈ jq k,WV C R f.vec:=fun f hf=>by
 obtain⟨s,_,rfl⟩:=ZB hf
 exact(hk.at s.lo).1
theorem Yb {k:List Fg} (h:RightK k):RightK (jq k):=fun f hf=>by
 obtain⟨s,hs,rfl⟩:=ZB hf
 obtain⟨h1,h2,_⟩:=(yt h).1 s hs
 exact⟨qG h1 h2,(h.ik.at s.lo).1.can.right⟩
def ZH (v w:List En):Prop:=zZ (zv v) (zv w)<0
theorem ku (v:List En):¬ ZH v v:=by unfold ZH;rw [(jc _ _).2 rfl];decide
def OkG (f:Fg):Prop:=CanV f.vec/\f.vec≠[]/\Nrm f.items/\f.items≠[]
structure GrpI (k:List Fg):Prop where
 ok:∀ f ∈ k,OkG f
 srt:k.Pairwise fun f g=>ZH f.vec g.vec
theorem GrpI.nil:GrpI []:=⟨fun f h=>(by cases h),List.Pairwise.nil⟩
theorem GrpI.tail {f:Fg} {k:List Fg} (h:GrpI (f::k)):GrpI k:=⟨fun g hg=>h.ok g (by simp [hg]),(List.pairwise_cons.1 h.srt).2⟩
theorem GrpI.right {k:List Fg} (h:GrpI k):RightK k:=fun f hf=>⟨(h.ok f hf).2.2.1,(h.ok f hf).1.right⟩
structure CanK (k:List Fg):Prop where
 gi:GrpI k
 apart:xh k
theorem CanK.one {k:List Fg} (h:CanK k) {f:Fg} (hf:f ∈ k) {i:Nat} (hi:i<zk) (hm:mem f.items i=true) (r c:Nat):zqx k i r c=mem (zT f.vec r) c:=by
 rw [Bool.eq_iff_iff,km]
 constructor
 ·rintro⟨g,hg,m1,m2⟩
  have:f=g:=by
   obtain⟨a,ha,rfl⟩:=List.getElem_of_mem hf
   obtain⟨b,hb,rfl⟩:=List.getElem_of_mem hg
   rcases Nat.lt_trichotomy a b with e | e | e
   ·exact absurd ⟨hm,m1⟩ (List.pairwise_iff_getElem.1 h.apart a b ha hb e i hi)
   ·subst e;rfl
   ·exact absurd ⟨m1,hm⟩ (List.pairwise_iff_getElem.1 h.apart b a hb ha e i hi)
  subst this
  exact m2
 ·intro m2
  exact⟨f,hf,hm,m2⟩
theorem CanK.vec {k:List Fg} (h:CanK k) {f g:Fg} (hf:f ∈ k) (hg:g ∈ k) (e:f.vec=g.vec):f=g:=by
 obtain⟨a,ha,rfl⟩:=List.getElem_of_mem hf
 obtain⟨b,hb,rfl⟩:=List.getElem_of_mem hg
 rcases Nat.lt_trichotomy a b with e3 | e3 | e3
 ·have:=List.pairwise_iff_getElem.1 h.gi.srt a b ha hb e3
  rw [e] at this
  exact absurd this (ku _)
 ·subst e3;rfl
 ·have:=List.pairwise_iff_getElem.1 h.gi.srt b a hb ha e3
  rw [e] at this
  exact absurd this (ku _)
theorem CanK.right {k:List Fg} (h:CanK k):RightK k:=h.gi.right
end Go.Proofs.YtonhfknjcbakiaaDoor
namespace Go.Proofs.YtonhfknjcbakiaaDoor
open Go.ChangeShapes Go.WideShapes Go.ChangeAt Go.RowKit Go.Deep
section
variable {H:Type} {enc:TypeId × Value->H} {w:World} {base:Nat} {spare:Nat->Bool} {held:Bool}
def xp (x:Nat × Nat × Nat):PV:=.agg [.v (.int .u64 (x.1:Nat)),.v (.int .u64 (x.2.1:Nat)),.v (.int .u64 (x.2.2:Nat))]
attribute [go_sem] xp
end
end Go.Proofs.YtonhfknjcbakiaaDoor
