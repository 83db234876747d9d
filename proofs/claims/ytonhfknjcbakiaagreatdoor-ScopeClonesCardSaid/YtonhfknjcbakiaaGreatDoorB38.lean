import Derived.Test.YtonhfknjcbakiaaGreatDoorB23
import Derived.Test.YtonhfknjcbakiaaGreatDoorB24
import Derived.Test.YtonhfknjcbakiaaGreatDoorB36
import Derived.Test.YtonhfknjcbakiaaGreatDoorB37
set_option linter.unusedVariables false
set_option linter.unusedSimpArgs false
set_option maxRecDepth 100000
namespace Go.Proofs.YtonhfknjcbakiaaGreatDoor
open Go.RowKit
def qX (k:List Fg) (x y:Nat):Bool:=k.all fun f=>mem f.items x == mem f.items y
theorem qo {k:List Fg} {x y:Nat}:qX k x y=true ↔ ∀ f ∈ k,mem f.items x=mem f.items y:=by simp [qX]
theorem km {k:List Fg} {i r c:Nat}:zqx k i r c=true ↔ ∃ f ∈ k,mem f.items i=true/\mem (zT f.vec r) c=true:=by simp [zqx]
noncomputable def zq (k:List Fg):List Nat:=(zH (k.map Fg.items)).filter fun x=>decide (x=0) || !qX k (x - 1) x
theorem xc (k:List Fg):YN (zq k):=(x8 _).filter _
theorem vZ {k:List Fg} (h:RightK k) {x:Nat}:x ∈ zq k ↔ x<zk/\(x=0\/qX k (x - 1) x=false):=by
 unfold zq
 rw [List.mem_filter]
 constructor
 ·rintro⟨h1,h2⟩
  refine⟨Ze (fun l hl s hs=>?_) x h1,by simpa using h2⟩
  obtain⟨f,hf,rfl⟩:=List.mem_map.1 hl
  have:=NF.lo_ge (h f hf).1 s hs
  omega
 ·rintro⟨h1,h2⟩
  refine⟨?_,by simpa using h2⟩
  unfold zH
  rw [qr]
  unfold yU
  rcases Nat.eq_zero_or_pos x with h0 | h0
  ·simp [h0]
  ·have h3:=h2.resolve_left (by omega)
   refine List.mem_cons.2 (.inr ?_)
   have:∃ f ∈ k,mem f.items (x - 1)≠mem f.items x:=Classical.byContradiction fun hn=>by
    have:qX k (x - 1) x=true:=qo.2 fun f hf=>Classical.byContradiction fun he=>hn ⟨f,hf,he⟩
    rw [h3] at this
    cases this
   obtain⟨f,hf,hne⟩:=this
   exact List.mem_flatMap.2 ⟨f.items,List.mem_map.2 ⟨f,hf,rfl⟩,Y3 (h f hf).1.ivs2 ⟨h1,by rw [if_neg (by omega)];exact fun e=>hne e.symm⟩⟩
theorem XC {k:List Fg} (h:RightK k):0 ∈ zq k:=(vZ h).2 ⟨xM,.inl rfl⟩
theorem vY (k:List Fg):(zq k).length<=1+(CI k).length:=by
 have h1:(zq k).length<=(zH (k.map Fg.items)).length:=List.length_filter_le _ _
 have h2:(zH (k.map Fg.items)).length<=(yU (k.map Fg.items)).length:=ju _
 have h3:(yU (k.map Fg.items)).length=1+(CI k).length:=by
  unfold yU CI
  rw [List.length_cons,List.flatMap_map]
  omega
 omega
def vN:List Nat->List Iv
 | []=>[]
 | [x]=>[⟨x,zk - 1⟩]
 | x::y::r=>⟨x,y - 1⟩::vN (y::r)
theorem vO:∀ l:List Nat,(vN l).length=l.length
 | []=>rfl
 | [_]=>rfl
 | x::y::r=>by rw [vN,List.length_cons,vO (y::r)];rfl
theorem YD:∀ {l:List Nat},YN l->(∀ x ∈ l,x<zk)->(∀ s ∈ vN l,s.lo<=s.hi/\s.hi<zk/\s.lo ∈ l)/\(vN l).Pairwise (fun s t=>s.hi<t.lo)/\(∀ s ∈ vN l,∀ y ∈ l,s.lo<y->s.hi<y)/\∀ i x r,l=x::r->x<=i->i<zk->∃ s ∈ vN l,s.lo<=i/\i<=s.hi
 | [],_,_=>⟨fun s h=>(by cases h),List.Pairwise.nil,fun s h=>(by cases h),fun i x r h=>by cases h⟩
 | [x],_,hl=>by
   have hx:=hl x (by simp)
   refine⟨fun s h=>?_,by simp [vN],fun s h y hy hlt=>?_,fun i y r h h1 h2=>?_⟩
   ·simp only [vN,List.mem_singleton] at h
    subst h
    exact⟨by simp only;omega,by simp only;omega,by simp⟩
   ·simp only [vN,List.mem_singleton] at h hy
    subst h hy
    simp at hlt
   ·cases h
    exact⟨⟨x,zk - 1⟩,by simp [vN],h1,by simp only;omega⟩
 | x::y::r,ha,hl=>by
   have hp:=List.pairwise_cons.1 ha
   have hxy:=hp.1 y (by simp)
   have hy:=hl y (by simp)
   obtain⟨h1,h2,h3,h4⟩:=YD hp.2 fun z hz=>hl z (by simp [hz])
   have hge:∀ z ∈ y::r,y<=z:=fun z hz=>by
    rcases List.mem_cons.1 hz with rfl | hz
    ·exact Nat.le_refl _
    ·exact Nat.le_of_lt ((List.pairwise_cons.1 hp.2).1 z hz)
   rw [vN]
   refine⟨fun s h=>?_,List.pairwise_cons.2 ⟨fun t ht=>?_,h2⟩,fun s h z hz hlt=>?_,fun i x' r' h k1 k2=>?_⟩
   ·rcases List.mem_cons.1 h with rfl | h
    ·exact⟨by simp only;omega,by simp only;omega,by simp⟩
    ·obtain⟨q1,q2,q3⟩:=h1 s h
     exact⟨q1,q2,by rw [List.mem_cons];exact .inr q3⟩
   ·have:=hge _ (h1 t ht).2.2
    simp only;omega
   ·rcases List.mem_cons.1 h with e | hs'
    ·subst e
     rcases List.mem_cons.1 hz with e | hz
     ·subst e;simp at hlt
     ·have:=hge z hz
      simp only;omega
    ·rcases List.mem_cons.1 hz with e | hz
     ·subst e
      have:=hge _ (h1 s hs').2.2
      omega
     ·exact h3 s hs' z hz hlt
   ·cases h
    rcases Nat.lt_or_ge i y with hi | hi
    ·exact⟨⟨x,y - 1⟩,by simp,k1,by simp only;omega⟩
    ·obtain⟨s,hs,q⟩:=h4 i y r rfl hi k2
     exact⟨s,by simp [hs],q⟩
noncomputable def y4 (k:List Fg):List Iv:=vN (zq k)
noncomputable def zu (k:List Fg):List Iv:=(y4 k).filter fun s=>decide (0<(zU k s.lo).length)
section
variable {k:List Fg} (h:RightK k)
include h
theorem x7:∀ x ∈ zq k,x<zk:=fun x hx=>((vZ h).1 hx).1
theorem xO:(∀ s ∈ y4 k,s.lo<=s.hi/\s.hi<zk/\s.lo ∈ zq k)/\(y4 k).Pairwise (fun s t=>s.hi<t.lo)/\(∀ s ∈ y4 k,∀ y ∈ zq k,s.lo<y->s.hi<y)/\∀ i,i<zk->∃ s ∈ y4 k,s.lo<=i/\i<=s.hi:=by
 obtain⟨h1,h2,h3,h4⟩:=YD (xc k) (x7 h)
 refine⟨h1,h2,h3,fun i hi=>?_⟩
 have h0:=XC h
 cases hs:zq k with
 | nil=>rw [hs] at h0;cases h0
 | cons x r=>
   have:x=0:=by
    rw [hs] at h0
    rcases List.mem_cons.1 h0 with e | e
    ·exact e.symm
    ·have ha:=xc k
     rw [hs] at ha
     have:=(List.pairwise_cons.1 ha).1 0 e
     omega
   exact h4 i x r hs (by omega) hi
theorem yt:(∀ s ∈ zu k,s.lo<=s.hi/\s.hi<zk/\s ∈ y4 k/\0<(zU k s.lo).length)/\(zu k).Pairwise (fun s t=>s.hi<t.lo):=by
 refine⟨fun s hs=>?_,(xO h).2.1.filter _⟩
 obtain⟨h1,h2⟩:=List.mem_filter.1 hs
 obtain⟨q1,q2,_⟩:=(xO h).1 s h1
 exact⟨q1,q2,h1,by simpa using h2⟩
end
theorem xW (k:List Fg):(zu k).length<=1+(CI k).length:=by
 have h1:(zu k).length<=(y4 k).length:=List.length_filter_le _ _
 have h2:(y4 k).length=(zq k).length:=vO _
 have:=vY k
 omega
noncomputable def jq (k:List Fg):List Fg:=(zu k).map fun s=>⟨[s],qc k s.lo⟩
theorem ZB {k:List Fg} {f:Fg} (hf:f ∈ jq k):∃ s ∈ zu k,f=⟨[s],qc k s.lo⟩:=by
 obtain⟨s,hs,e⟩:=List.mem_map.1 hf
 exact⟨s,hs,e.symm⟩
def xh (k:List Fg):Prop:=k.Pairwise fun f g=>∀ x,x<zk->¬(mem f.items x=true/\mem g.items x=true)
theorem IK.refine {C:Nat->List Nat} {R:List Nat} {k:List Fg} (hk:IK C R k):∀ f ∈ jq k,WV C R f.vec:=fun f hf=>by
 obtain⟨s,_,rfl⟩:=ZB hf
 exact(hk.at s.lo).1
theorem Yb {k:List Fg} (h:RightK k):RightK (jq k):=fun f hf=>by
 obtain⟨s,hs,rfl⟩:=ZB hf
 obtain⟨h1,h2,_⟩:=(yt h).1 s hs
 exact⟨qG h1 h2,(h.ik.at s.lo).1.can.right⟩
def ZH (v w:List En):Prop:=zZ (zv v) (zv w)<0
theorem ku (v:List En):¬ ZH v v:=by unfold ZH;rw [(jc _ _).2 rfl];decide
def OkG (f:Fg):Prop:=CanV f.vec/\f.vec≠[]/\Nrm f.items/\f.items≠[]
structure GrpI (k:List Fg):Prop where
 ok:∀ f ∈ k,OkG f
 srt:k.Pairwise fun f g=>ZH f.vec g.vec
theorem GrpI.nil:GrpI []:=⟨fun f h=>(by cases h),List.Pairwise.nil⟩
theorem GrpI.tail {f:Fg} {k:List Fg} (h:GrpI (f::k)):GrpI k:=⟨fun g hg=>h.ok g (by simp [hg]),(List.pairwise_cons.1 h.srt).2⟩
theorem GrpI.right {k:List Fg} (h:GrpI k):RightK k:=fun f hf=>⟨(h.ok f hf).2.2.1,(h.ok f hf).1.right⟩
structure CanK (k:List Fg):Prop where
 gi:GrpI k
 apart:xh k
theorem CanK.one {k:List Fg} (h:CanK k) {f:Fg} (hf:f ∈ k) {i:Nat} (hi:i<zk) (hm:mem f.items i=true) (r c:Nat):zqx k i r c=mem (zT f.vec r) c:=by
 rw [Bool.eq_iff_iff,km]
 constructor
 ·rintro⟨g,hg,m1,m2⟩
  have:f=g:=by
   obtain⟨a,ha,rfl⟩:=List.getElem_of_mem hf
   obtain⟨b,hb,rfl⟩:=List.getElem_of_mem hg
   rcases Nat.lt_trichotomy a b with e | e | e
   ·exact absurd ⟨hm,m1⟩ (List.pairwise_iff_getElem.1 h.apart a b ha hb e i hi)
   ·subst e;rfl
   ·exact absurd ⟨m1,hm⟩ (List.pairwise_iff_getElem.1 h.apart b a hb ha e i hi)
  subst this
  exact m2
 ·intro m2
  exact⟨f,hf,hm,m2⟩
theorem CanK.vec {k:List Fg} (h:CanK k) {f g:Fg} (hf:f ∈ k) (hg:g ∈ k) (e:f.vec=g.vec):f=g:=by
 obtain⟨a,ha,rfl⟩:=List.getElem_of_mem hf
 obtain⟨b,hb,rfl⟩:=List.getElem_of_mem hg
 rcases Nat.lt_trichotomy a b with e3 | e3 | e3
 ·have:=List.pairwise_iff_getElem.1 h.gi.srt a b ha hb e3
  rw [e] at this
  exact absurd this (ku _)
 ·subst e3;rfl
 ·have:=List.pairwise_iff_getElem.1 h.gi.srt b a hb ha e3
  rw [e] at this
  exact absurd this (ku _)
theorem CanK.right {k:List Fg} (h:CanK k):RightK k:=h.gi.right
end Go.Proofs.YtonhfknjcbakiaaGreatDoor
namespace Go.Proofs.YtonhfknjcbakiaaGreatDoor
open Go.RowKit
attribute [-go_sem] z7
structure AddOk (o:List Fg) (f:Fg):Prop where
 gi:GrpI o
 fo:OkG f
 l:o.length<=1048576
 fi:f.items.length<=100000000
 oi:∀ g ∈ o,g.items.length<=100000000
 bd:∀ e ∈ f.vec,ZL e
 bo:∀ g ∈ o,∀ e ∈ g.vec,ZL e
 nf:(zv f.vec).length<=1073741824
 no:∀ g ∈ o,(zv g.vec).length<=1073741824
theorem xL {D:Nat->Nat->Prop} {w:World} {v:Value} {l:List En} (h:Dat D w v (vp l)):∃ ad cap,v=.slice ad l.length cap:=by
 have h':Dat D w v (.sl (l.map ec) .sh):=h
 obtain⟨ad,cap,sz,b,off,f,e1,_⟩:=(Rel.dat (ρ:=fun _=>0) (nb:=0) h').inv_sl
 rw [List.length_map] at e1
 exact⟨ad,cap,e1⟩
end Go.Proofs.YtonhfknjcbakiaaGreatDoor
namespace Go.Proofs.YtonhfknjcbakiaaGreatDoor
open Go.RowKit
def qE:List Fg->Nat
 | []=>0
 | f::k=>f.items.length+qE k
theorem kK:∀(a b:List Fg),qE (a++b)=qE a+qE b
 | [],b=>by simp [qE]
 | f::a,b=>by simp only [List.cons_append,qE,kK a b];omega
theorem yv:∀ {k:List Fg} {f:Fg},f ∈ k->f.items.length<=qE k
 | g::k,f,h=>by
   rcases List.mem_cons.1 h with rfl | h
   ·simp only [qE];omega
   ·have:=yv h;simp only [qE];omega
theorem YO:∀ k:List Fg,(CI k).length<=2 * qE k
 | []=>by simp [CI,qE]
 | f::k=>by
   have h1:=YO k
   have h2:=vq f.items
   have:CI (f::k)=z6 f.items++CI k:=rfl
   rw [this,List.length_append,qE];omega
theorem Zf (V:Iv->List En):∀ l:List Iv,qE (l.map fun s=>⟨[s],V s⟩)=l.length
 | []=>rfl
 | s::l=>by rw [List.map_cons,qE,Zf V l];simp;omega
end Go.Proofs.YtonhfknjcbakiaaGreatDoor
