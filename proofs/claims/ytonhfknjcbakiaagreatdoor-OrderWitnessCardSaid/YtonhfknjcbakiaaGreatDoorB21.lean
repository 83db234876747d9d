import Derived.Test.YtonhfknjcbakiaaGreatDoorB20
set_option maxHeartbeats 16000000
set_option linter.unusedVariables false
set_option linter.unusedSimpArgs false
set_option maxRecDepth 100000
namespace Go.Proofs.YtonhfknjcbakiaaGreatDoor
open Go.RowKit
def ZH (v w:List En):Prop:=zZ (zv v) (zv w)<0
theorem ku (v:List En):¬ ZH v v:=by unfold ZH;rw [(jc _ _).2 rfl];decide
theorem k8 {a b c:List En} (h1:ZH a b) (h2:ZH b c):ZH a c:=by
 unfold ZH at *
 have h3:=ZW _ _ _ (Int.le_of_lt h1) (Int.le_of_lt h2)
 rcases Int.lt_or_eq_of_le h3 with h | h
 ·exact h
 ·have e:=Vv ((jc _ _).1 h)
  subst e
  have:=ZV (zv a) (zv b)
  omega
theorem zfI {a b:List En} (h1:¬ ZH a b) (h2:zZ (zv a) (zv b)≠0):ZH b a:=by
 unfold ZH at *
 have:=ZV (zv a) (zv b)
 omega
theorem YU {a b:List En} (h:zZ (zv a) (zv b)=0):a=b:=Vv ((jc _ _).1 h)
def qN:List Fg->Fg->List Fg
 | [],f=>[f]
 | g::r,f=>if zZ (zv g.vec) (zv f.vec)<0 then g::qN r f else if zZ (zv g.vec) (zv f.vec)=0 then ⟨qy zn g.items f.items,f.vec⟩::r else f::g::r
def yo (o:List Fg) (f:Fg):List Fg:=if zi f.vec=[]\/f.items=[] then o else qN o ⟨f.items,zi f.vec⟩
def zL (k:List Fg):List Fg:=k.foldl yo []
def OkG (f:Fg):Prop:=CanV f.vec/\f.vec≠[]/\Nrm f.items/\f.items≠[]
structure GrpI (k:List Fg):Prop where
 ok:∀ f ∈ k,OkG f
 srt:k.Pairwise fun f g=>ZH f.vec g.vec
theorem GrpI.nil:GrpI []:=⟨fun f h=>(by cases h),List.Pairwise.nil⟩
theorem GrpI.tail {f:Fg} {k:List Fg} (h:GrpI (f::k)):GrpI k:=⟨fun g hg=>h.ok g (by simp [hg]),(List.pairwise_cons.1 h.srt).2⟩
theorem GrpI.right {k:List Fg} (h:GrpI k):RightK k:=fun f hf=>⟨(h.ok f hf).2.2.1,(h.ok f hf).1.right⟩
theorem JZ {l:List Iv} (h:Nrm l) (hn:l≠[]):∃ x,x<zk/\mem l x=true:=by
 cases l with
 | nil=>exact absurd rfl hn
 | cons s l=>
   have:=NF.lo_ge h s (by simp)
   exact⟨s.lo,by omega,qf.2 ⟨s,by simp,Nat.le_refl _,this.2.1⟩⟩
theorem zig {l:List Iv} {x:Nat} (h:mem l x=true):l≠[]:=fun e=>by rw [e] at h;cases h
theorem Yw:∀ {o:List Fg} {f:Fg},GrpI o->OkG f->(∀ g ∈ qN o f,OkG g/\(g.vec=f.vec\/g ∈ o))/\GrpI (qN o f)/\(∀ i r c,i<zk->hasK (qN o f) i r c=(hasK o i r c || (mem f.items i && mem (zT f.vec r) c)))
 | [],f,_,hf=>⟨fun g hg=>by simp only [qN,List.mem_singleton] at hg;subst hg;exact⟨hf,.inl rfl⟩,⟨fun g hg=>by simp only [qN,List.mem_singleton] at hg;subst hg;exact hf,by simp [qN]⟩,fun i r c _=>by simp [qN,hasK]⟩
 | g::o,f,ho,hf=>by
   have hg:=ho.ok g (by simp)
   have hp:=List.pairwise_cons.1 ho.srt
   unfold qN
   by_cases h1:zZ (zv g.vec) (zv f.vec)<0
   ·rw [if_pos h1]
    obtain⟨k1,k2,k3⟩:=Yw ho.tail hf
    refine⟨fun x hx=>?_,⟨fun x hx=>?_,List.pairwise_cons.2 ⟨fun x hx=>?_,k2.srt⟩⟩,fun i r c hi=>?_⟩
    ·rcases List.mem_cons.1 hx with rfl | hx
     ·exact⟨hg,.inr (by simp)⟩
     ·exact⟨(k1 x hx).1,(k1 x hx).2.imp id fun h=>by simp [h]⟩
    ·rcases List.mem_cons.1 hx with rfl | hx
     ·exact hg
     ·exact(k1 x hx).1
    ·rcases (k1 x hx).2 with e | e
     ·rw [e];exact h1
     ·exact hp.1 x e
    ·have:=k3 i r c hi
     unfold hasK at this ⊢
     rw [List.any_cons,List.any_cons,this,Bool.or_assoc]
   ·rw [if_neg h1]
    by_cases h2:zZ (zv g.vec) (zv f.vec)=0
    ·rw [if_pos h2]
     have e:g.vec=f.vec:=YU h2
     have hn:OkG ⟨qy zn g.items f.items,f.vec⟩:=by
      refine⟨hf.1,hf.2.1,qH hg.2.2.1 hf.2.2.1,?_⟩
      obtain⟨x,hx,hm⟩:=JZ hg.2.2.1 hg.2.2.2
      refine zig (x:=x) ?_
      show mem (qy zn g.items f.items) x=true
      rw [qj hg.2.2.1 hf.2.2.1 hx,hm]
      rfl
     refine⟨fun x hx=>?_,⟨fun x hx=>?_,List.pairwise_cons.2 ⟨fun x hx=>?_,hp.2⟩⟩,fun i r c hi=>?_⟩
     ·rcases List.mem_cons.1 hx with rfl | hx
      ·exact⟨hn,.inl rfl⟩
      ·exact⟨ho.ok x (by simp [hx]),.inr (by simp [hx])⟩
     ·rcases List.mem_cons.1 hx with rfl | hx
      ·exact hn
      ·exact ho.ok x (by simp [hx])
     ·have:=hp.1 x hx
      rw [e] at this
      exact this
     ·unfold hasK
      rw [List.any_cons,List.any_cons]
      simp only
      rw [qj hg.2.2.1 hf.2.2.1 hi,e]
      simp only [zn]
      cases mem g.items i<;>cases mem f.items i<;>cases mem (zT f.vec r) c<;>simp
    ·rw [if_neg h2]
     have h3:ZH f.vec g.vec:=zfI h1 h2
     refine⟨fun x hx=>?_,⟨fun x hx=>?_,List.pairwise_cons.2 ⟨fun x hx=>?_,ho.srt⟩⟩,fun i r c hi=>?_⟩
     ·rcases List.mem_cons.1 hx with rfl | hx
      ·exact⟨hf,.inl rfl⟩
      ·exact⟨ho.ok x hx,.inr hx⟩
     ·rcases List.mem_cons.1 hx with rfl | hx
      ·exact hf
      ·exact ho.ok x hx
     ·rcases List.mem_cons.1 hx with rfl | hx
      ·exact h3
      ·exact k8 h3 (hp.1 x hx)
     ·unfold hasK
      rw [List.any_cons,Bool.or_comm]
theorem Yi {f:Fg} (h:ZS f) (hn:¬(zi f.vec=[]\/f.items=[])):OkG ⟨f.items,zi f.vec⟩:=⟨jN h.2,fun e=>hn (.inl e),h.1,fun e=>hn (.inr e)⟩
theorem Yr {o:List Fg} {f:Fg} (ho:GrpI o) (hf:ZS f):GrpI (yo o f)/\∀ i r c,i<zk->hasK (yo o f) i r c=(hasK o i r c || (mem f.items i && mem (zT f.vec r) c)):=by
 unfold yo
 split
 ·rename_i h
  refine⟨ho,fun i r c _=>?_⟩
  rcases h with h | h
  ·rw [<-ja hf.2,h,kr]
   simp
  ·rw [h]
   simp
 ·rename_i h
  obtain⟨_,k2,k3⟩:=Yw ho (Yi hf h)
  refine⟨k2,fun i r c hi=>?_⟩
  rw [k3 i r c hi]
  simp only
  rw [ja hf.2]
theorem jV:∀ {k:List Fg} {o:List Fg},GrpI o->RightK k->GrpI (k.foldl yo o)/\∀ i r c,i<zk->hasK (k.foldl yo o) i r c=(hasK o i r c || hasK k i r c)
 | [],o,ho,_=>⟨ho,fun i r c _=>by simp [hasK]⟩
 | f::k,o,ho,hk=>by
   obtain⟨h1,h2⟩:=Yr ho (hk f (by simp))
   obtain⟨h3,h4⟩:=jV (k:=k) h1 fun g hg=>hk g (by simp [hg])
   refine⟨h3,fun i r c hi=>?_⟩
   rw [List.foldl_cons,h4 i r c hi,h2 i r c hi,Bool.or_assoc]
   rfl
theorem vB {k:List Fg} (h:RightK k):GrpI (zL k):=(jV GrpI.nil h).1
theorem za5 {k:List Fg} (h:RightK k) {i r c:Nat} (hi:i<zk):hasK (zL k) i r c=hasK k i r c:=by
 have:=(jV GrpI.nil h).2 i r c hi
 rw [show hasK [] i r c=false from rfl,Bool.false_or] at this
 exact this
theorem Qa:∀ {o:List Fg} {f:Fg},(∀ g ∈ o,Nrm g.items)->Nrm f.items->xh o->(∀ g ∈ o,∀ x,x<zk->¬(mem g.items x=true/\mem f.items x=true)) ->
 xh (qN o f)/\∀ g ∈ qN o f,Nrm g.items/\∀ x,x<zk->mem g.items x=true->mem f.items x=true\/∃ g' ∈ o,mem g'.items x=true
 | [],f,_,hf,_,_=>⟨by simp [qN,xh],fun g hg=>by simp only [qN,List.mem_singleton] at hg;subst hg;exact⟨hf,fun x _ hm=>.inl hm⟩⟩
 | g::o,f,ho,hf,ha,hd=>by
   have hg:=ho g (by simp)
   have hp:=List.pairwise_cons.1 ha
   unfold qN
   by_cases h1:zZ (zv g.vec) (zv f.vec)<0
   ·rw [if_pos h1]
    obtain⟨k1,k2⟩:=Qa (fun x hx=>ho x (by simp [hx])) hf hp.2 fun x hx=>hd x (by simp [hx])
    refine⟨List.pairwise_cons.2 ⟨fun x hx z hz ⟨m1,m2⟩=>?_,k1⟩,fun x hx=>?_⟩
    ·rcases (k2 x hx).2 z hz m2 with e | ⟨y,hy,e⟩
     ·exact hd g (by simp) z hz ⟨m1,e⟩
     ·exact hp.1 y hy z hz ⟨m1,e⟩
    ·rcases List.mem_cons.1 hx with rfl | hx
     ·exact⟨hg,fun z _ hm=>.inr ⟨x,by simp,hm⟩⟩
     ·refine⟨(k2 x hx).1,fun z hz hm=>((k2 x hx).2 z hz hm).imp id ?_⟩
      rintro⟨y,hy,e⟩
      exact⟨y,by simp [hy],e⟩
   ·rw [if_neg h1]
    by_cases h2:zZ (zv g.vec) (zv f.vec)=0
    ·rw [if_pos h2]
     refine⟨List.pairwise_cons.2 ⟨fun x hx z hz ⟨m1,m2⟩=>?_,hp.2⟩,fun x hx=>?_⟩
     ·simp only at m1
      rw [qj hg hf hz] at m1
      simp only [zn,Bool.or_eq_true] at m1
      rcases m1 with m1 | m1
      ·exact hp.1 x hx z hz ⟨m1,m2⟩
      ·exact hd x (by simp [hx]) z hz ⟨m2,m1⟩
     ·rcases List.mem_cons.1 hx with rfl | hx
      ·refine⟨qH hg hf,fun z hz hm=>?_⟩
       simp only at hm
       rw [qj hg hf hz] at hm
       simp only [zn,Bool.or_eq_true] at hm
       rcases hm with hm | hm
       ·exact .inr ⟨g,by simp,hm⟩
       ·exact .inl hm
      ·exact⟨ho x (by simp [hx]),fun z _ hm=>.inr ⟨x,by simp [hx],hm⟩⟩
    ·rw [if_neg h2]
     refine⟨List.pairwise_cons.2 ⟨fun x hx z hz ⟨m1,m2⟩=>hd x hx z hz ⟨m2,m1⟩,ha⟩,fun x hx=>?_⟩
     rcases List.mem_cons.1 hx with rfl | hx
     ·exact⟨hf,fun z _ hm=>.inl hm⟩
     ·exact⟨ho x hx,fun z _ hm=>.inr ⟨x,hx,hm⟩⟩
theorem vA:∀ {k o:List Fg},(∀ g ∈ o,Nrm g.items)->(∀ f ∈ k,Nrm f.items)->xh o->xh k->(∀ g ∈ o,∀ f ∈ k,∀ x,x<zk->¬(mem g.items x=true/\mem f.items x=true))->xh (k.foldl yo o)
 | [],o,_,_,ha,_,_=>ha
 | f::k,o,ho,hk,ha,hak,hd=>by
   have hp:=List.pairwise_cons.1 hak
   rw [List.foldl_cons]
   unfold yo
   split
   ·exact vA ho (fun g hg=>hk g (by simp [hg])) ha hp.2 fun g hg f' hf'=>hd g hg f' (by simp [hf'])
   ·obtain⟨k1,k2⟩:=Qa (f:=⟨f.items,zi f.vec⟩) ho (hk f (by simp)) ha fun g hg=>hd g hg f (by simp)
    refine vA (fun g hg=>(k2 g hg).1) (fun g hg=>hk g (by simp [hg])) k1 hp.2 fun g hg f' hf' x hx ⟨m1,m2⟩=>?_
    rcases (k2 g hg).2 x hx m1 with e | ⟨y,hy,e⟩
    ·exact hp.1 f' hf' x hx ⟨e,m2⟩
    ·exact hd y hy f' (by simp [hf']) x hx ⟨e,m2⟩
structure CanK (k:List Fg):Prop where
 gi:GrpI k
 apart:xh k
theorem za4 {k:List Fg} (h:RightK k) (ha:xh k):CanK (zL k):=⟨vB h,vA (fun g h=>(by cases h)) (fun f hf=>(h f hf).1) List.Pairwise.nil ha fun g h=>(by cases h)⟩
theorem CanK.one {k:List Fg} (h:CanK k) {f:Fg} (hf:f ∈ k) {i:Nat} (hi:i<zk) (hm:mem f.items i=true) (r c:Nat):hasK k i r c=mem (zT f.vec r) c:=by
 rw [Bool.eq_iff_iff,km]
 constructor
 ·rintro⟨g,hg,m1,m2⟩
  have:f=g:=by
   obtain⟨a,ha,rfl⟩:=List.getElem_of_mem hf
   obtain⟨b,hb,rfl⟩:=List.getElem_of_mem hg
   rcases Nat.lt_trichotomy a b with e | e | e
   ·exact absurd ⟨hm,m1⟩ (List.pairwise_iff_getElem.1 h.apart a b ha hb e i hi)
   ·subst e;rfl
   ·exact absurd ⟨m1,hm⟩ (List.pairwise_iff_getElem.1 h.apart b a hb ha e i hi)
  subst this
  exact m2
 ·intro m2
  exact⟨f,hf,hm,m2⟩
theorem CanK.vec {k:List Fg} (h:CanK k) {f g:Fg} (hf:f ∈ k) (hg:g ∈ k) (e:f.vec=g.vec):f=g:=by
 obtain⟨a,ha,rfl⟩:=List.getElem_of_mem hf
 obtain⟨b,hb,rfl⟩:=List.getElem_of_mem hg
 rcases Nat.lt_trichotomy a b with e3 | e3 | e3
 ·have:=List.pairwise_iff_getElem.1 h.gi.srt a b ha hb e3
  rw [e] at this
  exact absurd this (ku _)
 ·subst e3;rfl
 ·have:=List.pairwise_iff_getElem.1 h.gi.srt b a hb ha e3
  rw [e] at this
  exact absurd this (ku _)
theorem zaK {v:List En} (h:CanV v) (hn:v≠[]):∃ r c,c<zk/\mem (zT v r) c=true:=by
 cases v with
 | nil=>exact absurd rfl hn
 | cons e v=>
   have he:=h.1 e (by simp)
   obtain⟨x,hx,hm⟩:=JZ (qT he.1) (jO he).1
   exact⟨e.rep,x,hx,by rw [qm,if_pos rfl];exact hm⟩
theorem Yh {a b:List Fg} (ha:CanK a) (hb:CanK b) (h:∀ i r c,i<zk->c<zk->hasK a i r c=hasK b i r c) {f:Fg} (hf:f ∈ a):∃ g ∈ b,g.vec=f.vec/\∀ x,x<zk->mem f.items x=true->mem g.items x=true:=by
 have ok:=ha.gi.ok f hf
 have key:∀ x,x<zk->mem f.items x=true->∃ g ∈ b,g.vec=f.vec/\mem g.items x=true:=fun x hx hm=>by
  obtain⟨r,c,hc,hk⟩:=zaK ok.1 ok.2.1
  have h1:=ha.one hf hx hm r c
  rw [hk,h x r c hx hc] at h1
  obtain⟨g,hg,m1,_⟩:=km.1 h1
  refine⟨g,hg,?_,m1⟩
  have okg:=hb.gi.ok g hg
  refine Zk okg.1 ok.1 fun r=>Nrm.unique (qi okg.1.right r) (qi ok.1.right r) fun c hc=>?_
  rw [<-hb.one hg hx m1 r c,<-ha.one hf hx hm r c,h x r c hx hc]
 obtain⟨x,hx,hm⟩:=JZ ok.2.2.1 ok.2.2.2
 obtain⟨g,hg,e,_⟩:=key x hx hm
 refine⟨g,hg,e,fun y hy hm'=>?_⟩
 obtain⟨g',hg',e',m'⟩:=key y hy hm'
 rw [hb.vec hg hg' (e.trans e'.symm)]
 exact m'
theorem ZD:∀ {a b:List Fg},a.Pairwise (fun f g=>ZH f.vec g.vec)->b.Pairwise (fun f g=>ZH f.vec g.vec)->(∀ f,f ∈ a ↔ f ∈ b)->a=b
 | [],[],_,_,_=>rfl
 | [],y::b,_,_,h=>absurd ((h y).2 (by simp)) (by simp)
 | x::a,[],_,_,h=>absurd ((h x).1 (by simp)) (by simp)
 | x::a,y::b,ha,hb,h=>by
   have ha':=List.pairwise_cons.1 ha
   have hb':=List.pairwise_cons.1 hb
   have hxy:x=y:=by
    have h1:=(h x).1 (by simp)
    have h2:=(h y).2 (by simp)
    simp at h1 h2
    rcases h1 with h1 | h1
    ·exact h1
    ·rcases h2 with h2 | h2
     ·exact h2.symm
     ·exact absurd (k8 (hb'.1 x h1) (ha'.1 y h2)) (ku _)
   subst hxy
   congr 1
   refine ZD ha'.2 hb'.2 fun z=>?_
   have:=h z
   simp at this
   constructor
   ·intro hz
    rcases this.1 (.inr hz) with e | e
    ·subst e;exact absurd (ha'.1 z hz) (ku _)
    ·exact e
   ·intro hz
    rcases this.2 (.inr hz) with e | e
    ·subst e;exact absurd (hb'.1 z hz) (ku _)
    ·exact e
theorem XN {a b:List Fg} (ha:CanK a) (hb:CanK b) (h:∀ i r c,i<zk->c<zk->hasK a i r c=hasK b i r c):a=b:=by
 have half:∀ {a b:List Fg},CanK a->CanK b->(∀ i r c,i<zk->c<zk->hasK a i r c=hasK b i r c)->∀ f ∈ a,f ∈ b:=fun {a b} ha hb h f hf=>by
  obtain⟨g,hg,e,hi⟩:=Yh ha hb h hf
  obtain⟨f',hf',e',hi'⟩:=Yh hb ha (fun i r c q1 q2=>(h i r c q1 q2).symm) hg
  have:f'=f:=ha.vec hf' hf (e'.trans e)
  subst this
  have:g=f':=Fg.ext' (Nrm.unique (hb.gi.ok g hg).2.2.1 (ha.gi.ok f' hf).2.2.1 fun x hx=>by
   rw [Bool.eq_iff_iff]
   exact⟨hi' x hx,hi x hx⟩) e
  rw [<-this]
  exact hg
 exact ZD ha.gi.srt hb.gi.srt fun f=>⟨half ha hb h f,half hb ha (fun i r c q1 q2=>(h i r c q1 q2).symm) f⟩
noncomputable def yy (f:Bool->Bool->Bool) (a b:List Fg):List Fg:=(zu (a++b)).map fun s=>⟨[s],ks f (qc a s.lo) (qc b s.lo)⟩
noncomputable def vh (f:Bool->Bool->Bool) (a b:List Fg):List Fg:=zL (yy f a b)
theorem RightK.app {a b:List Fg} (ha:RightK a) (hb:RightK b):RightK (a++b):=fun f hf=>(List.mem_append.1 hf).elim (ha f) (hb f)
theorem xU {f:Bool->Bool->Bool} {a b:List Fg} (ha:RightK a) (hb:RightK b):RightK (yy f a b):=fun g hg=>by
 obtain⟨s,hs,rfl⟩:=List.mem_map.1 hg
 obtain⟨h1,h2,_⟩:=(yt (ha.app hb)).1 s hs
 exact⟨qG h1 h2,(Xe f (ha.ik.at s.lo).1.can.right (hb.ik.at s.lo).1.can.right).right⟩
theorem Xh {f:Bool->Bool->Bool} {a b:List Fg} (ha:RightK a) (hb:RightK b):xh (yy f a b):=by
 unfold xh yy
 rw [List.pairwise_map]
 refine(yt (ha.app hb)).2.imp fun hst x _ ⟨h1,h2⟩=>?_
 have:=zfJ.1 h1
 have:=zfJ.1 h2
 omega
theorem ze5 {f:Bool->Bool->Bool} {a b:List Fg} (ha:RightK a) (hb:RightK b):CanK (vh f a b):=za4 (xU ha hb) (Xh ha hb)
theorem zcZ {f:Bool->Bool->Bool} (hf:f false false=false) {a b:List Fg} (ha:RightK a) (hb:RightK b) {i r c:Nat} (hi:i<zk) (hc:c<zk):hasK (vh f a b) i r c=f (hasK a i r c) (hasK b i r c):=by
 unfold vh
 rw [za5 (xU ha hb) hi]
 refine JJ (ha.app hb) (V:=fun x=>ks f (qc a x) (qc b x)) (P:=fun x r c=>f (hasK a x r c) (hasK b x r c)) (fun x r c _ hc=>?_) (fun x y r c hs=>?_) (fun x r c hn=>?_) hi hc
 ·have h1:=ha.ik.at x
  have h2:=hb.ik.at x
  rw [JR hf h1.1.can.right h2.1.can.right,qj (qi h1.1.can.right r) (qi h2.1.can.right r) hc,h1.2 r c hc,h2.2 r c hc]
 ·have hs':=qo.1 hs
  rw [Yt (k:=a) (qo.2 fun g hg=>hs' g (by simp [hg])),Yt (k:=b) (qo.2 fun g hg=>hs' g (by simp [hg]))]
 ·have h0:=zc0 (k:=a++b) r c hn
  unfold hasK at h0 ⊢
  rw [List.any_append,Bool.or_eq_false_iff] at h0
  rw [h0.1,h0.2,hf]
theorem CanK.right {k:List Fg} (h:CanK k):RightK k:=h.gi.right
theorem RightV.take {v:List En} (h:RightV v) (k:Nat):RightV (v.take k):=⟨fun e he=>h.1 e (List.mem_of_mem_take he),h.2.sublist (List.take_sublist _ _)⟩
theorem kD (v:List En) (r:Nat) (hr:SmV v):Cn Tryz.prog 148 [vp v,.v (.int .u64 r)] (rg (zT v r)):=by
 have hl:=hr.2.1
 refine zt Tryz.func148 2 ?_
 refine pw ?_
 refine .rd (zbB v r (by omega)) rfl ?_
 rcases X2 r v 0 with⟨e1,e2⟩ | ⟨i,hi,e1,e2⟩
 ·rw [e1,qC e2]
  exact pd
 ·have hh:=hr.2.2 _ (List.getElem_mem hi)
  rw [e1,zh8 hr.1 hi e2,Nat.zero_add]
  refine pw ?_
  refine .i ?_ ?_<;>intro h0<;>(try simp only [nrm_l] at h0)<;>first | refine pw ?_ | exact pd
  ·exact absurd h0 (by omega)
  ·exact .d (Vl v[i] (hr.1.1 _ (List.getElem_mem hi)) (by omega))
def vps (vs:List (List En)):PV:=.sl (vs.map fun v=>[vp v]) .sh
attribute [go_sem] vps
def u10:List En:=[⟨1,4,[]⟩,⟨2,3,[]⟩]
def c10:List En:=[⟨3,0,[]⟩]
theorem zdi {l:List Iv} {x:Nat} (hm:mem l x=true) (h0:x=0\/mem l (x - 1)=false):x ∈ l.map Iv.lo:=by
 obtain⟨s,hs,h1,h2⟩:=qf.1 hm
 refine List.mem_map.2 ⟨s,hs,?_⟩
 rcases Nat.lt_or_eq_of_le h1 with h3 | h3
 ·rcases h0 with h0 | h0
  ·omega
  ·have:mem l (x - 1)=true:=qf.2 ⟨s,hs,by omega,by omega⟩
   rw [this] at h0;cases h0
 ·exact h3
theorem zbS {a b:List Iv} (ha:Nrm a) (hb:Nrm b):(qy zn a b).length<=a.length+b.length:=by
 have hn:=qH (f:=zn) ha hb
 have:=Ji ((qy zn a b).map Iv.lo) (a.map Iv.lo++b.map Iv.lo) (NF.asc hn) fun y hy=>by
  obtain⟨s,hs,rfl⟩:=List.mem_map.1 hy
  have h1:=NF.lo_ge hn s hs
  have hm:mem (qy zn a b) s.lo=true:=qf.2 ⟨s,hs,Nat.le_refl _,h1.2.1⟩
  have hp:s.lo=0\/(mem a (s.lo - 1)=false/\mem b (s.lo - 1)=false):=by
   by_cases h0:s.lo=0
   ·exact .inl h0
   ·have h2:=NF.lo_prev hn s hs h0
    rw [qj ha hb (by omega)] at h2
    simp only [zn,Bool.or_eq_false_iff] at h2
    exact .inr h2
  rw [qj ha hb (by omega)] at hm
  simp only [zn,Bool.or_eq_true] at hm
  rcases hm with hm | hm
  ·exact List.mem_append_left _ (zdi hm (hp.imp id And.left))
  ·exact List.mem_append_right _ (zdi hm (hp.imp id And.right))
 simpa using this
def qE:List Fg->Nat
 | []=>0
 | f::k=>f.items.length+qE k
theorem kK:∀(a b:List Fg),qE (a++b)=qE a+qE b
 | [],b=>by simp [qE]
 | f::a,b=>by simp only [List.cons_append,qE,kK a b];omega
theorem yv:∀ {k:List Fg} {f:Fg},f ∈ k->f.items.length<=qE k
 | g::k,f,h=>by
   rcases List.mem_cons.1 h with rfl | h
   ·simp only [qE];omega
   ·have:=yv h;simp only [qE];omega
theorem YO:∀ k:List Fg,(CI k).length<=2 * qE k
 | []=>by simp [CI,qE]
 | f::k=>by
   have h1:=YO k
   have h2:=vq f.items
   have:CI (f::k)=z6 f.items++CI k:=rfl
   rw [this,List.length_append,qE];omega
theorem Zf (V:Iv->List En):∀ l:List Iv,qE (l.map fun s=>⟨[s],V s⟩)=l.length
 | []=>rfl
 | s::l=>by rw [List.map_cons,qE,Zf V l];simp;omega
theorem Vg:∀ {o:List Fg} {f:Fg},(∀ g ∈ o,Nrm g.items)->Nrm f.items->qE (qN o f)<=qE o+f.items.length/\(qN o f).length<=o.length+1/\∀ g ∈ qN o f,g.vec=f.vec\/∃ h ∈ o,g.vec=h.vec
 | [],f,_,_=>⟨by simp [qN,qE],by simp [qN],fun g hg=>by simp only [qN,List.mem_singleton] at hg;subst hg;exact .inl rfl⟩
 | g::o,f,ho,hf=>by
   have h1:=Vg (o:=o) (f:=f) (fun x hx=>ho x (by simp [hx])) hf
   have hg:=ho g (by simp)
   have hu:=zbS hg hf
   unfold qN
   by_cases c1:zZ (zv g.vec) (zv f.vec)<0
   ·rw [if_pos c1]
    refine⟨by simp only [qE];omega,by simp only [List.length_cons];omega,fun x hx=>?_⟩
    rcases List.mem_cons.1 hx with rfl | hx
    ·exact .inr ⟨_,by simp,rfl⟩
    ·exact(h1.2.2 x hx).imp id fun⟨y,hy,e⟩=>⟨y,by simp [hy],e⟩
   ·rw [if_neg c1]
    by_cases c2:zZ (zv g.vec) (zv f.vec)=0
    ·rw [if_pos c2]
     refine⟨by simp only [qE];omega,by simp,fun x hx=>?_⟩
     rcases List.mem_cons.1 hx with rfl | hx
     ·exact .inl rfl
     ·exact .inr ⟨x,by simp [hx],rfl⟩
    ·rw [if_neg c2]
     refine⟨by simp only [qE];omega,by simp,fun x hx=>?_⟩
     rcases List.mem_cons.1 hx with rfl | hx
     ·exact .inl rfl
     ·exact .inr ⟨x,hx,rfl⟩
theorem Yq:∀ {k o:List Fg},GrpI o->RightK k->qE (k.foldl yo o)<=qE o+qE k/\(k.foldl yo o).length<=o.length+k.length/\∀ g ∈ k.foldl yo o,(∃ f ∈ k,g.vec=zi f.vec)\/∃ h ∈ o,g.vec=h.vec
 | [],o,_,_=>⟨by simp,by simp,fun g hg=>.inr ⟨g,hg,rfl⟩⟩
 | f::k,o,ho,hk=>by
   have hf:=hk f (by simp)
   have h1:=Yq (k:=k) (o:=yo o f) (Yr ho hf).1 fun g hg=>hk g (by simp [hg])
   rw [List.foldl_cons]
   have h2:qE (yo o f)<=qE o+f.items.length/\(yo o f).length<=o.length+1/\∀ g ∈ yo o f,g.vec=zi f.vec\/∃ h ∈ o,g.vec=h.vec:=by
    unfold yo
    split
    ·exact⟨by omega,by omega,fun g hg=>.inr ⟨g,hg,rfl⟩⟩
    ·exact Vg (fun g hg=>(ho.ok g hg).2.2.1) hf.1
   refine⟨by simp only [qE];omega,by simp only [List.length_cons];omega,fun g hg=>?_⟩
   rcases h1.2.2 g hg with⟨x,hx,e⟩ | ⟨x,hx,e⟩
   ·exact .inl ⟨x,by simp [hx],e⟩
   ·rcases h2.2.2 x hx with e2 | ⟨y,hy,e2⟩
    ·exact .inl ⟨f,by simp,e.trans e2⟩
    ·exact .inr ⟨y,hy,e.trans e2⟩
theorem jU {k:List Fg} (h:RightK k):qE (zL k)<=qE k/\(zL k).length<=k.length/\∀ g ∈ zL k,∃ f ∈ k,g.vec=zi f.vec:=by
 have:=Yq (o:=[]) GrpI.nil h
 refine⟨by simpa [qE,zL] using this.1,by simpa [zL] using this.2.1,fun g hg=>?_⟩
 rcases this.2.2 g hg with h | ⟨x,hx,_⟩
 ·exact h
 ·cases hx
theorem Zo {k:List Fg} {j:Nat} (h:j<k.length):zL (k.take (j+1))=yo (zL (k.take j)) k[j]:=by
 unfold zL
 rw [List.take_succ_eq_append_getElem h,List.foldl_append]
 rfl
theorem zfS {v:List En} {h:Nat} (hh:∀ e ∈ v,e.holes.length<=h):(zv v).length<=1+v.length * (3+2 * h):=by
 have:∀ {v:List En},(∀ e ∈ v,e.holes.length<=h)->(v.flatMap zC).length<=v.length * (3+2 * h):=by
  intro v
  induction v with
  | nil=>intro _;simp
  | cons e v ih=>
    intro hv
    have h1:=ih fun f hf=>hv f (by simp [hf])
    have h2:=hv e (by simp)
    have h3:(v.length+1) * (3+2 * h)=v.length * (3+2 * h)+(3+2 * h):=Nat.succ_mul _ _
    simp only [List.flatMap_cons,List.length_append,zC,List.length_cons,xx,h3]
    omega
 have:=this hh
 unfold zv
 simp only [List.length_cons]
 omega
theorem WV.nlen {C:Nat->List Nat} {R:List Nat} {v:List En} (h:WV C R v) (hC:∀ r,(C r).length<=9000) (hR:R.length<=20000):(zv v).length<=1073741824:=by
 obtain⟨_,h1,h2⟩:=h.bv hC hR
 have h3:=zfS h2
 have h4:v.length * (3+2 * (9000+2))<=20000 * (3+2 * (9000+2)):=Nat.mul_le_mul_right _ h1
 omega
theorem zap (xs:List Nat) (x:Nat) (hl:(srt xs).length<=4194304):Cn Tryz.prog 145 [ns (srt xs),.v (.int .u64 x)] (ns (srt (xs++[x]))):=by
 refine yZ rfl (enters_of Tryz.func145 (by kernel_rfl) rfl) fun D w vs hG hD hsz hd=>?_
 rw [zeJ hsz,(hd 1 _ rfl).v_inv]
 refine(zbw D xs x _ w hl (hd 0 _ rfl) hD).mono ?_
 rintro e w' ⟨v,rfl,hb,hv⟩
 exact⟨v,rfl,hb,hv⟩
theorem VW {v:List En} {xs:List Nat} {k:Nat} (hv:v.length<=1048576) (hx:xs.length<=1048576):(srt (xs++zM (v.take k))).length<=4194304:=by
 have h1:=ju (xs++zM (v.take k))
 have h2:(v.take k).length<=1048576:=Nat.le_trans (List.length_take_le' _ _) hv
 simp only [zM,List.length_append,List.length_map] at h1 h2
 simp only [zM]
 omega
theorem YH {v:List En} {k:Nat} (h:k<v.length):zM (v.take (k+1))=zM (v.take k)++[v[k].rep]:=by
 unfold zM
 rw [List.take_succ_eq_append_getElem h,List.map_append]
 rfl
theorem zcC (a b:List En) (op:Nat) (ho:op<3) (ha:SmV a) (hb:SmV b):Cn Tryz.prog 96 [vp a,vp b,.v (.int .i64 op)] (vp (ks (Qj op) a b)):=by
 have la:=ha.2.1
 have lb:=hb.2.1
 have h0:Qj op false false=false:=by
  match op,ho with
  | 0,_=>rfl
  | 1,_=>rfl
  | 2,_=>rfl
 refine zhs Tryz.func96 [] 3 (by kernel_rfl) rfl (by simp [go_sem,seval]) 14 (.dr [⟨(some 47),none,(.mv (.t 7))⟩,⟨(some 48),none,(.mv (.t 11))⟩,⟨(some 49),none,(.ia (.t 47) (.t 48) 1)⟩,⟨(some 50),none,(.ld (.t 49) false 1)⟩,⟨(some 51),none,(.mv (.t 0))⟩,⟨(some 52),none,(.mv (.t 7))⟩,⟨(some 53),none,(.mv (.t 11))⟩,⟨(some 54),none,(.ia (.t 52) (.t 53) 1)⟩,⟨(some 55),none,(.ld (.t 54) false 1)⟩,⟨(some 56),none,(.ca 148 [(.t 51),(.t 55)])⟩,⟨(some 57),none,(.mv (.t 1))⟩,⟨(some 58),none,(.mv (.t 7))⟩,⟨(some 59),none,(.mv (.t 11))⟩,⟨(some 60),none,(.ia (.t 58) (.t 59) 1)⟩,⟨(some 61),none,(.ld (.t 60) false 1)⟩,⟨(some 62),none,(.ca 148 [(.t 57),(.t 61)])⟩,⟨(some 63),none,(.mv (.t 2))⟩,⟨(some 64),none,(.ca 147 [(.t 56),(.t 62),(.t 63)])⟩,⟨(some 65),none,(.ca 146 [(.t 50),(.t 64)])⟩,⟨(some 46),none,(.mv (.t 65))⟩,⟨(some 66),none,(.ex (.t 46) 0)⟩,⟨(some 67),none,(.ex (.t 46) 1)⟩] [⟨(some 12),none,(.al [(.v (.int .u64 0)),(.v (.int .u64 0)),(.sl [] .sh)])⟩,⟨none,none,(.st (.t 12) (.t 66) 3)⟩,⟨(some 13),none,(.mv (.t 67))⟩]) rfl (by kernel_rfl) ?_
 conv=>enter [4,6];(unfold xN;simp only [Tryz.f96])
 simp only [pcT,Nat.reduceEqDiff,if_false,if_true,reduceIte]
 repeat (conv in (zgV _ _ _ _ _ _)=>cbv)
 repeat (conv in (zgW _)=>cbv)
 conv=>enter [5,1];cbv
 refine pw ?_
 refine pLoop.go (fun k=>k<=a.length) (fun k=>[(7,ns (srt ([]++zM (a.take k)))),(8,.v (.int .i64 (k:Nat)))]) (fun _=>[]) (fun k=>a.length - k) 0 [7,8] ?_ ?_ ?_
 ·exact Nat.zero_le _
 ·simp only [List.take_zero,zM,List.map_nil,List.append_nil,XB]
  exact pd
 ·rintro k hk
  refine pw ?_
  refine .i ?_ ?_<;>intro h<;>(try simp only [nrm_l] at h)<;>first | refine pw ?_ | exact pd
  ·refine .c (zap ([]++zM (a.take k)) a[k].rep (VW (xs:=[]) la (by simp))) ?_
   refine⟨k+1,h,by omega,?_,rfl⟩
   rw [YH h]
  ·rw [show k=a.length by omega,List.take_length]
   refine pLoop.go (fun k=>k<=b.length) (fun k=>[(7,ns (srt (zM a++zM (b.take k)))),(9,.v (.int .i64 (k:Nat)))]) (fun _=>[]) (fun k=>b.length - k) 0 [7,9] ?_ ?_ ?_
   ·exact Nat.zero_le _
   ·simp only [List.take_zero,zM,List.map_nil,List.append_nil]
    exact pd
   ·rintro k hk
    refine pw ?_
    refine .i ?_ ?_<;>intro h2<;>(try simp only [nrm_l] at h2)<;>first | refine pw ?_ | exact pd
    ·refine .c (zap (zM a++zM (b.take k)) b[k].rep (VW (xs:=zM a) lb (by simp [zM];omega))) ?_
     refine⟨k+1,h2,by omega,?_,rfl⟩
     rw [YH h2,List.append_assoc]
    ·rw [show k=b.length by omega,List.take_length]
     obtain⟨L,hL⟩:∃ L,L=srt (zM a++zM b):=⟨_,rfl⟩
     have hll:L.length<=2097152:=by
      have h1:=ju (zM a++zM b)
      simp only [zM,List.length_append,List.length_map] at h1
      rw [hL]
      simp only [zM]
      omega
     have hlm:∀ r ∈ L,r<zk:=by rw [hL];exact Xr ha.1 hb.1
     have hlat:ks (Qj op) a b=L.filterMap (vE (Qj op) a b):=by rw [hL];rfl
     rw [<-hL,hlat]
     clear hlat hL
     refine pLoop.go (fun k=>k<=L.length) (fun k=>[(10,.sl (((L.take k).filterMap (vE (Qj op) a b)).map ec) (.r 72 3)),(11,.v (.int .i64 (k:Nat)))]) (fun _=>[]) (fun k=>L.length - k) 0 [10,11,72] ?_ ?_ ?_
     ·exact Nat.zero_le _
     ·simp only [List.take_zero,List.filterMap_nil,List.map_nil]
      exact pd
     ·rintro k hk
      have hfl:((L.take k).filterMap (vE (Qj op) a b)).length<=k:=Nat.le_trans (List.length_filterMap_le _ _) (by simp;omega)
      refine pw ?_
      refine .i ?_ ?_<;>intro h3<;>(try simp only [nrm_l] at h3)<;>first | refine pw ?_ | exact pd
      ·have ka:=qS ha L[k]
       have kb:=qS hb L[k]
       have hol:(qy (Qj op) (zT a L[k]) (zT b L[k])).length<=80100:=by
        have h1:=xR (Qj op) (zT a L[k]) (zT b L[k])
        omega
       have hof:=zg1 L[k] (qy (Qj op) (zT a L[k]) (zT b L[k])) (qH ka.1 kb.1) (by omega)
       have hst:=KZ (f:=Qj op) (a:=a) (b:=b) h3
       obtain⟨e,ok,hE⟩:∃ e ok,Qi L[k] (qy (Qj op) (zT a L[k]) (zT b L[k]))=(e,ok):=⟨_,_,rfl⟩
       rw [zac hE] at hst
       rw [hE] at hof
       refine .c (kD a L[k] ha) ?_
       refine .c (kD b L[k] hb) ?_
       refine .c (zhw (zT a L[k]) (zT b L[k]) op ka.1 kb.1 ho (by omega) (by omega)) ?_
       cases ok with
       | true=>
         (first | refine .c (hof) ?_ | refine .o (hof) ?_)
         refine⟨k+1,h3,by omega,?_,rfl⟩
         rw [hst]
         simp
         rfl
       | false=>
         (first | refine .c (hof) ?_ | refine .o (hof) ?_)
         refine⟨k+1,h3,by omega,?_,rfl⟩
         rw [hst]
         simp
      ·rw [show k=L.length by omega,List.take_length]
theorem SmV.g {v:List En} (h:SmV v):v.length<=1152921504606846976/\∀ e ∈ v,e.holes.length<=1152921504606846976:=⟨by have:=h.2.1;omega,fun e he=>by have:=h.2.2 e he;omega⟩
theorem zaJ:CanK []:=⟨GrpI.nil,List.Pairwise.nil⟩
theorem zcY (i r c:Nat):hasK [] i r c=false:=rfl
theorem KP {f:Bool->Bool->Bool} (hf:f false false=false) {a b:List Fg} (ha:RightK a) (hb:RightK b):vh f a b=[] ↔ ∀ i r c,i<zk->c<zk->f (hasK a i r c) (hasK b i r c)=false:=by
 constructor
 ·intro h i r c hi hc
  rw [<-zcZ hf ha hb hi hc,h];rfl
 ·intro h
  exact XN (ze5 ha hb) zaJ fun i r c hi hc=>by rw [zcZ hf ha hb hi hc,h i r c hi hc];rfl
theorem V0 {a b:List Fg} (ha:RightK a) (hb:RightK b):vh zm a b=[] ↔ ∀ i r c,i<zk->c<zk->hasK a i r c=true->hasK b i r c=true:=by
 rw [KP rfl ha hb]
 refine⟨fun h i r c hi hc h1=>?_,fun h i r c hi hc=>?_⟩
 ·have:=h i r c hi hc
  rw [h1] at this
  simpa [zm] using this
 ·have:=h i r c hi hc
  cases h1:hasK a i r c<;>cases h2:hasK b i r c<;>simp_all [zm]
noncomputable def zbC (a b:List Fg):Nat:=if vh zm a b=[] then (if vh zm b a=[] then 0 else 1) else (if vh zm b a=[] then 2 else 3)
theorem WV.smv {C:Nat->List Nat} {R:List Nat} {v:List En} (h:WV C R v) (ok:OkC C R):SmV v:=(h.bv ok.1 ok.2).mono (Nat.le_refl _) (by omega)
theorem zfh {k:List Fg} (h:vx k=true) (hr:RightK k) {f:Fg} (hf:f ∈ k):SmV f.vec:=by
 have:=vw.1 ((Z3.1 h).1 f hf).2
 exact⟨(hr f hf).2,by omega,fun e he=>by have:=this.1 e he;omega⟩
theorem kH {D:Nat->Nat->Prop} {w:World} {x:Value} {es:List (List PV)} {o:Ow} (h:Dat D w x (.sl es o)):∃ s:Sv,x=sv s/\s.2.1=es.length:=by
 obtain⟨ad,cap,sz,b,off,f,e1,_⟩:=(Rel.dat (ρ:=fun _=>0) (nb:=0) h).inv_sl
 exact⟨(ad,es.length,cap),e1,rfl⟩
theorem kX {D:Nat->Nat->Prop} {n0:Nat} {w:World} {v:Value} {k:List Fg} (h:Dat D w v (kp k)) (hD:∀ b o,D b o->b<n0) :
 ∃ a cap fs,v=.slice a k.length cap/\∃ hl:fs.length=k.length,zeF n0 w a cap fs/\∀ i (h:i<fs.length),Dat D w (sv fs[i].1) (rg (k[i]'(hl ▸ h)).items)/\Dat D w (sv fs[i].2) (vp (k[i]'(hl ▸ h)).vec):=by
 unfold kp at h
 generalize he:k.map fc=es at h
 cases h with
 | sl a cap sz es o b off u hc hz hm ha hsz hd hx=>
   have hl:es.length=k.length:=by rw [<-he];simp
   have g:∀ i (h:i<k.length),es[i]? = some (fc k[i]):=fun i h=>by rw [<-he];exact xo h
   have each:∀ i,i<k.length->∃ f:Fv,∀ h:i<k.length,(sz=2/\u (i * 2)=sv f.1/\u (i * 2+1)=sv f.2)/\Dat D w (sv f.1) (rg k[i].items)/\Dat D w (sv f.2) (vp k[i].vec):=fun i hi=>by
    obtain rfl:2=sz:=hsz i _ (g i hi)
    have d0:Dat D w (u (i * 2+0)) (rg k[i].items):=hx i _ 0 _ (g i hi) rfl
    have d1:Dat D w (u (i * 2+1)) (vp k[i].vec):=hx i _ 1 _ (g i hi) rfl
    obtain⟨s0,e0,_⟩:=kH d0
    obtain⟨s1,e1,_⟩:=kH d1
    rw [e0] at d0
    rw [e1] at d1
    exact⟨(s0,s1),fun _=>⟨⟨rfl,e0,e1⟩,d0,d1⟩⟩
   obtain⟨F,hF⟩:=Go.Deep.choose_lt each
   refine⟨a,cap,(List.range k.length).map F,by rw [hl],by simp,⟨by simp;omega,hm,fun hne=>?_⟩,fun i hi=>?_⟩
   ·have hpos:0<k.length:=by
     rcases Nat.eq_zero_or_pos k.length with h0 | h0
     ·rw [h0] at hne;simp at hne
     ·exact h0
    obtain⟨⟨rfl,_⟩,_⟩:=hF 0 hpos hpos
    have hes:es≠[]:=by intro e;subst e;simp at hl;omega
    refine⟨b,off,ha hes,hD _ _ (hd 0 (by omega)).1,fun i hi=>?_⟩
    have hi':i<k.length:=by simpa using hi
    obtain⟨⟨_,e0,e1⟩,_⟩:=hF i hi' hi'
    have c0:=(hd (i * 2) (by omega)).2.1
    have c1:=(hd (i * 2+1) (by omega)).2.1
    rw [e0] at c0
    rw [e1] at c1
    simp only [List.getElem_map,List.getElem_range]
    exact⟨c0,c1⟩
   ·have hi':i<k.length:=by simpa using hi
    simp only [List.getElem_map,List.getElem_range]
    exact(hF i hi' hi').2
theorem zez {hit:Nat->Bool} {p:Nat × Fv}:∀ {l:List Fv} {n:Nat},p ∈ wl hit n l->∃ h:p.1 - n<l.length,n<=p.1/\p.2=l[p.1 - n]/\hit p.1=true
 | [],n,h=>by cases h
 | f::l,n,h=>by
   unfold wl at h
   have rst:p ∈ wl hit (n+1) l->∃ h:p.1 - n<(f::l).length,n<=p.1/\p.2=(f::l)[p.1 - n]/\hit p.1=true:=fun h=>by
    obtain⟨h1,h2,h3,h4⟩:=zez h
    refine⟨by simp;omega,by omega,?_,h4⟩
    rw [h3]
    have e:p.1 - n=(p.1 - (n+1))+1:=by omega
    simp only [e,List.getElem_cons_succ]
   split at h
   ·rename_i hh
    rcases List.mem_cons.1 h with rfl | h
    ·exact⟨by simp,Nat.le_refl _,by simp,hh⟩
    ·exact rst h
   ·exact rst h
theorem Yp {α:Type} {k:List Fg} {fs:List Fv} (hl:fs.length=k.length) (item:Nat) (step:α->Nat->Fg->α) (a0:α) :
 (wl (fun j=>mem (k.getD j default).items item) 0 fs).foldl (fun a p=>step a p.1 (k.getD p.1 default)) a0=(qd item 0 k).foldl (fun a p=>step a p.1 p.2) a0:=by
 have key:∀ j,j<=k.length->(wl (fun j=>mem (k.getD j default).items item) 0 (fs.take j)).foldl (fun a p=>step a p.1 (k.getD p.1 default)) a0=(qd item 0 (k.take j)).foldl (fun a p=>step a p.1 p.2) a0:=by
  intro j
  induction j with
  | zero=>intro _;rfl
  | succ j ih=>
    intro hj
    rw [XF (by omega),j9 item (by omega),List.foldl_append,List.foldl_append,ih (by omega)]
    have e:k.getD j default=k[j]:=by simp [List.getD_eq_getElem?_getD,List.getElem?_eq_getElem (show j<k.length by omega)]
    simp only [e]
    split
    ·show step _ j (k.getD j default)=step _ j k[j]
     rw [e]
    ·rfl
 have:=key k.length (Nat.le_refl _)
 rwa [<-hl,List.take_length,hl,List.take_length] at this
def V8 (k:List Fg) (i:Nat):PV:=.fn (.func 110) [] [.cp [kp k] 0,.cp [.v (.int .u64 i)] 0]
def zmf (k:List Fg):PV:=.fn (.func 113) [] [.cp [kp k] 0]
attribute [go_sem] V8 zmf
theorem zfB (k:List Fg) (i:Nat):Cn Tryz.prog 63 [kp k,.v (.int .u64 i)] (V8 k i):=by
 refine zt Tryz.func63 2 ?_
 exact pd
theorem zjy (v:List En) (i:Nat) (f:Fg) (hv:SmV v) (hf:SmV f.vec):Cn Tryz.prog 64 [vp v,.v (.int .i64 i),fp f] (vp (ks zn v f.vec)):=by
 refine zt Tryz.func64 3 ?_
 refine pw ?_
 exact .d (zdc v f.vec hv hf)
abbrev Tr:=Nat × Nat × Nat
def zeY (t u:Tr):Int:=zZ [t.1,t.2.1,t.2.2] [u.1,u.2.1,u.2.2]
def Vq (o:Option Tr) (t:Tr):Option Tr:=match o with
 | none=>some t
 | some u=>if zeY t u<0 then some t else some u
def XE (x:Nat) (e:En):List Tr:=match kn e with
 | []=>[]
 | s::_=>[(x,e.rep,s.lo)]
def V3 (f:Fg):List Tr:=match f.items with
 | []=>[]
 | s::_=>f.vec.flatMap (XE s.lo)
def kY (k:List Fg):Option Tr:=(k.flatMap V3).foldl Vq none
def leT (t u:Tr):Prop:=t.1<u.1\/(t.1=u.1/\(t.2.1<u.2.1\/(t.2.1=u.2.1/\t.2.2<=u.2.2)))
theorem zjg (t u:Tr):zeY t u<0 ↔ ¬ leT u t:=by
 unfold zeY leT
 simp only [zZ]
 repeat' split
 all_goals (constructor<;>intro h<;>omega)
theorem zgZ (t:Tr):leT t t:=by unfold leT;omega
theorem zgJ {t u v:Tr} (h1:leT t u) (h2:leT u v):leT t v:=by unfold leT at *;omega
theorem zjV {t u:Tr} (h:¬ leT u t):leT t u:=by unfold leT at *;omega
theorem zdf {t u:Tr} (h1:leT t u) (h2:leT u t):t=u:=by
 obtain⟨a,b,c⟩:=t
 obtain⟨a',b',c'⟩:=u
 unfold leT at h1 h2
 simp only at h1 h2
 have e1:a=a':=by omega
 have e2:b=b':=by omega
 have e3:c=c':=by omega
 rw [e1,e2,e3]
theorem zme (l:List Tr):∀(o:Option Tr),(l=[]/\l.foldl Vq o=o)\/∃ t,l.foldl Vq o=some t/\(t ∈ l\/o=some t)/\(∀ u ∈ l,leT t u)/\∀ u,o=some u->leT t u:=by
 induction l with
 | nil=>exact fun o=>.inl ⟨rfl,rfl⟩
 | cons x l ih=>
   intro o
   refine .inr ?_
   have key:∃ y,Vq o x=some y/\(y=x\/o=some y)/\leT y x/\∀ u,o=some u->leT y u:=by
    cases o with
    | none=>exact⟨x,rfl,.inl rfl,zgZ x,fun u h=>by cases h⟩
    | some u=>
      unfold Vq
      by_cases h:zeY x u<0
      ·exact⟨x,by simp [h],.inl rfl,zgZ x,fun v hv=>by cases hv;exact zjV ((zjg x u).1 h)⟩
      ·refine⟨u,by simp [h],.inr rfl,?_,fun v hv=>by cases hv;exact zgZ _⟩
       rw [zjg] at h
       exact Classical.not_not.1 h
   obtain⟨y,e,hy,h1,h2⟩:=key
   rw [List.foldl_cons,e]
   rcases ih (some y) with⟨rfl,e2⟩ | ⟨t,e2,h3,h4,h5⟩
   ·rw [e2]
    refine⟨y,rfl,hy.imp (fun e=>by simp [e]) id,fun u hu=>?_,h2⟩
    simp at hu
    rw [hu];exact h1
   ·have h6:=h5 y rfl
    refine⟨t,e2,?_,fun u hu=>?_,fun u hu=>zgJ h6 (h2 u hu)⟩
    ·rcases h3 with h3 | h3
     ·exact .inl (List.mem_cons_of_mem _ h3)
     ·cases h3
      exact hy.imp (fun e=>by simp [e]) id
    ·rcases List.mem_cons.1 hu with rfl | hu
     ·exact zgJ h6 h1
     ·exact h4 u hu
structure IsLeast (k:List Fg) (t:Tr):Prop where
 b1:t.1<zk
 b2:t.2.2<zk
 has:hasK k t.1 t.2.1 t.2.2=true
 le:∀ i r c,i<zk->c<zk->hasK k i r c=true->leT t (i,r,c)
theorem IsLeast.eq {k:List Fg} {t u:Tr} (h:IsLeast k t) (g:IsLeast k u):t=u:=
 zdf (h.le _ _ _ g.b1 g.b2 g.has) (g.le _ _ _ h.b1 h.b2 h.has)
theorem zgj {s:Iv} {l:List Iv} (h:Nrm (s::l)):s.lo<zk/\mem (s::l) s.lo=true/\∀ x,mem (s::l) x=true->s.lo<=x:=by
 have h1:=NF.lo_ge h s (by simp)
 refine⟨by omega,by rw [zz];simp [h1.2.1],fun x hx=>?_⟩
 have h2:=h
 unfold Nrm at h2
 rw [zz,Bool.or_eq_true,Bool.and_eq_true,decide_eq_true_eq,decide_eq_true_eq] at hx
 rcases hx with hx | hx
 ·exact hx.1
 ·obtain⟨t,ht,h3⟩:=List.any_eq_true.1 hx
  simp only [Bool.and_eq_true,decide_eq_true_eq] at h3
  have h4:NF (s.hi+2) l\/NF (s.hi+1) l:=by
   unfold NF at h2
   first | exact .inl h2.2.2.2 | exact .inl h2.2.2 | exact .inr h2.2.2.2 | exact .inr h2.2.2
  have h5:s.hi+1<=t.lo:=by
   rcases h4 with h4 | h4
   ·have:=(NF.lo_ge h4 t ht).1;omega
   ·exact(NF.lo_ge h4 t ht).1
  omega
theorem zjl {k:List Fg} {t:Tr}:t ∈ k.flatMap V3 ↔ ∃ f ∈ k,∃ s l,f.items=s::l/\∃ e ∈ f.vec,∃ s' l',kn e=s'::l'/\t=(s.lo,e.rep,s'.lo):=by
 rw [List.mem_flatMap]
 refine exists_congr fun f=>and_congr_right fun hf=>?_
 unfold V3
 cases h:f.items with
 | nil=>simp
 | cons s l=>
   simp only [List.mem_flatMap,XE]
   constructor
   ·rintro⟨e,he,ht⟩
    cases h2:kn e with
    | nil=>rw [h2] at ht;simp at ht
    | cons s' l'=>rw [h2] at ht;simp at ht;exact⟨s,l,rfl,e,he,s',l',h2,ht⟩
   ·rintro⟨s1,l1,e1,e,he,s',l',h2,rfl⟩
    cases e1
    exact⟨e,he,by rw [h2];simp⟩
theorem zfo {k:List Fg} (h:RightK k) {i r c:Nat}:hasK k i r c=true ↔ ∃ f ∈ k,mem f.items i=true/\∃ e ∈ f.vec,e.rep=r/\mem (kn e) c=true:=by
 rw [km]
 refine exists_congr fun f=>and_congr_right fun hf=>and_congr_right fun _=>?_
 have hv:=(h f hf).2
 constructor
 ·intro hm
  by_cases hn:∀ e ∈ f.vec,e.rep≠r
  ·rw [qC hn] at hm;cases hm
  ·simp only [Classical.not_forall,Classical.not_not] at hn
   obtain⟨e,he,hr⟩:=hn
   refine⟨e,he,hr,?_⟩
   rw [<-hr,kq hv.2 he] at hm
   exact hm
 ·rintro⟨e,he,rfl,hm⟩
  rw [kq hv.2 he];exact hm
theorem zgH {k:List Fg} (h:RightK k):(kY k=none/\∀ i r c,hasK k i r c=false)\/∃ t,kY k=some t/\IsLeast k t:=by
 have low:∀ i r c,hasK k i r c=true->∃ t ∈ k.flatMap V3,leT t (i,r,c):=fun i r c hh=>by
  obtain⟨f,hf,hi,e,he,rfl,hc⟩:=(zfo h).1 hh
  have hn1:=(h f hf).1
  have hn2:=qT ((h f hf).2.1 e he)
  cases h1:f.items with
  | nil=>rw [h1] at hi;cases hi
  | cons s l=>
    cases h2:kn e with
    | nil=>rw [h2] at hc;cases hc
    | cons s' l'=>
      rw [h1] at hn1 hi
      rw [h2] at hn2 hc
      refine⟨(s.lo,e.rep,s'.lo),zjl.2 ⟨f,hf,s,l,h1,e,he,s',l',h2,rfl⟩,?_⟩
      have a1:=(zgj hn1).2.2 i hi
      have a2:=(zgj hn2).2.2 c hc
      show s.lo<i\/(s.lo=i/\(e.rep<e.rep\/(e.rep=e.rep/\s'.lo<=c)))
      omega
 unfold kY
 rcases zme (k.flatMap V3) none with⟨e1,e2⟩ | ⟨t,e2,h3,h4,_⟩
 ·refine .inl ⟨e2,fun i r c=>?_⟩
  cases hh:hasK k i r c with
  | false=>rfl
  | true=>
    obtain⟨t,ht,_⟩:=low i r c hh
    rw [e1] at ht;cases ht
 ·refine .inr ⟨t,e2,?_⟩
  rcases h3 with h3 | h3
  ·obtain⟨f,hf,s,l,h1,e,he,s',l',h2,rfl⟩:=zjl.1 h3
   have hn1:=(h f hf).1
   have hn2:=qT ((h f hf).2.1 e he)
   rw [h1] at hn1
   rw [h2] at hn2
   have a1:=zgj hn1
   have a2:=zgj hn2
   refine⟨a1.1,a2.1,(zfo h).2 ⟨f,hf,by rw [h1];exact a1.2.1,e,he,rfl,by rw [h2];exact a2.2.1⟩,fun i r c _ _ hh=>?_⟩
   obtain⟨u,hu,h5⟩:=low i r c hh
   exact zgJ (h4 u hu) h5
  ·cases h3
end Go.Proofs.YtonhfknjcbakiaaGreatDoor
namespace Go.Proofs.YtonhfknjcbakiaaGreatDoor
open Go.RowKit Go.Maps
attribute [-go_sem] z7
def MapS (D:DV) (S:List Nat):Prop:=IsMap D/\∀ r,has D (kR r)=decide (r ∈ S)
theorem MapS.nil:MapS (.map []) []:=⟨⟨[],rfl⟩,fun r=>by simp [has]⟩
theorem MapS.put {D:DV} {S:List Nat} (h:MapS D S) (r:Nat) (v:DV):MapS (D.put (kR r) v) (S++[r]):=by
 refine⟨h.1.put _ _,fun s=>?_⟩
 by_cases e:s=r
 ·subst e
  rw [has_put_same h.1 (Qc _)];simp
 ·rw [has_put_other (fun h=>e (Xa h)),h.2 s];simp [e]
def MI (B:Nat) (w:World) (S:List Nat):Prop:=∃ D,w.ownsMap Tryz.prog 24 rV B S.length D/\MapS D S
theorem MI.made (w:World):MI w.heap.size (w.alloc (.map #[] 0)) []:=⟨_,World.ownsMap_made _ _ _ _,MapS.nil⟩
theorem MI.keep {B:Nat} {w w':World} {S:List Nat} (h:MI B w S) (hb:w'.heap[B]? = w.heap[B]?):MI B w' S:=by
 obtain⟨D,h1,h2⟩:=h
 exact⟨D,yg h1 hb,h2⟩
theorem MI.lt {B:Nat} {w:World} {S:List Nat} (h:MI B w S):B<w.heap.size:=by
 obtain⟨D,h1,_⟩:=h
 exact h1.lt
theorem xe {w:World} {ops:Array Oper} {rest:List Oper} {o:Oper} {a:Act} {Q:Exit->Act->World->Prop} (hg:o.guard=none) (m x v:Operand)
 (hop:o.op=.mapUpdate 245 m x v\/o.op=.insert 245 m x v) {B:Nat} {S:List Nat} (hm:a.eval m=.map (some B)) (h:MI B w S) (hn:S.length<maxLen) {r:Nat} (hr:r<zk) (hx:a.eval x=.int .u64 (r:Nat))
 (hK:∀ w',MI B w' (S++[r])->w.grownBy w' (some B)->wpList Tryz.prog ops Q rest (a.put o.dst undef) w'):wpList Tryz.prog ops Q (o::rest) a w:=by
 obtain⟨D,h1,h2⟩:=h
 refine wpList_plain hg fun K' hK'=>?_
 obtain⟨w',hrun,r1,r2⟩:=h1.update vF Tryz.underlying245 hn (Zq hr) (val:=a.eval v) rfl
 unfold Oper.wp
 rcases hop with hop | hop
 ·simp [execOp,hop,hm,hx,hrun,Result.andThen]
  exact hK' _ _ (hK w' ⟨_,by simpa using r1,h2.put r _⟩ r2)
 ·simp [execOp,hop,hm,hx,hrun,Result.andThen]
  exact hK' _ _ (hK w' ⟨_,by simpa using r1,h2.put r _⟩ r2)
def rdG (n0:Nat) (w:World) (b o:Nat) (f:Fg):Prop:=(∃ hv,w.cell? ⟨b,o,none⟩=some hv/\RdR 0 n0 w hv f.items)/\∃ ad n c,w.cell? ⟨b,o+1,none⟩=some (.slice ad n c)
theorem ze3 {D:Nat->Nat->Prop} {w:World} {x:Value} {k:List Fg} (h:Dat D w x (kp k)) (hD:∀ b o,D b o->b<w.heap.size) (hb:RightK k):RdSl 2 (rdG w.heap.size) 0 w.heap.size w x k:=by
 unfold kp at h
 generalize he:k.map fc=es at h
 cases h with
 | sl a cap sz es o b off u hc hz hm ha hsz hd hx=>
   have hl:es.length=k.length:=by rw [<-he];simp
   refine⟨a,cap,by rw [hl],by omega,hm,fun hne=>?_⟩
   have hpos:0<k.length:=List.length_pos_iff.2 hne
   have g:∀ i (h:i<k.length),es[i]? = some (fc k[i]):=fun i h=>by rw [<-he];exact xo h
   obtain rfl:2=sz:=hsz 0 _ (g 0 hpos)
   have hes:es≠[]:=by intro e;subst e;simp at hl;omega
   have hdlt:b<w.heap.size:=hD _ _ (hd 0 (by omega)).1
   refine⟨b,off,ha hes,Nat.zero_le _,hdlt,fun i hi=>?_⟩
   have e0:=hx i _ 0 _ (g i hi) rfl
   have e1:=hx i _ 1 _ (g i hi) rfl
   have c0:=(hd (i * 2+0) (by omega)).2.1
   have c1:=(hd (i * 2+1) (by omega)).2.1
   obtain⟨ad,c,sz',b',off',f',q,_⟩:=(Rel.dat (ρ:=fun _=>0) (nb:=0) (show Dat D w (u (i * 2+1)) (.sl (k[i].vec.map ec) .sh) from e1)).inv_sl
   rw [q] at c1
   exact⟨⟨_,c0,je e0 hD (hb _ (List.getElem_mem hi)).1.lt⟩,_,_,_,c1⟩
theorem RdG.keep {n0:Nat} {w w':World} {v:Value} {k:List Fg} (h:RdSl 2 (rdG n0) 0 n0 w v k) (hb:∀ j,j<n0->w'.heap[j]? = w.heap[j]?):RdSl 2 (rdG n0) 0 n0 w' v k:=
 RdSl.keep h (Nat.le_refl _) (Nat.le_refl _) fun b o x _ h2 ⟨⟨hv,c0,c1⟩,ad,n,c,c2⟩=>
  ⟨⟨hv,(World.cell?_of_block (a:=⟨b,o,none⟩) (hb b h2)).trans c0,c1.keep (Nat.le_refl _) (Nat.le_refl _) fun b _ h=>hb b h⟩,ad,n,c,(World.cell?_of_block (a:=⟨b,o+1,none⟩) (hb b h2)).trans c2⟩
theorem Ky {k:List Fg} {i:Nat} (hi:i<k.length):CI (k.take (i+1))=CI (k.take i)++z6 k[i].items:=by
 unfold CI
 rw [List.take_succ_eq_append_getElem hi,List.flatMap_append]
 simp
theorem zaV {l:List Iv} {j:Nat} (hj:j<l.length):z6 (l.take (j+1))=z6 (l.take j)++jQ l[j]:=by
 unfold z6
 rw [List.take_succ_eq_append_getElem hj,List.flatMap_append]
 simp
theorem ze0 {s:Iv} (h:s.hi=zk - 1):jQ s=[s.lo]:=by unfold jQ;rw [if_neg (by omega)]
theorem zcz {s:Iv} (h:s.hi<zk - 1):jQ s=[s.lo]++[s.hi+1]:=by unfold jQ;rw [if_pos h];rfl
theorem zfO (w:World):Calls Tryz.prog 196 #[.int .u64 18446744073709551615] w fun e w'=>e=.returned (.tuple #[.int .u64 0,.bool false])/\w'=w:=by
 go_enter Tryz.func196,Tryz.ntmps196
 go_wp2
 all_goals (refine bodyPost_ret (results_tmp2 rfl _ _ _) rfl ?_;refine⟨?_,rfl⟩;simp;try omega)
theorem zdr (x:Nat) (hx:x<18446744073709551615) (w:World):Calls Tryz.prog 196 #[.int .u64 (x:Nat)] w fun e w'=>e=.returned (.tuple #[.int .u64 ((x:Int)+1),.bool true])/\w'=w:=by
 go_enter Tryz.func196,Tryz.ntmps196
 go_wp2
 all_goals (refine bodyPost_ret (results_tmp2 rfl _ _ _) rfl ?_;refine⟨?_,rfl⟩;simp;try omega)
theorem zgc (w:World):Calls Tryz.prog 197 #[.int .u64 0] w fun e w'=>e=.returned (.tuple #[.int .u64 0,.bool false])/\w'=w:=by
 go_enter Tryz.func197,Tryz.ntmps197
 go_wp2
 all_goals (refine bodyPost_ret (results_tmp2 rfl _ _ _) rfl ?_;refine⟨?_,rfl⟩;simp;try omega)
theorem VH (x:Nat) (hx:x<18446744073709551615) (w:World):Calls Tryz.prog 197 #[.int .u64 ((x:Int)+1)] w fun e w'=>e=.returned (.tuple #[.int .u64 (x:Nat),.bool true])/\w'=w:=by
 go_enter Tryz.func197,Tryz.ntmps197
 go_wp2
 all_goals (refine bodyPost_ret (results_tmp2 rfl _ _ _) rfl ?_;refine⟨?_,rfl⟩;simp;try omega)
def RgS (B r n:Nat) (S:List Nat) (keep:Nat->Bool) (g:Nat) (left:Lit->Bool) (w:World):Prop:=
 ∃ D,w.ranges Tryz.prog 24 rV B r n D left g/\IsMap D/\(∀ x,has D (kR x)=(decide (x ∈ S) && (left (kR x) || keep x)))/\∀ x,left (kR x)=true->x ∈ S
def GotS (S:List Nat) (left:Lit->Bool) (l:List Nat):Prop:=l.Nodup/\∀ x,x ∈ l ↔ x ∈ S/\left (kR x)=false
theorem zay {left:Lit->Bool} {r x:Nat}:(left (kR r) && !(kR r).sameKey (kR x))=(left (kR r) && !decide (r=x)):=by
 have h:(kR r).sameKey (kR x)=decide (r=x):=by
  simp [kR,Lit.sameKey]
  omega
 rw [h]
section
variable {B r n g x:Nat} {S:List Nat} {kp:Nat->Bool} {left:Lit->Bool} {w:World} {D:DV}
theorem RgS.next (hD:IsMap D) (hh:∀ y,has D (kR y)=(decide (y ∈ S) && (left (kR y) || kp y))) (hl:∀ y,left (kR y)=true->y ∈ S) (hx:left (kR x)=true) (hk:kp x=true)
 (h:w.ranges Tryz.prog 24 rV B r n D (fun z=>left z && !z.sameKey (kR x)) g):RgS B r n S kp g (fun z=>left z && !z.sameKey (kR x)) w:=by
 refine⟨D,h,hD,fun y=>?_,fun y hy=>hl y ?_⟩
 ·dsimp only
  rw [hh y,zay]
  by_cases e:y=x
  ·subst e;simp [hk]
  ·simp [e]
 ·dsimp only at hy
  cases h0:left (kR y) with
  | true=>rfl
  | false=>rw [h0] at hy;simp at hy
theorem RgS.del (hD:IsMap D) (hh:∀ y,has D (kR y)=(decide (y ∈ S) && (left (kR y) || kp y))) (hl:∀ y,left (kR y)=true->y ∈ S) (hk:kp x=false)
 (h:w.ranges Tryz.prog 24 rV B r n (D.del (kR x)) (fun z=>(left z && !z.sameKey (kR x)) && !z.sameKey (kR x)) g):RgS B r n S kp g (fun z=>left z && !z.sameKey (kR x)) w:=by
 rw [Maps.strike_twice] at h
 refine⟨_,h,hD.del _,fun y=>?_,fun y hy=>hl y ?_⟩
 ·dsimp only
  rw [zay]
  by_cases e:y=x
  ·subst e;rw [has_del_same];simp [hk]
  ·rw [has_del_other (fun h=>e (Xa h)),hh y];simp [e]
 ·dsimp only at hy
  cases h0:left (kR y) with
  | true=>rfl
  | false=>rw [h0] at hy;simp at hy
theorem RgS.keep {w':World} (h:RgS B r n S kp g left w) (hb:w'.heap[B]? = w.heap[B]?) (hr:w'.heap[r]? = w.heap[r]?):RgS B r n S kp g left w':=by
 obtain⟨D,h1,h2⟩:=h
 exact⟨D,yD h1 hb hr,h2⟩
theorem GotS.nil (h:∀ y,left (kR y)=true ↔ y ∈ S):GotS S left []:=
 ⟨List.nodup_nil,fun y=>by
  constructor
  ·intro h;cases h
  ·rintro⟨h1,h2⟩
   rw [(h y).2 h1] at h2
   cases h2⟩
theorem GotS.push {l:List Nat} (h:GotS S left l) (hx:left (kR x)=true) (hS:x ∈ S):GotS S (fun z=>left z && !z.sameKey (kR x)) (l++[x]):=by
 refine⟨List.nodup_append.2 ⟨h.1,by simp,fun a ha b hb e=>?_⟩,fun y=>?_⟩
 ·rw [List.mem_singleton] at hb
  rw [e,hb] at ha
  have:=((h.2 x).1 ha).2
  rw [hx] at this
  cases this
 ·dsimp only
  rw [QM,List.mem_append,List.mem_singleton,h.2 y]
  constructor
  ·rintro(⟨h1,h2⟩ | rfl)
   ·exact⟨h1,.inl h2⟩
   ·exact⟨hS,.inr rfl⟩
  ·rintro⟨h1,h2 | h2⟩
   ·exact .inl ⟨h1,h2⟩
   ·exact .inr h2
end
def kpB (k:List Fg) (x:Nat):Bool:=decide (x=0) || !decide (zU k (x - 1)=zU k x)
theorem Yd {k:List Fg} (hr:RightK k) {l:List Nat} (hp:l.Pairwise (·<=·)) (hn:l.Nodup) (hm:∀ x,x ∈ l ↔ x ∈ 0::CI k/\(x=0\/zU k (x - 1)≠zU k x)):l=zq k:=by
 have ha:YN l:=by
  refine(List.pairwise_and_iff.2 ⟨hp,hn⟩).imp ?_
  intro a b h
  have:=h.1
  have:=h.2
  omega
 refine jK ha (xc k) fun x=>?_
 rw [hm,zq,List.mem_filter,zH,qr,yU]
 have e1:(k.map Fg.items).flatMap z6=CI k:=by unfold CI;rw [List.flatMap_map]
 rw [e1]
 simp only [Bool.or_eq_true,decide_eq_true_eq,Bool.not_eq_true']
 refine and_congr_right fun _=>or_congr_right ?_
 rw [ne_eq,Vp,Bool.not_eq_true]
end Go.Proofs.YtonhfknjcbakiaaGreatDoor
namespace Go.Proofs.YtonhfknjcbakiaaGreatDoor
open Go.RowKit
def InvD {α:Type} (D0:Nat->Nat->Prop) (n:Nat) (pv:α->PV) (P:α->Prop) (W:World) (u:Value) (a:α):Prop:=
 P a/\∃ D:Nat->Nat->Prop,GL D W/\(∀ b o,D b o->b<W.heap.size/\b≠n/\b≠n+2/\b≠n+3)/\(∀ b o,D b o->D0 b o\/n<=b)/\(∀ b o,D0 b o->D b o)/\Dat D W u (pv a)
section
variable {α:Type} {D0:Nat->Nat->Prop} {pv:α->PV} {P:α->Prop} {w W A B:World} {u:Value} {a:α}
theorem InvD.start {u0:Value} (h0:Dat D0 w u0 (.sl [] .sh)) (hG:GL D0 w) (hD:∀ b o,D0 b o->b<w.heap.size) (hb:Below w.heap.size w W) (hP:P a) (hp:pv a=.sl [] .sh):InvD D0 w.heap.size pv P W u0 a:=by
 have hw:∀ b o x,D0 b o->w.cell? ⟨b,o,none⟩=some x->W.cell? ⟨b,o,none⟩=some x:=fun b o x hd hx=>(hb.cell (p:=⟨b,o,none⟩) (hD b o hd)).trans hx
 refine⟨hP,D0,hG.mono (fun _ _ h=>h) hw,fun b o h=>?_,fun _ _ h=>.inl h,fun _ _ h=>h,?_⟩
 ·have:=hD b o h
  have:=hb.size
  exact⟨by omega,by omega,by omega,by omega⟩
 ·rw [hp]
  exact h0.mono (fun _ _ h=>h) hw
theorem InvD.shape {n:Nat} (h:InvD D0 n pv P W u a) (hp:∃ es,pv a=.sl es .sh):∃ ad n c,u=.slice ad n c:=by
 obtain⟨_,D,_,_,_,_,hd⟩:=h
 obtain⟨es,e⟩:=hp
 rw [e] at hd
 obtain⟨s,rfl,_⟩:=kH hd
 exact⟨_,_,_,rfl⟩
theorem InvD.keep {n:Nat} (h:InvD D0 n pv P A u a) (hk:Keep (fun k=>k=n\/k=n+2\/k=n+3) A B):InvD D0 n pv P B u a:=by
 obtain⟨hP,D,h1,h2,h3,h4,h5⟩:=h
 have hw:∀ b o x,D b o->A.cell? ⟨b,o,none⟩=some x->B.cell? ⟨b,o,none⟩=some x:=fun b o x hd hx=>
  (World.cell?_of_block (a:=⟨b,o,none⟩) (hk.block b (h2 b o hd).1 (by have:=h2 b o hd;omega))).trans hx
 exact⟨hP,D,h1.mono (fun _ _ h=>h) hw,fun b o hd=>⟨Nat.lt_of_lt_of_le (h2 b o hd).1 hk.size,(h2 b o hd).2⟩,h3,h4,h5.mono (fun _ _ h=>h) hw⟩
theorem zhD {D:Nat->Nat->Prop} {f:Fv} {g:Fg} (h0:Dat D w (sv f.1) (rg g.items)) (h1:Dat D w (sv f.2) (vp g.vec)):Dat D w (.agg #[sv f.1,sv f.2]) (fp g):=by
 refine .agg _ _ rfl (fun i hi=>?_) fun i p hp=>?_
 ·match i,hi with
  | 0,_=>rfl
  | 1,_=>rfl
 ·match i,hp with
  | 0,hp=>cases hp;exact h0
  | 1,hp=>cases hp;exact h1
  | i+2,hp=>simp [fc] at hp
theorem InvD.step {F1:FuncId} {i:Nat} {f:Fv} {g:Fg} {a':α} (h:InvD D0 w.heap.size pv P W u a) (hD:∀ b o,D0 b o->b<w.heap.size) (hb:Below w.heap.size w W) (hs:w.heap.size+4<=W.heap.size) (h0:Dat D0 w (sv f.1) (rg g.items)) (h1:Dat D0 w (sv f.2) (vp g.vec))
 (hc:Cn Tryz.prog F1 [pv a,.v (.int .i64 i),fp g] (pv a')) (hP:P a') :
 Calls Tryz.prog F1 #[u,.int .i64 (i:Nat),.agg #[sv f.1,sv f.2]] W fun e W'=>∃ u',e=.returned u'/\InvD D0 w.heap.size pv P W' u' a'/\Keep (zaB (w.heap.size+4) W) W W':=by
 obtain⟨_,D,g1,g2,g3,g4,g5⟩:=h
 have hw:∀ b o x,D0 b o->w.cell? ⟨b,o,none⟩=some x->W.cell? ⟨b,o,none⟩=some x:=fun b o x hd hx=>(hb.cell (p:=⟨b,o,none⟩) (hD b o hd)).trans hx
 refine(jP hc g1 (fun b o h=>(g2 b o h).1) rfl (fun j p hp=>?_)).mono ?_
 ·match j,hp with
  | 0,hp=>cases hp;exact g5
  | 1,hp=>cases hp;exact .v _
  | 2,hp=>cases hp;exact(zhD h0 h1).mono g4 hw
  | j+3,hp=>simp at hp
 ·rintro e W' ⟨v,rfl,hb',hd⟩
  refine⟨v,rfl,⟨hP,_,g1.mono (fun _ _ h=>.inl h) fun b o x hd hx=>(hb'.cell (p:=⟨b,o,none⟩) (g2 b o hd).1).trans hx,fun b o h=>?_,fun b o h=>?_,fun b o h=>.inl (g4 b o h),hd⟩,Keep.of_below' hb' (Nat.le_refl _)⟩
  ·rcases h with h | h
   ·exact⟨Nat.lt_of_lt_of_le (g2 b o h).1 hb'.size,(g2 b o h).2⟩
   ·exact⟨h.2,by omega,by omega,by omega⟩
  ·rcases h with h | h
   ·exact g3 b o h
   ·exact .inr (by omega)
theorem InvD.done (h:InvD D0 w.heap.size pv P W u a):Dat (fun b o=>D0 b o\/(w.heap.size<=b/\b<W.heap.size)) W u (pv a):=by
 obtain⟨_,D,g1,g2,g3,g4,g5⟩:=h
 exact g5.mono (fun b o h=>(g3 b o h).imp id fun h'=>⟨h',(g2 b o h).1⟩) fun _ _ _ _ h=>h
end
theorem zcx {D:Nat->Nat->Prop} {w:World} {x:Value} {p:PV} (h:Dat D w x (.cp [p] 0)):∃ b o y,x=.pointer (some ⟨b,o,none⟩)/\D b o/\w.cell? ⟨b,o,none⟩=some y/\Dat D w y p:=by
 obtain⟨b,off,f,e,h1,h2⟩:=(Rel.dat (ρ:=fun _=>0) (nb:=0) h).inv_cp
 have:=h1 0 (by simp)
 exact⟨b,off,f 0,e,by simpa using this.1,by simpa using this.2.1,h2 0 p rfl⟩
theorem zbU {D:Nat->Nat->Prop} {w:World} {x:Value} {k:List Fg} {i:Nat} (h:Dat D w x (V8 k i)):∃ bk ok bi oi v,x=.func (.func 110) #[] #[.pointer (some ⟨bk,ok,none⟩),.pointer (some ⟨bi,oi,none⟩)]/\D bk ok/\D bi oi/\w.cell? ⟨bk,ok,none⟩=some v/\w.cell? ⟨bi,oi,none⟩=some (.int .u64 (i:Nat))/\Dat D w v (kp k):=by
 unfold V8 at h
 cases h with
 | fn f va vb fs cs h1 h2 h3 h4=>
   rw [Array.size_eq_zero_iff.1 h1]
   obtain⟨l⟩:=vb
   match l,h2 with
   | [y,z],_=>
     obtain⟨bk,ok,v,e1,d1,c1,q1⟩:=zcx (h4 0 _ rfl)
     obtain⟨bi,oi,u,e2,d2,c2,q2⟩:=zcx (h4 1 _ rfl)
     rw [q2.v_inv] at c2
     simp at e1 e2
     subst e1 e2
     exact⟨bk,ok,bi,oi,v,rfl,d1,d2,c1,c2,q1⟩
theorem zfQ {D:Nat->Nat->Prop} {w:World} {x:Value} (h:Dat D w x (.sl [] .sh)):∃ ad c,x=.slice ad 0 c:=by
 obtain⟨⟨a,n,c⟩,rfl,e⟩:=kH h
 simp only [List.length_nil] at e
 subst e
 exact⟨a,c,rfl⟩
def SzK (k:List Fg):Prop:=k.length<=1152921504606846976/\∀ f ∈ k,f.items.length<=1152921504606846976/\f.vec.length<=1152921504606846976/\∀ e ∈ f.vec,e.holes.length<=1152921504606846976
theorem YM {D:Nat->Nat->Prop} {w:World} {k:List Fg} {i bk ok bi oi:Nat} {a:Option Addr} {cap:Nat} {fs:List Fv} (hr:RightK k) (hz:SzK k) (hG:GL D w) (hD:∀ b o,D b o->b<w.heap.size) (d1:D bk ok) (d2:D bi oi) (c1:w.cell? ⟨bk,ok,none⟩=some (.slice a k.length cap)) (c2:w.cell? ⟨bi,oi,none⟩=some (.int .u64 (i:Nat)))
 (hl:fs.length=k.length) (hrow:zeF w.heap.size w a cap fs) (hfs:∀ j (h:j<fs.length),Dat D w (sv fs[j].1) (rg (k[j]'(hl ▸ h)).items)/\Dat D w (sv fs[j].2) (vp (k[j]'(hl ▸ h)).vec)) {W:World} (hb:Below w.heap.size w W) :
 v7 Tryz.prog 110 #[.pointer (some ⟨bk,ok,none⟩),.pointer (some ⟨bi,oi,none⟩)] Y4 (fun _=>False) (PtF w.heap.size bk bi) (wl (fun j=>mem (k.getD j default).items i) 0 fs) W:=by
 have hw:∀ b o x,D b o->w.cell? ⟨b,o,none⟩=some x->W.cell? ⟨b,o,none⟩=some x:=fun b o x hd hx=>(hb.cell (p:=⟨b,o,none⟩) (hD b o hd)).trans hx
 refine zew fs _ a cap bk ok bi oi w.heap.size i W ?_ (by rw [hl];exact hw _ _ _ d1 c1) (hw _ _ _ d2 c2) hb.size fun w' j hj hlow hsz=>?_
 ·obtain⟨h1,h2,h3⟩:=hrow
  refine⟨h1,h2,fun hne=>?_⟩
  obtain⟨b,off,e1,e2,e3⟩:=h3 hne
  exact⟨b,off,e1,e2,fun j hj=>⟨(hb.cell (p:=⟨b,off+j * 2,none⟩) e2).trans (e3 j hj).1,(hb.cell (p:=⟨b,off+j * 2+1,none⟩) e2).trans (e3 j hj).2⟩⟩
 ·have hw':∀ b o x,D b o->w.cell? ⟨b,o,none⟩=some x->w'.cell? ⟨b,o,none⟩=some x:=fun b o x hd hx=>(World.cell?_of_block (a:=⟨b,o,none⟩) (hlow b (hD b o hd))).trans (hw b o x hd hx)
  have hj':j<k.length:=hl ▸ hj
  have hm:=List.getElem_mem hj'
  have e:k.getD j default=k[j]:=by rw [List.getD_eq_getElem?_getD,List.getElem?_eq_getElem hj'];rfl
  simp only [e]
  refine(jP (ziQ k[j].items i (hr _ hm).1 (hz.2 _ hm).1) (hG.mono (fun _ _ h=>h) hw') (fun b o h=>Nat.lt_of_lt_of_le (hD b o h) hsz) rfl (fun t p hp=>?_)).mono ?_
  ·match t,hp with
   | 0,hp=>cases hp;exact(hfs j hj).1.mono (fun _ _ h=>h) hw'
   | 1,hp=>cases hp;exact .v _
   | t+2,hp=>simp at hp
  ·rintro e W' ⟨v,rfl,hb',hd⟩
   rw [hd.v_inv]
   exact⟨rfl,hb'⟩
theorem znA {e:En} (h:YP e):∃ s l,kn e=s::l:=by
 have hm:mem (kn e) e.max=true:=by rw [vC h.1 h.1.2.2.1,zeO h];simp
 cases hk:kn e with
 | nil=>rw [hk] at hm;cases hm
 | cons s l=>exact⟨s,l,rfl⟩
theorem zje {C:Nat->List Nat} {R:List Nat} {k:List Fg} (hk:IK C R k) (hr:RightK k) {j:Nat} (hj:j<(zu k).length) (h0:∀ i (h:i<(zu k).length),i<j->qc k (zu k)[i].lo=[]) {e:En} {v:List En} (hv:qc k (zu k)[j].lo=e::v) {s:Iv} {l:List Iv} (hs:kn e=s::l) :
 kY k=some ((zu k)[j].lo,e.rep,s.lo):=by
 have hp:=yt hr
 obtain⟨p1,p2,p3,_⟩:=hp.1 _ (List.getElem_mem hj)
 have hat:∀ x,WV C R (qc k x)/\∀ r c,c<zk->mem (zT (qc k x) r) c=hasK k x r c:=fun x=>hk.at x
 have hw:=(hat (zu k)[j].lo).1
 rw [hv] at hw
 have hce:YP e:=hw.can.1 e (by simp)
 have hn:=qT hce.1
 rw [hs] at hn
 have hl:=zgj hn
 have hkv:zT (e::v) e.rep=kn e:=by rw [qm,if_pos rfl]
 have hleast:IsLeast k ((zu k)[j].lo,e.rep,s.lo):=by
  refine⟨show (zu k)[j].lo<zk by omega,hl.1,?_,fun i r c hi hc hh=>?_⟩
  ·show hasK k (zu k)[j].lo e.rep s.lo=true
   rw [<-(hat _).2 _ _ hl.1,hv,hkv,hs]
   exact hl.2.1
  ·have hm:0<(zU k i).length:=by
    cases hm:zU k i with
    | nil=>rw [zc0 r c hm] at hh;cases hh
    | cons a b=>simp
   obtain⟨t,ht,h1,h2⟩:=Xj hr hi hm
   obtain⟨q1,q2,q3,_⟩:=hp.1 t ht
   have hsame:=jR hr q3 h1 h2
   rw [<-Yt hsame,<-(hat _).2 _ _ hc] at hh
   obtain⟨j',hj',rfl⟩:=List.mem_iff_getElem.1 ht
   rcases Nat.lt_trichotomy j' j with hlt | rfl | hgt
   ·rw [h0 j' hj' hlt] at hh;cases hh
   ·rw [hv] at hh
    show (zu k)[j'].lo<i\/((zu k)[j'].lo=i/\(e.rep<r\/(e.rep=r/\s.lo<=c)))
    by_cases her:e.rep=r
    ·rw [qm,if_pos her,hs] at hh
     have:=hl.2.2 c hh
     omega
    ·have hlt:e.rep<r:=by
      rw [qm,if_neg her] at hh
      by_cases hnone:∀ f ∈ v,f.rep≠r
      ·rw [qC hnone] at hh;cases hh
      ·simp only [Classical.not_forall,Classical.not_not] at hnone
       obtain⟨f,hf,rfl⟩:=hnone
       exact(List.pairwise_cons.1 hw.can.2).1 f hf
     omega
   ·have:=List.pairwise_iff_getElem.1 hp.2 j j' hj hj' hgt
    show (zu k)[j].lo<i\/_
    exact .inl (by omega)
 rcases zgH hr with⟨e1,e2⟩ | ⟨t,e1,e2⟩
 ·have:=hleast.has
  rw [e2] at this;cases this
 ·rw [e1,e2.eq hleast]
theorem zjd {C:Nat->List Nat} {R:List Nat} {k:List Fg} (hk:IK C R k) (hr:RightK k) (h0:∀ i (h:i<(zu k).length),qc k (zu k)[i].lo=[]):kY k=none:=by
 rcases zgH hr with⟨e1,_⟩ | ⟨t,e1,e2⟩
 ·exact e1
 ·exfalso
  have hh:=e2.has
  have hm:0<(zU k t.1).length:=by
   cases hm:zU k t.1 with
   | nil=>rw [zc0 _ _ hm] at hh;cases hh
   | cons a b=>simp
  obtain⟨s,hs,h1,h2⟩:=Xj hr e2.b1 hm
  obtain⟨q1,q2,q3,_⟩:=(yt hr).1 s hs
  obtain⟨j',hj',rfl⟩:=List.mem_iff_getElem.1 hs
  rw [<-Yt (jR hr q3 h1 h2),<-(hk.at _).2 _ _ e2.b2,h0 j' hj'] at hh
  cases hh
def is (l:List Nat):PV:=.sl (l.map fun x=>[.v (.int .i64 (x:Nat))]) .sh
attribute [go_sem] is
theorem zfl {k:List Fg} {j:Nat} (h:j<k.length):k.getD j default=k[j]:=by rw [List.getD_eq_getElem?_getD,List.getElem?_eq_getElem h];rfl
theorem zf9 {α:Type} {pre xs:List α} {p:α} (h:pre++[p] <+: xs):p ∈ xs:=h.subset (by simp)
theorem zfk {C:Nat->List Nat} {R:List Nat} (k:List Fg) (i:Nat) (hk:IK C R k) (ok:OkC C R) (hr:RightK k) (hs:∀ f ∈ k,SmV f.vec) (hz:SzK k) :
 Cn Tryz.prog 62 [V8 k i,.sl [] .sh,.fn (.func 64) [] []] (vp (qc k i)):=by
 refine yZ rfl (enters_of Tryz.func62 (by kernel_rfl) rfl) fun D w vs hG hD hsz hd=>?_
 obtain⟨bk,ok',bi,oi,v,e0,d1,d2,c1,c2,hkv⟩:=zbU (hd 0 _ rfl)
 obtain⟨a,cap,fs,rfl,hl,hrow,hfs⟩:=kX hkv hD
 have hn0:=hd 1 _ rfl
 obtain⟨ad0,c0',e1⟩:=zfQ hn0
 rw [e1] at hn0
 rw [zjx hsz,e0,e1,zcA (hd 2 _ rfl)]
 refine(X8 110 _ bk bi _ w ad0 c0' (enters_of Tryz.func110 (by kernel_rfl) rfl) (fun W hb=>YM hr hz hG hD d1 d2 c1 c2 hl hrow hfs hb) (hD _ _ d1) (hD _ _ d2)
  (InvD D w.heap.size vp (WV C R)) (fun o p=>ks zn o (k.getD p.1 default).vec) [] (fun W hb=>InvD.start hn0 hG hD hb WV.nil rfl) (fun W u a h=>h.shape ⟨_,rfl⟩) (fun A B u a h hk=>h.keep hk) fun W u pre p hpre hs4 hb h=>?_).mono ?_
 ·obtain⟨hp1,_,hp3,_⟩:=zez (zf9 hpre)
  have hj:p.1<fs.length:=by simpa using hp1
  have hj':p.1<k.length:=hl ▸ hj
  have hm:=List.getElem_mem hj'
  have q:=hfs p.1 hj
  have e:p.2=fs[p.1]:=by rw [hp3];simp
  rw [zfl hj',e]
  exact h.step hD hb hs4 q.1 q.2 (zjy _ p.1 k[p.1] (h.1.smv ok) (hs _ hm)) (h.1.iv.lat fU0 (hk _ hm))
 ·rintro e w' ⟨u,rfl,hI,hb⟩
  have h:=hI.done
  rw [Yp hl i (fun o _ f=>ks zn o f.vec) []] at h
  exact⟨u,rfl,hb,h⟩
theorem zdx {D:Nat->Nat->Prop} {base:Nat} {w:World} {v:Value} {l:List Nat} (h:OwnI base w v l) (hD:∀ b o,base<=b->b<w.heap.size->D b o):Dat D w v (is l):=by
 unfold is
 have hlen:(l.map fun x=>[PV.v (.int .i64 (x:Nat))]).length=l.length:=by simp
 rcases id h.2 with⟨rfl,h0⟩ | ⟨g,cap,cur,rfl,hg,hh,hn,hc,_⟩
 ·obtain rfl:l=[]:=List.length_eq_zero_iff.1 h0
  exact .sl none 0 1 [] .sh 0 0 (fun _=>undef) (by simp) (fun h=>by cases h) (by unfold maxLen;omega) (fun h=>absurd rfl h) (fun i e h=>by simp at h) (fun j h=>by simp at h) (fun i e j p h=>by simp at h)
 ·rw [<-hlen]
  refine .sl _ cap 1 _ .sh g 0 (fun j=>.int .i64 (l.getD j 0:Nat)) (by simpa using hn) (fun h=>by cases h) hc (fun _=>rfl) (fun i e h=>?_) (fun j hj=>?_) (fun i e j p he hp=>?_)
  ·simp only [List.getElem?_map,Option.map_eq_some_iff] at h
   obtain⟨s,_,rfl⟩:=h
   rfl
  ·simp only [List.length_map,Nat.mul_one] at hj
   refine⟨hD _ _ hg (Array.getElem?_eq_some_iff.1 hh).1,?_,rfl⟩
   rw [Nat.zero_add,h.cellAt _ (by simpa using hj)]
   simp [hj]
  ·have hi:i<l.length:=by have:=(List.getElem?_eq_some_iff.1 he).1;simpa using this
   rw [List.getElem?_map,List.getElem?_eq_getElem hi] at he
   cases he
   match j,hp with
   | 0,hp=>cases hp;simp [hi];exact .v _
   | j+1,hp=>simp at hp
theorem zbj (l:List (Nat × Fv)):∀ a:List Nat,l.foldl (fun o p=>o++[p.1]) a=a++l.map Prod.fst:=by
 induction l with
 | nil=>intro a;simp
 | cons p l ih=>intro a;rw [List.foldl_cons,ih];simp
theorem JV (l:List (Nat × Fg)):∀ a:List Nat,l.foldl (fun o p=>o++[p.1]) a=a++l.map Prod.fst:=by
 induction l with
 | nil=>intro a;simp
 | cons p l ih=>intro a;rw [List.foldl_cons,ih];simp
theorem zey (hit:Nat->Bool):∀(n:Nat) (l:List Fv),(wl hit n l).length<=l.length
 | _,[]=>Nat.le_refl _
 | n,f::l=>by
   have:=zey hit (n+1) l
   unfold wl
   split<;>simp<;>omega
theorem K9 (k:List Fg) (i:Nat) (hr:RightK k) (hz:SzK k) (hkl:k.length<=1073741824):Cn Tryz.prog 57 [kp k,.v (.int .u64 i)] (is (zU k i)):=by
 refine yZ rfl (enters_of Tryz.func57 (by kernel_rfl) rfl) fun D w vs hG hD hsz hd=>?_
 obtain⟨a,cap,fs,e0,hl,hrow,hfs⟩:=kX (hd 0 _ rfl) hD
 rw [zeJ hsz,e0,(hd 1 _ rfl).v_inv]
 obtain⟨w1,hw1⟩:∃ w1,(w.alloc (.cells #[.slice a k.length cap] 23)).alloc (.cells #[.int .u64 (i:Nat)] 24)=w1:=⟨_,rfl⟩
 have hs1:w1.heap.size=w.heap.size+2:=by rw [<-hw1];simp
 have b1:Below w.heap.size w w1:=by rw [<-hw1];exact((Below.refl _ _).alloc (Nat.le_refl _) _).alloc (by simp) _
 have x1:Boxed w1 w.heap.size 23 (.slice a k.length cap):=by rw [<-hw1];exact(Boxed.new w _ _).alloc _
 have x2:Boxed w1 (w.heap.size+1) 24 (.int .u64 (i:Nat)):=by rw [<-hw1];have:=Boxed.new (w.alloc (.cells #[.slice a k.length cap] 23)) 24 (.int .u64 (i:Nat));rw [World.size_alloc] at this;exact this
 have hwc:∀ b o x,D b o->w.cell? ⟨b,o,none⟩=some x->w1.cell? ⟨b,o,none⟩=some x:=fun b o x hd hx=>(b1.cell (p:=⟨b,o,none⟩) (hD b o hd)).trans hx
 obtain⟨E,hE⟩:∃ E:Nat->Nat->Prop,E=fun b o=>D b o\/(w.heap.size<=b/\b<w1.heap.size):=⟨_,rfl⟩
 have hEb:∀ b o,E b o->b<w1.heap.size:=fun b o h=>by rw [hE] at h;exact h.elim (fun h=>by have:=hD b o h;omega) And.right
 have hfold:Calls Tryz.prog 106 #[.func (.func 110) #[] #[.pointer (some ⟨w.heap.size,0,none⟩),.pointer (some ⟨w.heap.size+1,0,none⟩)],.slice none 0 0,.func (.func 107) #[] #[]] w1 fun e w'=>∃ u,e=.returned u/\OwnI (w1.heap.size+4) w' u (zU k i)/\Below w1.heap.size w1 w':=by
  refine(X7 110 _ w.heap.size (w.heap.size+1) _ w1 none 0 (enters_of Tryz.func110 (by kernel_rfl) rfl) (fun W hb=>YM (D:=E) (a:=a) (cap:=cap) (fs:=fs) hr hz (hG.mono (fun b o h=>by rw [hE];exact .inl h) hwc) hEb (by rw [hE];exact .inr (by omega)) (by rw [hE];exact .inr (by omega)) x1.cell x2.cell hl ?_ (fun j hj=>⟨(hfs j hj).1.mono (fun b o h=>by rw [hE];exact .inl h) hwc,(hfs j hj).2.mono (fun b o h=>by rw [hE];exact .inl h) hwc⟩) hb) (by omega) (by omega)
   (fun W u l=>OwnI (w1.heap.size+4) W u l) (fun o p=>o++[p.1]) [] (fun W _=>OwnI.nil _ _) (fun W u a h=>h.shape) (fun A B u a h hk=>h.keep hk fun g hg _=>by omega) fun W u pre p hpre hs4 hb h=>?_).mono ?_
  ·obtain⟨h1,h2,h3⟩:=hrow
   refine⟨h1,h2,fun hne=>?_⟩
   obtain⟨b,off,e1,e2,e3⟩:=h3 hne
   exact⟨b,off,e1,by omega,fun j hj=>⟨(b1.cell (p:=⟨b,off+j * 2,none⟩) e2).trans (e3 j hj).1,(b1.cell (p:=⟨b,off+j * 2+1,none⟩) e2).trans (e3 j hj).2⟩⟩
  ·have hpl:pre.length<=k.length:=by
    have h1:=hpre.length_le
    have h2:=zey (fun j=>mem (k.getD j default).items i) 0 fs
    simp only [List.length_append,List.length_cons,List.length_nil] at h1
    omega
   refine JY (w1.heap.size+4) W u _ p.1 _ _ h (by omega) ?_
   rw [zbj]
   simp
   omega
  ·rintro e w' ⟨u,rfl,hI,hb⟩
   rw [Yp hl i (fun o j _=>o++[j]) [],JV,List.nil_append] at hI
   exact⟨u,rfl,hI,hb⟩
 have HF:=Lib.hid hfold
 have HB:=Lib.hid b1
 clear hfold b1 x1 x2 hwc hE hEb hrow hfs hd hG hD
 go_enter Tryz.func57,Tryz.ntmps57
 go_wp2_with (first
  | (go_at_call 63;refine(zex _ _ _ _ _).mono ?_;rintro e w' ⟨rfl,rfl⟩;rw [hw1])
  | (go_at_call 106;refine HF.out.mono ?_;rintro e w2 ⟨u,rfl,ho,hb2⟩;obtain⟨au,nu,cu,rfl⟩:=ho.shape))
 go_ret
 exact⟨_,rfl,HB.out.trans (hb2.mono (by omega)),zdx ho fun b o h1 h2=>.inr (by omega)⟩
theorem zgU {C:Nat->List Nat} {R:List Nat} (k:List Fg) (i:Nat) (hk:IK C R k) (ok:OkC C R) (hr:RightK k) (hs:∀ f ∈ k,SmV f.vec) (hz:SzK k):Cn Tryz.prog 18 [kp k,.v (.int .u64 i)] (vp (qc k i)):=by
 refine zt Tryz.func18 2 ?_
 refine pw ?_
 refine .c (zfB k i) ?_
 exact .d (zfk k i hk ok hr hs hz)
theorem zc8 (k:List Fg) (hb:BdK k):Cn Tryz.prog 13 [kp k] (.v (.bool (vx k))):=by
 have hl:=hb.2
 refine zt Tryz.func13 1 ?_
 refine pw ?_
 refine pLoop.go (fun j=>j<=k.length/\vx k=((k.drop j).all (fun f=>decide (f.items.length<=20) && JF f.vec) && decide (k.length<=12))) (fun j=>[(3,.v (.int .i64 (j:Nat)))]) (fun _=>[]) (fun j=>k.length - j) 0 [3] ?_ ?_ ?_
 ·exact⟨Nat.zero_le _,rfl⟩
 ·exact pd
 ·rintro j ⟨hj,hm⟩
  refine pw ?_
  refine .i ?_ ?_<;>intro h<;>(try simp only [nrm_l] at h)<;>first | refine pw ?_ | exact pd
  ·rw [List.drop_eq_getElem_cons h,List.all_cons] at hm
   have hbj:=hb.1 _ (List.getElem_mem h)
   have hbi:=hbj.2.2.1
   refine pw ?_
   refine .i ?_ ?_<;>intro h2<;>(try simp only [nrm_l] at h2)<;>first | refine pw ?_ | exact pd
   ·rw [hm,decide_eq_false (by omega)]
    rfl
   ·rw [decide_eq_true (by omega),Bool.true_and] at hm
    refine .c (zj5 k[j].vec hbj.2.2.2) ?_
    refine .i ?_ ?_<;>intro h3<;>(try simp only [nrm_l] at h3)<;>first | refine pw ?_ | exact pd
    ·rw [hm,h3]
     rfl
    ·rw [h3,Bool.true_and] at hm
     exact⟨j+1,⟨h,hm⟩,by omega,rfl⟩
  ·rw [hm,List.drop_of_length_le (by omega)]
   simp
   omega
theorem znL (k:List Fg) (hb:BdK k) (hh:HlK k):Cn Tryz.prog 36 [kp k] (.tup [.v (.int .i64 (ckK k).1),.v (.int .i64 (ckK k).2)]):=by
 have hl:=hb.2
 refine zt Tryz.func36 1 ?_
 refine pw ?_
 refine pLoop.go (fun j=>j<=k.length/\ckK k=hkK j (k.drop j)) (fun j=>[(4,.v (.int .i64 (j:Nat)))]) (fun _=>[]) (fun j=>k.length - j) 0 [4] ?_ ?_ ?_
 ·exact⟨Nat.zero_le _,rfl⟩
 ·exact pd
 ·rintro j ⟨hj,hm⟩
  refine pw ?_
  refine .i ?_ ?_<;>intro h<;>(try simp only [nrm_l] at h)<;>first | refine pw ?_ | exact pd
  ·rw [List.drop_eq_getElem_cons h,hkK] at hm
   have hbj:=hb.1 _ (List.getElem_mem h)
   have hhj:=hh _ (List.getElem_mem h)
   refine pw ?_
   refine .c (XO k[j].items hbj.2.2.1 hbj.1) ?_
   refine .i ?_ ?_<;>intro h2<;>(try simp only [nrm_l] at h2)<;>first | refine pw ?_ | exact pd
   ·rw [if_neg (by omega)] at hm
    refine .c (Kb k[j].vec hbj.2.1 hbj.2.2.2 hhj) ?_
    refine .i ?_ ?_<;>intro h3<;>(try simp only [nrm_l] at h3)<;>first | refine pw ?_ | exact pd
    ·rw [if_pos (by omega)] at hm
     rw [hm]
    ·rw [if_neg (by omega)] at hm
     exact⟨j+1,⟨h,hm⟩,by omega,rfl⟩
   ·rw [if_pos (by omega)] at hm
    refine .i ?_ ?_<;>intro h3<;>(try simp only [nrm_l] at h3)<;>first | refine pw ?_ | exact pd
    ·rw [hm]
    ·exact absurd h3 (by omega)
  ·rw [hm,List.drop_of_length_le (by omega)]
   rfl
theorem SzK.hl {k:List Fg} (hz:SzK k):HlK k:=fun f hf e he=>Nat.le_trans ((hz.2 f hf).2.2 e he) (by omega)
theorem VS (k:List Fg) (hb:BdK k) (hz:SzK k):Cn Tryz.prog 36 [kp k] (.tup [.v (.int .i64 (ckK k).1),.v (.int .i64 (ckK k).2)]):=znL k hb hz.hl
theorem Vm (k:List Fg) (hb:BdK k) (hz:SzK k):Cn Tryz.prog 17 [kp k] (.v (.bool (decide ((ckK k).1=0)))):=by
 refine zt Tryz.func17 1 ?_
 refine pw ?_
 exact .d (VS k hb hz)
theorem zid (k:List Fg) (i r c:Nat) (hr:RightK k) (hc:c<zk) (hz:SzK k):Cn Tryz.prog 33 [kp k,.v (.int .u64 i),.v (.int .u64 r),.v (.int .u64 c)] (.v (.bool (hasK k i r c))):=by
 have hl:=hz.1
 refine zt Tryz.func33 4 ?_
 refine pw ?_
 refine pLoop.go (fun j=>j<=k.length/\hasK k i r c=hasK (k.drop j) i r c) (fun j=>[(9,.v (.int .i64 (j:Nat)))]) (fun _=>[]) (fun j=>k.length - j) 0 [9] ?_ ?_ ?_
 ·exact⟨Nat.zero_le _,rfl⟩
 ·exact pd
 ·rintro j ⟨hj,hm⟩
  refine pw ?_
  refine .i ?_ ?_<;>intro h<;>(try simp only [nrm_l] at h)<;>first | refine pw ?_ | exact pd
  ·rw [List.drop_eq_getElem_cons h] at hm
   have hm':hasK k i r c=((mem k[j].items i && mem (zT k[j].vec r) c) || hasK (k.drop (j+1)) i r c):=hm
   have hzj:=hz.2 _ (List.getElem_mem h)
   have hrj:=hr _ (List.getElem_mem h)
   refine pw ?_
   refine .c (kU k[j].items i hzj.1) ?_
   refine .i ?_ ?_<;>intro h2<;>(try simp only [nrm_l] at h2)<;>first | refine pw ?_ | exact pd
   ·refine .c (zl8 k[j].vec r c hrj.2 hc hzj.2.1 hzj.2.2) ?_
    rw [h2,Bool.true_and] at hm'
    refine .i ?_ ?_<;>intro h3<;>(try simp only [nrm_l] at h3)<;>first | refine pw ?_ | exact pd
    ·rw [hm',h3]
     rfl
    ·rw [h3,Bool.false_or] at hm'
     exact⟨j+1,⟨h,hm'⟩,by omega,rfl⟩
   ·rw [h2,Bool.false_and,Bool.false_or] at hm'
    exact⟨j+1,⟨h,hm'⟩,by omega,rfl⟩
  ·rw [hm,List.drop_of_length_le (by omega)]
   rfl
theorem VR {C:Nat->List Nat} {R:List Nat} (k:List Fg) (i:Nat) (hk:IK C R k) (ok:OkC C R) (hr:RightK k) (hs:∀ f ∈ k,SmV f.vec) (hz:SzK k):Cn Tryz.prog 88 [kp k,.v (.int .u64 i)] (vp (qc k i)):=by
 have hl:=hz.1
 refine zt Tryz.func88 2 ?_
 refine pw ?_
 refine pLoop.go (fun j=>j<=k.length) (fun j=>[(5,vp (qc (k.take j) i)),(6,.v (.int .i64 (j:Nat)))]) (fun _=>[]) (fun j=>k.length - j) 0 [5,6] ?_ ?_ ?_
 ·exact Nat.zero_le _
 ·simp only [List.take_zero,zbT]
  exact pd
 ·rintro j hj
  refine pw ?_
  refine .i ?_ ?_<;>intro h<;>(try simp only [nrm_l] at h)<;>first | refine pw ?_ | exact pd
  ·have hst:=Ku i h
   have hzj:=hz.2 _ (List.getElem_mem h)
   have hsm:=((hk.take j).at i).1.smv ok
   refine pw ?_
   refine .c (kU k[j].items i hzj.1) ?_
   refine .i ?_ ?_<;>intro h2<;>(try simp only [nrm_l] at h2)<;>first | refine pw ?_ | exact pd
   ·rw [if_pos h2] at hst
    refine .c (zcC (qc (k.take j) i) k[j].vec 0 (by omega) hsm (hs _ (List.getElem_mem h))) ?_
    rw [znf]
    exact⟨j+1,h,by omega,by rw [hst],rfl⟩
   ·rw [if_neg (by rw [h2];simp)] at hst
    exact⟨j+1,h,by omega,by rw [hst],rfl⟩
  ·rw [show k.take j=k from List.take_of_length_le (by omega)]
theorem Kd (k:List Fg) (i:Nat) (hz:SzK k) (hkl:k.length<=1073741824):Cn Tryz.prog 131 [kp k,.v (.int .u64 i)] (is (zU k i)):=by
 have hl:=hz.1
 refine zt Tryz.func131 2 ?_
 refine pw ?_
 refine pLoop.go (fun j=>j<=k.length) (fun j=>[(5,.sl ((zU (k.take j) i).map fun x=>[.v (.int .i64 (x:Nat))]) (.r 23 1)),(6,.v (.int .i64 (j:Nat)))]) (fun _=>[]) (fun j=>k.length - j) 0 [5,6,23] ?_ ?_ ?_
 ·exact Nat.zero_le _
 ·simp only [List.take_zero,zU,qd,List.map_nil]
  exact pd
 ·rintro j hj
  have hml:=zbk (k.take j) i
  have hml2:(zU (k.take j) i).length<=j:=by simp at hml;omega
  refine pw ?_
  refine .i ?_ ?_<;>intro h<;>(try simp only [nrm_l] at h)<;>first | refine pw ?_ | exact pd
  ·have hst:=JX i h
   have hzj:=hz.2 _ (List.getElem_mem h)
   refine pw ?_
   refine .c (kU k[j].items i hzj.1) ?_
   refine .i ?_ ?_<;>intro h2<;>(try simp only [nrm_l] at h2)<;>first | refine pw ?_ | exact pd
   ·rw [if_pos h2] at hst
    refine⟨j+1,h,by omega,?_,rfl⟩
    rw [hst]
    simp
   ·rw [if_neg (by rw [h2];simp),List.append_nil] at hst
    exact⟨j+1,h,by omega,by rw [hst],rfl⟩
  ·rw [show k.take j=k from List.take_of_length_le (by omega)]
theorem Vh (k:List Fg) (hb:BdK k) (hz:SzK k):Cn Tryz.prog 54 [kp k] (jS (ckK k).1 (ckK k).2):=by
 have hl:=hz.1
 refine zt Tryz.func54 1 ?_
 refine pw ?_
 refine pLoop.go (fun j=>j<=k.length/\ckK k=hkK j (k.drop j)) (fun j=>[(9,.v (.int .i64 (j:Nat)))]) (fun _=>[]) (fun j=>k.length - j) 0 [9] ?_ ?_ ?_
 ·exact⟨Nat.zero_le _,rfl⟩
 ·exact pd
 ·rintro j ⟨hj,hm⟩
  refine pw ?_
  refine .i ?_ ?_<;>intro h<;>(try simp only [nrm_l] at h)<;>first | refine pw ?_ | exact pd
  ·rw [List.drop_eq_getElem_cons h,hkK] at hm
   have hbj:=hb.1 _ (List.getElem_mem h)
   have hzj:=hz.2 _ (List.getElem_mem h)
   have hco1:=Ju (Zl k[j].items).1 (Zl k[j].items).2
   have hco2:=Ju (jx k[j].vec).1 (jx k[j].vec).2
   refine pw ?_
   refine .rd (VO k[j].items hbj.1 hzj.1 (.inr (KL 2))) rfl ?_
   by_cases h1:(Zl k[j].items).1=0
   ·rw [yk h1]
    rw [if_neg (by omega)] at hm
    refine pw ?_
    refine .rd (zes k[j].vec hbj.2.1 hzj.2.1 hzj.2.2) rfl ?_
    by_cases h2:(jx k[j].vec).1=0
    ·rw [yk h2]
     rw [if_neg (by omega)] at hm
     refine pw ?_
     exact⟨j+1,⟨h,hm⟩,by omega,rfl⟩
    ·rw [if_pos h2] at hm
     rw [hm]
     rw [vu h2] at hco2 ⊢
     refine pw ?_
     (first | refine .c (hco2) ?_ | refine .o (hco2) ?_)
     refine .c (jT (jx k[j].vec).1 j) ?_
     exact ym _ _
   ·rw [if_pos h1] at hm
    rw [hm]
    rw [vu h1] at hco1 ⊢
    refine pw ?_
    (first | refine .c (hco1) ?_ | refine .o (hco1) ?_)
    refine .c (jT (Zl k[j].items).1 j) ?_
    exact ym _ _
  ·rw [hm,List.drop_of_length_le (by omega)]
   exact .eq _ rfl
theorem zjX (a b:List Nat) (ha:a.length<=1152921504606846976):Cn Tryz.prog 56 [is a,is b] (.v (.bool (decide (a=b)))):=by
 refine zt Tryz.func56 2 ?_
 refine pw ?_
 refine .i ?_ ?_<;>intro h0<;>(try simp only [nrm_l] at h0)<;>first | refine pw ?_ | exact pd
 ·symm
  rw [decide_eq_false_iff_not]
  rintro rfl
  exact h0 rfl
 ·have h0':a.length=b.length:=by simpa using h0
  clear h0
  refine pLoop.go (fun k=>k<=a.length/\(a=b ↔ a.drop k=b.drop k)) (fun k=>[(13,.v (.int .i64 (k:Nat)))]) (fun _=>[]) (fun k=>a.length - k) 0 [13] ?_ ?_ ?_
  ·exact⟨Nat.zero_le _,Iff.rfl⟩
  ·exact pd
  ·rintro k ⟨hk,hm⟩
   refine pw ?_
   refine .i ?_ ?_<;>intro h<;>(try simp only [nrm_l] at h)<;>first | refine pw ?_ | exact pd
   ·have hk':k<b.length:=by omega
    rw [List.drop_eq_getElem_cons h,List.drop_eq_getElem_cons hk',List.cons.injEq] at hm
    refine pw ?_
    refine .i ?_ ?_<;>intro e<;>(try simp only [nrm_l] at e)<;>first | refine pw ?_ | exact pd
    ·symm
     rw [decide_eq_false_iff_not]
     intro he
     exact absurd (hm.1 he).1 (by omega)
    ·refine⟨k+1,⟨h,?_⟩,by omega,rfl⟩
     rw [hm]
     have e:a[k]=b[k]:=by omega
     exact⟨fun h=>h.2,fun h=>⟨e,h⟩⟩
   ·rw [eq_comm,decide_eq_true_eq,hm,List.drop_of_length_le (by omega),List.drop_of_length_le (by omega)]
end Go.Proofs.YtonhfknjcbakiaaGreatDoor
