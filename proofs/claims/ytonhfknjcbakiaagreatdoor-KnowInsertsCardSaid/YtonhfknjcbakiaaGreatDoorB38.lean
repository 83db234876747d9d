import Derived.Test.YtonhfknjcbakiaaGreatDoorB37
set_option linter.unusedVariables false
set_option linter.unusedSimpArgs false
namespace Go.Proofs.YtonhfknjcbakiaaGreatDoor
open Go.RowKit
def ZH (v w:List En):Prop:=zZ (zv v) (zv w)<0
theorem ltV_irr (v:List En):¬ ZH v v:=by unfold ZH;rw [(jc _ _).2 rfl];decide
theorem k8 {a b c:List En} (j:ZH a b) (u:ZH b c):ZH a c:=by
 unfold ZH at *
 have w:=ZW _ _ _ (Int.le_of_lt j) (Int.le_of_lt u)
 rcases Int.lt_or_eq_of_le w with h | h
 ·exact h
 ·have e:=Vv ((jc _ _).1 h)
  subst e
  have:=ZV (zv a) (zv b)
  omega
theorem zfI {a b:List En} (j:¬ ZH a b) (u:zZ (zv a) (zv b)≠0):ZH b a:=by
 unfold ZH at *
 have:=ZV (zv a) (zv b)
 omega
theorem YU {a b:List En} (h:zZ (zv a) (zv b)=0):a=b:=Vv ((jc _ _).1 h)
def qN:List Fg->Fg->List Fg
 | [],f=>[f]
 | g::r,f=>if zZ (zv g.vec) (zv f.vec)<0 then g::qN r f else if zZ (zv g.vec) (zv f.vec)=0 then ⟨qy zn g.items f.items,f.vec⟩::r else f::g::r
def yo (o:List Fg) (f:Fg):List Fg:=if zi f.vec=[]\/f.items=[] then o else qN o ⟨f.items,zi f.vec⟩
def zL (k:List Fg):List Fg:=k.foldl yo []
def OkG (f:Fg):Prop:=CanV f.vec/\f.vec≠[]/\Nrm f.items/\f.items≠[]
structure GrpI (k:List Fg):Prop where
 ok:∀ f ∈ k,OkG f
 srt:k.Pairwise fun f g=>ZH f.vec g.vec
theorem GrpI.nil:GrpI []:=⟨fun f h=>(by cases h),List.Pairwise.nil⟩
theorem GrpI.tail {f:Fg} {k:List Fg} (h:GrpI (f::k)):GrpI k:=⟨fun g a=>h.ok g (by simp [a]),(List.pairwise_cons.1 h.srt).2⟩
theorem GrpI.right {k:List Fg} (h:GrpI k):RightK k:=fun f a=>⟨(h.ok f a).2.2.1,(h.ok f a).1.right⟩
theorem JZ {l:List Iv} (h:Nrm l) (a:l≠[]):∃ x,x<M64/\mem l x=true:=by
 cases l with
 | nil=>exact absurd rfl a
 | cons s l=>
   have:=NF.lo_ge h s (by simp)
   exact⟨s.lo,by omega,qf.2 ⟨s,by simp,Nat.le_refl _,this.2.1⟩⟩
theorem zig {l:List Iv} {x:Nat} (h:mem l x=true):l≠[]:=fun e=>by rw [e] at h;cases h
theorem Yw:∀ {o:List Fg} {f:Fg},GrpI o->OkG f->(∀ g ∈ qN o f,OkG g/\(g.vec=f.vec\/g ∈ o))/\GrpI (qN o f)/\(∀ i r c,i<M64->hasK (qN o f) i r c=(hasK o i r c || (mem f.items i && mem (zT f.vec r) c)))
 | [],f,_,hf=>⟨fun g j=>by simp only [qN,List.mem_singleton] at j;subst j;exact⟨hf,.inl rfl⟩,⟨fun g j=>by simp only [qN,List.mem_singleton] at j;subst j;exact hf,by simp [qN]⟩,fun i r c _=>by simp [qN,hasK]⟩
 | g::o,f,ho,hf=>by
   have j:=ho.ok g (by simp)
   have y:=List.pairwise_cons.1 ho.srt
   unfold qN
   by_cases u:zZ (zv g.vec) (zv f.vec)<0
   ·rw [if_pos u]
    obtain⟨A,F,G⟩:=Yw ho.tail hf
    refine⟨fun x a=>?_,⟨fun x a=>?_,List.pairwise_cons.2 ⟨fun x a=>?_,F.srt⟩⟩,fun i r c hi=>?_⟩
    ·rcases List.mem_cons.1 a with rfl | a
     ·exact⟨j,.inr (by simp)⟩
     ·exact⟨(A x a).1,(A x a).2.imp id fun h=>by simp [h]⟩
    ·rcases List.mem_cons.1 a with rfl | a
     ·exact j
     ·exact(A x a).1
    ·rcases (A x a).2 with e | e
     ·rw [e];exact u
     ·exact y.1 x e
    ·have:=G i r c hi
     unfold hasK at this ⊢
     rw [List.any_cons,List.any_cons,this,Bool.or_assoc]
   ·rw [if_neg u]
    by_cases w:zZ (zv g.vec) (zv f.vec)=0
    ·rw [if_pos w]
     have e:g.vec=f.vec:=YU w
     have C:OkG ⟨qy zn g.items f.items,f.vec⟩:=by
      refine⟨hf.1,hf.2.1,qH j.2.2.1 hf.2.2.1,?_⟩
      obtain⟨x,a,E⟩:=JZ j.2.2.1 j.2.2.2
      refine zig (x:=x) ?_
      show mem (qy zn g.items f.items) x=true
      rw [qj j.2.2.1 hf.2.2.1 a,E]
      rfl
     refine⟨fun x a=>?_,⟨fun x a=>?_,List.pairwise_cons.2 ⟨fun x a=>?_,y.2⟩⟩,fun i r c hi=>?_⟩
     ·rcases List.mem_cons.1 a with rfl | a
      ·exact⟨C,.inl rfl⟩
      ·exact⟨ho.ok x (by simp [a]),.inr (by simp [a])⟩
     ·rcases List.mem_cons.1 a with rfl | a
      ·exact C
      ·exact ho.ok x (by simp [a])
     ·have:=y.1 x a
      rw [e] at this
      exact this
     ·unfold hasK
      rw [List.any_cons,List.any_cons]
      simp only
      rw [qj j.2.2.1 hf.2.2.1 hi,e]
      simp only [zn]
      cases mem g.items i<;>cases mem f.items i<;>cases mem (zT f.vec r) c<;>simp
    ·rw [if_neg w]
     have B:ZH f.vec g.vec:=zfI u w
     refine⟨fun x a=>?_,⟨fun x a=>?_,List.pairwise_cons.2 ⟨fun x a=>?_,ho.srt⟩⟩,fun i r c hi=>?_⟩
     ·rcases List.mem_cons.1 a with rfl | a
      ·exact⟨hf,.inl rfl⟩
      ·exact⟨ho.ok x a,.inr a⟩
     ·rcases List.mem_cons.1 a with rfl | a
      ·exact hf
      ·exact ho.ok x a
     ·rcases List.mem_cons.1 a with rfl | a
      ·exact B
      ·exact k8 B (y.1 x a)
     ·unfold hasK
      rw [List.any_cons,Bool.or_comm]
theorem Yi {f:Fg} (h:ZS f) (a:¬(zi f.vec=[]\/f.items=[])):OkG ⟨f.items,zi f.vec⟩:=⟨jN h.2,fun e=>a (.inl e),h.1,fun e=>a (.inr e)⟩
theorem Yr {o:List Fg} {f:Fg} (ho:GrpI o) (a:ZS f):GrpI (yo o f)/\∀ i r c,i<M64->hasK (yo o f) i r c=(hasK o i r c || (mem f.items i && mem (zT f.vec r) c)):=by
 unfold yo
 split
 ·rename_i h
  refine⟨ho,fun i r c _=>?_⟩
  rcases h with h | h
  ·rw [<-ja a.2,h,kr]
   simp
  ·rw [h]
   simp
 ·rename_i h
  obtain⟨_,j,u⟩:=Yw ho (Yi a h)
  refine⟨j,fun i r c hi=>?_⟩
  rw [u i r c hi]
  simp only
  rw [ja a.2]
theorem jV:∀ {k:List Fg} {o:List Fg},GrpI o->RightK k->GrpI (k.foldl yo o)/\∀ i r c,i<M64->hasK (k.foldl yo o) i r c=(hasK o i r c || hasK k i r c)
 | [],o,ho,_=>⟨ho,fun i r c _=>by simp [hasK]⟩
 | f::k,o,ho,hk=>by
   obtain⟨a,j⟩:=Yr ho (hk f (by simp))
   obtain⟨u,w⟩:=jV (k:=k) a fun g y=>hk g (by simp [y])
   refine⟨u,fun i r c hi=>?_⟩
   rw [List.foldl_cons,w i r c hi,j i r c hi,Bool.or_assoc]
   rfl
theorem vB {k:List Fg} (h:RightK k):GrpI (zL k):=(jV GrpI.nil h).1
theorem za5 {k:List Fg} (h:RightK k) {i r c:Nat} (hi:i<M64):hasK (zL k) i r c=hasK k i r c:=by
 have:=(jV GrpI.nil h).2 i r c hi
 rw [show hasK [] i r c=false from rfl,Bool.false_or] at this
 exact this
theorem Qa:∀ {o:List Fg} {f:Fg},(∀ g ∈ o,Nrm g.items)->Nrm f.items->xh o->(∀ g ∈ o,∀ x,x<M64->¬(mem g.items x=true/\mem f.items x=true)) ->
 xh (qN o f)/\∀ g ∈ qN o f,Nrm g.items/\∀ x,x<M64->mem g.items x=true->mem f.items x=true\/∃ G ∈ o,mem G.items x=true
 | [],f,_,hf,_,_=>⟨by simp [qN,xh],fun g w=>by simp only [qN,List.mem_singleton] at w;subst w;exact⟨hf,fun x _ j=>.inl j⟩⟩
 | g::o,f,ho,hf,ha,hd=>by
   have w:=ho g (by simp)
   have A:=List.pairwise_cons.1 ha
   unfold qN
   by_cases E:zZ (zv g.vec) (zv f.vec)<0
   ·rw [if_pos E]
    obtain⟨H,C⟩:=Qa (fun x a=>ho x (by simp [a])) hf A.2 fun x a=>hd x (by simp [a])
    refine⟨List.pairwise_cons.2 ⟨fun x a z hz ⟨u,m2⟩=>?_,H⟩,fun x a=>?_⟩
    ·rcases (C x a).2 z hz m2 with e | ⟨y,B,e⟩
     ·exact hd g (by simp) z hz ⟨u,e⟩
     ·exact A.1 y B z hz ⟨u,e⟩
    ·rcases List.mem_cons.1 a with rfl | a
     ·exact⟨w,fun z _ j=>.inr ⟨x,by simp,j⟩⟩
     ·refine⟨(C x a).1,fun z hz j=>((C x a).2 z hz j).imp id ?_⟩
      rintro⟨y,B,e⟩
      exact⟨y,by simp [B],e⟩
   ·rw [if_neg E]
    by_cases F:zZ (zv g.vec) (zv f.vec)=0
    ·rw [if_pos F]
     refine⟨List.pairwise_cons.2 ⟨fun x a z hz ⟨u,m2⟩=>?_,A.2⟩,fun x a=>?_⟩
     ·simp only at u
      rw [qj w hf hz] at u
      simp only [zn,Bool.or_eq_true] at u
      rcases u with u | u
      ·exact A.1 x a z hz ⟨u,m2⟩
      ·exact hd x (by simp [a]) z hz ⟨m2,u⟩
     ·rcases List.mem_cons.1 a with rfl | a
      ·refine⟨qH w hf,fun z hz j=>?_⟩
       simp only at j
       rw [qj w hf hz] at j
       simp only [zn,Bool.or_eq_true] at j
       rcases j with j | j
       ·exact .inr ⟨g,by simp,j⟩
       ·exact .inl j
      ·exact⟨ho x (by simp [a]),fun z _ j=>.inr ⟨x,by simp [a],j⟩⟩
    ·rw [if_neg F]
     refine⟨List.pairwise_cons.2 ⟨fun x a z hz ⟨u,m2⟩=>hd x a z hz ⟨m2,u⟩,ha⟩,fun x a=>?_⟩
     rcases List.mem_cons.1 a with rfl | a
     ·exact⟨hf,fun z _ j=>.inl j⟩
     ·exact⟨ho x a,fun z _ j=>.inr ⟨x,a,j⟩⟩
theorem vA:∀ {k o:List Fg},(∀ g ∈ o,Nrm g.items)->(∀ f ∈ k,Nrm f.items)->xh o->xh k->(∀ g ∈ o,∀ f ∈ k,∀ x,x<M64->¬(mem g.items x=true/\mem f.items x=true))->xh (k.foldl yo o)
 | [],o,_,_,ha,_,_=>ha
 | f::k,o,ho,hk,ha,hak,hd=>by
   have w:=List.pairwise_cons.1 hak
   rw [List.foldl_cons]
   unfold yo
   split
   ·exact vA ho (fun g a=>hk g (by simp [a])) ha w.2 fun g a u j=>hd g a u (by simp [j])
   ·obtain⟨C,A⟩:=Qa (f:=⟨f.items,zi f.vec⟩) ho (hk f (by simp)) ha fun g a=>hd g a f (by simp)
    refine vA (fun g a=>(A g a).1) (fun g a=>hk g (by simp [a])) C w.2 fun g a u j x hx ⟨m1,m2⟩=>?_
    rcases (A g a).2 x hx m1 with e | ⟨y,B,e⟩
    ·exact w.1 u j x hx ⟨e,m2⟩
    ·exact hd y B u (by simp [j]) x hx ⟨e,m2⟩
structure CanK (k:List Fg):Prop where
 gi:GrpI k
 apart:xh k
theorem za4 {k:List Fg} (h:RightK k) (a:xh k):CanK (zL k):=⟨vB h,vA (fun g h=>(by cases h)) (fun f j=>(h f j).1) List.Pairwise.nil a fun g h=>(by cases h)⟩
theorem CanK.one {k:List Fg} (h:CanK k) {f:Fg} (y:f ∈ k) {i:Nat} (hi:i<M64) (j:mem f.items i=true) (r c:Nat):hasK k i r c=mem (zT f.vec r) c:=by
 rw [Bool.eq_iff_iff,hasK_iff]
 constructor
 ·rintro⟨g,B,A,u⟩
  have:f=g:=by
   obtain⟨a,w,rfl⟩:=List.getElem_of_mem y
   obtain⟨b,hb,rfl⟩:=List.getElem_of_mem B
   rcases Nat.lt_trichotomy a b with e | e | e
   ·exact absurd ⟨j,A⟩ (List.pairwise_iff_getElem.1 h.apart a b w hb e i hi)
   ·subst e;rfl
   ·exact absurd ⟨A,j⟩ (List.pairwise_iff_getElem.1 h.apart b a hb w e i hi)
  subst this
  exact u
 ·intro u
  exact⟨f,y,j,u⟩
theorem CanK.vec {k:List Fg} (h:CanK k) {f g:Fg} (w:f ∈ k) (y:g ∈ k) (e:f.vec=g.vec):f=g:=by
 obtain⟨a,u,rfl⟩:=List.getElem_of_mem w
 obtain⟨b,hb,rfl⟩:=List.getElem_of_mem y
 rcases Nat.lt_trichotomy a b with j | j | j
 ·have:=List.pairwise_iff_getElem.1 h.gi.srt a b u hb j
  rw [e] at this
  exact absurd this (ltV_irr _)
 ·subst j;rfl
 ·have:=List.pairwise_iff_getElem.1 h.gi.srt b a hb u j
  rw [e] at this
  exact absurd this (ltV_irr _)
theorem zaK {v:List En} (h:CanV v) (u:v≠[]):∃ r c,c<M64/\mem (zT v r) c=true:=by
 cases v with
 | nil=>exact absurd rfl u
 | cons e v=>
   have a:=h.1 e (by simp)
   obtain⟨x,w,j⟩:=JZ (qT a.1) (jO a).1
   exact⟨e.rep,x,w,by rw [qm,if_pos rfl];exact j⟩
theorem Yh {a b:List Fg} (C:CanK a) (hb:CanK b) (h:∀ i r c,i<M64->c<M64->hasK a i r c=hasK b i r c) {f:Fg} (F:f ∈ a):∃ g ∈ b,g.vec=f.vec/\∀ x,x<M64->mem f.items x=true->mem g.items x=true:=by
 have ok:=C.gi.ok f F
 have w:∀ x,x<M64->mem f.items x=true->∃ g ∈ b,g.vec=f.vec/\mem g.items x=true:=fun x j B=>by
  obtain⟨r,c,E,hk⟩:=zaK ok.1 ok.2.1
  have I:=C.one F j B r c
  rw [hk,h x r c j E] at I
  obtain⟨g,u,J,_⟩:=hasK_iff.1 I
  refine⟨g,u,?_,J⟩
  have A:=hb.gi.ok g u
  refine Zk A.1 ok.1 fun r=>Nrm.unique (qi A.1.right r) (qi ok.1.right r) fun c E=>?_
  rw [<-hb.one u j J r c,<-C.one F j B r c,h x r c j E]
 obtain⟨x,j,B⟩:=JZ ok.2.2.1 ok.2.2.2
 obtain⟨g,u,e,_⟩:=w x j B
 refine⟨g,u,e,fun y L H=>?_⟩
 obtain⟨N,G,K,M⟩:=w y L H
 rw [hb.vec u G (e.trans K.symm)]
 exact M
theorem ZD:∀ {a b:List Fg},a.Pairwise (fun f g=>ZH f.vec g.vec)->b.Pairwise (fun f g=>ZH f.vec g.vec)->(∀ f,f ∈ a ↔ f ∈ b)->a=b
 | [],[],_,_,_=>rfl
 | [],y::b,_,_,h=>absurd ((h y).2 (by simp)) (by simp)
 | x::a,[],_,_,h=>absurd ((h x).1 (by simp)) (by simp)
 | x::a,y::b,ha,hb,h=>by
   have j:=List.pairwise_cons.1 ha
   have u:=List.pairwise_cons.1 hb
   have B:x=y:=by
    have w:=(h x).1 (by simp)
    have A:=(h y).2 (by simp)
    simp at w A
    rcases w with w | w
    ·exact w
    ·rcases A with A | A
     ·exact A.symm
     ·exact absurd (k8 (u.1 x w) (j.1 y A)) (ltV_irr _)
   subst B
   congr 1
   refine ZD j.2 u.2 fun z=>?_
   have:=h z
   simp at this
   constructor
   ·intro hz
    rcases this.1 (.inr hz) with e | e
    ·subst e;exact absurd (j.1 z hz) (ltV_irr _)
    ·exact e
   ·intro hz
    rcases this.2 (.inr hz) with e | e
    ·subst e;exact absurd (u.1 z hz) (ltV_irr _)
    ·exact e
theorem XN {a b:List Fg} (j:CanK a) (hb:CanK b) (h:∀ i r c,i<M64->c<M64->hasK a i r c=hasK b i r c):a=b:=by
 have u:∀ {a b:List Fg},CanK a->CanK b->(∀ i r c,i<M64->c<M64->hasK a i r c=hasK b i r c)->∀ f ∈ a,f ∈ b:=fun {a b} j hb h f hf=>by
  obtain⟨g,A,e,hi⟩:=Yh j hb h hf
  obtain⟨w,y,G,B⟩:=Yh hb j (fun i r c C E=>(h i r c C E).symm) A
  have:w=f:=j.vec y hf (G.trans e)
  subst this
  have:g=w:=Fg.ext' (Nrm.unique (hb.gi.ok g A).2.2.1 (j.gi.ok w hf).2.2.1 fun x F=>by
   rw [Bool.eq_iff_iff]
   exact⟨B x F,hi x F⟩) e
  rw [<-this]
  exact A
 exact ZD j.gi.srt hb.gi.srt fun f=>⟨u j hb h f,u hb j (fun i r c C E=>(h i r c C E).symm) f⟩
noncomputable def zbx (k:List Fg):List Fg:=zL (jq k)
noncomputable def yy (f:Bool->Bool->Bool) (a b:List Fg):List Fg:=(zu (a++b)).map fun s=>⟨[s],ks f (qc a s.lo) (qc b s.lo)⟩
noncomputable def vh (f:Bool->Bool->Bool) (a b:List Fg):List Fg:=zL (yy f a b)
noncomputable def znF (k:List Fg) (items:List Iv):List Fg:=zbx (k.map fun f=>⟨qy y5 f.items items,f.vec⟩)
theorem zbX {k:List Fg} (h:RightK k):CanK (zbx k):=za4 (Yb h) (zeD h)
theorem zbW {k:List Fg} (h:RightK k) {i r c:Nat} (hi:i<M64) (a:c<M64):hasK (zbx k) i r c=hasK k i r c:=by
 unfold zbx
 rw [za5 (Yb h) hi,zfp h hi a]
theorem RightK.app {a b:List Fg} (j:RightK a) (hb:RightK b):RightK (a++b):=fun f u=>(List.mem_append.1 u).elim (j f) (hb f)
theorem xU {f:Bool->Bool->Bool} {a b:List Fg} (j:RightK a) (hb:RightK b):RightK (yy f a b):=fun g y=>by
 obtain⟨s,hs,rfl⟩:=List.mem_map.1 y
 obtain⟨u,w,_⟩:=(yt (j.app hb)).1 s hs
 exact⟨qG u w,(Xe f (j.ik.at s.lo).1.can.right (hb.ik.at s.lo).1.can.right).right⟩
theorem Xh {f:Bool->Bool->Bool} {a b:List Fg} (j:RightK a) (hb:RightK b):xh (yy f a b):=by
 unfold xh yy
 rw [List.pairwise_map]
 refine(yt (j.app hb)).2.imp fun hst x _ ⟨h1,h2⟩=>?_
 have:=zfJ.1 h1
 have:=zfJ.1 h2
 omega
theorem ze5 {f:Bool->Bool->Bool} {a b:List Fg} (j:RightK a) (hb:RightK b):CanK (vh f a b):=za4 (xU j hb) (Xh j hb)
theorem zcZ {f:Bool->Bool->Bool} (F:f false false=false) {a b:List Fg} (C:RightK a) (hb:RightK b) {i r c:Nat} (hi:i<M64) (j:c<M64):hasK (vh f a b) i r c=f (hasK a i r c) (hasK b i r c):=by
 unfold vh
 rw [za5 (xU C hb) hi]
 refine JJ (C.app hb) (V:=fun x=>ks f (qc a x) (qc b x)) (P:=fun x r c=>f (hasK a x r c) (hasK b x r c)) (fun x r c _ j=>?_) (fun x y r c hs=>?_) (fun x r c G=>?_) hi j
 ·have A:=C.ik.at x
  have B:=hb.ik.at x
  rw [JR F A.1.can.right B.1.can.right,qj (qi A.1.can.right r) (qi B.1.can.right r) j,A.2 r c j,B.2 r c j]
 ·have u:=qo.1 hs
  rw [Yt (k:=a) (qo.2 fun g E=>u g (by simp [E])),Yt (k:=b) (qo.2 fun g E=>u g (by simp [E]))]
 ·have w:=zc0 (k:=a++b) r c G
  unfold hasK at w ⊢
  rw [List.any_append,Bool.or_eq_false_iff] at w
  rw [w.1,w.2,F]
theorem zof {k:List Fg} {items:List Iv} (h:RightK k) (hi:Nrm items) {i r c:Nat} (j:i<M64) (A:c<M64):hasK (znF k items) i r c=(mem items i && hasK k i r c):=by
 have B:RightK (k.map fun f=>(⟨qy y5 f.items items,f.vec⟩:Fg)):=fun g y=>by
  obtain⟨f,a,rfl⟩:=List.mem_map.1 y
  exact⟨qH (h f a).1 hi,(h f a).2⟩
 unfold znF
 rw [zbW B j A,Bool.eq_iff_iff,Bool.and_eq_true,hasK_iff,hasK_iff]
 constructor
 ·rintro⟨g,y,u,w⟩
  obtain⟨f,a,rfl⟩:=List.mem_map.1 y
  simp only at u w
  rw [qj (h f a).1 hi j] at u
  simp only [y5,Bool.and_eq_true] at u
  exact⟨u.2,f,a,u.1,w⟩
 ·rintro⟨C,f,a,u,w⟩
  refine⟨_,List.mem_map.2 ⟨f,a,rfl⟩,?_,w⟩
  simp only
  rw [qj (h f a).1 hi j,C,u]
  rfl
theorem CanK.right {k:List Fg} (h:CanK k):RightK k:=h.gi.right
theorem znD {f:Bool->Bool->Bool} (y:f false false=false) {a b c:List Fg} (j:RightK a) (hb:RightK b) (w:CanK c) (h:∀ i r x,i<M64->x<M64->hasK c i r x=f (hasK a i r x) (hasK b i r x)):vh f a b=c:=
 XN (ze5 j hb) w fun i r x hi u=>by rw [zcZ y j hb hi u,h i r x hi u]
end Go.Proofs.YtonhfknjcbakiaaGreatDoor
