import Derived.Test.YtmpnbdhadjfbhaaGreatDoorB20
set_option maxHeartbeats 16000000
set_option linter.all false
set_option maxRecDepth 100000
namespace Go.Proofs.YtmpnbdhadjfbhaaGreatDoor
open Go.RowKit
open Go.Proofs.Tryz
open Go.Proofs.Tryz renaming prog->xt
def ZH(v w:List En):Prop:=zZ (zv v) (zv w)<0
def ku(v:List En):¬ZH v v:=by unfold ZH;rw[(cmpL_zero _ _).2 rfl];decide
def k8{a b c:List En}(j:ZH a b)(o:ZH b c):ZH a c:=by
 unfold ZH at *;have u:=ZW _ _ _ (Int.le_of_lt j) (Int.le_of_lt o);rcases Int.lt_or_eq_of_le u with h|h
 .exact h
 .have e:=Vv ((cmpL_zero _ _).1 h);subst e;have:=ZV (zv a) (zv b);omega
def zfI{a b:List En}(j:¬ZH a b)(o:zZ (zv a) (zv b)≠0):ZH b a:=by unfold ZH at *;have:=ZV (zv a) (zv b);omega
def YU{a b:List En}(h:zZ (zv a) (zv b)=0):a=b:=Vv ((cmpL_zero _ _).1 h)
def qN:List Fg->Fg->List Fg
 |[],f=>[f]
 |g::r,f=>if zZ (zv g.vec) (zv f.vec)<0 then g::qN r f else if zZ (zv g.vec) (zv f.vec)=0 then ⟨qy zn g.items f.items,f.vec⟩::r else f::g::r
def yo(o:List Fg)(f:Fg):List Fg:=if zi f.vec=[]\/f.items=[] then o else qN o ⟨f.items,zi f.vec⟩
def zL(k:List Fg):List Fg:=k.foldl yo []
def OkG(f:Fg):Prop:=CanV f.vec/\f.vec≠[]/\Nrm f.items/\f.items≠[]
structure GrpI(k:List Fg):Prop where
 ok:∀f∈k,OkG f
 srt:k.Pairwise λf g=>ZH f.vec g.vec
def GrpI.nil:GrpI []:=⟨λf h=>(by cases h),List.Pairwise.nil⟩
def GrpI.tail{f:Fg}{k:List Fg}(h:GrpI (f::k)):GrpI k:=⟨λg j=>h.ok g (by simp[j]),(wj.1 h.srt).2⟩
def GrpI.right{k:List Fg}(h:GrpI k):RightK k:=λf j=>⟨(h.ok f j).2.2.1,(h.ok f j).1.right⟩
def JZ{l:List Iv}(h:Nrm l)(j:l≠[]):∃x,x<zk/\mem l x=true:=by
 cases l with
 |nil=>exact absurd rfl j
 |cons s l=>have:=NF.lo_ge h s b6;exact⟨s.lo,a8,qf.2 ⟨s,b6,Zp _,this.2.1⟩⟩
def zig{l:List Iv}{x:Nat}(h:mem l x=true):l≠[]:=λe=>by rw[e]at h;cases h
def Yw:∀{o:List Fg}{f:Fg},GrpI o->OkG f->(∀g∈qN o f,OkG g/\(g.vec=f.vec\/g∈o))/\GrpI (qN o f)/\(∀i r c,i<zk->hasK (qN o f) i r c=(hasK o i r c || (mem f.items i && mem (zT f.vec r) c)))
 |[],f,_,hf=>⟨λg u=>by simp only[qN,wH]at u;subst u;exact⟨hf,.inl rfl⟩,⟨λg u=>by simp only[qN,wH]at u;subst u;exact hf,by simp[qN]⟩,λi r c _=>by simp[qN,hasK]⟩
 | g::o,f,ho,hf=>by
   have u:=ho.ok g b6;have B:=wj.1 ho.srt;unfold qN;by_cases w:zZ (zv g.vec) (zv f.vec)<0
   .rw[Vm w];obtain⟨C,H,I⟩:=Yw ho.tail hf;refine⟨λx j=>?_,⟨λx j=>?_,wj.2 ⟨λx j=>?_,H.srt⟩⟩,λi r c hi=>?_⟩
    .rcases V3.1 j with rfl|j
     .exact⟨u,.inr b6⟩
     .exact⟨(C x j).1,(C x j).2.imp id λh=>by simp[h]⟩
    .rcases V3.1 j with rfl|j
     .exact u
     .exact(C x j).1
    .rcases (C x j).2 with e|e
     .rw[e];exact w
     .exact B.1 x e
    .have:=I i r c hi;unfold hasK at this⊢;rw[ut,ut,this,UF]
   .rw[Vq w];by_cases A:zZ (zv g.vec) (zv f.vec)=0
    .rw[Vm A];have e:g.vec=f.vec:=YU A;have F:OkG ⟨qy zn g.items f.items,f.vec⟩:=by refine⟨hf.1,hf.2.1,qH u.2.2.1 hf.2.2.1,?_⟩;obtain⟨x,j,G⟩:=JZ u.2.2.1 u.2.2.2;refine zig (x:=x) ?_;show mem (qy zn g.items f.items) x=true;rw[qj u.2.2.1 hf.2.2.1 j,G];rfl
     refine⟨λx j=>?_,⟨λx j=>?_,wj.2 ⟨λx j=>?_,B.2⟩⟩,λi r c hi=>?_⟩
     .rcases V3.1 j with rfl|j
      .exact⟨F,.inl rfl⟩
      .exact⟨ho.ok x (by simp[j]),.inr (by simp[j])⟩
     .rcases V3.1 j with rfl|j
      .exact F
      .exact ho.ok x (by simp[j])
     .have:=B.1 x j;rw[e]at this;exact this
     .unfold hasK;rw[ut,ut];simp only;rw[qj u.2.2.1 hf.2.2.1 hi,e];simp only[zn];cases mem g.items i<;>cases mem f.items i<;>cases mem (zT f.vec r) c<;>simp
    .rw[Vq A];have E:ZH f.vec g.vec:=zfI w A;refine⟨λx j=>?_,⟨λx j=>?_,wj.2 ⟨λx j=>?_,ho.srt⟩⟩,λi r c hi=>?_⟩
     .rcases V3.1 j with rfl|j
      .exact⟨hf,.inl rfl⟩
      .exact⟨ho.ok x j,.inr j⟩
     .rcases V3.1 j with rfl|j
      .exact hf
      .exact ho.ok x j
     .rcases V3.1 j with rfl|j
      .exact E
      .exact k8 E (B.1 x j)
     .unfold hasK;rw[ut,Bool.or_comm]
def Yi{f:Fg}(h:ZS f)(j:¬(zi f.vec=[]\/f.items=[])):OkG ⟨f.items,zi f.vec⟩:=⟨jN h.2,λe=>j (.inl e),h.1,λe=>j (.inr e)⟩
def Yr{o:List Fg}{f:Fg}(ho:GrpI o)(j:ZS f):GrpI (yo o f)/\∀i r c,i<zk->hasK (yo o f) i r c=(hasK o i r c || (mem f.items i && mem (zT f.vec r) c)):=by
 unfold yo;split
 .rename_i h;refine⟨ho,λi r c _=>?_⟩;rcases h with h|h
  .rw[<-ja j.2,h,knV_nil];simp
  .rw[h];simp
 .rename_i h;obtain⟨_,u,w⟩:=Yw ho (Yi j h);refine⟨u,λi r c hi=>?_⟩;rw[w i r c hi];simp only;rw[ja j.2]
def jV:∀{k:List Fg}{o:List Fg},GrpI o->RightK k->GrpI (k.foldl yo o)/\∀i r c,i<zk->hasK (k.foldl yo o) i r c=(hasK o i r c || hasK k i r c)
 |[],o,ho,_=>⟨ho,λi r c _=>by simp[hasK]⟩
 |f::k,o,ho,hk=>by obtain⟨j,u⟩:=Yr ho (hk f b6);obtain⟨w,A⟩:=jV (k:=k) j λg B=>hk g (by simp[B]);refine⟨w,λi r c hi=>?_⟩;rw[WU,A i r c hi,u i r c hi,UF];rfl
def vB{k:List Fg}(h:RightK k):GrpI (zL k):=(jV GrpI.nil h).1
def za5{k:List Fg}(h:RightK k){i r c:Nat}(hi:i<zk):hasK (zL k) i r c=hasK k i r c:=by have:=(jV GrpI.nil h).2 i r c hi;rw[show hasK [] i r c=false from rfl,uA]at this;exact this
def Qa:∀{o:List Fg}{f:Fg},(∀g∈o,Nrm g.items)->Nrm f.items->xh o->(∀g∈o,∀x,x<zk->¬(mem g.items x=true/\mem f.items x=true)) ->
 xh (qN o f)/\∀g∈qN o f,Nrm g.items/\∀x,x<zk->mem g.items x=true->mem f.items x=true\/∃H∈o,mem H.items x=true
 |[],f,_,hf,_,_=>⟨by simp[qN,xh],λg A=>by simp only[qN,wH]at A;subst A;exact⟨hf,λx _ u=>.inl u⟩⟩
 | g::o,f,ho,hf,ha,hd=>by
   have A:=ho g b6;have B:=wj.1 ha;unfold qN;by_cases F:zZ (zv g.vec) (zv f.vec)<0
   .rw[Vm F];obtain⟨I,E⟩:=Qa (λx j=>ho x (by simp[j])) hf B.2 λx j=>hd x (by simp[j]);refine⟨wj.2 ⟨λx j z hz ⟨w,m2⟩=>?_,I⟩,λx j=>?_⟩
    .rcases (E x j).2 z hz m2 with e|⟨y,C,e⟩
     .exact hd g b6 z hz ⟨w,e⟩
     .exact B.1 y C z hz ⟨w,e⟩
    .rcases V3.1 j with rfl|j
     .exact⟨A,λz _ u=>.inr ⟨x,b6,u⟩⟩
     .refine⟨(E x j).1,λz hz u=>((E x j).2 z hz u).imp id ?_⟩;rintro⟨y,C,e⟩;exact⟨y,by simp[C],e⟩
   ·rw [Vq F];by_cases G:zZ (zv g.vec) (zv f.vec)=0
    .rw[Vm G];refine⟨wj.2 ⟨λx j z hz ⟨w,m2⟩=>?_,B.2⟩,λx j=>?_⟩
     .simp only at w;rw[qj A hf hz]at w;simp only[zn,WT]at w;rcases w with w|w
      .exact B.1 x j z hz ⟨w,m2⟩
      .exact hd x (by simp[j]) z hz ⟨m2,w⟩
     .rcases V3.1 j with rfl|j
      .refine⟨qH A hf,λz hz u=>?_⟩;simp only at u;rw[qj A hf hz]at u;simp only[zn,WT]at u;rcases u with u|u
       .exact .inr ⟨g,b6,u⟩
       .exact .inl u
      .exact⟨ho x (by simp[j]),λz _ u=>.inr ⟨x,by simp[j],u⟩⟩
    .rw[Vq G];refine⟨wj.2 ⟨λx j z hz ⟨w,m2⟩=>hd x j z hz ⟨m2,w⟩,ha⟩,λx j=>?_⟩;rcases V3.1 j with rfl|j
     .exact⟨hf,λz _ u=>.inl u⟩
     .exact⟨ho x j,λz _ u=>.inr ⟨x,j,u⟩⟩
def vA:∀{k o:List Fg},(∀g∈o,Nrm g.items)->(∀f∈k,Nrm f.items)->xh o->xh k->(∀g∈o,∀f∈k,∀x,x<zk->¬(mem g.items x=true/\mem f.items x=true))->xh (k.foldl yo o)
 |[],o,_,_,ha,_,_=>ha
 | f::k,o,ho,hk,ha,hak,hd=>by
   have A:=wj.1 hak;rw[WU];unfold yo;split
   .exact vA ho (λg j=>hk g (by simp[j])) ha A.2 λg j w u=>hd g j w (by simp[u])
   .obtain⟨E,B⟩:=Qa (f:=⟨f.items,zi f.vec⟩) ho (hk f b6) ha λg j=>hd g j f b6;refine vA (λg j=>(B g j).1) (λg j=>hk g (by simp[j])) E A.2 λg j w u x hx ⟨m1,m2⟩=>?_;rcases (B g j).2 x hx m1 with e|⟨y,C,e⟩
    .exact A.1 w u x hx ⟨e,m2⟩
    .exact hd y C w (by simp[u]) x hx ⟨e,m2⟩
structure CanK(k:List Fg):Prop where
 gi:GrpI k
 apart:xh k
def za4{k:List Fg}(h:RightK k)(j:xh k):CanK (zL k):=⟨vB h,vA (λg h=>(by cases h)) (λf o=>(h f o).1) List.Pairwise.nil j λg h=>(by cases h)⟩
def CanK.one{k:List Fg}(h:CanK k){f:Fg}(w:f∈k){i:Nat}(hi:i<zk)(j:mem f.items i=true)(r c:Nat):hasK k i r c=mem (zT f.vec r) c:=by
 rw[WD,km];constructor
 .rintro⟨g,B,A,o⟩;have:f=g:=by
   obtain⟨a,u,rfl⟩:=Wp w;obtain⟨b,hb,rfl⟩:=Wp B;rcases WN a b with e|e|e
   .exact absurd ⟨j,A⟩ (wT.1 h.apart a b u hb e i hi)
   .subst e;rfl
   .exact absurd ⟨A,j⟩ (wT.1 h.apart b a hb u e i hi)
  subst this;exact o
 .intro o;exact⟨f,w,j,o⟩
def CanK.vec{k:List Fg}(h:CanK k){f g:Fg}(u:f∈k)(w:g∈k)(e:f.vec=g.vec):f=g:=by
 obtain⟨a,o,rfl⟩:=Wp u;obtain⟨b,hb,rfl⟩:=Wp w;rcases WN a b with j|j|j
 .have:=wT.1 h.gi.srt a b o hb j;rw[e]at this;exact absurd this (ku _)
 .subst j;rfl
 .have:=wT.1 h.gi.srt b a hb o j;rw[e]at this;exact absurd this (ku _)
def zaK{v:List En}(h:CanV v)(u:v≠[]):∃r c,c<zk/\mem (zT v r) c=true:=by
 cases v with
 |nil=>exact absurd rfl u
 |cons e v=>have j:=h.1 e b6;obtain⟨x,w,o⟩:=JZ (qT j.1) (jO j).1;exact⟨e.rep,x,w,by rw[qm,Vm rfl];exact o⟩
def Yh{a b:List Fg}(B:CanK a)(hb:CanK b)(h:∀i r c,i<zk->c<zk->hasK a i r c=hasK b i r c){f:Fg}(E:f∈a):∃g∈b,g.vec=f.vec/\∀x,x<zk->mem f.items x=true->mem g.items x=true:=by
 have ok:=B.gi.ok f E;have u:∀x,x<zk->mem f.items x=true->∃g∈b,g.vec=f.vec/\mem g.items x=true:=λx j A=>by obtain⟨r,c,C,hk⟩:=zaK ok.1 ok.2.1;have H:=B.one E j A r c;rw[hk,h x r c j C]at H;obtain⟨g,o,I,_⟩:=km.1 H;refine⟨g,o,?_,I⟩;have w:=hb.gi.ok g o;refine Zk w.1 ok.1 λr=>Nrm.unique (qi w.1.right r) (qi ok.1.right r) λc C=>?_;rw[<-hb.one o j I r c,<-B.one E j A r c,h x r c j C]
 obtain⟨x,j,A⟩:=JZ ok.2.2.1 ok.2.2.2;obtain⟨g,o,e,_⟩:=u x j A;refine⟨g,o,e,λy K G=>?_⟩;obtain⟨M,F,J,L⟩:=u y K G;rw[hb.vec o F (e.trans J.symm)];exact L
def ZD:∀{a b:List Fg},a.Pairwise (λf g=>ZH f.vec g.vec)->b.Pairwise (λf g=>ZH f.vec g.vec)->(∀f,f∈a↔f∈b)->a=b
 |[],[],_,_,_=>rfl
 |[],y::b,_,_,h=>absurd ((h y).2 b6) b6
 |x::a,[],_,_,h=>absurd ((h x).1 b6) b6
 | x::a,y::b,ha,hb,h=>by
   have j:=wj.1 ha;have o:=wj.1 hb;have A:x=y:=by
    have u:=(h x).1 b6;have w:=(h y).2 b6;simp at u w;rcases u with u|u
    .exact u
    .rcases w with w|w
     .exact w.symm
     .exact absurd (k8 (o.1 x u) (j.1 y w)) (ku _)
   subst A;congr 1;refine ZD j.2 o.2 λz=>?_;have:=h z;simp at this;constructor
   .intro hz;rcases this.1 (.inr hz)with e|e
    .subst e;exact absurd (j.1 z hz) (ku _)
    .exact e
   .intro hz;rcases this.2 (.inr hz)with e|e
    .subst e;exact absurd (o.1 z hz) (ku _)
    .exact e
def XN{a b:List Fg}(j:CanK a)(hb:CanK b)(h:∀i r c,i<zk->c<zk->hasK a i r c=hasK b i r c):a=b:=by
 have o:∀{a b:List Fg},CanK a->CanK b->(∀i r c,i<zk->c<zk->hasK a i r c=hasK b i r c)->∀f∈a,f∈b:=λ{a b} j hb h f hf=>by
  obtain⟨g,A,e,hi⟩:=Yh j hb h hf;obtain⟨u,w,G,B⟩:=Yh hb j (λi r c C E=>(h i r c C E).symm) A;have:u=f:=j.vec w hf (G.trans e);subst this;have:g=u:=Fg.ext' (Nrm.unique (hb.gi.ok g A).2.2.1 (j.gi.ok u hf).2.2.1 λx F=>by
   rw[WD];exact⟨B x F,hi x F⟩) e
  rw[<-this];exact A
 exact ZD j.gi.srt hb.gi.srt λf=>⟨o j hb h f,o hb j (λi r c C E=>(h i r c C E).symm) f⟩
noncomputable def zbx (k:List Fg):List Fg:=zL (jq k)
noncomputable def yy (f:Q9) (a b:List Fg):List Fg:=(zu (a++b)).map λs=>⟨[s],ks f (qc a s.lo) (qc b s.lo)⟩
noncomputable def vh (f:Q9) (a b:List Fg):List Fg:=zL (yy f a b)
noncomputable def znF (k:List Fg) (items:List Iv):List Fg:=zbx (k.map λf=>⟨qy fMeet f.items items,f.vec⟩)
def zbX{k:List Fg}(h:RightK k):CanK (zbx k):=za4 (Yb h) (zeD h)
def zbW{k:List Fg}(h:RightK k){i r c:Nat}(hi:i<zk)(j:c<zk):hasK (zbx k) i r c=hasK k i r c:=by unfold zbx;rw[za5 (Yb h) hi,zfp h hi j]
def RightK.app{a b:List Fg}(j:RightK a)(hb:RightK b):RightK (a++b):=λf o=>(wF.1 o).elim (j f) (hb f)
def xU{f:Q9}{a b:List Fg}(j:RightK a)(hb:RightK b):RightK (yy f a b):=λg w=>by obtain⟨s,hs,rfl⟩:=wD.1 w;obtain⟨o,u,_⟩:=(yt (j.app hb)).1 s hs;exact⟨qG o u,(Xe f (j.ik.at s.lo).1.can.right (hb.ik.at s.lo).1.can.right).right⟩
def Xh{f:Q9}{a b:List Fg}(j:RightK a)(hb:RightK b):xh (yy f a b):=by unfold xh yy;rw[uw];refine(yt (j.app hb)).2.imp λhst x _ ⟨h1,h2⟩=>?_;have:=zfJ.1 h1;have:=zfJ.1 h2;omega
def ze5{f:Q9}{a b:List Fg}(j:RightK a)(hb:RightK b):CanK (vh f a b):=za4 (xU j hb) (Xh j hb)
def zcZ{f:Q9}(E:f false false=false){a b:List Fg}(B:RightK a)(hb:RightK b){i r c:Nat}(hi:i<zk)(j:c<zk):hasK (vh f a b) i r c=f (hasK a i r c) (hasK b i r c):=by
 unfold vh;rw[za5 (xU B hb) hi];refine JJ (B.app hb) (V:=λx=>ks f (qc a x) (qc b x)) (P:=λx r c=>f (hasK a x r c) (hasK b x r c)) (λx r c _ j=>?_) (λx y r c hs=>?_) (λx r c F=>?_) hi j
 .have w:=B.ik.at x;have A:=hb.ik.at x;rw[JR E w.1.can.right A.1.can.right,qj (qi w.1.can.right r) (qi A.1.can.right r) j,w.2 r c j,A.2 r c j]
 .have o:=qo.1 hs;rw[Yt (k:=a) (qo.2 λg C=>o g (by simp[C])),Yt (k:=b) (qo.2 λg C=>o g (by simp[C]))]
 .have u:=zc0 (k:=a++b) r c F;unfold hasK at u⊢;rw[UI,te]at u;rw[u.1,u.2,E]
def zof{k:List Fg}{items:List Iv}(h:RightK k)(hi:Nrm items){i r c:Nat}(o:i<zk)(B:c<zk):hasK (znF k items) i r c=(mem items i && hasK k i r c):=by
 have C:RightK (k.map λf=>(⟨qy fMeet f.items items,f.vec⟩:Fg)):=λg A=>by obtain⟨f,j,rfl⟩:=wD.1 A;exact⟨qH (h f j).1 hi,(h f j).2⟩
 unfold znF;rw[zbW C o B,WD,VS,km,km];constructor
 .rintro⟨g,A,u,w⟩;obtain⟨f,j,rfl⟩:=wD.1 A;simp only at u w;rw[qj (h f j).1 hi o]at u;simp only[fMeet,VS]at u;exact⟨u.2,f,j,u.1,w⟩
 .rintro⟨E,f,j,u,w⟩;refine⟨_,wD.2 ⟨f,j,rfl⟩,?_,w⟩;simp only;rw[qj (h f j).1 hi o,E,u];rfl
def CanK.right{k:List Fg}(h:CanK k):RightK k:=h.gi.right
def znD{f:Q9}(w:f false false=false){a b c:List Fg}(j:RightK a)(hb:RightK b)(u:CanK c)(h:∀i r x,i<zk->x<zk->hasK c i r x=f (hasK a i r x) (hasK b i r x)):vh f a b=c:=
 XN (ze5 j hb) u λi r x hi o=>by rw[zcZ w j hb hi o,h i r x hi o]
section
open Go.ChangeShapes Go.WideShapes Go.ChangeAt Go.Deep
section
variable {H:Type}{enc:TypeId×Value->H}{w:World}{base:Nat}{spare:Nat->Bool}{held:Bool}
end
section
variable {H:Type}{enc:TypeId×Value->H}{w:World}{base:Nat}{spare:Nat->Bool}{held:Bool}
def zhh(w:World)(b o:Nat)(A:List PV):Prop:=∀(j:Nat)(p:PV),A[j]?=some p->∃u,w.cell? ⟨b,o+j,none⟩=some u/\u.oneCell'=true/\Dat (ZG w) w u p
def rdC{α:Type}(cv:α->List PV)(bd:α->Prop)(w:World)(b o:Nat)(x:α):Prop:=zhh w b o (cv x)/\bd x
def VQ{α:Type}{cv:α->List PV}{bd:α->Prop}{sz:Nat}{v:Value}{l:List α}(A:∀x,(cv x).length=sz)(h:RdSl sz (rdC cv bd) 0 w.heap.size w v l):Dat (ZG w) w v (.sl (l.map cv) .sh)/\(∀x∈l,bd x)/\l.length<=9223372036854775807:=by
 obtain⟨a,C,rfl,V,L,X⟩:=h;have O:l.length<=9223372036854775807:=by unfold maxLen at L;omega
 suffices hs:Dat (ZG w) w (.slice a (l.map cv).length C) (.sl (l.map cv) .sh)/\∀x∈l,bd x from ⟨by rw[wB]at hs;exact hs.1,hs.2,O⟩
 by_cases H:l=[]
 .subst H;exact⟨.sl a C sz [] .sh 0 0 (λ_=>undef) b6 (λh=>by cases h) L (λh=>absurd rfl h) (λi e h=>by simp at h) (λj h=>by simp at h) (λi e j p h=>by simp at h),λ_ h=>by cases h⟩
 obtain⟨b,o,rfl,Y,M,P⟩:=X H;have J:∀j,j<l.length*sz->∃u,w.cell? ⟨b,o+j,none⟩=some u/\u.oneCell'=true/\∀(i k:Nat)(hi:i<l.length)(p:PV),j=i*sz+k->(cv l[i])[k]?=some p->Dat (ZG w) w u p:=λj B=>by
  have I:0<sz:=by
   rcases Wl sz with K|K
   .subst K;simp at B
   .exact K
  have hi:j/sz<l.length:=Nat.div_lt_of_lt_mul (by rw[U4];exact B);have hk:j%sz<(cv l[j/sz]).length:=(by rw[A];exact U3 _ I);obtain⟨u,S,u2,u3⟩:=(P _ hi).1 (j%sz) _ (Zv hk);have e:o+j/sz*sz+j%sz=o+j:=(by have:=Nat.div_add_mod j sz;rw[U4]at this;omega);rw[e]at S;refine⟨u,S,u2,λi k Z p F E=>?_⟩;have G:k<sz:=by have:=(Zw.1 E).1;rwa[A]at this
  have q1:j/sz=i:=(by rw[F];rw[U4,Nat.mul_add_div I,Nat.div_eq_of_lt G];omega);have q2:j%sz=k:=(by rw[F];rw[U4,Nat.mul_add_mod,Nat.mod_eq_of_lt G]);subst q1;subst q2;rw[Zv hk]at E;cases E;exact u3
 obtain⟨f,Q⟩:∃f:Nat->Value,∀j,j<l.length*sz->w.cell? ⟨b,o+j,none⟩=some (f j)/\(f j).oneCell'=true/\∀(i k:Nat)(hi:i<l.length)(p:PV),j=i*sz+k->(cv l[i])[k]?=some p->Dat (ZG w) w (f j) p:=by refine⟨λj=>if h:j<l.length*sz then (J j h).choose else undef,λj B=>?_⟩;simp only[ul B];exact(J j B).choose_spec
 refine⟨.sl _ C sz _ .sh b o f (dK V) (λh=>by cases h) L (λ_=>rfl) (λi e h=>?_) (λj B=>?_) (λi e j p N I=>?_),λx hx=>?_⟩
 .simp only[wh,ZZ]at h;obtain⟨s,_,rfl⟩:=h;exact A s
 .obtain⟨T,U,_⟩:=Q j (dK B);exact⟨M,T,U⟩
 .have hi:i<l.length:=(by have:=(Zw.1 N).1;simpa using this);rw[xo hi]at N;cases N;have B:j<sz:=by have:=(Zw.1 I).1;rwa[A]at this
  have:i*sz+j<l.length*sz:=(by have:=Wu sz (show i+1<=l.length from hi);rw[W7]at this;omega);exact(Q _ this).2.2 i j hi p rfl I
 .obtain⟨i,hi,rfl⟩:=Wp hx;exact(P i hi).2
instance : Inhabited En:=⟨⟨0,0,[]⟩⟩
end
section
variable {H:Type}{enc:TypeId×Value->H}{w:World}{base:Nat}{spare:Nat->Bool}{held:Bool}
def xp(x:Nat×Nat×Nat):PV:=.agg [.v (.int .u64 (x.1:Nat)),.v (.int .u64 (x.2.1:Nat)),.v (.int .u64 (x.2.2:Nat))]
attribute [go_sem] xp
end
end
section
def cp2(a b:Nat):PV:=.agg [.v (.int .u64 a),.v (.int .u64 b)]
def cw(n:Nat):PV:=cp2 (n/zk) (n%zk)
attribute [go_sem] cp2 cw
def kD(v:List En)(r:Nat)(j:SmV v):Cn xt 134 [vp v,.v (.int .u64 r)] (rg (zT v r)):=by
 have w:=j.2.1;refine zt func134 2 ?_;refine pw ?_;refine .rd (zbB v r a8) rfl ?_;rcases X2 r v 0 with⟨e1,e2⟩|⟨i,hi,e1,e2⟩
 .rw[e1,qC e2];exact pd
 .have u:=j.2.2 _ (XE hi);rw[e1,zh8 j.1 hi e2,wn];refine pw ?_;refine .i ?_ ?_<;>intro o<;>first|refine pw ?_|exact pd
  .exact absurd o a8
  .exact .d (Vl v[i] (j.1.1 _ (XE hi)) a8)
def zoF{r c:Nat}(u:r<zk)(j:c<zk):SmV (zl9 r c):=by have h:=zoD u j;exact⟨h.1,by have:=h.2.1;omega,λe o=>by have:=h.2.2 e o;omega⟩
def zoX(v:List En)(r c:Nat)(u:SmV v)(o:r<zk)(j:c<zk):Cn xt 74 [vp v,.v (.int .u64 r),.v (.int .u64 c)] (vp (ks zn v (zl9 r c))):=by
 have h:=zdc v (zl9 r c) u (zoF o j);refine zt func74 3 ?_;refine pw ?_;refine .c (zjT r [⟨c,c⟩] (zmc j) b6) ?_
 (first|exact .d (h)|exact .q (h))
def vps(j:List (List En)):PV:=.sl (j.map λv=>[vp v]) .sh
attribute [go_sem] vps
def u10:List En:=[⟨1,4,[]⟩,⟨2,3,[]⟩]
def c10:List En:=[⟨3,0,[]⟩]
def zap(j:List Nat)(x:Nat)(B:(srt j).length<=4194304):Cn xt 131 [ns (srt j),.v (.int .u64 x)] (ns (srt (j++[x]))):=by refine yZ rfl (enters_of func131 dL rfl) λD w F E A o u=>?_;rw[zeJ o,(u 1 _ rfl).v_inv];refine(zbw D j x _ w B (u 0 _ rfl) A).mono ?_;rintro e G ⟨v,rfl,hb,C⟩;exact⟨v,rfl,hb,C⟩
def VW{v:List En}{xs:List Nat}{k:Nat}(u:v.length<=1048576)(w:xs.length<=1048576):(srt (xs++zM (v.take k))).length<=4194304:=by have j:=ju (xs++zM (v.take k));have o:(v.take k).length<=1048576:=V0 (tf _ _) u;simp only[zM,wi,wB]at j o;simp only[zM];omega
def YH{v:List En}{k:Nat}(h:k<v.length):zM (v.take (k+1))=zM (v.take k)++[v[k].rep]:=by unfold zM;rw[X4 h,WK];rfl
def zcC(a b:List En)(op:Nat)(ho:op<3)(B:SmV a)(hb:SmV b):Cn xt 96 [vp a,vp b,.v (.int .i64 op)] (vp (ks (Qj op) a b)):=by
 have M:=B.2.1;have N:=hb.2.1;have O:Qj op false false=false:=by
  match op,ho with
  |0,_=>rfl
  |1,_=>rfl
  |2,_=>rfl
 refine zhs func96 [] 3 dL rfl (by simp[go_sem,seval]) 14 (.dr [⟨(some 47),none,(.mv (.t 7))⟩,⟨(some 48),none,(.mv (.t 11))⟩,⟨(some 49),none,(.ia (.t 47) (.t 48) 1)⟩,⟨(some 50),none,(.ld (.t 49) false 1)⟩,⟨(some 51),none,(.mv (.t 0))⟩,⟨(some 52),none,(.mv (.t 7))⟩,⟨(some 53),none,(.mv (.t 11))⟩,⟨(some 54),none,(.ia (.t 52) (.t 53) 1)⟩,⟨(some 55),none,(.ld (.t 54) false 1)⟩,⟨(some 56),none,(.ca 134 [(.t 51),(.t 55)])⟩,⟨(some 57),none,(.mv (.t 1))⟩,⟨(some 58),none,(.mv (.t 7))⟩,⟨(some 59),none,(.mv (.t 11))⟩,⟨(some 60),none,(.ia (.t 58) (.t 59) 1)⟩,⟨(some 61),none,(.ld (.t 60) false 1)⟩,⟨(some 62),none,(.ca 134 [(.t 57),(.t 61)])⟩,⟨(some 63),none,(.mv (.t 2))⟩,⟨(some 64),none,(.ca 133 [(.t 56),(.t 62),(.t 63)])⟩,⟨(some 65),none,(.ca 132 [(.t 50),(.t 64)])⟩,⟨(some 46),none,(.mv (.t 65))⟩,⟨(some 66),none,(.ex (.t 46) 0)⟩,⟨(some 67),none,(.ex (.t 46) 1)⟩] [⟨(some 12),none,(.al [(.v (.int .u64 0)),(.v (.int .u64 0)),(.sl [] .sh)])⟩,⟨none,none,(.st (.t 12) (.t 66) 3)⟩,⟨(some 13),none,(.mv (.t 67))⟩]) rfl dL ?_
 conv=>enter [4,6];(unfold xN;simp only[Tryz.f96])
 simp only[pcT,Nat.reduceEqDiff,U0,UM,reduceIte];repeat (conv in (zgV _ _ _ _ _ _)=>cbv)
 repeat (conv in (zgW _)=>cbv)
 conv=>enter [5,1];cbv
 refine pw ?_;refine pLoop.go (λk=>k<=a.length) (λk=>[(7,ns (srt ([]++zM (a.take k)))),(8,.v (.int .i64 (k:Nat)))]) (λ_=>[]) (λk=>a.length-k) 0 [7,8] ?_ ?_ ?_
 .exact X3 _
 .simp only[Wb,zM,ub,Wc,XB];exact pd
 ·rintro k hk;refine pw ?_;refine .i ?_ ?_<;>intro h<;>first|refine pw ?_|exact pd
  .refine .c (zap ([]++zM (a.take k)) a[k].rep (VW (xs:=[]) M b6)) ?_;refine⟨k+1,h,a8,?_,rfl⟩;rw[YH h]
  ·rw [show k=a.length by omega,Wr];refine pLoop.go (λk=>k<=b.length) (λk=>[(7,ns (srt (zM a++zM (b.take k)))),(9,.v (.int .i64 (k:Nat)))]) (λ_=>[]) (λk=>b.length-k) 0 [7,9] ?_ ?_ ?_
   .exact X3 _
   .simp only[Wb,zM,ub,Wc];exact pd
   .rintro k hk;refine pw ?_;refine .i ?_ ?_<;>intro F<;>first|refine pw ?_|exact pd
    .refine .c (zap (zM a++zM (b.take k)) b[k].rep (VW (xs:=zM a) N (by simp[zM];omega))) ?_;refine⟨k+1,F,a8,?_,rfl⟩;rw[YH F,wU]
    .rw[show k=b.length by omega,Wr];obtain⟨L,A⟩:=xm (srt (zM a++zM b));have I:L.length<=2097152:=by have E:=ju (zM a++zM b);simp only[zM,wi,wB]at E;rw[A];simp only[zM];omega
     have J:∀r∈L,r<zk:=(by rw[A];exact Xr B.1 hb.1);have u:ks (Qj op) a b=L.filterMap (vE (Qj op) a b):=(by rw[A];rfl);rw[<-A,u];clear u A;refine pLoop.go (λk=>k<=L.length) (λk=>[(10,.sl (((L.take k).filterMap (vE (Qj op) a b)).map ec) (.r 72 3)),(11,.v (.int .i64 (k:Nat)))]) (λ_=>[]) (λk=>L.length-k) 0 [10,11,72] ?_ ?_ ?_
     .exact X3 _
     .simp only[Wb,UU,ub];exact pd
     .rintro k hk;have H:((L.take k).filterMap (vE (Qj op) a b)).length<=k:=V0 (Uf _ _) a9;refine pw ?_;refine .i ?_ ?_<;>intro C<;>first|refine pw ?_|exact pd
      .have ka:=qS B L[k];have kb:=qS hb L[k];have K:(qy (Qj op) (zT a L[k]) (zT b L[k])).length<=80100:=(by have E:=xR (Qj op) (zT a L[k]) (zT b L[k]);omega);have j:=zg1 L[k] (qy (Qj op) (zT a L[k]) (zT b L[k])) (qH ka.1 kb.1) a8;have w:=KZ (f:=Qj op) (a:=a) (b:=b) C;obtain⟨e,ok,G⟩:∃e ok,Qi L[k] (qy (Qj op) (zT a L[k]) (zT b L[k]))=(e,ok):=⟨_,_,rfl⟩;rw[zac G]at w;rw[G]at j;refine .c (kD a L[k] B) ?_;refine .c (kD b L[k] hb) ?_;refine .c (zhw (zT a L[k]) (zT b L[k]) op ka.1 kb.1 ho a8 a8) ?_;cases ok with
       | true=>
         (first|refine .c (j) ?_|refine .o (j) ?_)
         refine⟨k+1,C,a8,?_,rfl⟩;rw[w];simp;rfl
       | false=>
         (first|refine .c (j) ?_|refine .o (j) ?_)
         refine⟨k+1,C,a8,?_,rfl⟩;rw[w];simp
      .rw[show k=L.length by omega,Wr]
def zq7(r c:Nat)(j:c<zk):Cn xt 125 [.v (.int .u64 r),.v (.int .u64 c)] (vp (zl9 r c)):=by refine zt func125 2 ?_;refine pw ?_;refine .c (zg1 r [⟨c,c⟩] (zmc j) b6) ?_;rfl
def WV.smv{C:Qk}{R:List Nat}{v:List En}(h:WV C R v)(ok:OkC C R):SmV v:=(h.bv ok.1 ok.2).mono (Zp _) a8
def kH{D:xT}{w:World}{x:Value}{u:List (List PV)}{o:Ow}(h:Dat D w x (.sl u o)):∃s:Sv,x=sv s/\s.2.1=u.length:=by obtain⟨A,j,sz,b,B,f,e1,_⟩:=(Rel.dat (ρ:=λ_=>0) (nb:=0) h).inv_sl;exact⟨(A,u.length,j),e1,rfl⟩
def kX{D:xT}{P:Nat}{w:World}{v:Value}{k:List Fg}(h:Dat D w v (kp k))(Q:∀b o,D b o->b<P):
 ∃a A E,v=.slice a k.length A/\∃G:E.length=k.length,zeF P w a A E/\∀i (h:i<E.length),Dat D w (sv E[i].1) (rg (k[i]'(G▸h)).items)/\Dat D w (sv E[i].2) (vp (k[i]'(G▸h)).vec):=by
 unfold kp at h;generalize O:k.map fc=es at h;cases h with
 | sl a A sz es o b off u hc hz hm ha hsz hd hx=>
   have G:es.length=k.length:=(by rw[<-O];simp);have g:∀i (h:i<k.length),es[i]?=some (fc k[i]):=λi h=>(by rw[<-O];exact xo h);have C:∀i,i<k.length->∃f:Fv,∀h:i<k.length,(sz=2/\u (i*2)=sv f.1/\u (i*2+1)=sv f.2)/\Dat D w (sv f.1) (rg k[i].items)/\Dat D w (sv f.2) (vp k[i].vec):=λi hi=>(by obtain rfl:2=sz:=hsz i _ (g i hi);have d0:Dat D w (u (i*2+0)) (rg k[i].items):=hx i _ 0 _ (g i hi) rfl;have J:Dat D w (u (i*2+1)) (vp k[i].vec):=hx i _ 1 _ (g i hi) rfl;obtain⟨S,I,_⟩:=kH d0;obtain⟨T,e1,_⟩:=kH J;rw[I]at d0;rw[e1]at J;exact⟨(S,T),λ_=>⟨⟨rfl,I,e1⟩,d0,J⟩⟩);obtain⟨F,hF⟩:=Go.Deep.choose_lt C;refine⟨a,A,(List.range k.length).map F,by rw[G],b6,⟨a9,hm,λH=>?_⟩,λi hi=>?_⟩
   .have B:0<k.length:=by
     rcases Wl k.length with K|K
     .rw[K]at H;simp at H
     .exact K
    obtain⟨⟨rfl,_⟩,_⟩:=hF 0 B B;have L:es≠[]:=(by intro e;subst e;simp at G;omega);refine⟨b,off,ha L,Q _ _ (hd 0 a8).1,λi hi=>?_⟩;have j:i<k.length:=(dK hi);obtain⟨⟨_,I,e1⟩,_⟩:=hF i j j;have M:=(hd (i*2) a8).2.1;have N:=(hd (i*2+1) a8).2.1;rw[I]at M;rw[e1]at N;simp only[UC,UV];exact⟨M,N⟩
   .have j:i<k.length:=(dK hi);simp only[UC,UV];exact(hF i j j).2
def zez{j:Nat->Bool}{p:Nat×Fv}:∀{l:List Fv}{n:Nat},p∈wl j n l->∃h:p.1-n<l.length,n<=p.1/\p.2=l[p.1-n]/\j p.1=true
 |[],n,h=>by cases h
 | f::l,n,h=>by
   unfold wl at h;have o:p∈wl j (n+1) l->∃h:p.1-n<(f::l).length,n<=p.1/\p.2=(f::l)[p.1-n]/\j p.1=true:=λh=>by obtain⟨A,B,u,w⟩:=zez h;refine⟨a9,a8,?_,w⟩;rw[u];have e:p.1-n=(p.1-(n+1))+1:=a8;simp only[e,WQ]
   split at h
   .rename_i hh;rcases V3.1 h with rfl|h
    .exact⟨b6,Zp _,b6,hh⟩
    .exact o h
   .exact o h
def Yp{α:Type}{k:List Fg}{u:List Fv}(A:u.length=k.length)(item:Nat)(step:α->Nat->Fg->α)(o:α):
 (wl (λj=>mem (k.getD j default).items item) 0 u).foldl (λa p=>step a p.1 (k.getD p.1 default)) o=(withF item 0 k).foldl (λa p=>step a p.1 p.2) o:=by
 have w:∀j,j<=k.length->(wl (λj=>mem (k.getD j default).items item) 0 (u.take j)).foldl (λa p=>step a p.1 (k.getD p.1 default)) o=(withF item 0 (k.take j)).foldl (λa p=>step a p.1 p.2) o:=by
  intro j;induction j with
  |zero=>intro _;rfl
  | succ j ih=>
    intro B;rw[XF a8,j9 item a8,W5,W5,ih a8];have e:k.getD j default=k[j]:=(by simp[vj,Zv (show j<k.length by omega)]);simp only[e];split
    .show step _ j (k.getD j default)=step _ j k[j];rw[e]
    .rfl
 have:=w k.length (Zp _)
 rwa[<-A,Wr,A,Wr]at this
def V8(k:List Fg)(i:Nat):PV:=.fn (.func 120) [] [.cp [kp k] 0,.cp [.v (.int .u64 i)] 0]
attribute [go_sem] V8
def zfB(k:List Fg)(i:Nat):Cn xt 86 [kp k,.v (.int .u64 i)] (V8 k i):=by refine zt func86 2 ?_;exact pd
def zjy(v:List En)(i:Nat)(f:Fg)(o:SmV v)(j:SmV f.vec):Cn xt 145 [vp v,.v (.int .i64 i),fp f] (vp (ks zn v f.vec)):=by refine zt func145 3 ?_;refine pw ?_;exact .d (zdc v f.vec o j)
def InvD{α:Type}(D0:xT)(n:Nat)(pv:α->PV)(P:α->Prop)(W:World)(u:Value)(a:α):Prop:=
 P a/\∃D:Nat->Nat->Prop,GL D W/\(∀b o,D b o->b<W.heap.size/\b≠n/\b≠n+2/\b≠n+3)/\(∀b o,D b o->D0 b o\/n<=b)/\(∀b o,D0 b o->D b o)/\Dat D W u (pv a)
section
variable {α:Type}{D0:xT}{pv:α->PV}{P:α->Prop}{w W A B:World}{u:Value}{a:α}
def InvD.start{A:Value}(B:Dat D0 w A (.sl [] .sh))(C:GL D0 w)(j:∀b o,D0 b o->b<w.heap.size)(hb:Below w.heap.size w W)(E:P a)(G:pv a=.sl [] .sh):InvD D0 w.heap.size pv P W A a:=by
 have u:∀b o x,D0 b o->w.cell? ⟨b,o,none⟩=some x->W.cell? ⟨b,o,none⟩=some x:=λb o x F H=>(hb.cell (p:=⟨b,o,none⟩) (j b o F)).trans H;refine⟨E,D0,C.mono (λ_ _ h=>h) u,λb o h=>?_,λ_ _ h=>.inl h,λ_ _ h=>h,?_⟩
 .have:=j b o h;have:=hb.size;exact⟨a8,a8,a8,a8⟩
 .rw[G];exact B.mono (λ_ _ h=>h) u
def InvD.shape{n:Nat}(h:InvD D0 n pv P W u a)(A:∃j,pv a=.sl j .sh):∃w n c,u=.slice w n c:=by obtain⟨_,D,_,_,_,_,o⟩:=h;obtain⟨j,e⟩:=A;rw[e]at o;obtain⟨s,rfl,_⟩:=kH o;exact⟨_,_,_,rfl⟩
def InvD.keep{n:Nat}(h:InvD D0 n pv P A u a)(hk:Keep (λk=>k=n\/k=n+2\/k=n+3) A B):InvD D0 n pv P B u a:=by
 obtain⟨I,D,E,w,F,G,H⟩:=h;have C:∀b o x,D b o->A.cell? ⟨b,o,none⟩=some x->B.cell? ⟨b,o,none⟩=some x:=λb o x j J=>
  (tp (a:=⟨b,o,none⟩) (hk.block b (w b o j).1 (by have:=w b o j;omega))).trans J
 exact⟨I,D,E.mono (λ_ _ h=>h) C,λb o j=>⟨vw (w b o j).1 hk.size,(w b o j).2⟩,F,G,H.mono (λ_ _ h=>h) C⟩
def zhD{D:xT}{f:Fv}{g:Fg}(o:Dat D w (sv f.1) (rg g.items))(u:Dat D w (sv f.2) (vp g.vec)):Dat D w (.agg #[sv f.1,sv f.2]) (fp g):=by
 refine .agg _ _ rfl (λi hi=>?_) λi p j=>?_
 .match i,hi with
  |0,_=>rfl
  |1,_=>rfl
 .match i,j with
  |0,j=>cases j;exact o
  |1,j=>cases j;exact u
  |i+2,j=>simp[fc]at j
def InvD.step{I:FuncId}{i:Nat}{f:Fv}{g:Fg}{G:α}(h:InvD D0 w.heap.size pv P W u a)(S:∀b o,D0 b o->b<w.heap.size)(hb:Below w.heap.size w W)(hs:w.heap.size+4<=W.heap.size)(O:Dat D0 w (sv f.1) (rg g.items))(Q:Dat D0 w (sv f.2) (vp g.vec))
 (U:Cn xt I [pv a,.v (.int .i64 i),fp g] (pv G)) (T:P G) :
 Calls xt I #[u,.int .i64 (i:Nat),.agg #[sv f.1,sv f.2]] W λe F=>∃L,e=.returned L/\InvD D0 w.heap.size pv P F L G/\Keep (zaB (w.heap.size+4) W) W F:=by
 obtain⟨_,D,J,E,M,K,N⟩:=h;have V:∀b o x,D0 b o->w.cell? ⟨b,o,none⟩=some x->W.cell? ⟨b,o,none⟩=some x:=λb o x C H=>(hb.cell (p:=⟨b,o,none⟩) (S b o C)).trans H;refine(jP U J (λb o h=>(E b o h).1) rfl (λj p A=>?_)).mono ?_
 .match j,A with
  |0,A=>cases A;exact N
  |1,A=>cases A;exact .v _
  |2,A=>cases A;exact(zhD O Q).mono K V
  |j+3,A=>simp at A
 .rintro e F ⟨v,rfl,B,C⟩;refine⟨v,rfl,⟨T,_,J.mono (λ_ _ h=>.inl h) λb o x C H=>(B.cell (p:=⟨b,o,none⟩) (E b o C).1).trans H,λb o h=>?_,λb o h=>?_,λb o h=>.inl (K b o h),C⟩,Keep.of_below' B (Zp _)⟩
  .rcases h with h|h
   .exact⟨vw (E b o h).1 B.size,(E b o h).2⟩
   .exact⟨h.2,a8,a8,a8⟩
  .rcases h with h|h
   .exact M b o h
   .exact .inr a8
def InvD.done(h:InvD D0 w.heap.size pv P W u a):Dat (λb o=>D0 b o\/(w.heap.size<=b/\b<W.heap.size)) W u (pv a):=by obtain⟨_,D,E,j,A,F,B⟩:=h;exact B.mono (λb o h=>(A b o h).imp id λC=>⟨C,(j b o h).1⟩) λ_ _ _ _ h=>h
end
def zcx{D:xT}{w:World}{x:Value}{p:PV}(h:Dat D w x (.cp [p] 0)):∃b o y,x=.pointer (some ⟨b,o,none⟩)/\D b o/\w.cell? ⟨b,o,none⟩=some y/\Dat D w y p:=by obtain⟨b,j,f,e,u,A⟩:=(Rel.dat (ρ:=λ_=>0) (nb:=0) h).inv_cp;have:=u 0 b6;exact⟨b,j,f 0,e,dK this.1,dK this.2.1,A 0 p rfl⟩
def zbU{D:xT}{w:World}{x:Value}{k:List Fg}{i:Nat}(h:Dat D w x (V8 k i)):∃bk ok j oi v,x=.func (.func 120) #[] #[.pointer (some ⟨bk,ok,none⟩),.pointer (some ⟨j,oi,none⟩)]/\D bk ok/\D j oi/\w.cell? ⟨bk,ok,none⟩=some v/\w.cell? ⟨j,oi,none⟩=some (.int .u64 (i:Nat))/\Dat D w v (kp k):=by
 unfold V8 at h;cases h with
 | fn f va vb fs cs h1 h2 h3 h4=>
   rw[Ut.1 h1];obtain⟨l⟩:=vb;match l,h2 with
   |[y,z],_=>obtain⟨bk,ok,v,e1,B,A,E⟩:=zcx (h4 0 _ rfl);obtain⟨j,oi,u,e2,C,o,F⟩:=zcx (h4 1 _ rfl);rw[F.v_inv]at o;simp at e1 e2;subst e1 e2;exact⟨bk,ok,j,oi,v,rfl,B,C,A,o,E⟩
def zfQ{D:xT}{w:World}{x:Value}(h:Dat D w x (.sl [] .sh)):∃j c,x=.slice j 0 c:=by obtain⟨⟨a,n,c⟩,rfl,e⟩:=kH h;simp only[Wt]at e;subst e;exact⟨a,c,rfl⟩
def QW(k:List Fg):Prop:=k.length<=1152921504606846976/\∀f∈k,f.items.length<=1152921504606846976/\f.vec.length<=1152921504606846976/\∀e∈f.vec,e.holes.length<=1152921504606846976
def YM{D:xT}{w:World}{k:List Fg}{i bk ok C oi:Nat}{a:Option Addr}{cap:Nat}{fs:List Fv}(hr:RightK k)(hz:QW k)(hG:GL D w)(K:∀b o,D b o->b<w.heap.size)(X:D bk ok)(Y:D C oi)(U:w.cell? ⟨bk,ok,none⟩=some (.slice a k.length cap))(V:w.cell? ⟨C,oi,none⟩=some (.int .u64 (i:Nat)))
 (J:fs.length=k.length) (H:zeF w.heap.size w a cap fs) (M:∀j (h:j<fs.length),Dat D w (sv fs[j].1) (rg (k[j]'(J▸h)).items)/\Dat D w (sv fs[j].2) (vp (k[j]'(J▸h)).vec)) {W:World} (hb:Below w.heap.size w W) :
 v7 xt 120 #[.pointer (some ⟨bk,ok,none⟩),.pointer (some ⟨C,oi,none⟩)] Y4 (λ_=>False) (PtF w.heap.size bk C) (wl (λj=>mem (k.getD j default).items i) 0 fs) W:=by
 have P:∀b o x,D b o->w.cell? ⟨b,o,none⟩=some x->W.cell? ⟨b,o,none⟩=some x:=λb o x B Q=>(hb.cell (p:=⟨b,o,none⟩) (K b o B)).trans Q;refine zew fs _ a cap bk ok C oi w.heap.size i W ?_ (by rw[J];exact P _ _ _ X U) (P _ _ _ Y V) hb.size λw' j E G O=>?_
 .obtain⟨Z,h2,h3⟩:=H;refine⟨Z,h2,λN=>?_⟩;obtain⟨b,A,e1,e2,S⟩:=h3 N;exact⟨b,A,e1,e2,λj E=>⟨(hb.cell (p:=⟨b,A+j*2,none⟩) e2).trans (S j E).1,(hb.cell (p:=⟨b,A+j*2+1,none⟩) e2).trans (S j E).2⟩⟩
 .have I:∀b o x,D b o->w.cell? ⟨b,o,none⟩=some x->w'.cell? ⟨b,o,none⟩=some x:=λb o x B Q=>(tp (a:=⟨b,o,none⟩) (G b (K b o B))).trans (P b o x B Q);have F:j<k.length:=J▸E;have T:=XE F;have e:k.getD j default=k[j]:=(by rw[vj,Zv F];rfl);simp only[e];refine(jP (ziQ k[j].items i (hr _ T).1 (hz.2 _ T).1) (hG.mono (λ_ _ h=>h) I) (λb o h=>vw (K b o h) O) rfl (λt p u=>?_)).mono ?_
  .match t,u with
   |0,u=>cases u;exact(M j E).1.mono (λ_ _ h=>h) I
   |1,u=>cases u;exact .v _
   |t+2,u=>simp at u
  .rintro e W' ⟨v,rfl,L,B⟩;rw[B.v_inv];exact⟨rfl,L⟩
def is(l:List Nat):PV:=.sl (l.map λx=>[.v (.int .i64 (x:Nat))]) .sh
attribute [go_sem] is
def zfl{k:List Fg}{j:Nat}(h:j<k.length):k.getD j default=k[j]:=by rw[vj,Zv h];rfl
def zf9{α:Type}{pre j:List α}{p:α}(h:pre++[p] <+: j):p∈j:=h.subset b6
def zfk{C:Qk}{R:List Nat}(k:List Fg)(i:Nat)(hk:IK C R k)(ok:OkC C R)(hr:RightK k)(hs:∀f∈k,SmV f.vec)(hz:QW k):
 Cn xt 144 [V8 k i,.sl [] .sh,.fn (.func 145) [] []] (vp (qc k i)):=by
 refine yZ rfl (enters_of func144 dL rfl) λD w vs X E S L=>?_;obtain⟨bk,ac,bi,oi,v,e0,T,U,c1,c2,M⟩:=zbU (L 0 _ rfl);obtain⟨a,ab,V,rfl,N,I,F⟩:=kX M E;have j:=L 1 _ rfl;obtain⟨J,K,e1⟩:=zfQ j;rw[e1]at j;rw[zjx S,e0,e1,zcA (L 2 _ rfl)];refine(X8 120 _ bk bi _ w J K (enters_of func120 dL rfl) (λW hb=>YM hr hz X E T U c1 c2 N I F hb) (E _ _ T) (E _ _ U)
  (InvD D w.heap.size vp (WV C R)) (λo p=>ks zn o (k.getD p.1 default).vec) [] (λW hb=>InvD.start j X E hb WV.nil rfl) (λW u a h=>h.shape ⟨_,rfl⟩) (λA B u a h hk=>h.keep hk) λW u pre p H Q hb h=>?_).mono ?_
 .obtain⟨O,_,P,_⟩:=zez (zf9 H);have Y:p.1<V.length:=(dK O);have G:p.1<k.length:=N▸Y;have Z:=XE G;have q:=F p.1 Y;have e:p.2=V[p.1]:=(by rw[P];simp);rw[zfl G,e];exact h.step E hb Q q.1 q.2 (zjy _ p.1 k[p.1] (h.1.smv ok) (hs _ Z)) (h.1.iv.lat fU0 (hk _ Z))
 .rintro e w' ⟨u,rfl,hI,hb⟩;have h:=hI.done;rw[Yp N i (λo _ f=>ks zn o f.vec) []]at h;exact⟨u,rfl,hb,h⟩
def zdx{D:xT}{base:Nat}{w:World}{v:Value}{l:List Nat}(h:OwnI base w v l)(H:∀b o,base<=b->b<w.heap.size->D b o):Dat D w v (is l):=by
 unfold is;have u:(l.map λx=>[PV.v (.int .i64 (x:Nat))]).length=l.length:=b6
 rcases id h.2 with⟨rfl,G⟩|⟨g,B,F,rfl,J,K,L,I,_⟩
 .obtain rfl:l=[]:=wY.1 G;exact .sl none 0 1 [] .sh 0 0 (λ_=>undef) b6 (λh=>by cases h) c8 (λh=>absurd rfl h) (λi e h=>by simp at h) (λj h=>by simp at h) (λi e j p h=>by simp at h)
 .rw[<-u];refine .sl _ B 1 _ .sh g 0 (λj=>.int .i64 (l.getD j 0:Nat)) (dK L) (λh=>by cases h) I (λ_=>rfl) (λi e h=>?_) (λj E=>?_) (λi e j p C A=>?_)
  .simp only[wh,ZZ]at h;obtain⟨s,_,rfl⟩:=h;rfl
  .simp only[wB,Uk]at E;refine⟨H _ _ J (Yf.1 K).1,?_,rfl⟩;rw[wn,h.cellAt _ (dK E)];simp[E]
  .have hi:i<l.length:=(by have:=(Zw.1 C).1;simpa using this);rw[wh,Zv hi]at C;cases C;match j,A with
   |0,A=>cases A;simp[hi];exact .v _
   |j+1,A=>simp at A
def zbj(l:List (Nat×Fv)):∀a:List Nat,l.foldl (λo p=>o++[p.1]) a=a++l.map Prod.fst:=by
 induction l with
 |nil=>intro a;simp
 |cons p l ih=>intro a;rw[WU,ih];simp
def JV(l:List (Nat×Fg)):∀a:List Nat,l.foldl (λo p=>o++[p.1]) a=a++l.map Prod.fst:=by
 induction l with
 |nil=>intro a;simp
 |cons p l ih=>intro a;rw[WU,ih];simp
def zey(j:Nat->Bool):∀(n:Nat)(l:List Fv),(wl j n l).length<=l.length
 |_,[]=>Zp _
 | n,f::l=>by
   have:=zey j (n+1) l;unfold wl;split<;>simp<;>omega
def K9(k:List Fg)(i:Nat)(hr:RightK k)(hz:QW k)(ab:k.length<=1073741824):Cn xt 143 [kp k,.v (.int .u64 i)] (is (zU k i)):=by
 refine yZ rfl (enters_of func143 dL rfl) λD w vs hG T Z O=>?_;obtain⟨a,H,fs,e0,hl,J,L⟩:=kX (O 0 _ rfl) T;rw[zeJ Z,e0,(O 1 _ rfl).v_inv];obtain⟨C,G⟩:=xn ((w.alloc (.cells #[.slice a k.length H] 54)).alloc (.cells #[.int .u64 (i:Nat)] 36));have ad:C.heap.size=w.heap.size+2:=by rw[<-G];simp
 have b1:Below w.heap.size w C:=by rw[<-G];exact((tv _ _).alloc (Zp _) _).alloc b6 _
 have x1:Boxed C w.heap.size 54 (.slice a k.length H):=by rw[<-G];exact(tX w _ _).alloc _
 have x2:Boxed C (w.heap.size+1) 36 (.int .u64 (i:Nat)):=by rw[<-G];have:=tX (w.alloc (.cells #[.slice a k.length H] 54)) 36 (.int .u64 (i:Nat));rw[tx]at this;exact this
 have I:∀b o x,D b o->w.cell? ⟨b,o,none⟩=some x->C.cell? ⟨b,o,none⟩=some x:=λb o x O hx=>(b1.cell (p:=⟨b,o,none⟩) (T b o O)).trans hx;obtain⟨E,K⟩:∃E:Nat->Nat->Prop,E=λb o=>D b o\/(w.heap.size<=b/\b<C.heap.size):=⟨_,rfl⟩;have N:∀b o,E b o->b<C.heap.size:=λb o h=>by rw[K]at h;exact h.elim (λh=>by have:=T b o h;omega) uf
 have F:Calls xt 178 #[.func (.func 120) #[] #[.pointer (some ⟨w.heap.size,0,none⟩),.pointer (some ⟨w.heap.size+1,0,none⟩)],.slice none 0 0,.func (.func 179) #[] #[]] C λe U=>∃u,e=.returned u/\OwnI (C.heap.size+4) U u (zU k i)/\Below C.heap.size C U:=by
  refine(X7 120 _ w.heap.size (w.heap.size+1) _ C none 0 (enters_of func120 dL rfl) (λW hb=>YM (D:=E) (a:=a) (cap:=H) (fs:=fs) hr hz (hG.mono (λb o h=>by rw[K];exact .inl h) I) N (by rw[K];exact .inr a8) (by rw[K];exact .inr a8) x1.cell x2.cell hl ?_ (λj P=>⟨(L j P).1.mono (λb o h=>by rw[K];exact .inl h) I,(L j P).2.mono (λb o h=>by rw[K];exact .inl h) I⟩) hb) a8 a8
   (λW u l=>OwnI (C.heap.size+4) W u l) (λo p=>o++[p.1]) [] (λW _=>OwnI.nil _ _) (λW u a h=>h.shape) (λA B u a h hk=>h.keep hk λg hg _=>a8) λW u pre p Q ae hb h=>?_).mono ?_
  .obtain⟨S,V,h3⟩:=J;refine⟨S,V,λY=>?_⟩;obtain⟨b,M,e1,e2,e3⟩:=h3 Y;exact⟨b,M,e1,a8,λj P=>⟨(b1.cell (p:=⟨b,M+j*2,none⟩) e2).trans (e3 j P).1,(b1.cell (p:=⟨b,M+j*2+1,none⟩) e2).trans (e3 j P).2⟩⟩
  .have ac:pre.length<=k.length:=(by have S:=Q.length_le;have V:=zey (λj=>mem (k.getD j default).items i) 0 fs;simp only[wi,ww,Wt]at S;omega);refine JY (C.heap.size+4) W u _ p.1 _ _ h a8 ?_;rw[zbj];simp;omega
  .rintro e U ⟨u,rfl,hI,hb⟩;rw[Yp hl i (λo j _=>o++[j]) [],JV,Y1]at hI;exact⟨u,rfl,hI,hb⟩
 have HF:=qL F;have HB:=qL b1;clear F b1 x1 x2 I K N J L O hG T;go_enter func143,ntmps143
 go_wp2_with (first
  |(go_at_call 86;refine(zex _ _ _ _ _).mono ?_;rintro e U ⟨rfl,rfl⟩;rw[G])
  |(go_at_call 178;refine HF.o.mono ?_;rintro e w2 ⟨u,rfl,ho,X⟩;obtain⟨au,nu,cu,rfl⟩:=ho.shape))
 go_ret;exact⟨_,rfl,HB.o.trans (X.mono a8),zdx ho λb o S V=>.inr a8⟩
def zl6{β:Type}(q:β->Bool):∀(l:List β)(b:Bool),l.foldl (λb x=>b || q x) b=(b || l.any q)
 |[],b=>b6
 |x::l,b=>by rw[WU,zl6 q l,ut,UF]
def zo7{k:List Fg}{o:List Fv}(A:o.length=k.length)(item:Nat)(q:Fg->Bool):
 (wl (λj=>mem (k.getD j default).items item) 0 o).any (λp=>q (k.getD p.1 default))=(withF item 0 k).any λp=>q p.2:=by
 have h:=Yp A item (λb _ f=>b || q f) false;have u:=zl6 (λp:Nat×Fv=>q (k.getD p.1 default)) (wl (λj=>mem (k.getD j default).items item) 0 o) false;have w:=zl6 (λp:Nat×Fg=>q p.2) (withF item 0 k) false;rw[uA]at u w;rw[<-u,<-w];exact h
def zoW(k:List Fg)(i r c:Nat)(hr:RightK k)(hc:c<zk)(hz:QW k):Cn xt 46 [kp k,.v (.int .u64 i),.v (.int .u64 r),.v (.int .u64 c)] (.v (.bool (hasK k i r c))):=by
 refine yZ rfl (enters_of func46 dL rfl) λD w vs hG K Z A=>?_;obtain⟨a,G,S,e0,T,N,M⟩:=kX (A 0 _ rfl) K;have ab:vs=#[.slice a k.length G,.int .u64 (i:Nat),.int .u64 (r:Nat),.int .u64 (c:Nat)]:=by
  have q1:=(A 1 _ rfl).v_inv;have q2:=(A 2 _ rfl).v_inv;have q3:=(A 3 _ rfl).v_inv;obtain⟨l⟩:=vs;match l,Z with
  |[x,y,z,t],_=>simp at e0 q1 q2 q3;rw[e0,q1,q2,q3]
 rw[ab];refine(zn5 a k.length G i r c (wl (λj=>mem (k.getD j default).items i) 0 S) (λp=>mem (zT (k.getD p.1 default).vec r) c) w (λW C ac c3 c4=>?_) λW p E hb=>?_).mono ?_
 .have U:∀b o x,D b o->w.cell? ⟨b,o,none⟩=some x->W.cell? ⟨b,o,none⟩=some x:=λb o x A Q=>(tp (a:=⟨b,o,none⟩) (C b (K b o A))).trans Q;refine zew S _ a G _ 0 _ 0 w.heap.size i W ?_ (by rw[T];exact c3) c4 a8 λw' j F I O=>?_
  .obtain⟨h1,h2,h3⟩:=N;refine⟨h1,h2,λV=>?_⟩;obtain⟨b,J,e1,e2,e3⟩:=h3 V;exact⟨b,J,e1,e2,λj F=>⟨(tp (a:=⟨b,J+j*2,none⟩) (C b e2)).trans (e3 j F).1,(tp (a:=⟨b,J+j*2+1,none⟩) (C b e2)).trans (e3 j F).2⟩⟩
  .have P:∀b o x,D b o->w.cell? ⟨b,o,none⟩=some x->w'.cell? ⟨b,o,none⟩=some x:=λb o x A Q=>(tp (a:=⟨b,o,none⟩) (I b (K b o A))).trans (U b o x A Q);have B:j<k.length:=T▸F;have L:=XE B;simp only[zfl B];refine(jP (ziQ k[j].items i (hr _ L).1 (hz.2 _ L).1) (hG.mono (λ_ _ h=>h) P) (λb o h=>vw (K b o h) O) rfl (λt p E=>?_)).mono ?_
   .match t,E with
    |0,E=>cases E;exact(M j F).1.mono (λ_ _ h=>h) P
    |1,E=>cases E;exact .v _
    |t+2,E=>simp at E
   .rintro e W' ⟨v,rfl,H,A⟩;rw[A.v_inv];exact⟨rfl,H⟩
 .have U:∀b o x,D b o->w.cell? ⟨b,o,none⟩=some x->W.cell? ⟨b,o,none⟩=some x:=λb o x A Q=>(hb.cell (p:=⟨b,o,none⟩) (K b o A)).trans Q;obtain⟨X,_,Y,_⟩:=zez E;have F:p.1<S.length:=(dK X);have B:p.1<k.length:=T▸F;have L:=XE B;have e:p.2=S[p.1]:=(by rw[Y];simp);simp only[zfl B,e];refine(jP (zo6 k[p.1].vec r c (hr _ L).2 hc (hz.2 _ L).2.1 (hz.2 _ L).2.2) (hG.mono (λ_ _ h=>h) U) (λb o h=>vw (K b o h) hb.size) rfl (λt p' u=>?_)).mono ?_
  .match t,u with
   |0,u=>cases u;exact(M p.1 F).2.mono (λ_ _ h=>h) U
   |1,u=>cases u;exact .v _
   |2,u=>cases u;exact .v _
   |t+3,u=>simp at u
  .rintro e W' ⟨v,rfl,H,A⟩;rw[A.v_inv];exact⟨rfl,H⟩
 .rintro e w' ⟨rfl,hb⟩;rw[zo7 T i (λf=>mem (zT f.vec r) c),jh];exact⟨_,rfl,hb,.v _⟩
def zgU{C:Qk}{R:List Nat}(k:List Fg)(i:Nat)(hk:IK C R k)(ok:OkC C R)(j:RightK k)(hs:∀f∈k,SmV f.vec)(hz:QW k):Cn xt 106 [kp k,.v (.int .u64 i)] (vp (qc k i)):=by refine zt func106 2 ?_;refine pw ?_;refine .c (zfB k i) ?_;exact .d (zfk k i hk ok j hs hz)
def zid(k:List Fg)(i r c:Nat)(F:RightK k)(E:c<zk)(hz:QW k):Cn xt 94 [kp k,.v (.int .u64 i),.v (.int .u64 r),.v (.int .u64 c)] (.v (.bool (hasK k i r c))):=by
 have H:=hz.1;refine zt func94 4 ?_;refine pw ?_;refine pLoop.go (λj=>j<=k.length/\hasK k i r c=hasK (k.drop j) i r c) (λj=>[(9,.v (.int .i64 (j:Nat)))]) (λ_=>[]) (λj=>k.length-j) 0 [9] ?_ ?_ ?_
 .exact⟨X3 _,rfl⟩
 .exact pd
 .rintro j ⟨G,w⟩;refine pw ?_;refine .i ?_ ?_<;>intro h<;>first|refine pw ?_|exact pd
  .rw[vD h]at w;have o:hasK k i r c=((mem k[j].items i && mem (zT k[j].vec r) c) || hasK (k.drop (j+1)) i r c):=w;have u:=hz.2 _ (XE h);have A:=F _ (XE h);refine pw ?_;refine .c (kU k[j].items i u.1) ?_;refine .i ?_ ?_<;>intro B<;>first|refine pw ?_|exact pd
   .refine .c (zl8 k[j].vec r c A.2 E u.2.1 u.2.2) ?_;rw[B,Bool.true_and]at o;refine .i ?_ ?_<;>intro C<;>first|refine pw ?_|exact pd
    .rw[o,C];rfl
    .rw[C,uA]at o;exact⟨j+1,⟨h,o⟩,a8,rfl⟩
   .rw[B,td,uA]at o;exact⟨j+1,⟨h,o⟩,a8,rfl⟩
  .rw[w,wA a8];rfl
def VR{C:Qk}{R:List Nat}(k:List Fg)(i:Nat)(hk:IK C R k)(ok:OkC C R)(F:RightK k)(hs:∀f∈k,SmV f.vec)(hz:QW k):Cn xt 97 [kp k,.v (.int .u64 i)] (vp (qc k i)):=by
 have E:=hz.1;refine zt func97 2 ?_;refine pw ?_;refine pLoop.go (λj=>j<=k.length) (λj=>[(5,vp (qc (k.take j) i)),(6,.v (.int .i64 (j:Nat)))]) (λ_=>[]) (λj=>k.length-j) 0 [5,6] ?_ ?_ ?_
 .exact X3 _
 .simp only[Wb,zbT];exact pd
 .rintro j B;refine pw ?_;refine .i ?_ ?_<;>intro h<;>first|refine pw ?_|exact pd
  .have o:=Ku i h;have w:=hz.2 _ (XE h);have u:=((hk.take j).at i).1.smv ok;refine pw ?_;refine .c (kU k[j].items i w.1) ?_;refine .i ?_ ?_<;>intro A<;>first|refine pw ?_|exact pd
   .rw[Vm A]at o;refine .c (zcC (qc (k.take j) i) k[j].vec 0 a8 u (hs _ (XE h))) ?_;rw[znf];exact⟨j+1,h,a8,by rw[o],rfl⟩
   .rw[Vq (by rw[A];simp)]at o;exact⟨j+1,h,a8,by rw[o],rfl⟩
  .rw[show k.take j=k from wm a8]
def refKMemb_c(k:List Fg)(i:Nat)(hz:QW k)(C:k.length<=1073741824):Cn xt 129 [kp k,.v (.int .u64 i)] (is (zU k i)):=by
 have F:=hz.1;refine zt func129 2 ?_;refine pw ?_;refine pLoop.go (λj=>j<=k.length) (λj=>[(5,.sl ((zU (k.take j) i).map λx=>[.v (.int .i64 (x:Nat))]) (.r 23 1)),(6,.v (.int .i64 (j:Nat)))]) (λ_=>[]) (λj=>k.length-j) 0 [5,6,23] ?_ ?_ ?_
 .exact X3 _
 .simp only[Wb,zU,withF,ub];exact pd
 .rintro j E;have u:=zbk (k.take j) i;have B:(zU (k.take j) i).length<=j:=(by simp at u;omega);refine pw ?_;refine .i ?_ ?_<;>intro h<;>first|refine pw ?_|exact pd
  .have o:=JX i h;have w:=hz.2 _ (XE h);refine pw ?_;refine .c (kU k[j].items i w.1) ?_;refine .i ?_ ?_<;>intro A<;>first|refine pw ?_|exact pd
   .rw[Vm A]at o;refine⟨j+1,h,a8,?_,rfl⟩;rw[o];simp
   .rw[Vq (by rw[A];simp),Wc]at o;exact⟨j+1,h,a8,by rw[o],rfl⟩
  .rw[show k.take j=k from wm a8]
def Vh(k:List Fg)(hb:BdK k)(hz:QW k):Cn xt 40 [kp k] (jS (ckK k).1 (ckK k).2):=by
 have H:=hz.1;refine zt func40 1 ?_;refine pw ?_;refine pLoop.go (λj=>j<=k.length/\ckK k=hkK j (k.drop j)) (λj=>[(9,.v (.int .i64 (j:Nat)))]) (λ_=>[]) (λj=>k.length-j) 0 [9] ?_ ?_ ?_
 .exact⟨X3 _,rfl⟩
 .exact pd
 .rintro j ⟨G,A⟩;refine pw ?_;refine .i ?_ ?_<;>intro h<;>first|refine pw ?_|exact pd
  .rw[vD h,hkK]at A;have C:=hb.1 _ (XE h);have B:=hz.2 _ (XE h);have u:=Ju (Zl k[j].items).1 (Zl k[j].items).2;have w:=Ju (jx k[j].vec).1 (jx k[j].vec).2;refine pw ?_;refine .rd (rcheck_c k[j].items C.1 B.1 (.inr (KL 2))) rfl ?_;by_cases E:(Zl k[j].items).1=0
   .rw[yk E];rw[Vq a8]at A;refine pw ?_;refine .rd (zes k[j].vec C.2.1 B.2.1 B.2.2) rfl ?_;by_cases F:(jx k[j].vec).1=0
    .rw[yk F];rw[Vq a8]at A;refine pw ?_;exact⟨j+1,⟨h,A⟩,a8,rfl⟩
    .rw[Vm F]at A;rw[A];rw[vu F]at w⊢;refine pw ?_
     (first|refine .c (w) ?_|refine .o (w) ?_)
     refine .c (jT (jx k[j].vec).1 j) ?_;exact ym _ _
   .rw[Vm E]at A;rw[A];rw[vu E]at u⊢;refine pw ?_
    (first|refine .c (u) ?_|refine .o (u) ?_)
    refine .c (jT (Zl k[j].items).1 j) ?_;exact ym _ _
  .rw[A,wA a8];exact .eq _ rfl
def zfq(a b:List Fg)(hz:QW a):Cn xt 39 [kp a,kp b] (.v (.bool (decide (a=b)))):=by
 have C:=hz.1;refine zt func39 2 ?_;refine pw ?_;refine .i ?_ ?_<;>intro u<;>first|refine pw ?_|exact pd
 .symm;rw[Wx];rintro rfl;exact u rfl
 .have B:a.length=b.length:=(dK u);clear u;refine pLoop.go (λk=>k<=a.length/\(a=b↔a.drop k=b.drop k)) (λk=>[(5,.v (.int .i64 (k:Nat)))]) (λ_=>[]) (λk=>a.length-k) 0 [5] ?_ ?_ ?_
  .exact⟨X3 _,UG⟩
  .exact pd
  .rintro k ⟨hk,o⟩;refine pw ?_;refine .i ?_ ?_<;>intro h<;>first|refine pw ?_|exact pd
   .have A:k<b.length:=a8;have j:=hz.2 _ (XE h);rw[vD h,vD A,Wi]at o;refine pw ?_;refine .c (zgI a[k].items b[k].items j.1) ?_;refine .i ?_ ?_<;>intro e<;>first|refine pw ?_|exact pd
    .symm;rw[Wx];intro w;exact e (WR Fg.items (o.1 w).1)
    .refine .c (zji a[k].vec b[k].vec j.2.1 j.2.2) ?_;refine .i ?_ ?_<;>intro e2<;>first|refine pw ?_|exact pd
     .symm;rw[Wx];intro w;exact e2 (WR Fg.vec (o.1 w).1)
     .refine⟨k+1,⟨h,?_⟩,a8,rfl⟩;rw[o];exact⟨λh=>h.2,λh=>⟨Fg.ext' e e2,h⟩⟩
   .rw[eq_comm,wG,o,wA a8,wA a8]
def zjX(a b:List Nat)(B:a.length<=1152921504606846976):Cn xt 177 [is a,is b] (.v (.bool (decide (a=b)))):=by
 refine zt func177 2 ?_;refine pw ?_;refine .i ?_ ?_<;>intro o<;>first|refine pw ?_|exact pd
 .symm;rw[Wx];rintro rfl;exact o rfl
 .have w:a.length=b.length:=(dK o);clear o;refine pLoop.go (λk=>k<=a.length/\(a=b↔a.drop k=b.drop k)) (λk=>[(13,.v (.int .i64 (k:Nat)))]) (λ_=>[]) (λk=>a.length-k) 0 [13] ?_ ?_ ?_
  .exact⟨X3 _,UG⟩
  .exact pd
  .rintro k ⟨hk,j⟩;refine pw ?_;refine .i ?_ ?_<;>intro h<;>first|refine pw ?_|exact pd
   .have u:k<b.length:=a8;rw[vD h,vD u,Wi]at j;refine pw ?_;refine .i ?_ ?_<;>intro e<;>first|refine pw ?_|exact pd
    .symm;rw[Wx];intro A;exact absurd (j.1 A).1 a8
    .refine⟨k+1,⟨h,?_⟩,a8,rfl⟩;rw[j];have e:a[k]=b[k]:=a8;exact⟨λh=>h.2,λh=>⟨e,h⟩⟩
   .rw[eq_comm,wG,j,wA a8,wA a8]
def u11:List En:=[⟨1,3,[]⟩,⟨2,0,[]⟩]
def zhj(f:Fg)(v:List En)(j:∀e∈f.vec,ZL e)(o:∀e∈v,ZL e)(u:(zv f.vec).length<=1073741824)(w:(zv v).length<=1073741824):Cn xt 172 [fp f,vp v] (.v (.int .i64 (zZ (zv f.vec) (zv v)))):=by refine zt func172 2 ?_;refine pw ?_;exact .d (Ks f.vec v j o u w)
def zhm(k:List Fg)(v:List En)(i:Nat)(hi:i<=k.length)(I:∀j,(h:j<k.length)->j<i->ZH k[j].vec v)(J:∀j,(h:j<k.length)->i<=j->¬ZH k[j].vec v)(K:k.length<=1152921504606846976)
 (w:∀f∈k,Cn xt 172 [fp f,vp v] (.v (.int .i64 (zZ (zv f.vec) (zv v))))) :
 Cn xt 171 [kp k,vp v,.fn (.func 172) [] []] (.tup [.v (.int .i64 i),.v (.bool (if h:i<k.length then decide (zZ (zv k[i].vec) (zv v)=0) else false))]):=by
 refine zt func171 3 ?_;refine pw ?_;refine pLoop.go (λp:Nat×Nat=>p.1<=i/\i<=p.2/\p.2<=k.length) (λp=>[(9,.v (.int .i64 (p.1:Nat))),(10,.v (.int .i64 (p.2:Nat)))]) (λ_=>[]) (λp=>p.2-p.1) (0,k.length) [9,10] ?_ ?_ ?_
 .exact⟨X3 _,hi,Zp _⟩
 .exact pd
 .rintro⟨p,q⟩ ⟨C,E,F⟩;simp only at C E F;refine pw ?_;refine .i ?_ ?_<;>intro h<;>first|refine pw ?_|exact pd
  .have A:(p+q)/2<k.length:=a8;have G:=I _ A;have H:=J _ A;refine pw ?_
   (first|refine .c (w k[(p+q)/2] (XE A)) ?_|refine .o (w k[(p+q)/2] (XE A)) ?_)
   refine .i ?_ ?_<;>intro u<;>first|refine pw ?_|exact pd
   .refine⟨((p+q)/2+1,q),⟨?_,E,F⟩,by simp only;omega,rfl,rfl⟩;simp only;exact Uc λB=>H B u
   .refine⟨(p,(p+q)/2),⟨C,?_,by simp only;omega⟩,by simp only;omega,rfl,rfl⟩;simp only;refine uo λB=>?_;have:=G B;unfold ZH at this;omega
  .obtain rfl:p=i:=a8;obtain rfl:q=p:=a8;refine .i ?_ ?_<;>intro u<;>first|refine pw ?_|exact pd
   ·(first|refine .c (w k[q] (XE u)) ?_|refine .o (w k[q] (XE u)) ?_)
    rw[ul u];try simp
   .rw[UO a8]
def Qo:∀{k:List Fg}(v:List En),k.Pairwise (λf g=>ZH f.vec g.vec)->∃i,i<=k.length/\(∀j,(h:j<k.length)->j<i->ZH k[j].vec v)/\(∀j,(h:j<k.length)->i<=j->¬ZH k[j].vec v)
 |[],v,_=>⟨0,Zp _,λj h=>by simp at h,λj h=>by simp at h⟩
 | f::k,v,hp=>by
   have w:=wj.1 hp;by_cases h:ZH f.vec v
   .obtain⟨i,E,A,B⟩:=Qo v w.2;refine⟨i+1,a9,λj u o=>?_,λj u C=>?_⟩
    .cases j with
     |zero=>exact h
     |succ j=>exact A j (dK u) a8
    .cases j with
     |zero=>omega
     |succ j=>exact B j (dK u) a8
   .refine⟨0,X3 _,λj _ h=>absurd h (Uh _),λj u _ o=>?_⟩;cases j with
    |zero=>exact h o
    |succ j=>exact h (k8 (w.1 _ (XE (dK u))) o)
def Y8:∀{k:List Fg}{f:Fg}{i:Nat},i<=k.length->(∀j,(h:j<k.length)->j<i->ZH k[j].vec f.vec)->(∀j,(h:j<k.length)->i<=j->¬ZH k[j].vec f.vec) ->
 qN k f=if h:i<k.length then (if zZ (zv k[i].vec) (zv f.vec)=0 then k.take i++⟨qy zn k[i].items f.items,f.vec⟩::k.drop (i+1) else k.take i++f::k.drop i) else k++[f]
 |[],f,i,h0,h1,h2=>by simp[qN]
 | g::k,f,i,h0,h1,h2=>by
   cases i with
   |zero=>have B:=h2 0 b6 (Zp _);have u:¬zZ (zv g.vec) (zv f.vec)<0:=B;rw[qN,Vq u,ul b6];simp only[uy,Wb,Y1,Wh,wM]
   | succ i=>
     have C:zZ (zv g.vec) (zv f.vec)<0:=h1 0 b6 a8;rw[qN,Vm C,Y8 (i:=i) (dK h0) (λj o A=>h1 (j+1) (dK o) a8) (λj o w=>h2 (j+1) (dK o) a8)];simp only[ww,WQ,wP,wM,yb,Nat.add_lt_add_iff_right];split
     .split<;>rfl
     .rfl
end
section
attribute [-go_sem] z7
structure AddOk(o:List Fg)(f:Fg):Prop where
 gi:GrpI o
 fo:OkG f
 l:o.length<=1048576
 fi:f.items.length<=100000000
 oi:∀g∈o,g.items.length<=100000000
 bd:∀e∈f.vec,ZL e
 bo:∀g∈o,∀e∈g.vec,ZL e
 nf:(zv f.vec).length<=1073741824
 no:∀g∈o,(zv g.vec).length<=1073741824
def xL{D:xT}{w:World}{v:Value}{l:List En}(h:Dat D w v (vp l)):∃o j,v=.slice o l.length j:=by have u:Dat D w v (.sl (l.map ec) .sh):=h;obtain⟨o,j,sz,b,A,f,e1,_⟩:=(Rel.dat (ρ:=λ_=>0) (nb:=0) u).inv_sl;rw[wB]at e1;exact⟨o,j,e1⟩
def zc1(o:List Fg)(f:Fg)(i:Nat):Bool:=if h:i<o.length then decide (zZ (zv o[i].vec) (zv f.vec)=0) else false
def zjH{C:xT}{rb base:Nat}{w:World}{v H:Value}{o:List Fg}{f:Fg}(i:Nat)(r:Bool)(P:zc1 o f i=r)(ho:AddOk o f)(B:OutG C rb base w v o)(J:Dat (DL C rb w) w H (vp f.vec))(hb:rb<base)(M:∀b o,C b o->b<rb)(F:rb<w.heap.size)(N:GL C w)
 (hi:i<=o.length) (K:∀j,(h:j<o.length)->j<i->ZH o[j].vec f.vec) (L:∀j,(h:j<o.length)->i<=j->¬ZH o[j].vec f.vec) :
 Calls xt 171 #[v,H,.func (.func 172) #[] #[]] w λe I=>e=.returned (.tuple #[.int .i64 (i:Nat),.bool r])/\Below w.heap.size w I:=by
 subst P;refine(jP (D:=DL C rb w) (zhm o f.vec i hi K L (by have:=ho.l;omega) λg G=>zhj g f.vec (ho.bo g G) ho.bd (ho.no g G) ho.nf) (N.mono (λ_ _ h=>.inl h) λ_ _ _ _ h=>h) (λb o h=>h.elim (λh=>UN (M b o h) F) uf) rfl (λj p A=>?_)).mono ?_
 .match j,A with
  |0,A=>cases A;exact B.dat hb
  |1,A=>cases A;exact J
  |2,A=>cases A;exact .fn _ #[] #[] [] [] rfl rfl (λ_ _ h=>by simp at h) (λ_ _ h=>by simp at h)
  |j+3,A=>simp at A
 .rintro e I ⟨u,rfl,E,O⟩;rw[XY O];exact⟨rfl,E⟩
def zeo{C:xT}{rb:Nat}{w:World}{v a b:Value}{l m:List Iv}(K:Nrm l)(L:Nrm m)(hs:l.length+m.length<=1073741824)(H:Dat (DX C rb w v) w a (rg l))(db:Dat (DX C rb w v) w b (rg m))(G:∀k,v.ownBlock=some k->rb<k/\k<w.heap.size)(F:∀b o,C b o->b<rb)(E:rb<w.heap.size)(I:GL C w):
 Calls xt 108 #[a,b] w λe B=>∃u,e=.returned u/\Below w.heap.size w B/\Dat (DX C rb B v) B u (rg (qy zn l m)):=by
 refine(jP (D:=DX C rb w v) (zaz l m K L hs) (I.mono (λb o h=>⟨.inl h,λe=>by have:=(G b e).1;have:=F b o h;omega⟩) λ_ _ _ _ h=>h) (λb o h=>h.1.elim (λh=>UN (F b o h) E) uf) rfl (λj p A=>?_)).mono ?_
 .match j,A with
  |0,A=>cases A;exact H
  |1,A=>cases A;exact db
  |j+2,A=>simp at A
 .rintro e B ⟨u,rfl,hb,J⟩;exact⟨u,rfl,hb,J.mono (λb o h=>by
   rcases h with h|h
   .exact⟨h.1.imp id λh=>⟨h.1,vw h.2 hb.size⟩,h.2⟩
   .exact⟨.inr ⟨a8,h.2⟩,λe=>by have:=(G b e).2;omega⟩) λ_ _ _ _ h=>h⟩
def zhT{o:List Fg}{f:Fg}{i:Nat}(h:zc1 o f i=true):∃hi:i<o.length,zZ (zv o[i].vec) (zv f.vec)=0:=by
 unfold zc1 at h;split at h
 .rename_i hi;exact⟨hi,dK h⟩
 .cases h
def Jh{C:xT}{base rb:Nat}{w:World}{v va vv:Value}{o:List Fg}{f:Fg}(U:AddOk o f)(ao:OutG C (rb+1) base w v o)(aL:Boxed w rb 224 v)(bI:rb+1<base)(bC:base<=w.heap.size)(hC:∀b o,C b o->b<rb)(hG:GL C w)
 (da:Dat (DX C (rb+1) w v) w va (rg f.items)) (dv:Dat (DX C (rb+1) w v) w vv (vp f.vec)) :
 Calls xt 140 #[.pointer (some ⟨rb,0,none⟩),.agg #[va,vv]] w λe w'=>(∃u,e=.returned u)/\∃v',Boxed w' rb 224 v'/\OutG C (rb+1) base w' v' (qN o f)/\Keep (λk=>k=rb\/base<=k) w w':=by
 obtain⟨i,hi,q1,q2⟩:=Qo f.vec U.gi.srt;have N:=Y8 hi q1 q2;have bJ:=aL.lt;obtain⟨P,ar⟩:=xm (w.alloc (.cells #[va,vv] 59));have bQ:P.heap.size=w.heap.size+1:=by rw[ar];simp
 have ac:∀j,j<w.heap.size->P.heap[j]?=w.heap[j]?:=λj hj=>by rw[ar];exact tw _ _ _ hj
 have az:P.heap[w.heap.size]?=some (.cells #[va,vv] 59 (0,0)):=by rw[ar];exact tq w _
 have ae:=ao.keep (w':=P) a8 ac;have aX:Dat (DX C (rb+1) P v) P va (rg f.items):=DX.keep da a8 λk hk _=>ac k hk;have aH:Dat (DX C (rb+1) P v) P vv (vp f.vec):=DX.keep dv a8 λk hk _=>ac k hk;have ak:Boxed P rb 224 v:=(ac rb bJ).trans aL;have aJ:GL C P:=hG.mono (λ_ _ h=>h) λb o x B hx=>(tp (a:=⟨b,o,none⟩) (ac b (by have:=hC b o B;omega))).trans hx;obtain⟨ad,J,rfl,bP,bD⟩:=ao.shape;unfold maxLen at bD;obtain⟨aa,ca,rfl⟩:=zK da;obtain⟨av,cv,rfl⟩:=xL dv;obtain⟨r,Q⟩:=xn (zc1 o f i);have aY:∀W,Below P.heap.size P W->Calls xt 171 #[.slice ad o.length J,.slice av f.vec.length cv,.func (.func 172) #[] #[]] W λe w'=>e=.returned (.tuple #[.int .i64 (i:Nat),.bool r])/\Below W.heap.size W w':=λW X=>
  zjH i r Q U (ae.keep X.size λk hk=>X.block k hk) ((DX.keep aH X.size λk hk _=>X.block k hk).mono (λ_ _ h=>h.1) λ_ _ _ _ h=>h) bI (λb o h=>Us (hC b o h)) (by have:=X.size;omega) (aJ.mono (λ_ _ h=>h) λb o x B hx=>(tp (a:=⟨b,o,none⟩) (X.block b (by have:=hC b o B;omega))).trans hx) hi q1 q2
 have bh:=qL aY;have c0:=ak.cell;have e0:=(zW az 0 _ rfl).1;have e1:=(zW az 1 _ rfl).1;have aT:=qL ar;have aE:=qL ae;have aS:=qL aX;have bj:=qL aH;have aU:=qL ak;have bl:=qL aJ;have aC:=qL N;have bt:=qL az;have aB:=qL Q;have bN:=qL ac;clear N ac az ae aX aH ak aJ Q da dv ao aL hG q1 q2 aY;have bM:True:=trivial;have aZ:Below P.heap.size P P.drew:=(tv _ _).drew;have aR:xt.follows .mixedOrders=true:=dL
 go_enter func140,ntmps140
 go_wp2_with fail
 rw[<-ar];refine Kg (Sw:=qe) 12 51 (λO=>Below P.heap.size P O/\O.cell? ⟨rb,0,none⟩=some (.slice ad o.length J)/\O.cell? ⟨w.heap.size,1,none⟩=some (.slice av f.vec.length cv)) dL dL rfl ⟨aZ,c0,e1⟩ ?_;simp only[wP,Wb];refine Jz ?_;refine V7 (λu _=>u=.tuple #[.int .i64 (i:Nat),.bool r]) (yj _) rfl ?_ ?_
 .intro a2 A B hk Q K hK;have HK:=qL hK;clear hK;simp[Rds,zA,lk,Op.operands,Call.operands,RdEq]at Q;go_simp;refine(bh.o _ B.1).mono ?_;rintro e w3 ⟨rfl,hb⟩;have L:Keep qe A w3:=Keep.of_below' hb (Zp _);exact HK.o _ _ L ⟨B.1.trans (hb.mono B.1.size),L.cell_some B.2.1 id,L.cell_some B.2.2 id⟩ rfl
 simp only[Y1,yb];refine Jz ?_;intro A I T;simp only[finG,WM,Y1,yb,wM,Wh,WO];simp only[Act.put,wu,wR,wS];have E:=qL I.1;have c2:=I.2.1;have f2:=(I.1.block _ a8).trans (show P.heap[w.heap.size]?=_ from bt.o);have g0:=(zW f2 0 _ rfl).1;have g1:=(zW f2 1 _ rfl).1;clear I T aZ;cases r with
 | true=>
   obtain⟨an,hz⟩:=zhT aB.o;have V:=aE.o.keep (w':=A) E.o.size λk hk=>E.o.block k hk;have bq:=qL V;obtain⟨xs,Z,ay⟩:=id V;obtain⟨a,b,ea,eb,aI,bB⟩:=ay i an;obtain⟨g,aV,bO,ev,bG,bH,be,_,_,_,_⟩:=Z.cases.resolve_left (λh=>a8);obtain⟨rfl,_,rfl⟩:ad=some ⟨g,0,none⟩/\o.length=o.length/\J=aV:=(dK ev);have aW:A.cell? ⟨g,i*2,none⟩=some a:=(by have:=tK Z.1 (g:=g) rfl (i*2) a ea;rw[zh,wn]at this;exact this);have aK:∀k,(Value.slice (some ⟨g,0,none⟩) o.length J).ownBlock=some k->rb+1<k/\k<A.heap.size:=λk hk=>(by have:=V.owns k hk;omega);obtain⟨ai,ci,rfl⟩:=zK aI;have bg:∀W,Below A.heap.size A W->Calls xt 108 #[.slice ai o[i].items.length ci,.slice aa f.items.length ca] W λe w'=>∃u,e=.returned u/\Below W.heap.size W w'/\Dat (DX C (rb+1) w' (.slice (some ⟨g,0,none⟩) o.length J)) w' u (rg (qy zn o[i].items f.items)):=λW X=>
    zeo (U.gi.ok _ (XE an)).2.2.1 U.fo.2.2.1 (by have:=U.oi _ (XE an);have:=U.fi;omega) (DX.keep aI X.size λk hk _=>X.block k hk) (DX.keep aS.o (V0 E.o.size X.size) λk hk _=>(X.block k (vw hk E.o.size)).trans (E.o.block k hk)) (λk hk=>⟨(aK k hk).1,vw (aK k hk).2 X.size⟩) (λb o h=>Us (hC b o h)) (by have:=E.o.size;have:=X.size;omega) (bl.o.mono (λ_ _ h=>h) λb o x B hx=>(tp (a:=⟨b,o,none⟩) ((X.block b (by have:=hC b o B;have:=E.o.size;omega)).trans (E.o.block b (by have:=hC b o B;omega)))).trans hx)
   have br:=qL bg;have ax:Below A.heap.size A A.drew:=(tv _ _).drew;have bn:=qL be;have ba:0<J:=a8;have aq:=E.o.size;clear bg V Z ay ea eb aI bB be aK;obtain⟨S,aQ⟩:=xm (A);subst aQ
   go_wp2_with fail
   refine Kg (Sw:=qe) 16 51 (λO=>Below S.heap.size S O/\O.cell? ⟨rb,0,none⟩=some (.slice (some ⟨g,0,none⟩) o.length J)/\O.cell? ⟨g,i*2,none⟩=some (.slice ai o[i].items.length ci)/\O.cell? ⟨w.heap.size,0,none⟩=some (.slice aa f.items.length ca)) dL dL rfl ⟨ax,c2,aW,g0⟩ ?_;simp only[wP,Wb];refine Jz ?_;refine V7 (λu O=>Dat (DX C (rb+1) O (.slice (some ⟨g,0,none⟩) o.length J)) O u (rg (qy zn o[i].items f.items))) (λu wa S h hk=>DX.keep h hk.size λk T _=>hk.block k T id) rfl ?_ ?_
   .intro a2 A B hk Q K hK;have HK:=qL hK;clear hK;simp[Rds,zA,lk,Op.operands,Call.operands,RdEq]at Q;go_simp;refine(br.o _ B.1).mono ?_;rintro e w3 ⟨u,rfl,hb,hd⟩;have L:Keep qe _ w3:=Keep.of_below' hb (Zp _);exact HK.o _ _ L ⟨B.1.trans (hb.mono B.1.size),L.cell_some B.2.1 id,L.cell_some B.2.2.1 id,L.cell_some B.2.2.2 id⟩ hd
   simp only[Y1,yb];refine Jz ?_;intro A I T;simp only[finG,WM,Y1,yb,wM,Wh,WO];simp only[Act.put,wu,wR,wS];intro u hu;obtain⟨G,H,rfl⟩:=zK hu;have HU:=qL hu;have aw:=qL I.1;have c3:=I.2.2.1;have f3:A.frozen? ⟨g,i*2,none⟩=false:=by have:=(I.1.block g bH).trans bn.o;simp[World.frozen?,this]
   clear hu I T ax c2 aW g0 g1 f2
   go_wp2
   (try simp only[Exit.inBlock,Exit.then]);refine tA (tN rfl _ _ _) rfl ?_
   have ah:=(bq.o.keep (w':=A) aw.o.size λk hk=>aw.o.block k hk).set an HU.o ba;have N:qN o f=o.take i++⟨qy zn o[i].items f.items,o[i].vec⟩::o.drop (i+1):=(by rw[aC.o,ul an,Vm hz,<-YU hz]);rw[N];refine⟨⟨_,rfl⟩,_,?_,ah,?_⟩
   .refine(tz _ _ _ _ (by show rb≠g;omega)).trans ((aw.o.block rb a8).trans ((E.o.block rb a8).trans aU.o))
   .have aN:Keep (λk=>k=rb\/base<=k) w P:=(by rw[aT.o];exact(Keep.refl _ w).alloc _);exact((aN.trans (Keep.of_below' E.o (Zp _))).trans (Keep.of_below' aw.o (Zp _))).setCell (λ_=>.inr bG) _
 | false=>
   have N:qN o f=o.take i++f::o.drop i:=by
    rw[aC.o];have hh:=aB.o;unfold zc1 at hh;split at hh
    .rename_i h;rw[ul h,Vq (dK hh)]
    .rename_i h;rw[UO h,wm a8,wA a8]
   have bp:=qL N;have aq:=E.o.size;have bc:∀W,Below A.heap.size A W->Calls xt 72 #[.slice aa f.items.length ca] W λe w'=>∃G H,e=.returned (.slice G f.items.length H)/\OwnR W.heap.size w' (.slice G f.items.length H) f.items/\Below W.heap.size W w':=λW X=>(by have bE:=DX.keep aS.o (V0 aq X.size) λk hk _=>(X.block k (vw hk aq)).trans (E.o.block k hk);refine(zeX (je bE (λb o h=>h.1.elim (λh=>by have:=hC b o h;have:=X.size;omega) uf) U.fo.2.2.1.lt) (by have:=U.fi;omega)).mono ?_;rintro e w' ⟨v',rfl,h1,h2⟩;obtain⟨G,H,rfl⟩:=zK (jp (D:=λ_ _=>True) h1.rd λ_ _ _ _=>trivial);exact⟨G,H,rfl,h1,h2⟩);have bi:=qL bc;clear bc N;have ax:Below A.heap.size A A.drew:=(tv _ _).drew;obtain⟨S,aQ⟩:=xm (A);subst aQ
   go_wp2_with fail
   refine znC [1,2,3,4,5,6,7,8,9,10,11,12,0,13,14,15,16] 12 51 (λO=>Below S.heap.size S O/\O.cell? ⟨rb,0,none⟩=some (.slice ad o.length J)/\O.cell? ⟨w.heap.size,0,none⟩=some (.slice aa f.items.length ca)/\O.cell? ⟨w.heap.size,1,none⟩=some (.slice av f.vec.length cv)) aR dL dL rfl ⟨ax,c2,g0,g1⟩ _ _ rfl rfl rfl rfl _ rfl ?_;simp only[z8,WA,ub,List.getD_cons_zero,List.getD_cons_succ,wP,Wb,wM,Wh];repeat (refine Pl.wdetK ?_ rfl (λa w B _ Q=>?_) ?_;rotate_left;(simp[Pl.Rds,zA,Pl.lk,Op.operands,Call.operands,RdEq]at Q;go_simp;with_reducible rfl);simp only[Y1,yb])
   refine Pl.wgenK (λu O=>∃G H,u=.slice G f.items.length H/\OwnR S.heap.size O u f.items) (λu _ _ h hk=>by obtain⟨G,H,e,h⟩:=h;exact⟨G,H,e,h.keep hk λ_ _ h=>h⟩) rfl ?_ ?_
   .intro a2 A B hk Q K hK;have HK:=qL hK;clear hK;simp[Pl.Rds,zA,Pl.lk,Op.operands,Call.operands,RdEq]at Q;go_simp;refine(bi.o _ B.1).mono ?_;rintro e w3 ⟨G,H,rfl,ho,hb⟩;have L:Keep qe _ w3:=Keep.of_below' hb (Zp _);exact HK.o _ _ L ⟨B.1.trans (hb.mono B.1.size),L.cell_some B.2.1 id,L.cell_some B.2.2.1 id,L.cell_some B.2.2.2 id⟩ ⟨G,H,rfl,ho.mono B.1.size⟩
   simp only[Y1,yb];repeat (refine Pl.wdetK ?_ rfl (λa w B _ Q=>?_) ?_;rotate_left;(simp[Pl.Rds,zA,Pl.lk,Op.operands,Call.operands,RdEq]at Q;go_simp;with_reducible rfl);simp only[Y1,yb])
   refine Pl.wgenK (λu O=>∃G H,u=.agg #[.slice G f.items.length H,.slice av f.vec.length cv]/\OwnR S.heap.size O (.slice G f.items.length H) f.items) (λu _ _ h hk=>by obtain⟨G,H,e,h⟩:=h;exact⟨G,H,e,h.keep hk λ_ _ h=>h⟩) rfl ?_ ?_
   .intro a2 A B hk Q K hK;have HK:=qL hK;clear hK;simp[Pl.Rds,zA,Pl.lk,Op.operands,Call.operands,RdEq]at Q;obtain⟨⟨_,⟨e1,e2⟩,⟨G,H,rfl⟩,ho⟩,e3,e4⟩:=Q;go_simp;exact HK.o _ _ (Keep.refl _ _) B ⟨G,H,rfl,ho⟩
   simp only[Y1,yb];refine Pl.wgenK (λu O=>∃vb G H vt,u=.slice (some ⟨vb,0,none⟩) 1 1/\O.heap[vb]?=some (.cells #[.slice G f.items.length H,.slice av f.vec.length cv] vt (0,0))/\S.heap.size<=vb/\OwnR S.heap.size O (.slice G f.items.length H) f.items) (λu _ _ h hk=>by obtain⟨vb,G,H,vt,e,h1,h2,h3⟩:=h;exact⟨vb,G,H,vt,e,hk.obj h1 id,h2,h3.keep hk λ_ _ h=>h⟩) rfl ?_ ?_
   .intro a2 A B hk Q K hK;have HK:=qL hK;clear hK;simp[Pl.Rds,zA,Pl.lk,Op.operands,Call.operands,RdEq]at Q;obtain⟨_,⟨e1,e2⟩,G,H,rfl,ho⟩:=Q;go_simp;refine HK.o _ _ ((Keep.refl _ _).alloc _) ⟨B.1.alloc B.1.size _,?_,?_,?_⟩ ⟨A.heap.size,G,H,_,rfl,tq A _,B.1.size,ho.keep ((Keep.refl qe _).alloc _) λ_ _ h=>h⟩
    .exact((Keep.refl qe _).alloc _).cell_some B.2.1 id
    .exact((Keep.refl qe _).alloc _).cell_some B.2.2.1 id
    .exact((Keep.refl qe _).alloc _).cell_some B.2.2.2 id
   simp only[Y1,yb];repeat (refine Pl.wdetK ?_ rfl (λa w B _ Q=>?_) ?_;rotate_left;(simp[Pl.Rds,zA,Pl.lk,Op.operands,Call.operands,RdEq]at Q;go_simp;with_reducible rfl);simp only[Y1,yb])
   have ah:∀(A:World)(vb:Nat) (G H) (vt:TypeId),Below S.heap.size S A->A.heap[vb]?=some (.cells #[.slice G f.items.length H,.slice av f.vec.length cv] vt (0,0))->S.heap.size<=vb->OwnR S.heap.size A (.slice G f.items.length H) f.items ->
    Calls xt 174 #[.slice ad o.length J,.int .i64 (i:Nat),.slice (some ⟨vb,0,none⟩) 1 1] A λe w3=>∃g3 M,e=.returned (.slice (some ⟨g3,0,none⟩) (o.length+1) M)/\Boxed w3 rb 224 (.slice ad o.length J)/\OutG C (rb+1) base (w3.setCell ⟨rb,0,none⟩ (.slice (some ⟨g3,0,none⟩) (o.length+1) M)) (.slice (some ⟨g3,0,none⟩) (o.length+1) M) (qN o f)/\Keep (λk=>k=rb\/base<=k) w w3:=by
    intro A vb G H vt ab ag aj af;have aO:=(aE.o.keep (w':=S) aq λk hk=>E.o.block k hk).keep (w':=A) ab.size λk hk=>ab.block k hk;obtain⟨xs,Z,ay⟩:=id aO;have aP:=(aE.o.keep (w':=S) aq λk hk=>E.o.block k hk).owns;refine(Q1 base vb vt A _ o.length xs _ _ i rfl rfl hi Z ag (λe=>by have:=(aP vb e).2;omega) (by have:=U.l;omega) (by have:=ab.size;omega)).mono ?_;rintro e w3 ⟨v',rfl,Y,aM,bK⟩;have bR:=ab.size;have hp:Dat (DX C (rb+1) A (.slice ad o.length J)) A (.slice G f.items.length H) (rg f.items):=jp af.rd λb o h1 h2=>⟨.inr ⟨a8,h2⟩,λe=>by have:=(aP b e).2;omega⟩;have hq:Dat (DX C (rb+1) A (.slice ad o.length J)) A (.slice av f.vec.length cv) (vp f.vec):=DX.keep bj.o a8 λk hk _=>(ab.block k a8).trans (E.o.block k hk);have bF:=OutG.ins hi Z.2.1 ay hp hq (λb o h=>Us (hC b o h)) a8 Y aM bK;obtain⟨g3,M,bL,rfl,_⟩:=Y.cases.resolve_left λh=>a8;have F:Boxed w3 rb 224 (.slice ad o.length J):=Boxed.kept ((ab.block rb a8).trans ((E.o.block rb a8).trans aU.o)) aM λe=>(by have:=(aP rb e.symm);have:=(Z.1.lt rb e.symm).1;omega);refine⟨g3,M,rfl,F,?_,?_⟩
    .rw[bp.o];exact bF.box a8 a8 λb o h=>by have:=hC b o h;omega
    .have aN:Keep (λk=>k=rb\/base<=k) w P:=(by rw[aT.o];exact(Keep.refl _ w).alloc _);exact(((aN.trans (Keep.of_below' E.o (Zp _))).trans (Keep.of_below' ab (Zp _)))).grown aM λk hk _=>.inr (Z.1.lt k hk).1
   have aA:=qL ah;clear ah;refine⟨λA I T=>?_,λA I T=>?_⟩<;>(simp only[Pl.finG,WM,Y1,yb,wP,Wb,wM,Wh,WO,jA,Option.map_none];simp only[Act.put,wu,wR,wS])
   .rintro _ ⟨bu,bz,rfl,_⟩ _ ⟨bw,bA,rfl,_⟩ _ ⟨vb,G,H,vt,rfl,ag,aj,af⟩;have HQ:=qL (aA.o A vb G H vt I.1 ag aj af);clear ag af I T
    go_wp2_with (first
     | (go_at_call 174;refine HQ.o.mono ?_;rintro e w3 ⟨g3,M,rfl,F,Y,am⟩
        have aF:=qL Y;have aD:=qL am;have aG:=qL F;have c9:=F.cell;have f9:=F.frozen;clear Y am F)
     |go_in)
    go_end0
    exact⟨⟨_,rfl⟩,_,aG.o.set _,aF.o,aD.o.setCell (λ_=>.inl rfl) _⟩
   .rintro _ ⟨bu,bz,rfl,_⟩ _ ⟨bw,bA,rfl,_⟩ _ ⟨vb,G,H,vt,rfl,ag,aj,af⟩;have HQ:=qL (aA.o A vb G H vt I.1 ag aj af);clear ag af I T
    go_wp2_with (first
     | (go_at_call 174;refine HQ.o.mono ?_;rintro e w3 ⟨g3,M,rfl,F,Y,am⟩
        have aF:=qL Y;have aD:=qL am;have aG:=qL F;have c9:=F.cell;have f9:=F.frozen;clear Y am F)
     |go_in)
    go_end0
    exact⟨⟨_,rfl⟩,_,aG.o.set _,aF.o,aD.o.setCell (λ_=>.inl rfl) _⟩
end
end Go.Proofs.YtmpnbdhadjfbhaaGreatDoor
