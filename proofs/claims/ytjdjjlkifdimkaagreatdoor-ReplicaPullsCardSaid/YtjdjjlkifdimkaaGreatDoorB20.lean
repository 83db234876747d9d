import Derived.Test.YtjdjjlkifdimkaaGreatDoorB10
import Derived.Test.YtjdjjlkifdimkaaGreatDoorB19
set_option maxHeartbeats 16000000
set_option linter.all false
set_option maxRecDepth 100000
namespace Go.Proofs.YtjdjjlkifdimkaaGreatDoor
open Go.RowKit
open Go.Proofs.Tryz
open Go.Proofs.Tryz renaming prog->xT
def ZH(v w:List En):Prop:=zZ (zv v) (zv w)<0
def ku(v:List En):¬ZH v v:=by unfold ZH;rw[(cmpL_zero _ _).2 rfl];decide
def k8{a b c:List En}(j:ZH a b)(o:ZH b c):ZH a c:=by
 unfold ZH at *;have u:=ZW _ _ _ (Int.le_of_lt j) (Int.le_of_lt o);rcases Int.lt_or_eq_of_le u with h|h
 .exact h
 .have e:=Vv ((cmpL_zero _ _).1 h);subst e;have:=ZV (zv a) (zv b);omega
def zfI{a b:List En}(j:¬ZH a b)(o:zZ (zv a) (zv b)≠0):ZH b a:=by unfold ZH at *;have:=ZV (zv a) (zv b);omega
def YU{a b:List En}(h:zZ (zv a) (zv b)=0):a=b:=Vv ((cmpL_zero _ _).1 h)
def qN:List Fg->Fg->List Fg
 |[],f=>[f]
 |g::r,f=>if zZ (zv g.vec) (zv f.vec)<0 then g::qN r f else if zZ (zv g.vec) (zv f.vec)=0 then ⟨qy zn g.items f.items,f.vec⟩::r else f::g::r
def yo(o:List Fg)(f:Fg):List Fg:=if zi f.vec=[]\/f.items=[] then o else qN o ⟨f.items,zi f.vec⟩
def zL(k:List Fg):List Fg:=k.foldl yo []
def OkG(f:Fg):Prop:=CanV f.vec/\f.vec≠[]/\Nrm f.items/\f.items≠[]
structure GrpI(k:List Fg):Prop where
 ok:∀f∈k,OkG f
 srt:k.Pairwise λf g=>ZH f.vec g.vec
def GrpI.nil:GrpI []:=⟨λf h=>(by cases h),List.Pairwise.nil⟩
def GrpI.tail{f:Fg}{k:List Fg}(h:GrpI (f::k)):GrpI k:=⟨λg j=>h.ok g (by simp[j]),(wk.1 h.srt).2⟩
def GrpI.right{k:List Fg}(h:GrpI k):RightK k:=λf j=>⟨(h.ok f j).2.2.1,(h.ok f j).1.right⟩
def JZ{l:List Iv}(h:Nrm l)(j:l≠[]):∃x,x<zk/\mem l x=true:=by
 cases l with
 |nil=>exact absurd rfl j
 |cons s l=>have:=NF.lo_ge h s b8;exact⟨s.lo,b6,qf.2 ⟨s,b8,Zp _,this.2.1⟩⟩
def zig{l:List Iv}{x:Nat}(h:mem l x=true):l≠[]:=λe=>by rw[e]at h;cases h
def Yw:∀{o:List Fg}{f:Fg},GrpI o->OkG f->(∀g∈qN o f,OkG g/\(g.vec=f.vec\/g∈o))/\GrpI (qN o f)/\(∀i r c,i<zk->hasK (qN o f) i r c=(hasK o i r c || (mem f.items i && mem (zT f.vec r) c)))
 |[],f,_,hf=>⟨λg u=>by simp only[qN,wK]at u;subst u;exact⟨hf,.inl rfl⟩,⟨λg u=>by simp only[qN,wK]at u;subst u;exact hf,by simp[qN]⟩,λi r c _=>by simp[qN,hasK]⟩
 | g::o,f,ho,hf=>by
   have u:=ho.ok g b8;have A:=wk.1 ho.srt;unfold qN;by_cases w:zZ (zv g.vec) (zv f.vec)<0
   .rw[VS w];obtain⟨B,G,H⟩:=Yw ho.tail hf;refine⟨λx j=>?_,⟨λx j=>?_,wk.2 ⟨λx j=>?_,G.srt⟩⟩,λi r c hi=>?_⟩
    .rcases wm.1 j with rfl|j
     .exact⟨u,.inr b8⟩
     .exact⟨(B x j).1,(B x j).2.imp id λh=>by simp[h]⟩
    .rcases wm.1 j with rfl|j
     .exact u
     .exact(B x j).1
    .rcases (B x j).2 with e|e
     .rw[e];exact w
     .exact A.1 x e
    .have:=H i r c hi;unfold hasK at this⊢;rw[uP,uP,this,UK]
   .rw[V2 w];by_cases y:zZ (zv g.vec) (zv f.vec)=0
    .rw[VS y];have e:g.vec=f.vec:=YU y;have E:OkG ⟨qy zn g.items f.items,f.vec⟩:=by refine⟨hf.1,hf.2.1,qH u.2.2.1 hf.2.2.1,?_⟩;obtain⟨x,j,F⟩:=JZ u.2.2.1 u.2.2.2;refine zig (x:=x) ?_;show mem (qy zn g.items f.items) x=true;rw[qj u.2.2.1 hf.2.2.1 j,F];rfl
     refine⟨λx j=>?_,⟨λx j=>?_,wk.2 ⟨λx j=>?_,A.2⟩⟩,λi r c hi=>?_⟩
     .rcases wm.1 j with rfl|j
      .exact⟨E,.inl rfl⟩
      .exact⟨ho.ok x (by simp[j]),.inr (by simp[j])⟩
     .rcases wm.1 j with rfl|j
      .exact E
      .exact ho.ok x (by simp[j])
     .have:=A.1 x j;rw[e]at this;exact this
     .unfold hasK;rw[uP,uP];simp only;rw[qj u.2.2.1 hf.2.2.1 hi,e];simp only[zn];cases mem g.items i<;>cases mem f.items i<;>cases mem (zT f.vec r) c<;>simp
    .rw[V2 y];have C:ZH f.vec g.vec:=zfI w y;refine⟨λx j=>?_,⟨λx j=>?_,wk.2 ⟨λx j=>?_,ho.srt⟩⟩,λi r c hi=>?_⟩
     .rcases wm.1 j with rfl|j
      .exact⟨hf,.inl rfl⟩
      .exact⟨ho.ok x j,.inr j⟩
     .rcases wm.1 j with rfl|j
      .exact hf
      .exact ho.ok x j
     .rcases wm.1 j with rfl|j
      .exact C
      .exact k8 C (A.1 x j)
     .unfold hasK;rw[uP,Bool.or_comm]
def Yi{f:Fg}(h:ZS f)(j:¬(zi f.vec=[]\/f.items=[])):OkG ⟨f.items,zi f.vec⟩:=⟨jN h.2,λe=>j (.inl e),h.1,λe=>j (.inr e)⟩
def Yr{o:List Fg}{f:Fg}(ho:GrpI o)(j:ZS f):GrpI (yo o f)/\∀i r c,i<zk->hasK (yo o f) i r c=(hasK o i r c || (mem f.items i && mem (zT f.vec r) c)):=by
 unfold yo;split
 .rename_i h;refine⟨ho,λi r c _=>?_⟩;rcases h with h|h
  .rw[<-ja j.2,h,knV_nil];simp
  .rw[h];simp
 .rename_i h;obtain⟨_,u,w⟩:=Yw ho (Yi j h);refine⟨u,λi r c hi=>?_⟩;rw[w i r c hi];simp only;rw[ja j.2]
def jV:∀{k:List Fg}{o:List Fg},GrpI o->RightK k->GrpI (k.foldl yo o)/\∀i r c,i<zk->hasK (k.foldl yo o) i r c=(hasK o i r c || hasK k i r c)
 |[],o,ho,_=>⟨ho,λi r c _=>by simp[hasK]⟩
 |f::k,o,ho,hk=>by obtain⟨j,u⟩:=Yr ho (hk f b8);obtain⟨w,y⟩:=jV (k:=k) j λg A=>hk g (by simp[A]);refine⟨w,λi r c hi=>?_⟩;rw[WN,y i r c hi,u i r c hi,UK];rfl
def vB{k:List Fg}(h:RightK k):GrpI (zL k):=(jV GrpI.nil h).1
def za5{k:List Fg}(h:RightK k){i r c:Nat}(hi:i<zk):hasK (zL k) i r c=hasK k i r c:=by have:=(jV GrpI.nil h).2 i r c hi;rw[show hasK [] i r c=false from rfl,uH]at this;exact this
def Qa:∀{o:List Fg}{f:Fg},(∀g∈o,Nrm g.items)->Nrm f.items->xh o->(∀g∈o,∀x,x<zk->¬(mem g.items x=true/\mem f.items x=true)) ->
 xh (qN o f)/\∀g∈qN o f,Nrm g.items/\∀x,x<zk->mem g.items x=true->mem f.items x=true\/∃H∈o,mem H.items x=true
 |[],f,_,hf,_,_=>⟨by simp[qN,xh],λg A=>by simp only[qN,wK]at A;subst A;exact⟨hf,λx _ u=>.inl u⟩⟩
 | g::o,f,ho,hf,ha,hd=>by
   have A:=ho g b8;have B:=wk.1 ha;unfold qN;by_cases F:zZ (zv g.vec) (zv f.vec)<0
   .rw[VS F];obtain⟨I,E⟩:=Qa (λx j=>ho x (by simp[j])) hf B.2 λx j=>hd x (by simp[j]);refine⟨wk.2 ⟨λx j z hz ⟨w,m2⟩=>?_,I⟩,λx j=>?_⟩
    .rcases (E x j).2 z hz m2 with e|⟨y,C,e⟩
     .exact hd g b8 z hz ⟨w,e⟩
     .exact B.1 y C z hz ⟨w,e⟩
    .rcases wm.1 j with rfl|j
     .exact⟨A,λz _ u=>.inr ⟨x,b8,u⟩⟩
     .refine⟨(E x j).1,λz hz u=>((E x j).2 z hz u).imp id ?_⟩;rintro⟨y,C,e⟩;exact⟨y,by simp[C],e⟩
   ·rw [V2 F];by_cases G:zZ (zv g.vec) (zv f.vec)=0
    .rw[VS G];refine⟨wk.2 ⟨λx j z hz ⟨w,m2⟩=>?_,B.2⟩,λx j=>?_⟩
     .simp only at w;rw[qj A hf hz]at w;simp only[zn,WM]at w;rcases w with w|w
      .exact B.1 x j z hz ⟨w,m2⟩
      .exact hd x (by simp[j]) z hz ⟨m2,w⟩
     .rcases wm.1 j with rfl|j
      .refine⟨qH A hf,λz hz u=>?_⟩;simp only at u;rw[qj A hf hz]at u;simp only[zn,WM]at u;rcases u with u|u
       .exact .inr ⟨g,b8,u⟩
       .exact .inl u
      .exact⟨ho x (by simp[j]),λz _ u=>.inr ⟨x,by simp[j],u⟩⟩
    .rw[V2 G];refine⟨wk.2 ⟨λx j z hz ⟨w,m2⟩=>hd x j z hz ⟨m2,w⟩,ha⟩,λx j=>?_⟩;rcases wm.1 j with rfl|j
     .exact⟨hf,λz _ u=>.inl u⟩
     .exact⟨ho x j,λz _ u=>.inr ⟨x,j,u⟩⟩
def vA:∀{k o:List Fg},(∀g∈o,Nrm g.items)->(∀f∈k,Nrm f.items)->xh o->xh k->(∀g∈o,∀f∈k,∀x,x<zk->¬(mem g.items x=true/\mem f.items x=true))->xh (k.foldl yo o)
 |[],o,_,_,ha,_,_=>ha
 | f::k,o,ho,hk,ha,hak,hd=>by
   have A:=wk.1 hak;rw[WN];unfold yo;split
   .exact vA ho (λg j=>hk g (by simp[j])) ha A.2 λg j w u=>hd g j w (by simp[u])
   .obtain⟨E,B⟩:=Qa (f:=⟨f.items,zi f.vec⟩) ho (hk f b8) ha λg j=>hd g j f b8;refine vA (λg j=>(B g j).1) (λg j=>hk g (by simp[j])) E A.2 λg j w u x hx ⟨m1,m2⟩=>?_;rcases (B g j).2 x hx m1 with e|⟨y,C,e⟩
    .exact A.1 w u x hx ⟨e,m2⟩
    .exact hd y C w (by simp[u]) x hx ⟨e,m2⟩
structure CanK(k:List Fg):Prop where
 gi:GrpI k
 apart:xh k
def za4{k:List Fg}(h:RightK k)(j:xh k):CanK (zL k):=⟨vB h,vA (λg h=>(by cases h)) (λf o=>(h f o).1) List.Pairwise.nil j λg h=>(by cases h)⟩
def CanK.one{k:List Fg}(h:CanK k){f:Fg}(w:f∈k){i:Nat}(hi:i<zk)(j:mem f.items i=true)(r c:Nat):hasK k i r c=mem (zT f.vec r) c:=by
 rw[WO,km];constructor
 .rintro⟨g,A,y,o⟩;have:f=g:=by
   obtain⟨a,u,rfl⟩:=Wr w;obtain⟨b,hb,rfl⟩:=Wr A;rcases WR a b with e|e|e
   .exact absurd ⟨j,y⟩ (wU.1 h.apart a b u hb e i hi)
   .subst e;rfl
   .exact absurd ⟨y,j⟩ (wU.1 h.apart b a hb u e i hi)
  subst this;exact o
 .intro o;exact⟨f,w,j,o⟩
def CanK.vec{k:List Fg}(h:CanK k){f g:Fg}(u:f∈k)(w:g∈k)(e:f.vec=g.vec):f=g:=by
 obtain⟨a,o,rfl⟩:=Wr u;obtain⟨b,hb,rfl⟩:=Wr w;rcases WR a b with j|j|j
 .have:=wU.1 h.gi.srt a b o hb j;rw[e]at this;exact absurd this (ku _)
 .subst j;rfl
 .have:=wU.1 h.gi.srt b a hb o j;rw[e]at this;exact absurd this (ku _)
def zaK{v:List En}(h:CanV v)(u:v≠[]):∃r c,c<zk/\mem (zT v r) c=true:=by
 cases v with
 |nil=>exact absurd rfl u
 |cons e v=>have j:=h.1 e b8;obtain⟨x,w,o⟩:=JZ (qT j.1) (jO j).1;exact⟨e.rep,x,w,by rw[qm,VS rfl];exact o⟩
def Yh{a b:List Fg}(B:CanK a)(hb:CanK b)(h:∀i r c,i<zk->c<zk->hasK a i r c=hasK b i r c){f:Fg}(E:f∈a):∃g∈b,g.vec=f.vec/\∀x,x<zk->mem f.items x=true->mem g.items x=true:=by
 have ok:=B.gi.ok f E;have u:∀x,x<zk->mem f.items x=true->∃g∈b,g.vec=f.vec/\mem g.items x=true:=λx j A=>by obtain⟨r,c,C,hk⟩:=zaK ok.1 ok.2.1;have H:=B.one E j A r c;rw[hk,h x r c j C]at H;obtain⟨g,o,I,_⟩:=km.1 H;refine⟨g,o,?_,I⟩;have w:=hb.gi.ok g o;refine Zk w.1 ok.1 λr=>Nrm.unique (qi w.1.right r) (qi ok.1.right r) λc C=>?_;rw[<-hb.one o j I r c,<-B.one E j A r c,h x r c j C]
 obtain⟨x,j,A⟩:=JZ ok.2.2.1 ok.2.2.2;obtain⟨g,o,e,_⟩:=u x j A;refine⟨g,o,e,λy K G=>?_⟩;obtain⟨M,F,J,L⟩:=u y K G;rw[hb.vec o F (e.trans J.symm)];exact L
def ZD:∀{a b:List Fg},a.Pairwise (λf g=>ZH f.vec g.vec)->b.Pairwise (λf g=>ZH f.vec g.vec)->(∀f,f∈a↔f∈b)->a=b
 |[],[],_,_,_=>rfl
 |[],y::b,_,_,h=>absurd ((h y).2 b8) b8
 |x::a,[],_,_,h=>absurd ((h x).1 b8) b8
 | x::a,y::b,ha,hb,h=>by
   have j:=wk.1 ha;have o:=wk.1 hb;have A:x=y:=by
    have u:=(h x).1 b8;have w:=(h y).2 b8;simp at u w;rcases u with u|u
    .exact u
    .rcases w with w|w
     .exact w.symm
     .exact absurd (k8 (o.1 x u) (j.1 y w)) (ku _)
   subst A;congr 1;refine ZD j.2 o.2 λz=>?_;have:=h z;simp at this;constructor
   .intro hz;rcases this.1 (.inr hz)with e|e
    .subst e;exact absurd (j.1 z hz) (ku _)
    .exact e
   .intro hz;rcases this.2 (.inr hz)with e|e
    .subst e;exact absurd (o.1 z hz) (ku _)
    .exact e
def XN{a b:List Fg}(j:CanK a)(hb:CanK b)(h:∀i r c,i<zk->c<zk->hasK a i r c=hasK b i r c):a=b:=by
 have o:∀{a b:List Fg},CanK a->CanK b->(∀i r c,i<zk->c<zk->hasK a i r c=hasK b i r c)->∀f∈a,f∈b:=λ{a b} j hb h f hf=>by
  obtain⟨g,y,e,hi⟩:=Yh j hb h hf;obtain⟨u,w,F,A⟩:=Yh hb j (λi r c B C=>(h i r c B C).symm) y;have:u=f:=j.vec w hf (F.trans e);subst this;have:g=u:=Fg.ext' (Nrm.unique (hb.gi.ok g y).2.2.1 (j.gi.ok u hf).2.2.1 λx E=>by
   rw[WO];exact⟨A x E,hi x E⟩) e
  rw[<-this];exact y
 exact ZD j.gi.srt hb.gi.srt λf=>⟨o j hb h f,o hb j (λi r c B C=>(h i r c B C).symm) f⟩
noncomputable def zbx (k:List Fg):List Fg:=zL (jq k)
noncomputable def yy (f:XE) (a b:List Fg):List Fg:=(zu (a++b)).map λs=>⟨[s],ks f (qc a s.lo) (qc b s.lo)⟩
noncomputable def vh (f:XE) (a b:List Fg):List Fg:=zL (yy f a b)
noncomputable def znF (k:List Fg) (items:List Iv):List Fg:=zbx (k.map λf=>⟨qy fMeet f.items items,f.vec⟩)
def zbX{k:List Fg}(h:RightK k):CanK (zbx k):=za4 (Yb h) (zeD h)
def zbW{k:List Fg}(h:RightK k){i r c:Nat}(hi:i<zk)(j:c<zk):hasK (zbx k) i r c=hasK k i r c:=by unfold zbx;rw[za5 (Yb h) hi,zfp h hi j]
def RightK.app{a b:List Fg}(j:RightK a)(hb:RightK b):RightK (a++b):=λf o=>(wI.1 o).elim (j f) (hb f)
def xU{f:XE}{a b:List Fg}(j:RightK a)(hb:RightK b):RightK (yy f a b):=λg w=>by obtain⟨s,hs,rfl⟩:=wG.1 w;obtain⟨o,u,_⟩:=(yt (j.app hb)).1 s hs;exact⟨qG o u,(Xe f (j.ik.at s.lo).1.can.right (hb.ik.at s.lo).1.can.right).right⟩
def Xh{f:XE}{a b:List Fg}(j:RightK a)(hb:RightK b):xh (yy f a b):=by unfold xh yy;rw[uD];refine(yt (j.app hb)).2.imp λhst x _ ⟨h1,h2⟩=>?_;have:=zfJ.1 h1;have:=zfJ.1 h2;omega
def ze5{f:XE}{a b:List Fg}(j:RightK a)(hb:RightK b):CanK (vh f a b):=za4 (xU j hb) (Xh j hb)
def zcZ{f:XE}(E:f false false=false){a b:List Fg}(B:RightK a)(hb:RightK b){i r c:Nat}(hi:i<zk)(j:c<zk):hasK (vh f a b) i r c=f (hasK a i r c) (hasK b i r c):=by
 unfold vh;rw[za5 (xU B hb) hi];refine JJ (B.app hb) (V:=λx=>ks f (qc a x) (qc b x)) (P:=λx r c=>f (hasK a x r c) (hasK b x r c)) (λx r c _ j=>?_) (λx y r c hs=>?_) (λx r c F=>?_) hi j
 .have w:=B.ik.at x;have A:=hb.ik.at x;rw[JR E w.1.can.right A.1.can.right,qj (qi w.1.can.right r) (qi A.1.can.right r) j,w.2 r c j,A.2 r c j]
 .have o:=qo.1 hs;rw[Yt (k:=a) (qo.2 λg C=>o g (by simp[C])),Yt (k:=b) (qo.2 λg C=>o g (by simp[C]))]
 .have u:=zc0 (k:=a++b) r c F;unfold hasK at u⊢;rw[UN,tl]at u;rw[u.1,u.2,E]
def zof{k:List Fg}{items:List Iv}(h:RightK k)(hi:Nrm items){i r c:Nat}(o:i<zk)(A:c<zk):hasK (znF k items) i r c=(mem items i && hasK k i r c):=by
 have B:RightK (k.map λf=>(⟨qy fMeet f.items items,f.vec⟩:Fg)):=λg y=>by obtain⟨f,j,rfl⟩:=wG.1 y;exact⟨qH (h f j).1 hi,(h f j).2⟩
 unfold znF;rw[zbW B o A,WO,wh,km,km];constructor
 .rintro⟨g,y,u,w⟩;obtain⟨f,j,rfl⟩:=wG.1 y;simp only at u w;rw[qj (h f j).1 hi o]at u;simp only[fMeet,wh]at u;exact⟨u.2,f,j,u.1,w⟩
 .rintro⟨C,f,j,u,w⟩;refine⟨_,wG.2 ⟨f,j,rfl⟩,?_,w⟩;simp only;rw[qj (h f j).1 hi o,C,u];rfl
def CanK.right{k:List Fg}(h:CanK k):RightK k:=h.gi.right
def znD{f:XE}(w:f false false=false){a b c:List Fg}(j:RightK a)(hb:RightK b)(u:CanK c)(h:∀i r x,i<zk->x<zk->hasK c i r x=f (hasK a i r x) (hasK b i r x)):vh f a b=c:=
 XN (ze5 j hb) u λi r x hi o=>by rw[zcZ w j hb hi o,h i r x hi o]
section
open Go.ChangeShapes Go.WideShapes Go.ChangeAt Go.Deep
section
variable {H:Type}{enc:TypeId×Value->H}{w:World}{base:Nat}{spare:Nat->Bool}{held:Bool}
end
section
variable {H:Type}{enc:TypeId×Value->H}{w:World}{base:Nat}{spare:Nat->Bool}{held:Bool}
def zhh(w:World)(b o:Nat)(y:List PV):Prop:=∀(j:Nat)(p:PV),y[j]?=some p->∃u,w.cell? ⟨b,o+j,none⟩=some u/\u.oneCell'=true/\Dat (ZG w) w u p
def rdC{α:Type}(cv:α->List PV)(bd:α->Prop)(w:World)(b o:Nat)(x:α):Prop:=zhh w b o (cv x)/\bd x
def VQ{α:Type}{cv:α->List PV}{bd:α->Prop}{sz:Nat}{v:Value}{l:List α}(y:∀x,(cv x).length=sz)(h:RdSl sz (rdC cv bd) 0 w.heap.size w v l):Dat (ZG w) w v (.sl (l.map cv) .sh)/\(∀x∈l,bd x)/\l.length<=9223372036854775807:=by
 obtain⟨a,B,rfl,U,K,V⟩:=h;have N:l.length<=9223372036854775807:=by unfold maxLen at K;omega
 suffices hs:Dat (ZG w) w (.slice a (l.map cv).length B) (.sl (l.map cv) .sh)/\∀x∈l,bd x from ⟨by rw[wB]at hs;exact hs.1,hs.2,N⟩
 by_cases G:l=[]
 .subst G;exact⟨.sl a B sz [] .sh 0 0 (λ_=>undef) b8 (λh=>by cases h) K (λh=>absurd rfl h) (λi e h=>by simp at h) (λj h=>by simp at h) (λi e j p h=>by simp at h),λ_ h=>by cases h⟩
 obtain⟨b,o,rfl,X,L,O⟩:=V G;have I:∀j,j<l.length*sz->∃u,w.cell? ⟨b,o+j,none⟩=some u/\u.oneCell'=true/\∀(i k:Nat)(hi:i<l.length)(p:PV),j=i*sz+k->(cv l[i])[k]?=some p->Dat (ZG w) w u p:=λj A=>by
  have H:0<sz:=by
   rcases WG sz with J|J
   .subst J;simp at A
   .exact J
  have hi:j/sz<l.length:=Nat.div_lt_of_lt_mul (by rw[U9];exact A);have hk:j%sz<(cv l[j/sz]).length:=(by rw[y];exact U8 _ H);obtain⟨u,Q,u2,u3⟩:=(O _ hi).1 (j%sz) _ (Zv hk);have e:o+j/sz*sz+j%sz=o+j:=(by have:=Nat.div_add_mod j sz;rw[U9]at this;omega);rw[e]at Q;refine⟨u,Q,u2,λi k Y p E C=>?_⟩;have F:k<sz:=by have:=(ZZ.1 C).1;rwa[y]at this
  have q1:j/sz=i:=(by rw[E];rw[U9,Nat.mul_add_div H,Nat.div_eq_of_lt F];omega);have q2:j%sz=k:=(by rw[E];rw[U9,Nat.mul_add_mod,Nat.mod_eq_of_lt F]);subst q1;subst q2;rw[Zv hk]at C;cases C;exact u3
 obtain⟨f,P⟩:∃f:Nat->Value,∀j,j<l.length*sz->w.cell? ⟨b,o+j,none⟩=some (f j)/\(f j).oneCell'=true/\∀(i k:Nat)(hi:i<l.length)(p:PV),j=i*sz+k->(cv l[i])[k]?=some p->Dat (ZG w) w (f j) p:=by refine⟨λj=>if h:j<l.length*sz then (I j h).choose else undef,λj A=>?_⟩;simp only[ut A];exact(I j A).choose_spec
 refine⟨.sl _ B sz _ .sh b o f (dM U) (λh=>by cases h) K (λ_=>rfl) (λi e h=>?_) (λj A=>?_) (λi e j p M H=>?_),λx Z=>?_⟩
 .simp only[wn,Z3]at h;obtain⟨s,_,rfl⟩:=h;exact y s
 .obtain⟨S,T,_⟩:=P j (dM A);exact⟨L,S,T⟩
 .have hi:i<l.length:=(by have:=(ZZ.1 M).1;simpa using this);rw[xo hi]at M;cases M;have A:j<sz:=by have:=(ZZ.1 H).1;rwa[y]at this
  have:i*sz+j<l.length*sz:=(by have:=Ww sz (show i+1<=l.length from hi);rw[ub]at this;omega);exact(P _ this).2.2 i j hi p rfl H
 .obtain⟨i,hi,rfl⟩:=Wr Z;exact(O i hi).2
instance : Inhabited En:=⟨⟨0,0,[]⟩⟩
end
section
variable {H:Type}{enc:TypeId×Value->H}{w:World}{base:Nat}{spare:Nat->Bool}{held:Bool}
def xp(x:Nat×Nat×Nat):PV:=.agg [.v (.int .u64 (x.1:Nat)),.v (.int .u64 (x.2.1:Nat)),.v (.int .u64 (x.2.2:Nat))]
attribute [go_sem] xp
end
end
section
def cp2(a b:Nat):PV:=.agg [.v (.int .u64 a),.v (.int .u64 b)]
def cw(n:Nat):PV:=cp2 (n/zk) (n%zk)
attribute [go_sem] cp2 cw
def kD(v:List En)(r:Nat)(j:SmV v):Cn xT 145 [vp v,.v (.int .u64 r)] (rg (zT v r)):=by
 have w:=j.2.1;refine zt func145 2 ?_;refine pw ?_;refine .rd (zbB v r b6) rfl ?_;rcases X2 r v 0 with⟨e1,e2⟩|⟨i,hi,e1,e2⟩
 .rw[e1,qC e2];exact pd
 .have u:=j.2.2 _ (X3 hi);rw[e1,zh8 j.1 hi e2,wy];refine pw ?_;refine .i ?_ ?_<;>intro o<;>first|refine pw ?_|exact pd
  .exact absurd o b6
  .exact .d (Vl v[i] (j.1.1 _ (X3 hi)) b6)
def zoF{r c:Nat}(u:r<zk)(j:c<zk):SmV (zl9 r c):=by have h:=zoD u j;exact⟨h.1,by have:=h.2.1;omega,λe o=>by have:=h.2.2 e o;omega⟩
def zoX(v:List En)(r c:Nat)(u:SmV v)(o:r<zk)(j:c<zk):Cn xT 92 [vp v,.v (.int .u64 r),.v (.int .u64 c)] (vp (ks zn v (zl9 r c))):=by
 have h:=zdc v (zl9 r c) u (zoF o j);refine zt func92 3 ?_;refine pw ?_;refine .c (zjT r [⟨c,c⟩] (zmc j) b8) ?_
 (first|exact .d (h)|exact .q (h))
def vps(j:List (List En)):PV:=.sl (j.map λv=>[vp v]) .sh
attribute [go_sem] vps
def b10:List En:=[⟨2,3,[]⟩]
def u10:List En:=[⟨1,4,[]⟩,⟨2,3,[]⟩]
def c10:List En:=[⟨3,0,[]⟩]
def zap(j:List Nat)(x:Nat)(A:(srt j).length<=4194304):Cn xT 142 [ns (srt j),.v (.int .u64 x)] (ns (srt (j++[x]))):=by refine yZ rfl (enters_of func142 dN rfl) λD w E C y o u=>?_;rw[zeJ o,(u 1 _ rfl).v_inv];refine(zbw D j x _ w A (u 0 _ rfl) y).mono ?_;rintro e F ⟨v,rfl,hb,B⟩;exact⟨v,rfl,hb,B⟩
def VW{v:List En}{xs:List Nat}{k:Nat}(u:v.length<=1048576)(w:xs.length<=1048576):(srt (xs++zM (v.take k))).length<=4194304:=by have j:=ju (xs++zM (v.take k));have o:(v.take k).length<=1048576:=V3 (tn _ _) u;simp only[zM,wu,wB]at j o;simp only[zM];omega
def YH{v:List En}{k:Nat}(h:k<v.length):zM (v.take (k+1))=zM (v.take k)++[v[k].rep]:=by unfold zM;rw[vw h,WP];rfl
def zcC(a b:List En)(op:Nat)(ho:op<3)(A:SmV a)(hb:SmV b):Cn xT 101 [vp a,vp b,.v (.int .i64 op)] (vp (ks (Qj op) a b)):=by
 have K:=A.2.1;have M:=hb.2.1;have N:Qj op false false=false:=by
  match op,ho with
  |0,_=>rfl
  |1,_=>rfl
  |2,_=>rfl
 refine zhs func101 [] 3 dN rfl (by simp[go_sem,seval]) 14 (.dr [⟨(some 47),none,(.mv (.t 7))⟩,⟨(some 48),none,(.mv (.t 11))⟩,⟨(some 49),none,(.ia (.t 47) (.t 48) 1)⟩,⟨(some 50),none,(.ld (.t 49) false 1)⟩,⟨(some 51),none,(.mv (.t 0))⟩,⟨(some 52),none,(.mv (.t 7))⟩,⟨(some 53),none,(.mv (.t 11))⟩,⟨(some 54),none,(.ia (.t 52) (.t 53) 1)⟩,⟨(some 55),none,(.ld (.t 54) false 1)⟩,⟨(some 56),none,(.ca 145 [(.t 51),(.t 55)])⟩,⟨(some 57),none,(.mv (.t 1))⟩,⟨(some 58),none,(.mv (.t 7))⟩,⟨(some 59),none,(.mv (.t 11))⟩,⟨(some 60),none,(.ia (.t 58) (.t 59) 1)⟩,⟨(some 61),none,(.ld (.t 60) false 1)⟩,⟨(some 62),none,(.ca 145 [(.t 57),(.t 61)])⟩,⟨(some 63),none,(.mv (.t 2))⟩,⟨(some 64),none,(.ca 144 [(.t 56),(.t 62),(.t 63)])⟩,⟨(some 65),none,(.ca 143 [(.t 50),(.t 64)])⟩,⟨(some 46),none,(.mv (.t 65))⟩,⟨(some 66),none,(.ex (.t 46) 0)⟩,⟨(some 67),none,(.ex (.t 46) 1)⟩] [⟨(some 12),none,(.al [(.v (.int .u64 0)),(.v (.int .u64 0)),(.sl [] .sh)])⟩,⟨none,none,(.st (.t 12) (.t 66) 3)⟩,⟨(some 13),none,(.mv (.t 67))⟩]) rfl dN ?_
 conv=>enter [4,6];(unfold xN;simp only[Tryz.f101])
 simp only[pcT,Nat.reduceEqDiff,U5,UR,reduceIte];repeat (conv in (zgV _ _ _ _ _ _)=>cbv)
 repeat (conv in (zgW _)=>cbv)
 conv=>enter [5,1];cbv
 refine pw ?_;refine pLoop.go (λk=>k<=a.length) (λk=>[(7,ns (srt ([]++zM (a.take k)))),(8,.v (.int .i64 (k:Nat)))]) (λ_=>[]) (λk=>a.length-k) 0 [7,8] ?_ ?_ ?_
 .exact vj _
 .simp only[Wg,zM,uf,We,XB];exact pd
 ·rintro k hk;refine pw ?_;refine .i ?_ ?_<;>intro h<;>first|refine pw ?_|exact pd
  .refine .c (zap ([]++zM (a.take k)) a[k].rep (VW (xs:=[]) K b8)) ?_;refine⟨k+1,h,b6,?_,rfl⟩;rw[YH h]
  ·rw [show k=a.length by omega,Wt];refine pLoop.go (λk=>k<=b.length) (λk=>[(7,ns (srt (zM a++zM (b.take k)))),(9,.v (.int .i64 (k:Nat)))]) (λ_=>[]) (λk=>b.length-k) 0 [7,9] ?_ ?_ ?_
   .exact vj _
   .simp only[Wg,zM,uf,We];exact pd
   .rintro k hk;refine pw ?_;refine .i ?_ ?_<;>intro E<;>first|refine pw ?_|exact pd
    .refine .c (zap (zM a++zM (b.take k)) b[k].rep (VW (xs:=zM a) M (by simp[zM];omega))) ?_;refine⟨k+1,E,b6,?_,rfl⟩;rw[YH E,wV]
    .rw[show k=b.length by omega,Wt];obtain⟨L,y⟩:=xm (srt (zM a++zM b));have H:L.length<=2097152:=by have C:=ju (zM a++zM b);simp only[zM,wu,wB]at C;rw[y];simp only[zM];omega
     have I:∀r∈L,r<zk:=(by rw[y];exact Xr A.1 hb.1);have u:ks (Qj op) a b=L.filterMap (vE (Qj op) a b):=(by rw[y];rfl);rw[<-y,u];clear u y;refine pLoop.go (λk=>k<=L.length) (λk=>[(10,.sl (((L.take k).filterMap (vE (Qj op) a b)).map ec) (.r 72 3)),(11,.v (.int .i64 (k:Nat)))]) (λ_=>[]) (λk=>L.length-k) 0 [10,11,72] ?_ ?_ ?_
     .exact vj _
     .simp only[Wg,UZ,uf];exact pd
     .rintro k hk;have G:((L.take k).filterMap (vE (Qj op) a b)).length<=k:=V3 (Ul _ _) b7;refine pw ?_;refine .i ?_ ?_<;>intro B<;>first|refine pw ?_|exact pd
      .have ka:=qS A L[k];have kb:=qS hb L[k];have J:(qy (Qj op) (zT a L[k]) (zT b L[k])).length<=80100:=(by have C:=xR (Qj op) (zT a L[k]) (zT b L[k]);omega);have j:=zg1 L[k] (qy (Qj op) (zT a L[k]) (zT b L[k])) (qH ka.1 kb.1) b6;have w:=KZ (f:=Qj op) (a:=a) (b:=b) B;obtain⟨e,ok,F⟩:∃e ok,Qi L[k] (qy (Qj op) (zT a L[k]) (zT b L[k]))=(e,ok):=⟨_,_,rfl⟩;rw[zac F]at w;rw[F]at j;refine .c (kD a L[k] A) ?_;refine .c (kD b L[k] hb) ?_;refine .c (zhw (zT a L[k]) (zT b L[k]) op ka.1 kb.1 ho b6 b6) ?_;cases ok with
       | true=>
         (first|refine .c (j) ?_|refine .o (j) ?_)
         refine⟨k+1,B,b6,?_,rfl⟩;rw[w];simp;rfl
       | false=>
         (first|refine .c (j) ?_|refine .o (j) ?_)
         refine⟨k+1,B,b6,?_,rfl⟩;rw[w];simp
      .rw[show k=L.length by omega,Wt]
def zq7(r c:Nat)(j:c<zk):Cn xT 134 [.v (.int .u64 r),.v (.int .u64 c)] (vp (zl9 r c)):=by refine zt func134 2 ?_;refine pw ?_;refine .c (zg1 r [⟨c,c⟩] (zmc j) b8) ?_;rfl
def WV.smv{C:Q9}{R:List Nat}{v:List En}(h:WV C R v)(ok:OkC C R):SmV v:=(h.bv ok.1 ok.2).mono (Zp _) b6
def kH{D:Qk}{w:World}{x:Value}{u:List (List PV)}{o:Ow}(h:Dat D w x (.sl u o)):∃s:Sv,x=sv s/\s.2.1=u.length:=by obtain⟨y,j,sz,b,A,f,e1,_⟩:=(Rel.dat (ρ:=λ_=>0) (nb:=0) h).inv_sl;exact⟨(y,u.length,j),e1,rfl⟩
def kX{D:Qk}{O:Nat}{w:World}{v:Value}{k:List Fg}(h:Dat D w v (kp k))(P:∀b o,D b o->b<O):
 ∃a y C,v=.slice a k.length y/\∃E:C.length=k.length,zeF O w a y C/\∀i (h:i<C.length),Dat D w (sv C[i].1) (rg (k[i]'(E▸h)).items)/\Dat D w (sv C[i].2) (vp (k[i]'(E▸h)).vec):=by
 unfold kp at h;generalize N:k.map fc=es at h;cases h with
 | sl a y sz es o b off u hc hz hm ha hsz hd hx=>
   have E:es.length=k.length:=(by rw[<-N];simp);have g:∀i (h:i<k.length),es[i]?=some (fc k[i]):=λi h=>(by rw[<-N];exact xo h);have B:∀i,i<k.length->∃f:Fv,∀h:i<k.length,(sz=2/\u (i*2)=sv f.1/\u (i*2+1)=sv f.2)/\Dat D w (sv f.1) (rg k[i].items)/\Dat D w (sv f.2) (vp k[i].vec):=λi hi=>(by obtain rfl:2=sz:=hsz i _ (g i hi);have d0:Dat D w (u (i*2+0)) (rg k[i].items):=hx i _ 0 _ (g i hi) rfl;have I:Dat D w (u (i*2+1)) (vp k[i].vec):=hx i _ 1 _ (g i hi) rfl;obtain⟨Q,H,_⟩:=kH d0;obtain⟨S,e1,_⟩:=kH I;rw[H]at d0;rw[e1]at I;exact⟨(Q,S),λ_=>⟨⟨rfl,H,e1⟩,d0,I⟩⟩);obtain⟨F,hF⟩:=Go.Deep.choose_lt B;refine⟨a,y,(List.range k.length).map F,by rw[E],b8,⟨b7,hm,λG=>?_⟩,λi hi=>?_⟩
   .have A:0<k.length:=by
     rcases WG k.length with J|J
     .rw[J]at G;simp at G
     .exact J
    obtain⟨⟨rfl,_⟩,_⟩:=hF 0 A A;have K:es≠[]:=(by intro e;subst e;simp at E;omega);refine⟨b,off,ha K,P _ _ (hd 0 b6).1,λi hi=>?_⟩;have j:i<k.length:=(dM hi);obtain⟨⟨_,H,e1⟩,_⟩:=hF i j j;have L:=(hd (i*2) b6).2.1;have M:=(hd (i*2+1) b6).2.1;rw[H]at L;rw[e1]at M;simp only[UH,U0];exact⟨L,M⟩
   .have j:i<k.length:=(dM hi);simp only[UH,U0];exact(hF i j j).2
def zez{j:Nat->Bool}{p:Nat×Fv}:∀{l:List Fv}{n:Nat},p∈wl j n l->∃h:p.1-n<l.length,n<=p.1/\p.2=l[p.1-n]/\j p.1=true
 |[],n,h=>by cases h
 | f::l,n,h=>by
   unfold wl at h;have o:p∈wl j (n+1) l->∃h:p.1-n<(f::l).length,n<=p.1/\p.2=(f::l)[p.1-n]/\j p.1=true:=λh=>by obtain⟨y,A,u,w⟩:=zez h;refine⟨b7,b6,?_,w⟩;rw[u];have e:p.1-n=(p.1-(n+1))+1:=b6;simp only[e,WT]
   split at h
   .rename_i hh;rcases wm.1 h with rfl|h
    .exact⟨b8,Zp _,b8,hh⟩
    .exact o h
   .exact o h
def Yp{α:Type}{k:List Fg}{u:List Fv}(y:u.length=k.length)(item:Nat)(step:α->Nat->Fg->α)(o:α):
 (wl (λj=>mem (k.getD j default).items item) 0 u).foldl (λa p=>step a p.1 (k.getD p.1 default)) o=(withF item 0 k).foldl (λa p=>step a p.1 p.2) o:=by
 have w:∀j,j<=k.length->(wl (λj=>mem (k.getD j default).items item) 0 (u.take j)).foldl (λa p=>step a p.1 (k.getD p.1 default)) o=(withF item 0 (k.take j)).foldl (λa p=>step a p.1 p.2) o:=by
  intro j;induction j with
  |zero=>intro _;rfl
  | succ j ih=>
    intro A;rw[XF b6,j9 item b6,W8,W8,ih b6];have e:k.getD j default=k[j]:=(by simp[Vm,Zv (show j<k.length by omega)]);simp only[e];split
    .show step _ j (k.getD j default)=step _ j k[j];rw[e]
    .rfl
 have:=w k.length (Zp _)
 rwa[<-y,Wt,y,Wt]at this
def V8(k:List Fg)(i:Nat):PV:=.fn (.func 89) [] [.cp [kp k] 0,.cp [.v (.int .u64 i)] 0]
attribute [go_sem] V8
def zfB(k:List Fg)(i:Nat):Cn xT 47 [kp k,.v (.int .u64 i)] (V8 k i):=by refine zt func47 2 ?_;exact pd
def zjy(v:List En)(i:Nat)(f:Fg)(o:SmV v)(j:SmV f.vec):Cn xT 156 [vp v,.v (.int .i64 i),fp f] (vp (ks zn v f.vec)):=by refine zt func156 3 ?_;refine pw ?_;exact .d (zdc v f.vec o j)
def InvD{α:Type}(D0:Qk)(n:Nat)(pv:α->PV)(P:α->Prop)(W:World)(u:Value)(a:α):Prop:=
 P a/\∃D:Nat->Nat->Prop,GL D W/\(∀b o,D b o->b<W.heap.size/\b≠n/\b≠n+2/\b≠n+3)/\(∀b o,D b o->D0 b o\/n<=b)/\(∀b o,D0 b o->D b o)/\Dat D W u (pv a)
section
variable {α:Type}{D0:Qk}{pv:α->PV}{P:α->Prop}{w W A B:World}{u:Value}{a:α}
def InvD.start{y:Value}(A:Dat D0 w y (.sl [] .sh))(B:GL D0 w)(j:∀b o,D0 b o->b<w.heap.size)(hb:Below w.heap.size w W)(C:P a)(F:pv a=.sl [] .sh):InvD D0 w.heap.size pv P W y a:=by
 have u:∀b o x,D0 b o->w.cell? ⟨b,o,none⟩=some x->W.cell? ⟨b,o,none⟩=some x:=λb o x E G=>(hb.cell (p:=⟨b,o,none⟩) (j b o E)).trans G;refine⟨C,D0,B.mono (λ_ _ h=>h) u,λb o h=>?_,λ_ _ h=>.inl h,λ_ _ h=>h,?_⟩
 .have:=j b o h;have:=hb.size;exact⟨b6,b6,b6,b6⟩
 .rw[F];exact A.mono (λ_ _ h=>h) u
def InvD.shape{n:Nat}(h:InvD D0 n pv P W u a)(y:∃j,pv a=.sl j .sh):∃w n c,u=.slice w n c:=by obtain⟨_,D,_,_,_,_,o⟩:=h;obtain⟨j,e⟩:=y;rw[e]at o;obtain⟨s,rfl,_⟩:=kH o;exact⟨_,_,_,rfl⟩
def InvD.keep{n:Nat}(h:InvD D0 n pv P A u a)(hk:Keep (λk=>k=n\/k=n+2\/k=n+3) A B):InvD D0 n pv P B u a:=by
 obtain⟨H,D,C,w,E,F,G⟩:=h;have y:∀b o x,D b o->A.cell? ⟨b,o,none⟩=some x->B.cell? ⟨b,o,none⟩=some x:=λb o x j I=>
  (tw (a:=⟨b,o,none⟩) (hk.block b (w b o j).1 (by have:=w b o j;omega))).trans I
 exact⟨H,D,C.mono (λ_ _ h=>h) y,λb o j=>⟨Vq (w b o j).1 hk.size,(w b o j).2⟩,E,F,G.mono (λ_ _ h=>h) y⟩
def zhD{D:Qk}{f:Fv}{g:Fg}(o:Dat D w (sv f.1) (rg g.items))(u:Dat D w (sv f.2) (vp g.vec)):Dat D w (.agg #[sv f.1,sv f.2]) (fp g):=by
 refine .agg _ _ rfl (λi hi=>?_) λi p j=>?_
 .match i,hi with
  |0,_=>rfl
  |1,_=>rfl
 .match i,j with
  |0,j=>cases j;exact o
  |1,j=>cases j;exact u
  |i+2,j=>simp[fc]at j
def InvD.step{H:FuncId}{i:Nat}{f:Fv}{g:Fg}{F:α}(h:InvD D0 w.heap.size pv P W u a)(Q:∀b o,D0 b o->b<w.heap.size)(hb:Below w.heap.size w W)(hs:w.heap.size+4<=W.heap.size)(N:Dat D0 w (sv f.1) (rg g.items))(O:Dat D0 w (sv f.2) (vp g.vec))
 (T:Cn xT H [pv a,.v (.int .i64 i),fp g] (pv F)) (S:P F) :
 Calls xT H #[u,.int .i64 (i:Nat),.agg #[sv f.1,sv f.2]] W λe E=>∃K,e=.returned K/\InvD D0 w.heap.size pv P E K F/\Keep (zaB (w.heap.size+4) W) W E:=by
 obtain⟨_,D,I,C,L,J,M⟩:=h;have U:∀b o x,D0 b o->w.cell? ⟨b,o,none⟩=some x->W.cell? ⟨b,o,none⟩=some x:=λb o x B G=>(hb.cell (p:=⟨b,o,none⟩) (Q b o B)).trans G;refine(jP T I (λb o h=>(C b o h).1) rfl (λj p y=>?_)).mono ?_
 .match j,y with
  |0,y=>cases y;exact M
  |1,y=>cases y;exact .v _
  |2,y=>cases y;exact(zhD N O).mono J U
  |j+3,y=>simp at y
 .rintro e E ⟨v,rfl,A,B⟩;refine⟨v,rfl,⟨S,_,I.mono (λ_ _ h=>.inl h) λb o x B G=>(A.cell (p:=⟨b,o,none⟩) (C b o B).1).trans G,λb o h=>?_,λb o h=>?_,λb o h=>.inl (J b o h),B⟩,Keep.of_below' A (Zp _)⟩
  .rcases h with h|h
   .exact⟨Vq (C b o h).1 A.size,(C b o h).2⟩
   .exact⟨h.2,b6,b6,b6⟩
  .rcases h with h|h
   .exact L b o h
   .exact .inr b6
def InvD.done(h:InvD D0 w.heap.size pv P W u a):Dat (λb o=>D0 b o\/(w.heap.size<=b/\b<W.heap.size)) W u (pv a):=by obtain⟨_,D,C,j,y,E,A⟩:=h;exact A.mono (λb o h=>(y b o h).imp id λB=>⟨B,(j b o h).1⟩) λ_ _ _ _ h=>h
end
def zcx{D:Qk}{w:World}{x:Value}{p:PV}(h:Dat D w x (.cp [p] 0)):∃b o y,x=.pointer (some ⟨b,o,none⟩)/\D b o/\w.cell? ⟨b,o,none⟩=some y/\Dat D w y p:=by obtain⟨b,j,f,e,u,A⟩:=(Rel.dat (ρ:=λ_=>0) (nb:=0) h).inv_cp;have:=u 0 b8;exact⟨b,j,f 0,e,dM this.1,dM this.2.1,A 0 p rfl⟩
def zbU{D:Qk}{w:World}{x:Value}{k:List Fg}{i:Nat}(h:Dat D w x (V8 k i)):∃bk ok j oi v,x=.func (.func 89) #[] #[.pointer (some ⟨bk,ok,none⟩),.pointer (some ⟨j,oi,none⟩)]/\D bk ok/\D j oi/\w.cell? ⟨bk,ok,none⟩=some v/\w.cell? ⟨j,oi,none⟩=some (.int .u64 (i:Nat))/\Dat D w v (kp k):=by
 unfold V8 at h;cases h with
 | fn f va vb fs cs h1 h2 h3 h4=>
   rw[Ux.1 h1];obtain⟨l⟩:=vb;match l,h2 with
   |[y,z],_=>obtain⟨bk,ok,v,e1,B,A,E⟩:=zcx (h4 0 _ rfl);obtain⟨j,oi,u,e2,C,o,F⟩:=zcx (h4 1 _ rfl);rw[F.v_inv]at o;simp at e1 e2;subst e1 e2;exact⟨bk,ok,j,oi,v,rfl,B,C,A,o,E⟩
def zfQ{D:Qk}{w:World}{x:Value}(h:Dat D w x (.sl [] .sh)):∃j c,x=.slice j 0 c:=by obtain⟨⟨a,n,c⟩,rfl,e⟩:=kH h;simp only[WB]at e;subst e;exact⟨a,c,rfl⟩
def QW(k:List Fg):Prop:=k.length<=1152921504606846976/\∀f∈k,f.items.length<=1152921504606846976/\f.vec.length<=1152921504606846976/\∀e∈f.vec,e.holes.length<=1152921504606846976
def YM{D:Qk}{w:World}{k:List Fg}{i bk ok B oi:Nat}{a:Option Addr}{cap:Nat}{fs:List Fv}(hr:RightK k)(hz:QW k)(hG:GL D w)(J:∀b o,D b o->b<w.heap.size)(V:D bk ok)(X:D B oi)(T:w.cell? ⟨bk,ok,none⟩=some (.slice a k.length cap))(U:w.cell? ⟨B,oi,none⟩=some (.int .u64 (i:Nat)))
 (I:fs.length=k.length) (G:zeF w.heap.size w a cap fs) (L:∀j (h:j<fs.length),Dat D w (sv fs[j].1) (rg (k[j]'(I▸h)).items)/\Dat D w (sv fs[j].2) (vp (k[j]'(I▸h)).vec)) {W:World} (hb:Below w.heap.size w W) :
 v7 xT 89 #[.pointer (some ⟨bk,ok,none⟩),.pointer (some ⟨B,oi,none⟩)] Y4 (λ_=>False) (PtF w.heap.size bk B) (wl (λj=>mem (k.getD j default).items i) 0 fs) W:=by
 have O:∀b o x,D b o->w.cell? ⟨b,o,none⟩=some x->W.cell? ⟨b,o,none⟩=some x:=λb o x A P=>(hb.cell (p:=⟨b,o,none⟩) (J b o A)).trans P;refine zew fs _ a cap bk ok B oi w.heap.size i W ?_ (by rw[I];exact O _ _ _ V T) (O _ _ _ X U) hb.size λw' j C F N=>?_
 .obtain⟨Y,Z,h3⟩:=G;refine⟨Y,Z,λM=>?_⟩;obtain⟨b,y,e1,e2,Q⟩:=h3 M;exact⟨b,y,e1,e2,λj C=>⟨(hb.cell (p:=⟨b,y+j*2,none⟩) e2).trans (Q j C).1,(hb.cell (p:=⟨b,y+j*2+1,none⟩) e2).trans (Q j C).2⟩⟩
 .have H:∀b o x,D b o->w.cell? ⟨b,o,none⟩=some x->w'.cell? ⟨b,o,none⟩=some x:=λb o x A P=>(tw (a:=⟨b,o,none⟩) (F b (J b o A))).trans (O b o x A P);have E:j<k.length:=I▸C;have S:=X3 E;have e:k.getD j default=k[j]:=(by rw[Vm,Zv E];rfl);simp only[e];refine(jP (ziQ k[j].items i (hr _ S).1 (hz.2 _ S).1) (hG.mono (λ_ _ h=>h) H) (λb o h=>Vq (J b o h) N) rfl (λt p u=>?_)).mono ?_
  .match t,u with
   |0,u=>cases u;exact(L j C).1.mono (λ_ _ h=>h) H
   |1,u=>cases u;exact .v _
   |t+2,u=>simp at u
  .rintro e W' ⟨v,rfl,K,A⟩;rw[A.v_inv];exact⟨rfl,K⟩
def is(l:List Nat):PV:=.sl (l.map λx=>[.v (.int .i64 (x:Nat))]) .sh
attribute [go_sem] is
def zfl{k:List Fg}{j:Nat}(h:j<k.length):k.getD j default=k[j]:=by rw[Vm,Zv h];rfl
def zf9{α:Type}{pre j:List α}{p:α}(h:pre++[p] <+: j):p∈j:=h.subset b8
def zfk{C:Q9}{R:List Nat}(k:List Fg)(i:Nat)(hk:IK C R k)(ok:OkC C R)(hr:RightK k)(hs:∀f∈k,SmV f.vec)(hz:QW k):
 Cn xT 155 [V8 k i,.sl [] .sh,.fn (.func 156) [] []] (vp (qc k i)):=by
 refine yZ rfl (enters_of func155 dN rfl) λD w vs V y Q K=>?_;obtain⟨bk,ac,Z,oi,v,e0,S,T,c1,c2,L⟩:=zbU (K 0 _ rfl);obtain⟨a,ab,U,rfl,M,H,E⟩:=kX L y;have j:=K 1 _ rfl;obtain⟨I,J,e1⟩:=zfQ j;rw[e1]at j;rw[zjx Q,e0,e1,zcA (K 2 _ rfl)];refine(X8 89 _ bk Z _ w I J (enters_of func89 dN rfl) (λW hb=>YM hr hz V y S T c1 c2 M H E hb) (y _ _ S) (y _ _ T)
  (InvD D w.heap.size vp (WV C R)) (λo p=>ks zn o (k.getD p.1 default).vec) [] (λW hb=>InvD.start j V y hb WV.nil rfl) (λW u a h=>h.shape ⟨_,rfl⟩) (λA B u a h hk=>h.keep hk) λW u pre p G P hb h=>?_).mono ?_
 .obtain⟨N,_,O,_⟩:=zez (zf9 G);have X:p.1<U.length:=(dM N);have F:p.1<k.length:=M▸X;have Y:=X3 F;have q:=E p.1 X;have e:p.2=U[p.1]:=(by rw[O];simp);rw[zfl F,e];exact h.step y hb P q.1 q.2 (zjy _ p.1 k[p.1] (h.1.smv ok) (hs _ Y)) (h.1.iv.lat fU0 (hk _ Y))
 .rintro e w' ⟨u,rfl,hI,hb⟩;have h:=hI.done;rw[Yp M i (λo _ f=>ks zn o f.vec) []]at h;exact⟨u,rfl,hb,h⟩
def zdx{D:Qk}{base:Nat}{w:World}{v:Value}{l:List Nat}(h:OwnI base w v l)(G:∀b o,base<=b->b<w.heap.size->D b o):Dat D w v (is l):=by
 unfold is;have u:(l.map λx=>[PV.v (.int .i64 (x:Nat))]).length=l.length:=b8
 rcases id h.2 with⟨rfl,F⟩|⟨g,A,E,rfl,I,J,K,H,_⟩
 .obtain rfl:l=[]:=Wc.1 F;exact .sl none 0 1 [] .sh 0 0 (λ_=>undef) b8 (λh=>by cases h) dG (λh=>absurd rfl h) (λi e h=>by simp at h) (λj h=>by simp at h) (λi e j p h=>by simp at h)
 .rw[<-u];refine .sl _ A 1 _ .sh g 0 (λj=>.int .i64 (l.getD j 0:Nat)) (dM K) (λh=>by cases h) H (λ_=>rfl) (λi e h=>?_) (λj C=>?_) (λi e j p B y=>?_)
  .simp only[wn,Z3]at h;obtain⟨s,_,rfl⟩:=h;rfl
  .simp only[wB,Up]at C;refine⟨G _ _ I (Y1.1 J).1,?_,rfl⟩;rw[wy,h.cellAt _ (dM C)];simp[C]
  .have hi:i<l.length:=(by have:=(ZZ.1 B).1;simpa using this);rw[wn,Zv hi]at B;cases B;match j,y with
   |0,y=>cases y;simp[hi];exact .v _
   |j+1,y=>simp at y
def zbj(l:List (Nat×Fv)):∀a:List Nat,l.foldl (λo p=>o++[p.1]) a=a++l.map Prod.fst:=by
 induction l with
 |nil=>intro a;simp
 |cons p l ih=>intro a;rw[WN,ih];simp
def JV(l:List (Nat×Fg)):∀a:List Nat,l.foldl (λo p=>o++[p.1]) a=a++l.map Prod.fst:=by
 induction l with
 |nil=>intro a;simp
 |cons p l ih=>intro a;rw[WN,ih];simp
def zey(j:Nat->Bool):∀(n:Nat)(l:List Fv),(wl j n l).length<=l.length
 |_,[]=>Zp _
 | n,f::l=>by
   have:=zey j (n+1) l;unfold wl;split<;>simp<;>omega
def K9(k:List Fg)(i:Nat)(hr:RightK k)(hz:QW k)(ab:k.length<=1073741824):Cn xT 154 [kp k,.v (.int .u64 i)] (is (zU k i)):=by
 refine yZ rfl (enters_of func154 dN rfl) λD w vs hG S Y N=>?_;obtain⟨a,G,fs,e0,hl,I,K⟩:=kX (N 0 _ rfl) S;rw[zeJ Y,e0,(N 1 _ rfl).v_inv];obtain⟨y,F⟩:=xt ((w.alloc (.cells #[.slice a k.length G] 41)).alloc (.cells #[.int .u64 (i:Nat)] 36));have ad:y.heap.size=w.heap.size+2:=by rw[<-F];simp
 have b1:Below w.heap.size w y:=by rw[<-F];exact((tB _ _).alloc (Zp _) _).alloc b8 _
 have x1:Boxed y w.heap.size 41 (.slice a k.length G):=by rw[<-F];exact(t8 w _ _).alloc _
 have x2:Boxed y (w.heap.size+1) 36 (.int .u64 (i:Nat)):=by rw[<-F];have:=t8 (w.alloc (.cells #[.slice a k.length G] 41)) 36 (.int .u64 (i:Nat));rw[tE]at this;exact this
 have H:∀b o x,D b o->w.cell? ⟨b,o,none⟩=some x->y.cell? ⟨b,o,none⟩=some x:=λb o x N hx=>(b1.cell (p:=⟨b,o,none⟩) (S b o N)).trans hx;obtain⟨E,J⟩:∃E:Nat->Nat->Prop,E=λb o=>D b o\/(w.heap.size<=b/\b<y.heap.size):=⟨_,rfl⟩;have M:∀b o,E b o->b<y.heap.size:=λb o h=>by rw[J]at h;exact h.elim (λh=>by have:=S b o h;omega) ui
 have C:Calls xT 192 #[.func (.func 89) #[] #[.pointer (some ⟨w.heap.size,0,none⟩),.pointer (some ⟨w.heap.size+1,0,none⟩)],.slice none 0 0,.func (.func 193) #[] #[]] y λe T=>∃u,e=.returned u/\OwnI (y.heap.size+4) T u (zU k i)/\Below y.heap.size y T:=by
  refine(X7 89 _ w.heap.size (w.heap.size+1) _ y none 0 (enters_of func89 dN rfl) (λW hb=>YM (D:=E) (a:=a) (cap:=G) (fs:=fs) hr hz (hG.mono (λb o h=>by rw[J];exact .inl h) H) M (by rw[J];exact .inr b6) (by rw[J];exact .inr b6) x1.cell x2.cell hl ?_ (λj O=>⟨(K j O).1.mono (λb o h=>by rw[J];exact .inl h) H,(K j O).2.mono (λb o h=>by rw[J];exact .inl h) H⟩) hb) b6 b6
   (λW u l=>OwnI (y.heap.size+4) W u l) (λo p=>o++[p.1]) [] (λW _=>OwnI.nil _ _) (λW u a h=>h.shape) (λA B u a h hk=>h.keep hk λg hg _=>b6) λW u pre p P ae hb h=>?_).mono ?_
  .obtain⟨Q,U,h3⟩:=I;refine⟨Q,U,λX=>?_⟩;obtain⟨b,L,e1,e2,Z⟩:=h3 X;exact⟨b,L,e1,b6,λj O=>⟨(b1.cell (p:=⟨b,L+j*2,none⟩) e2).trans (Z j O).1,(b1.cell (p:=⟨b,L+j*2+1,none⟩) e2).trans (Z j O).2⟩⟩
  .have ac:pre.length<=k.length:=(by have Q:=P.length_le;have U:=zey (λj=>mem (k.getD j default).items i) 0 fs;simp only[wu,wD,WB]at Q;omega);refine JY (y.heap.size+4) W u _ p.1 _ _ h b6 ?_;rw[zbj];simp;omega
  .rintro e T ⟨u,rfl,hI,hb⟩;rw[Yp hl i (λo j _=>o++[j]) [],JV,XV]at hI;exact⟨u,rfl,hI,hb⟩
 have HF:=qL C;have HB:=qL b1;clear C b1 x1 x2 H J M I K N hG S;go_enter func154,ntmps154
 go_wp2_with (first
  |(go_at_call 47;refine(zex _ _ _ _ _).mono ?_;rintro e T ⟨rfl,rfl⟩;rw[F])
  |(go_at_call 192;refine HF.o.mono ?_;rintro e w2 ⟨u,rfl,ho,V⟩;obtain⟨au,nu,cu,rfl⟩:=ho.shape))
 go_ret;exact⟨_,rfl,HB.o.trans (V.mono b6),zdx ho λb o Q U=>.inr b6⟩
def zl6{β:Type}(q:β->Bool):∀(l:List β)(b:Bool),l.foldl (λb x=>b || q x) b=(b || l.any q)
 |[],b=>b8
 |x::l,b=>by rw[WN,zl6 q l,uP,UK]
def zo7{k:List Fg}{o:List Fv}(y:o.length=k.length)(item:Nat)(q:Fg->Bool):
 (wl (λj=>mem (k.getD j default).items item) 0 o).any (λp=>q (k.getD p.1 default))=(withF item 0 k).any λp=>q p.2:=by
 have h:=Yp y item (λb _ f=>b || q f) false;have u:=zl6 (λp:Nat×Fv=>q (k.getD p.1 default)) (wl (λj=>mem (k.getD j default).items item) 0 o) false;have w:=zl6 (λp:Nat×Fg=>q p.2) (withF item 0 k) false;rw[uH]at u w;rw[<-u,<-w];exact h
def zoW(k:List Fg)(i r c:Nat)(hr:RightK k)(hc:c<zk)(hz:QW k):Cn xT 18 [kp k,.v (.int .u64 i),.v (.int .u64 r),.v (.int .u64 c)] (.v (.bool (hasK k i r c))):=by
 refine yZ rfl (enters_of func18 dN rfl) λD w vs hG K Z A=>?_;obtain⟨a,G,S,e0,T,N,M⟩:=kX (A 0 _ rfl) K;have ab:vs=#[.slice a k.length G,.int .u64 (i:Nat),.int .u64 (r:Nat),.int .u64 (c:Nat)]:=by
  have q1:=(A 1 _ rfl).v_inv;have q2:=(A 2 _ rfl).v_inv;have q3:=(A 3 _ rfl).v_inv;obtain⟨l⟩:=vs;match l,Z with
  |[x,y,z,t],_=>simp at e0 q1 q2 q3;rw[e0,q1,q2,q3]
 rw[ab];refine(zn5 a k.length G i r c (wl (λj=>mem (k.getD j default).items i) 0 S) (λp=>mem (zT (k.getD p.1 default).vec r) c) w (λW C ac c3 c4=>?_) λW p E hb=>?_).mono ?_
 .have U:∀b o x,D b o->w.cell? ⟨b,o,none⟩=some x->W.cell? ⟨b,o,none⟩=some x:=λb o x A Q=>(tw (a:=⟨b,o,none⟩) (C b (K b o A))).trans Q;refine zew S _ a G _ 0 _ 0 w.heap.size i W ?_ (by rw[T];exact c3) c4 b6 λw' j F I O=>?_
  .obtain⟨h1,h2,h3⟩:=N;refine⟨h1,h2,λV=>?_⟩;obtain⟨b,J,e1,e2,e3⟩:=h3 V;exact⟨b,J,e1,e2,λj F=>⟨(tw (a:=⟨b,J+j*2,none⟩) (C b e2)).trans (e3 j F).1,(tw (a:=⟨b,J+j*2+1,none⟩) (C b e2)).trans (e3 j F).2⟩⟩
  .have P:∀b o x,D b o->w.cell? ⟨b,o,none⟩=some x->w'.cell? ⟨b,o,none⟩=some x:=λb o x A Q=>(tw (a:=⟨b,o,none⟩) (I b (K b o A))).trans (U b o x A Q);have B:j<k.length:=T▸F;have L:=X3 B;simp only[zfl B];refine(jP (ziQ k[j].items i (hr _ L).1 (hz.2 _ L).1) (hG.mono (λ_ _ h=>h) P) (λb o h=>Vq (K b o h) O) rfl (λt p E=>?_)).mono ?_
   .match t,E with
    |0,E=>cases E;exact(M j F).1.mono (λ_ _ h=>h) P
    |1,E=>cases E;exact .v _
    |t+2,E=>simp at E
   .rintro e W' ⟨v,rfl,H,A⟩;rw[A.v_inv];exact⟨rfl,H⟩
 .have U:∀b o x,D b o->w.cell? ⟨b,o,none⟩=some x->W.cell? ⟨b,o,none⟩=some x:=λb o x A Q=>(hb.cell (p:=⟨b,o,none⟩) (K b o A)).trans Q;obtain⟨X,_,Y,_⟩:=zez E;have F:p.1<S.length:=(dM X);have B:p.1<k.length:=T▸F;have L:=X3 B;have e:p.2=S[p.1]:=(by rw[Y];simp);simp only[zfl B,e];refine(jP (zo6 k[p.1].vec r c (hr _ L).2 hc (hz.2 _ L).2.1 (hz.2 _ L).2.2) (hG.mono (λ_ _ h=>h) U) (λb o h=>Vq (K b o h) hb.size) rfl (λt p' u=>?_)).mono ?_
  .match t,u with
   |0,u=>cases u;exact(M p.1 F).2.mono (λ_ _ h=>h) U
   |1,u=>cases u;exact .v _
   |2,u=>cases u;exact .v _
   |t+3,u=>simp at u
  .rintro e W' ⟨v,rfl,H,A⟩;rw[A.v_inv];exact⟨rfl,H⟩
 .rintro e w' ⟨rfl,hb⟩;rw[zo7 T i (λf=>mem (zT f.vec r) c),jh];exact⟨_,rfl,hb,.v _⟩
def zgU{C:Q9}{R:List Nat}(k:List Fg)(i:Nat)(hk:IK C R k)(ok:OkC C R)(j:RightK k)(hs:∀f∈k,SmV f.vec)(hz:QW k):Cn xT 112 [kp k,.v (.int .u64 i)] (vp (qc k i)):=by refine zt func112 2 ?_;refine pw ?_;refine .c (zfB k i) ?_;exact .d (zfk k i hk ok j hs hz)
def zid(k:List Fg)(i r c:Nat)(E:RightK k)(C:c<zk)(hz:QW k):Cn xT 99 [kp k,.v (.int .u64 i),.v (.int .u64 r),.v (.int .u64 c)] (.v (.bool (hasK k i r c))):=by
 have G:=hz.1;refine zt func99 4 ?_;refine pw ?_;refine pLoop.go (λj=>j<=k.length/\hasK k i r c=hasK (k.drop j) i r c) (λj=>[(9,.v (.int .i64 (j:Nat)))]) (λ_=>[]) (λj=>k.length-j) 0 [9] ?_ ?_ ?_
 .exact⟨vj _,rfl⟩
 .exact pd
 .rintro j ⟨F,w⟩;refine pw ?_;refine .i ?_ ?_<;>intro h<;>first|refine pw ?_|exact pd
  .rw[V1 h]at w;have o:hasK k i r c=((mem k[j].items i && mem (zT k[j].vec r) c) || hasK (k.drop (j+1)) i r c):=w;have u:=hz.2 _ (X3 h);have y:=E _ (X3 h);refine pw ?_;refine .c (kU k[j].items i u.1) ?_;refine .i ?_ ?_<;>intro A<;>first|refine pw ?_|exact pd
   .refine .c (zl8 k[j].vec r c y.2 C u.2.1 u.2.2) ?_;rw[A,Bool.true_and]at o;refine .i ?_ ?_<;>intro B<;>first|refine pw ?_|exact pd
    .rw[o,B];rfl
    .rw[B,uH]at o;exact⟨j+1,⟨h,o⟩,b6,rfl⟩
   .rw[A,tk,uH]at o;exact⟨j+1,⟨h,o⟩,b6,rfl⟩
  .rw[w,wE b6];rfl
def VR{C:Q9}{R:List Nat}(k:List Fg)(i:Nat)(hk:IK C R k)(ok:OkC C R)(E:RightK k)(hs:∀f∈k,SmV f.vec)(hz:QW k):Cn xT 102 [kp k,.v (.int .u64 i)] (vp (qc k i)):=by
 have B:=hz.1;refine zt func102 2 ?_;refine pw ?_;refine pLoop.go (λj=>j<=k.length) (λj=>[(5,vp (qc (k.take j) i)),(6,.v (.int .i64 (j:Nat)))]) (λ_=>[]) (λj=>k.length-j) 0 [5,6] ?_ ?_ ?_
 .exact vj _
 .simp only[Wg,zbT];exact pd
 .rintro j A;refine pw ?_;refine .i ?_ ?_<;>intro h<;>first|refine pw ?_|exact pd
  .have o:=Ku i h;have w:=hz.2 _ (X3 h);have u:=((hk.take j).at i).1.smv ok;refine pw ?_;refine .c (kU k[j].items i w.1) ?_;refine .i ?_ ?_<;>intro y<;>first|refine pw ?_|exact pd
   .rw[VS y]at o;refine .c (zcC (qc (k.take j) i) k[j].vec 0 b6 u (hs _ (X3 h))) ?_;rw[znf];exact⟨j+1,h,b6,by rw[o],rfl⟩
   .rw[V2 (by rw[y];simp)]at o;exact⟨j+1,h,b6,by rw[o],rfl⟩
  .rw[show k.take j=k from ww b6]
def refKMemb_c(k:List Fg)(i:Nat)(hz:QW k)(B:k.length<=1073741824):Cn xT 140 [kp k,.v (.int .u64 i)] (is (zU k i)):=by
 have E:=hz.1;refine zt func140 2 ?_;refine pw ?_;refine pLoop.go (λj=>j<=k.length) (λj=>[(5,.sl ((zU (k.take j) i).map λx=>[.v (.int .i64 (x:Nat))]) (.r 23 1)),(6,.v (.int .i64 (j:Nat)))]) (λ_=>[]) (λj=>k.length-j) 0 [5,6,23] ?_ ?_ ?_
 .exact vj _
 .simp only[Wg,zU,withF,uf];exact pd
 .rintro j C;have u:=zbk (k.take j) i;have A:(zU (k.take j) i).length<=j:=(by simp at u;omega);refine pw ?_;refine .i ?_ ?_<;>intro h<;>first|refine pw ?_|exact pd
  .have o:=JX i h;have w:=hz.2 _ (X3 h);refine pw ?_;refine .c (kU k[j].items i w.1) ?_;refine .i ?_ ?_<;>intro y<;>first|refine pw ?_|exact pd
   .rw[VS y]at o;refine⟨j+1,h,b6,?_,rfl⟩;rw[o];simp
   .rw[V2 (by rw[y];simp),We]at o;exact⟨j+1,h,b6,by rw[o],rfl⟩
  .rw[show k.take j=k from ww b6]
def Vh(k:List Fg)(hb:BdK k)(hz:QW k):Cn xT 32 [kp k] (jS (ckK k).1 (ckK k).2):=by
 have G:=hz.1;refine zt func32 1 ?_;refine pw ?_;refine pLoop.go (λj=>j<=k.length/\ckK k=hkK j (k.drop j)) (λj=>[(9,.v (.int .i64 (j:Nat)))]) (λ_=>[]) (λj=>k.length-j) 0 [9] ?_ ?_ ?_
 .exact⟨vj _,rfl⟩
 .exact pd
 .rintro j ⟨F,y⟩;refine pw ?_;refine .i ?_ ?_<;>intro h<;>first|refine pw ?_|exact pd
  .rw[V1 h,hkK]at y;have B:=hb.1 _ (X3 h);have A:=hz.2 _ (X3 h);have u:=Ju (Zl k[j].items).1 (Zl k[j].items).2;have w:=Ju (jx k[j].vec).1 (jx k[j].vec).2;refine pw ?_;refine .rd (rcheck_c k[j].items B.1 A.1 (.inr (KL 2))) rfl ?_;by_cases C:(Zl k[j].items).1=0
   .rw[yk C];rw[V2 b6]at y;refine pw ?_;refine .rd (zes k[j].vec B.2.1 A.2.1 A.2.2) rfl ?_;by_cases E:(jx k[j].vec).1=0
    .rw[yk E];rw[V2 b6]at y;refine pw ?_;exact⟨j+1,⟨h,y⟩,b6,rfl⟩
    .rw[VS E]at y;rw[y];rw[vu E]at w⊢;refine pw ?_
     (first|refine .c (w) ?_|refine .o (w) ?_)
     refine .c (jT (jx k[j].vec).1 j) ?_;exact ym _ _
   .rw[VS C]at y;rw[y];rw[vu C]at u⊢;refine pw ?_
    (first|refine .c (u) ?_|refine .o (u) ?_)
    refine .c (jT (Zl k[j].items).1 j) ?_;exact ym _ _
  .rw[y,wE b6];exact .eq _ rfl
def zfq(a b:List Fg)(hz:QW a):Cn xT 13 [kp a,kp b] (.v (.bool (decide (a=b)))):=by
 have B:=hz.1;refine zt func13 2 ?_;refine pw ?_;refine .i ?_ ?_<;>intro u<;>first|refine pw ?_|exact pd
 .symm;rw[Wy];rintro rfl;exact u rfl
 .have A:a.length=b.length:=(dM u);clear u;refine pLoop.go (λk=>k<=a.length/\(a=b↔a.drop k=b.drop k)) (λk=>[(5,.v (.int .i64 (k:Nat)))]) (λ_=>[]) (λk=>a.length-k) 0 [5] ?_ ?_ ?_
  .exact⟨vj _,UL⟩
  .exact pd
  .rintro k ⟨hk,o⟩;refine pw ?_;refine .i ?_ ?_<;>intro h<;>first|refine pw ?_|exact pd
   .have y:k<b.length:=b6;have j:=hz.2 _ (X3 h);rw[V1 h,V1 y,Wk]at o;refine pw ?_;refine .c (zgI a[k].items b[k].items j.1) ?_;refine .i ?_ ?_<;>intro e<;>first|refine pw ?_|exact pd
    .symm;rw[Wy];intro w;exact e (WU Fg.items (o.1 w).1)
    .refine .c (zji a[k].vec b[k].vec j.2.1 j.2.2) ?_;refine .i ?_ ?_<;>intro e2<;>first|refine pw ?_|exact pd
     .symm;rw[Wy];intro w;exact e2 (WU Fg.vec (o.1 w).1)
     .refine⟨k+1,⟨h,?_⟩,b6,rfl⟩;rw[o];exact⟨λh=>h.2,λh=>⟨Fg.ext' e e2,h⟩⟩
   .rw[eq_comm,wJ,o,wE b6,wE b6]
def zjX(a b:List Nat)(A:a.length<=1152921504606846976):Cn xT 191 [is a,is b] (.v (.bool (decide (a=b)))):=by
 refine zt func191 2 ?_;refine pw ?_;refine .i ?_ ?_<;>intro o<;>first|refine pw ?_|exact pd
 .symm;rw[Wy];rintro rfl;exact o rfl
 .have w:a.length=b.length:=(dM o);clear o;refine pLoop.go (λk=>k<=a.length/\(a=b↔a.drop k=b.drop k)) (λk=>[(13,.v (.int .i64 (k:Nat)))]) (λ_=>[]) (λk=>a.length-k) 0 [13] ?_ ?_ ?_
  .exact⟨vj _,UL⟩
  .exact pd
  .rintro k ⟨hk,j⟩;refine pw ?_;refine .i ?_ ?_<;>intro h<;>first|refine pw ?_|exact pd
   .have u:k<b.length:=b6;rw[V1 h,V1 u,Wk]at j;refine pw ?_;refine .i ?_ ?_<;>intro e<;>first|refine pw ?_|exact pd
    .symm;rw[Wy];intro y;exact absurd (j.1 y).1 b6
    .refine⟨k+1,⟨h,?_⟩,b6,rfl⟩;rw[j];have e:a[k]=b[k]:=b6;exact⟨λh=>h.2,λh=>⟨e,h⟩⟩
   .rw[eq_comm,wJ,j,wE b6,wE b6]
def u11:List En:=[⟨1,3,[]⟩,⟨2,0,[]⟩]
def zhj(f:Fg)(v:List En)(j:∀e∈f.vec,ZL e)(o:∀e∈v,ZL e)(u:(zv f.vec).length<=1073741824)(w:(zv v).length<=1073741824):Cn xT 187 [fp f,vp v] (.v (.int .i64 (zZ (zv f.vec) (zv v)))):=by refine zt func187 2 ?_;refine pw ?_;exact .d (Ks f.vec v j o u w)
def zhm(k:List Fg)(v:List En)(i:Nat)(hi:i<=k.length)(H:∀j,(h:j<k.length)->j<i->ZH k[j].vec v)(I:∀j,(h:j<k.length)->i<=j->¬ZH k[j].vec v)(J:k.length<=1152921504606846976)
 (w:∀f∈k,Cn xT 187 [fp f,vp v] (.v (.int .i64 (zZ (zv f.vec) (zv v))))) :
 Cn xT 186 [kp k,vp v,.fn (.func 187) [] []] (.tup [.v (.int .i64 i),.v (.bool (if h:i<k.length then decide (zZ (zv k[i].vec) (zv v)=0) else false))]):=by
 refine zt func186 3 ?_;refine pw ?_;refine pLoop.go (λp:Nat×Nat=>p.1<=i/\i<=p.2/\p.2<=k.length) (λp=>[(9,.v (.int .i64 (p.1:Nat))),(10,.v (.int .i64 (p.2:Nat)))]) (λ_=>[]) (λp=>p.2-p.1) (0,k.length) [9,10] ?_ ?_ ?_
 .exact⟨vj _,hi,Zp _⟩
 .exact pd
 .rintro⟨p,q⟩ ⟨B,C,E⟩;simp only at B C E;refine pw ?_;refine .i ?_ ?_<;>intro h<;>first|refine pw ?_|exact pd
  .have y:(p+q)/2<k.length:=b6;have F:=H _ y;have G:=I _ y;refine pw ?_
   (first|refine .c (w k[(p+q)/2] (X3 y)) ?_|refine .o (w k[(p+q)/2] (X3 y)) ?_)
   refine .i ?_ ?_<;>intro u<;>first|refine pw ?_|exact pd
   .refine⟨((p+q)/2+1,q),⟨?_,C,E⟩,by simp only;omega,rfl,rfl⟩;simp only;exact UF λA=>G A u
   .refine⟨(p,(p+q)/2),⟨B,?_,by simp only;omega⟩,by simp only;omega,rfl,rfl⟩;simp only;refine uv λA=>?_;have:=F A;unfold ZH at this;omega
  .obtain rfl:p=i:=b6;obtain rfl:q=p:=b6;refine .i ?_ ?_<;>intro u<;>first|refine pw ?_|exact pd
   ·(first|refine .c (w k[q] (X3 u)) ?_|refine .o (w k[q] (X3 u)) ?_)
    rw[ut u];try simp
   .rw[UT b6]
def Qo:∀{k:List Fg}(v:List En),k.Pairwise (λf g=>ZH f.vec g.vec)->∃i,i<=k.length/\(∀j,(h:j<k.length)->j<i->ZH k[j].vec v)/\(∀j,(h:j<k.length)->i<=j->¬ZH k[j].vec v)
 |[],v,_=>⟨0,Zp _,λj h=>by simp at h,λj h=>by simp at h⟩
 | f::k,v,hp=>by
   have w:=wk.1 hp;by_cases h:ZH f.vec v
   .obtain⟨i,C,y,A⟩:=Qo v w.2;refine⟨i+1,b7,λj u o=>?_,λj u B=>?_⟩
    .cases j with
     |zero=>exact h
     |succ j=>exact y j (dM u) b6
    .cases j with
     |zero=>omega
     |succ j=>exact A j (dM u) b6
   .refine⟨0,vj _,λj _ h=>absurd h (Un _),λj u _ o=>?_⟩;cases j with
    |zero=>exact h o
    |succ j=>exact h (k8 (w.1 _ (X3 (dM u))) o)
def Y8:∀{k:List Fg}{f:Fg}{i:Nat},i<=k.length->(∀j,(h:j<k.length)->j<i->ZH k[j].vec f.vec)->(∀j,(h:j<k.length)->i<=j->¬ZH k[j].vec f.vec) ->
 qN k f=if h:i<k.length then (if zZ (zv k[i].vec) (zv f.vec)=0 then k.take i++⟨qy zn k[i].items f.items,f.vec⟩::k.drop (i+1) else k.take i++f::k.drop i) else k++[f]
 |[],f,i,h0,h1,h2=>by simp[qN]
 | g::k,f,i,h0,h1,h2=>by
   cases i with
   |zero=>have A:=h2 0 b8 (Zp _);have u:¬zZ (zv g.vec) (zv f.vec)<0:=A;rw[qN,V2 u,ut b8];simp only[uF,Wg,XV,Wo,wR]
   | succ i=>
     have B:zZ (zv g.vec) (zv f.vec)<0:=h1 0 b8 b6;rw[qN,VS B,Y8 (i:=i) (dM h0) (λj o y=>h1 (j+1) (dM o) b6) (λj o w=>h2 (j+1) (dM o) b6)];simp only[wD,WT,wT,wR,Yf,Nat.add_lt_add_iff_right];split
     .split<;>rfl
     .rfl
end
section
attribute [-go_sem] z7
structure AddOk(o:List Fg)(f:Fg):Prop where
 gi:GrpI o
 fo:OkG f
 l:o.length<=1048576
 fi:f.items.length<=100000000
 oi:∀g∈o,g.items.length<=100000000
 bd:∀e∈f.vec,ZL e
 bo:∀g∈o,∀e∈g.vec,ZL e
 nf:(zv f.vec).length<=1073741824
 no:∀g∈o,(zv g.vec).length<=1073741824
def xL{D:Qk}{w:World}{v:Value}{l:List En}(h:Dat D w v (vp l)):∃o j,v=.slice o l.length j:=by have u:Dat D w v (.sl (l.map ec) .sh):=h;obtain⟨o,j,sz,b,y,f,e1,_⟩:=(Rel.dat (ρ:=λ_=>0) (nb:=0) u).inv_sl;rw[wB]at e1;exact⟨o,j,e1⟩
def zc1(o:List Fg)(f:Fg)(i:Nat):Bool:=if h:i<o.length then decide (zZ (zv o[i].vec) (zv f.vec)=0) else false
def zjH{C:Qk}{rb base:Nat}{w:World}{v G:Value}{o:List Fg}{f:Fg}(i:Nat)(r:Bool)(O:zc1 o f i=r)(ho:AddOk o f)(A:OutG C rb base w v o)(I:Dat (DL C rb w) w G (vp f.vec))(hb:rb<base)(L:∀b o,C b o->b<rb)(E:rb<w.heap.size)(M:GL C w)
 (hi:i<=o.length) (J:∀j,(h:j<o.length)->j<i->ZH o[j].vec f.vec) (K:∀j,(h:j<o.length)->i<=j->¬ZH o[j].vec f.vec) :
 Calls xT 186 #[v,G,.func (.func 187) #[] #[]] w λe H=>e=.returned (.tuple #[.int .i64 (i:Nat),.bool r])/\Below w.heap.size w H:=by
 subst O;refine(jP (D:=DL C rb w) (zhm o f.vec i hi J K (by have:=ho.l;omega) λg F=>zhj g f.vec (ho.bo g F) ho.bd (ho.no g F) ho.nf) (M.mono (λ_ _ h=>.inl h) λ_ _ _ _ h=>h) (λb o h=>h.elim (λh=>US (L b o h) E) ui) rfl (λj p y=>?_)).mono ?_
 .match j,y with
  |0,y=>cases y;exact A.dat hb
  |1,y=>cases y;exact I
  |2,y=>cases y;exact .fn _ #[] #[] [] [] rfl rfl (λ_ _ h=>by simp at h) (λ_ _ h=>by simp at h)
  |j+3,y=>simp at y
 .rintro e H ⟨u,rfl,B,N⟩;rw[XY N];exact⟨rfl,B⟩
def zeo{C:Qk}{rb:Nat}{w:World}{v a b:Value}{l m:List Iv}(J:Nrm l)(K:Nrm m)(hs:l.length+m.length<=1073741824)(G:Dat (DX C rb w v) w a (rg l))(db:Dat (DX C rb w v) w b (rg m))(F:∀k,v.ownBlock=some k->rb<k/\k<w.heap.size)(E:∀b o,C b o->b<rb)(B:rb<w.heap.size)(H:GL C w):
 Calls xT 87 #[a,b] w λe A=>∃u,e=.returned u/\Below w.heap.size w A/\Dat (DX C rb A v) A u (rg (qy zn l m)):=by
 refine(jP (D:=DX C rb w v) (zaz l m J K hs) (H.mono (λb o h=>⟨.inl h,λe=>by have:=(F b e).1;have:=E b o h;omega⟩) λ_ _ _ _ h=>h) (λb o h=>h.1.elim (λh=>US (E b o h) B) ui) rfl (λj p y=>?_)).mono ?_
 .match j,y with
  |0,y=>cases y;exact G
  |1,y=>cases y;exact db
  |j+2,y=>simp at y
 .rintro e A ⟨u,rfl,hb,I⟩;exact⟨u,rfl,hb,I.mono (λb o h=>by
   rcases h with h|h
   .exact⟨h.1.imp id λh=>⟨h.1,Vq h.2 hb.size⟩,h.2⟩
   .exact⟨.inr ⟨b6,h.2⟩,λe=>by have:=(F b e).2;omega⟩) λ_ _ _ _ h=>h⟩
def zhT{o:List Fg}{f:Fg}{i:Nat}(h:zc1 o f i=true):∃hi:i<o.length,zZ (zv o[i].vec) (zv f.vec)=0:=by
 unfold zc1 at h;split at h
 .rename_i hi;exact⟨hi,dM h⟩
 .cases h
def Jh{C:Qk}{base rb:Nat}{w:World}{v va vv:Value}{o:List Fg}{f:Fg}(T:AddOk o f)(ao:OutG C (rb+1) base w v o)(aL:Boxed w rb 233 v)(bI:rb+1<base)(bC:base<=w.heap.size)(hC:∀b o,C b o->b<rb)(hG:GL C w)
 (da:Dat (DX C (rb+1) w v) w va (rg f.items)) (dv:Dat (DX C (rb+1) w v) w vv (vp f.vec)) :
 Calls xT 151 #[.pointer (some ⟨rb,0,none⟩),.agg #[va,vv]] w λe w'=>(∃u,e=.returned u)/\∃v',Boxed w' rb 233 v'/\OutG C (rb+1) base w' v' (qN o f)/\Keep (λk=>k=rb\/base<=k) w w':=by
 obtain⟨i,hi,q1,q2⟩:=Qo f.vec T.gi.srt;have M:=Y8 hi q1 q2;have bJ:=aL.lt;obtain⟨O,ar⟩:=xm (w.alloc (.cells #[va,vv] 50));have bQ:O.heap.size=w.heap.size+1:=by rw[ar];simp
 have ac:∀j,j<w.heap.size->O.heap[j]?=w.heap[j]?:=λj hj=>by rw[ar];exact tC _ _ _ hj
 have az:O.heap[w.heap.size]?=some (.cells #[va,vv] 50 (0,0)):=by rw[ar];exact tx w _
 have ae:=ao.keep (w':=O) b6 ac;have aX:Dat (DX C (rb+1) O v) O va (rg f.items):=DX.keep da b6 λk hk _=>ac k hk;have aH:Dat (DX C (rb+1) O v) O vv (vp f.vec):=DX.keep dv b6 λk hk _=>ac k hk;have ak:Boxed O rb 233 v:=(ac rb bJ).trans aL;have aJ:GL C O:=hG.mono (λ_ _ h=>h) λb o x A hx=>(tw (a:=⟨b,o,none⟩) (ac b (by have:=hC b o A;omega))).trans hx;obtain⟨ad,I,rfl,bP,bD⟩:=ao.shape;unfold maxLen at bD;obtain⟨aa,ca,rfl⟩:=zK da;obtain⟨av,cv,rfl⟩:=xL dv;obtain⟨r,P⟩:=xt (zc1 o f i);have aY:∀W,Below O.heap.size O W->Calls xT 186 #[.slice ad o.length I,.slice av f.vec.length cv,.func (.func 187) #[] #[]] W λe w'=>e=.returned (.tuple #[.int .i64 (i:Nat),.bool r])/\Below W.heap.size W w':=λW V=>
  zjH i r P T (ae.keep V.size λk hk=>V.block k hk) ((DX.keep aH V.size λk hk _=>V.block k hk).mono (λ_ _ h=>h.1) λ_ _ _ _ h=>h) bI (λb o h=>uo (hC b o h)) (by have:=V.size;omega) (aJ.mono (λ_ _ h=>h) λb o x A hx=>(tw (a:=⟨b,o,none⟩) (V.block b (by have:=hC b o A;omega))).trans hx) hi q1 q2
 have bh:=qL aY;have c0:=ak.cell;have e0:=(zW az 0 _ rfl).1;have e1:=(zW az 1 _ rfl).1;have aT:=qL ar;have aE:=qL ae;have aS:=qL aX;have bj:=qL aH;have aU:=qL ak;have bl:=qL aJ;have aC:=qL M;have bt:=qL az;have aB:=qL P;have bN:=qL ac;clear M ac az ae aX aH ak aJ P da dv ao aL hG q1 q2 aY;have bM:True:=trivial;have aZ:Below O.heap.size O O.drew:=(tB _ _).drew;have aR:xT.follows .mixedOrders=true:=dN
 go_enter func151,ntmps151
 go_wp2_with fail
 rw[<-ar];refine Kg (Sw:=qe) 12 51 (λN=>Below O.heap.size O N/\N.cell? ⟨rb,0,none⟩=some (.slice ad o.length I)/\N.cell? ⟨w.heap.size,1,none⟩=some (.slice av f.vec.length cv)) dN dN rfl ⟨aZ,c0,e1⟩ ?_;simp only[wT,Wg];refine Jz ?_;refine V7 (λu _=>u=.tuple #[.int .i64 (i:Nat),.bool r]) (yj _) rfl ?_ ?_
 .intro a2 y A hk P K hK;have HK:=qL hK;clear hK;simp[Rds,zA,lk,Op.operands,Call.operands,RdEq]at P;go_simp;refine(bh.o _ A.1).mono ?_;rintro e w3 ⟨rfl,hb⟩;have J:Keep qe y w3:=Keep.of_below' hb (Zp _);exact HK.o _ _ J ⟨A.1.trans (hb.mono A.1.size),J.cell_some A.2.1 id,J.cell_some A.2.2 id⟩ rfl
 simp only[XV,Yf];refine Jz ?_;intro y H S;simp only[finG,WZ,XV,Yf,wR,Wo,W5];simp only[Act.put,wF,wW,wX];have B:=qL H.1;have c2:=H.2.1;have f2:=(H.1.block _ b6).trans (show O.heap[w.heap.size]?=_ from bt.o);have g0:=(zW f2 0 _ rfl).1;have g1:=(zW f2 1 _ rfl).1;clear H S aZ;cases r with
 | true=>
   obtain⟨an,hz⟩:=zhT aB.o;have U:=aE.o.keep (w':=y) B.o.size λk hk=>B.o.block k hk;have bq:=qL U;obtain⟨xs,Y,ay⟩:=id U;obtain⟨a,b,ea,eb,aI,bB⟩:=ay i an;obtain⟨g,aV,bO,ev,bG,bH,be,_,_,_,_⟩:=Y.cases.resolve_left (λh=>b6);obtain⟨rfl,_,rfl⟩:ad=some ⟨g,0,none⟩/\o.length=o.length/\I=aV:=(dM ev);have aW:y.cell? ⟨g,i*2,none⟩=some a:=(by have:=tQ Y.1 (g:=g) rfl (i*2) a ea;rw[zh,wy]at this;exact this);have aK:∀k,(Value.slice (some ⟨g,0,none⟩) o.length I).ownBlock=some k->rb+1<k/\k<y.heap.size:=λk hk=>(by have:=U.owns k hk;omega);obtain⟨ai,ci,rfl⟩:=zK aI;have bg:∀W,Below y.heap.size y W->Calls xT 87 #[.slice ai o[i].items.length ci,.slice aa f.items.length ca] W λe w'=>∃u,e=.returned u/\Below W.heap.size W w'/\Dat (DX C (rb+1) w' (.slice (some ⟨g,0,none⟩) o.length I)) w' u (rg (qy zn o[i].items f.items)):=λW V=>
    zeo (T.gi.ok _ (X3 an)).2.2.1 T.fo.2.2.1 (by have:=T.oi _ (X3 an);have:=T.fi;omega) (DX.keep aI V.size λk hk _=>V.block k hk) (DX.keep aS.o (V3 B.o.size V.size) λk hk _=>(V.block k (Vq hk B.o.size)).trans (B.o.block k hk)) (λk hk=>⟨(aK k hk).1,Vq (aK k hk).2 V.size⟩) (λb o h=>uo (hC b o h)) (by have:=B.o.size;have:=V.size;omega) (bl.o.mono (λ_ _ h=>h) λb o x A hx=>(tw (a:=⟨b,o,none⟩) ((V.block b (by have:=hC b o A;have:=B.o.size;omega)).trans (B.o.block b (by have:=hC b o A;omega)))).trans hx)
   have br:=qL bg;have ax:Below y.heap.size y y.drew:=(tB _ _).drew;have bn:=qL be;have ba:0<I:=b6;have aq:=B.o.size;clear bg U Y ay ea eb aI bB be aK;obtain⟨Q,aQ⟩:=xm (y);subst aQ
   go_wp2_with fail
   refine Kg (Sw:=qe) 16 51 (λN=>Below Q.heap.size Q N/\N.cell? ⟨rb,0,none⟩=some (.slice (some ⟨g,0,none⟩) o.length I)/\N.cell? ⟨g,i*2,none⟩=some (.slice ai o[i].items.length ci)/\N.cell? ⟨w.heap.size,0,none⟩=some (.slice aa f.items.length ca)) dN dN rfl ⟨ax,c2,aW,g0⟩ ?_;simp only[wT,Wg];refine Jz ?_;refine V7 (λu N=>Dat (DX C (rb+1) N (.slice (some ⟨g,0,none⟩) o.length I)) N u (rg (qy zn o[i].items f.items))) (λu wa Q h hk=>DX.keep h hk.size λk S _=>hk.block k S id) rfl ?_ ?_
   .intro a2 y A hk P K hK;have HK:=qL hK;clear hK;simp[Rds,zA,lk,Op.operands,Call.operands,RdEq]at P;go_simp;refine(br.o _ A.1).mono ?_;rintro e w3 ⟨u,rfl,hb,hd⟩;have J:Keep qe _ w3:=Keep.of_below' hb (Zp _);exact HK.o _ _ J ⟨A.1.trans (hb.mono A.1.size),J.cell_some A.2.1 id,J.cell_some A.2.2.1 id,J.cell_some A.2.2.2 id⟩ hd
   simp only[XV,Yf];refine Jz ?_;intro y H S;simp only[finG,WZ,XV,Yf,wR,Wo,W5];simp only[Act.put,wF,wW,wX];intro u hu;obtain⟨F,G,rfl⟩:=zK hu;have HU:=qL hu;have aw:=qL H.1;have c3:=H.2.2.1;have f3:y.frozen? ⟨g,i*2,none⟩=false:=by have:=(H.1.block g bH).trans bn.o;simp[World.frozen?,this]
   clear hu H S ax c2 aW g0 g1 f2
   go_wp2
   (try simp only[Exit.inBlock,Exit.then]);refine tI (tS rfl _ _ _) rfl ?_
   have ah:=(bq.o.keep (w':=y) aw.o.size λk hk=>aw.o.block k hk).set an HU.o ba;have M:qN o f=o.take i++⟨qy zn o[i].items f.items,o[i].vec⟩::o.drop (i+1):=(by rw[aC.o,ut an,VS hz,<-YU hz]);rw[M];refine⟨⟨_,rfl⟩,_,?_,ah,?_⟩
   .refine(tG _ _ _ _ (by show rb≠g;omega)).trans ((aw.o.block rb b6).trans ((B.o.block rb b6).trans aU.o))
   .have aN:Keep (λk=>k=rb\/base<=k) w O:=(by rw[aT.o];exact(Keep.refl _ w).alloc _);exact((aN.trans (Keep.of_below' B.o (Zp _))).trans (Keep.of_below' aw.o (Zp _))).setCell (λ_=>.inr bG) _
 | false=>
   have M:qN o f=o.take i++f::o.drop i:=by
    rw[aC.o];have hh:=aB.o;unfold zc1 at hh;split at hh
    .rename_i h;rw[ut h,V2 (dM hh)]
    .rename_i h;rw[UT h,ww b6,wE b6]
   have bp:=qL M;have aq:=B.o.size;have bc:∀W,Below y.heap.size y W->Calls xT 64 #[.slice aa f.items.length ca] W λe w'=>∃F G,e=.returned (.slice F f.items.length G)/\OwnR W.heap.size w' (.slice F f.items.length G) f.items/\Below W.heap.size W w':=λW V=>(by have bE:=DX.keep aS.o (V3 aq V.size) λk hk _=>(V.block k (Vq hk aq)).trans (B.o.block k hk);refine(zeX (je bE (λb o h=>h.1.elim (λh=>by have:=hC b o h;have:=V.size;omega) ui) T.fo.2.2.1.lt) (by have:=T.fi;omega)).mono ?_;rintro e w' ⟨v',rfl,h1,h2⟩;obtain⟨F,G,rfl⟩:=zK (jp (D:=λ_ _=>True) h1.rd λ_ _ _ _=>trivial);exact⟨F,G,rfl,h1,h2⟩);have bi:=qL bc;clear bc M;have ax:Below y.heap.size y y.drew:=(tB _ _).drew;obtain⟨Q,aQ⟩:=xm (y);subst aQ
   go_wp2_with fail
   refine znC [1,2,3,4,5,6,7,8,9,10,11,12,0,13,14,15,16] 12 51 (λN=>Below Q.heap.size Q N/\N.cell? ⟨rb,0,none⟩=some (.slice ad o.length I)/\N.cell? ⟨w.heap.size,0,none⟩=some (.slice aa f.items.length ca)/\N.cell? ⟨w.heap.size,1,none⟩=some (.slice av f.vec.length cv)) aR dN dN rfl ⟨ax,c2,g0,g1⟩ _ _ rfl rfl rfl rfl _ rfl ?_;simp only[z8,WC,uf,List.getD_cons_zero,List.getD_cons_succ,wT,Wg,wR,Wo];repeat (refine Pl.wdetK ?_ rfl (λa w A _ P=>?_) ?_;rotate_left;(simp[Pl.Rds,zA,Pl.lk,Op.operands,Call.operands,RdEq]at P;go_simp;with_reducible rfl);simp only[XV,Yf])
   refine Pl.wgenK (λu N=>∃F G,u=.slice F f.items.length G/\OwnR Q.heap.size N u f.items) (λu _ _ h hk=>by obtain⟨F,G,e,h⟩:=h;exact⟨F,G,e,h.keep hk λ_ _ h=>h⟩) rfl ?_ ?_
   .intro a2 y A hk P K hK;have HK:=qL hK;clear hK;simp[Pl.Rds,zA,Pl.lk,Op.operands,Call.operands,RdEq]at P;go_simp;refine(bi.o _ A.1).mono ?_;rintro e w3 ⟨F,G,rfl,ho,hb⟩;have J:Keep qe _ w3:=Keep.of_below' hb (Zp _);exact HK.o _ _ J ⟨A.1.trans (hb.mono A.1.size),J.cell_some A.2.1 id,J.cell_some A.2.2.1 id,J.cell_some A.2.2.2 id⟩ ⟨F,G,rfl,ho.mono A.1.size⟩
   simp only[XV,Yf];repeat (refine Pl.wdetK ?_ rfl (λa w A _ P=>?_) ?_;rotate_left;(simp[Pl.Rds,zA,Pl.lk,Op.operands,Call.operands,RdEq]at P;go_simp;with_reducible rfl);simp only[XV,Yf])
   refine Pl.wgenK (λu N=>∃F G,u=.agg #[.slice F f.items.length G,.slice av f.vec.length cv]/\OwnR Q.heap.size N (.slice F f.items.length G) f.items) (λu _ _ h hk=>by obtain⟨F,G,e,h⟩:=h;exact⟨F,G,e,h.keep hk λ_ _ h=>h⟩) rfl ?_ ?_
   .intro a2 y A hk P K hK;have HK:=qL hK;clear hK;simp[Pl.Rds,zA,Pl.lk,Op.operands,Call.operands,RdEq]at P;obtain⟨⟨_,⟨e1,e2⟩,⟨F,G,rfl⟩,ho⟩,e3,e4⟩:=P;go_simp;exact HK.o _ _ (Keep.refl _ _) A ⟨F,G,rfl,ho⟩
   simp only[XV,Yf];refine Pl.wgenK (λu N=>∃Z F G vt,u=.slice (some ⟨Z,0,none⟩) 1 1/\N.heap[Z]?=some (.cells #[.slice F f.items.length G,.slice av f.vec.length cv] vt (0,0))/\Q.heap.size<=Z/\OwnR Q.heap.size N (.slice F f.items.length G) f.items) (λu _ _ h hk=>by obtain⟨Z,F,G,vt,e,h1,h2,h3⟩:=h;exact⟨Z,F,G,vt,e,hk.obj h1 id,h2,h3.keep hk λ_ _ h=>h⟩) rfl ?_ ?_
   .intro a2 y A hk P K hK;have HK:=qL hK;clear hK;simp[Pl.Rds,zA,Pl.lk,Op.operands,Call.operands,RdEq]at P;obtain⟨_,⟨e1,e2⟩,F,G,rfl,ho⟩:=P;go_simp;refine HK.o _ _ ((Keep.refl _ _).alloc _) ⟨A.1.alloc A.1.size _,?_,?_,?_⟩ ⟨y.heap.size,F,G,_,rfl,tx y _,A.1.size,ho.keep ((Keep.refl qe _).alloc _) λ_ _ h=>h⟩
    .exact((Keep.refl qe _).alloc _).cell_some A.2.1 id
    .exact((Keep.refl qe _).alloc _).cell_some A.2.2.1 id
    .exact((Keep.refl qe _).alloc _).cell_some A.2.2.2 id
   simp only[XV,Yf];repeat (refine Pl.wdetK ?_ rfl (λa w A _ P=>?_) ?_;rotate_left;(simp[Pl.Rds,zA,Pl.lk,Op.operands,Call.operands,RdEq]at P;go_simp;with_reducible rfl);simp only[XV,Yf])
   have ah:∀(y:World)(Z:Nat) (F G) (vt:TypeId),Below Q.heap.size Q y->y.heap[Z]?=some (.cells #[.slice F f.items.length G,.slice av f.vec.length cv] vt (0,0))->Q.heap.size<=Z->OwnR Q.heap.size y (.slice F f.items.length G) f.items ->
    Calls xT 188 #[.slice ad o.length I,.int .i64 (i:Nat),.slice (some ⟨Z,0,none⟩) 1 1] y λe w3=>∃g3 L,e=.returned (.slice (some ⟨g3,0,none⟩) (o.length+1) L)/\Boxed w3 rb 233 (.slice ad o.length I)/\OutG C (rb+1) base (w3.setCell ⟨rb,0,none⟩ (.slice (some ⟨g3,0,none⟩) (o.length+1) L)) (.slice (some ⟨g3,0,none⟩) (o.length+1) L) (qN o f)/\Keep (λk=>k=rb\/base<=k) w w3:=by
    intro y Z F G vt ab ag aj af;have aO:=(aE.o.keep (w':=Q) aq λk hk=>B.o.block k hk).keep (w':=y) ab.size λk hk=>ab.block k hk;obtain⟨xs,Y,ay⟩:=id aO;have aP:=(aE.o.keep (w':=Q) aq λk hk=>B.o.block k hk).owns;refine(Q1 base Z vt y _ o.length xs _ _ i rfl rfl hi Y ag (λe=>by have:=(aP Z e).2;omega) (by have:=T.l;omega) (by have:=ab.size;omega)).mono ?_;rintro e w3 ⟨v',rfl,X,aM,bK⟩;have bR:=ab.size;have hp:Dat (DX C (rb+1) y (.slice ad o.length I)) y (.slice F f.items.length G) (rg f.items):=jp af.rd λb o h1 h2=>⟨.inr ⟨b6,h2⟩,λe=>by have:=(aP b e).2;omega⟩;have hq:Dat (DX C (rb+1) y (.slice ad o.length I)) y (.slice av f.vec.length cv) (vp f.vec):=DX.keep bj.o b6 λk hk _=>(ab.block k b6).trans (B.o.block k hk);have bF:=OutG.ins hi Y.2.1 ay hp hq (λb o h=>uo (hC b o h)) b6 X aM bK;obtain⟨g3,L,bL,rfl,_⟩:=X.cases.resolve_left λh=>b6;have E:Boxed w3 rb 233 (.slice ad o.length I):=Boxed.kept ((ab.block rb b6).trans ((B.o.block rb b6).trans aU.o)) aM λe=>(by have:=(aP rb e.symm);have:=(Y.1.lt rb e.symm).1;omega);refine⟨g3,L,rfl,E,?_,?_⟩
    .rw[bp.o];exact bF.box b6 b6 λb o h=>by have:=hC b o h;omega
    .have aN:Keep (λk=>k=rb\/base<=k) w O:=(by rw[aT.o];exact(Keep.refl _ w).alloc _);exact(((aN.trans (Keep.of_below' B.o (Zp _))).trans (Keep.of_below' ab (Zp _)))).grown aM λk hk _=>.inr (Y.1.lt k hk).1
   have aA:=qL ah;clear ah;refine⟨λy H S=>?_,λy H S=>?_⟩<;>(simp only[Pl.finG,WZ,XV,Yf,wT,Wg,wR,Wo,W5,jA,Option.map_none];simp only[Act.put,wF,wW,wX])
   .rintro _ ⟨bu,bz,rfl,_⟩ _ ⟨bw,bA,rfl,_⟩ _ ⟨Z,F,G,vt,rfl,ag,aj,af⟩;have HQ:=qL (aA.o y Z F G vt H.1 ag aj af);clear ag af H S
    go_wp2_with (first
     | (go_at_call 188;refine HQ.o.mono ?_;rintro e w3 ⟨g3,L,rfl,E,X,am⟩
        have aF:=qL X;have aD:=qL am;have aG:=qL E;have c9:=E.cell;have f9:=E.frozen;clear X am E)
     |go_in)
    go_end0
    exact⟨⟨_,rfl⟩,_,aG.o.set _,aF.o,aD.o.setCell (λ_=>.inl rfl) _⟩
   .rintro _ ⟨bu,bz,rfl,_⟩ _ ⟨bw,bA,rfl,_⟩ _ ⟨Z,F,G,vt,rfl,ag,aj,af⟩;have HQ:=qL (aA.o y Z F G vt H.1 ag aj af);clear ag af H S
    go_wp2_with (first
     | (go_at_call 188;refine HQ.o.mono ?_;rintro e w3 ⟨g3,L,rfl,E,X,am⟩
        have aF:=qL X;have aD:=qL am;have aG:=qL E;have c9:=E.cell;have f9:=E.frozen;clear X am E)
     |go_in)
    go_end0
    exact⟨⟨_,rfl⟩,_,aG.o.set _,aF.o,aD.o.setCell (λ_=>.inl rfl) _⟩
end
end Go.Proofs.YtjdjjlkifdimkaaGreatDoor
