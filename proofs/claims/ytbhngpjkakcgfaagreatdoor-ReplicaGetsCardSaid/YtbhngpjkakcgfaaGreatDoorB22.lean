import Derived.Test.YtbhngpjkakcgfaaGreatDoorB21
set_option maxHeartbeats 16000000
set_option linter.all false
set_option maxRecDepth 100000
namespace Go.Proofs.YtbhngpjkakcgfaaGreatDoor
open Go.Proofs.Tryz renaming prog->xT
section
open Go.RowKit
def ZH(v w:List En):Prop:=zZ (zv v) (zv w)<0
def ku(v:List En):¬ZH v v:=by unfold ZH;rw[(cmpL_zero _ _).2 rfl];decide
def k8{a b c:List En}(j:ZH a b)(u:ZH b c):ZH a c:=by
 unfold ZH at *;have w:=ZW _ _ _ (Int.le_of_lt j) (Int.le_of_lt u);rcases Int.lt_or_eq_of_le w with h|h
 .exact h
 .have e:=Vv ((cmpL_zero _ _).1 h);subst e;have:=ZV (zv a) (zv b);omega
def zfI{a b:List En}(j:¬ZH a b)(u:zZ (zv a) (zv b)≠0):ZH b a:=by unfold ZH at *;have:=ZV (zv a) (zv b);omega
def YU{a b:List En}(h:zZ (zv a) (zv b)=0):a=b:=Vv ((cmpL_zero _ _).1 h)
def qN:List Fg->Fg->List Fg
 |[],f=>[f]
 |g::r,f=>if zZ (zv g.vec) (zv f.vec)<0 then g::qN r f else if zZ (zv g.vec) (zv f.vec)=0 then ⟨qy zn g.items f.items,f.vec⟩::r else f::g::r
def yo(o:List Fg)(f:Fg):List Fg:=if zi f.vec=[]\/f.items=[] then o else qN o ⟨f.items,zi f.vec⟩
def zL(k:List Fg):List Fg:=k.foldl yo []
def OkG(f:Fg):Prop:=CanV f.vec/\f.vec≠[]/\Nrm f.items/\f.items≠[]
structure GrpI(k:List Fg):Prop where
 ok:∀f∈k,OkG f
 srt:k.Pairwise λf g=>ZH f.vec g.vec
def GrpI.nil:GrpI []:=⟨λf h=>(by cases h),List.Pairwise.nil⟩
def GrpI.tail{f:Fg}{k:List Fg}(h:GrpI (f::k)):GrpI k:=⟨λg j=>h.ok g (by simp[j]),(wi.1 h.srt).2⟩
def GrpI.right{k:List Fg}(h:GrpI k):RightK k:=λf j=>⟨(h.ok f j).2.2.1,(h.ok f j).1.right⟩
def JZ{l:List Iv}(h:Nrm l)(j:l≠[]):∃x,x<zk/\mem l x=true:=by
 cases l with
 |nil=>exact absurd rfl j
 |cons s l=>have:=NF.lo_ge h s b6;exact⟨s.lo,a8,qf.2 ⟨s,b6,Zp _,this.2.1⟩⟩
def zig{l:List Iv}{x:Nat}(h:mem l x=true):l≠[]:=λe=>by rw[e]at h;cases h
def Yw:∀{o:List Fg}{f:Fg},GrpI o->OkG f->(∀g∈qN o f,OkG g/\(g.vec=f.vec\/g∈o))/\GrpI (qN o f)/\(∀i r c,i<zk->hasK (qN o f) i r c=(hasK o i r c || (mem f.items i && mem (zT f.vec r) c)))
 |[],f,_,hf=>⟨λg u=>by simp only[qN,wI]at u;subst u;exact⟨hf,.inl rfl⟩,⟨λg u=>by simp only[qN,wI]at u;subst u;exact hf,by simp[qN]⟩,λi r c _=>by simp[qN,hasK]⟩
 | g::o,f,ho,hf=>by
   have u:=ho.ok g b6;have A:=wi.1 ho.srt;unfold qN;by_cases w:zZ (zv g.vec) (zv f.vec)<0
   .rw[vj w];obtain⟨B,G,H⟩:=Yw ho.tail hf;refine⟨λx j=>?_,⟨λx j=>?_,wi.2 ⟨λx j=>?_,G.srt⟩⟩,λi r c hi=>?_⟩
    .rcases wh.1 j with rfl|j
     .exact⟨u,.inr b6⟩
     .exact⟨(B x j).1,(B x j).2.imp id λh=>by simp[h]⟩
    .rcases wh.1 j with rfl|j
     .exact u
     .exact(B x j).1
    .rcases (B x j).2 with e|e
     .rw[e];exact w
     .exact A.1 x e
    .have:=H i r c hi;unfold hasK at this⊢;rw[uq,uq,this,UC]
   .rw[Vm w];by_cases y:zZ (zv g.vec) (zv f.vec)=0
    .rw[vj y];have e:g.vec=f.vec:=YU y;have E:OkG ⟨qy zn g.items f.items,f.vec⟩:=by refine⟨hf.1,hf.2.1,qH u.2.2.1 hf.2.2.1,?_⟩;obtain⟨x,j,F⟩:=JZ u.2.2.1 u.2.2.2;refine zig (x:=x) ?_;show mem (qy zn g.items f.items) x=true;rw[qj u.2.2.1 hf.2.2.1 j,F];rfl
     refine⟨λx j=>?_,⟨λx j=>?_,wi.2 ⟨λx j=>?_,A.2⟩⟩,λi r c hi=>?_⟩
     .rcases wh.1 j with rfl|j
      .exact⟨E,.inl rfl⟩
      .exact⟨ho.ok x (by simp[j]),.inr (by simp[j])⟩
     .rcases wh.1 j with rfl|j
      .exact E
      .exact ho.ok x (by simp[j])
     .have:=A.1 x j;rw[e]at this;exact this
     .unfold hasK;rw[uq,uq];simp only;rw[qj u.2.2.1 hf.2.2.1 hi,e];simp only[zn];cases mem g.items i<;>cases mem f.items i<;>cases mem (zT f.vec r) c<;>simp
    .rw[Vm y];have C:ZH f.vec g.vec:=zfI w y;refine⟨λx j=>?_,⟨λx j=>?_,wi.2 ⟨λx j=>?_,ho.srt⟩⟩,λi r c hi=>?_⟩
     .rcases wh.1 j with rfl|j
      .exact⟨hf,.inl rfl⟩
      .exact⟨ho.ok x j,.inr j⟩
     .rcases wh.1 j with rfl|j
      .exact hf
      .exact ho.ok x j
     .rcases wh.1 j with rfl|j
      .exact C
      .exact k8 C (A.1 x j)
     .unfold hasK;rw[uq,Bool.or_comm]
def Yi{f:Fg}(h:ZS f)(j:¬(zi f.vec=[]\/f.items=[])):OkG ⟨f.items,zi f.vec⟩:=⟨jN h.2,λe=>j (.inl e),h.1,λe=>j (.inr e)⟩
def Yr{o:List Fg}{f:Fg}(ho:GrpI o)(j:ZS f):GrpI (yo o f)/\∀i r c,i<zk->hasK (yo o f) i r c=(hasK o i r c || (mem f.items i && mem (zT f.vec r) c)):=by
 unfold yo;split
 .rename_i h;refine⟨ho,λi r c _=>?_⟩;rcases h with h|h
  .rw[<-ja j.2,h,knV_nil];simp
  .rw[h];simp
 .rename_i h;obtain⟨_,u,w⟩:=Yw ho (Yi j h);refine⟨u,λi r c hi=>?_⟩;rw[w i r c hi];simp only;rw[ja j.2]
def jV:∀{k:List Fg}{o:List Fg},GrpI o->RightK k->GrpI (k.foldl yo o)/\∀i r c,i<zk->hasK (k.foldl yo o) i r c=(hasK o i r c || hasK k i r c)
 |[],o,ho,_=>⟨ho,λi r c _=>by simp[hasK]⟩
 |f::k,o,ho,hk=>by obtain⟨j,u⟩:=Yr ho (hk f b6);obtain⟨w,y⟩:=jV (k:=k) j λg A=>hk g (by simp[A]);refine⟨w,λi r c hi=>?_⟩;rw[WP,y i r c hi,u i r c hi,UC];rfl
def vB{k:List Fg}(h:RightK k):GrpI (zL k):=(jV GrpI.nil h).1
def za5{k:List Fg}(h:RightK k){i r c:Nat}(hi:i<zk):hasK (zL k) i r c=hasK k i r c:=by have:=(jV GrpI.nil h).2 i r c hi;rw[show hasK [] i r c=false from rfl,uz]at this;exact this
def Qa:∀{o:List Fg}{f:Fg},(∀g∈o,Nrm g.items)->Nrm f.items->xh o->(∀g∈o,∀x,x<zk->¬(mem g.items x=true/\mem f.items x=true)) ->
 xh (qN o f)/\∀g∈qN o f,Nrm g.items/\∀x,x<zk->mem g.items x=true->mem f.items x=true\/∃H∈o,mem H.items x=true
 |[],f,_,hf,_,_=>⟨by simp[qN,xh],λg A=>by simp only[qN,wI]at A;subst A;exact⟨hf,λx _ u=>.inl u⟩⟩
 | g::o,f,ho,hf,ha,hd=>by
   have A:=ho g b6;have B:=wi.1 ha;unfold qN;by_cases F:zZ (zv g.vec) (zv f.vec)<0
   .rw[vj F];obtain⟨I,E⟩:=Qa (λx j=>ho x (by simp[j])) hf B.2 λx j=>hd x (by simp[j]);refine⟨wi.2 ⟨λx j z hz ⟨w,m2⟩=>?_,I⟩,λx j=>?_⟩
    .rcases (E x j).2 z hz m2 with e|⟨y,C,e⟩
     .exact hd g b6 z hz ⟨w,e⟩
     .exact B.1 y C z hz ⟨w,e⟩
    .rcases wh.1 j with rfl|j
     .exact⟨A,λz _ u=>.inr ⟨x,b6,u⟩⟩
     .refine⟨(E x j).1,λz hz u=>((E x j).2 z hz u).imp id ?_⟩;rintro⟨y,C,e⟩;exact⟨y,by simp[C],e⟩
   ·rw [Vm F];by_cases G:zZ (zv g.vec) (zv f.vec)=0
    .rw[vj G];refine⟨wi.2 ⟨λx j z hz ⟨w,m2⟩=>?_,B.2⟩,λx j=>?_⟩
     .simp only at w;rw[qj A hf hz]at w;simp only[zn,WO]at w;rcases w with w|w
      .exact B.1 x j z hz ⟨w,m2⟩
      .exact hd x (by simp[j]) z hz ⟨m2,w⟩
     .rcases wh.1 j with rfl|j
      .refine⟨qH A hf,λz hz u=>?_⟩;simp only at u;rw[qj A hf hz]at u;simp only[zn,WO]at u;rcases u with u|u
       .exact .inr ⟨g,b6,u⟩
       .exact .inl u
      .exact⟨ho x (by simp[j]),λz _ u=>.inr ⟨x,by simp[j],u⟩⟩
    .rw[Vm G];refine⟨wi.2 ⟨λx j z hz ⟨w,m2⟩=>hd x j z hz ⟨m2,w⟩,ha⟩,λx j=>?_⟩;rcases wh.1 j with rfl|j
     .exact⟨hf,λz _ u=>.inl u⟩
     .exact⟨ho x j,λz _ u=>.inr ⟨x,j,u⟩⟩
def vA:∀{k o:List Fg},(∀g∈o,Nrm g.items)->(∀f∈k,Nrm f.items)->xh o->xh k->(∀g∈o,∀f∈k,∀x,x<zk->¬(mem g.items x=true/\mem f.items x=true))->xh (k.foldl yo o)
 |[],o,_,_,ha,_,_=>ha
 | f::k,o,ho,hk,ha,hak,hd=>by
   have A:=wi.1 hak;rw[WP];unfold yo;split
   .exact vA ho (λg j=>hk g (by simp[j])) ha A.2 λg j w u=>hd g j w (by simp[u])
   .obtain⟨E,B⟩:=Qa (f:=⟨f.items,zi f.vec⟩) ho (hk f b6) ha λg j=>hd g j f b6;refine vA (λg j=>(B g j).1) (λg j=>hk g (by simp[j])) E A.2 λg j w u x hx ⟨m1,m2⟩=>?_;rcases (B g j).2 x hx m1 with e|⟨y,C,e⟩
    .exact A.1 w u x hx ⟨e,m2⟩
    .exact hd y C w (by simp[u]) x hx ⟨e,m2⟩
structure CanK(k:List Fg):Prop where
 gi:GrpI k
 apart:xh k
def za4{k:List Fg}(h:RightK k)(j:xh k):CanK (zL k):=⟨vB h,vA (λg h=>(by cases h)) (λf u=>(h f u).1) List.Pairwise.nil j λg h=>(by cases h)⟩
def CanK.one{k:List Fg}(h:CanK k){f:Fg}(y:f∈k){i:Nat}(hi:i<zk)(j:mem f.items i=true)(r c:Nat):hasK k i r c=mem (zT f.vec r) c:=by
 rw[WC,km];constructor
 .rintro⟨g,B,A,u⟩;have:f=g:=by
   obtain⟨a,w,rfl⟩:=Wk y;obtain⟨b,hb,rfl⟩:=Wk B;rcases WK a b with e|e|e
   .exact absurd ⟨j,A⟩ (wQ.1 h.apart a b w hb e i hi)
   .subst e;rfl
   .exact absurd ⟨A,j⟩ (wQ.1 h.apart b a hb w e i hi)
  subst this;exact u
 .intro u;exact⟨f,y,j,u⟩
def CanK.vec{k:List Fg}(h:CanK k){f g:Fg}(w:f∈k)(y:g∈k)(e:f.vec=g.vec):f=g:=by
 obtain⟨a,u,rfl⟩:=Wk w;obtain⟨b,hb,rfl⟩:=Wk y;rcases WK a b with j|j|j
 .have:=wQ.1 h.gi.srt a b u hb j;rw[e]at this;exact absurd this (ku _)
 .subst j;rfl
 .have:=wQ.1 h.gi.srt b a hb u j;rw[e]at this;exact absurd this (ku _)
def zaK{v:List En}(h:CanV v)(w:v≠[]):∃r c,c<zk/\mem (zT v r) c=true:=by
 cases v with
 |nil=>exact absurd rfl w
 |cons e v=>have j:=h.1 e b6;obtain⟨x,y,u⟩:=JZ (qT j.1) (jO j).1;exact⟨e.rep,x,y,by rw[qm,vj rfl];exact u⟩
def Yh{a b:List Fg}(C:CanK a)(hb:CanK b)(h:∀i r c,i<zk->c<zk->hasK a i r c=hasK b i r c){f:Fg}(F:f∈a):∃g∈b,g.vec=f.vec/\∀x,x<zk->mem f.items x=true->mem g.items x=true:=by
 have ok:=C.gi.ok f F;have w:∀x,x<zk->mem f.items x=true->∃g∈b,g.vec=f.vec/\mem g.items x=true:=λx j B=>by obtain⟨r,c,E,hk⟩:=zaK ok.1 ok.2.1;have I:=C.one F j B r c;rw[hk,h x r c j E]at I;obtain⟨g,u,J,_⟩:=km.1 I;refine⟨g,u,?_,J⟩;have A:=hb.gi.ok g u;refine Zk A.1 ok.1 λr=>Nrm.unique (qi A.1.right r) (qi ok.1.right r) λc E=>?_;rw[<-hb.one u j J r c,<-C.one F j B r c,h x r c j E]
 obtain⟨x,j,B⟩:=JZ ok.2.2.1 ok.2.2.2;obtain⟨g,u,e,_⟩:=w x j B;refine⟨g,u,e,λy L H=>?_⟩;obtain⟨N,G,K,M⟩:=w y L H;rw[hb.vec u G (e.trans K.symm)];exact M
def ZD:∀{a b:List Fg},a.Pairwise (λf g=>ZH f.vec g.vec)->b.Pairwise (λf g=>ZH f.vec g.vec)->(∀f,f∈a↔f∈b)->a=b
 |[],[],_,_,_=>rfl
 |[],y::b,_,_,h=>absurd ((h y).2 b6) b6
 |x::a,[],_,_,h=>absurd ((h x).1 b6) b6
 | x::a,y::b,ha,hb,h=>by
   have j:=wi.1 ha;have u:=wi.1 hb;have B:x=y:=by
    have w:=(h x).1 b6;have A:=(h y).2 b6;simp at w A;rcases w with w|w
    .exact w
    .rcases A with A|A
     .exact A.symm
     .exact absurd (k8 (u.1 x w) (j.1 y A)) (ku _)
   subst B;congr 1;refine ZD j.2 u.2 λz=>?_;have:=h z;simp at this;constructor
   .intro hz;rcases this.1 (.inr hz)with e|e
    .subst e;exact absurd (j.1 z hz) (ku _)
    .exact e
   .intro hz;rcases this.2 (.inr hz)with e|e
    .subst e;exact absurd (u.1 z hz) (ku _)
    .exact e
def XN{a b:List Fg}(j:CanK a)(hb:CanK b)(h:∀i r c,i<zk->c<zk->hasK a i r c=hasK b i r c):a=b:=by
 have u:∀{a b:List Fg},CanK a->CanK b->(∀i r c,i<zk->c<zk->hasK a i r c=hasK b i r c)->∀f∈a,f∈b:=λ{a b} j hb h f hf=>by
  obtain⟨g,A,e,hi⟩:=Yh j hb h hf;obtain⟨w,y,G,B⟩:=Yh hb j (λi r c C E=>(h i r c C E).symm) A;have:w=f:=j.vec y hf (G.trans e);subst this;have:g=w:=Fg.ext' (Nrm.unique (hb.gi.ok g A).2.2.1 (j.gi.ok w hf).2.2.1 λx F=>by
   rw[WC];exact⟨B x F,hi x F⟩) e
  rw[<-this];exact A
 exact ZD j.gi.srt hb.gi.srt λf=>⟨u j hb h f,u hb j (λi r c C E=>(h i r c C E).symm) f⟩
noncomputable def zbx (k:List Fg):List Fg:=zL (jq k)
noncomputable def yy (f:Bool->Bool->Bool) (a b:List Fg):List Fg:=(zu (a++b)).map λs=>⟨[s],ks f (qc a s.lo) (qc b s.lo)⟩
noncomputable def vh (f:Bool->Bool->Bool) (a b:List Fg):List Fg:=zL (yy f a b)
noncomputable def znF (k:List Fg) (items:List Iv):List Fg:=zbx (k.map λf=>⟨qy fMeet f.items items,f.vec⟩)
def zbX{k:List Fg}(h:RightK k):CanK (zbx k):=za4 (Yb h) (zeD h)
def zbW{k:List Fg}(h:RightK k){i r c:Nat}(hi:i<zk)(j:c<zk):hasK (zbx k) i r c=hasK k i r c:=by unfold zbx;rw[za5 (Yb h) hi,zfp h hi j]
def RightK.app{a b:List Fg}(j:RightK a)(hb:RightK b):RightK (a++b):=λf u=>(wE.1 u).elim (j f) (hb f)
def xU{f:Bool->Bool->Bool}{a b:List Fg}(j:RightK a)(hb:RightK b):RightK (yy f a b):=λg y=>by obtain⟨s,hs,rfl⟩:=wC.1 y;obtain⟨u,w,_⟩:=(yt (j.app hb)).1 s hs;exact⟨qG u w,(Xe f (j.ik.at s.lo).1.can.right (hb.ik.at s.lo).1.can.right).right⟩
def Xh{f:Bool->Bool->Bool}{a b:List Fg}(j:RightK a)(hb:RightK b):xh (yy f a b):=by unfold xh yy;rw[uv];refine(yt (j.app hb)).2.imp λhst x _ ⟨h1,h2⟩=>?_;have:=zfJ.1 h1;have:=zfJ.1 h2;omega
def ze5{f:Bool->Bool->Bool}{a b:List Fg}(j:RightK a)(hb:RightK b):CanK (vh f a b):=za4 (xU j hb) (Xh j hb)
def zcZ{f:Bool->Bool->Bool}(F:f false false=false){a b:List Fg}(C:RightK a)(hb:RightK b){i r c:Nat}(hi:i<zk)(j:c<zk):hasK (vh f a b) i r c=f (hasK a i r c) (hasK b i r c):=by
 unfold vh;rw[za5 (xU C hb) hi];refine JJ (C.app hb) (V:=λx=>ks f (qc a x) (qc b x)) (P:=λx r c=>f (hasK a x r c) (hasK b x r c)) (λx r c _ j=>?_) (λx y r c hs=>?_) (λx r c G=>?_) hi j
 .have A:=C.ik.at x;have B:=hb.ik.at x;rw[JR F A.1.can.right B.1.can.right,qj (qi A.1.can.right r) (qi B.1.can.right r) j,A.2 r c j,B.2 r c j]
 .have u:=qo.1 hs;rw[Yt (k:=a) (qo.2 λg E=>u g (by simp[E])),Yt (k:=b) (qo.2 λg E=>u g (by simp[E]))]
 .have w:=zc0 (k:=a++b) r c G;unfold hasK at w⊢;rw[UE,tf]at w;rw[w.1,w.2,F]
def zof{k:List Fg}{items:List Iv}(h:RightK k)(hi:Nrm items){i r c:Nat}(u:i<zk)(B:c<zk):hasK (znF k items) i r c=(mem items i && hasK k i r c):=by
 have C:RightK (k.map λf=>(⟨qy fMeet f.items items,f.vec⟩:Fg)):=λg A=>by obtain⟨f,j,rfl⟩:=wC.1 A;exact⟨qH (h f j).1 hi,(h f j).2⟩
 unfold znF;rw[zbW C u B,WC,Vq,km,km];constructor
 .rintro⟨g,A,w,y⟩;obtain⟨f,j,rfl⟩:=wC.1 A;simp only at w y;rw[qj (h f j).1 hi u]at w;simp only[fMeet,Vq]at w;exact⟨w.2,f,j,w.1,y⟩
 .rintro⟨E,f,j,w,y⟩;refine⟨_,wC.2 ⟨f,j,rfl⟩,?_,y⟩;simp only;rw[qj (h f j).1 hi u,E,w];rfl
def CanK.right{k:List Fg}(h:CanK k):RightK k:=h.gi.right
def znD{f:Bool->Bool->Bool}(y:f false false=false){a b c:List Fg}(j:RightK a)(hb:RightK b)(w:CanK c)(h:∀i r x,i<zk->x<zk->hasK c i r x=f (hasK a i r x) (hasK b i r x)):vh f a b=c:=
 XN (ze5 j hb) w λi r x hi u=>by rw[zcZ y j hb hi u,h i r x hi u]
end
section
open Go.ChangeShapes Go.WideShapes Go.ChangeAt Go.RowKit Go.Deep
section
variable {H:Type}{enc:TypeId×Value->H}{w:World}{base:Nat}{spare:Nat->Bool}{held:Bool}
def zfi{n:Nat}{a:Addr}{L:List Value}{y:DataW H×List MemPlace}(U:w.cells? base a 2=some L)(V:DataW.trod enc xT w base spare held n 72 L=some y):a.spot=none/\a.block<w.heap.size/\∃f,rdC fc (λf=>BdF f/\∀e∈f.vec,e.holes.length<=9223372036854775807) w a.block a.off f:=by
 obtain⟨I,N,k,y0,y1,C,e1,S,T⟩:=YB Tryz.underlying72 rfl rfl dK dK U V;obtain⟨J,l,q0,B⟩:=ZA S;obtain⟨K,v,q1,M⟩:=zet T;obtain rfl:I=J:=dJ q0
 obtain rfl:N=K:=dJ q1
 obtain⟨b,ab,A⟩:=a;obtain rfl:A=none:=TH C;obtain⟨Q,b1,X⟩:=VQ (cv:=ec) (bd:=λe=>ZL e/\e.holes.length<=9223372036854775807) (λ_=>rfl) M;have d0:Dat (ZG w) w I (rg l):=jp B λ_ _ _ h=>h;have F:=B.bound;have G:l.length<=9223372036854775807:=by have:=B.len;unfold maxLen at this;omega
 have Y:I.oneCell'=true:=by obtain⟨O,P,rfl,_⟩:=B;rfl
 have Z:N.oneCell'=true:=by obtain⟨O,P,rfl,_⟩:=M;rfl
 refine⟨rfl,tq _ _ C,⟨l,v⟩,λj p u=>?_,⟨F,λe E=>(b1 e E).1,G,X⟩,λe E=>(b1 e E).2⟩;match j,u with
 |0,u=>cases u;exact⟨_,C,Y,d0⟩
 |1,u=>cases u;exact⟨_,by simpa[Addr.add]using e1,Z,Q⟩
def zbd{j:Nat}{u:List Value}{x:DataW H×List MemPlace}(h:DataW.trod enc xT w base spare held j 24 u=some x):∃v l,u=[v]/\RdSl 2 (rdC fc (λf=>BdF f/\∀e∈f.vec,e.holes.length<=9223372036854775807)) 0 w.heap.size w v l:=
 Za (rdC fc (λf=>BdF f/\∀e∈f.vec,e.holes.length<=9223372036854775807)) Tryz.underlying24 dK (λ_ _ _ _ y A=>zfi y A) h
def HlK(k:List Fg):Prop:=∀f∈k,∀e∈f.vec,e.holes.length<=9223372036854775807
def zo4{r:Reach}{E:Nat}{v:Value}{d:DataW H}{J:List MemPlace}(u:Value.okWide xT w r E 24 v)(h:DataW.Trod enc xT w base spare held 24 v d J):∃l,Dat (ZG w) w v (kp l)/\BdK l/\HlK l:=by obtain⟨a,len,F,rfl⟩:=okWide_slice Tryz.underlying24 u;obtain⟨y,j⟩:=h;obtain⟨v,l,C,B⟩:=zbd j;simp[Value.cells]at C;rw[<-C]at B;obtain⟨G,A,I⟩:=VQ (cv:=fc) (bd:=(λf=>BdF f/\∀e∈f.vec,e.holes.length<=9223372036854775807)) (λ_=>rfl) B;exact⟨l,G,⟨λf j=>(A f j).1,I⟩,λf j=>(A f j).2⟩
def zg2{r:Reach}{u:Nat}{v:Value}{d:DataW H}{y:List MemPlace}(j:Value.okWide xT w r u 24 v)(h:DataW.Trod enc xT w base spare held 24 v d y):∃l,Dat (ZG w) w v (kp l)/\BdK l:=
 (zo4 j h).imp λ_ h=>⟨h.1,h.2.1⟩
def xp(x:Nat×Nat×Nat):PV:=.agg [.v (.int .u64 (x.1:Nat)),.v (.int .u64 (x.2.1:Nat)),.v (.int .u64 (x.2.2:Nat))]
attribute [go_sem] xp
end
end
section
open Go.RowKit
def InvD{α:Type}(D0:Qk)(n:Nat)(pv:α->PV)(P:α->Prop)(W:World)(u:Value)(a:α):Prop:=
 P a/\∃D:Nat->Nat->Prop,GL D W/\(∀b o,D b o->b<W.heap.size/\b≠n/\b≠n+2/\b≠n+3)/\(∀b o,D b o->D0 b o\/n<=b)/\(∀b o,D0 b o->D b o)/\Dat D W u (pv a)
section
variable {α:Type}{D0:Qk}{pv:α->PV}{P:α->Prop}{w W A B:World}{u:Value}{a:α}
def InvD.start{y:Value}(A:Dat D0 w y (.sl [] .sh))(B:GL D0 w)(j:∀b o,D0 b o->b<w.heap.size)(hb:Below w.heap.size w W)(C:P a)(F:pv a=.sl [] .sh):InvD D0 w.heap.size pv P W y a:=by
 have u:∀b o x,D0 b o->w.cell? ⟨b,o,none⟩=some x->W.cell? ⟨b,o,none⟩=some x:=λb o x E G=>(hb.cell (p:=⟨b,o,none⟩) (j b o E)).trans G;refine⟨C,D0,B.mono (λ_ _ h=>h) u,λb o h=>?_,λ_ _ h=>.inl h,λ_ _ h=>h,?_⟩
 .have:=j b o h;have:=hb.size;exact⟨a8,a8,a8,a8⟩
 .rw[F];exact A.mono (λ_ _ h=>h) u
def InvD.shape{n:Nat}(h:InvD D0 n pv P W u a)(A:∃j,pv a=.sl j .sh):∃y n c,u=.slice y n c:=by obtain⟨_,D,_,_,_,_,w⟩:=h;obtain⟨j,e⟩:=A;rw[e]at w;obtain⟨s,rfl,_⟩:=kH w;exact⟨_,_,_,rfl⟩
def InvD.keep{n:Nat}(h:InvD D0 n pv P A u a)(hk:Keep (λk=>k=n\/k=n+2\/k=n+3) A B):InvD D0 n pv P B u a:=by
 obtain⟨H,D,C,w,E,F,G⟩:=h;have y:∀b o x,D b o->A.cell? ⟨b,o,none⟩=some x->B.cell? ⟨b,o,none⟩=some x:=λb o x j I=>
  (tn (a:=⟨b,o,none⟩) (hk.block b (w b o j).1 (by have:=w b o j;omega))).trans I
 exact⟨H,D,C.mono (λ_ _ h=>h) y,λb o j=>⟨vw (w b o j).1 hk.size,(w b o j).2⟩,E,F,G.mono (λ_ _ h=>h) y⟩
def zhD{D:Qk}{f:Fv}{g:Fg}(u:Dat D w (sv f.1) (rg g.items))(y:Dat D w (sv f.2) (vp g.vec)):Dat D w (.agg #[sv f.1,sv f.2]) (fp g):=by
 refine .agg _ _ rfl (λi hi=>?_) λi p j=>?_
 .match i,hi with
  |0,_=>rfl
  |1,_=>rfl
 .match i,j with
  |0,j=>cases j;exact u
  |1,j=>cases j;exact y
  |i+2,j=>simp[fc]at j
def InvD.step{H:FuncId}{i:Nat}{f:Fv}{g:Fg}{F:α}(h:InvD D0 w.heap.size pv P W u a)(Q:∀b o,D0 b o->b<w.heap.size)(hb:Below w.heap.size w W)(hs:w.heap.size+4<=W.heap.size)(N:Dat D0 w (sv f.1) (rg g.items))(O:Dat D0 w (sv f.2) (vp g.vec))
 (T:Cn xT H [pv a,.v (.int .i64 i),fp g] (pv F)) (S:P F) :
 Calls xT H #[u,.int .i64 (i:Nat),.agg #[sv f.1,sv f.2]] W λe E=>∃K,e=.returned K/\InvD D0 w.heap.size pv P E K F/\Keep (zaB (w.heap.size+4) W) W E:=by
 obtain⟨_,D,I,C,L,J,M⟩:=h;have U:∀b o x,D0 b o->w.cell? ⟨b,o,none⟩=some x->W.cell? ⟨b,o,none⟩=some x:=λb o x B G=>(hb.cell (p:=⟨b,o,none⟩) (Q b o B)).trans G;refine(jP T I (λb o h=>(C b o h).1) rfl (λj p y=>?_)).mono ?_
 .match j,y with
  |0,y=>cases y;exact M
  |1,y=>cases y;exact .v _
  |2,y=>cases y;exact(zhD N O).mono J U
  |j+3,y=>simp at y
 .rintro e E ⟨v,rfl,A,B⟩;refine⟨v,rfl,⟨S,_,I.mono (λ_ _ h=>.inl h) λb o x B G=>(A.cell (p:=⟨b,o,none⟩) (C b o B).1).trans G,λb o h=>?_,λb o h=>?_,λb o h=>.inl (J b o h),B⟩,Keep.of_below' A (Zp _)⟩
  .rcases h with h|h
   .exact⟨vw (C b o h).1 A.size,(C b o h).2⟩
   .exact⟨h.2,a8,a8,a8⟩
  .rcases h with h|h
   .exact L b o h
   .exact .inr a8
def InvD.done(h:InvD D0 w.heap.size pv P W u a):Dat (λb o=>D0 b o\/(w.heap.size<=b/\b<W.heap.size)) W u (pv a):=by obtain⟨_,D,C,j,y,E,A⟩:=h;exact A.mono (λb o h=>(y b o h).imp id λB=>⟨B,(j b o h).1⟩) λ_ _ _ _ h=>h
end
def zcx{D:Qk}{w:World}{x:Value}{p:PV}(h:Dat D w x (.cp [p] 0)):∃b o y,x=.pointer (some ⟨b,o,none⟩)/\D b o/\w.cell? ⟨b,o,none⟩=some y/\Dat D w y p:=by obtain⟨b,j,f,e,u,A⟩:=(Rel.dat (ρ:=λ_=>0) (nb:=0) h).inv_cp;have:=u 0 b6;exact⟨b,j,f 0,e,dJ this.1,dJ this.2.1,A 0 p rfl⟩
def zbU{D:Qk}{w:World}{x:Value}{k:List Fg}{i:Nat}(h:Dat D w x (V8 k i)):∃bk ok j oi v,x=.func (.func 106) #[] #[.pointer (some ⟨bk,ok,none⟩),.pointer (some ⟨j,oi,none⟩)]/\D bk ok/\D j oi/\w.cell? ⟨bk,ok,none⟩=some v/\w.cell? ⟨j,oi,none⟩=some (.int .u64 (i:Nat))/\Dat D w v (kp k):=by
 unfold V8 at h;cases h with
 | fn f va vb fs cs h1 h2 h3 h4=>
   rw[Ur.1 h1];obtain⟨l⟩:=vb;match l,h2 with
   |[y,z],_=>obtain⟨bk,ok,v,e1,C,B,F⟩:=zcx (h4 0 _ rfl);obtain⟨j,oi,u,e2,E,A,G⟩:=zcx (h4 1 _ rfl);rw[G.v_inv]at A;simp at e1 e2;subst e1 e2;exact⟨bk,ok,j,oi,v,rfl,C,E,B,A,F⟩
def zfQ{D:Qk}{w:World}{x:Value}(h:Dat D w x (.sl [] .sh)):∃j c,x=.slice j 0 c:=by obtain⟨⟨a,n,c⟩,rfl,e⟩:=kH h;simp only[Wx]at e;subst e;exact⟨a,c,rfl⟩
def QW(k:List Fg):Prop:=k.length<=1152921504606846976/\∀f∈k,f.items.length<=1152921504606846976/\f.vec.length<=1152921504606846976/\∀e∈f.vec,e.holes.length<=1152921504606846976
def YM{D:Qk}{w:World}{k:List Fg}{i bk ok B oi:Nat}{a:Option Addr}{cap:Nat}{fs:List Fv}(hr:RightK k)(hz:QW k)(hG:GL D w)(J:∀b o,D b o->b<w.heap.size)(V:D bk ok)(X:D B oi)(T:w.cell? ⟨bk,ok,none⟩=some (.slice a k.length cap))(U:w.cell? ⟨B,oi,none⟩=some (.int .u64 (i:Nat)))
 (I:fs.length=k.length) (G:zeF w.heap.size w a cap fs) (L:∀j (h:j<fs.length),Dat D w (sv fs[j].1) (rg (k[j]'(I▸h)).items)/\Dat D w (sv fs[j].2) (vp (k[j]'(I▸h)).vec)) {W:World} (hb:Below w.heap.size w W) :
 v7 xT 106 #[.pointer (some ⟨bk,ok,none⟩),.pointer (some ⟨B,oi,none⟩)] Y4 (λ_=>False) (PtF w.heap.size bk B) (wl (λj=>mem (k.getD j default).items i) 0 fs) W:=by
 have O:∀b o x,D b o->w.cell? ⟨b,o,none⟩=some x->W.cell? ⟨b,o,none⟩=some x:=λb o x A P=>(hb.cell (p:=⟨b,o,none⟩) (J b o A)).trans P;refine zew fs _ a cap bk ok B oi w.heap.size i W ?_ (by rw[I];exact O _ _ _ V T) (O _ _ _ X U) hb.size λw' j C F N=>?_
 .obtain⟨Y,Z,h3⟩:=G;refine⟨Y,Z,λM=>?_⟩;obtain⟨b,y,e1,e2,Q⟩:=h3 M;exact⟨b,y,e1,e2,λj C=>⟨(hb.cell (p:=⟨b,y+j*2,none⟩) e2).trans (Q j C).1,(hb.cell (p:=⟨b,y+j*2+1,none⟩) e2).trans (Q j C).2⟩⟩
 .have H:∀b o x,D b o->w.cell? ⟨b,o,none⟩=some x->w'.cell? ⟨b,o,none⟩=some x:=λb o x A P=>(tn (a:=⟨b,o,none⟩) (F b (J b o A))).trans (O b o x A P);have E:j<k.length:=I▸C;have S:=Yf E;have e:k.getD j default=k[j]:=(by rw[Q9,Zv E];rfl);simp only[e];refine(jP (ziQ k[j].items i (hr _ S).1 (hz.2 _ S).1) (hG.mono (λ_ _ h=>h) H) (λb o h=>vw (J b o h) N) rfl (λt p u=>?_)).mono ?_
  .match t,u with
   |0,u=>cases u;exact(L j C).1.mono (λ_ _ h=>h) H
   |1,u=>cases u;exact .v _
   |t+2,u=>simp at u
  .rintro e W' ⟨v,rfl,K,A⟩;rw[A.v_inv];exact⟨rfl,K⟩
def is(l:List Nat):PV:=.sl (l.map λx=>[.v (.int .i64 (x:Nat))]) .sh
attribute [go_sem] is
def zfl{k:List Fg}{j:Nat}(h:j<k.length):k.getD j default=k[j]:=by rw[Q9,Zv h];rfl
def zf9{α:Type}{pre j:List α}{p:α}(h:pre++[p] <+: j):p∈j:=h.subset b6
def zfk{C:Nat->List Nat}{R:List Nat}(k:List Fg)(i:Nat)(hk:IK C R k)(ok:OkC C R)(hr:RightK k)(hs:∀f∈k,SmV f.vec)(hz:QW k):
 Cn xT 150 [V8 k i,.sl [] .sh,.fn (.func 151) [] []] (vp (qc k i)):=by
 refine yZ rfl (enters_of Tryz.func150 dK rfl) λD w vs V y Q K=>?_;obtain⟨bk,ac,Z,oi,v,e0,S,T,c1,c2,L⟩:=zbU (K 0 _ rfl);obtain⟨a,ab,U,rfl,M,H,E⟩:=kX L y;have j:=K 1 _ rfl;obtain⟨I,J,e1⟩:=zfQ j;rw[e1]at j;rw[zjx Q,e0,e1,zcA (K 2 _ rfl)];refine(X8 106 _ bk Z _ w I J (enters_of Tryz.func106 dK rfl) (λW hb=>YM hr hz V y S T c1 c2 M H E hb) (y _ _ S) (y _ _ T)
  (InvD D w.heap.size vp (WV C R)) (λo p=>ks zn o (k.getD p.1 default).vec) [] (λW hb=>InvD.start j V y hb WV.nil rfl) (λW u a h=>h.shape ⟨_,rfl⟩) (λA B u a h hk=>h.keep hk) λW u pre p G P hb h=>?_).mono ?_
 .obtain⟨N,_,O,_⟩:=zez (zf9 G);have X:p.1<U.length:=(dJ N);have F:p.1<k.length:=M▸X;have Y:=Yf F;have q:=E p.1 X;have e:p.2=U[p.1]:=(by rw[O];simp);rw[zfl F,e];exact h.step y hb P q.1 q.2 (zjy _ p.1 k[p.1] (h.1.smv ok) (hs _ Y)) (h.1.iv.lat fU0 (hk _ Y))
 .rintro e w' ⟨u,rfl,hI,hb⟩;have h:=hI.done;rw[Yp M i (λo _ f=>ks zn o f.vec) []]at h;exact⟨u,rfl,hb,h⟩
def zdx{D:Qk}{base:Nat}{w:World}{v:Value}{l:List Nat}(h:OwnI base w v l)(G:∀b o,base<=b->b<w.heap.size->D b o):Dat D w v (is l):=by
 unfold is;have u:(l.map λx=>[PV.v (.int .i64 (x:Nat))]).length=l.length:=b6
 rcases id h.2 with⟨rfl,F⟩|⟨g,A,E,rfl,I,J,K,H,_⟩
 .obtain rfl:l=[]:=wX.1 F;exact .sl none 0 1 [] .sh 0 0 (λ_=>undef) b6 (λh=>by cases h) c8 (λh=>absurd rfl h) (λi e h=>by simp at h) (λj h=>by simp at h) (λi e j p h=>by simp at h)
 .rw[<-u];refine .sl _ A 1 _ .sh g 0 (λj=>.int .i64 (l.getD j 0:Nat)) (dJ K) (λh=>by cases h) H (λ_=>rfl) (λi e h=>?_) (λj C=>?_) (λi e j p B y=>?_)
  .simp only[wj,ZZ]at h;obtain⟨s,_,rfl⟩:=h;rfl
  .simp only[wu,Uh]at C;refine⟨G _ _ I (XE.1 J).1,?_,rfl⟩;rw[wn,h.cellAt _ (dJ C)];simp[C]
  .have hi:i<l.length:=(by have:=(Zw.1 B).1;simpa using this);rw[wj,Zv hi]at B;cases B;match j,y with
   |0,y=>cases y;simp[hi];exact .v _
   |j+1,y=>simp at y
def zbj(l:List (Nat×Fv)):∀a:List Nat,l.foldl (λo p=>o++[p.1]) a=a++l.map Prod.fst:=by
 induction l with
 |nil=>intro a;simp
 |cons p l ih=>intro a;rw[WP,ih];simp
def JV(l:List (Nat×Fg)):∀a:List Nat,l.foldl (λo p=>o++[p.1]) a=a++l.map Prod.fst:=by
 induction l with
 |nil=>intro a;simp
 |cons p l ih=>intro a;rw[WP,ih];simp
def zey(j:Nat->Bool):∀(n:Nat)(l:List Fv),(wl j n l).length<=l.length
 |_,[]=>Zp _
 | n,f::l=>by
   have:=zey j (n+1) l;unfold wl;split<;>simp<;>omega
def K9(k:List Fg)(i:Nat)(hr:RightK k)(hz:QW k)(ab:k.length<=1073741824):Cn xT 149 [kp k,.v (.int .u64 i)] (is (zU k i)):=by
 refine yZ rfl (enters_of Tryz.func149 dK rfl) λD w vs hG S Y N=>?_;obtain⟨a,G,fs,e0,hl,I,K⟩:=kX (N 0 _ rfl) S;rw[zeJ Y,e0,(N 1 _ rfl).v_inv];obtain⟨y,F⟩:=xt ((w.alloc (.cells #[.slice a k.length G] 24)).alloc (.cells #[.int .u64 (i:Nat)] 38));have ad:y.heap.size=w.heap.size+2:=by rw[<-F];simp
 have b1:Below w.heap.size w y:=by rw[<-F];exact((tu _ _).alloc (Zp _) _).alloc b6 _
 have x1:Boxed y w.heap.size 24 (.slice a k.length G):=by rw[<-F];exact(tU w _ _).alloc _
 have x2:Boxed y (w.heap.size+1) 38 (.int .u64 (i:Nat)):=by rw[<-F];have:=tU (w.alloc (.cells #[.slice a k.length G] 24)) 38 (.int .u64 (i:Nat));rw[tw]at this;exact this
 have H:∀b o x,D b o->w.cell? ⟨b,o,none⟩=some x->y.cell? ⟨b,o,none⟩=some x:=λb o x N hx=>(b1.cell (p:=⟨b,o,none⟩) (S b o N)).trans hx;obtain⟨E,J⟩:∃E:Nat->Nat->Prop,E=λb o=>D b o\/(w.heap.size<=b/\b<y.heap.size):=⟨_,rfl⟩;have M:∀b o,E b o->b<y.heap.size:=λb o h=>by rw[J]at h;exact h.elim (λh=>by have:=S b o h;omega) ub
 have C:Calls xT 185 #[.func (.func 106) #[] #[.pointer (some ⟨w.heap.size,0,none⟩),.pointer (some ⟨w.heap.size+1,0,none⟩)],.slice none 0 0,.func (.func 186) #[] #[]] y λe T=>∃u,e=.returned u/\OwnI (y.heap.size+4) T u (zU k i)/\Below y.heap.size y T:=by
  refine(X7 106 _ w.heap.size (w.heap.size+1) _ y none 0 (enters_of Tryz.func106 dK rfl) (λW hb=>YM (D:=E) (a:=a) (cap:=G) (fs:=fs) hr hz (hG.mono (λb o h=>by rw[J];exact .inl h) H) M (by rw[J];exact .inr a8) (by rw[J];exact .inr a8) x1.cell x2.cell hl ?_ (λj O=>⟨(K j O).1.mono (λb o h=>by rw[J];exact .inl h) H,(K j O).2.mono (λb o h=>by rw[J];exact .inl h) H⟩) hb) a8 a8
   (λW u l=>OwnI (y.heap.size+4) W u l) (λo p=>o++[p.1]) [] (λW _=>OwnI.nil _ _) (λW u a h=>h.shape) (λA B u a h hk=>h.keep hk λg hg _=>a8) λW u pre p P ae hb h=>?_).mono ?_
  .obtain⟨Q,U,h3⟩:=I;refine⟨Q,U,λX=>?_⟩;obtain⟨b,L,e1,e2,Z⟩:=h3 X;exact⟨b,L,e1,a8,λj O=>⟨(b1.cell (p:=⟨b,L+j*2,none⟩) e2).trans (Z j O).1,(b1.cell (p:=⟨b,L+j*2+1,none⟩) e2).trans (Z j O).2⟩⟩
  .have ac:pre.length<=k.length:=(by have Q:=P.length_le;have U:=zey (λj=>mem (k.getD j default).items i) 0 fs;simp only[wk,wy,Wx]at Q;omega);refine JY (y.heap.size+4) W u _ p.1 _ _ h a8 ?_;rw[zbj];simp;omega
  .rintro e T ⟨u,rfl,hI,hb⟩;rw[Yp hl i (λo j _=>o++[j]) [],JV,Y1]at hI;exact⟨u,rfl,hI,hb⟩
 have HF:=qL C;have HB:=qL b1;clear C b1 x1 x2 H J M I K N hG S;go_enter Tryz.func149,Tryz.ntmps149
 go_wp2_with (first
  |(go_at_call 69;refine(zex _ _ _ _ _).mono ?_;rintro e T ⟨rfl,rfl⟩;rw[F])
  |(go_at_call 185;refine HF.o.mono ?_;rintro e w2 ⟨u,rfl,ho,V⟩;obtain⟨au,nu,cu,rfl⟩:=ho.shape))
 go_ret;exact⟨_,rfl,HB.o.trans (V.mono a8),zdx ho λb o Q U=>.inr a8⟩
def zl6{β:Type}(q:β->Bool):∀(l:List β)(b:Bool),l.foldl (λb x=>b || q x) b=(b || l.any q)
 |[],b=>b6
 |x::l,b=>by rw[WP,zl6 q l,uq,UC]
def zo7{k:List Fg}{u:List Fv}(A:u.length=k.length)(item:Nat)(q:Fg->Bool):
 (wl (λj=>mem (k.getD j default).items item) 0 u).any (λp=>q (k.getD p.1 default))=(withF item 0 k).any λp=>q p.2:=by
 have h:=Yp A item (λb _ f=>b || q f) false;have w:=zl6 (λp:Nat×Fv=>q (k.getD p.1 default)) (wl (λj=>mem (k.getD j default).items item) 0 u) false;have y:=zl6 (λp:Nat×Fg=>q p.2) (withF item 0 k) false;rw[uz]at w y;rw[<-w,<-y];exact h
def zoW(k:List Fg)(i r c:Nat)(hr:RightK k)(hc:c<zk)(hz:QW k):Cn xT 34 [kp k,.v (.int .u64 i),.v (.int .u64 r),.v (.int .u64 c)] (.v (.bool (hasK k i r c))):=by
 refine yZ rfl (enters_of Tryz.func34 dK rfl) λD w vs hG K Z A=>?_;obtain⟨a,G,S,e0,T,N,M⟩:=kX (A 0 _ rfl) K;have ab:vs=#[.slice a k.length G,.int .u64 (i:Nat),.int .u64 (r:Nat),.int .u64 (c:Nat)]:=by
  have q1:=(A 1 _ rfl).v_inv;have q2:=(A 2 _ rfl).v_inv;have q3:=(A 3 _ rfl).v_inv;obtain⟨l⟩:=vs;match l,Z with
  |[x,y,z,t],_=>simp at e0 q1 q2 q3;rw[e0,q1,q2,q3]
 rw[ab];refine(zn5 a k.length G i r c (wl (λj=>mem (k.getD j default).items i) 0 S) (λp=>mem (zT (k.getD p.1 default).vec r) c) w (λW C ac c3 c4=>?_) λW p E hb=>?_).mono ?_
 .have U:∀b o x,D b o->w.cell? ⟨b,o,none⟩=some x->W.cell? ⟨b,o,none⟩=some x:=λb o x A Q=>(tn (a:=⟨b,o,none⟩) (C b (K b o A))).trans Q;refine zew S _ a G _ 0 _ 0 w.heap.size i W ?_ (by rw[T];exact c3) c4 a8 λw' j F I O=>?_
  .obtain⟨h1,h2,h3⟩:=N;refine⟨h1,h2,λV=>?_⟩;obtain⟨b,J,e1,e2,e3⟩:=h3 V;exact⟨b,J,e1,e2,λj F=>⟨(tn (a:=⟨b,J+j*2,none⟩) (C b e2)).trans (e3 j F).1,(tn (a:=⟨b,J+j*2+1,none⟩) (C b e2)).trans (e3 j F).2⟩⟩
  .have P:∀b o x,D b o->w.cell? ⟨b,o,none⟩=some x->w'.cell? ⟨b,o,none⟩=some x:=λb o x A Q=>(tn (a:=⟨b,o,none⟩) (I b (K b o A))).trans (U b o x A Q);have B:j<k.length:=T▸F;have L:=Yf B;simp only[zfl B];refine(jP (ziQ k[j].items i (hr _ L).1 (hz.2 _ L).1) (hG.mono (λ_ _ h=>h) P) (λb o h=>vw (K b o h) O) rfl (λt p E=>?_)).mono ?_
   .match t,E with
    |0,E=>cases E;exact(M j F).1.mono (λ_ _ h=>h) P
    |1,E=>cases E;exact .v _
    |t+2,E=>simp at E
   .rintro e W' ⟨v,rfl,H,A⟩;rw[A.v_inv];exact⟨rfl,H⟩
 .have U:∀b o x,D b o->w.cell? ⟨b,o,none⟩=some x->W.cell? ⟨b,o,none⟩=some x:=λb o x A Q=>(hb.cell (p:=⟨b,o,none⟩) (K b o A)).trans Q;obtain⟨X,_,Y,_⟩:=zez E;have F:p.1<S.length:=(dJ X);have B:p.1<k.length:=T▸F;have L:=Yf B;have e:p.2=S[p.1]:=(by rw[Y];simp);simp only[zfl B,e];refine(jP (zo6 k[p.1].vec r c (hr _ L).2 hc (hz.2 _ L).2.1 (hz.2 _ L).2.2) (hG.mono (λ_ _ h=>h) U) (λb o h=>vw (K b o h) hb.size) rfl (λt p' u=>?_)).mono ?_
  .match t,u with
   |0,u=>cases u;exact(M p.1 F).2.mono (λ_ _ h=>h) U
   |1,u=>cases u;exact .v _
   |2,u=>cases u;exact .v _
   |t+3,u=>simp at u
  .rintro e W' ⟨v,rfl,H,A⟩;rw[A.v_inv];exact⟨rfl,H⟩
 .rintro e w' ⟨rfl,hb⟩;rw[zo7 T i (λf=>mem (zT f.vec r) c),jh];exact⟨_,rfl,hb,.v _⟩
def zgU{C:Nat->List Nat}{R:List Nat}(k:List Fg)(i:Nat)(hk:IK C R k)(ok:OkC C R)(j:RightK k)(hs:∀f∈k,SmV f.vec)(hz:QW k):Cn xT 119 [kp k,.v (.int .u64 i)] (vp (qc k i)):=by refine zt Tryz.func119 2 ?_;refine pw ?_;refine .c (zfB k i) ?_;exact .d (zfk k i hk ok j hs hz)
def zc8(k:List Fg)(hb:BdK k):Cn xT 6 [kp k] (.v (.bool (vx k))):=by
 have E:=hb.2;refine zt Tryz.func6 1 ?_;refine pw ?_;refine pLoop.go (λj=>j<=k.length/\vx k=((k.drop j).all (λf=>decide (f.items.length<=20) && JF f.vec) && decide (k.length<=12))) (λj=>[(3,.v (.int .i64 (j:Nat)))]) (λ_=>[]) (λj=>k.length-j) 0 [3] ?_ ?_ ?_
 .exact⟨X3 _,rfl⟩
 .exact pd
 .rintro j ⟨C,u⟩;refine pw ?_;refine .i ?_ ?_<;>intro h<;>(try simp only[zb]at h)<;>first|refine pw ?_|exact pd
  .rw[vD h,UW]at u;have w:=hb.1 _ (Yf h);have B:=w.2.2.1;refine pw ?_;refine .i ?_ ?_<;>intro A<;>(try simp only[zb]at A)<;>first|refine pw ?_|exact pd
   .rw[u,Wy a8];rfl
   .rw[uu a8,UD]at u;refine .c (zj5 k[j].vec w.2.2.2) ?_;refine .i ?_ ?_<;>intro y<;>(try simp only[zb]at y)<;>first|refine pw ?_|exact pd
    .rw[u,y];rfl
    .rw[y,UD]at u;exact⟨j+1,⟨h,u⟩,a8,rfl⟩
  .rw[u,wA a8];simp;omega
def znL(k:List Fg)(hb:BdK k)(C:HlK k):Cn xT 10 [kp k] (.tup [.v (.int .i64 (ckK k).1),.v (.int .i64 (ckK k).2)]):=by
 have F:=hb.2;refine zt Tryz.func10 1 ?_;refine pw ?_;refine pLoop.go (λj=>j<=k.length/\ckK k=hkK j (k.drop j)) (λj=>[(4,.v (.int .i64 (j:Nat)))]) (λ_=>[]) (λj=>k.length-j) 0 [4] ?_ ?_ ?_
 .exact⟨X3 _,rfl⟩
 .exact pd
 .rintro j ⟨E,w⟩;refine pw ?_;refine .i ?_ ?_<;>intro h<;>(try simp only[zb]at h)<;>first|refine pw ?_|exact pd
  .rw[vD h,hkK]at w;have u:=hb.1 _ (Yf h);have A:=C _ (Yf h);refine pw ?_;refine .c (XO k[j].items u.2.2.1 u.1) ?_;refine .i ?_ ?_<;>intro B<;>(try simp only[zb]at B)<;>first|refine pw ?_|exact pd
   .rw[Vm a8]at w;refine .c (Kb k[j].vec u.2.1 u.2.2.2 A) ?_;refine .i ?_ ?_<;>intro y<;>(try simp only[zb]at y)<;>first|refine pw ?_|exact pd
    .rw[vj a8]at w;rw[w]
    .rw[Vm a8]at w;exact⟨j+1,⟨h,w⟩,a8,rfl⟩
   .rw[vj a8]at w;refine .i ?_ ?_<;>intro y<;>(try simp only[zb]at y)<;>first|refine pw ?_|exact pd
    .rw[w]
    .exact absurd y a8
  .rw[w,wA a8];rfl
def QW.hl{k:List Fg}(hz:QW k):HlK k:=fun f hf e he=>Nat.le_trans ((hz.2 f hf).2.2 e he) (by omega)
def VS(k:List Fg)(hb:BdK k)(hz:QW k):Cn xT 10 [kp k] (.tup [.v (.int .i64 (ckK k).1),.v (.int .i64 (ckK k).2)]):=znL k hb hz.hl
def zid(k:List Fg)(i r c:Nat)(F:RightK k)(E:c<zk)(hz:QW k):Cn xT 43 [kp k,.v (.int .u64 i),.v (.int .u64 r),.v (.int .u64 c)] (.v (.bool (hasK k i r c))):=by
 have H:=hz.1;refine zt Tryz.func43 4 ?_;refine pw ?_;refine pLoop.go (λj=>j<=k.length/\hasK k i r c=hasK (k.drop j) i r c) (λj=>[(9,.v (.int .i64 (j:Nat)))]) (λ_=>[]) (λj=>k.length-j) 0 [9] ?_ ?_ ?_
 .exact⟨X3 _,rfl⟩
 .exact pd
 .rintro j ⟨G,B⟩;refine pw ?_;refine .i ?_ ?_<;>intro h<;>(try simp only[zb]at h)<;>first|refine pw ?_|exact pd
  .rw[vD h]at B;have u:hasK k i r c=((mem k[j].items i && mem (zT k[j].vec r) c) || hasK (k.drop (j+1)) i r c):=B;have w:=hz.2 _ (Yf h);have C:=F _ (Yf h);refine pw ?_;refine .c (kU k[j].items i w.1) ?_;refine .i ?_ ?_<;>intro y<;>(try simp only[zb]at y)<;>first|refine pw ?_|exact pd
   .refine .c (zl8 k[j].vec r c C.2 E w.2.1 w.2.2) ?_;rw[y,UD]at u;refine .i ?_ ?_<;>intro A<;>(try simp only[zb]at A)<;>first|refine pw ?_|exact pd
    .rw[u,A];rfl
    .rw[A,uz]at u;exact⟨j+1,⟨h,u⟩,a8,rfl⟩
   .rw[y,td,uz]at u;exact⟨j+1,⟨h,u⟩,a8,rfl⟩
  .rw[B,wA a8];rfl
def VR{C:Nat->List Nat}{R:List Nat}(k:List Fg)(i:Nat)(hk:IK C R k)(ok:OkC C R)(F:RightK k)(hs:∀f∈k,SmV f.vec)(hz:QW k):Cn xT 94 [kp k,.v (.int .u64 i)] (vp (qc k i)):=by
 have E:=hz.1;refine zt Tryz.func94 2 ?_;refine pw ?_;refine pLoop.go (λj=>j<=k.length) (λj=>[(5,vp (qc (k.take j) i)),(6,.v (.int .i64 (j:Nat)))]) (λ_=>[]) (λj=>k.length-j) 0 [5,6] ?_ ?_ ?_
 .exact X3 _
 .simp only[Wb,zbT];exact pd
 .rintro j B;refine pw ?_;refine .i ?_ ?_<;>intro h<;>(try simp only[zb]at h)<;>first|refine pw ?_|exact pd
  .have u:=Ku i h;have A:=hz.2 _ (Yf h);have y:=((hk.take j).at i).1.smv ok;refine pw ?_;refine .c (kU k[j].items i A.1) ?_;refine .i ?_ ?_<;>intro w<;>(try simp only[zb]at w)<;>first|refine pw ?_|exact pd
   .rw[vj w]at u;refine .c (zcC (qc (k.take j) i) k[j].vec 0 a8 y (hs _ (Yf h))) ?_;rw[znf];exact⟨j+1,h,a8,by rw[u],rfl⟩
   .rw[Vm (by rw[w];simp)]at u;exact⟨j+1,h,a8,by rw[u],rfl⟩
  .rw[show k.take j=k from wm a8]
def refKMemb_c(k:List Fg)(i:Nat)(hz:QW k)(C:k.length<=1073741824):Cn xT 125 [kp k,.v (.int .u64 i)] (is (zU k i)):=by
 have F:=hz.1;refine zt Tryz.func125 2 ?_;refine pw ?_;refine pLoop.go (λj=>j<=k.length) (λj=>[(5,.sl ((zU (k.take j) i).map λx=>[.v (.int .i64 (x:Nat))]) (.r 23 1)),(6,.v (.int .i64 (j:Nat)))]) (λ_=>[]) (λj=>k.length-j) 0 [5,6,23] ?_ ?_ ?_
 .exact X3 _
 .simp only[Wb,zU,withF,W7];exact pd
 .rintro j E;have y:=zbk (k.take j) i;have B:(zU (k.take j) i).length<=j:=(by simp at y;omega);refine pw ?_;refine .i ?_ ?_<;>intro h<;>(try simp only[zb]at h)<;>first|refine pw ?_|exact pd
  .have u:=JX i h;have A:=hz.2 _ (Yf h);refine pw ?_;refine .c (kU k[j].items i A.1) ?_;refine .i ?_ ?_<;>intro w<;>(try simp only[zb]at w)<;>first|refine pw ?_|exact pd
   .rw[vj w]at u;refine⟨j+1,h,a8,?_,rfl⟩;rw[u];simp
   .rw[Vm (by rw[w];simp),wZ]at u;exact⟨j+1,h,a8,by rw[u],rfl⟩
  .rw[show k.take j=k from wm a8]
def Vh(k:List Fg)(hb:BdK k)(hz:QW k):Cn xT 27 [kp k] (jS (ckK k).1 (ckK k).2):=by
 have G:=hz.1;refine zt Tryz.func27 1 ?_;refine pw ?_;refine pLoop.go (λj=>j<=k.length/\ckK k=hkK j (k.drop j)) (λj=>[(9,.v (.int .i64 (j:Nat)))]) (λ_=>[]) (λj=>k.length-j) 0 [9] ?_ ?_ ?_
 .exact⟨X3 _,rfl⟩
 .exact pd
 .rintro j ⟨F,y⟩;refine pw ?_;refine .i ?_ ?_<;>intro h<;>(try simp only[zb]at h)<;>first|refine pw ?_|exact pd
  .rw[vD h,hkK]at y;have B:=hb.1 _ (Yf h);have A:=hz.2 _ (Yf h);have u:=Ju (Zl k[j].items).1 (Zl k[j].items).2;have w:=Ju (jx k[j].vec).1 (jx k[j].vec).2;refine pw ?_;refine .rd (rcheck_c k[j].items B.1 A.1 (.inr (KL 2))) rfl ?_;by_cases C:(Zl k[j].items).1=0
   .rw[yk C];rw[Vm a8]at y;refine pw ?_;refine .rd (zes k[j].vec B.2.1 A.2.1 A.2.2) rfl ?_;by_cases E:(jx k[j].vec).1=0
    .rw[yk E];rw[Vm a8]at y;refine pw ?_;exact⟨j+1,⟨h,y⟩,a8,rfl⟩
    .rw[vj E]at y;rw[y];rw[vu E]at w⊢;refine pw ?_
     (first|refine .c (w) ?_|refine .o (w) ?_)
     refine .c (jT (jx k[j].vec).1 j) ?_;exact ym _ _
   .rw[vj C]at y;rw[y];rw[vu C]at u⊢;refine pw ?_
    (first|refine .c (u) ?_|refine .o (u) ?_)
    refine .c (jT (Zl k[j].items).1 j) ?_;exact ym _ _
  .rw[y,wA a8];exact .eq _ rfl
def zjX(a b:List Nat)(B:a.length<=1152921504606846976):Cn xT 184 [is a,is b] (.v (.bool (decide (a=b)))):=by
 refine zt Tryz.func184 2 ?_;refine pw ?_;refine .i ?_ ?_<;>intro j<;>(try simp only[zb]at j)<;>first|refine pw ?_|exact pd
 .symm;rw[uN];rintro rfl;exact j rfl
 .have y:a.length=b.length:=(dJ j);clear j;refine pLoop.go (λk=>k<=a.length/\(a=b↔a.drop k=b.drop k)) (λk=>[(13,.v (.int .i64 (k:Nat)))]) (λ_=>[]) (λk=>a.length-k) 0 [13] ?_ ?_ ?_
  .exact⟨X3 _,U1⟩
  .exact pd
  .rintro k ⟨hk,u⟩;refine pw ?_;refine .i ?_ ?_<;>intro h<;>(try simp only[zb]at h)<;>first|refine pw ?_|exact pd
   .have w:k<b.length:=a8;rw[vD h,vD w,Wu]at u;refine pw ?_;refine .i ?_ ?_<;>intro e<;>(try simp only[zb]at e)<;>first|refine pw ?_|exact pd
    .symm;rw[uN];intro A;exact absurd (u.1 A).1 a8
    .refine⟨k+1,⟨h,?_⟩,a8,rfl⟩;rw[u];have e:a[k]=b[k]:=a8;exact⟨λh=>h.2,λh=>⟨e,h⟩⟩
   .rw[eq_comm,wG,u,wA a8,wA a8]
def u11:List En:=[⟨1,3,[]⟩,⟨2,0,[]⟩]
def zhj(f:Fg)(v:List En)(j:∀e∈f.vec,ZL e)(u:∀e∈v,ZL e)(w:(zv f.vec).length<=1073741824)(y:(zv v).length<=1073741824):Cn xT 179 [fp f,vp v] (.v (.int .i64 (zZ (zv f.vec) (zv v)))):=by refine zt Tryz.func179 2 ?_;refine pw ?_;exact .d (Ks f.vec v j u w y)
def zhm(k:List Fg)(v:List En)(i:Nat)(hi:i<=k.length)(H:∀j,(h:j<k.length)->j<i->ZH k[j].vec v)(I:∀j,(h:j<k.length)->i<=j->¬ZH k[j].vec v)(J:k.length<=1152921504606846976)
 (w:∀f∈k,Cn xT 179 [fp f,vp v] (.v (.int .i64 (zZ (zv f.vec) (zv v))))) :
 Cn xT 178 [kp k,vp v,.fn (.func 179) [] []] (.tup [.v (.int .i64 i),.v (.bool (if h:i<k.length then decide (zZ (zv k[i].vec) (zv v)=0) else false))]):=by
 refine zt Tryz.func178 3 ?_;refine pw ?_;refine pLoop.go (λp:Nat×Nat=>p.1<=i/\i<=p.2/\p.2<=k.length) (λp=>[(9,.v (.int .i64 (p.1:Nat))),(10,.v (.int .i64 (p.2:Nat)))]) (λ_=>[]) (λp=>p.2-p.1) (0,k.length) [9,10] ?_ ?_ ?_
 .exact⟨X3 _,hi,Zp _⟩
 .exact pd
 .rintro⟨p,q⟩ ⟨B,C,E⟩;simp only at B C E;refine pw ?_;refine .i ?_ ?_<;>intro h<;>(try simp only[zb]at h)<;>first|refine pw ?_|exact pd
  .have y:(p+q)/2<k.length:=a8;have F:=H _ y;have G:=I _ y;refine pw ?_
   (first|refine .c (w k[(p+q)/2] (Yf y)) ?_|refine .o (w k[(p+q)/2] (Yf y)) ?_)
   refine .i ?_ ?_<;>intro u<;>(try simp only[zb]at u)<;>first|refine pw ?_|exact pd
   .refine⟨((p+q)/2+1,q),⟨?_,C,E⟩,by simp only;omega,rfl,rfl⟩;simp only;exact Ua λA=>G A u
   .refine⟨(p,(p+q)/2),⟨B,?_,by simp only;omega⟩,by simp only;omega,rfl,rfl⟩;simp only;refine ul λA=>?_;have:=F A;unfold ZH at this;omega
  .obtain rfl:p=i:=a8;obtain rfl:q=p:=a8;refine .i ?_ ?_<;>intro u<;>(try simp only[zb]at u)<;>first|refine pw ?_|exact pd
   ·(first|refine .c (w k[q] (Yf u)) ?_|refine .o (w k[q] (Yf u)) ?_)
    rw[uj u];try simp
   .rw[UK a8]
def Qo:∀{k:List Fg}(v:List En),k.Pairwise (λf g=>ZH f.vec g.vec)->∃i,i<=k.length/\(∀j,(h:j<k.length)->j<i->ZH k[j].vec v)/\(∀j,(h:j<k.length)->i<=j->¬ZH k[j].vec v)
 |[],v,_=>⟨0,Zp _,λj h=>by simp at h,λj h=>by simp at h⟩
 | f::k,v,hp=>by
   have y:=wi.1 hp;by_cases h:ZH f.vec v
   .obtain⟨i,E,A,B⟩:=Qo v y.2;refine⟨i+1,a9,λj w u=>?_,λj w C=>?_⟩
    .cases j with
     |zero=>exact h
     |succ j=>exact A j (dJ w) a8
    .cases j with
     |zero=>omega
     |succ j=>exact B j (dJ w) a8
   .refine⟨0,X3 _,λj _ h=>absurd h (Ue _),λj w _ u=>?_⟩;cases j with
    |zero=>exact h u
    |succ j=>exact h (k8 (y.1 _ (Yf (dJ w))) u)
def Y8:∀{k:List Fg}{f:Fg}{i:Nat},i<=k.length->(∀j,(h:j<k.length)->j<i->ZH k[j].vec f.vec)->(∀j,(h:j<k.length)->i<=j->¬ZH k[j].vec f.vec) ->
 qN k f=if h:i<k.length then (if zZ (zv k[i].vec) (zv f.vec)=0 then k.take i++⟨qy zn k[i].items f.items,f.vec⟩::k.drop (i+1) else k.take i++f::k.drop i) else k++[f]
 |[],f,i,h0,h1,h2=>by simp[qN]
 | g::k,f,i,h0,h1,h2=>by
   cases i with
   |zero=>have B:=h2 0 b6 (Zp _);have w:¬zZ (zv g.vec) (zv f.vec)<0:=B;rw[qN,Vm w,uj b6];simp only[ux,Wb,Y1,Wh,wN]
   | succ i=>
     have C:zZ (zv g.vec) (zv f.vec)<0:=h1 0 b6 a8;rw[qN,vj C,Y8 (i:=i) (dJ h0) (λj u A=>h1 (j+1) (dJ u) a8) (λj u y=>h2 (j+1) (dJ u) a8)];simp only[wy,WM,wP,wN,yb,Nat.add_lt_add_iff_right];split
     .split<;>rfl
     .rfl
end
section
open Go.RowKit
attribute [-go_sem] z7
structure AddOk(o:List Fg)(f:Fg):Prop where
 gi:GrpI o
 fo:OkG f
 l:o.length<=1048576
 fi:f.items.length<=100000000
 oi:∀g∈o,g.items.length<=100000000
 bd:∀e∈f.vec,ZL e
 bo:∀g∈o,∀e∈g.vec,ZL e
 nf:(zv f.vec).length<=1073741824
 no:∀g∈o,(zv g.vec).length<=1073741824
def xL{D:Qk}{w:World}{v:Value}{l:List En}(h:Dat D w v (vp l)):∃u j,v=.slice u l.length j:=by have y:Dat D w v (.sl (l.map ec) .sh):=h;obtain⟨u,j,sz,b,A,f,e1,_⟩:=(Rel.dat (ρ:=λ_=>0) (nb:=0) y).inv_sl;rw[wu]at e1;exact⟨u,j,e1⟩
def zc1(o:List Fg)(f:Fg)(i:Nat):Bool:=if h:i<o.length then decide (zZ (zv o[i].vec) (zv f.vec)=0) else false
def zjH{C:Qk}{rb base:Nat}{w:World}{v G:Value}{o:List Fg}{f:Fg}(i:Nat)(r:Bool)(O:zc1 o f i=r)(ho:AddOk o f)(A:OutG C rb base w v o)(I:Dat (DL C rb w) w G (vp f.vec))(hb:rb<base)(L:∀b o,C b o->b<rb)(E:rb<w.heap.size)(M:GL C w)
 (hi:i<=o.length) (J:∀j,(h:j<o.length)->j<i->ZH o[j].vec f.vec) (K:∀j,(h:j<o.length)->i<=j->¬ZH o[j].vec f.vec) :
 Calls xT 178 #[v,G,.func (.func 179) #[] #[]] w λe H=>e=.returned (.tuple #[.int .i64 (i:Nat),.bool r])/\Below w.heap.size w H:=by
 subst O;refine(jP (D:=DL C rb w) (zhm o f.vec i hi J K (by have:=ho.l;omega) λg F=>zhj g f.vec (ho.bo g F) ho.bd (ho.no g F) ho.nf) (M.mono (λ_ _ h=>.inl h) λ_ _ _ _ h=>h) (λb o h=>h.elim (λh=>UJ (L b o h) E) ub) rfl (λj p y=>?_)).mono ?_
 .match j,y with
  |0,y=>cases y;exact A.dat hb
  |1,y=>cases y;exact I
  |2,y=>cases y;exact .fn _ #[] #[] [] [] rfl rfl (λ_ _ h=>by simp at h) (λ_ _ h=>by simp at h)
  |j+3,y=>simp at y
 .rintro e H ⟨u,rfl,B,N⟩;rw[XY N];exact⟨rfl,B⟩
def zeo{C:Qk}{rb:Nat}{w:World}{v a b:Value}{l m:List Iv}(J:Nrm l)(K:Nrm m)(hs:l.length+m.length<=1073741824)(G:Dat (DX C rb w v) w a (rg l))(db:Dat (DX C rb w v) w b (rg m))(F:∀k,v.ownBlock=some k->rb<k/\k<w.heap.size)(E:∀b o,C b o->b<rb)(B:rb<w.heap.size)(H:GL C w):
 Calls xT 121 #[a,b] w λe A=>∃u,e=.returned u/\Below w.heap.size w A/\Dat (DX C rb A v) A u (rg (qy zn l m)):=by
 refine(jP (D:=DX C rb w v) (zaz l m J K hs) (H.mono (λb o h=>⟨.inl h,λe=>by have:=(F b e).1;have:=E b o h;omega⟩) λ_ _ _ _ h=>h) (λb o h=>h.1.elim (λh=>UJ (E b o h) B) ub) rfl (λj p y=>?_)).mono ?_
 .match j,y with
  |0,y=>cases y;exact G
  |1,y=>cases y;exact db
  |j+2,y=>simp at y
 .rintro e A ⟨u,rfl,hb,I⟩;exact⟨u,rfl,hb,I.mono (λb o h=>by
   rcases h with h|h
   .exact⟨h.1.imp id λh=>⟨h.1,vw h.2 hb.size⟩,h.2⟩
   .exact⟨.inr ⟨a8,h.2⟩,λe=>by have:=(F b e).2;omega⟩) λ_ _ _ _ h=>h⟩
def zhT{o:List Fg}{f:Fg}{i:Nat}(h:zc1 o f i=true):∃hi:i<o.length,zZ (zv o[i].vec) (zv f.vec)=0:=by
 unfold zc1 at h;split at h
 .rename_i hi;exact⟨hi,dJ h⟩
 .cases h
def Jh{C:Qk}{base rb:Nat}{w:World}{v va vv:Value}{o:List Fg}{f:Fg}(T:AddOk o f)(ao:OutG C (rb+1) base w v o)(aL:Boxed w rb 229 v)(bI:rb+1<base)(bC:base<=w.heap.size)(hC:∀b o,C b o->b<rb)(hG:GL C w)
 (da:Dat (DX C (rb+1) w v) w va (rg f.items)) (dv:Dat (DX C (rb+1) w v) w vv (vp f.vec)) :
 Calls xT 146 #[.pointer (some ⟨rb,0,none⟩),.agg #[va,vv]] w λe w'=>(∃u,e=.returned u)/\∃v',Boxed w' rb 229 v'/\OutG C (rb+1) base w' v' (qN o f)/\Keep (λk=>k=rb\/base<=k) w w':=by
 obtain⟨i,hi,q1,q2⟩:=Qo f.vec T.gi.srt;have M:=Y8 hi q1 q2;have bJ:=aL.lt;obtain⟨O,ar⟩:=xm (w.alloc (.cells #[va,vv] 72));have bQ:O.heap.size=w.heap.size+1:=by rw[ar];simp
 have ac:∀j,j<w.heap.size->O.heap[j]?=w.heap[j]?:=λj hj=>by rw[ar];exact tv _ _ _ hj
 have az:O.heap[w.heap.size]?=some (.cells #[va,vv] 72 (0,0)):=by rw[ar];exact tp w _
 have ae:=ao.keep (w':=O) a8 ac;have aX:Dat (DX C (rb+1) O v) O va (rg f.items):=DX.keep da a8 λk hk _=>ac k hk;have aH:Dat (DX C (rb+1) O v) O vv (vp f.vec):=DX.keep dv a8 λk hk _=>ac k hk;have ak:Boxed O rb 229 v:=(ac rb bJ).trans aL;have aJ:GL C O:=hG.mono (λ_ _ h=>h) λb o x A hx=>(tn (a:=⟨b,o,none⟩) (ac b (by have:=hC b o A;omega))).trans hx;obtain⟨ad,I,rfl,bP,bD⟩:=ao.shape;unfold maxLen at bD;obtain⟨aa,ca,rfl⟩:=zK da;obtain⟨av,cv,rfl⟩:=xL dv;obtain⟨r,P⟩:=xt (zc1 o f i);have aY:∀W,Below O.heap.size O W->Calls xT 178 #[.slice ad o.length I,.slice av f.vec.length cv,.func (.func 179) #[] #[]] W λe w'=>e=.returned (.tuple #[.int .i64 (i:Nat),.bool r])/\Below W.heap.size W w':=λW V=>
  zjH i r P T (ae.keep V.size λk hk=>V.block k hk) ((DX.keep aH V.size λk hk _=>V.block k hk).mono (λ_ _ h=>h.1) λ_ _ _ _ h=>h) bI (λb o h=>Uq (hC b o h)) (by have:=V.size;omega) (aJ.mono (λ_ _ h=>h) λb o x A hx=>(tn (a:=⟨b,o,none⟩) (V.block b (by have:=hC b o A;omega))).trans hx) hi q1 q2
 have bh:=qL aY;have c0:=ak.cell;have e0:=(zW az 0 _ rfl).1;have e1:=(zW az 1 _ rfl).1;have aT:=qL ar;have aE:=qL ae;have aS:=qL aX;have bj:=qL aH;have aU:=qL ak;have bl:=qL aJ;have aC:=qL M;have bt:=qL az;have aB:=qL P;have bN:=qL ac;clear M ac az ae aX aH ak aJ P da dv ao aL hG q1 q2 aY;have bM:True:=trivial;have aZ:Below O.heap.size O O.drew:=(tu _ _).drew;have aR:xT.follows .mixedOrders=true:=dK
 go_enter Tryz.func146,Tryz.ntmps146
 go_wp2_with fail
 rw[<-ar];refine Kg (Sw:=qe) 12 51 (λN=>Below O.heap.size O N/\N.cell? ⟨rb,0,none⟩=some (.slice ad o.length I)/\N.cell? ⟨w.heap.size,1,none⟩=some (.slice av f.vec.length cv)) dK dK rfl ⟨aZ,c0,e1⟩ ?_;simp only[wP,Wb];refine Jz ?_;refine V7 (λu _=>u=.tuple #[.int .i64 (i:Nat),.bool r]) (yj _) rfl ?_ ?_
 .intro a2 y A hk P K hK;have HK:=qL hK;clear hK;simp[Rds,zA,lk,Op.operands,Call.operands,RdEq]at P;go_simp;refine(bh.o _ A.1).mono ?_;rintro e w3 ⟨rfl,hb⟩;have J:Keep qe y w3:=Keep.of_below' hb (Zp _);exact HK.o _ _ J ⟨A.1.trans (hb.mono A.1.size),J.cell_some A.2.1 id,J.cell_some A.2.2 id⟩ rfl
 simp only[Y1,yb];refine Jz ?_;intro y H S;simp only[finG,WR,Y1,yb,wN,Wh,WS];simp only[Act.put,wB,wS,wT];have B:=qL H.1;have c2:=H.2.1;have f2:=(H.1.block _ a8).trans (show O.heap[w.heap.size]?=_ from bt.o);have g0:=(zW f2 0 _ rfl).1;have g1:=(zW f2 1 _ rfl).1;clear H S aZ;cases r with
 | true=>
   obtain⟨an,hz⟩:=zhT aB.o;have U:=aE.o.keep (w':=y) B.o.size λk hk=>B.o.block k hk;have bq:=qL U;obtain⟨xs,Y,ay⟩:=id U;obtain⟨a,b,ea,eb,aI,bB⟩:=ay i an;obtain⟨g,aV,bO,ev,bG,bH,be,_,_,_,_⟩:=Y.cases.resolve_left (λh=>a8);obtain⟨rfl,_,rfl⟩:ad=some ⟨g,0,none⟩/\o.length=o.length/\I=aV:=(dJ ev);have aW:y.cell? ⟨g,i*2,none⟩=some a:=(by have:=tJ Y.1 (g:=g) rfl (i*2) a ea;rw[zh,wn]at this;exact this);have aK:∀k,(Value.slice (some ⟨g,0,none⟩) o.length I).ownBlock=some k->rb+1<k/\k<y.heap.size:=λk hk=>(by have:=U.owns k hk;omega);obtain⟨ai,ci,rfl⟩:=zK aI;have bg:∀W,Below y.heap.size y W->Calls xT 121 #[.slice ai o[i].items.length ci,.slice aa f.items.length ca] W λe w'=>∃u,e=.returned u/\Below W.heap.size W w'/\Dat (DX C (rb+1) w' (.slice (some ⟨g,0,none⟩) o.length I)) w' u (rg (qy zn o[i].items f.items)):=λW V=>
    zeo (T.gi.ok _ (Yf an)).2.2.1 T.fo.2.2.1 (by have:=T.oi _ (Yf an);have:=T.fi;omega) (DX.keep aI V.size λk hk _=>V.block k hk) (DX.keep aS.o (V0 B.o.size V.size) λk hk _=>(V.block k (vw hk B.o.size)).trans (B.o.block k hk)) (λk hk=>⟨(aK k hk).1,vw (aK k hk).2 V.size⟩) (λb o h=>Uq (hC b o h)) (by have:=B.o.size;have:=V.size;omega) (bl.o.mono (λ_ _ h=>h) λb o x A hx=>(tn (a:=⟨b,o,none⟩) ((V.block b (by have:=hC b o A;have:=B.o.size;omega)).trans (B.o.block b (by have:=hC b o A;omega)))).trans hx)
   have br:=qL bg;have ax:Below y.heap.size y y.drew:=(tu _ _).drew;have bn:=qL be;have ba:0<I:=a8;have aq:=B.o.size;clear bg U Y ay ea eb aI bB be aK;obtain⟨Q,aQ⟩:=xm (y);subst aQ
   go_wp2_with fail
   refine Kg (Sw:=qe) 16 51 (λN=>Below Q.heap.size Q N/\N.cell? ⟨rb,0,none⟩=some (.slice (some ⟨g,0,none⟩) o.length I)/\N.cell? ⟨g,i*2,none⟩=some (.slice ai o[i].items.length ci)/\N.cell? ⟨w.heap.size,0,none⟩=some (.slice aa f.items.length ca)) dK dK rfl ⟨ax,c2,aW,g0⟩ ?_;simp only[wP,Wb];refine Jz ?_;refine V7 (λu N=>Dat (DX C (rb+1) N (.slice (some ⟨g,0,none⟩) o.length I)) N u (rg (qy zn o[i].items f.items))) (λu wa Q h hk=>DX.keep h hk.size λk S _=>hk.block k S id) rfl ?_ ?_
   .intro a2 y A hk P K hK;have HK:=qL hK;clear hK;simp[Rds,zA,lk,Op.operands,Call.operands,RdEq]at P;go_simp;refine(br.o _ A.1).mono ?_;rintro e w3 ⟨u,rfl,hb,hd⟩;have J:Keep qe _ w3:=Keep.of_below' hb (Zp _);exact HK.o _ _ J ⟨A.1.trans (hb.mono A.1.size),J.cell_some A.2.1 id,J.cell_some A.2.2.1 id,J.cell_some A.2.2.2 id⟩ hd
   simp only[Y1,yb];refine Jz ?_;intro y H S;simp only[finG,WR,Y1,yb,wN,Wh,WS];simp only[Act.put,wB,wS,wT];intro u hu;obtain⟨F,G,rfl⟩:=zK hu;have HU:=qL hu;have aw:=qL H.1;have c3:=H.2.2.1;have f3:y.frozen? ⟨g,i*2,none⟩=false:=by have:=(H.1.block g bH).trans bn.o;simp[World.frozen?,this]
   clear hu H S ax c2 aW g0 g1 f2
   go_wp2
   (try simp only[Exit.inBlock,Exit.then]);refine tz (tL rfl _ _ _) rfl ?_
   have ah:=(bq.o.keep (w':=y) aw.o.size λk hk=>aw.o.block k hk).set an HU.o ba;have M:qN o f=o.take i++⟨qy zn o[i].items f.items,o[i].vec⟩::o.drop (i+1):=(by rw[aC.o,uj an,vj hz,<-YU hz]);rw[M];refine⟨⟨_,rfl⟩,_,?_,ah,?_⟩
   .refine(tx _ _ _ _ (by show rb≠g;omega)).trans ((aw.o.block rb a8).trans ((B.o.block rb a8).trans aU.o))
   .have aN:Keep (λk=>k=rb\/base<=k) w O:=(by rw[aT.o];exact(Keep.refl _ w).alloc _);exact((aN.trans (Keep.of_below' B.o (Zp _))).trans (Keep.of_below' aw.o (Zp _))).setCell (λ_=>.inr bG) _
 | false=>
   have M:qN o f=o.take i++f::o.drop i:=by
    rw[aC.o];have hh:=aB.o;unfold zc1 at hh;split at hh
    .rename_i h;rw[uj h,Vm (dJ hh)]
    .rename_i h;rw[UK h,wm a8,wA a8]
   have bp:=qL M;have aq:=B.o.size;have bc:∀W,Below y.heap.size y W->Calls xT 89 #[.slice aa f.items.length ca] W λe w'=>∃F G,e=.returned (.slice F f.items.length G)/\OwnR W.heap.size w' (.slice F f.items.length G) f.items/\Below W.heap.size W w':=λW V=>(by have bE:=DX.keep aS.o (V0 aq V.size) λk hk _=>(V.block k (vw hk aq)).trans (B.o.block k hk);refine(zeX (je bE (λb o h=>h.1.elim (λh=>by have:=hC b o h;have:=V.size;omega) ub) T.fo.2.2.1.lt) (by have:=T.fi;omega)).mono ?_;rintro e w' ⟨v',rfl,h1,h2⟩;obtain⟨F,G,rfl⟩:=zK (jp (D:=λ_ _=>True) h1.rd λ_ _ _ _=>trivial);exact⟨F,G,rfl,h1,h2⟩);have bi:=qL bc;clear bc M;have ax:Below y.heap.size y y.drew:=(tu _ _).drew;obtain⟨Q,aQ⟩:=xm (y);subst aQ
   go_wp2_with fail
   refine znC [1,2,3,4,5,6,7,8,9,10,11,12,0,13,14,15,16] 12 51 (λN=>Below Q.heap.size Q N/\N.cell? ⟨rb,0,none⟩=some (.slice ad o.length I)/\N.cell? ⟨w.heap.size,0,none⟩=some (.slice aa f.items.length ca)/\N.cell? ⟨w.heap.size,1,none⟩=some (.slice av f.vec.length cv)) aR dK dK rfl ⟨ax,c2,g0,g1⟩ _ _ rfl rfl rfl rfl _ rfl ?_;simp only[z8,Wz,W7,List.getD_cons_zero,List.getD_cons_succ,wP,Wb,wN,Wh];repeat (refine Pl.wdetK ?_ rfl (λa w A _ P=>?_) ?_;rotate_left;(simp[Pl.Rds,zA,Pl.lk,Op.operands,Call.operands,RdEq]at P;go_simp;with_reducible rfl);simp only[Y1,yb])
   refine Pl.wgenK (λu N=>∃F G,u=.slice F f.items.length G/\OwnR Q.heap.size N u f.items) (λu _ _ h hk=>by obtain⟨F,G,e,h⟩:=h;exact⟨F,G,e,h.keep hk λ_ _ h=>h⟩) rfl ?_ ?_
   .intro a2 y A hk P K hK;have HK:=qL hK;clear hK;simp[Pl.Rds,zA,Pl.lk,Op.operands,Call.operands,RdEq]at P;go_simp;refine(bi.o _ A.1).mono ?_;rintro e w3 ⟨F,G,rfl,ho,hb⟩;have J:Keep qe _ w3:=Keep.of_below' hb (Zp _);exact HK.o _ _ J ⟨A.1.trans (hb.mono A.1.size),J.cell_some A.2.1 id,J.cell_some A.2.2.1 id,J.cell_some A.2.2.2 id⟩ ⟨F,G,rfl,ho.mono A.1.size⟩
   simp only[Y1,yb];repeat (refine Pl.wdetK ?_ rfl (λa w A _ P=>?_) ?_;rotate_left;(simp[Pl.Rds,zA,Pl.lk,Op.operands,Call.operands,RdEq]at P;go_simp;with_reducible rfl);simp only[Y1,yb])
   refine Pl.wgenK (λu N=>∃F G,u=.agg #[.slice F f.items.length G,.slice av f.vec.length cv]/\OwnR Q.heap.size N (.slice F f.items.length G) f.items) (λu _ _ h hk=>by obtain⟨F,G,e,h⟩:=h;exact⟨F,G,e,h.keep hk λ_ _ h=>h⟩) rfl ?_ ?_
   .intro a2 y A hk P K hK;have HK:=qL hK;clear hK;simp[Pl.Rds,zA,Pl.lk,Op.operands,Call.operands,RdEq]at P;obtain⟨⟨_,⟨e1,e2⟩,⟨F,G,rfl⟩,ho⟩,e3,e4⟩:=P;go_simp;exact HK.o _ _ (Keep.refl _ _) A ⟨F,G,rfl,ho⟩
   simp only[Y1,yb];refine Pl.wgenK (λu N=>∃Z F G vt,u=.slice (some ⟨Z,0,none⟩) 1 1/\N.heap[Z]?=some (.cells #[.slice F f.items.length G,.slice av f.vec.length cv] vt (0,0))/\Q.heap.size<=Z/\OwnR Q.heap.size N (.slice F f.items.length G) f.items) (λu _ _ h hk=>by obtain⟨Z,F,G,vt,e,h1,h2,h3⟩:=h;exact⟨Z,F,G,vt,e,hk.obj h1 id,h2,h3.keep hk λ_ _ h=>h⟩) rfl ?_ ?_
   .intro a2 y A hk P K hK;have HK:=qL hK;clear hK;simp[Pl.Rds,zA,Pl.lk,Op.operands,Call.operands,RdEq]at P;obtain⟨_,⟨e1,e2⟩,F,G,rfl,ho⟩:=P;go_simp;refine HK.o _ _ ((Keep.refl _ _).alloc _) ⟨A.1.alloc A.1.size _,?_,?_,?_⟩ ⟨y.heap.size,F,G,_,rfl,tp y _,A.1.size,ho.keep ((Keep.refl qe _).alloc _) λ_ _ h=>h⟩
    .exact((Keep.refl qe _).alloc _).cell_some A.2.1 id
    .exact((Keep.refl qe _).alloc _).cell_some A.2.2.1 id
    .exact((Keep.refl qe _).alloc _).cell_some A.2.2.2 id
   simp only[Y1,yb];repeat (refine Pl.wdetK ?_ rfl (λa w A _ P=>?_) ?_;rotate_left;(simp[Pl.Rds,zA,Pl.lk,Op.operands,Call.operands,RdEq]at P;go_simp;with_reducible rfl);simp only[Y1,yb])
   have ah:∀(y:World)(Z:Nat) (F G) (vt:TypeId),Below Q.heap.size Q y->y.heap[Z]?=some (.cells #[.slice F f.items.length G,.slice av f.vec.length cv] vt (0,0))->Q.heap.size<=Z->OwnR Q.heap.size y (.slice F f.items.length G) f.items ->
    Calls xT 181 #[.slice ad o.length I,.int .i64 (i:Nat),.slice (some ⟨Z,0,none⟩) 1 1] y λe w3=>∃g3 L,e=.returned (.slice (some ⟨g3,0,none⟩) (o.length+1) L)/\Boxed w3 rb 229 (.slice ad o.length I)/\OutG C (rb+1) base (w3.setCell ⟨rb,0,none⟩ (.slice (some ⟨g3,0,none⟩) (o.length+1) L)) (.slice (some ⟨g3,0,none⟩) (o.length+1) L) (qN o f)/\Keep (λk=>k=rb\/base<=k) w w3:=by
    intro y Z F G vt ab ag aj af;have aO:=(aE.o.keep (w':=Q) aq λk hk=>B.o.block k hk).keep (w':=y) ab.size λk hk=>ab.block k hk;obtain⟨xs,Y,ay⟩:=id aO;have aP:=(aE.o.keep (w':=Q) aq λk hk=>B.o.block k hk).owns;refine(Q1 base Z vt y _ o.length xs _ _ i rfl rfl hi Y ag (λe=>by have:=(aP Z e).2;omega) (by have:=T.l;omega) (by have:=ab.size;omega)).mono ?_;rintro e w3 ⟨v',rfl,X,aM,bK⟩;have bR:=ab.size;have hp:Dat (DX C (rb+1) y (.slice ad o.length I)) y (.slice F f.items.length G) (rg f.items):=jp af.rd λb o h1 h2=>⟨.inr ⟨a8,h2⟩,λe=>by have:=(aP b e).2;omega⟩;have hq:Dat (DX C (rb+1) y (.slice ad o.length I)) y (.slice av f.vec.length cv) (vp f.vec):=DX.keep bj.o a8 λk hk _=>(ab.block k a8).trans (B.o.block k hk);have bF:=OutG.ins hi Y.2.1 ay hp hq (λb o h=>Uq (hC b o h)) a8 X aM bK;obtain⟨g3,L,bL,rfl,_⟩:=X.cases.resolve_left λh=>a8;have E:Boxed w3 rb 229 (.slice ad o.length I):=Boxed.kept ((ab.block rb a8).trans ((B.o.block rb a8).trans aU.o)) aM λe=>(by have:=(aP rb e.symm);have:=(Y.1.lt rb e.symm).1;omega);refine⟨g3,L,rfl,E,?_,?_⟩
    .rw[bp.o];exact bF.box a8 a8 λb o h=>by have:=hC b o h;omega
    .have aN:Keep (λk=>k=rb\/base<=k) w O:=(by rw[aT.o];exact(Keep.refl _ w).alloc _);exact(((aN.trans (Keep.of_below' B.o (Zp _))).trans (Keep.of_below' ab (Zp _)))).grown aM λk hk _=>.inr (Y.1.lt k hk).1
   have aA:=qL ah;clear ah;refine⟨λy H S=>?_,λy H S=>?_⟩<;>(simp only[Pl.finG,WR,Y1,yb,wP,Wb,wN,Wh,WS,jA,Option.map_none];simp only[Act.put,wB,wS,wT])
   .rintro _ ⟨bu,bz,rfl,_⟩ _ ⟨bw,bA,rfl,_⟩ _ ⟨Z,F,G,vt,rfl,ag,aj,af⟩;have HQ:=qL (aA.o y Z F G vt H.1 ag aj af);clear ag af H S
    go_wp2_with (first
     | (go_at_call 181;refine HQ.o.mono ?_;rintro e w3 ⟨g3,L,rfl,E,X,am⟩
        have aF:=qL X;have aD:=qL am;have aG:=qL E;have c9:=E.cell;have f9:=E.frozen;clear X am E)
     |go_in)
    go_end0
    exact⟨⟨_,rfl⟩,_,aG.o.set _,aF.o,aD.o.setCell (λ_=>.inl rfl) _⟩
   .rintro _ ⟨bu,bz,rfl,_⟩ _ ⟨bw,bA,rfl,_⟩ _ ⟨Z,F,G,vt,rfl,ag,aj,af⟩;have HQ:=qL (aA.o y Z F G vt H.1 ag aj af);clear ag af H S
    go_wp2_with (first
     | (go_at_call 181;refine HQ.o.mono ?_;rintro e w3 ⟨g3,L,rfl,E,X,am⟩
        have aF:=qL X;have aD:=qL am;have aG:=qL E;have c9:=E.cell;have f9:=E.frozen;clear X am E)
     |go_in)
    go_end0
    exact⟨⟨_,rfl⟩,_,aG.o.set _,aF.o,aD.o.setCell (λ_=>.inl rfl) _⟩
end
section
open Go.RowKit
def zdi{l:List Iv}{x:Nat}(y:mem l x=true)(j:x=0\/mem l (x-1)=false):x∈l.map Iv.lo:=by
 obtain⟨s,hs,w,A⟩:=qf.1 y;refine wC.2 ⟨s,hs,?_⟩;rcases uC w with u|u
 .rcases j with j|j
  .omega
  .have:mem l (x-1)=true:=qf.2 ⟨s,hs,a8,a8⟩;rw[this]at j;cases j
 .exact u
def zbS{a b:List Iv}(w:Nrm a)(hb:Nrm b):(qy zn a b).length<=a.length+b.length:=by
 have A:=qH (f:=zn) w hb;have:=Ji ((qy zn a b).map Iv.lo) (a.map Iv.lo++b.map Iv.lo) (NF.asc A) λy F=>by
  obtain⟨s,hs,rfl⟩:=wC.1 F;have E:=NF.lo_ge A s hs;have j:mem (qy zn a b) s.lo=true:=qf.2 ⟨s,hs,Zp _,E.2.1⟩;have C:s.lo=0\/(mem a (s.lo-1)=false/\mem b (s.lo-1)=false):=by
   by_cases B:s.lo=0
   .exact .inl B
   .have u:=NF.lo_prev A s hs B;rw[qj w hb a8]at u;simp only[zn,tf]at u;exact .inr u
  rw[qj w hb a8]at j;simp only[zn,WO]at j;rcases j with j|j
  .exact List.mem_append_left _ (zdi j (C.imp id UQ))
  .exact List.mem_append_right _ (zdi j (C.imp id ub))
 simpa using this
def qE:List Fg->Nat
 |[]=>0
 |f::k=>f.items.length+qE k
def kK:∀(a b:List Fg),qE (a++b)=qE a+qE b
 |[],b=>by simp[qE]
 |f::a,b=>by simp only[yb,qE,kK a b];omega
def yv:∀{k:List Fg}{f:Fg},f∈k->f.items.length<=qE k
 | g::k,f,h=>by
   rcases wh.1 h with rfl|h
   .simp only[qE];omega
   .have:=yv h;simp only[qE];omega
def YO:∀k:List Fg,(CI k).length<=2*qE k
 |[]=>by simp[CI,qE]
 |f::k=>by have j:=YO k;have u:=vq f.items;have:CI (f::k)=z6 f.items++CI k:=rfl;rw[this,wk,qE];omega
def Zf(V:Iv->List En):∀l:List Iv,qE (l.map λs=>⟨[s],V s⟩)=l.length
 |[]=>rfl
 |s::l=>by rw[Wz,qE,Zf V l];simp;omega
def Vg:∀{o:List Fg}{f:Fg},(∀g∈o,Nrm g.items)->Nrm f.items->qE (qN o f)<=qE o+f.items.length/\(qN o f).length<=o.length+1/\∀g∈qN o f,g.vec=f.vec\/∃h∈o,g.vec=h.vec
 |[],f,_,_=>⟨by simp[qN,qE],by simp[qN],λg u=>by simp only[qN,wI]at u;subst u;exact .inl rfl⟩
 | g::o,f,ho,hf=>by
   have B:=Vg (o:=o) (f:=f) (λx j=>ho x (by simp[j])) hf;have u:=ho g b6;have C:=zbS u hf;unfold qN;by_cases w:zZ (zv g.vec) (zv f.vec)<0
   .rw[vj w];refine⟨by simp only[qE];omega,by simp only[wy];omega,λx j=>?_⟩;rcases wh.1 j with rfl|j
    .exact .inr ⟨_,b6,rfl⟩
    .exact(B.2.2 x j).imp id λ⟨y,hy,e⟩=>⟨y,by simp[hy],e⟩
   .rw[Vm w];by_cases A:zZ (zv g.vec) (zv f.vec)=0
    .rw[vj A];refine⟨by simp only[qE];omega,b6,λx j=>?_⟩;rcases wh.1 j with rfl|j
     .exact .inl rfl
     .exact .inr ⟨x,by simp[j],rfl⟩
    .rw[Vm A];refine⟨by simp only[qE];omega,b6,λx j=>?_⟩;rcases wh.1 j with rfl|j
     .exact .inl rfl
     .exact .inr ⟨x,j,rfl⟩
def Yq:∀{k o:List Fg},GrpI o->RightK k->qE (k.foldl yo o)<=qE o+qE k/\(k.foldl yo o).length<=o.length+k.length/\∀g∈k.foldl yo o,(∃f∈k,g.vec=zi f.vec)\/∃h∈o,g.vec=h.vec
 |[],o,_,_=>⟨b6,b6,λg j=>.inr ⟨g,j,rfl⟩⟩
 | f::k,o,ho,hk=>by
   have w:=hk f b6;have A:=Yq (k:=k) (o:=yo o f) (Yr ho w).1 λg j=>hk g (by simp[j]);rw[WP];have B:qE (yo o f)<=qE o+f.items.length/\(yo o f).length<=o.length+1/\∀g∈yo o f,g.vec=zi f.vec\/∃h∈o,g.vec=h.vec:=by
    unfold yo;split
    .exact⟨a8,a8,λg j=>.inr ⟨g,j,rfl⟩⟩
    .exact Vg (λg j=>(ho.ok g j).2.2.1) w.1
   refine⟨by simp only[qE];omega,by simp only[wy];omega,λg j=>?_⟩;rcases A.2.2 g j with⟨x,u,e⟩|⟨x,u,e⟩
   .exact .inl ⟨x,by simp[u],e⟩
   .rcases B.2.2 x u with e2|⟨y,C,e2⟩
    .exact .inl ⟨f,b6,e.trans e2⟩
    .exact .inr ⟨y,C,e.trans e2⟩
def jU{k:List Fg}(h:RightK k):qE (zL k)<=qE k/\(zL k).length<=k.length/\∀g∈zL k,∃f∈k,g.vec=zi f.vec:=by
 have:=Yq (o:=[]) GrpI.nil h;refine⟨by simpa[qE,zL]using this.1,by simpa[zL]using this.2.1,λg j=>?_⟩;rcases this.2.2 g j with h|⟨x,u,_⟩
 .exact h
 .cases u
def Zo{k:List Fg}{j:Nat}(h:j<k.length):zL (k.take (j+1))=yo (zL (k.take j)) k[j]:=by unfold zL;rw[X4 h,WX];rfl
def zfS{v:List En}{h:Nat}(y:∀e∈v,e.holes.length<=h):(zv v).length<=1+v.length*(3+2*h):=by
 have:∀{v:List En},(∀e∈v,e.holes.length<=h)->(v.flatMap zC).length<=v.length*(3+2*h):=by
  intro v;induction v with
  |nil=>intro _;simp
  |cons e v ih=>intro j;have A:=ih λf w=>j f (by simp[w]);have B:=j e b6;have u:(v.length+1)*(3+2*h)=v.length*(3+2*h)+(3+2*h):=Nat.succ_mul _ _;simp only[Wg,wk,zC,wy,xx,u];omega
 have:=this y;unfold zv;simp only[wy];omega
def WV.nlen{C:Nat->List Nat}{R:List Nat}{v:List En}(h:WV C R v)(w:∀r,(C r).length<=9000)(y:R.length<=20000):(zv v).length<=1073741824:=by obtain⟨_,j,u⟩:=h.bv w y;have A:=zfS u;have B:v.length*(3+2*(9000+2))<=20000*(3+2*(9000+2)):=Ws _ j;omega
def fewK_get{k:List Fg}(h:vx k=true):k.length<=12/\∀f∈k,f.items.length<=20/\f.vec.length<=20/\∀e∈f.vec,e.holes.length<=30:=by
 simp [vx,JF] at h;exact⟨h.2,fun f hf=>⟨(h.1 f hf).1,(h.1 f hf).2.2,(h.1 f hf).2.1⟩⟩
def zcS{k:List Fg}(h:vx k=true):QW k:=by
 obtain⟨A,j⟩:=fewK_get h;exact⟨a8,λf w=>by
  obtain⟨B,C,y⟩:=j f w;exact⟨a8,a8,λe u=>by have:=y e u;omega⟩⟩
end
end Go.Proofs.YtbhngpjkakcgfaaGreatDoor
