import Derived.Test.YtmpnbdhadjfbhaaGreatDoorB7
set_option maxHeartbeats 16000000
set_option linter.all false
namespace Go.Proofs.YtmpnbdhadjfbhaaGreatDoor
def tV:=@Go.World.ownsRow_nil
open Go.Proofs.Tryz
open Go.Proofs.Tryz renaming prog->xt
section
open Go.RowKit
variable {P:Program}
def qQ:Nat->List PV->List (Nat×PV)
 |_,[]=>[]
 |k,p::ps=>(k,p)::qQ (k+1) ps
def Qe:∀(j:List PV)(k i:Nat),yr (qQ k j) i=if k<=i then j.getD (i-k) .und else .und
 |[],k,i=>by simp[qQ,yr]
 | p::j,k,i=>by
   simp only[qQ,yr];by_cases h:k=i
   .subst h;simp
   .rw[Vq h,Qe j (k+1) i];by_cases o:k+1<=i
    .rw[Vm o,Vm a8];obtain⟨d,u⟩:∃d,i-k=d+1:=⟨i-k-1,a8⟩;rw[u,show i-(k+1)=d from by omega];rfl
    .rw[Vq o,Vq a8]
def PV.resD:PV->Bool
 |.agg cs=>zY cs
 |p=>p.isD
def zgB:List Value->Value
 |[u]=>u
 |us=>.tuple us.toArray
inductive RV where
 |t (i:Nat)
 |c (i:Nat) (ag:Bool) (n:Nat)
def RV.get(s:PS):RV->Option PV
 |.t i=>some (s.get i)
 | .c i ag n=>match s.get i with
   | .bx j o=>match s.b[j]? with
     | some u=>match ag with
       |true=>if o+n<=u.length then some (.agg ((u.drop o).take n)) else none
       |false=>u[o]?
     |none=>none
   |_=>none
def YJ(s:PS):List RV->Option (List PV)
 |[]=>some []
 |r::l=>(r.get s).bind λp=>(YJ s l).map λj=>p::j
def jC(j:List RV)(s:PS)(r:PV):Prop:=match j with
 |[.t t]=>SubP 0 (s.get t) r
 | [x]=>match x.get s with
   |some p=>p.resD=true/\SubP 0 p.sh r/\r.own=none
   |none=>False
 | j=>match YJ s j with
   |some o=>o.all PV.resD=true/\SubP 0 (.tup (o.map PV.sh)) r
   |none=>False
def jG(j:List RV)(r:PV):PX->PS->Prop
 |.x _,_=>False
 |_,s=>jC j s r
def XU(P:Program):ResultVar->Option RV
 |.tmp t=>some (.t t)
 |.cell a t=>(XH P t).bind fun(ag,n)=>if ag || n == 1 then some (.c a ag n) else none
def yc(P:Program):List ResultVar->Option (List RV)
 |[]=>some []
 |r::l=>(XU P r).bind λx=>(yc P l).map λj=>x::j
section
variable {B:Bs}{nt:Nat}{g:Gh}{s:PS}{a:Act}{w:World}
def Xs(j:Array Value):ResultVar->Sem Value
 |.tmp t=>pure (j.getD t undef)
 |.cell a t=>do loadVar t (<-asAddr (j.getD a undef))
def ziS(h:R B g s (zB a) w){J:ResultVar}{x:RV}{p:PV}(C:XU P J=some x)(A:x.get s=some p)(F:p.resD=true):∃u,(Xs a.tmps J).run P w=.ok u w/\Dat g.D w u p.sh:=by
 cases J with
 | tmp t=>
   cases C;simp only[RV.get,wQ]at A;subst A;have O:(s.get t).isD=true:=by
    revert F;cases s.get t<;>intro F<;>first|exact F|rfl
   exact⟨_,rfl,((h.slots t).data O).sh⟩
 | cell i t=>
   simp only[XU,Z3]at C;obtain⟨⟨H,n⟩,hs,C⟩:=C;simp only at C;split at C
   .rename_i hcond;cases C;simp only[RV.get]at A;split at A
    .rename_i j o e;have M:=h.slots i;rw[e]at M;obtain⟨V,e1⟩:=M.inv_bx;split at A
     .rename_i cs hcs;obtain⟨U,K,T,Q,hz,hb⟩:=h.boxes j cs hcs;have E:∀k,k<cs.length->w.cell? ⟨g.ρ j,0+k,none⟩=some (K.getD k undef)/\(K.getD k undef).oneCell'=true:=λk hk=>by refine⟨?_,(hb k _ (Zv hk)).2⟩;simp only[World.cell?,Q];simp[show k<K.size by omega]
      have I:VI cs o H n λy=>y=p:=by
       unfold VI;cases H with
       | true=>
         simp only at A⊢;split at A
         .rename_i hle;cases A;exact⟨hle,rfl⟩
         .cases A
       |false=>simp only at A⊢;rw[A]
      have G:H=true->zY ((cs.drop o).take n)=true:=λe=>by
       subst e;simp only at A;split at A
       .cases A;exact F
       .cases A
      obtain⟨u,S,L,N,rfl⟩:=Qv (P:=P) (D:=g.D) (ρ:=g.ρ) (nb:=s.b.length) hs I E (λk q I=>(hb k q I).1) G;refine⟨u,?_,(N.data ?_).sh⟩
      .rw[wn]at L;have e2:a.tmps.getD i undef=.pointer (some ⟨g.ρ j,o,none⟩):=e1;simp only[Xs,e2,asAddr,tH,tJ,tB,L]
      .revert F;cases S<;>intro F<;>first|exact F|rfl
     .cases A
    .cases A
   .cases C
def Kj(h:R B g s (zB a) w):∀{l:List ResultVar}{A:List RV}{o:List PV},yc P l=some A->YJ s A=some o->o.all PV.resD=true ->
 ∃us:List Value,(l.mapM (Xs a.tmps)).run P w=.ok us w/\us.length=o.length/\l.length=A.length/\∀(i:Nat) p,o[i]?=some p->Dat g.D w (us.getD i undef) p.sh
 |[],A,o,hc,j,_=>by cases hc;cases j;exact⟨[],rfl,rfl,rfl,λi p h=>by simp at h⟩
 | r::l,A,o,hc,j,hd=>by
   simp only[yc,Z3,ZZ]at hc;obtain⟨x,L,N,C,rfl⟩:=hc;simp only[YJ,Z3,ZZ]at j;obtain⟨p,j,M,K,rfl⟩:=j;simp only[List.all_cons,VS]at hd;obtain⟨u,E,F⟩:=ziS h L j hd.1;obtain⟨us,G,H,I,J⟩:=Kj h C K hd.2;refine⟨u::us,by simp only[List.mapM_cons,tH,E,tB,G,tJ],by simp[H],by simp[I],λi q hi=>?_⟩;cases i with
   |zero=>simp at hi;subst hi;exact F
   |succ i=>simpa using J i q (dK hi)
def xZ(fn:Func)(j:Array Value){us:List Value}(h:(fn.results.toList.mapM (Xs j)).run P w=.ok us w):(results fn j).run P w=.ok (zgB us) w:=by
 unfold results;rw[Array.mapM_eq_mapM_toList];simp only[tH,Sem.run_map];erw[h];simp only[tB,tJ];match us with
 |[]=>rfl
 |[u]=>rfl
 |u::v::l=>simp[zgB]
end
def ze2{D:xT}{ρ:Nat->Nat}{w:World}{u:Value}{p:PV}(h:Rel D ρ 0 w u p):Dat D w u p:=by
 have j:∀{u p},Rel1 D ρ 0 w u p->Dat D w u p:=λh=>by
  rcases h with h|⟨i,o,_,hi,_⟩
  .exact h
  .omega
 rcases h with h|⟨f,I,J,C,B,rfl,rfl,E,F,G,H⟩
 .exact j h
 .exact .fn f I J C B E F (λi p A=>j (G i p A)) (λi p A=>j (H i p A))
def Ym{f:FuncId}{fn:Func}{c:Code}(u:P.funcs[f]?=some fn)(A:(fn.name == "runtime.NumGoroutine")=false)(hb:fn.body=some c):∀j w,(callFunc f j).run P w=.ok (.enter f j) w:=by
 intro j w;have o:¬fn.name = "runtime.NumGoroutine" :=dK A
 simp[callFunc,u,o,hb]
def zjM{f:FuncId}{fn:Func}{c:Code}{pc:PC}(ms:List Nat)(hf:P.funcs[f]?=some fn)(hn:(fn.name == "runtime.NumGoroutine")=false)(hb:fn.body=some c)(M:List RV)(hr:yc P fn.results.toList=some M)(nt:Nat)(aj:fn.ntmps=nt)(hc:qx P nt ms c=some pc){L:List PV}{r:PV}
 (ak:∀p∈L,p.own=none) (hl:L.length<=nt) (an:pW P nt True pc (jG M r) ⟨qQ 0 L,[]⟩):Cn P f L r:=by
 refine⟨Ym hf hn hb,λD w vs S hD am hd=>calls_of_wp hf hb ?_⟩;subst aj;obtain⟨a,ha⟩:∃a:Act,({ tmps:=vs++Array.replicate (fn.ntmps-vs.size) undef,defers:=[] }:Act)=a:=⟨_,rfl⟩;rw[ha];have E:RA ⟨w,D,λ_=>False,S,[]⟩ fn.ntmps ⟨D,λ_=>0⟩ ⟨qQ 0 L,[]⟩ a w:=by
  have N:∀t,(⟨qQ 0 L,[]⟩:PS).get t=L.getD t .und:=λt=>(by show yr (qQ 0 L) t=_;rw[Qe];simp);have K:∀u p,zQ ⟨D,λ_=>0⟩ ⟨qQ 0 L,[]⟩ (zB a) w u p->p.own=none:=by
   rintro u p (⟨t,rfl,rfl⟩|⟨i,j,cs,F,_⟩)
   .rw[N,vj];cases h:L[t]? with
    |none=>rfl
    |some p=>exact ak p (wO h)
   .simp at F
  refine⟨⟨λt=>?_,λi cs h=>by simp at h,λi j h=>by simp at h,λu p h=>zr (K u p h),λu p u' p' b h _ ho=>absurd (K u p h) ho,λu p b i h ho=>absurd (K u p h) ho,hD,λi h=>by simp at h,⟨rfl,rfl,rfl,Zp _,λ_ _ _=>rfl,λ_ _ h=>h,λ_ _ _ _ h=>h,λ_ _ h=>.inl h,hD⟩⟩,by rw[<-ha],by rw[<-ha];simp;omega⟩;rw[N,vj];cases h:L[t]? with
  |none=>exact .dat (.und _)
  |some p=>have:=hd t p h;have ht:t<vs.size:=(by rw[am];exact(Zw.1 h).1);have e:zB a t=vs.getD t undef:=(by rw[<-ha];simp[zB,WL ht]);rw[e];exact .dat this
 refine T5 (Ql (B:=⟨w,D,λ_=>False,S,[]⟩) (λ_ _ h=>h) c pc hc _ _ _ a w an E) λe a' H V=>?_;have fin:∀s g,RA ⟨w,D,λ_=>False,S,[]⟩ fn.ntmps g s a' H->jC M s r->bodyPost P fn (λe H=>∃v Z,e=.returned v/\Below w.heap.size w H/\(∀b o,D b o->Z b o)/\(∀b o,Z b o->D b o\/w.heap.size<=b)/\(∀b o,Z b o->b<H.heap.size)/\Dat Z H v r/\yW Z (λk=>w.heap.size<=k) H v r) .ret a' H:=by
  intro s g h A;obtain⟨E,Q,_⟩:=h;have I:Below w.heap.size w H:=⟨E.fr.os,E.fr.tape,E.fr.output,E.fr.size,λk hk=>E.fr.block k hk λh=>h⟩;have J:∀b o,g.D b o->D b o\/w.heap.size<=b:=λb o h=>by
   rcases E.fr.new b o h with h'|h'|h'
   .exact .inl h'
   .exact .inr h'
   .exact h'.elim
  have O:∀C,YJ s M=some C->C.all PV.resD=true->∃us:List Value,(results fn a'.tmps).run P H=.ok (zgB us) H/\us.length=C.length/\∀(i:Nat) p,C[i]?=some p->Dat g.D H (us.getD i undef) p.sh:=λC F G=>(by obtain⟨us,X,Y,_,k3⟩:=Kj E hr F G;exact⟨us,xZ fn _ X,Y,k3⟩);unfold jC at A;split at A
  .rename_i t;have ac:fn.results.toList=[.tmp t]:=by
    revert hr;cases fn.results.toList with
    |nil=>intro h;cases h
    | cons x l=>
      intro h;simp only[yc,Z3,ZZ]at h;obtain⟨y,U,ys,ae,e⟩:=h;cases e;cases l with
      | nil=>
        cases x with
        |tmp t=>cases U;rfl
        | cell a t=>
          simp only[XU,Z3]at U;obtain⟨⟨ag,n⟩,_,U⟩:=U;simp only at U;split at U<;>cases U
      |cons z l=>simp only[yc,Z3,ZZ]at ae;obtain⟨_,_,_,_,e⟩:=ae;cases e
   have ad:=xZ (P:=P) (w:=H) fn a'.tmps (us:=[a'.tmps.getD t undef]) (by rw[ac];rfl);refine⟨Q,_,ad,_,g.D,rfl,I,E.fr.d0,J,E.dlt,ze2 (SubP.rel A (E.slots t)),?_⟩;by_cases ho:r.own=none
   .exact zr ho
   .rcases SubP.own A (E.slots t) ho with rfl|⟨_,hk⟩
    .have:=E.owns _ _ (E.slot t);revert this ho;cases s.get t<;>try (intros;trivial)
     rename_i es ow;cases ow<;>try (intros;trivial)
     intro _ h;rcases h with hn|⟨gg,af,ah,e,F,hW,G⟩
     .exact .inl hn
     .exact .inr ⟨gg,af,ah,e,F,hW.resolve_right (λh=>h),G⟩
    .exact hk _ _ _
  .rename_i x _;split at A
   .rename_i p T;obtain⟨F,G,h3⟩:=A;obtain⟨us,X,Y,k3⟩:=O [p] (by simp[YJ,T]) (dK F);match us,Y with
    |[u],_=>refine⟨Q,_,X,_,g.D,rfl,I,E.fr.d0,J,E.dlt,?_,zr h3⟩;exact ze2 (ρ:=g.ρ) (SubP.rel G (nb:=0) (.dat (k3 0 p rfl)))
   .exact A.elim
  .split at A
   .rename_i hne1 hne2 _ C T;obtain⟨F,G⟩:=A;obtain⟨us,X,Y,k3⟩:=O C T F;have ab:us.length≠1:=by
     intro e;rw[Y]at e;have ai:∀{M C},YJ s M=some C->C.length=M.length:=by
      intro M;induction M with
      |nil=>intro C h;cases h;rfl
      |cons x l ih=>intro C h;simp only[YJ,Z3,ZZ]at h;obtain⟨p,_,qs,hq,rfl⟩:=h;simp[ih hq]
     rw[ai T]at e;match M,e with
     |[x],_=>exact hne2 x rfl
    have ev:zgB us=.tuple us.toArray:=by
     revert ab;match us with
     |[]=>intro _;rfl
     |[u]=>intro h;exact absurd rfl h
     |u::v::l=>intro _;rfl
    rw[ev]at X;have:r.own=none:=by cases G<;>rfl
    refine⟨Q,_,X,_,g.D,rfl,I,E.fr.d0,J,E.dlt,?_,zr this⟩;refine ze2 (ρ:=g.ρ) (SubP.rel G (nb:=0) (.dat (.tup _ _ (by simp[Y]) λi p T=>?_)));simp only[wh,ZZ]at T;obtain⟨q,hq,rfl⟩:=T;have:=k3 i q hq;simpa[vj]using this
   .exact A.elim
 cases e with
 |normal=>obtain⟨s,g,F,G⟩:=V;exact fin s g F G
 |ret=>obtain⟨s,g,F,G⟩:=V;exact fin s g F G
 |exit id=>obtain⟨s,g,F,G⟩:=V;exact G.elim
 |goto l=>exact V.elim
 |panic ch=>exact V.elim
 |outgrown=>exact V.elim
def zao(t:Nat)(j:List (List PV))(sz:Nat):PX->PS->Prop
 |.x _,_=>False
 |_,s=>match s.get t with
   |.sl es (.r _ sz')=>es=j/\sz'=sz
   |_=>False
def zio{f:FuncId}{fn:Func}{c:Code}{pc:PC}(ms:List Nat)(hf:P.funcs[f]?=some fn)(Q:(fn.name == "runtime.NumGoroutine")=false)(hb:fn.body=some c)(t:Nat)(hr:yc P fn.results.toList=some [.t t])(nt:Nat)(ah:fn.ntmps=nt)(hc:qx P nt ms c=some pc){F rs:List (List PV)}{sz:Nat}{I:List PV}
 (aj:∀p∈I,p.own=none) (hl:I.length+1<=nt) (am:pW P nt False pc (zao t rs sz) ⟨qQ 0 (.sl F (.r 0 sz)::I),[]⟩):OCn P f F sz I rs:=by
 refine⟨Ym hf Q hb,λD w v vs L S ak hd hv an=>calls_of_wp hf hb ?_⟩;subst ah;obtain⟨a,X⟩:∃a:Act,({ tmps:=(#[v]++vs)++Array.replicate (fn.ntmps-(#[v]++vs).size) undef,defers:=[] }:Act)=a:=⟨_,rfl⟩;rw[X];have N:∀i,(⟨qQ 0 (.sl F (.r 0 sz)::I),[]⟩:PS).get i=(PV.sl F (.r 0 sz)::I).getD i .und:=λi=>by show yr (qQ 0 _) i=_;rw[Qe];simp
 have H:zB a 0=v:=by rw[<-X];simp only[zB,wC];rw[WL a9,WL b6];rfl
 have hs:∀u p,zQ ⟨D,λ_=>0⟩ ⟨qQ 0 (.sl F (.r 0 sz)::I),[]⟩ (zB a) w u p->p.own≠none->u=v/\p=.sl F (.r 0 sz):=by
  rintro u p (⟨i,rfl,rfl⟩|⟨i,j,cs,A,_⟩) ho
  .rw[N]at ho⊢;cases i with
   |zero=>exact⟨H,rfl⟩
   | succ i=>
     exfalso;simp only[vj,uN]at ho;cases h:I[i]? with
     |none=>rw[h]at ho;exact ho rfl
     |some p=>rw[h]at ho;exact ho (aj p (wO h))
  .simp at A
 have ac:yW D (Bs.W ⟨w,D,λk=>zc v=some k,L,[]⟩) w v (.sl F (.r 0 sz)):=by
  rcases an with Q|⟨gg,J,O,e,A,K,h3⟩
  .exact .inl Q
  .cases J with
   | zero=>
     by_cases Y:F=[]
     .subst Y;exact .inl ⟨_,by rw[A];rfl,rfl⟩
     .have:=QH (ρ:=λ_=>0) (nb:=0) (.dat (A▸hv));exact absurd (wJ (tb.1 this.1)) Y
   |succ J=>exact .inr ⟨gg,_,O,e,A,.inr (by rw[A];rfl),h3⟩
 have hR:RA ⟨w,D,λk=>zc v=some k,L,[]⟩ fn.ntmps ⟨D,λ_=>0⟩ ⟨qQ 0 (.sl F (.r 0 sz)::I),[]⟩ a w:=by
  refine⟨⟨λi=>?_,λi cs h=>by simp at h,λi j h=>by simp at h,λu p h=>?_,λu p u' p' b h h' ho ai _ _=>by rw[(hs u p h ho).2,(hs u' p' h' ai).2],λu p b i h ho _ hi=>by simp at hi,S,λi h=>by simp at h,⟨rfl,rfl,rfl,Zp _,λ_ _ _=>rfl,λ_ _ h=>h,λ_ _ _ _ h=>h,λ_ _ h=>.inl h,S⟩⟩,by rw[<-X],by rw[<-X];simp;omega⟩
  .rw[N];cases i with
   |zero=>rw[H];exact .dat (hv.owned _ _)
   | succ i=>
     simp only[vj,uN];cases h:I[i]? with
     |none=>exact .dat (.und _)
     |some p=>have:=hd i p h;have ht:i<vs.size:=(by rw[ak];exact(Zw.1 h).1);have e:zB a (i+1)=vs.getD i undef:=(by rw[<-X];simp only[zB,wC];rw[WL a9,uW b6];simp);rw[e];exact .dat this
  .by_cases ho:p.own=none
   .exact zr ho
   .obtain⟨rfl,rfl⟩:=hs u p h ho;exact ac
 refine T5 (Ql (B:=⟨w,D,λk=>zc v=some k,L,[]⟩) (λh=>h.elim) c pc hc _ _ _ a w am hR) λe V C T=>?_;have Z:fn.results.toList=[.tmp t]:=by
  revert hr;cases fn.results.toList with
  |nil=>intro h;cases h
  | cons x l=>
    intro h;simp only[yc,Z3,ZZ]at h;obtain⟨y,M,ys,ad,e⟩:=h;cases e;cases l with
    | nil=>
      cases x with
      |tmp t=>cases M;rfl
      | cell a t=>
        simp only[XU,Z3]at M;obtain⟨⟨ag,n⟩,_,M⟩:=M;simp only at M;split at M<;>cases M
    |cons z l=>simp only[yc,Z3,ZZ]at ad;obtain⟨_,_,_,_,e⟩:=ad;cases e
 have fin:∀s g,RA ⟨w,D,λk=>zc v=some k,L,[]⟩ fn.ntmps g s V C->(match s.get t with|.sl F (.r _ sz')=>F=rs/\sz'=sz|_=>False)->bodyPost P fn (λe C=>∃u U,e=.returned u/\(C.os=w.os/\C.tape=w.tape/\C.output=w.output/\w.heap.size<=C.heap.size)/\(∀k,k<w.heap.size->zc v≠some k->C.heap[k]?=w.heap[k]?) /\
  (∀b o y,D b o->w.cell? ⟨b,o,none⟩=some y->C.cell? ⟨b,o,none⟩=some y)/\(∀b o,D b o->U b o)/\(∀b o,U b o->D b o\/w.heap.size<=b\/zc v=some b)/\(∀b o,U b o->b<C.heap.size) /\
  Dat U C u (.sl rs .sh)/\yW U (λk=>w.heap.size<=k\/zc v=some k) C u (.sl rs (.r 0 sz))) .ret V C:=by
  intro s g h G;obtain⟨E,af,_⟩:=h;split at G
  .rename_i es' m sz' e;obtain⟨rfl,rfl⟩:=G;have ab:=xZ (P:=P) (w:=C) fn V.tmps (us:=[V.tmps.getD t undef]) (by rw[Z];rfl);have A:=E.slots t;have K:=E.owns _ _ (E.slot t);rw[e]at A K;have ae:Dat g.D C (zB V t) (.sl es' .sh):=by
    rcases A with(hr|⟨_,_,hh,_⟩)|⟨_,_,_,_,_,hh,_⟩
    .exact hr.sh
    .cases hh
    .cases hh
   refine⟨af,_,ab,_,g.D,rfl,⟨E.fr.os,E.fr.tape,E.fr.output,E.fr.size⟩,λk hk Q=>E.fr.block k hk Q,λb o y S M=>E.fr.cell b o y S M,E.fr.d0,λb o S=>E.fr.new b o S,E.dlt,ae,?_⟩;rcases K with Q|⟨gg,J,O,e,q1,q2,q3⟩
   .exact .inl Q
   .exact .inr ⟨gg,J,O,e,q1,q2,q3⟩
  .exact G.elim
 cases e with
 |normal=>obtain⟨s,g,A,K⟩:=T;exact fin s g A K
 |ret=>obtain⟨s,g,A,K⟩:=T;exact fin s g A K
 |exit id=>obtain⟨s,g,A,K⟩:=T;exact K.elim
 |goto l=>exact T.elim
 |panic ch=>exact T.elim
 |outgrown=>exact T.elim
def xN(fn:Func):Code:=match fn.body with
 |some c=>c
 |none=>.skip
def zbo(P:Program)(fn:Func)(j:List Nat)(n:Nat):Bool:=!(fn.name == "runtime.NumGoroutine") && fn.body.isSome && (yc P fn.results.toList).isSome && (qx P fn.ntmps j (xN fn)).isSome && decide (n<=fn.ntmps)
def zbt(P:Program)(fn:Func)(j:List Nat):PC:=(qx P fn.ntmps j (xN fn)).getD .sk
def zgk(P:Program)(fn:Func):List RV:=(yc P fn.results.toList).getD []
def zgM{f:FuncId}{fn:Func}(J:P.funcs[f]?=some fn)(C:List Nat){A:List PV}{r:PV}(n:Nat)(j:zbo P fn C n=true)(M:A.length=n)(B:∀p∈A,p.own=none)(u:pW P fn.ntmps True (zbt P fn C) (jG (zgk P fn) r) ⟨qQ 0 A,[]⟩):Cn P f A r:=by
 unfold zbo at j;simp only[VS,Wo,wG]at j;obtain⟨⟨⟨⟨F,G⟩,H⟩,I⟩,L⟩:=j;obtain⟨c,E⟩:=wZ.1 G;obtain⟨K,w⟩:=wZ.1 H;obtain⟨N,o⟩:=wZ.1 I;unfold zbt zgk at u;rw[o,w]at u;have e:xN fn=c:=by unfold xN;rw[E]
 rw[e]at o;exact zjM C J F E K w fn.ntmps rfl o B a8 u
def zin{f:FuncId}{fn:Func}(K:P.funcs[f]?=some fn)(C:List Nat){E G:List (List PV)}{sz:Nat}{w:List PV}(n t:Nat)(j:zbo P fn C n=true)(B:yc P fn.results.toList=some [.t t])(N:w.length+1=n)(A:∀p∈w,p.own=none)(u:pW P fn.ntmps False (zbt P fn C) (zao t G sz) ⟨qQ 0 (.sl E (.r 0 sz)::w),[]⟩):OCn P f E sz w G:=by
 unfold zbo at j;simp only[VS,Wo,wG]at j;obtain⟨⟨⟨⟨H,I⟩,L⟩,J⟩,M⟩:=j;obtain⟨c,F⟩:=wZ.1 I;obtain⟨O,o⟩:=wZ.1 J;unfold zbt at u;rw[o]at u;have e:xN fn=c:=by unfold xN;rw[F]
 rw[e]at o;exact zio C K H F t B fn.ntmps rfl o A a8 u
end
section
open Go.RowKit
def zii{P:Program}{nt:Nat}{ms:List Nat}{c:Code}{U:PC}(Y:qx P nt ms c=some U){D0 D:xT}{w0 w:World}(E:GL D0 w0)(a:Act)(L:Fr ⟨w0,D0,λ_=>False,E,a.defers⟩ D w)(X:∀b o,D b o->b<w.heap.size){rb:Nat}(M:w0.heap.size<=rb){x:Value}{p:PV}{e:TypeId}(K:w.heap[rb]?=some (.cells #[x] e (0,0)))(hx:Dat D w x p)(T:x.oneCell'=true)(J:∀o,¬D rb o)
 (N:a.tmps.size=nt) (G:List (Nat×PV)) (O:∀t,(yr G t=.bx 0 0/\zB a t=.pointer (some ⟨rb,0,none⟩))\/Dat D w (zB a t) (yr G t)) (H:∀t,(yr G t).own=none) (hp:p.own=none) {Q:PX->PS->Prop} (S:pW P nt True U Q ⟨G,[[p]]⟩) :
 c.wp P (QL ⟨w0,D0,λ_=>False,E,a.defers⟩ nt Q) a w:=by
 have F:∀u q,zQ ⟨D,λ_=>rb⟩ ⟨G,[[p]]⟩ (zB a) w u q->q.own=none:=by
  rintro u q (⟨t,rfl,rfl⟩|⟨i,j,V,A,C,_⟩)
  .exact H t
  .match i,A with
   |0,A=>
     cases A;match j,C with
     |0,C=>cases C;exact hp
     |j+1,C=>simp at C
   |i+1,A=>simp at A
 refine Ql (B:=⟨w0,D0,λ_=>False,E,a.defers⟩) (λ_ _ h=>h) c U Y Q ⟨G,[[p]]⟩ ⟨D,λ_=>rb⟩ a w S ⟨⟨λt=>?_,λi V hi=>?_,λi j hi Z _=>?_,λu q h=>zr (F u q h),λu q u' q' b h _ ho=>absurd (F u q h) ho,λu q b i h ho=>absurd (F u q h) ho,X,λi _ o=>J o,L⟩,rfl,N⟩
 .show Rel D (λ_=>rb) 1 w (zB a t) (yr G t);rcases O t with⟨A,C⟩|h
  .rw[A,C];exact .inl (.inr ⟨0,0,rfl,b8,rfl⟩)
  .exact .dat h
 .match i,hi with
  |0,hi=>
    cases hi;refine⟨.inl M,#[x],e,K,rfl,λj q I=>?_⟩;match j,I with
    |0,I=>cases I;exact⟨.dat hx,T⟩
    |j+1,I=>simp at I
  |i+1,hi=>simp at hi
 .simp at hi Z;omega
def zih{P:Program}{nt:Nat}{c:Code}(H:(qx P nt [] c).isSome=true){D0 D:xT}{w0 w:World}(j:GL D0 w0)(a:Act)(G:Fr ⟨w0,D0,λ_=>False,j,a.defers⟩ D w)(M:∀b o,D b o->b<w.heap.size){rb:Nat}(I:w0.heap.size<=rb){x:Value}{p:PV}{e:TypeId}(F:w.heap[rb]?=some (.cells #[x] e (0,0)))(O:Dat D w x p)(L:x.oneCell'=true)(E:∀o,¬D rb o)
 (J:a.tmps.size=nt) (C:List (Nat×PV)) (K:∀t,(yr C t=.bx 0 0/\zB a t=.pointer (some ⟨rb,0,none⟩))\/Dat D w (zB a t) (yr C t)) (u:∀t,(yr C t).own=none) (N:p.own=none) {Q:PX->PS->Prop} (B:pW P nt True ((qx P nt [] c).getD .sk) Q ⟨C,[[p]]⟩) :
 c.wp P (QL ⟨w0,D0,λ_=>False,j,a.defers⟩ nt Q) a w:=by
 obtain⟨S,A⟩:=wZ.1 H;rw[A]at B;exact zii A j a G M I F O L E J C K u N B
def zfM{P:Program}{fn:Func}{nt:Nat}{x y:RV}{B:Bs}(T:yc P fn.results.toList=some [x,y]){p q:PV}{e:Exit}{a:Act}{w:World}(h:QL B nt (jG [x,y] (.tup [p,q])) e a w):
 (e=.normal\/e=.ret)/\a.defers=B.df/\∃(v:Value) (A:xT),(results fn a.tmps).run P w=.ok v w/\Fr B A w/\(∀b o,A b o->b<w.heap.size)/\Dat A w v (.tup [p,q]):=by
 have H:∀s g,RA B nt g s a w->jC [x,y] s (.tup [p,q])->a.defers=B.df/\∃(v:Value) (A:xT),(results fn a.tmps).run P w=.ok v w/\Fr B A w/\(∀b o,A b o->b<w.heap.size)/\Dat A w v (.tup [p,q]):=by
  intro s g K G;obtain⟨J,L,_⟩:=K;have j:(match YJ s [x,y]with|some Q=>Q.all PV.resD=true/\SubP 0 (.tup (Q.map PV.sh)) (.tup [p,q])|none=>False):=by cases x<;>exact G
  have M:∀{I u},YJ s I=some u->u.length=I.length:=by
   intro I;induction I with
   |nil=>intro u h;cases h;rfl
   |cons x l ih=>intro u h;simp only[YJ,Z3,ZZ]at h;obtain⟨p,_,X,N,rfl⟩:=h;simp[ih N]
  cases E:YJ s [x,y]with
  |none=>rw[E]at j;exact j.elim
  | some u=>
    rw[E]at j;obtain⟨F,C⟩:=j;obtain⟨us,U,O,_,V⟩:=Kj J T E F;have S:us.length=2:=(by rw[O,M E];rfl);match us,S with
    |[u1,u2],_=>refine⟨L,.tuple #[u1,u2],g.D,xZ fn _ U,J.fr,J.dlt,ze2 (ρ:=g.ρ) (SubP.rel C (nb:=0) (.dat (.tup _ _ (by simp[<-O]) λi p E=>?_)))⟩;simp only[wh,ZZ]at E;obtain⟨q,N,rfl⟩:=E;have:=V i q N;simpa[vj]using this
 cases e with
 |normal=>obtain⟨s,g,F,C⟩:=h;exact⟨.inl rfl,H s g F C⟩
 |ret=>obtain⟨s,g,F,C⟩:=h;exact⟨.inr rfl,H s g F C⟩
 |exit id=>obtain⟨s,g,F,C⟩:=h;exact C.elim
 |goto l=>exact h.elim
 |panic ch=>exact h.elim
 |outgrown=>exact h.elim
def v7{α:Type}(P:Program)(F:Nat)(G:Array Value)(o:α->Array Value)(T:Nat->Prop)(E:World->World->Prop)(C:List α)(W:World):Prop:=
 ∀(l:Nat)(J u:List α->World->Prop),
  (∀pre A B,J pre A->Keep T A B->J pre B)->(∀pre A B,u pre A->Keep T A B->u pre B) ->
  (∀pre x w,J pre w->pre++[x] <+: C->YieldAt Fence.wide 7 P l (o x) w λe j=>
    (e=.returned (.bool true)/\J (pre++[x]) j/\E w j)\/(e=.returned (.bool false)/\u (pre++[x]) j)) ->
  J [] W ->
  CallsIn Fence.wide 8 P F (#[.func (.yield l) #[] #[]]++G) W λe j=>(∃v,e=.returned v)/\(J C j\/∃pre,pre <+: C/\u pre j)
def zsL{α:Type}(P:Program)(H:Nat)(I:Array Value)(o:α->Array Value)(T:Nat->Prop)(G:World->World->Prop)(F:List α->α->Prop)(C w:List α->Prop)(W:World):Prop:=
 ∀(l:Nat)(J u:List α->World->Prop),
  (∀pre A B,J pre A->Keep T A B->J pre B)->(∀pre A B,u pre A->Keep T A B->u pre B) ->
  (∀pre x E,J pre E->F pre x->YieldAt Fence.wide 7 P l (o x) E λe j=>
    (e=.returned (.bool true)/\J (pre++[x]) j/\G E j)\/(e=.returned (.bool false)/\u (pre++[x]) j)) ->
  J [] W ->
  CallsIn Fence.wide 8 P H (#[.func (.yield l) #[] #[]]++I) W λe j=>(∃v,e=.returned v)/\((∃pre,C pre/\J pre j)\/∃pre,w pre/\u pre j)
def zgi{α:Type}(S:World->World->Prop)(I:List α->World->Prop)(o:Code->List α->World->Prop)(j:List α)(W:World):Exit->Act->World->Prop
 |.normal,_,W'=>S W W'/\I j W'
 |.ret,_,W'=>S W W'/\o .ret j W'
 |.exit id,_,W'=>S W W'/\o (.exit id) j W'
 |.goto t,_,W'=>S W W'/\o (.goto t) j W'
 |.panic _,_,_=>False
 |.outgrown,_,_=>False
def zsS{α:Type}{P:Program}{g:Operand}{ps:Array Tmp}{assign body:Code}{Q:Exit->Act->World->Prop}{a:Act}{w:World}
 (gf:Nat) (lb:Array Value) (hg:a.eval g=.func (.func gf) #[] lb) (eg:∀af w,(callFunc gf af).run P w=.ok (.enter gf af) w)
 (M:α->Array Value) (aN:∀x,(M x).size=ps.size) (T:Nat->Prop) (Pt:World->World->Prop) (Ok:List α->α->Prop) (ar aq:List α->Prop)
 (aM:∀W,Keep (λ_=>False) w W->W.heap.size=w.heap.size+2->zsL P gf lb M T Pt Ok ar aq W)
 (S:World->World->Prop) (ab:∀A B,S A B->∀k,k=w.heap.size\/k=w.heap.size+1->k<A.heap.size->B.heap[k]?=A.heap[k]?) (au:∀A B,S A B->Pt A B)
 (ai:∀A B C,Pt A B->Pt B C->Pt A C) (ag:∀A B,Keep (λk=>k=w.heap.size+1) A B->(∃o,A.heap[w.heap.size+1]?=some (.loop o))->Pt A B) (ac:¬T w.heap.size/\¬T (w.heap.size+1))
 (I:List α->World->Prop) (Ix:Code->List α->World->Prop)
 (hI:∀pre A B,I pre A->Keep (λk=>T k\/k=w.heap.size\/k=w.heap.size+1) A B->I pre B)
 (V:∀c pre A B,Ix c pre A->Keep (λk=>T k\/k=w.heap.size\/k=w.heap.size+1) A B->Ix c pre B)
 (h0:I [] w)
 (Ax:List α->α->Act->World->Prop)
 (aD:∀pre x a' A B,Ax pre x a' A->Keep (λk=>k=w.heap.size+1) A B->Ax pre x a' B)
 (Y:∀l pre x W,Ok pre x->w.heap.size+1<W.heap.size->I pre W ->
   assign.wpIn (Fence.wide.inRound l) 7 P (Exit.then (λa' W'=>S W W'/\Ax pre x a' W') (λ_ _ _=>False)) { tmps:=(ps.zip (M x)).foldl (λt (p,v)=>t.setIfInBounds p v) a.tmps,defers:=[] } W)
 (aj:∀l pre x a' W,Ok pre x->w.heap.size+1<W.heap.size->Ax pre x a' W->body.wpIn (Fence.wide.inRound l) 7 P (zgi S I Ix (pre++[x]) W) a' W)
 (ak:∀pre W,ar pre->I pre W->W.heap[w.heap.size]?=some (.deferred (some []))->Q .normal { a with defers:={ target:=.collected w.heap.size,args:=#[] }::a.defers } W)
 (ao:∀c pre W,aq pre->Ix c pre W->W.heap[w.heap.size]?=some (.deferred (some []))->c.wpIn Fence.wide 9 P Q { a with defers:={ target:=.collected w.heap.size,args:=#[] }::a.defers } W) :
 (Code.rangeFunc g ps assign body).wpIn Fence.wide 9 P Q a w:=by
 refine wpIn_rangeFunc ?_;intro fn aL;rw[show Fence.wide.round=none from rfl];obtain⟨E,j⟩:∃E:LoopState->Option Code->Loop,E=λst pe=>{ state:=st,pending:=pe,fn,tmps:=a.tmps,params:=ps,assign,body,defers:=w.heap.size }:=⟨_,rfl⟩;obtain⟨O,X⟩:=xn ((w.alloc (.deferred (some []))).alloc (.loop (E .ready none)));have aG:O.heap[w.heap.size+1]?=some (.loop (E .ready none)):=by
  rw[<-X];have:=tq (w.alloc (.deferred (some []))) (.loop (E .ready none));rwa[tx]at this
 have aF:O.heap[w.heap.size]?=some (.deferred (some [])):=by rw[<-X];exact(tw _ _ _ b6).trans (tq w _)
 have aw:Keep (λ_=>False) w O:=by rw[<-X];exact((Keep.refl _ _).alloc _).alloc _
 have aO:O.heap.size=w.heap.size+2:=by rw[<-X];simp
 have aE:I [] O:=hI _ _ _ h0 (aw.mono λ_ _ h=>h.elim);refine⟨w.heap.size+1,[{ target:=.collected w.heap.size,args:=#[] }],O,{ target:=.fn (.func gf) lb,args:=#[.func (.yield (w.heap.size+1)) #[] #[]] },O,gf,
  #[.func (.yield (w.heap.size+1)) #[] #[]]++lb,O,?_,?_,?_,?_,λ_=>a8,?_⟩
 .rw[<-X,j];exact run_enterLoop_outer _ _ _ _ _
 .simp only[resolve,hg];simp[go_sem]
 .intro f' _;trivial
 .simp[invoke,go_sem,eg]
 .refine(aM O aw aO (w.heap.size+1)
   (λpre W=>I pre W/\W.heap[w.heap.size+1]?=some (.loop (E .ready none))/\W.heap[w.heap.size]?=some (.deferred (some [])))
   (λpre W=>∃c,Ix c pre W/\W.heap[w.heap.size+1]?=some (.loop (E .done (some c)))/\W.heap[w.heap.size]?=some (.deferred (some [])))
   ?_ ?_ ?_ ⟨aE,aG,aF⟩).mono ?_
  .rintro pre A B ⟨hi,hl,hk⟩ h;exact⟨hI _ _ _ hi (h.mono λ_ _ e=>.inl e),h.obj hl ac.2,h.obj hk ac.1⟩
  .rintro pre A B ⟨c,hi,hl,hk⟩ h;exact⟨c,V _ _ _ _ hi (h.mono λ_ _ e=>.inl e),h.obj hl ac.2,h.obj hk ac.1⟩
  .rintro pre x W ⟨hi,hl,hk⟩ aC;have az:w.heap.size+1<W.heap.size:=(Yf.1 hl).1;have hy:=run_yield (P:=P) (args:=M x) hl (by rw[j];exact aN x);rw[j]at hy;refine⟨fn,_,assign,body,hy,roundIn_of_wpIn aL (wpIn_mono (Y _ pre x W aC az hi) ?_)⟩;intro e a1 Wa he;cases e with
   | normal=>
     obtain⟨am,aH⟩:=he;have an:Wa.heap[w.heap.size+1]?=some (.loop (E .ready none)):=(ab _ _ am _ (.inr rfl) az).trans hl;have aK:Wa.heap[w.heap.size]?=some (.deferred (some [])):=(ab _ _ am _ (.inl rfl) a8).trans hk;have ah:w.heap.size+1<Wa.heap.size:=(Yf.1 an).1;refine⟨_,run_beginRound an (by rw[j]),?_⟩;obtain⟨W2,ad⟩:=xn (Wa.putObj (w.heap.size+1) (.loop { E .ready none with state:=.busy }));rw[ad];have Z:Keep (λk=>k=w.heap.size+1) Wa W2:=(by rw[<-ad];exact(Keep.refl (λk=>k=w.heap.size+1) Wa).putObj (λ_=>rfl) _);have ax:W2.heap[w.heap.size+1]?=some (.loop { E .ready none with state:=.busy }):=(by rw[<-ad];exact Tp ah);have aI:W2.heap[w.heap.size]?=some (.deferred (some [])):=Z.obj aK a8;refine wpIn_mono (aj _ pre x a1 W2 aC (by rw[<-ad];simpa using ah) (aD _ _ _ _ _ aH Z)) ?_;have fin:∀(F:Option Code)(U:World),S W2 U->∃W4,
      (Instr.endRound (w.heap.size+1) F).run P U=.ok (.bool F.isNone) W4 /\
      W4.heap[w.heap.size+1]?=some (.loop (E (if F.isNone then .ready else .done) F)) /\
      W4.heap[w.heap.size]?=some (.deferred (some []))/\Keep (λk=>k=w.heap.size+1) U W4/\Pt W W4:=λF U u=>by
      have aA:w.heap.size+1<W2.heap.size:=(Yf.1 ax).1;have ae:=(ab _ _ u _ (.inr rfl) aA).trans ax;have aJ:=(ab _ _ u _ (.inl rfl) a8).trans aI;have G:=run_endRound (P:=P) F ae;rw[j]at G⊢;have ay:=ae;rw[j]at ay;refine⟨_,G,Tp (Yf.1 ae).1,(tQ a8).trans aJ,(Keep.refl (λk=>k=w.heap.size+1) U).putObj (λ_=>rfl) _,?_⟩;exact ai _ _ _ (au _ _ am) (ai _ _ _ (ag _ _ Z ⟨_,an⟩) (ai _ _ _ (au _ _ u) (ag _ _ ((Keep.refl (λk=>k=w.heap.size+1) U).putObj (λ_=>rfl) _) ⟨_,ae⟩)))
     rintro e a3 U hp;cases e with
     |normal=>obtain⟨u,J⟩:=hp;obtain⟨W4,G,L,H,K,N⟩:=fin none U u;exact⟨_,_,G,.inl ⟨rfl,⟨hI _ _ _ J (K.mono λ_ _ e=>.inr (.inr e)),L,H⟩,N⟩⟩
     |ret=>obtain⟨u,J⟩:=hp;obtain⟨W4,G,L,H,K,N⟩:=fin (some .ret) U u;exact⟨_,_,G,.inr ⟨rfl,.ret,V _ _ _ _ J (K.mono λ_ _ e=>.inr (.inr e)),L,H⟩⟩
     |exit id=>obtain⟨u,J⟩:=hp;obtain⟨W4,G,L,H,K,N⟩:=fin (some (.exit id)) U u;exact⟨_,_,G,.inr ⟨rfl,.exit id,V _ _ _ _ J (K.mono λ_ _ e=>.inr (.inr e)),L,H⟩⟩
     |goto t=>obtain⟨u,J⟩:=hp;obtain⟨W4,G,L,H,K,N⟩:=fin (some (.goto t)) U u;exact⟨_,_,G,.inr ⟨rfl,.goto t,V _ _ _ _ J (K.mono λ_ _ e=>.inr (.inr e)),L,H⟩⟩
     |panic ch=>exact hp.elim
     |outgrown=>exact hp.elim
   |ret=>exact he.elim
   |exit id=>exact he.elim
   |goto t=>exact he.elim
   |panic ch=>exact he.elim
   |outgrown=>exact he.elim
  .rintro e W2 ⟨⟨v,rfl⟩,(⟨pre,av,hi,hl,hk⟩|⟨pre,aB,c,hi,hl,hk⟩)⟩
   .have G:=T3 (P:=P) hl (by rw[j];simp);refine⟨none,_,by rw[j]at G;exact G,ak _ _ av (hI _ _ _ hi ((Keep.refl _ _).putObj (λ_=>.inr (.inr rfl)) _)) ((tQ a8).trans hk)⟩
   .have G:=T3 (P:=P) hl (by rw[j];simp);refine⟨some c,_,by rw[j]at G;exact G,ao c pre _ aB (V _ _ _ _ hi ((Keep.refl _ _).putObj (λ_=>.inr (.inr rfl)) _)) ((tQ a8).trans hk)⟩
def Xt{α:Type}{P:Program}{g:Operand}{ps:Array Tmp}{j H:Code}{Q:Exit->Act->World->Prop}{a:Act}{w:World}
 (X:Nat) (lb:Array Value) (hg:a.eval g=.func (.func X) #[] lb) (eg:∀G w,(callFunc X G).run P w=.ok (.enter X G) w)
 (u:α->Array Value) (ah:∀x,(u x).size=ps.size) (T:Nat->Prop) (K:World->World->Prop) (F:List α)
 (ag:∀W,Keep (λ_=>False) w W->W.heap.size=w.heap.size+2->v7 P X lb u T K F W)
 (S:World->World->Prop) (ad:∀A B,S A B->∀k,k=w.heap.size\/k=w.heap.size+1->k<A.heap.size->B.heap[k]?=A.heap[k]?) (ae:∀A B,S A B->K A B)
 (ac:∀A B C,K A B->K B C->K A C) (Y:∀A B,Keep (λk=>k=w.heap.size+1) A B->(∃o,A.heap[w.heap.size+1]?=some (.loop o))->K A B) (af:¬T w.heap.size/\¬T (w.heap.size+1))
 (I:List α->World->Prop) (V:Code->List α->World->Prop)
 (hI:∀pre A B,I pre A->Keep (λk=>T k\/k=w.heap.size\/k=w.heap.size+1) A B->I pre B)
 (ab:∀c pre A B,V c pre A->Keep (λk=>T k\/k=w.heap.size\/k=w.heap.size+1) A B->V c pre B)
 (h0:I [] w)
 (U:List α->α->Act->World->Prop)
 (Z:∀pre x L A B,U pre x L A->Keep (λk=>k=w.heap.size+1) A B->U pre x L B)
 (E:∀l pre x W,pre++[x] <+: F->w.heap.size+1<W.heap.size->I pre W ->
   j.wpIn (Fence.wide.inRound l) 7 P (Exit.then (λL W'=>S W W'/\U pre x L W') (λ_ _ _=>False)) { tmps:=(ps.zip (u x)).foldl (λt (p,v)=>t.setIfInBounds p v) a.tmps,defers:=[] } W)
 (M:∀l pre x L W,pre++[x] <+: F->w.heap.size+1<W.heap.size->U pre x L W->H.wpIn (Fence.wide.inRound l) 7 P (zgi S I V (pre++[x]) W) L W)
 (N:∀W,I F W->W.heap[w.heap.size]?=some (.deferred (some []))->Q .normal { a with defers:={ target:=.collected w.heap.size,args:=#[] }::a.defers } W)
 (O:∀c pre W,pre <+: F->V c pre W->W.heap[w.heap.size]?=some (.deferred (some []))->c.wpIn Fence.wide 9 P Q { a with defers:={ target:=.collected w.heap.size,args:=#[] }::a.defers } W) :
 (Code.rangeFunc g ps j H).wpIn Fence.wide 9 P Q a w:=
 zsS X lb hg eg u ah T K (λpre x=>pre++[x] <+: F) (·=F) (· <+: F) (λW h1 h2 l J Jx q1 q2 q3 q4=>(ag W h1 h2 l J Jx q1 q2 q3 q4).mono λ_ _ h=>⟨h.1,h.2.imp (λh=>⟨F,rfl,h⟩) id⟩) S ad ae ac Y af I V hI ab h0 U Z E M (λpre W e=>by subst e;exact N W) O
end
section
def zk:Nat:=18446744073709551616
def zw:zk=18446744073709551616:=rfl
def xM:0<zk:=by rw[zw];omega
structure Iv where
 lo:Nat
 hi:Nat
deriving DecidableEq
def Iv.ext'{s t:Iv}(j:s.lo=t.lo)(o:s.hi=t.hi):s=t:=by cases s;cases t;simp_all
def mem(l:List Iv)(x:Nat):Bool:=l.any λs=>decide (s.lo<=x) && decide (x<=s.hi)
@[simp] theorem Xf (x:Nat):mem [] x=false:=rfl
def mem_cons(s:Iv)(l:List Iv)(x:Nat):mem (s::l) x=((decide (s.lo<=x) && decide (x<=s.hi)) || mem l x):=rfl
def yd(l k:List Iv)(x:Nat):mem (l++k) x=(mem l x || mem k x):=by simp[mem,UI]
def qf{l:List Iv}{x:Nat}:mem l x=true↔∃s∈l,s.lo<=x/\x<=s.hi:=by simp[mem]
def NF:Nat->List Iv->Prop
 |_,[]=>True
 |n,s::l=>n<=s.lo/\s.lo<=s.hi/\s.hi<zk/\NF (s.hi+2) l
def Nrm(l:List Iv):Prop:=NF 0 l
def NF.mono{l:List Iv}{n m:Nat}(h:NF n l)(j:m<=n):NF m l:=by
 cases l with
 |nil=>trivial
 |cons s l=>exact⟨V0 j h.1,h.2.1,h.2.2.1,h.2.2.2⟩
def NF.tail{s:Iv}{l:List Iv}{n:Nat}(h:NF n (s::l)):NF n l:=h.2.2.2.mono (by have:=h.1;have:=h.2.1;omega)
def NF.lo_ge{l:List Iv}:∀{n:Nat},NF n l->∀s∈l,n<=s.lo/\s.lo<=s.hi/\s.hi<zk:=by
 induction l with
 |nil=>intro n _ s hs;cases hs
 | cons t l ih=>
   intro n h s hs;cases hs with
   |head=>exact⟨h.1,h.2.1,h.2.2.1⟩
   |tail _ hs=>have:=ih h.2.2.2 s hs;have:=h.1;have:=h.2.1;exact⟨a8,a8,a8⟩
def NF.mem_ge{l:List Iv}{n:Nat}(h:NF n l){x:Nat}(j:mem l x=true):n<=x/\x<zk:=by obtain⟨s,hs,o,u⟩:=qf.1 j;have:=h.lo_ge s hs;omega
def NF.mem_lt{l:List Iv}{n:Nat}(h:NF n l){x:Nat}(j:x<n):mem l x=false:=by
 cases e:mem l x with
 |false=>rfl
 |true=>have:=(h.mem_ge e).1;omega
def NF.unique:∀{a b:List Iv}{n:Nat},NF n a->NF n b->(∀x,mem a x=mem b x)->a=b
 |[],[],_,_,_,_=>rfl
 |[],s::l,_,_,hb,h=>by have:=h s.lo;have j:=hb.2.1;simp[mem_cons,j]at this
 |s::l,[],_,ha,_,h=>by have:=h s.lo;have j:=ha.2.1;simp[mem_cons,j]at this
 | s::l,t::k,n,ha,hb,h=>by
   have I:=ha.2.1;have J:=hb.2.1;have C:s.lo=t.lo:=by
    have j:=h s.lo;have H:=h t.lo;rw[mem_cons,mem_cons]at j H;have e1:mem l t.lo=true->s.hi+2<=t.lo:=λe=>(ha.2.2.2.mem_ge e).1;have e2:mem k s.lo=true->t.hi+2<=s.lo:=λe=>(hb.2.2.2.mem_ge e).1;cases c1:mem l t.lo<;>cases c2:mem k s.lo<;>simp_all<;>omega
   have B:s.hi=t.hi:=by
    rcases WN s.hi t.hi with L|A|K
    .exfalso;have j:=h (s.hi+1);have G:s.lo<=s.hi+1:=a8;have o:¬s.hi+1<=s.hi:=a8;have u:t.lo<=s.hi+1:=a8;have w:s.hi+1<=t.hi:=a8;rw[mem_cons,mem_cons,ha.2.2.2.mem_lt (show s.hi+1<s.hi+2 by omega)]at j;simp[o,u,w]at j
    .exact A
    .exfalso;have j:=h (t.hi+1);have G:t.lo<=t.hi+1:=a8;have o:¬t.hi+1<=t.hi:=a8;have u:s.lo<=t.hi+1:=a8;have w:t.hi+1<=s.hi:=a8;rw[mem_cons,mem_cons,hb.2.2.2.mem_lt (show t.hi+1<t.hi+2 by omega)]at j;simp[o,u,w]at j
   have E:s=t:=Iv.ext' C B;subst E;have:l=k:=NF.unique (n:=s.hi+2) ha.2.2.2 hb.2.2.2 λx=>by
    by_cases F:x<s.hi+2
    .rw[ha.2.2.2.mem_lt F,hb.2.2.2.mem_lt F]
    .have:=h x;rw[mem_cons,mem_cons]at this;have M:¬x<=s.hi:=a8;simpa[M]using this
   rw[this]
def Nrm.unique{a b:List Iv}(j:Nrm a)(hb:Nrm b)(h:∀x,x<zk->mem a x=mem b x):a=b:=
 NF.unique j hb λx=>by
  by_cases o:x<zk
  .exact h x o
  .have:∀{l},Nrm l->mem l x=false:=λ{l} hl=>by
    cases e:mem l x with
    |false=>rfl
    |true=>have:=(NF.mem_ge hl e).2;omega
   rw[this j,this hb]
def ye:List Iv->Nat->Option Nat
 |[],_=>none
 |s::l,x=>if x<s.lo then some s.lo else if s.hi+1<zk/\x<s.hi+1 then some (s.hi+1) else ye l x
def kv:Option Nat->Option Nat->Option Nat
 |none,b=>b
 |some x,none=>some x
 |some x,some y=>if y<x then some y else some x
def xr{l:List Iv}{x y:Nat}(h:ye l x=some y):x<y:=by
 induction l with
 |nil=>cases h
 | cons s l ih=>
   unfold ye at h;split at h
   .cases h;assumption
   .split at h
    .cases h;omega
    .exact ih h
def vJ{l:List Iv}{n x y:Nat}(j:NF n l)(h:ye l x=some y):y<zk:=by
 induction l generalizing n with
 |nil=>cases h
 | cons s l ih=>
   have o:=j.2.1;have u:=j.2.2.1;unfold ye at h;split at h
   .cases h;omega
   .split at h
    .cases h;omega
    .exact ih j.2.2.2 h
def xB{l:List Iv}{n x y z:Nat}(j:NF n l)(h:ye l x=some y)(C:x<=z)(A:z<y):mem l z=mem l x:=by
 induction l generalizing n with
 |nil=>cases h
 | cons s l ih=>
   have o:=j.2.1;unfold ye at h;split at h
   .rename_i hlt;cases h;rw[(j.2.2.2.mono (m:=s.lo) a8 |> λk:NF s.lo l=>(show NF s.lo (s::l) from ⟨Zp _,o,j.2.2.1,j.2.2.2⟩)).mem_lt A,
     (show NF s.lo (s::l) from ⟨Zp _,o,j.2.2.1,j.2.2.2⟩).mem_lt hlt]
   .split at h
    .rename_i hn hc;cases h;have e1:mem l z=false:=j.2.2.2.mem_lt a8;have e2:mem l x=false:=j.2.2.2.mem_lt a8;rw[mem_cons,mem_cons,e1,e2];have:(s.lo<=z)=True:=a9;have:(s.lo<=x)=True:=a9;have:(z<=s.hi)=True:=a9;have:(x<=s.hi)=True:=a9;simp[*]
    .rename_i hn hc;rw[mem_cons,mem_cons,ih j.2.2.2 h];have B:=j.2.2.1;by_cases E:s.hi+1<zk
     .have u:¬x<=s.hi:=a8;have w:¬z<=s.hi:=a8;simp[u,w]
     .exfalso;have:l=[]:=by
       cases l with
       |nil=>rfl
       |cons t l=>have:=j.2.2.2.1;have:=j.2.2.2.2.1;have:=j.2.2.2.2.2.1;omega
      subst this;cases h
def kx{l:List Iv}{n x z:Nat}(j:NF n l)(h:ye l x=none)(A:x<=z)(B:z<zk):mem l z=mem l x:=by
 induction l generalizing n with
 |nil=>rfl
 | cons s l ih=>
   have w:=j.2.2.1;unfold ye at h;split at h
   .cases h
   .split at h
    .cases h
    .rename_i hn hc;rw[mem_cons,mem_cons,ih j.2.2.2 h];by_cases C:s.hi+1<zk
     .have o:¬x<=s.hi:=a8;have u:¬z<=s.hi:=a8;simp[o,u]
     .have:(s.lo<=z)=True:=a9;have:(s.lo<=x)=True:=a9;have:(z<=s.hi)=True:=a9;have:(x<=s.hi)=True:=a9;simp[*]
def zdt{s:Iv}{l:List Iv}{x:Nat}(h:s.hi<x)(j:s.lo<=s.hi):ye (s::l) x=ye l x:=by
 conv=>lhs;unfold ye
 rw[Vq a8,Vq a8]
def QU(a b:List Iv):Nat->Nat->List (Iv×Bool×Bool)
 |0,_=>[]
 | f+1,x=>
   match kv (ye a x) (ye b x)with
   |none=>[(⟨x,zk-1⟩,mem a x,mem b x)]
   |some y=>(⟨x,y-1⟩,mem a x,mem b x)::QU a b f y
def yO(a b:List Iv):List (Iv×Bool×Bool):=QU a b zk 0
def Cov(a b:List Iv):Nat->List (Iv×Bool×Bool)->Prop
 |x,[]=>x=zk
 |x,(s,p,q)::r=>s.lo=x/\x<=s.hi/\s.hi<zk/\(∀z,x<=z->z<=s.hi->mem a z=p/\mem b z=q)/\Cov a b (s.hi+1) r
def zbl{a b:Option Nat}(h:kv a b=none):a=none/\b=none:=by
 cases a<;>cases b<;>simp[kv]at h⊢;split at h<;>cases h
def zf0{a b:List Iv}(o:Nrm a)(hb:Nrm b):∀(f x:Nat),x<zk->zk<=f+x->Cov a b x (QU a b f x):=by
 intro f;induction f with
 |zero=>intro x A B;omega
 | succ f ih=>
   intro x A B;unfold QU;cases hm:kv (ye a x) (ye b x)with
   | none=>
     obtain⟨E,F⟩:=zbl hm;refine⟨rfl,?_,?_,?_,?_⟩
     .show x<=zk-1;omega
     .show zk-1<zk;omega
     .intro z j z2;have w:z<zk:=(by have:z<=zk-1:=z2;omega);exact⟨kx o E j w,kx hb F j w⟩
     .show zk-1+1=zk;omega
   | some y=>
     have C:x<y/\y<zk/\∀z,x<=z->z<y->mem a z=mem a x/\mem b z=mem b x:=by
      cases ea:ye a x with
      |none=>rw[ea]at hm;have eb:ye b x=some y:=hm;refine⟨xr eb,vJ hb eb,λz j z2=>⟨kx o ea j (by have:=vJ hb eb;omega),xB hb eb j z2⟩⟩
      | some u=>
        cases eb:ye b x with
        |none=>rw[ea,eb]at hm;simp only[kv]at hm;cases hm;exact⟨xr ea,vJ o ea,λz j z2=>⟨xB o ea j z2,kx hb eb j (by have:=vJ o ea;omega)⟩⟩
        | some v=>
          rw[ea,eb]at hm;simp only[kv]at hm;split at hm
          .cases hm;exact⟨xr eb,vJ hb eb,λz j z2=>⟨xB o ea j a8,xB hb eb j z2⟩⟩
          .cases hm;exact⟨xr ea,vJ o ea,λz j z2=>⟨xB o ea j z2,xB hb eb j a8⟩⟩
     obtain⟨I,G,H⟩:=C;refine⟨rfl,?_,?_,?_,?_⟩
     .show x<=y-1;omega
     .show y-1<zk;omega
     .intro z j z2;have:z<=y-1:=z2;exact H z j a8
     .show Cov a b (y-1+1) _;rw[show y-1+1=y from by omega];exact ih y G a8
def j4{a b:List Iv}(j:Nrm a)(hb:Nrm b):Cov a b 0 (yO a b):=zf0 j hb zk 0 xM a8
def Q8(j:List Iv)(s:Iv):List Iv:=
 match j.getLast? with
 |none=>[s]
 |some t=>if t.hi+1=s.lo then j.dropLast++[⟨t.lo,s.hi⟩] else j++[s]
def qg(f:Q9)(j:List Iv):List (Iv×Bool×Bool)->List Iv
 |[]=>j
 |(s,p,q)::r=>qg f (if f p q then Q8 j s else j) r
def qy(f:Q9)(a b:List Iv):List Iv:=qg f [] (yO a b)
def yf(f:Q9)(j:List Iv)(o u:List (Iv×Bool×Bool)):qg f j (o++u)=qg f (qg f j o) u:=by
 induction o generalizing j with
 |nil=>rfl
 |cons x o ih=>obtain⟨s,p,q⟩:=x;simp only[yb,qg];exact ih _
def NF.snoc{l:List Iv}{s:Iv}{n:Nat}(h:NF n l)(j:∀t∈l,t.hi+2<=s.lo)(A:n<=s.lo)(o:s.lo<=s.hi)(w:s.hi<zk):NF n (l++[s]):=by
 induction l generalizing n with
 |nil=>exact⟨A,o,w,trivial⟩
 |cons t l ih=>exact⟨h.1,h.2.1,h.2.2.1,ih h.2.2.2 (λu B=>j u (by simp[B])) (j t b6)⟩
def NF.last_lt{l:List Iv}{t:Iv}:∀{n:Nat},NF n (l++[t])->∀u∈l,u.hi+2<=t.lo:=by
 induction l with
 |nil=>intro n _ u j;cases j
 | cons s l ih=>
   intro n h u j;cases j with
   |head=>exact(h.2.2.2.lo_ge t b6).1
   |tail _ j=>exact ih h.2.2.2 u j
def NF.init{l:List Iv}{t:Iv}:∀{n:Nat},NF n (l++[t])->NF n l:=by
 induction l with
 |nil=>intro n _;trivial
 |cons s l ih=>intro n h;exact⟨h.1,h.2.1,h.2.2.1,ih h.2.2.2⟩
def Xm{o:List Iv}{s:Iv}(h:Nrm o)(hs:∀t∈o,t.hi<s.lo)(A:s.lo<=s.hi)(w:s.hi<zk):
 Nrm (Q8 o s)/\(∀x,mem (Q8 o s) x=(mem o x || (decide (s.lo<=x) && decide (x<=s.hi))))/\∀t∈Q8 o s,t.hi<=s.hi:=by
 rcases Uw o with rfl|⟨l,t,rfl⟩
 .refine⟨⟨X3 _,A,w,trivial⟩,λx=>by simp[Q8,mem_cons],λt ht=>?_⟩;simp[Q8]at ht;subst ht;exact Zp _
 .simp only[Ux]at *;have ht:=NF.lo_ge h t b6;have B:=hs t b6;unfold Q8;simp only[uZ,tc];by_cases e:t.hi+1=s.lo
  .rw[Vm e];refine⟨NF.snoc (NF.init h) (λu j=>by have:=NF.last_lt h u j;show u.hi+2<=t.lo;omega) (X3 _) (by show t.lo<=s.hi;omega) w,λx=>?_,λu j=>?_⟩
   .rw[yd,yd,mem_cons,mem_cons,UF];congr 1;simp only[Xf,Bool.or_false];rw[WD];simp;omega
   .simp at j;rcases j with j|rfl
    .have:=NF.last_lt h u j;omega
    .exact Zp _
  .rw[Vq e];refine⟨NF.snoc h (λu j=>?_) (X3 _) A w,λx=>by rw[yd,mem_cons];simp,λu j=>?_⟩
   .simp at j;rcases j with j|rfl
    .have:=NF.last_lt h u j;omega
    .omega
   .simp at j;rcases j with j|rfl|rfl
    .have:=NF.last_lt h u j;omega
    .omega
    .exact Zp _
def Zt{f:Q9}{a b:List Iv}:∀(o:List (Iv×Bool×Bool))(x:Nat)(j:List Iv),Cov a b x o->Nrm j->(∀t∈j,t.hi<x) ->
 Nrm (qg f j o)/\∀z,z<zk->mem (qg f j o) z=if z<x then mem j z else f (mem a z) (mem b z):=by
 intro o;induction o with
 |nil=>intro x j A h _;refine⟨h,λz hz=>?_⟩;have:x=zk:=A;rw[Vm a8];rfl
 | cons y o ih=>
   intro x j A h C;obtain⟨s,p,q⟩:=y;obtain⟨K,Q,L,w,H⟩:=A;have E:∀t∈j,t.hi<s.lo:=(by rw[K];exact C);have B:∀z,x<=z->mem j z=false:=λz hz=>by
    cases e:mem j z with
    |false=>rfl
    |true=>obtain⟨t,ht,_,M⟩:=qf.1 e;have:=C t ht;omega
   simp only[qg];by_cases e:f p q=true
   .rw[Vm e];obtain⟨N,O,P⟩:=Xm h E a8 L;obtain⟨F,G⟩:=ih (s.hi+1) _ H N (λt ht=>by have:=P t ht;omega);refine⟨F,λz hz=>?_⟩;rw[G z hz,O z];by_cases u:z<x
    .rw[Vm a8,Vm u];have:¬s.lo<=z:=a8;simp[this]
    .rw[Vq u];by_cases z2:z<s.hi+1
     .rw[Vm z2,(w z a8 a8).1,(w z a8 a8).2,e];have I:s.lo<=z:=a8;have J:z<=s.hi:=a8;simp[I,J]
     .rw[Vq z2]
   .rw[Vq e];obtain⟨F,G⟩:=ih (s.hi+1) _ H h (λt ht=>by have:=C t ht;omega);refine⟨F,λz hz=>?_⟩;rw[G z hz];by_cases u:z<x
    .rw[Vm a8,Vm u]
    .rw[Vq u];by_cases z2:z<s.hi+1
     .rw[Vm z2,(w z a8 a8).1,(w z a8 a8).2];rw[B z a8];simpa using e
     .rw[Vq z2]
def qH{f:Q9}{a b:List Iv}(j:Nrm a)(hb:Nrm b):Nrm (qy f a b):=(Zt (f:=f) _ 0 [] (j4 j hb) trivial (λ_ h=>by cases h)).1
def qj{f:Q9}{a b:List Iv}(j:Nrm a)(hb:Nrm b){x:Nat}(o:x<zk):mem (qy f a b) x=f (mem a x) (mem b x):=by
 have:=(Zt (f:=f) _ 0 [] (j4 j hb) trivial (λ_ h=>by cases h)).2 x o
 rwa[Vq a8]at this
def vK{f:Q9}{a b c:List Iv}(j:Nrm a)(hb:Nrm b)(u:Nrm c)(h:∀x,x<zk->mem c x=f (mem a x) (mem b x)):qy f a b=c:=
 Nrm.unique (qH j hb) u λx o=>by rw[qj j hb o,h x o]
end
section
open Go.RowKit
def RdSl{α:Type}(sz:Nat)(rd:World->Nat->Nat->α->Prop)(lo hi:Nat)(w:World)(v:Value)(l:List α):Prop:=
 ∃a j,v=.slice a l.length j/\l.length<=j/\j<=maxLen/\(l≠[]->∃b o,a=some ⟨b,o,none⟩/\lo<=b/\b<hi/\∀i (h:i<l.length),rd w b (o+i*sz) l[i])
def RdSl.keep{α:Type}{sz:Nat}{rd A:World->Nat->Nat->α->Prop}{lo hi u j:Nat}{w w':World}{v:Value}{l:List α}(h:RdSl sz rd lo hi w v l)
 (P:u<=lo) (O:hi<=j) (M:∀b o x,lo<=b->b<hi->rd w b o x->A w' b o x):RdSl sz A u j w' v l:=by
 obtain⟨a,B,N,H,I,J⟩:=h;refine⟨a,B,N,H,I,λF=>?_⟩;obtain⟨b,G,K,C,E,L⟩:=J F;exact⟨b,G,K,a8,a8,λi hi=>M _ _ _ C E (L i hi)⟩
def RdSl.nil{α:Type}{sz:Nat}{rd:World->Nat->Nat->α->Prop}{lo hi:Nat}{w:World}(a:Option Addr)(j:Nat)(h:j<=maxLen):RdSl sz rd lo hi w (.slice a 0 j) []:=
 ⟨a,j,rfl,X3 _,h,λh=>absurd rfl h⟩
def RdSl.len{α:Type}{sz:Nat}{rd:World->Nat->Nat->α->Prop}{lo hi:Nat}{w:World}{v:Value}{l:List α}(h:RdSl sz rd lo hi w v l):l.length<=maxLen:=by obtain⟨a,j,B,o,u,A⟩:=h;omega
def rdIv(w:World)(b o:Nat)(s:Iv):Prop:=
 w.cell? ⟨b,o,none⟩=some (.int .u64 s.lo)/\w.cell? ⟨b,o+1,none⟩=some (.int .u64 s.hi)/\s.lo<zk/\s.hi<zk
def rdIv.keep{w w':World}{b o:Nat}{s:Iv}(h:rdIv w b o s)(hb:w'.heap[b]?=w.heap[b]?):rdIv w' b o s:=
 ⟨(tp (a:=⟨b,o,none⟩) hb).trans h.1,(tp (a:=⟨b,o+1,none⟩) hb).trans h.2.1,h.2.2⟩
def RdR(lo hi:Nat)(w:World)(v:Value)(l:List Iv):Prop:=RdSl 2 rdIv lo hi w v l
def RdR.keep{lo hi o j:Nat}{w w':World}{v:Value}{l:List Iv}(h:RdR lo hi w v l)(C:o<=lo)(B:hi<=j)(hb:∀b,lo<=b->b<hi->w'.heap[b]?=w.heap[b]?):RdR o j w' v l:=
 RdSl.keep h C B λb _ _ u A E=>E.keep (hb b u A)
def RdR.below{hi n:Nat}{w j:World}{v:Value}{l:List Iv}(h:RdR 0 hi w v l)(hb:Below n w j)(u:hi<=n):RdR 0 hi j v l:=
 h.keep (Zp _) (Zp _) λb _ o=>hb.block b a8
def RdR.bound{lo hi:Nat}{w:World}{v:Value}{l:List Iv}(h:RdR lo hi w v l):∀s∈l,s.lo<zk/\s.hi<zk:=by obtain⟨a,j,E,B,C,o⟩:=h;intro s hs;obtain⟨i,hi,rfl⟩:=Wp hs;obtain⟨b,A,_,_,_,u⟩:=o (by intro e;subst e;simp at hi);exact(u i hi).2.2
def xw(l:List Iv):List Value:=l.flatMap λs=>[.int .u64 s.lo,.int .u64 s.hi]
def y6(l:List Iv):(xw l).length=l.length*2:=by
 induction l with
 |nil=>rfl
 |cons s l ih=>simp[xw]at ih⊢;omega
def vy(l k:List Iv):xw (l++k)=xw l++xw k:=by simp[xw]
def vz(l:List Iv):∀(i:Nat)(h:i<l.length),(xw l)[i*2]?=some (.int .u64 l[i].lo)/\(xw l)[i*2+1]?=some (.int .u64 l[i].hi):=by
 induction l with
 |nil=>intro i h;simp at h
 | cons s l ih=>
   intro i h;cases i with
   |zero=>simp[xw]
   |succ i=>have:=ih i (dK h);have e:xw (s::l)=.int .u64 s.lo::.int .u64 s.hi::xw l:=rfl;rw[e,show (i+1)*2=i*2+1+1 from by omega];simpa using this
def OwnR(base:Nat)(w:World)(v:Value)(l:List Iv):Prop:=w.ownsRow base 61 2 v l.length (xw l)/\∀s∈l,s.lo<zk/\s.hi<zk
def OwnR.rd{base:Nat}{w:World}{v:Value}{l:List Iv}(h:OwnR base w v l):RdR base w.heap.size w v l:=by
 obtain⟨⟨H,C⟩,hb⟩:=h;rcases C with⟨rfl,B⟩|⟨g,j,A,rfl,F,u,G,E,hs,ht⟩
 .obtain rfl:l=[]:=wJ B;exact RdSl.nil _ _ b8
 .refine⟨_,j,rfl,G,E,λ_=>⟨g,0,rfl,F,(Yf.1 u).1,λi hi=>?_⟩⟩;have o:=vz l i hi;rw[<-ht,wt,wt,Vm a8,Vm a8]at o;refine⟨?_,?_,hb _ (XE hi)⟩
  .simp only[World.cell?,u];simpa using o.1
  .simp only[World.cell?,u];simpa using o.2
def OwnR.nil(base:Nat)(w:World):OwnR base w (.slice none 0 0) []:=⟨tV _ _ _ _,λ_ h=>by cases h⟩
def OwnR.val{base:Nat}{w:World}{v:Value}{l:List Iv}(h:OwnR base w v l):∃a j,v=.slice a l.length j:=by obtain⟨a,j,e,_⟩:=h.rd;exact⟨a,j,e⟩
def OwnR.below{base n:Nat}{w j:World}{v:Value}{l:List Iv}(h:OwnR base w v l)(hb:Below n w j)(o:w.heap.size<=n):OwnR base j v l:=
 ⟨(Keep.of_below' (S:=λ_=>False) hb o).ownsRow h.1 λ_ _=>id,h.2⟩
def OwnR.keep{base:Nat}{S:Nat->Prop}{w w':World}{v:Value}{l:List Iv}(h:OwnR base w v l)(hb:Keep S w w')(hs:∀g,base<=g->¬S g):OwnR base w' v l:=
 ⟨hb.ownsRow h.1 λg j=>hs g ((h.1.lt g j).1),h.2⟩
def OwnR.mono{base j:Nat}{w:World}{v:Value}{l:List Iv}(h:OwnR base w v l)(hb:j<=base):OwnR j w v l:=by
 refine⟨⟨h.1.1,?_⟩,h.2⟩;rcases h.1.2 with A|⟨g,o,u,B,C,r⟩
 .exact .inl A
 .exact .inr ⟨g,o,u,B,a8,r⟩
def qO{W C:World}{H B:Nat}{t e:TypeId}{size:Nat}{v A:Value}{k m:Nat}{L J:List Value}{F:Obj}
 (I:Boxed W B t v) (G:t≠e) (w:W.ownsRow H e size v k L) (u:C.ownsRow H e size A m J) (o:(W.alloc F).grownBy C v.ownBlock) :
 Boxed C B t v/\Boxed (C.setCell ⟨B,0,none⟩ A) B t A/\(C.setCell ⟨B,0,none⟩ A).ownsRow H e size A m J/\Keep (λk=>k=B\/H<=k) W (C.setCell ⟨B,0,none⟩ A):=by
 have E:Boxed C B t v:=(I.alloc F).kept o (I.not_row G w);refine⟨E,E.set A,u.kept (grownBy_setCell' C B A) (.inr (E.not_row G u).symm),?_⟩;refine Keep.setCell (p:=⟨B,0,none⟩) ?_ (λ_=>.inl rfl) _;exact((Keep.refl _ W).alloc F).grown o λj K _=>.inr ((w.lt j K).1)
def kw{w:World}{B:Nat}{cs:Array Value}{t:TypeId}{fr:Nat×Nat}(hb:w.heap[B]?=some (.cells cs t fr)):∀j u,cs.toList[j]?=some u->w.cell? ((⟨B,0,none⟩:Addr).add j)=some u:=λj u A=>by
 have o:(⟨B,0,none⟩:Addr).add j=⟨B,j,none⟩:=by unfold Addr.add;split<;>simp_all
 rw[o];simp only[World.cell?,hb];simpa using A
def OwnR.snoc{base:Nat}{w o:World}{v j:Value}{l:List Iv}{s:Iv}(h:OwnR base w v l)(hs:s.lo<zk/\s.hi<zk)
 (ho:o.ownsRow base 61 2 j (l.length+1) (xw l++[.int .u64 s.lo,.int .u64 s.hi])):OwnR base o j (l++[s]):=by
 refine⟨?_,λt ht=>?_⟩
 .rw[vy,wi];exact ho
 .simp at ht;rcases ht with ht|rfl
  .exact h.2 t ht
  .exact hs
def Tryz.infoIv:(xt.info? 61).map (λi=>(i.zero,i.size,i.bytes))=some (some (Value.agg #[.int .u64 0,.int .u64 0]),2,16):=dL
def ZR{x:Nat}(h:x<zk):IntKind.u64.wrap (x:Int)=x:=by
 rw[zw]at h;simp[IntKind.wrap,IntKind.bits,IntKind.signed]<;>omega
def zeB:IntKind.u64.wrap (((zk-1:Nat):Int)+1)=0:=b8
def Jc{x y:Nat}(h:y<=x)(j:x<zk):IntKind.u64.wrap ((x:Int)-y)=((x-y:Nat):Int):=by rw[show ((x:Int)-y)=((x-y:Nat):Int) from by omega];exact ZR a8
def Zj{x:Nat}(h:1<=x)(j:x<zk):IntKind.u64.wrap ((x:Int)-1)=((x-1:Nat):Int):=Jc (y:=1) h j
def zbV{x:Nat}(j:x+1<zk):IntKind.u64.wrap ((x:Int)+1)=(x:Int)+1:=by
 have:=ZR (x:=x+1) j;push_cast at this;exact this
def kO(x:Nat)(w:World)(h:x+1<zk):Calls xt 36 #[.int .u64 x] w λe j=>e=.returned (.tuple #[.int .u64 ((x:Int)+1),.bool true])/\w=j:=by
 have o:=zbV h;have u:((x:Int)+1 != 0)=true:=a9
 go_enter func36,ntmps36
 go_wp2;go_ret2;exact⟨rfl,rfl⟩
def V9(w:World):Calls xt 36 #[.int .u64 ((zk-1:Nat):Int)] w λe j=>e=.returned (.tuple #[.int .u64 0,.bool false])/\w=j:=by
 have o:=zeB;generalize ((zk-1:Nat):Int)=m at *;go_enter func36,ntmps36
 go_wp2;go_ret2;exact⟨rfl,rfl⟩
def ya(a b:Nat)(w:World)(h:b<=a):Calls xt 117 #[.int .u64 a,.int .u64 b] w λe j=>e=.returned (.tuple #[.int .u64 0,.bool false])/\w=j:=by
 go_enter func117,ntmps117
 go_wp2;go_ret2;exact⟨rfl,rfl⟩
def yX(a b:Nat)(w:World)(h:a<b)(hb:b<zk):Calls xt 117 #[.int .u64 a,.int .u64 b] w λe u=>e=.returned (.tuple #[.int .u64 ((b-a-1:Nat):Int),.bool true])/\w=u:=by
 have A:=Jc (x:=b) (y:=a) a8 hb;have j:=Zj (x:=b-a) a8 a8;generalize b-a=d at *;have o:=qL j;clear j;go_enter func117,ntmps117
 go_wp2;rw[o.o];go_ret2;exact⟨rfl,rfl⟩
def relate(s t:Iv):Nat:=if s.hi<t.lo then (if s.hi+1=t.lo then 1 else 0) else if t.hi<s.lo then (if t.hi+1=s.lo then 3 else 4) else 2
def QF(s t:Iv)(w:World)(hs:s.lo<=s.hi)(ht:t.lo<=t.hi)(G:s.hi<zk)(I:t.hi<zk):
 Calls xt 82 #[.agg #[.int .u64 s.lo,.int .u64 s.hi],.agg #[.int .u64 t.lo,.int .u64 t.hi]] w λe u=>e=.returned (.int .i64 (relate s t))/\Below w.heap.size w u:=by
 have H:∀n:Nat,relate s t=n->qA (relate s t=n):=λ_ h=>h;by_cases C:s.hi<t.lo
 .by_cases B:s.hi+1=t.lo
  .have j:=qL B;clear B;have R:=H 1 (by unfold relate;rw[Vm C,Vm j.o]);have A:=qL (show t.lo-s.hi-1=0 by have:=j.o;omega);clear H;go_enter func82,ntmps82
   go_wp2_with (first|(go_at_call 117;with_reducible refine(yX s.hi t.lo _ a8 a8).mono ?_;rw[A.o];rintro e u ⟨rfl,rfl⟩)|(go_at_call 117;with_reducible refine(ya t.hi s.lo _ a8).mono ?_;rintro e u ⟨rfl,rfl⟩))
   go_ret;rw[R.o];exact⟨rfl,((tv _ _).alloc (Zp _) _).alloc b6 _⟩
  .have R:=H 0 (by unfold relate;rw[Vm C,Vq B]);obtain⟨g,o⟩:=xn (t.lo-s.hi-1);have F:0<g:=a8;have A:=qL o;clear o;clear H;go_enter func82,ntmps82
   go_wp2_with (first|(go_at_call 117;with_reducible refine(yX s.hi t.lo _ a8 a8).mono ?_;rw[A.o];rintro e u ⟨rfl,rfl⟩)|(go_at_call 117;with_reducible refine(ya t.hi s.lo _ a8).mono ?_;rintro e u ⟨rfl,rfl⟩))
   go_ret;rw[R.o];exact⟨rfl,((tv _ _).alloc (Zp _) _).alloc b6 _⟩
 .by_cases E:t.hi<s.lo
  .by_cases B:t.hi+1=s.lo
   .have j:=qL B;clear B;have R:=H 3 (by unfold relate;rw[Vq C,Vm E,Vm j.o]);have A:=qL (show s.lo-t.hi-1=0 by have:=j.o;omega);clear H;go_enter func82,ntmps82
    go_wp2_with (first|(go_at_call 117;with_reducible refine(ya s.hi t.lo _ a8).mono ?_;rintro e u ⟨rfl,rfl⟩)|(go_at_call 117;with_reducible refine(yX t.hi s.lo _ a8 a8).mono ?_;rw[A.o];rintro e u ⟨rfl,rfl⟩))
    go_ret;rw[R.o];exact⟨rfl,((tv _ _).alloc (Zp _) _).alloc b6 _⟩
   .have R:=H 4 (by unfold relate;rw[Vq C,Vm E,Vq B]);obtain⟨g,o⟩:=xn (s.lo-t.hi-1);have F:0<g:=a8;have A:=qL o;clear o;clear H;go_enter func82,ntmps82
    go_wp2_with (first|(go_at_call 117;with_reducible refine(ya s.hi t.lo _ a8).mono ?_;rintro e u ⟨rfl,rfl⟩)|(go_at_call 117;with_reducible refine(yX t.hi s.lo _ a8 a8).mono ?_;rw[A.o];rintro e u ⟨rfl,rfl⟩))
    go_ret;rw[R.o];exact⟨rfl,((tv _ _).alloc (Zp _) _).alloc b6 _⟩
  .have R:=H 2 (by unfold relate;rw[Vq C,Vq E]);clear H;go_enter func82,ntmps82
   go_wp2_with (first|(go_at_call 117;with_reducible refine(ya s.hi t.lo _ a8).mono ?_;rintro e u ⟨rfl,rfl⟩)|(go_at_call 117;with_reducible refine(ya t.hi s.lo _ a8).mono ?_;rintro e u ⟨rfl,rfl⟩))
   go_ret;rw[R.o];exact⟨rfl,((tv _ _).alloc (Zp _) _).alloc b6 _⟩
attribute [local go_sem] Oper.semAt_some
def zk0:Option Nat->Value
 |some y=>.tuple #[.int .u64 (y:Int),.bool true]
 |none=>.tuple #[.int .u64 0,.bool false]
def zdu{l:List Iv}{k x:Nat}(h:k<l.length):ye (l.drop k) x=if x<l[k].lo then some l[k].lo else if l[k].hi+1<zk/\x<l[k].hi+1 then some (l[k].hi+1) else ye (l.drop (k+1)) x:=by rw[vD h];rfl
def zdq(l:List Iv)(v:Value)(x:Nat)(w:World)(T:RdR 0 w.heap.size w v l):
 Calls xt 170 #[v,.int .u64 x] w λe I=>e=.returned (zk0 (ye l x))/\Below w.heap.size w I:=by
 obtain⟨a,P,rfl,U,L,O⟩:=T;unfold maxLen at L;go_enter func170,ntmps170
 go_wp2_with fail
 go_loopw [12] (λi wr=>∃k:Nat,k<=l.length/\i=.int .i64 k/\qA (ye l x=ye (l.drop k) x)/\Below w.heap.size w wr) (λi _=>l.length-(intOf i).toNat)
 case atStart=>exact⟨0,X3 _,rfl,rfl,tv _ _⟩
 case round=>
  obtain⟨k,hk,rfl,o,B⟩:=hrel;by_cases C:k<l.length
  .obtain⟨b,G,rfl,_,hb,j⟩:=O (by intro e;subst e;simp at C);obtain⟨J,K,Q,S⟩:=j k C;have hs:=zdu (x:=x) C;obtain⟨lo,F⟩:=xm (l[k].lo);obtain⟨hi,E⟩:=xm (l[k].hi);rw[<-F]at J Q hs;rw[<-E]at K S hs;clear F E j O;have X:wr.cell? ⟨b,G+k*2,none⟩=some (.int .u64 lo):=(B.cell (p:=⟨b,_,none⟩) hb).trans J;have Y:wr.cell? ⟨b,G+k*2+1,none⟩=some (.int .u64 hi):=(B.cell (p:=⟨b,_,none⟩) hb).trans K;clear J K;have A:=B.size;by_cases H:x<lo
   .have u:qA (ye l x=some lo):=(by rw[o.o,hs,Vm H];rfl);clear hs o
    go_wp2;go_ret2;rw[u.o];exact⟨rfl,B.alloc A _⟩
   .by_cases N:hi+1<zk
    .by_cases V:x<hi+1
     .have u:qA (ye l x=some (hi+1)):=(by rw[o.o,hs,Vq H,Vm ⟨N,V⟩];rfl);clear hs o
      go_wp2_with (go_at_call 36;with_reducible refine(kO _ _ N).mono ?_;rintro e I ⟨rfl,rfl⟩)
      go_ret2
      rw[u.o];exact⟨by simp[zk0],B.alloc A _⟩
     .have u:qA (ye l x=ye (l.drop (k+1)) x):=(by rw[o.o,hs,Vq H,Vq a8];rfl);clear hs o
      go_wp2_with (go_at_call 36;with_reducible refine(kO _ _ N).mono ?_;rintro e I ⟨rfl,rfl⟩)
      go_roundw
      case rel=>exact⟨k+1,a8,by go_num,u,B.alloc A _⟩
      case measure=>simp[intOf];omega
    .have u:qA (ye l x=ye (l.drop (k+1)) x):=(by rw[o.o,hs,Vq H,Vq a8];rfl);clear hs o;obtain rfl:hi=zk-1:=a8
     go_wp2_with (go_at_call 36;with_reducible refine(V9 _).mono ?_;rintro e I ⟨rfl,rfl⟩)
     go_roundw
     case rel=>exact⟨k+1,a8,by go_num,u,B.alloc A _⟩
     case measure=>simp[intOf];omega
  .have M:k=l.length:=a8;have u:qA (ye l x=none):=(by rw[o.o,M,uO];rfl);clear o
   go_wp2;go_ret2;rw[u.o];exact⟨rfl,B⟩
def Vs(l:List Iv)(v:Value)(x:Nat)(w:World)(o:RdR 0 w.heap.size w v l):
 Calls xt 170 #[v,.int .u64 x] w λe j=>∃(n:Nat) (m:Bool),e=.returned (.tuple #[.int .u64 n,.bool m])/\qA (ye l x=if m=true then some n else none)/\Below w.heap.size w j:=
 (zdq l v x w o).mono λe j ⟨he,hb⟩=>by
   cases h:ye l x with
   |none=>exact⟨0,false,by rw[he,h];rfl,rfl,hb⟩
   |some y=>exact⟨y,true,by rw[he,h];rfl,rfl,hb⟩
def Kq(p q:Bool)(w:World):Calls xt 148 #[.agg #[.bool p,.bool q]] w λe j=>e=.returned (.bool (p || q))/\Below w.heap.size w j:=by
 cases p<;>cases q <;>
  (go_enter func148,ntmps148
   go_wp2;go_ret;exact⟨rfl,(tv _ _).alloc (Zp _) _⟩)
def zbP(p q:Bool)(w:World):Calls xt 102 #[.agg #[.bool p,.bool q]] w λe j=>e=.returned (.bool (p && q))/\Below w.heap.size w j:=by
 cases p<;>cases q <;>
  (go_enter func102,ntmps102
   go_wp2;go_ret;exact⟨rfl,(tv _ _).alloc (Zp _) _⟩)
def Kp(p q:Bool)(w:World):Calls xt 208 #[.agg #[.bool p,.bool q]] w λe j=>e=.returned (.bool (p && !q))/\Below w.heap.size w j:=by
 cases p<;>cases q <;>
  (go_enter func208,ntmps208
   go_wp2;go_ret;exact⟨rfl,(tv _ _).alloc (Zp _) _⟩)
def Xi(j o:Option Addr)(B C u A:Nat)(w:World):Calls xt 139 #[.slice j B u,.slice o C A] w λe E=>
 e=.returned (.func (.func 169) #[] #[.pointer (some ⟨w.heap.size,0,none⟩),.pointer (some ⟨w.heap.size+1,0,none⟩)]) /\
  E=(w.alloc (.cells #[.slice j B u] 24)).alloc (.cells #[.slice o C A] 24):=by
 go_enter func139,ntmps139
 go_wp2;go_ret;exact⟨rfl,rfl⟩
end
end Go.Proofs.YtmpnbdhadjfbhaaGreatDoor
