import Derived.BigQuiet
import Derived.Deep.QuietTactic
import Derived.Test.YtmpnbdhadjfbhaaGreatDoorB8
set_option maxHeartbeats 16000000
set_option linter.all false
set_option maxRecDepth 100000
namespace Go.Proofs.YtmpnbdhadjfbhaaGreatDoor
open Go.Proofs.Tryz
section
open Go.RowKit
variable {P:Program}
def qQ:Nat->List PV->List (Nat×PV)
 |_,[]=>[]
 |k,p::ps=>(k,p)::qQ (k+1) ps
def Qe:∀(j:List PV)(k i:Nat),yr (qQ k j) i=if k<=i then j.getD (i-k) .und else .und
 |[],k,i=>by simp[qQ,yr]
 | p::j,k,i=>by
   simp only[qQ,yr];by_cases h:k=i
   .subst h;simp
   .rw[Vq h,Qe j (k+1) i];by_cases o:k+1<=i
    .rw[vD o,vD a8];obtain⟨d,u⟩:∃d,i-k=d+1:=⟨i-k-1,a8⟩;rw[u,show i-(k+1)=d from by omega];rfl
    .rw[Vq o,Vq a8]
def PV.resD:PV->Bool
 |.agg cs=>zY cs
 |p=>p.isD
def zgB:List Value->Value
 |[u]=>u
 |us=>.tuple us.toArray
inductive RV where
 |t (i:Nat)
 |c (i:Nat) (ag:Bool) (n:Nat)
def RV.get(s:PS):RV->Option PV
 |.t i=>some (s.get i)
 | .c i ag n=>match s.get i with
   | .bx j o=>match s.b[j]? with
     | some u=>match ag with
       |true=>if o+n<=u.length then some (.agg ((u.drop o).take n)) else none
       |false=>u[o]?
     |none=>none
   |_=>none
def YJ(s:PS):List RV->Option (List PV)
 |[]=>some []
 |r::l=>(r.get s).bind λp=>(YJ s l).map λj=>p::j
def jC(j:List RV)(s:PS)(r:PV):Prop:=match j with
 |[.t t]=>SubP 0 (s.get t) r
 | [x]=>match x.get s with
   |some p=>p.resD=true/\SubP 0 p.sh r/\r.own=none
   |none=>False
 | j=>match YJ s j with
   |some o=>o.all PV.resD=true/\SubP 0 (.tup (o.map PV.sh)) r
   |none=>False
def jG(j:List RV)(r:PV):PX->PS->Prop
 |.x _,_=>False
 |_,s=>jC j s r
def XU(P:Program):ResultVar->Option RV
 |.tmp t=>some (.t t)
 |.cell a t=>(XH P t).bind fun(ag,n)=>if ag || n == 1 then some (.c a ag n) else none
def yc(P:Program):List ResultVar->Option (List RV)
 |[]=>some []
 |r::l=>(XU P r).bind λx=>(yc P l).map λj=>x::j
section
variable {B:Bs}{nt:Nat}{g:Gh}{s:PS}{a:Act}{w:World}
def Xs(j:Array Value):ResultVar->Sem Value
 |.tmp t=>pure (j.getD t undef)
 |.cell a t=>do loadVar t (<-asAddr (j.getD a undef))
def ziS(h:R B g s (zB a) w){J:ResultVar}{x:RV}{p:PV}(C:XU P J=some x)(A:x.get s=some p)(F:p.resD=true):∃u,(Xs a.tmps J).run P w=.ok u w/\Dat g.D w u p.sh:=by
 cases J with
 | tmp t=>
   cases C;simp only[RV.get,wN]at A;subst A;have O:(s.get t).isD=true:=by
    revert F;cases s.get t<;>intro F<;>first|exact F|rfl
   exact⟨_,rfl,((h.slots t).data O).sh⟩
 | cell i t=>
   simp only[XU,Z3]at C;obtain⟨⟨H,n⟩,hs,C⟩:=C;simp only at C;split at C
   .rename_i hcond;cases C;simp only[RV.get]at A;split at A
    .rename_i j o e;have M:=h.slots i;rw[e]at M;obtain⟨V,e1⟩:=M.inv_bx;split at A
     .rename_i cs hcs;obtain⟨U,K,T,Q,hz,hb⟩:=h.boxes j cs hcs;have E:∀k,k<cs.length->w.cell? ⟨g.ρ j,0+k,none⟩=some (K.getD k undef)/\(K.getD k undef).oneCell'=true:=λk hk=>by refine⟨?_,(hb k _ (Zv hk)).2⟩;simp only[World.cell?,Q];simp[show k<K.size by omega]
      have I:VI cs o H n λy=>y=p:=by
       unfold VI;cases H with
       | true=>
         simp only at A⊢;split at A
         .rename_i hle;cases A;exact⟨hle,rfl⟩
         .cases A
       |false=>simp only at A⊢;rw[A]
      have G:H=true->zY ((cs.drop o).take n)=true:=λe=>by
       subst e;simp only at A;split at A
       .cases A;exact F
       .cases A
      obtain⟨u,S,L,N,rfl⟩:=Qv (P:=P) (D:=g.D) (ρ:=g.ρ) (nb:=s.b.length) hs I E (λk q I=>(hb k q I).1) G;refine⟨u,?_,(N.data ?_).sh⟩
      .rw[wn]at L;have e2:a.tmps.getD i undef=.pointer (some ⟨g.ρ j,o,none⟩):=e1;simp only[Xs,e2,asAddr,tE,tH,tx,L]
      .revert F;cases S<;>intro F<;>first|exact F|rfl
     .cases A
    .cases A
   .cases C
def Kj(h:R B g s (zB a) w):∀{l:List ResultVar}{y:List RV}{o:List PV},yc P l=some y->YJ s y=some o->o.all PV.resD=true ->
 ∃us:List Value,(l.mapM (Xs a.tmps)).run P w=.ok us w/\us.length=o.length/\l.length=y.length/\∀(i:Nat) p,o[i]?=some p->Dat g.D w (us.getD i undef) p.sh
 |[],y,o,hc,j,_=>by cases hc;cases j;exact⟨[],rfl,rfl,rfl,λi p h=>by simp at h⟩
 | r::l,y,o,hc,j,hd=>by
   simp only[yc,Z3,ZZ]at hc;obtain⟨x,K,M,A,rfl⟩:=hc;simp only[YJ,Z3,ZZ]at j;obtain⟨p,j,L,J,rfl⟩:=j;simp only[List.all_cons,V0]at hd;obtain⟨u,C,E⟩:=ziS h K j hd.1;obtain⟨us,F,G,H,I⟩:=Kj h A J hd.2;refine⟨u::us,by simp only[List.mapM_cons,tE,C,tx,F,tH],by simp[G],by simp[H],λi q hi=>?_⟩;cases i with
   |zero=>simp at hi;subst hi;exact E
   |succ i=>simpa using I i q (dJ hi)
def xZ(fn:Func)(j:Array Value){us:List Value}(h:(fn.results.toList.mapM (Xs j)).run P w=.ok us w):(results fn j).run P w=.ok (zgB us) w:=by
 unfold results;rw[Array.mapM_eq_mapM_toList];simp only[tE,Sem.run_map];erw[h];simp only[tx,tH];match us with
 |[]=>rfl
 |[u]=>rfl
 |u::v::l=>simp[zgB]
end
def ze2{D:Qk}{ρ:Nat->Nat}{w:World}{u:Value}{p:PV}(h:Rel D ρ 0 w u p):Dat D w u p:=by
 have j:∀{u p},Rel1 D ρ 0 w u p->Dat D w u p:=λh=>by
  rcases h with h|⟨i,o,_,hi,_⟩
  .exact h
  .omega
 rcases h with h|⟨f,H,I,B,A,rfl,rfl,C,E,F,G⟩
 .exact j h
 .exact .fn f H I B A C E (λi p y=>j (F i p y)) (λi p y=>j (G i p y))
def Ym{f:FuncId}{fn:Func}{c:Code}(u:P.funcs[f]?=some fn)(y:(fn.name == "runtime.NumGoroutine")=false)(hb:fn.body=some c):∀j w,(callFunc f j).run P w=.ok (.enter f j) w:=by
 intro j w;have o:¬fn.name = "runtime.NumGoroutine" :=dJ y
 simp[callFunc,u,o,hb]
def zjM{f:FuncId}{fn:Func}{c:Code}{pc:PC}(ms:List Nat)(hf:P.funcs[f]?=some fn)(hn:(fn.name == "runtime.NumGoroutine")=false)(hb:fn.body=some c)(M:List RV)(hr:yc P fn.results.toList=some M)(nt:Nat)(aj:fn.ntmps=nt)(hc:qx P nt ms c=some pc){L:List PV}{r:PV}
 (ak:∀p∈L,p.own=none) (hl:L.length<=nt) (an:pW P nt True pc (jG M r) ⟨qQ 0 L,[]⟩):Cn P f L r:=by
 refine⟨Ym hf hn hb,λD w vs S hD am hd=>calls_of_wp hf hb ?_⟩;subst aj;obtain⟨a,ha⟩:∃a:Act,({ tmps:=vs++Array.replicate (fn.ntmps-vs.size) undef,defers:=[] }:Act)=a:=⟨_,rfl⟩;rw[ha];have E:RA ⟨w,D,λ_=>False,S,[]⟩ fn.ntmps ⟨D,λ_=>0⟩ ⟨qQ 0 L,[]⟩ a w:=by
  have N:∀t,(⟨qQ 0 L,[]⟩:PS).get t=L.getD t .und:=λt=>(by show yr (qQ 0 L) t=_;rw[Qe];simp);have K:∀u p,zQ ⟨D,λ_=>0⟩ ⟨qQ 0 L,[]⟩ (zB a) w u p->p.own=none:=by
   rintro u p (⟨t,rfl,rfl⟩|⟨i,j,cs,F,_⟩)
   .rw[N,vw];cases h:L[t]? with
    |none=>rfl
    |some p=>exact ak p (wL h)
   .simp at F
  refine⟨⟨λt=>?_,λi cs h=>by simp at h,λi j h=>by simp at h,λu p h=>zr (K u p h),λu p u' p' b h _ ho=>absurd (K u p h) ho,λu p b i h ho=>absurd (K u p h) ho,hD,λi h=>by simp at h,⟨rfl,rfl,rfl,Zp _,λ_ _ _=>rfl,λ_ _ h=>h,λ_ _ _ _ h=>h,λ_ _ h=>.inl h,hD⟩⟩,by rw[<-ha],by rw[<-ha];simp;omega⟩;rw[N,vw];cases h:L[t]? with
  |none=>exact .dat (.und _)
  |some p=>have:=hd t p h;have ht:t<vs.size:=(by rw[am];exact(Zw.1 h).1);have e:zB a t=vs.getD t undef:=(by rw[<-ha];simp[zB,WK ht]);rw[e];exact .dat this
 refine T2 (Ql (B:=⟨w,D,λ_=>False,S,[]⟩) (λ_ _ h=>h) c pc hc _ _ _ a w an E) λe a' H V=>?_;have fin:∀s g,RA ⟨w,D,λ_=>False,S,[]⟩ fn.ntmps g s a' H->jC M s r->bodyPost P fn (λe H=>∃v Z,e=.returned v/\Below w.heap.size w H/\(∀b o,D b o->Z b o)/\(∀b o,Z b o->D b o\/w.heap.size<=b)/\(∀b o,Z b o->b<H.heap.size)/\Dat Z H v r/\yW Z (λk=>w.heap.size<=k) H v r) .ret a' H:=by
  intro s g h A;obtain⟨E,Q,_⟩:=h;have I:Below w.heap.size w H:=⟨E.fr.os,E.fr.tape,E.fr.output,E.fr.size,λk hk=>E.fr.block k hk λh=>h⟩;have J:∀b o,g.D b o->D b o\/w.heap.size<=b:=λb o h=>by
   rcases E.fr.new b o h with h'|h'|h'
   .exact .inl h'
   .exact .inr h'
   .exact h'.elim
  have O:∀C,YJ s M=some C->C.all PV.resD=true->∃us:List Value,(results fn a'.tmps).run P H=.ok (zgB us) H/\us.length=C.length/\∀(i:Nat) p,C[i]?=some p->Dat g.D H (us.getD i undef) p.sh:=λC F G=>(by obtain⟨us,X,Y,_,k3⟩:=Kj E hr F G;exact⟨us,xZ fn _ X,Y,k3⟩);unfold jC at A;split at A
  .rename_i t;have ac:fn.results.toList=[.tmp t]:=by
    revert hr;cases fn.results.toList with
    |nil=>intro h;cases h
    | cons x l=>
      intro h;simp only[yc,Z3,ZZ]at h;obtain⟨y,U,ys,ae,e⟩:=h;cases e;cases l with
      | nil=>
        cases x with
        |tmp t=>cases U;rfl
        | cell a t=>
          simp only[XU,Z3]at U;obtain⟨⟨ag,n⟩,_,U⟩:=U;simp only at U;split at U<;>cases U
      |cons z l=>simp only[yc,Z3,ZZ]at ae;obtain⟨_,_,_,_,e⟩:=ae;cases e
   have ad:=xZ (P:=P) (w:=H) fn a'.tmps (us:=[a'.tmps.getD t undef]) (by rw[ac];rfl);refine⟨Q,_,ad,_,g.D,rfl,I,E.fr.d0,J,E.dlt,ze2 (SubP.rel A (E.slots t)),?_⟩;by_cases ho:r.own=none
   .exact zr ho
   .rcases SubP.own A (E.slots t) ho with rfl|⟨_,hk⟩
    .have:=E.owns _ _ (E.slot t);revert this ho;cases s.get t<;>try (intros;trivial)
     rename_i es ow;cases ow<;>try (intros;trivial)
     intro _ h;rcases h with hn|⟨gg,af,ah,e,F,hW,G⟩
     .exact .inl hn
     .exact .inr ⟨gg,af,ah,e,F,hW.resolve_right (λh=>h),G⟩
    .exact hk _ _ _
  .rename_i x _;split at A
   .rename_i p T;obtain⟨F,G,h3⟩:=A;obtain⟨us,X,Y,k3⟩:=O [p] (by simp[YJ,T]) (dJ F);match us,Y with
    |[u],_=>refine⟨Q,_,X,_,g.D,rfl,I,E.fr.d0,J,E.dlt,?_,zr h3⟩;exact ze2 (ρ:=g.ρ) (SubP.rel G (nb:=0) (.dat (k3 0 p rfl)))
   .exact A.elim
  .split at A
   .rename_i hne1 hne2 _ C T;obtain⟨F,G⟩:=A;obtain⟨us,X,Y,k3⟩:=O C T F;have ab:us.length≠1:=by
     intro e;rw[Y]at e;have ai:∀{M C},YJ s M=some C->C.length=M.length:=by
      intro M;induction M with
      |nil=>intro C h;cases h;rfl
      |cons x l ih=>intro C h;simp only[YJ,Z3,ZZ]at h;obtain⟨p,_,qs,hq,rfl⟩:=h;simp[ih hq]
     rw[ai T]at e;match M,e with
     |[x],_=>exact hne2 x rfl
    have ev:zgB us=.tuple us.toArray:=by
     revert ab;match us with
     |[]=>intro _;rfl
     |[u]=>intro h;exact absurd rfl h
     |u::v::l=>intro _;rfl
    rw[ev]at X;have:r.own=none:=by cases G<;>rfl
    refine⟨Q,_,X,_,g.D,rfl,I,E.fr.d0,J,E.dlt,?_,zr this⟩;refine ze2 (ρ:=g.ρ) (SubP.rel G (nb:=0) (.dat (.tup _ _ (by simp[Y]) λi p T=>?_)));simp only[wk,ZZ]at T;obtain⟨q,hq,rfl⟩:=T;have:=k3 i q hq;simpa[vw]using this
   .exact A.elim
 cases e with
 |normal=>obtain⟨s,g,F,G⟩:=V;exact fin s g F G
 |ret=>obtain⟨s,g,F,G⟩:=V;exact fin s g F G
 |exit id=>obtain⟨s,g,F,G⟩:=V;exact G.elim
 |goto l=>exact V.elim
 |panic ch=>exact V.elim
 |outgrown=>exact V.elim
def zao(t:Nat)(j:List (List PV))(o:Nat):PX->PS->Prop
 |.x _,_=>False
 |_,s=>match s.get t with
   |.sl es (.r _ sz')=>es=j/\sz'=o
   |_=>False
def zio{f:FuncId}{fn:Func}{c:Code}{pc:PC}(ms:List Nat)(hf:P.funcs[f]?=some fn)(S:(fn.name == "runtime.NumGoroutine")=false)(hb:fn.body=some c)(t:Nat)(hr:yc P fn.results.toList=some [.t t])(nt:Nat)(ai:fn.ntmps=nt)(hc:qx P nt ms c=some pc){F rs:List (List PV)}{I:Nat}{J:List PV}
 (ak:∀p∈J,p.own=none) (hl:J.length+1<=nt) (an:pW P nt False pc (zao t rs I) ⟨qQ 0 (.sl F (.r 0 I)::J),[]⟩):OCn P f F I J rs:=by
 refine⟨Ym hf S hb,λD w v vs M T am hd hv ao=>calls_of_wp hf hb ?_⟩;subst ai;obtain⟨a,Y⟩:∃a:Act,({ tmps:=(#[v]++vs)++Array.replicate (fn.ntmps-(#[v]++vs).size) undef,defers:=[] }:Act)=a:=⟨_,rfl⟩;rw[Y];have O:∀i,(⟨qQ 0 (.sl F (.r 0 I)::J),[]⟩:PS).get i=(PV.sl F (.r 0 I)::J).getD i .und:=λi=>by show yr (qQ 0 _) i=_;rw[Qe];simp
 have H:zB a 0=v:=by rw[<-Y];simp only[zB,wu];rw[WK a9,WK b6];rfl
 have hs:∀u p,zQ ⟨D,λ_=>0⟩ ⟨qQ 0 (.sl F (.r 0 I)::J),[]⟩ (zB a) w u p->p.own≠none->u=v/\p=.sl F (.r 0 I):=by
  rintro u p (⟨i,rfl,rfl⟩|⟨i,j,cs,A,_⟩) ho
  .rw[O]at ho⊢;cases i with
   |zero=>exact⟨H,rfl⟩
   | succ i=>
     exfalso;simp only[vw,uM]at ho;cases h:J[i]? with
     |none=>rw[h]at ho;exact ho rfl
     |some p=>rw[h]at ho;exact ho (ak p (wL h))
  .simp at A
 have ad:yW D (Bs.W ⟨w,D,λk=>zc v=some k,M,[]⟩) w v (.sl F (.r 0 I)):=by
  rcases ao with S|⟨gg,K,Q,e,A,L,h3⟩
  .exact .inl S
  .cases K with
   | zero=>
     by_cases Z:F=[]
     .subst Z;exact .inl ⟨_,by rw[A];rfl,rfl⟩
     .have:=QH (ρ:=λ_=>0) (nb:=0) (.dat (A▸hv));exact absurd (wH (tb.1 this.1)) Z
   |succ K=>exact .inr ⟨gg,_,Q,e,A,.inr (by rw[A];rfl),h3⟩
 have hR:RA ⟨w,D,λk=>zc v=some k,M,[]⟩ fn.ntmps ⟨D,λ_=>0⟩ ⟨qQ 0 (.sl F (.r 0 I)::J),[]⟩ a w:=by
  refine⟨⟨λi=>?_,λi cs h=>by simp at h,λi j h=>by simp at h,λu p h=>?_,λu p u' p' b h h' ho aj _ _=>by rw[(hs u p h ho).2,(hs u' p' h' aj).2],λu p b i h ho _ hi=>by simp at hi,T,λi h=>by simp at h,⟨rfl,rfl,rfl,Zp _,λ_ _ _=>rfl,λ_ _ h=>h,λ_ _ _ _ h=>h,λ_ _ h=>.inl h,T⟩⟩,by rw[<-Y],by rw[<-Y];simp;omega⟩
  .rw[O];cases i with
   |zero=>rw[H];exact .dat (hv.owned _ _)
   | succ i=>
     simp only[vw,uM];cases h:J[i]? with
     |none=>exact .dat (.und _)
     |some p=>have:=hd i p h;have ht:i<vs.size:=(by rw[am];exact(Zw.1 h).1);have e:zB a (i+1)=vs.getD i undef:=(by rw[<-Y];simp only[zB,wu];rw[WK a9,uY b6];simp);rw[e];exact .dat this
  .by_cases ho:p.own=none
   .exact zr ho
   .obtain⟨rfl,rfl⟩:=hs u p h ho;exact ad
 refine T2 (Ql (B:=⟨w,D,λk=>zc v=some k,M,[]⟩) (λh=>h.elim) c pc hc _ _ _ a w an hR) λe X C U=>?_;have ab:fn.results.toList=[.tmp t]:=by
  revert hr;cases fn.results.toList with
  |nil=>intro h;cases h
  | cons x l=>
    intro h;simp only[yc,Z3,ZZ]at h;obtain⟨y,N,ys,ae,e⟩:=h;cases e;cases l with
    | nil=>
      cases x with
      |tmp t=>cases N;rfl
      | cell a t=>
        simp only[XU,Z3]at N;obtain⟨⟨ag,n⟩,_,N⟩:=N;simp only at N;split at N<;>cases N
    |cons z l=>simp only[yc,Z3,ZZ]at ae;obtain⟨_,_,_,_,e⟩:=ae;cases e
 have fin:∀s g,RA ⟨w,D,λk=>zc v=some k,M,[]⟩ fn.ntmps g s X C->(match s.get t with|.sl F (.r _ sz')=>F=rs/\sz'=I|_=>False)->bodyPost P fn (λe C=>∃u V,e=.returned u/\(C.os=w.os/\C.tape=w.tape/\C.output=w.output/\w.heap.size<=C.heap.size)/\(∀k,k<w.heap.size->zc v≠some k->C.heap[k]?=w.heap[k]?) /\
  (∀b o y,D b o->w.cell? ⟨b,o,none⟩=some y->C.cell? ⟨b,o,none⟩=some y)/\(∀b o,D b o->V b o)/\(∀b o,V b o->D b o\/w.heap.size<=b\/zc v=some b)/\(∀b o,V b o->b<C.heap.size) /\
  Dat V C u (.sl rs .sh)/\yW V (λk=>w.heap.size<=k\/zc v=some k) C u (.sl rs (.r 0 I))) .ret X C:=by
  intro s g h G;obtain⟨E,ah,_⟩:=h;split at G
  .rename_i es' m sz' e;obtain⟨rfl,rfl⟩:=G;have ac:=xZ (P:=P) (w:=C) fn X.tmps (us:=[X.tmps.getD t undef]) (by rw[ab];rfl);have A:=E.slots t;have L:=E.owns _ _ (E.slot t);rw[e]at A L;have af:Dat g.D C (zB X t) (.sl es' .sh):=by
    rcases A with(hr|⟨_,_,hh,_⟩)|⟨_,_,_,_,_,hh,_⟩
    .exact hr.sh
    .cases hh
    .cases hh
   refine⟨ah,_,ac,_,g.D,rfl,⟨E.fr.os,E.fr.tape,E.fr.output,E.fr.size⟩,λk hk S=>E.fr.block k hk S,λb o y T N=>E.fr.cell b o y T N,E.fr.d0,λb o T=>E.fr.new b o T,E.dlt,af,?_⟩;rcases L with S|⟨gg,K,Q,e,q1,q2,q3⟩
   .exact .inl S
   .exact .inr ⟨gg,K,Q,e,q1,q2,q3⟩
  .exact G.elim
 cases e with
 |normal=>obtain⟨s,g,A,L⟩:=U;exact fin s g A L
 |ret=>obtain⟨s,g,A,L⟩:=U;exact fin s g A L
 |exit id=>obtain⟨s,g,A,L⟩:=U;exact L.elim
 |goto l=>exact U.elim
 |panic ch=>exact U.elim
 |outgrown=>exact U.elim
def xN(fn:Func):Code:=match fn.body with
 |some c=>c
 |none=>.skip
def zbo(P:Program)(fn:Func)(j:List Nat)(n:Nat):Bool:=!(fn.name == "runtime.NumGoroutine") && fn.body.isSome && (yc P fn.results.toList).isSome && (qx P fn.ntmps j (xN fn)).isSome && decide (n<=fn.ntmps)
def zbt(P:Program)(fn:Func)(j:List Nat):PC:=(qx P fn.ntmps j (xN fn)).getD .sk
def zgk(P:Program)(fn:Func):List RV:=(yc P fn.results.toList).getD []
def zgM{f:FuncId}{fn:Func}(I:P.funcs[f]?=some fn)(B:List Nat){y:List PV}{r:PV}(n:Nat)(j:zbo P fn B n=true)(L:y.length=n)(A:∀p∈y,p.own=none)(u:pW P fn.ntmps True (zbt P fn B) (jG (zgk P fn) r) ⟨qQ 0 y,[]⟩):Cn P f y r:=by
 unfold zbo at j;simp only[V0,Wk,wG]at j;obtain⟨⟨⟨⟨E,F⟩,G⟩,H⟩,K⟩:=j;obtain⟨c,C⟩:=wX.1 F;obtain⟨J,w⟩:=wX.1 G;obtain⟨M,o⟩:=wX.1 H;unfold zbt zgk at u;rw[o,w]at u;have e:xN fn=c:=by unfold xN;rw[C]
 rw[e]at o;exact zjM B I E C J w fn.ntmps rfl o A a8 u
def zin{f:FuncId}{fn:Func}(K:P.funcs[f]?=some fn)(B:List Nat){E G:List (List PV)}{C:Nat}{w:List PV}(n t:Nat)(j:zbo P fn B n=true)(A:yc P fn.results.toList=some [.t t])(N:w.length+1=n)(y:∀p∈w,p.own=none)(u:pW P fn.ntmps False (zbt P fn B) (zao t G C) ⟨qQ 0 (.sl E (.r 0 C)::w),[]⟩):OCn P f E C w G:=by
 unfold zbo at j;simp only[V0,Wk,wG]at j;obtain⟨⟨⟨⟨H,I⟩,L⟩,J⟩,M⟩:=j;obtain⟨c,F⟩:=wX.1 I;obtain⟨O,o⟩:=wX.1 J;unfold zbt at u;rw[o]at u;have e:xN fn=c:=by unfold xN;rw[F]
 rw[e]at o;exact zio B K H F t A fn.ntmps rfl o y a8 u
end
section
def xR(f:XE)(a b:List Iv):(qy f a b).length<=2*(a.length+b.length)+1:=V1 (jD f _ _) (by simpa using jF a b)
structure En where
 rep:Nat
 max:Nat
 holes:List Iv
deriving DecidableEq
def En.ext'{e f:En}(j:e.rep=f.rep)(o:e.max=f.max)(u:e.holes=f.holes):e=f:=by cases e;cases f;simp_all
def zO(e:En):Prop:=Nrm e.holes/\(∀s∈e.holes,s.hi<=e.max)/\e.max<zk/\e.rep<zk
def qG{m n:Nat}(h:m<=n)(j:n<zk):Nrm [⟨m,n⟩]:=⟨X4 _,h,j,trivial⟩
def jl(m n x:Nat):mem [⟨m,n⟩] x=(decide (m<=x) && decide (x<=n)):=by simp[mem]
def kn(e:En):List Iv:=qy zm [⟨0,e.max⟩] e.holes
def qT{e:En}(h:zO e):Nrm (kn e):=qH (qG (X4 _) h.2.2.1) h.1
def vC{e:En}(h:zO e){x:Nat}(j:x<zk):mem (kn e) x=(decide (x<=e.max) && !mem e.holes x):=by unfold kn;rw[qj (qG (X4 _) h.2.2.1) h.1 j,jl];simp[zm]
def QV(l:List Iv):Nat:=match l.getLast? with
 |some s=>s.hi
 |none=>0
def Kr{l:List Iv}(h:0<l.length):l[l.length-1].hi=QV l:=by unfold QV;rw[UT,Zv a8]
def x9{l:List Iv}(o:Nrm l)(h:l≠[]):mem l (QV l)=true/\QV l<zk:=by have j:0<l.length:=wV.2 h;have:=NF.lo_ge o l[l.length-1] (Y1 _);rw[<-Kr j];exact⟨qf.2 ⟨_,Y1 _,this.2.1,Zp _⟩,this.2.2⟩
def zek{l:List Iv}(o:Nrm l){x:Nat}(w:mem l x=true):x<=QV l:=by
 obtain⟨s,hs,y,u⟩:=qf.1 w;have j:l≠[]:=by intro e;subst e;cases hs
 obtain⟨k,t,rfl⟩:=Ut l |>.resolve_left j;unfold QV;rw[Uu]at *;rw[u0];rcases wC.1 hs with h|h
 .have:=o.last_lt s h;have:=(NF.lo_ge o t b6).2.1;simp only;omega
 .simp at h;subst h;exact u
def Qi(r:Nat)(l:List Iv):En×Bool:=if l=[] then (⟨0,0,[]⟩,false) else (⟨r,QV l,qy zm [⟨0,QV l⟩] l⟩,true)
def qD{r:Nat}{l:List Iv}(h:l≠[]):Qi r l=(⟨r,QV l,qy zm [⟨0,QV l⟩] l⟩,true):=Vq h
def zaj(r:Nat)(l:List Iv):(Qi r l).2=decide (l≠[]):=by
 unfold Qi;split
 .rename_i h;simp[h]
 .rename_i h;simp[h]
def k9{r:Nat}{l:List Iv}(y:r<zk)(o:Nrm l):zO (Qi r l).1:=by
 by_cases h:l=[]
 .subst h;exact⟨trivial,(λ_ h=>by cases h),xM,xM⟩
 .rw[qD h];have ht:=(x9 o h).2;have w:Nrm (qy zm [⟨0,QV l⟩] l):=qH (qG (X4 _) ht) o;refine⟨w,λs hs=>?_,ht,y⟩;have u:=NF.lo_ge w s hs;have j:mem (qy zm [⟨0,QV l⟩] l) s.hi=true:=qf.2 ⟨s,hs,u.2.1,Zp _⟩;rw[qj (qG (X4 _) ht) o u.2.2,jl]at j;simp[zm]at j;exact j.1
def JO{r:Nat}{l:List Iv}(y:r<zk)(o:Nrm l)(h:l≠[]):kn (Qi r l).1=l:=by
 have u:=k9 y o;refine Nrm.unique (qT u) o λx w=>?_;rw[vC u w];rw[qD h];have ht:=(x9 o h).2;simp only;rw[qj (qG (X4 _) ht) o w,jl];simp only[zm];by_cases j:x<=QV l
 .simp[j]
 .have:mem l x=false:=by
   cases e:mem l x with
   |false=>rfl
   |true=>exact absurd (zek o e) j
  simp[j,this]
def YP(e:En):Prop:=zO e/\∀s∈e.holes,s.hi<e.max
def zeO{e:En}(h:YP e):mem e.holes e.max=false:=by
 cases h':mem e.holes e.max with
 |false=>rfl
 |true=>obtain⟨s,hs,_,j⟩:=qf.1 h';have:=h.2 s hs;omega
def jO{e:En}(h:YP e):kn e≠[]/\QV (kn e)=e.max:=by
 have u:mem (kn e) e.max=true:=by rw[vC h.1 h.1.2.2.1,zeO h];simp
 have j:kn e≠[]:=by intro w;rw[w]at u;cases u
 refine⟨j,?_⟩;have y:=zek (qT h.1) u;have o:=x9 (qT h.1) j;rw[vC h.1 o.2]at o;simp at o;omega
def ZM{e:En}(h:YP e):Qi e.rep (kn e)=(e,true):=by
 obtain⟨u,o⟩:=jO h;rw[qD u,o];have:qy zm [⟨0,e.max⟩] (kn e)=e.holes:=by
  refine vK (qG (X4 _) h.1.2.2.1) (qT h.1) h.1.1 λx w=>?_;rw[vC h.1 w,jl];simp only[zm];by_cases j:x<=e.max
  .simp[j]
  .have:mem e.holes x=false:=by
    cases h':mem e.holes x with
    |false=>rfl
    |true=>obtain⟨s,hs,_,o⟩:=qf.1 h';have:=h.1.2.1 s hs;omega
   simp[j,this]
 rw[this]
def zak{r:Nat}{l:List Iv}(y:r<zk)(o:Nrm l)(h:l≠[]):YP (Qi r l).1:=by
 refine⟨k9 y o,λs hs=>?_⟩;have w:=k9 y o;have C:=w.2.1 s hs;rcases uB C with A|A
 .exact A
 .have u:mem (Qi r l).1.holes (Qi r l).1.max=true:=qf.2 ⟨s,hs,by have:=NF.lo_ge w.1 s hs;omega,a8⟩;have B:=x9 o h;have j:mem (kn (Qi r l).1) (QV l)=true:=(by rw[JO y o h];exact B.1);rw[vC w B.2]at j;rw[qD h]at u j;simp only at u j;rw[u]at j;simp at j
def Jm{e:En}(h:zO e){l:List Iv}{s:Iv}(hs:e.holes=l++[s])(F:e.max<=s.hi)(E:0<s.lo):zO ⟨e.rep,s.lo-1,l⟩/\kn ⟨e.rep,s.lo-1,l⟩=kn e:=by
 have u:Nrm (l++[s]):=hs▸h.1;have C:=NF.lo_ge u s b6;have o:zO ⟨e.rep,s.lo-1,l⟩:=by
  refine⟨u.init,λt ht=>?_,?_,h.2.2.2⟩
  .have:=u.last_lt t ht;simp only;omega
  .simp only;omega
 refine⟨o,Nrm.unique (qT o) (qT h) λx y=>?_⟩;have w:s.hi=e.max:=by have:=h.2.1 s (by rw[hs];simp);omega
 rw[vC o y,vC h y,hs,yd,mem_one' s x];simp only;by_cases j:x<=s.lo-1
 .have e1:x<=e.max:=a8;have e2:¬s.lo<=x:=a8;simp[j,e1,e2]
 .by_cases B:x<=e.max
  .have e2:s.lo<=x:=a8;have A:x<=s.hi:=a8;simp[j,e2,A]
  .simp[j,B]
where mem_one' (s:Iv) (x:Nat):mem [s] x=(decide (s.lo<=x) && decide (x<=s.hi)):=by simp[mem]
def Jl{e:En}(h:zO e){l:List Iv}{s:Iv}(hs:e.holes=l++[s])(w:e.max<=s.hi)(u:s.lo=0):kn e=[]:=by
 refine Nrm.unique (qT h) trivial λx o=>?_;rw[vC h o,hs,yd];by_cases j:x<=e.max
 .have:mem [s] x=true:=qf.2 ⟨s,b6,a8,a8⟩;simp[this]
 .simp[j]
def Xb{e:En}(h:zO e)(j:e.holes=[]):YP e:=⟨h,λs hs=>by rw[j]at hs;cases hs⟩
def zcc{e:En}(h:zO e){l:List Iv}{s:Iv}(hs:e.holes=l++[s])(u:s.hi<e.max):YP e:=by
 refine⟨h,λt ht=>?_⟩;rw[hs]at ht;have o:Nrm (l++[s]):=hs▸h.1;have w:=NF.lo_ge o s b6;rcases wC.1 ht with j|j
 .have:=o.last_lt t j;omega
 .simp at j;subst j;exact u
def J0(r:Nat)(l:List Iv):(Qi r l).1.holes.length<=2*l.length+3:=by
 by_cases h:l=[]
 .subst h;simp[Qi]
 .rw[qD h];have:=xR zm [⟨0,QV l⟩] l;simp at this⊢;omega
def kW(e:En):(kn e).length<=2*e.holes.length+3:=by have:=xR zm [⟨0,e.max⟩] e.holes;simp at this;unfold kn;omega
end
section
def jn(f:XE)(a b:En):En×Bool:=Qi a.rep (qy f (kn a) (kn b))
variable {f:XE}{a b c:En}
def below(c:Nat):List Iv:=if c=0 then [] else [⟨0,c-1⟩]
def kP(e:En):En×Bool:=Qi e.rep (kn e)
end
section
open Go.RowKit
def QZ:Option Iv->List Iv->Nat->Nat×Int
 |_,[],_=>(0,-1)
 |p,s::l,i=>if s.lo<=s.hi then (if (match p with|none=>0|some q=>relate q s)=0 then QZ (some s) l (i+1) else (3,(i:Int))) else (2,(i:Int))
def Zl(l:List Iv):Nat×Int:=QZ none l 0
def KJ:∀(l:List Iv)(p:Option Iv)(i:Nat),(∀s∈l,s.hi<zk)->((QZ p l i).1=0↔match p with|none=>NF 0 l|some q=>(∀s∈l,s.lo<=s.hi->relate q s=0\/True)/\(l=[]\/∃s r,l=s::r/\s.lo<=s.hi/\relate q s=0/\NF (s.hi+2) r))
 |[],p,i,_=>by cases p<;>simp[QZ,NF]
 | s::l,p,i,hb=>by
   have ih:=KJ l (some s) (i+1) (λt ht=>hb t (by simp[ht]));have hs:=hb s b6;have u:(QZ (some s) l (i+1)).1=0↔NF (s.hi+2) l:=by
    rw[ih];constructor
    .rintro⟨_,rfl|⟨t,r,rfl,o,j,w⟩⟩
     .trivial
     .refine⟨?_,o,hb t b6,w⟩;unfold relate at j;split at j
      .split at j
       .cases j
       .omega
      .split at j
       .split at j<;>cases j
       .cases j
    .intro h;refine⟨λ_ _ _=>.inr trivial,?_⟩;cases l with
     |nil=>exact .inl rfl
     |cons t r=>have:=h.1;exact .inr ⟨t,r,rfl,h.2.1,by unfold relate;rw[vD a8,Vq a8],h.2.2.2⟩
   unfold QZ;by_cases o:s.lo<=s.hi
   .rw[vD o];cases p with
    |none=>simp only[UJ];rw[u];exact⟨λh=>⟨X4 _,o,hs,h⟩,λh=>h.2.2.2⟩
    | some q=>
      simp only;by_cases j:relate q s=0
      .rw[vD j,u];exact⟨λh=>⟨λ_ _ _=>.inr trivial,.inr ⟨s,l,rfl,o,j,h⟩⟩,λh=>by
        rcases h.2 with h|⟨t,r,e,_,_,h⟩
        .cases h
        .cases e;exact h⟩
      .rw[Vq j];simp;intro _ h;exact absurd h j
   .rw[Vq o];cases p with
    |none=>simp[NF,o]
    |some q=>simp;intro h;exact absurd h o
def YT{l:List Iv}(h:∀s∈l,s.hi<zk):(Zl l).1=0↔Nrm l:=KJ l none 0 h
def Yj{l:List Iv}{k:Nat}{p:Option Iv}(h:k<l.length):QZ p (l.drop k) k=if l[k].lo<=l[k].hi then (if (match p with|none=>0|some q=>relate q l[k])=0 then QZ (some l[k]) (l.drop (k+1)) (k+1) else (3,(k:Int))) else (2,(k:Int)):=by rw[VS h];rfl
end
section
def YN(l:List Nat):Prop:=l.Pairwise (· < ·)
def jK:∀{a b:List Nat},YN a->YN b->(∀x,x∈a↔x∈b)->a=b
 |[],[],_,_,_=>rfl
 |[],y::b,_,_,h=>absurd ((h y).2 b6) b6
 |x::a,[],_,_,h=>absurd ((h x).1 b6) b6
 | x::a,y::b,ha,hb,h=>by
   have j:=V3.1 ha;have o:=V3.1 hb;have A:x=y:=by
    have u:=(h x).1 b6;have w:=(h y).2 b6;simp at u w;rcases u with u|u
    .exact u
    .rcases w with w|w
     .exact w.symm
     .have:=o.1 x u;have:=j.1 y w;omega
   subst A;congr 1;refine jK j.2 o.2 λz=>?_;have:=h z;simp at this;constructor
   .intro hz;rcases this.1 (.inr hz)with e|e
    .have:=j.1 z hz;omega
    .exact e
   .intro hz;rcases this.2 (.inr hz)with e|e
    .have:=o.1 z hz;omega
    .exact e
def Y6:∀o:List Nat,∃r,YN r/\∀y,y∈r↔y∈o
 |[]=>⟨[],List.Pairwise.nil,λ_=>UZ⟩
 | x::o=>by
   obtain⟨r,u,w⟩:=Y6 o;refine⟨r.filter (·<x)++x::r.filter (x < ·),?_,λy=>?_⟩
   .refine Ua.2 ⟨u.filter _,V3.2 ⟨λy j=>by simpa using (Wh.1 j).2,u.filter _⟩,λy j z hz=>?_⟩;have:=(Wh.1 j).2;simp at this hz;rcases hz with rfl|hz<;>omega
   .simp only[wC,Wh,wi,w,wG];by_cases e:y=x
    .simp[e]
    .rcases wJ y x with h|h
     .simp[h,e];omega
     .have:x<y:=a8;simp[this,e];omega
noncomputable def srt (j:List Nat):List Nat:=Classical.choose (Y6 j)
def yi(j:List Nat):YN (srt j):=(Uv (Y6 j)).1
def qr{j:List Nat}{y:Nat}:y∈srt j↔y∈j:=(Uv (Y6 j)).2 y
def XA{j r:List Nat}(h:YN r)(o:∀y,y∈r↔y∈j):srt j=r:=jK (yi j) h λy=>by rw[qr,o]
def XB:srt []=[]:=XA List.Pairwise.nil λ_=>UZ
def jJ{l:List Nat}(h:YN l){i j:Nat}(o:j<l.length)(hi:i<j):l[i]<l[j]:=wP.1 h i j a8 o hi
def kJ{xs:List Nat}{x at_:Nat}(E:at_<=(srt xs).length)(C:∀k (h:k<(srt xs).length),at_<=k->x<(srt xs)[k])(w:at_=0\/∃h:at_-1<(srt xs).length,(srt xs)[at_-1]<x):
 srt (xs++[x])=(srt xs).take at_++x::(srt xs).drop at_:=by
 have A:=yi xs;have u:∀y∈(srt xs).take at_,y<x:=λy j=>by
  obtain⟨i,hi,rfl⟩:=Wj j;simp at hi⊢;rcases w with w|⟨h,w⟩
  .omega
  .rcases wJ i (at_-1)with B|B
   .have:=jJ A h B;omega
   .have:i=at_-1:=a8;subst this;exact w
 have o:∀y∈(srt xs).drop at_,x<y:=λy j=>by obtain⟨i,hi,rfl⟩:=Wj j;simp at hi⊢;exact C _ a8 a8
 refine XA (Ua.2 ⟨A.sublist (List.take_sublist _ _),V3.2 ⟨λy j=>o y j,A.sublist (List.drop_sublist _ _)⟩,λy j z hz=>?_⟩) λy=>?_
 .simp at hz;rcases hz with rfl|hz
  .exact u y j
  .exact UK (u y j) (o z hz)
 .have:y∈(srt xs).take at_++(srt xs).drop at_↔y∈xs:=(by rw[Wb];exact qr);simp only[wC,wi,List.not_mem_nil,or_false]at this⊢;constructor
  .rintro(h|h|h)
   .exact .inl (this.1 (.inl h))
   .exact .inr h
   .exact .inl (this.1 (.inr h))
  .rintro(h|h)
   .rcases this.2 h with h|h
    .exact .inl h
    .exact .inr (.inr h)
   .exact .inr (.inl h)
def zaw{j:List Nat}{x:Nat}(h:x∈srt j):srt (j++[x])=srt j:=XA (yi j) λy=>by rw[qr]at *;simp;intro e;subst e;exact h
def ju(j:List Nat):(srt j).length<=j.length:=by
 have u:∀(r j:List Nat),YN r->(∀y∈r,y∈j)->r.length<=j.length:=by
  intro r;induction r with
  |nil=>intro j _ _;exact X4 _
  | cons x r ih=>
    intro j h A;have w:=V3.1 h;have:=ih (j.erase x) w.2 λy o=>by have C:=w.1 y o;exact(WX a8).2 (A y (by simp[o]))
    have B:x∈j:=A x b6;rw[WF B]at this;have:=ug B;simp;omega
 exact u _ _ (yi j) λy o=>qr.1 o
def jQ(s:Iv):List Nat:=s.lo::if s.hi<zk-1 then [s.hi+1] else []
def z6(l:List Iv):List Nat:=l.flatMap jQ
def yU(j:List (List Iv)):List Nat:=0::j.flatMap z6
noncomputable def zH (j:List (List Iv)):List Nat:=srt (yU j)
def zcy(s:Iv):(jQ s).length<=2:=by unfold jQ;split<;>simp
def vq(l:List Iv):(z6 l).length<=2*l.length:=by
 induction l with
 |nil=>simp[z6]
 |cons s l ih=>have:=zcy s;simp only[z6,We,wj,wv]at ih⊢;omega
def zaU{l:List Iv}{k:Nat}(h:k<l.length):z6 (l.take (k+1))=z6 (l.take k)++jQ l[k]:=by unfold z6;rw[vj h,Wl];simp only[We,Ux,wY]
def Qh{l:List Iv}(o:∀s∈l,s.lo<=s.hi/\s.hi<zk){x y:Nat}(A:x<=y)(C:y<zk)(j:∀c∈z6 l,c<=x\/y<c):mem l y=mem l x:=by
 induction l with
 |nil=>rfl
 | cons s l ih=>
   have hs:=o s b6;rw[mem_cons,mem_cons,ih (λt ht=>o t (by simp[ht])) λc h=>j c (by simp[z6]at h⊢;exact .inr h)];congr 1;have B:=j s.lo (by simp[z6,jQ]);have u:s.hi<zk-1->s.hi+1<=x\/y<s.hi+1:=λh=>j (s.hi+1) (by simp[z6,jQ,h]);rw[Wz];simp only[V0,wG];by_cases w:s.hi<zk-1
   .have:=u w;omega
   .omega
def Qj:Nat->Bool->Bool->Bool
 |0,a,b=>a || b
 |1,a,b=>a && b
 |_,a,b=>a && !b
def KD(st:List Nat)(i:Nat):Nat:=if h:i<st.length then st[i] else zk
structure DoInv(f:XE)(a b:List Iv)(st:List Nat)(i:Nat)(out:List Iv):Prop where
 nrm:Nrm out
 lt:∀t∈out,t.hi<KD st i
 mm:∀x,x<KD st i->mem out x=f (mem a x) (mem b x)
 len:out.length<=i
def zgd(j:List Iv)(s:Iv):(Q8 j s).length<=j.length+1:=by
 unfold Q8;split
 .simp
 .split<;>simp<;>omega
def DoInv.step{f:XE}{a b:List Iv}{st:List Nat}{i:Nat}{u:List Iv}(h:DoInv f a b st i u)(G:Nrm a)(hb:Nrm b)(hs:YN st)(A:∀x∈st,x<zk)(C:∀c,c∈z6 a\/c∈z6 b->c∈st)(hi:i<st.length):
 (f (mem a st[i]) (mem b st[i])=true->DoInv f a b st (i+1) (Q8 u ⟨st[i],if h:i+1<st.length then st[i+1]-1 else zk-1⟩))/\(f (mem a st[i]) (mem b st[i])=false->DoInv f a b st (i+1) u):=by
 have F:KD st i=st[i]:=uj hi;have O:=zw;have I:st[i]<zk:=A _ (Y1 _);have e1:(if h:i+1<st.length then st[i+1]-1 else zk-1)+1=KD st (i+1)/\st[i]<KD st (i+1)/\KD st (i+1)<=zk:=by
  unfold KD;split
  .rename_i h;have:=jJ hs h (Uy i);have:=A _ (Y1 h);omega
  .omega
 obtain⟨e1,e2,N⟩:=e1;have hcut:∀x,st[i]<=x->x<KD st (i+1)->∀c∈st,c<=st[i]\/x<c:=λx y w c C=>by
  obtain⟨j,H,rfl⟩:=Wj C;rcases WL j i with h|h|h
  .have:=jJ hs hi h;omega
  .subst h;omega
  .right;unfold KD at w;split at w
   .rcases uC (show i+1<=j from h)with o|o
    .subst o;exact w
    .have:=jJ hs H o;omega
   .omega
 have ra:∀s∈a,s.lo<=s.hi/\s.hi<zk:=λs hs=>by have:=NF.lo_ge G s hs;omega
 have rb:∀s∈b,s.lo<=s.hi/\s.hi<zk:=λs hs=>by have:=NF.lo_ge hb s hs;omega
 have same:∀x,st[i]<=x->x<KD st (i+1)->mem a x=mem a st[i]/\mem b x=mem b st[i]:=λx y w=>
  ⟨Qh ra y a8 λc h=>hcut x y w c (C c (.inl h)),Qh rb y a8 λc h=>hcut x y w c (C c (.inr h))⟩
 constructor
 .intro E;obtain⟨K,L,M⟩:=Xm (s:=⟨st[i],if h:i+1<st.length then st[i+1]-1 else zk-1⟩) h.nrm (λt ht=>by have:=h.lt t ht;rw[F]at this;exact this) (by show st[i]<=(if h:i+1<st.length then st[i+1]-1 else zk-1);omega) (by show (if h:i+1<st.length then st[i+1]-1 else zk-1)<zk;omega);refine⟨K,λt ht=>by have:=M t ht;show t.hi<_;simp only at this;omega,λx B=>?_,V1 (zgd _ _) (by have:=h.len;omega)⟩;rw[L x];simp only;rcases wJ x st[i]with o|o
  .rw[h.mm x a8];have:¬st[i]<=x:=a8;simp[this]
  .rw[(same x o B).1,(same x o B).2,E];have:x<=(if h:i+1<st.length then st[i+1]-1 else zk-1):=a8;simp[o,this]
 .intro E;refine⟨h.nrm,λt ht=>by have:=h.lt t ht;omega,λx B=>?_,by have:=h.len;omega⟩;rcases wJ x st[i]with o|o
  .exact h.mm x a8
  .rw[(same x o B).1,(same x o B).2,E];cases e:mem u x with
   |false=>rfl
   |true=>obtain⟨t,ht,_,J⟩:=qf.1 e;have:=h.lt t ht;omega
def DoInv.done{f:XE}{a b:List Iv}{st:List Nat}{j:List Iv}(h:DoInv f a b st st.length j)(o:Nrm a)(hb:Nrm b):j=qy f a b:=
 (vK o hb h.nrm λx u=>h.mm x (by unfold KD;rw[UL a8];exact u)).symm
def x8(j:List (List Iv)):YN (zH j):=yi _
def VY(j:List (List Iv)):∃h:0<(zH j).length,(zH j)[0]=0:=by
 have o:0∈zH j:=qr.2 (by simp[yU]);obtain⟨i,hi,e⟩:=Wj o;refine⟨a8,?_⟩;rcases WC i with h|h
 .subst h;exact e
 .have:=jJ (x8 j) hi h;omega
def Ze{o:List (List Iv)}(h:∀l∈o,∀s∈l,s.lo<zk):∀x∈zH o,x<zk:=λx w=>by
 have:=qr.1 w;simp only[yU,wi,uk,z6,jQ]at this;rcases this with rfl|⟨l,u,s,hs,j⟩
 .exact xM
 .rcases j with rfl|j
  .exact h l u s hs
  .split at j
   .simp at j;omega
   .cases j
def DoInv.zero{f:XE}{a b:List Iv}(j:List (List Iv)):DoInv f a b (zH j) 0 []:=by
 obtain⟨h,e⟩:=VY j;have:KD (zH j) 0=0:=by unfold KD;rw[uj h,e]
 exact⟨trivial,(λ_ h=>by cases h),λx o=>a8,Zp _⟩
def kA(o:List (List Iv))(i j:Nat):List Nat:=0::((o.take i).flatMap z6++z6 ((o[i]?.getD []).take j))
def zf6(j:List (List Iv)):kA j 0 0=[0]:=by simp[kA,z6]
def XW(a b:List Iv):z6 (a++b)=z6 a++z6 b:=by simp[z6]
def zbv{o:List (List Iv)}{i j:Nat}(h:i<o.length)(u:o[i].length<=j):kA o i j=kA o (i+1) 0:=by unfold kA;rw[Zv h,WP,wm u,vj h,Wl];simp[z6]
def YF{o:List (List Iv)}{i j:Nat}(h:i<o.length)(u:j<o[i].length):kA o i (j+1)=kA o i j++jQ o[i][j]:=by unfold kA;rw[Zv h,WP,zaU u];simp
def zdJ{j:List (List Iv)}{i:Nat}(h:j.length<=i):kA j i 0=yU j:=by unfold kA yU;rw[wm h];simp[z6]
def zdK{o:List (List Iv)}{i:Nat}(j:Nat)(h:i<o.length):(kA o i j).length<=(yU o).length:=by
 have e:o.flatMap z6=(o.take i).flatMap z6++(z6 (o[i].take j)++z6 (o[i].drop j)++(o.drop (i+1)).flatMap z6):=by
  rw[<-XW,Wb]
  conv=>lhs;rw[<-Wb i o,VS h,Wl,We]
 unfold kA yU;rw[e,Zv h,WP];simp
end
section
open Go.RowKit
def v7{α:Type}(P:Program)(E:Nat)(F:Array Value)(o:α->Array Value)(T:Nat->Prop)(C:World->World->Prop)(y:List α)(W:World):Prop:=
 ∀(l:Nat)(J u:List α->World->Prop),
  (∀pre A B,J pre A->Keep T A B->J pre B)->(∀pre A B,u pre A->Keep T A B->u pre B) ->
  (∀pre x w,J pre w->pre++[x] <+: y->YieldAt Fence.wide 7 P l (o x) w λe j=>
    (e=.returned (.bool true)/\J (pre++[x]) j/\C w j)\/(e=.returned (.bool false)/\u (pre++[x]) j)) ->
  J [] W ->
  CallsIn Fence.wide 8 P E (#[.func (.yield l) #[] #[]]++F) W λe j=>(∃v,e=.returned v)/\(J y j\/∃pre,pre <+: y/\u pre j)
def zsL{α:Type}(P:Program)(G:Nat)(H:Array Value)(o:α->Array Value)(T:Nat->Prop)(F:World->World->Prop)(E:List α->α->Prop)(y w:List α->Prop)(W:World):Prop:=
 ∀(l:Nat)(J u:List α->World->Prop),
  (∀pre A B,J pre A->Keep T A B->J pre B)->(∀pre A B,u pre A->Keep T A B->u pre B) ->
  (∀pre x C,J pre C->E pre x->YieldAt Fence.wide 7 P l (o x) C λe j=>
    (e=.returned (.bool true)/\J (pre++[x]) j/\F C j)\/(e=.returned (.bool false)/\u (pre++[x]) j)) ->
  J [] W ->
  CallsIn Fence.wide 8 P G (#[.func (.yield l) #[] #[]]++H) W λe j=>(∃v,e=.returned v)/\((∃pre,y pre/\J pre j)\/∃pre,w pre/\u pre j)
def zgi{α:Type}(S:World->World->Prop)(I:List α->World->Prop)(o:Code->List α->World->Prop)(j:List α)(W:World):Exit->Act->World->Prop
 |.normal,_,W'=>S W W'/\I j W'
 |.ret,_,W'=>S W W'/\o .ret j W'
 |.exit id,_,W'=>S W W'/\o (.exit id) j W'
 |.goto t,_,W'=>S W W'/\o (.goto t) j W'
 |.panic _,_,_=>False
 |.outgrown,_,_=>False
def zsS{α:Type}{P:Program}{g:Operand}{ps:Array Tmp}{assign body:Code}{Q:Exit->Act->World->Prop}{a:Act}{w:World}
 (gf:Nat) (lb:Array Value) (hg:a.eval g=.func (.func gf) #[] lb) (eg:∀af w,(callFunc gf af).run P w=.ok (.enter gf af) w)
 (L:α->Array Value) (aN:∀x,(L x).size=ps.size) (T:Nat->Prop) (Pt:World->World->Prop) (Ok:List α->α->Prop) (ar aq:List α->Prop)
 (aM:∀W,Keep (λ_=>False) w W->W.heap.size=w.heap.size+2->zsL P gf lb L T Pt Ok ar aq W)
 (S:World->World->Prop) (ab:∀A B,S A B->∀k,k=w.heap.size\/k=w.heap.size+1->k<A.heap.size->B.heap[k]?=A.heap[k]?) (au:∀A B,S A B->Pt A B)
 (ai:∀A B C,Pt A B->Pt B C->Pt A C) (ag:∀A B,Keep (λk=>k=w.heap.size+1) A B->(∃o,A.heap[w.heap.size+1]?=some (.loop o))->Pt A B) (ac:¬T w.heap.size/\¬T (w.heap.size+1))
 (I:List α->World->Prop) (Ix:Code->List α->World->Prop)
 (hI:∀pre A B,I pre A->Keep (λk=>T k\/k=w.heap.size\/k=w.heap.size+1) A B->I pre B)
 (U:∀c pre A B,Ix c pre A->Keep (λk=>T k\/k=w.heap.size\/k=w.heap.size+1) A B->Ix c pre B)
 (h0:I [] w)
 (Ax:List α->α->Act->World->Prop)
 (aD:∀pre x a' A B,Ax pre x a' A->Keep (λk=>k=w.heap.size+1) A B->Ax pre x a' B)
 (X:∀l pre x W,Ok pre x->w.heap.size+1<W.heap.size->I pre W ->
   assign.wpIn (Fence.wide.inRound l) 7 P (Exit.then (λa' W'=>S W W'/\Ax pre x a' W') (λ_ _ _=>False)) { tmps:=(ps.zip (L x)).foldl (λt (p,v)=>t.setIfInBounds p v) a.tmps,defers:=[] } W)
 (aj:∀l pre x a' W,Ok pre x->w.heap.size+1<W.heap.size->Ax pre x a' W->body.wpIn (Fence.wide.inRound l) 7 P (zgi S I Ix (pre++[x]) W) a' W)
 (ak:∀pre W,ar pre->I pre W->W.heap[w.heap.size]?=some (.deferred (some []))->Q .normal { a with defers:={ target:=.collected w.heap.size,args:=#[] }::a.defers } W)
 (ao:∀c pre W,aq pre->Ix c pre W->W.heap[w.heap.size]?=some (.deferred (some []))->c.wpIn Fence.wide 9 P Q { a with defers:={ target:=.collected w.heap.size,args:=#[] }::a.defers } W) :
 (Code.rangeFunc g ps assign body).wpIn Fence.wide 9 P Q a w:=by
 refine wpIn_rangeFunc ?_;intro fn aL;rw[show Fence.wide.round=none from rfl];obtain⟨y,j⟩:∃y:LoopState->Option Code->Loop,y=λst pe=>{ state:=st,pending:=pe,fn,tmps:=a.tmps,params:=ps,assign,body,defers:=w.heap.size }:=⟨_,rfl⟩;obtain⟨N,V⟩:=xt ((w.alloc (.deferred (some []))).alloc (.loop (y .ready none)));have aG:N.heap[w.heap.size+1]?=some (.loop (y .ready none)):=by
  rw[<-V];have:=tn (w.alloc (.deferred (some []))) (.loop (y .ready none));rwa[tv]at this
 have aF:N.heap[w.heap.size]?=some (.deferred (some [])):=by rw[<-V];exact(tu _ _ _ b6).trans (tn w _)
 have aw:Keep (λ_=>False) w N:=by rw[<-V];exact((Keep.refl _ _).alloc _).alloc _
 have aO:N.heap.size=w.heap.size+2:=by rw[<-V];simp
 have aE:I [] N:=hI _ _ _ h0 (aw.mono λ_ _ h=>h.elim);refine⟨w.heap.size+1,[{ target:=.collected w.heap.size,args:=#[] }],N,{ target:=.fn (.func gf) lb,args:=#[.func (.yield (w.heap.size+1)) #[] #[]] },N,gf,
  #[.func (.yield (w.heap.size+1)) #[] #[]]++lb,N,?_,?_,?_,?_,λ_=>a8,?_⟩
 .rw[<-V,j];exact run_enterLoop_outer _ _ _ _ _
 .simp only[resolve,hg];simp[go_sem]
 .intro f' _;trivial
 .simp[invoke,go_sem,eg]
 .refine(aM N aw aO (w.heap.size+1)
   (λpre W=>I pre W/\W.heap[w.heap.size+1]?=some (.loop (y .ready none))/\W.heap[w.heap.size]?=some (.deferred (some [])))
   (λpre W=>∃c,Ix c pre W/\W.heap[w.heap.size+1]?=some (.loop (y .done (some c)))/\W.heap[w.heap.size]?=some (.deferred (some [])))
   ?_ ?_ ?_ ⟨aE,aG,aF⟩).mono ?_
  .rintro pre A B ⟨hi,Z,hk⟩ h;exact⟨hI _ _ _ hi (h.mono λ_ _ e=>.inl e),h.obj Z ac.2,h.obj hk ac.1⟩
  .rintro pre A B ⟨c,hi,Z,hk⟩ h;exact⟨c,U _ _ _ _ hi (h.mono λ_ _ e=>.inl e),h.obj Z ac.2,h.obj hk ac.1⟩
  .rintro pre x W ⟨hi,Z,hk⟩ aC;have az:w.heap.size+1<W.heap.size:=(XV.1 Z).1;have hy:=run_yield (P:=P) (args:=L x) Z (by rw[j];exact aN x);rw[j]at hy;refine⟨fn,_,assign,body,hy,roundIn_of_wpIn aL (wpIn_mono (X _ pre x W aC az hi) ?_)⟩;intro e a1 Wa he;cases e with
   | normal=>
     obtain⟨am,aH⟩:=he;have an:Wa.heap[w.heap.size+1]?=some (.loop (y .ready none)):=(ab _ _ am _ (.inr rfl) az).trans Z;have aK:Wa.heap[w.heap.size]?=some (.deferred (some [])):=(ab _ _ am _ (.inl rfl) a8).trans hk;have ah:w.heap.size+1<Wa.heap.size:=(XV.1 an).1;refine⟨_,run_beginRound an (by rw[j]),?_⟩;obtain⟨W2,ad⟩:=xt (Wa.putObj (w.heap.size+1) (.loop { y .ready none with state:=.busy }));rw[ad];have Y:Keep (λk=>k=w.heap.size+1) Wa W2:=(by rw[<-ad];exact(Keep.refl (λk=>k=w.heap.size+1) Wa).putObj (λ_=>rfl) _);have ax:W2.heap[w.heap.size+1]?=some (.loop { y .ready none with state:=.busy }):=(by rw[<-ad];exact Tk ah);have aI:W2.heap[w.heap.size]?=some (.deferred (some [])):=Y.obj aK a8;refine wpIn_mono (aj _ pre x a1 W2 aC (by rw[<-ad];simpa using ah) (aD _ _ _ _ _ aH Y)) ?_;have fin:∀(E:Option Code)(O:World),S W2 O->∃W4,
      (Instr.endRound (w.heap.size+1) E).run P O=.ok (.bool E.isNone) W4 /\
      W4.heap[w.heap.size+1]?=some (.loop (y (if E.isNone then .ready else .done) E)) /\
      W4.heap[w.heap.size]?=some (.deferred (some []))/\Keep (λk=>k=w.heap.size+1) O W4/\Pt W W4:=λE O u=>by
      have aA:w.heap.size+1<W2.heap.size:=(XV.1 ax).1;have ae:=(ab _ _ u _ (.inr rfl) aA).trans ax;have aJ:=(ab _ _ u _ (.inl rfl) a8).trans aI;have F:=run_endRound (P:=P) E ae;rw[j]at F⊢;have ay:=ae;rw[j]at ay;refine⟨_,F,Tk (XV.1 ae).1,(tN a8).trans aJ,(Keep.refl (λk=>k=w.heap.size+1) O).putObj (λ_=>rfl) _,?_⟩;exact ai _ _ _ (au _ _ am) (ai _ _ _ (ag _ _ Y ⟨_,an⟩) (ai _ _ _ (au _ _ u) (ag _ _ ((Keep.refl (λk=>k=w.heap.size+1) O).putObj (λ_=>rfl) _) ⟨_,ae⟩)))
     rintro e a3 O hp;cases e with
     |normal=>obtain⟨u,H⟩:=hp;obtain⟨W4,F,K,G,J,M⟩:=fin none O u;exact⟨_,_,F,.inl ⟨rfl,⟨hI _ _ _ H (J.mono λ_ _ e=>.inr (.inr e)),K,G⟩,M⟩⟩
     |ret=>obtain⟨u,H⟩:=hp;obtain⟨W4,F,K,G,J,M⟩:=fin (some .ret) O u;exact⟨_,_,F,.inr ⟨rfl,.ret,U _ _ _ _ H (J.mono λ_ _ e=>.inr (.inr e)),K,G⟩⟩
     |exit id=>obtain⟨u,H⟩:=hp;obtain⟨W4,F,K,G,J,M⟩:=fin (some (.exit id)) O u;exact⟨_,_,F,.inr ⟨rfl,.exit id,U _ _ _ _ H (J.mono λ_ _ e=>.inr (.inr e)),K,G⟩⟩
     |goto t=>obtain⟨u,H⟩:=hp;obtain⟨W4,F,K,G,J,M⟩:=fin (some (.goto t)) O u;exact⟨_,_,F,.inr ⟨rfl,.goto t,U _ _ _ _ H (J.mono λ_ _ e=>.inr (.inr e)),K,G⟩⟩
     |panic ch=>exact hp.elim
     |outgrown=>exact hp.elim
   |ret=>exact he.elim
   |exit id=>exact he.elim
   |goto t=>exact he.elim
   |panic ch=>exact he.elim
   |outgrown=>exact he.elim
  .rintro e W2 ⟨⟨v,rfl⟩,(⟨pre,av,hi,Z,hk⟩|⟨pre,aB,c,hi,Z,hk⟩)⟩
   .have F:=T0 (P:=P) Z (by rw[j];simp);refine⟨none,_,by rw[j]at F;exact F,ak _ _ av (hI _ _ _ hi ((Keep.refl _ _).putObj (λ_=>.inr (.inr rfl)) _)) ((tN a8).trans hk)⟩
   .have F:=T0 (P:=P) Z (by rw[j];simp);refine⟨some c,_,by rw[j]at F;exact F,ao c pre _ aB (U _ _ _ _ hi ((Keep.refl _ _).putObj (λ_=>.inr (.inr rfl)) _)) ((tN a8).trans hk)⟩
def Xt{α:Type}{P:Program}{g:Operand}{ps:Array Tmp}{j G:Code}{Q:Exit->Act->World->Prop}{a:Act}{w:World}
 (V:Nat) (lb:Array Value) (hg:a.eval g=.func (.func V) #[] lb) (eg:∀F w,(callFunc V F).run P w=.ok (.enter V F) w)
 (u:α->Array Value) (ag:∀x,(u x).size=ps.size) (T:Nat->Prop) (H:World->World->Prop) (E:List α)
 (af:∀W,Keep (λ_=>False) w W->W.heap.size=w.heap.size+2->v7 P V lb u T H E W)
 (S:World->World->Prop) (ac:∀A B,S A B->∀k,k=w.heap.size\/k=w.heap.size+1->k<A.heap.size->B.heap[k]?=A.heap[k]?) (ad:∀A B,S A B->H A B)
 (ab:∀A B C,H A B->H B C->H A C) (X:∀A B,Keep (λk=>k=w.heap.size+1) A B->(∃o,A.heap[w.heap.size+1]?=some (.loop o))->H A B) (ae:¬T w.heap.size/\¬T (w.heap.size+1))
 (I:List α->World->Prop) (U:Code->List α->World->Prop)
 (hI:∀pre A B,I pre A->Keep (λk=>T k\/k=w.heap.size\/k=w.heap.size+1) A B->I pre B)
 (Z:∀c pre A B,U c pre A->Keep (λk=>T k\/k=w.heap.size\/k=w.heap.size+1) A B->U c pre B)
 (h0:I [] w)
 (O:List α->α->Act->World->Prop)
 (Y:∀pre x K A B,O pre x K A->Keep (λk=>k=w.heap.size+1) A B->O pre x K B)
 (y:∀l pre x W,pre++[x] <+: E->w.heap.size+1<W.heap.size->I pre W ->
   j.wpIn (Fence.wide.inRound l) 7 P (Exit.then (λK W'=>S W W'/\O pre x K W') (λ_ _ _=>False)) { tmps:=(ps.zip (u x)).foldl (λt (p,v)=>t.setIfInBounds p v) a.tmps,defers:=[] } W)
 (L:∀l pre x K W,pre++[x] <+: E->w.heap.size+1<W.heap.size->O pre x K W->G.wpIn (Fence.wide.inRound l) 7 P (zgi S I U (pre++[x]) W) K W)
 (M:∀W,I E W->W.heap[w.heap.size]?=some (.deferred (some []))->Q .normal { a with defers:={ target:=.collected w.heap.size,args:=#[] }::a.defers } W)
 (N:∀c pre W,pre <+: E->U c pre W->W.heap[w.heap.size]?=some (.deferred (some []))->c.wpIn Fence.wide 9 P Q { a with defers:={ target:=.collected w.heap.size,args:=#[] }::a.defers } W) :
 (Code.rangeFunc g ps j G).wpIn Fence.wide 9 P Q a w:=
 zsS V lb hg eg u ag T H (λpre x=>pre++[x] <+: E) (·=E) (· <+: E) (λW h1 h2 l J Jx q1 q2 q3 q4=>(af W h1 h2 l J Jx q1 q2 q3 q4).mono λ_ _ h=>⟨h.1,h.2.imp (λh=>⟨E,rfl,h⟩) id⟩) S ac ad ab X ae I U hI Z h0 O Y y L (λpre W e=>by subst e;exact M W) N
def rdE(u:Nat)(w:World)(b o:Nat)(e:En):Prop:=w.cell? ⟨b,o,none⟩=some (.int .u64 e.rep)/\w.cell? ⟨b,o+1,none⟩=some (.int .u64 e.max)/\(∃j,w.cell? ⟨b,o+2,none⟩=some j/\RdR 0 u w j e.holes)/\e.rep<zk/\e.max<zk
def RdV(j:Nat)(w:World)(v:Value)(l:List En):Prop:=RdSl 3 (rdE j) 0 j w v l
def RdV.keep{j:Nat}{w w':World}{v:Value}{l:List En}(h:RdV j w v l)(hb:∀k,k<j->w'.heap[k]?=w.heap[k]?):RdV j w' v l:=
 RdSl.keep h (Zp _) (Zp _) λb o x _ h2 ⟨c0,c1,⟨hv,c2,c3⟩,c4⟩=>
  ⟨(tl (a:=⟨b,o,none⟩) (hb b h2)).trans c0,(tl (a:=⟨b,o+1,none⟩) (hb b h2)).trans c1,⟨hv,(tl (a:=⟨b,o+2,none⟩) (hb b h2)).trans c2,c3.keep (Zp _) (Zp _) λb _ h=>hb b h⟩,c4⟩
def zC(e:En):List Nat:=e.rep::e.max::e.holes.length::e.holes.flatMap λs=>[s.lo,s.hi]
def zv(v:List En):List Nat:=v.length::v.flatMap zC
def PtE(u j:Nat)(A B:World):Prop:=A.heap.size<=B.heap.size/\∀k,k<A.heap.size->(k<u\/k=j\/∃o f t,A.heap[k]?=some (.cells o t f)/\(t = 181 \/ t = 61))->B.heap[k]?=A.heap[k]?
def RdV.pt{j u:Nat}{w o:World}{v:Value}{l:List En}(h:RdV j w v l)(y:PtE j u w o)(A:j<=w.heap.size):RdV j o v l:=h.keep λk hk=>y.2 k a8 (.inl hk)
def zko(x y z:Int)(w:World):(Instr.index 292 (.agg #[.int .u64 x,.int .u64 y,.int .u64 z]) (.int .i64 0)).run Tryz.prog w=.ok (.int .u64 x) w:=dK
def zkp(x y z:Int)(w:World):(Instr.index 292 (.agg #[.int .u64 x,.int .u64 y,.int .u64 z]) (.int .i64 1)).run Tryz.prog w=.ok (.int .u64 y) w:=dK
def zkq(x y z:Int)(w:World):(Instr.index 292 (.agg #[.int .u64 x,.int .u64 y,.int .u64 z]) (.int .i64 2)).run Tryz.prog w=.ok (.int .u64 z) w:=dK
def zfR{v:List En}{k:Nat}(h:k<v.length):zv v=(v.length::(v.take k).flatMap zC)++zC v[k]++(v.drop (k+1)).flatMap zC:=by
 unfold zv
 conv=>lhs;rw[<-Wb k v,VS h,Wl,We]
 simp
def Vt(v:List En)(va:Value)(Bv B:Nat)(W0:World)(hv:RdV B W0 va v)(hb:Boxed W0 Bv 57 va)(aF:B<=W0.heap.size):
 v7 Tryz.prog 215 #[.pointer (some ⟨Bv,0,none⟩)] (λx:Nat=>#[.int .u64 x]) (λ_=>False) (PtE B Bv) (zv v) W0:=by
 intro l J Jx hJ aq hY h0;refine callsIn_wide.2 ?_;show Calls Tryz.prog 215 #[.func (.yield l) #[] #[],.pointer (some ⟨Bv,0,none⟩)] W0 _;have HJ:=qL hJ;have bn:=qL aq;have HY:=qL hY;have HV:=qL hv;clear hJ aq hY;have bu:=hv.len;obtain⟨av,L,rfl,ba,aB,ae⟩:=hv;unfold maxLen at aB;have hM:=zw;have bw:IntKind.u64.wrap ((v.length:Nat):Int)=(v.length:Int):=ZR a8;have aY:=hb.cell;obtain⟨fn,K,u,H,T,N⟩:=HY.o [] v.length W0 h0 ⟨v.flatMap zC,rfl⟩;dsimp only at T;clear hM;go_enter func215,ntmps215
 go_upto_region 0 with fail
 refine(Tt (n:=8)).1 ?_
 gi_wp2
 refine N.mono ?_;rintro e w1 (⟨rfl,an,V⟩|⟨rfl,ar⟩)
 .gi_wp2
  have az:Boxed w1 Bv 57 (.slice av v.length L):=(V.2 Bv hb.lt (.inr (.inl rfl))).trans hb;have aj:=qL (HV.o.pt V aF);have aG:B<=w1.heap.size:=V1 aF V.1;have aZ:=az.cell;clear T N aY hb az h0
  go_wp2_with fail
  go_loopg [17] v.length (λg x wr=>∃k:Nat,k<=v.length/\g=v.length-k/\x=.int .i64 k/\J (v.length::(v.take k).flatMap zC) wr/\RdV B wr (.slice av v.length L) v/\B<=wr.heap.size)
  case atStart=>exact⟨0,X4 _,rfl,rfl,dJ an,aj.o,aG⟩
  case round=>
   obtain⟨k,hk,rfl,rfl,U,aT,bt⟩:=hrel;obtain⟨wo,bi⟩:=xm (wr);subst bi;clear an aj aG V aZ ae;by_cases X:k<v.length
   .obtain⟨a',am,ay,_,_,aA⟩:=aT;obtain⟨b,Y,aU,_,aW,Q⟩:=aA (by intro e;subst e;simp at X);obtain⟨rfl,_,rfl⟩:av=a'/\v.length=v.length/\L=am:=(dJ ay);subst aU;obtain⟨c0,c1,⟨hv,c2,ag⟩,be,bg⟩:=Q k X;have aM:qA (RdV B wo (.slice (some ⟨b,Y,none⟩) v.length L) v):=⟨_,_,rfl,ba,by unfold maxLen;exact aB,λ_=>⟨b,Y,rfl,X4 _,aW,Q⟩⟩;have HE:qA (∃e,e=v[k]):=⟨_,rfl⟩;obtain⟨e,he⟩:=HE.o;rw[<-he]at c0 c1 ag be bg;have HK:=qL he;have br:=ag.len;obtain⟨ah,w,rfl,aD,af,I⟩:=ag;unfold maxLen at af;have bz:IntKind.u64.wrap ((e.holes.length:Nat):Int)=(e.holes.length:Int):=ZR (by rw[zw];omega);have HH:qA (RdR 0 B wo (.slice ah e.holes.length w) e.holes):=⟨_,_,rfl,aD,by unfold maxLen;exact af,I⟩;clear aA Q he HE ay I;have HP:qA (zv v=(v.length::(v.take k).flatMap zC)++zC e++(v.drop (k+1)).flatMap zC):=(by show zv v=_;rw[HK.o];exact zfR X)
    go_wp2_with fail
    go_loopg [30] 3 (λg x wr=>((g=3/\x=.int .i64 0/\J (v.length::(v.take k).flatMap zC) wr)\/(g=2/\x=.int .i64 1/\J ((v.length::(v.take k).flatMap zC)++[e.rep]) wr)\/(g=1/\x=.int .i64 2/\J ((v.length::(v.take k).flatMap zC)++[e.rep,e.max]) wr)\/(g=0/\x=.int .i64 3/\J ((v.length::(v.take k).flatMap zC)++[e.rep,e.max,e.holes.length]) wr)) /\
     RdV B wr (.slice (some ⟨b,Y,none⟩) v.length L) v/\B<=wr.heap.size/\wr.heap[wo.heap.size]?=some (.cells #[.int .u64 e.rep,.int .u64 e.max,.slice ah e.holes.length w] 181 (0,0))/\RdR 0 B wr (.slice ah e.holes.length w) e.holes)
    case atStart=>exact⟨.inl ⟨rfl,rfl,HJ.o _ _ _ U ((Keep.refl _ _).alloc _)⟩,aM.o.keep λj hj=>tu _ _ _ a8,a9,tn _ _,HH.o.keep (Zp _) (Zp _) λj _ hj=>tu _ _ _ a8⟩
    case round=>
     obtain⟨aC,P,E,A,O⟩:=hrel;clear U;have i0:=zko;have i1:=zkp;have i2:=zkq;rcases aC with⟨rfl,rfl,C⟩|⟨rfl,rfl,C⟩|⟨rfl,rfl,C⟩|⟨rfl,rfl,C⟩
     .obtain⟨fn,K,u,H,T,N⟩:=HY.o ((v.length::(v.take k).flatMap zC)) e.rep wr C ⟨e.max::e.holes.length::(e.holes.flatMap λs=>[s.lo,s.hi])++(v.drop (k+1)).flatMap zC,by rw[HP.o];simp[zC]⟩;try dsimp only at T
      go_upto_region 7 with fail
      refine(Tt (n:=8)).1 ?_
      gi_wp2
      refine N.mono ?_;rintro e' w3 (⟨rfl,F,o⟩|⟨rfl,y⟩)
      .gi_wp2
       go_wp2;go_roundg 2;case measure=>omega
       case rel=>exact⟨.inr (.inl ⟨rfl,rfl,dJ F⟩),P.pt o E,V1 E o.1,(o.2 _ (XV.1 A).1 (.inr (.inr ⟨_,_,_,A,.inl rfl⟩))).trans A,O.keep (Zp _) (Zp _) λj _ hj=>o.2 j a8 (.inl hj)⟩
      .gi_wp2
       go_wp2;refine tz (tK rfl _ _ _) rfl ?_;exact⟨⟨_,rfl⟩,.inr ⟨((v.length::(v.take k).flatMap zC))++[e.rep],⟨e.max::e.holes.length::(e.holes.flatMap λs=>[s.lo,s.hi])++(v.drop (k+1)).flatMap zC,by rw[HP.o];simp[zC]⟩,y⟩⟩
     .obtain⟨fn,K,u,H,T,N⟩:=HY.o ((v.length::(v.take k).flatMap zC)++[e.rep]) e.max wr C ⟨e.holes.length::(e.holes.flatMap λs=>[s.lo,s.hi])++(v.drop (k+1)).flatMap zC,by rw[HP.o];simp[zC]⟩;try dsimp only at T
      go_upto_region 7 with fail
      refine(Tt (n:=8)).1 ?_
      gi_wp2
      refine N.mono ?_;rintro e' w3 (⟨rfl,F,o⟩|⟨rfl,y⟩)
      .gi_wp2
       go_wp2;go_roundg 1;case measure=>omega
       case rel=>exact⟨.inr (.inr (.inl ⟨rfl,rfl,dJ F⟩)),P.pt o E,V1 E o.1,(o.2 _ (XV.1 A).1 (.inr (.inr ⟨_,_,_,A,.inl rfl⟩))).trans A,O.keep (Zp _) (Zp _) λj _ hj=>o.2 j a8 (.inl hj)⟩
      .gi_wp2
       go_wp2;refine tz (tK rfl _ _ _) rfl ?_;exact⟨⟨_,rfl⟩,.inr ⟨((v.length::(v.take k).flatMap zC)++[e.rep])++[e.max],⟨e.holes.length::(e.holes.flatMap λs=>[s.lo,s.hi])++(v.drop (k+1)).flatMap zC,by rw[HP.o];simp[zC]⟩,y⟩⟩
     .obtain⟨fn,K,u,H,T,N⟩:=HY.o ((v.length::(v.take k).flatMap zC)++[e.rep,e.max]) e.holes.length wr C ⟨(e.holes.flatMap λs=>[s.lo,s.hi])++(v.drop (k+1)).flatMap zC,by rw[HP.o];simp[zC]⟩;try dsimp only at T
      go_upto_region 7 with fail
      refine(Tt (n:=8)).1 ?_
      gi_wp2
      refine N.mono ?_;rintro e' w3 (⟨rfl,F,o⟩|⟨rfl,y⟩)
      .gi_wp2
       go_wp2;go_roundg 0;case measure=>omega
       case rel=>exact⟨.inr (.inr (.inr (⟨rfl,rfl,dJ F⟩))),P.pt o E,V1 E o.1,(o.2 _ (XV.1 A).1 (.inr (.inr ⟨_,_,_,A,.inl rfl⟩))).trans A,O.keep (Zp _) (Zp _) λj _ hj=>o.2 j a8 (.inl hj)⟩
      .gi_wp2
       go_wp2;refine tz (tK rfl _ _ _) rfl ?_;exact⟨⟨_,rfl⟩,.inr ⟨((v.length::(v.take k).flatMap zC)++[e.rep,e.max])++[e.holes.length],⟨(e.holes.flatMap λs=>[s.lo,s.hi])++(v.drop (k+1)).flatMap zC,by rw[HP.o];simp[zC]⟩,y⟩⟩
     .have d0:wr.cell? ⟨wo.heap.size,2,none⟩=some (.slice ah e.holes.length w):=(by simp[World.cell?,A])
      go_wp2_with fail
      go_loopg [41] e.holes.length (λg x wr=>∃j:Nat,j<=e.holes.length/\g=e.holes.length-j/\x=.int .i64 j/\J (((v.length::(v.take k).flatMap zC)++[e.rep,e.max,e.holes.length])++(e.holes.take j).flatMap λs=>[s.lo,s.hi]) wr/\RdV B wr (.slice (some ⟨b,Y,none⟩) v.length L) v/\B<=wr.heap.size/\RdR 0 B wr (.slice ah e.holes.length w) e.holes)
      case atStart=>exact⟨0,X4 _,rfl,rfl,dJ C,P,E,O⟩
      case round=>
       obtain⟨j,hj,rfl,rfl,ao,ad,aH,aS⟩:=hrel;clear C P E O d0 A;obtain⟨M,aI⟩:∃wo,wo=wr:=⟨_,rfl⟩;subst aI;by_cases S:j<e.holes.length
       .obtain⟨aN,ac,ax,_,_,Z⟩:=aS;obtain⟨bh,ab,aw,_,aV,G⟩:=Z (by intro e';rw[e']at S;simp at S);obtain⟨rfl,rfl⟩:ah=aN/\w=ac:=(dJ ax);subst aw;obtain⟨c3,c4,s1,s2⟩:=G j S;obtain⟨s,hs⟩:=xm (e.holes[j]);rw[<-hs]at c3 c4 s1 s2;have HS:=qL hs;have aK:qA (RdR 0 B M (.slice (some ⟨bh,ab,none⟩) e.holes.length w) e.holes):=⟨_,_,rfl,aD,by unfold maxLen;exact af,λ_=>⟨bh,ab,rfl,X4 _,aV,G⟩⟩;clear hs Z G ax;have aL:=qL ad;clear ad;have aP:=HJ.o _ _ _ ao ((Keep.refl _ M).alloc (.cells #[.int .u64 s.lo,.int .u64 s.hi] 61));have HF:qA (zv v=((v.length::(v.take k).flatMap zC)++[e.rep,e.max,e.holes.length])++((e.holes.take j).flatMap λs=>[s.lo,s.hi])++[s.lo,s.hi]++(((e.holes.drop (j+1)).flatMap λs=>[s.lo,s.hi])++(v.drop (k+1)).flatMap zC)):=by
         show zv v=_;rw[HP.o];unfold zC
         conv=>lhs;rw[<-Wb j e.holes,VS S,<-HS.o]
         simp;omega
        obtain⟨fn,K,u,H,T,N⟩:=HY.o (((v.length::(v.take k).flatMap zC)++[e.rep,e.max,e.holes.length])++((e.holes.take j).flatMap λs=>[s.lo,s.hi])) s.lo _ aP ⟨s.hi::(((e.holes.drop (j+1)).flatMap λs=>[s.lo,s.hi])++(v.drop (k+1)).flatMap zC),by rw[HF.o];simp only[wQ,yb,Yf]⟩;try dsimp only at T
        go_upto_region 12 with fail
        refine(Tt (n:=8)).1 ?_
        gi_wp2
        refine N.mono ?_;rintro e' w3 (⟨rfl,F,o⟩|⟨rfl,y⟩)
        .have aX:w3.heap[M.heap.size]?=some (.cells #[.int .u64 s.lo,.int .u64 s.hi] 61 (0,0)):=(o.2 _ b6 (.inr (.inr ⟨_,_,_,tn _ _,.inr rfl⟩))).trans (tn _ _);have bq:w3.cell? ⟨M.heap.size,1,none⟩=some (.int .u64 s.hi):=(by simp[World.cell?,aX]);have bc:B<=w3.heap.size:=V1 aH (V1 b6 o.1);have aJ:qA (∀q,q<B->w3.heap[q]?=M.heap[q]?):=λq hq=>(o.2 q a9 (.inl hq)).trans (tu _ _ _ a8);obtain⟨bp,bl,ak,aO,bj,aR⟩:=HY.o ((((v.length::(v.take k).flatMap zC)++[e.rep,e.max,e.holes.length])++((e.holes.take j).flatMap λs=>[s.lo,s.hi]))++[s.lo]) s.hi w3 F ⟨(((e.holes.drop (j+1)).flatMap λs=>[s.lo,s.hi])++(v.drop (k+1)).flatMap zC),by rw[HF.o];simp only[wQ,yb,Yf]⟩;try dsimp only at bj
         clear T N
         gi_wp2
         refine aR.mono ?_;rintro e2 w4 (⟨rfl,aQ,aE⟩|⟨rfl,au⟩)
         .gi_wp2
          go_wp2;go_roundg (e.holes.length-(j+1));case measure=>omega
          case rel=>have ai:∀q,q<B->w4.heap[q]?=M.heap[q]?:=λq hq=>(aE.2 q a8 (.inl hq)).trans (aJ.o q hq);refine⟨j+1,a8,rfl,by go_num,?_,aL.o.keep ai,V1 bc aE.1,aK.o.keep (Zp _) (Zp _) λq _ hq=>ai q hq⟩;rw[vj S,Wl,<-HS.o];simpa using aQ
         .gi_wp2
          go_wp2;refine tz (tK rfl _ _ _) rfl ?_;exact⟨⟨_,rfl⟩,.inr ⟨_,⟨(((e.holes.drop (j+1)).flatMap λs=>[s.lo,s.hi])++(v.drop (k+1)).flatMap zC),by rw[HF.o];simp only[wQ,yb,Yf]⟩,au⟩⟩
        .gi_wp2
         refine⟨λf hf=>(by cases hf),?_⟩
         gi_wp2
         go_wp2;refine tz (tK rfl _ _ _) rfl ?_;exact⟨⟨_,rfl⟩,.inr ⟨_,⟨s.hi::(((e.holes.drop (j+1)).flatMap λs=>[s.lo,s.hi])++(v.drop (k+1)).flatMap zC),by rw[HF.o];simp only[wQ,yb,Yf]⟩,y⟩⟩
       .obtain rfl:j=e.holes.length:=a8
        go_wp2;go_roundg (v.length-(k+1));case measure=>omega
        case rel=>refine⟨k+1,a8,rfl,by go_num,?_,ad,aH⟩;rw[vj X,Wl,<-HK.o];simpa[zC]using ao
   .obtain rfl:k=v.length:=a8
    go_wp2;refine bodyPost_end (tK rfl _ _ _) rfl ?_;rw[wm (Zp _)]at U;exact⟨⟨_,rfl⟩,.inl U⟩
 .gi_wp2
  go_wp2;refine tz (tK rfl _ _ _) rfl ?_;exact⟨⟨_,rfl⟩,.inr ⟨[v.length],⟨v.flatMap zC,rfl⟩,ar⟩⟩
attribute [local go_sem] Oper.semAt_some
def Vu(a:Option Addr)(n c:Nat)(w:World):Calls Tryz.prog 210 #[.slice a n c] w λe j=>e=.returned (.func (.func 215) #[] #[.pointer (some ⟨w.heap.size,0,none⟩)])/\j=w.alloc (.cells #[.slice a n c] 57):=by
 go_enter func210,ntmps210
 go_wp2;go_ret;exact⟨rfl,rfl⟩
def OwnN(base:Nat)(w:World)(v:Value)(j:List Nat):Prop:=w.ownsRow base 36 1 v j.length (j.map λx=>.int .u64 (x:Nat))
def OwnN.nil(base:Nat)(w:World):OwnN base w (.slice none 0 0) []:=tR _ _ _ _
def OwnN.keep{base:Nat}{S:Nat->Prop}{w w':World}{v:Value}{l:List Nat}(h:OwnN base w v l)(hb:Keep S w w')(hs:∀g,base<=g->g<w.heap.size->¬S g):OwnN base w' v l:=
 hb.ownsRow h λg j=>hs g (h.lt g j).1 (h.lt g j).2
def OwnN.mono{base j:Nat}{w:World}{v:Value}{l:List Nat}(h:OwnN base w v l)(hb:j<=base):OwnN j w v l:=by
 refine⟨h.1,?_⟩;rcases h.2 with A|⟨g,o,u,B,y,r⟩
 .exact .inl A
 .exact .inr ⟨g,o,u,B,V1 hb y,r⟩
def SN(j:Nat)(A B:World):Prop:=(∃v,Boxed A j 128 v)/\Keep (λk=>k=j\/(j+4<=k/\∃o f,A.heap[k]?=some (.cells o 36 f))) A B
def SN.pt{y:Nat}{A B:World}(h:SN y A B):PtE y (y+1) A B:=by
 obtain⟨⟨v,F⟩,hk⟩:=h;refine⟨hk.size,λk u j=>hk.block k u ?_⟩;rintro(rfl|⟨H,C,f,o⟩)
 .rcases j with j|j|⟨C,f,t,j,ht⟩
  .omega
  .omega
  .have w:A.heap[k]?=some (.cells #[v] 128 (0,0)):=F;rw[w]at j;cases j;rcases ht with ht|ht<;>cases ht
 .rcases j with j|j|⟨E,G,t,j,ht⟩
  .omega
  .omega
  .rw[o]at j;cases j;rcases ht with ht|ht<;>cases ht
def Q5{W C:World}{w:Nat}{v A:Value}{M ys:List Nat}{B:Obj}
 (G:Boxed W w 128 v) (u:OwnN (w+4) W v M) (y:C.ownsRow (w+4) 36 1 A ys.length (ys.map λx=>.int .u64 (x:Nat))) (o:(W.alloc B).grownBy C v.ownBlock) :
 Boxed (C.setCell ⟨w,0,none⟩ A) w 128 A/\OwnN (w+4) (C.setCell ⟨w,0,none⟩ A) A ys/\SN w W (C.setCell ⟨w,0,none⟩ A):=by
 have F : 128 ≠ 36 :=b8
 obtain⟨N,J,K,O⟩:=qO G F u y o;refine⟨J,K,⟨v,G⟩,?_⟩;refine Keep.setCell (p:=⟨w,0,none⟩) ?_ (λ_=>.inl rfl) _;refine((Keep.refl _ W).alloc B).grown o λj E _=>.inr ⟨(u.lt j E).1,?_⟩;rcases u.2 with⟨rfl,_⟩|⟨g,H,I,rfl,P,L,_⟩
 .cases E
 .have:g=j:=(by simpa[Value.ownBlock]using E);subst this;exact⟨_,_,L⟩
def Tryz.infoU:(Tryz.prog.info? 36).map (λi=>(i.zero,i.size,i.bytes))=some (some (Value.int .u64 0),1,8):=dK
def Q4(v:List En)(va:Value)(w:World)(hv:RdV w.heap.size w va v)(ac:(zv v).length<=1073741824):
 Calls Tryz.prog 197 #[va] w λe Z=>∃u,e=.returned u/\OwnN w.heap.size Z u (zv v)/\Below w.heap.size w Z:=by
 have HV:=qL hv;obtain⟨N,K,rfl,_⟩:=hv;refine callsIn_wide.1 (t9 (n:=9) func197 rfl trivial ?_ rfl);simp only[ntmps197,WA,wv,Ww,Nat.reduceAdd,Nat.reduceSub,uu,uv,uG,uw,Yf,yb]
 gi_wp2_with (refine⟨trivial,?_⟩;gi_at_call 210;refine(callsIn_wide.2 (Vu _ _ _ _)).mono ?_;rintro e Z ⟨rfl,rfl⟩)
 obtain⟨J,I⟩:=xt (((w.alloc (Obj.cells #[Value.slice none 0 0] 128)).alloc (Obj.cells #[Value.slice N v.length K] 57)));have ad:J.heap.size=w.heap.size+2:=by rw[<-I];simp
 have b0:Boxed J w.heap.size 128 (Value.slice none 0 0):=by rw[<-I];exact(tT w _ _).alloc _
 have b1:Boxed J (w.heap.size+1) 57 (Value.slice N v.length K):=by rw[<-I];have:=tT (w.alloc (Obj.cells #[Value.slice none 0 0] 128)) 57 (Value.slice N v.length K);rw[tv]at this;exact this
 have O:Below w.heap.size w J:=by rw[<-I];exact((tr _ _).alloc (Zp _) _).alloc b6 _
 try simp only[tv]
 rw [I];clear I;refine Xt (w:=J) 215 #[.pointer (some ⟨w.heap.size+1,0,none⟩)] rfl (enters_of func215 dK rfl) (λx:Nat=>#[.int .u64 x]) (λ_=>rfl)
  (λ_=>False) (PtE w.heap.size (w.heap.size+1)) (zv v) ?hit
  (SN w.heap.size) (λA B h k hk L=>h.2.block k L (by rintro(e|⟨e,_⟩)<;>omega)) (λA B h=>h.pt)
  ?hPt ?hPt0 ⟨id,id⟩
  (λpre W=>(∃u,Boxed W w.heap.size 128 u/\OwnN (w.heap.size+4) W u pre)/\Below w.heap.size w W)
  (λ_ _ _=>False) ?hI (λ_ _ _ _ h _=>h) ⟨⟨_,b0,OwnN.nil _ _⟩,O⟩
  (λpre x Q W=>((∃u,Boxed W w.heap.size 128 u/\OwnN (w.heap.size+4) W u pre)/\Below w.heap.size w W) /\
    Q={ tmps:=#[Value.slice N v.length K,undef,Value.slice none 0 0,Value.pointer (some ⟨w.heap.size,0,none⟩),.int .u64 (x:Nat),Value.slice N v.length K,Value.func (Fn.func 215) #[] #[Value.pointer (some ⟨w.heap.size+1,0,none⟩)],.int .u64 (x:Nat),undef,undef,undef,undef,undef],defers:=[] })
  ?hAx ?hassign ?hbody ?hdone (λ_ _ _ _ h _=>h.elim)
 case hit=>intro W hk _;exact Vt v _ (w.heap.size+1) w.heap.size W (RdV.keep HV.o λk U=>((O.trans (hk.below a8 λ_ _=>id)).block k U)) (hk.boxed b1 id) (by have:=hk.size;omega)
 case hPt=>
  rintro A B C ⟨E,H⟩ ⟨F,h4⟩;refine⟨V1 E F,λk hk y=>?_⟩;have e1:=H k hk y;refine(h4 k a8 ?_).trans e1;rcases y with y|y|⟨cs,f,t,y,ht⟩
  .exact .inl y
  .exact .inr (.inl y)
  .exact .inr (.inr ⟨cs,f,t,by rw[e1];exact y,ht⟩)
 case hPt0=>
  rintro A B hk ⟨o,ho⟩;refine⟨hk.size,λk L y=>hk.block k L ?_⟩;rintro rfl;rcases y with y|y|⟨cs,f,t,y,ht⟩
  .omega
  .omega
  .rw[ho]at y;cases y
 case hI=>rintro pre A B ⟨⟨u,E,H⟩,F⟩ T;have hk:Keep (λk=>k=J.heap.size\/k=J.heap.size+1) A B:=T.mono λ_ _ h=>h.elim False.elim id;exact⟨⟨u,hk.boxed E a8,H.keep hk (λg hg _=>a8)⟩,F.trans (hk.below F.size λk hk=>a8)⟩
 case hAx=>rintro pre x Q A B ⟨⟨⟨u,E,H⟩,F⟩,rfl⟩ hk;exact⟨⟨⟨u,hk.boxed E a8,H.keep hk (λg hg _=>a8)⟩,F.trans (hk.below F.size λk hk=>a8)⟩,rfl⟩
 case hassign=>
  rintro l pre x W M L ⟨⟨u,E,H⟩,F⟩;clear M
  gi_wp2
  exact⟨⟨⟨u,E⟩,Keep.refl _ _⟩,⟨⟨u,E,H⟩,F⟩,trivial⟩
 case hbody=>
  rintro l pre x Q W M L ⟨⟨⟨u,E,H⟩,F⟩,rfl⟩;have y:=E.cell;have hf:=E.frozen;obtain⟨i0,S,V,X,Y⟩:=tP Tryz.infoU;have hl:pre.length+1<=(zv v).length:=(by have:=M.length_le;simpa using this)
  gi_wp2_with (gi_at_builtin;refine Ty _ rfl _ _ 128 rfl (w.heap.size+4) 36 i0 (.int .u64 0) 1 8 underlying128 S V X Y rfl b8 _ _ _ rfl (H.alloc _) ⟨W.heap.size,0,none⟩ 1 1 [.int .u64 (x:Nat)] rfl rfl (kw (cs:=#[.int .u64 (x:Nat)]) (t := 36) (fr:=(0,0)) (tn W _)) dG c8 a8 (by rw[tv];omega) ?_;intro v' w3 j G _;obtain⟨g',ab,rfl⟩:=TT j;obtain⟨q2,q3,q4⟩:=Q5 (ys:=pre++[x]) E H (dJ j) G;have ae:=(qO E b8 H j G).1.cell;have af:=(qO E b8 H j G).1.frozen)
  exact⟨q4,⟨_,q2,q3⟩,F.trans (q4.2.below F.size λk hk=>by rintro(e|⟨e,_⟩)<;>omega)⟩
 case hdone=>
  rintro W ⟨⟨u,E,H⟩,F⟩ hD;have y:=E.cell
  gi_wp2
  refine⟨b6,.inl ⟨_,_,rfl,Tb hD,?_⟩⟩;have P:Keep (λk=>k=J.heap.size) W (W.putObj J.heap.size (.deferred none)):=(Keep.refl (λk=>k=J.heap.size) W).putObj (λ_=>rfl) _;exact⟨_,tJ rfl _ _ _,u,rfl,OwnN.mono (H.keep P λg hg _=>a8) a8,F.trans (P.below F.size λk hk=>a8)⟩
end
section
def zT(v:List En)(r:Nat):List Iv:=match v.find? (λe=>e.rep == r)with
 |some e=>kn e
 |none=>[]
def zsC(v:List En):Prop:=(∀e∈v,zO e)/\v.Pairwise (λa b=>a.rep<b.rep)
def CanV(v:List En):Prop:=(∀e∈v,YP e)/\v.Pairwise (λa b=>a.rep<b.rep)
def CanV.right{v:List En}(h:CanV v):zsC v:=⟨λe j=>(h.1 e j).1,h.2⟩
def knV_nil(r:Nat):zT [] r=[]:=rfl
def qm(e:En)(v:List En)(r:Nat):zT (e::v) r=if e.rep=r then kn e else zT v r:=by
 unfold zT;by_cases h:e.rep=r
 .simp[h]
 .simp[h]
def qC{v:List En}{r:Nat}(h:∀e∈v,e.rep≠r):zT v r=[]:=by
 induction v with
 |nil=>rfl
 |cons e v ih=>rw[qm,Vq (h e b6),ih λj o=>h j (by simp[o])]
def kq{v:List En}(h:v.Pairwise λa b=>a.rep<b.rep){e:En}(u:e∈v):zT v e.rep=kn e:=by
 induction v with
 |nil=>cases u
 | cons x v ih=>
   have o:=V3.1 h;rw[qm];rcases wi.1 u with rfl|j
   .rw[vD rfl]
   .have:=o.1 e j;rw[Vq a8,ih o.2 j]
def qi{v:List En}(h:zsC v)(r:Nat):Nrm (zT v r):=by
 unfold zT;split
 .rename_i e he;exact qT (h.1 e (uD he))
 .trivial
def Zk:∀{a b:List En},CanV a->CanV b->(∀r,zT a r=zT b r)->a=b
 |[],[],_,_,_=>rfl
 |[],y::b,_,hb,h=>by have:=h y.rep;rw[knV_nil,qm,vD rfl]at this;exact absurd this.symm (jO (hb.1 y b6)).1
 |x::a,[],ha,_,h=>by have:=h x.rep;rw[knV_nil,qm,vD rfl]at this;exact absurd this (jO (ha.1 x b6)).1
 | x::a,y::b,ha,hb,h=>by
   have w:=V3.1 ha.2;have A:=V3.1 hb.2;have B:=ha.1 x b6;have C:=hb.1 y b6;have E:x.rep=y.rep:=by
    rcases WL x.rep y.rep with o|o|o
    .have:=h x.rep;rw[qm,vD rfl,qC λe j=>by rcases wi.1 j with rfl|j;omega;have:=A.1 e j;omega]at this;exact absurd this (jO B).1
    .exact o
    .have:=h y.rep;rw[qm (e:=y),vD rfl,qC λe j=>by rcases wi.1 j with rfl|j;omega;have:=w.1 e j;omega]at this;exact absurd this.symm (jO C).1
   have hk:=h x.rep;rw[qm,qm,vD rfl,vD E.symm]at hk;have e1:=ZM B;have e2:=ZM C;rw[hk,E,e2]at e1;have u:x=y:=(by injection e1 with e1;exact e1.symm);subst u;congr 1;refine Zk ⟨λe j=>ha.1 e (by simp[j]),w.2⟩ ⟨λe j=>hb.1 e (by simp[j]),A.2⟩ λr=>?_;by_cases o:x.rep=r
   .rw[qC λe j=>by have:=w.1 e j;omega,qC λe j=>by have:=A.1 e j;omega]
   .have:=h r;rw[qm,qm,Vq o,Vq o]at this;exact this
def Xd(f:XE)(a b:List En)(r:Nat):En×Bool:=Qi r (qy f (zT a r) (zT b r))
def vE(f:XE)(a b:List En)(r:Nat):Option En:=if (Xd f a b r).2 then some (Xd f a b r).1 else none
def zM(v:List En):List Nat:=v.map En.rep
noncomputable def ks (f:XE) (a b:List En):List En:=(srt (zM a++zM b)).filterMap (vE f a b)
def xz{f:XE}{a b:List En}{r:Nat}{e:En}(h:vE f a b r=some e):qy f (zT a r) (zT b r)≠[]/\e=(Xd f a b r).1/\e.rep=r:=by
 unfold vE Xd at h;split at h
 .rename_i h1;rw[zaj]at h1;simp at h1;cases h;exact⟨h1,rfl,by rw[qD h1]⟩
 .cases h
def zad{f:XE}{a b:List En}{r:Nat}(h:qy f (zT a r) (zT b r)≠[]):vE f a b r=some (Xd f a b r).1:=by unfold vE;rw[vD];unfold Xd;rw[zaj];simpa using h
def Xr{a b:List En}(o:zsC a)(hb:zsC b):∀r∈srt (zM a++zM b),r<zk:=λr u=>by
 have:=qr.1 u;simp only[zM,wC,wB]at this;rcases this with⟨e,j,rfl⟩|⟨e,j,rfl⟩
 .exact(o.1 e j).2.2.2
 .exact(hb.1 e j).2.2.2
def xj{g:Nat->Option En}(j:∀r e,g r=some e->e.rep=r):∀{l:List Nat},YN l->(l.filterMap g).Pairwise λa b=>a.rep<b.rep
 |[],_=>List.Pairwise.nil
 | r::l,h=>by
   have o:=V3.1 h;rw[uJ];cases e:g r with
   |none=>exact xj j o.2
   |some x=>refine V3.2 ⟨λy A=>?_,xj j o.2⟩;obtain⟨B,u,w⟩:=ue.1 A;rw[j _ _ e,j _ _ w];exact o.1 B u
def Xe(f:XE){a b:List En}(j:zsC a)(hb:zsC b):CanV (ks f a b):=by refine⟨λe w=>?_,xj (λr e h=>(xz h).2.2) (yi _)⟩;obtain⟨r,y,o⟩:=ue.1 w;obtain⟨u,rfl,_⟩:=xz o;exact zak (Xr j hb r y) (qH (qi j r) (qi hb r)) u
def zdv{f:XE}(j:f false false=false):qy f [] []=[]:=
 vK (a:=[]) (b:=[]) trivial trivial trivial λx o=>by simp[j]
def JR{f:XE}(E:f false false=false){a b:List En}(A:zsC a)(hb:zsC b)(r:Nat):zT (ks f a b) r=qy f (zT a r) (zT b r):=by
 by_cases h:qy f (zT a r) (zT b r)=[]
 .rw[h];refine qC λe j u=>?_;obtain⟨G,F,C⟩:=ue.1 j;obtain⟨o,_,w⟩:=xz C;rw[u]at w;subst w;exact o h
 .have B:r∈srt (zM a++zM b):=by
   refine qr.2 (wC.2 ?_);rcases Classical.em (r∈zM a)with o|o
   .exact .inl o
   .rcases Classical.em (r∈zM b)with y|y
    .exact .inr y
    .refine absurd ?_ h;rw[qC (v:=a) λe j u=>o (wB.2 ⟨e,j,u⟩),qC (v:=b) λe j u=>y (wB.2 ⟨e,j,u⟩)];exact zdv E
  have j:(Xd f a b r).1∈ks f a b:=ue.2 ⟨r,B,zad h⟩;have w:(Xd f a b r).1.rep=r:=(xz (zad h)).2.2;have:=kq (Xe f A hb).2 j;rw[w]at this;rw[this];exact JO (Xr A hb r B) (qH (qi A r) (qi hb r)) h
def zoY{f:XE}(u:f false false=false){a b c:List En}(j:zsC a)(hb:zsC b)(o:CanV c)(h:∀r,zT c r=qy f (zT a r) (zT b r)):ks f a b=c:=
 Zk (Xe f j hb) o λr=>by rw[JR u j hb,h]
def QX(e:En):Option En:=if (kP e).2 then some (kP e).1 else none
def zi(v:List En):List En:=v.filterMap QX
def v9{e c:En}(h:QX e=some c):kn e≠[]/\c=(kP e).1/\c.rep=e.rep:=by
 unfold QX kP at h;split at h
 .rename_i h1;rw[zaj]at h1;simp at h1;cases h;exact⟨h1,rfl,by rw[qD h1]⟩
 .cases h
def jN:∀{v:List En},zsC v->CanV (zi v)
 |[],_=>⟨λe h=>(by cases h),List.Pairwise.nil⟩
 | x::v,h=>by
   have p:=V3.1 h.2;obtain⟨o,u⟩:=jN (v:=v) ⟨λe j=>h.1 e (by simp[j]),p.2⟩;unfold zi;rw[uJ];cases e:QX x with
   |none=>exact⟨o,u⟩
   | some c=>
     obtain⟨C,rfl,E⟩:=v9 e;have w:=h.1 x b6;refine⟨λe j=>?_,V3.2 ⟨λy B=>?_,u⟩⟩
     .rcases wi.1 j with rfl|j
      .exact zak w.2.2.2 (qT w) C
      .exact o e j
     .obtain⟨z,hz,A⟩:=ue.1 B;obtain⟨_,_,F⟩:=v9 A;rw[E,F];exact p.1 z hz
def ja:∀{v:List En},zsC v->∀r,zT (zi v) r=zT v r
 |[],_,r=>rfl
 | x::v,h,r=>by
   have p:=V3.1 h.2;have w:zsC v:=⟨λe j=>h.1 e (by simp[j]),p.2⟩;have ih:=ja w r;have u:=h.1 x b6;unfold zi at ih⊢;rw[uJ,qm];cases e:QX x with
   | none=>
     have hk:kn x=[]:=by
      unfold QX kP at e;rw[zaj]at e;by_cases o:kn x=[]
      .exact o
      .simp[o]at e
     show zT (v.filterMap QX) r=_;rw[ih];split
     .rename_i hr;rw[hk];exact qC λe j=>by have:=p.1 e j;omega
     .rfl
   | some c=>
     obtain⟨y,rfl,A⟩:=v9 e;show zT ((kP x).1::v.filterMap QX) r=_;rw[qm,A,ih];split
     .exact JO u.2.2.2 (qT u) y
     .rfl
section
variable {a b c:List En}
def fU0:zn false false=false:=rfl
def fM0:zm false false=false:=rfl
end
end
end Go.Proofs.YtmpnbdhadjfbhaaGreatDoor
