import Derived.ChangeAt
import Derived.DataElems
import Derived.Deep.Slices
import Derived.ProofKit
import Derived.Lib.SmallJoins
import Derived.LaidEql
import Derived.Stop.Asserts
import Derived.RowKitTokens
import Derived.Laws.Cells
import Derived.Laws.IdiomCopy
import Derived.WalkMore
import Derived.Sort.Walk7a
import Derived.Sort.WalkB12
import Derived.Test.YtjdjjlkifdimkaaGreatDoorB1
import Derived.Test.YtjdjjlkifdimkaaGreatDoorB8
set_option maxHeartbeats 16000000
set_option linter.all false
set_option maxRecDepth 100000
namespace Go.Proofs.YtjdjjlkifdimkaaGreatDoor
def tp:=@Go.World.cell?_alloc_lt
def tz:=@Go.World.frozen?_alloc_old
def tK:=@Go.run_callFunc_extern
def tM:=@Go.Sort.holds_ahead
def tP:=@Go.Sort.size_swp
def tV:=@Go.World.cell?_alloc_at
def tY:=@Go.run_typeAssert_lacksB
def tZ:=@Go.rounds_succ
def Ta:=@Go.Sort.putRow_self
def Td:=@Go.Sort.holds_putRow
def Ti:=@Go.wp_loop_rounds
def TR:=@Go.bits_xor_u64_nat
def TT:=@Go.wpList_plain
open Go.Proofs.Tryz
open Go.Proofs.Tryz renaming prog->xt
section
open Go.RowKit
variable {P:Program}
def qQ:Nat->List PV->List (Nat×PV)
 |_,[]=>[]
 |k,p::ps=>(k,p)::qQ (k+1) ps
def Qe:∀(j:List PV)(k i:Nat),yr (qQ k j) i=if k<=i then j.getD (i-k) .und else .und
 |[],k,i=>by simp[qQ,yr]
 | p::j,k,i=>by
   simp only[qQ,yr];by_cases h:k=i
   .subst h;simp
   .rw[vD h,Qe j (k+1) i];by_cases o:k+1<=i
    .rw[vj o,vj a9];obtain⟨d,u⟩:∃d,i-k=d+1:=⟨i-k-1,a9⟩;rw[u,show i-(k+1)=d from by omega];rfl
    .rw[vD o,vD a9]
def PV.resD:PV->Bool
 |.agg cs=>zY cs
 |p=>p.isD
def zgB:List Value->Value
 |[u]=>u
 |us=>.tuple us.toArray
inductive RV where
 |t (i:Nat)
 |c (i:Nat) (ag:Bool) (n:Nat)
def RV.get(s:PS):RV->Option PV
 |.t i=>some (s.get i)
 | .c i ag n=>match s.get i with
   | .bx j o=>match s.b[j]? with
     | some u=>match ag with
       |true=>if o+n<=u.length then some (.agg ((u.drop o).take n)) else none
       |false=>u[o]?
     |none=>none
   |_=>none
def YJ(s:PS):List RV->Option (List PV)
 |[]=>some []
 |r::l=>(r.get s).bind λp=>(YJ s l).map λj=>p::j
def jC(j:List RV)(s:PS)(r:PV):Prop:=match j with
 |[.t t]=>SubP 0 (s.get t) r
 | [x]=>match x.get s with
   |some p=>p.resD=true/\SubP 0 p.sh r/\r.own=none
   |none=>False
 | j=>match YJ s j with
   |some o=>o.all PV.resD=true/\SubP 0 (.tup (o.map PV.sh)) r
   |none=>False
def jG(j:List RV)(r:PV):PX->PS->Prop
 |.x _,_=>False
 |_,s=>jC j s r
def XU(P:Program):ResultVar->Option RV
 |.tmp t=>some (.t t)
 |.cell a t=>(XH P t).bind fun(ag,n)=>if ag || n == 1 then some (.c a ag n) else none
def yc(P:Program):List ResultVar->Option (List RV)
 |[]=>some []
 |r::l=>(XU P r).bind λx=>(yc P l).map λj=>x::j
section
variable {B:Bs}{nt:Nat}{g:Gh}{s:PS}{a:Act}{w:World}
def Xs(j:Array Value):ResultVar->Sem Value
 |.tmp t=>pure (j.getD t undef)
 |.cell a t=>do loadVar t (<-asAddr (j.getD a undef))
def ziS(h:R B g s (zB a) w){J:ResultVar}{x:RV}{p:PV}(C:XU P J=some x)(A:x.get s=some p)(F:p.resD=true):∃u,(Xs a.tmps J).run P w=.ok u w/\Dat g.D w u p.sh:=by
 cases J with
 | tmp t=>
   cases C;simp only[RV.get,wN]at A;subst A;have O:(s.get t).isD=true:=by
    revert F;cases s.get t<;>intro F<;>first|exact F|rfl
   exact⟨_,rfl,((h.slots t).data O).sh⟩
 | cell i t=>
   simp only[XU,Z3]at C;obtain⟨⟨H,n⟩,hs,C⟩:=C;simp only at C;split at C
   .rename_i hcond;cases C;simp only[RV.get]at A;split at A
    .rename_i j o e;have M:=h.slots i;rw[e]at M;obtain⟨V,e1⟩:=M.inv_bx;split at A
     .rename_i cs hcs;obtain⟨U,K,T,Q,hz,hb⟩:=h.boxes j cs hcs;have E:∀k,k<cs.length->w.cell? ⟨g.ρ j,0+k,none⟩=some (K.getD k undef)/\(K.getD k undef).oneCell'=true:=λk hk=>by refine⟨?_,(hb k _ (Zv hk)).2⟩;simp only[World.cell?,Q];simp[show k<K.size by omega]
      have I:VI cs o H n λy=>y=p:=by
       unfold VI;cases H with
       | true=>
         simp only at A⊢;split at A
         .rename_i hle;cases A;exact⟨hle,rfl⟩
         .cases A
       |false=>simp only at A⊢;rw[A]
      have G:H=true->zY ((cs.drop o).take n)=true:=λe=>by
       subst e;simp only at A;split at A
       .cases A;exact F
       .cases A
      obtain⟨u,S,L,N,rfl⟩:=Qv (P:=P) (D:=g.D) (ρ:=g.ρ) (nb:=s.b.length) hs I E (λk q I=>(hb k q I).1) G;refine⟨u,?_,(N.data ?_).sh⟩
      .rw[wk]at L;have e2:a.tmps.getD i undef=.pointer (some ⟨g.ρ j,o,none⟩):=e1;simp only[Xs,e2,asAddr,tC,tG,tw,L]
      .revert F;cases S<;>intro F<;>first|exact F|rfl
     .cases A
    .cases A
   .cases C
def Kj(h:R B g s (zB a) w):∀{l:List ResultVar}{y:List RV}{o:List PV},yc P l=some y->YJ s y=some o->o.all PV.resD=true ->
 ∃us:List Value,(l.mapM (Xs a.tmps)).run P w=.ok us w/\us.length=o.length/\l.length=y.length/\∀(i:Nat) p,o[i]?=some p->Dat g.D w (us.getD i undef) p.sh
 |[],y,o,hc,j,_=>by cases hc;cases j;exact⟨[],rfl,rfl,rfl,λi p h=>by simp at h⟩
 | r::l,y,o,hc,j,hd=>by
   simp only[yc,Z3,ZZ]at hc;obtain⟨x,K,M,A,rfl⟩:=hc;simp only[YJ,Z3,ZZ]at j;obtain⟨p,j,L,J,rfl⟩:=j;simp only[te,Vm]at hd;obtain⟨u,C,E⟩:=ziS h K j hd.1;obtain⟨us,F,G,H,I⟩:=Kj h A J hd.2;refine⟨u::us,by simp only[List.mapM_cons,tC,C,tw,F,tG],by simp[G],by simp[H],λi q hi=>?_⟩;cases i with
   |zero=>simp at hi;subst hi;exact E
   |succ i=>simpa using I i q (dL hi)
def xZ(fn:Func)(j:Array Value){us:List Value}(h:(fn.results.toList.mapM (Xs j)).run P w=.ok us w):(results fn j).run P w=.ok (zgB us) w:=by
 unfold results;rw[Array.mapM_eq_mapM_toList];simp only[tC,Sem.run_map];erw[h];simp only[tw,tG];match us with
 |[]=>rfl
 |[u]=>rfl
 |u::v::l=>simp[zgB]
end
def ze2{D:xT}{ρ:Nat->Nat}{w:World}{u:Value}{p:PV}(h:Rel D ρ 0 w u p):Dat D w u p:=by
 have j:∀{u p},Rel1 D ρ 0 w u p->Dat D w u p:=λh=>by
  rcases h with h|⟨i,o,_,hi,_⟩
  .exact h
  .omega
 rcases h with h|⟨f,H,I,B,A,rfl,rfl,C,E,F,G⟩
 .exact j h
 .exact .fn f H I B A C E (λi p y=>j (F i p y)) (λi p y=>j (G i p y))
def Ym{f:FuncId}{fn:Func}{c:Code}(u:P.funcs[f]?=some fn)(y:(fn.name == "runtime.NumGoroutine")=false)(hb:fn.body=some c):∀j w,(callFunc f j).run P w=.ok (.enter f j) w:=by
 intro j w;have o:¬fn.name = "runtime.NumGoroutine" :=dL y
 simp[callFunc,u,o,hb]
def zjM{f:FuncId}{fn:Func}{c:Code}{pc:PC}(ms:List Nat)(hf:P.funcs[f]?=some fn)(hn:(fn.name == "runtime.NumGoroutine")=false)(hb:fn.body=some c)(M:List RV)(hr:yc P fn.results.toList=some M)(nt:Nat)(aj:fn.ntmps=nt)(hc:qx P nt ms c=some pc){L:List PV}{r:PV}
 (ak:∀p∈L,p.own=none) (hl:L.length<=nt) (an:pW P nt True pc (jG M r) ⟨qQ 0 L,[]⟩):Cn P f L r:=by
 refine⟨Ym hf hn hb,λD w vs S hD am hd=>calls_of_wp hf hb ?_⟩;subst aj;obtain⟨a,ha⟩:∃a:Act,({ tmps:=vs++Array.replicate (fn.ntmps-vs.size) undef,defers:=[] }:Act)=a:=⟨_,rfl⟩;rw[ha];have E:RA ⟨w,D,λ_=>False,S,[]⟩ fn.ntmps ⟨D,λ_=>0⟩ ⟨qQ 0 L,[]⟩ a w:=by
  have N:∀t,(⟨qQ 0 L,[]⟩:PS).get t=L.getD t .und:=λt=>(by show yr (qQ 0 L) t=_;rw[Qe];simp);have K:∀u p,zQ ⟨D,λ_=>0⟩ ⟨qQ 0 L,[]⟩ (zB a) w u p->p.own=none:=by
   rintro u p (⟨t,rfl,rfl⟩|⟨i,j,cs,F,_⟩)
   .rw[N,Q9];cases h:L[t]? with
    |none=>rfl
    |some p=>exact ak p (wL h)
   .simp at F
  refine⟨⟨λt=>?_,λi cs h=>by simp at h,λi j h=>by simp at h,λu p h=>zr (K u p h),λu p u' p' b h _ ho=>absurd (K u p h) ho,λu p b i h ho=>absurd (K u p h) ho,hD,λi h=>by simp at h,⟨rfl,rfl,rfl,Zp _,λ_ _ _=>rfl,λ_ _ h=>h,λ_ _ _ _ h=>h,λ_ _ h=>.inl h,hD⟩⟩,by rw[<-ha],by rw[<-ha];simp;omega⟩;rw[N,Q9];cases h:L[t]? with
  |none=>exact .dat (.und _)
  |some p=>have:=hd t p h;have ht:t<vs.size:=(by rw[am];exact(Zw.1 h).1);have e:zB a t=vs.getD t undef:=(by rw[<-ha];simp[zB,WJ ht]);rw[e];exact .dat this
 refine T1 (Ql (B:=⟨w,D,λ_=>False,S,[]⟩) (λ_ _ h=>h) c pc hc _ _ _ a w an E) λe a' H V=>?_;have fin:∀s g,RA ⟨w,D,λ_=>False,S,[]⟩ fn.ntmps g s a' H->jC M s r->bodyPost P fn (λe H=>∃v Z,e=.returned v/\Below w.heap.size w H/\(∀b o,D b o->Z b o)/\(∀b o,Z b o->D b o\/w.heap.size<=b)/\(∀b o,Z b o->b<H.heap.size)/\Dat Z H v r/\yW Z (λk=>w.heap.size<=k) H v r) .ret a' H:=by
  intro s g h A;obtain⟨E,Q,_⟩:=h;have I:Below w.heap.size w H:=⟨E.fr.os,E.fr.tape,E.fr.output,E.fr.size,λk hk=>E.fr.block k hk λh=>h⟩;have J:∀b o,g.D b o->D b o\/w.heap.size<=b:=λb o h=>by
   rcases E.fr.new b o h with h'|h'|h'
   .exact .inl h'
   .exact .inr h'
   .exact h'.elim
  have O:∀C,YJ s M=some C->C.all PV.resD=true->∃us:List Value,(results fn a'.tmps).run P H=.ok (zgB us) H/\us.length=C.length/\∀(i:Nat) p,C[i]?=some p->Dat g.D H (us.getD i undef) p.sh:=λC F G=>(by obtain⟨us,X,Y,_,k3⟩:=Kj E hr F G;exact⟨us,xZ fn _ X,Y,k3⟩);unfold jC at A;split at A
  .rename_i t;have ac:fn.results.toList=[.tmp t]:=by
    revert hr;cases fn.results.toList with
    |nil=>intro h;cases h
    | cons x l=>
      intro h;simp only[yc,Z3,ZZ]at h;obtain⟨y,U,ys,ae,e⟩:=h;cases e;cases l with
      | nil=>
        cases x with
        |tmp t=>cases U;rfl
        | cell a t=>
          simp only[XU,Z3]at U;obtain⟨⟨ag,n⟩,_,U⟩:=U;simp only at U;split at U<;>cases U
      |cons z l=>simp only[yc,Z3,ZZ]at ae;obtain⟨_,_,_,_,e⟩:=ae;cases e
   have ad:=xZ (P:=P) (w:=H) fn a'.tmps (us:=[a'.tmps.getD t undef]) (by rw[ac];rfl);refine⟨Q,_,ad,_,g.D,rfl,I,E.fr.d0,J,E.dlt,ze2 (SubP.rel A (E.slots t)),?_⟩;by_cases ho:r.own=none
   .exact zr ho
   .rcases SubP.own A (E.slots t) ho with rfl|⟨_,hk⟩
    .have:=E.owns _ _ (E.slot t);revert this ho;cases s.get t<;>try (intros;trivial)
     rename_i es ow;cases ow<;>try (intros;trivial)
     intro _ h;rcases h with hn|⟨gg,af,ah,e,F,hW,G⟩
     .exact .inl hn
     .exact .inr ⟨gg,af,ah,e,F,hW.resolve_right (λh=>h),G⟩
    .exact hk _ _ _
  .rename_i x _;split at A
   .rename_i p T;obtain⟨F,G,h3⟩:=A;obtain⟨us,X,Y,k3⟩:=O [p] (by simp[YJ,T]) (dL F);match us,Y with
    |[u],_=>refine⟨Q,_,X,_,g.D,rfl,I,E.fr.d0,J,E.dlt,?_,zr h3⟩;exact ze2 (ρ:=g.ρ) (SubP.rel G (nb:=0) (.dat (k3 0 p rfl)))
   .exact A.elim
  .split at A
   .rename_i hne1 hne2 _ C T;obtain⟨F,G⟩:=A;obtain⟨us,X,Y,k3⟩:=O C T F;have ab:us.length≠1:=by
     intro e;rw[Y]at e;have ai:∀{M C},YJ s M=some C->C.length=M.length:=by
      intro M;induction M with
      |nil=>intro C h;cases h;rfl
      |cons x l ih=>intro C h;simp only[YJ,Z3,ZZ]at h;obtain⟨p,_,qs,hq,rfl⟩:=h;simp[ih hq]
     rw[ai T]at e;match M,e with
     |[x],_=>exact hne2 x rfl
    have ev:zgB us=.tuple us.toArray:=by
     revert ab;match us with
     |[]=>intro _;rfl
     |[u]=>intro h;exact absurd rfl h
     |u::v::l=>intro _;rfl
    rw[ev]at X;have:r.own=none:=by cases G<;>rfl
    refine⟨Q,_,X,_,g.D,rfl,I,E.fr.d0,J,E.dlt,?_,zr this⟩;refine ze2 (ρ:=g.ρ) (SubP.rel G (nb:=0) (.dat (.tup _ _ (by simp[Y]) λi p T=>?_)));simp only[wh,ZZ]at T;obtain⟨q,hq,rfl⟩:=T;have:=k3 i q hq;simpa[Q9]using this
   .exact A.elim
 cases e with
 |normal=>obtain⟨s,g,F,G⟩:=V;exact fin s g F G
 |ret=>obtain⟨s,g,F,G⟩:=V;exact fin s g F G
 |exit id=>obtain⟨s,g,F,G⟩:=V;exact G.elim
 |goto l=>exact V.elim
 |panic ch=>exact V.elim
 |outgrown=>exact V.elim
def zao(t:Nat)(j:List (List PV))(sz:Nat):PX->PS->Prop
 |.x _,_=>False
 |_,s=>match s.get t with
   |.sl es (.r _ sz')=>es=j/\sz'=sz
   |_=>False
def zio{f:FuncId}{fn:Func}{c:Code}{pc:PC}(ms:List Nat)(hf:P.funcs[f]?=some fn)(Q:(fn.name == "runtime.NumGoroutine")=false)(hb:fn.body=some c)(t:Nat)(hr:yc P fn.results.toList=some [.t t])(nt:Nat)(ah:fn.ntmps=nt)(hc:qx P nt ms c=some pc){F rs:List (List PV)}{sz:Nat}{I:List PV}
 (aj:∀p∈I,p.own=none) (hl:I.length+1<=nt) (am:pW P nt False pc (zao t rs sz) ⟨qQ 0 (.sl F (.r 0 sz)::I),[]⟩):OCn P f F sz I rs:=by
 refine⟨Ym hf Q hb,λD w v vs L S ak hd hv an=>calls_of_wp hf hb ?_⟩;subst ah;obtain⟨a,X⟩:∃a:Act,({ tmps:=(#[v]++vs)++Array.replicate (fn.ntmps-(#[v]++vs).size) undef,defers:=[] }:Act)=a:=⟨_,rfl⟩;rw[X];have N:∀i,(⟨qQ 0 (.sl F (.r 0 sz)::I),[]⟩:PS).get i=(PV.sl F (.r 0 sz)::I).getD i .und:=λi=>by show yr (qQ 0 _) i=_;rw[Qe];simp
 have H:zB a 0=v:=by rw[<-X];simp only[zB,wu];rw[WJ b6,WJ b7];rfl
 have hs:∀u p,zQ ⟨D,λ_=>0⟩ ⟨qQ 0 (.sl F (.r 0 sz)::I),[]⟩ (zB a) w u p->p.own≠none->u=v/\p=.sl F (.r 0 sz):=by
  rintro u p (⟨i,rfl,rfl⟩|⟨i,j,cs,A,_⟩) ho
  .rw[N]at ho⊢;cases i with
   |zero=>exact⟨H,rfl⟩
   | succ i=>
     exfalso;simp only[Q9,uN]at ho;cases h:I[i]? with
     |none=>rw[h]at ho;exact ho rfl
     |some p=>rw[h]at ho;exact ho (aj p (wL h))
  .simp at A
 have ac:yW D (Bs.W ⟨w,D,λk=>zc v=some k,L,[]⟩) w v (.sl F (.r 0 sz)):=by
  rcases an with Q|⟨gg,J,O,e,A,K,h3⟩
  .exact .inl Q
  .cases J with
   | zero=>
     by_cases Y:F=[]
     .subst Y;exact .inl ⟨_,by rw[A];rfl,rfl⟩
     .have:=QH (ρ:=λ_=>0) (nb:=0) (.dat (A▸hv));exact absurd (wG (U8.1 this.1)) Y
   |succ J=>exact .inr ⟨gg,_,O,e,A,.inr (by rw[A];rfl),h3⟩
 have hR:RA ⟨w,D,λk=>zc v=some k,L,[]⟩ fn.ntmps ⟨D,λ_=>0⟩ ⟨qQ 0 (.sl F (.r 0 sz)::I),[]⟩ a w:=by
  refine⟨⟨λi=>?_,λi cs h=>by simp at h,λi j h=>by simp at h,λu p h=>?_,λu p u' p' b h h' ho ai _ _=>by rw[(hs u p h ho).2,(hs u' p' h' ai).2],λu p b i h ho _ hi=>by simp at hi,S,λi h=>by simp at h,⟨rfl,rfl,rfl,Zp _,λ_ _ _=>rfl,λ_ _ h=>h,λ_ _ _ _ h=>h,λ_ _ h=>.inl h,S⟩⟩,by rw[<-X],by rw[<-X];simp;omega⟩
  .rw[N];cases i with
   |zero=>rw[H];exact .dat (hv.owned _ _)
   | succ i=>
     simp only[Q9,uN];cases h:I[i]? with
     |none=>exact .dat (.und _)
     |some p=>have:=hd i p h;have ht:i<vs.size:=(by rw[ak];exact(Zw.1 h).1);have e:zB a (i+1)=vs.getD i undef:=(by rw[<-X];simp only[zB,wu];rw[WJ b6,uY b7];simp);rw[e];exact .dat this
  .by_cases ho:p.own=none
   .exact zr ho
   .obtain⟨rfl,rfl⟩:=hs u p h ho;exact ac
 refine T1 (Ql (B:=⟨w,D,λk=>zc v=some k,L,[]⟩) (λh=>h.elim) c pc hc _ _ _ a w am hR) λe V C T=>?_;have Z:fn.results.toList=[.tmp t]:=by
  revert hr;cases fn.results.toList with
  |nil=>intro h;cases h
  | cons x l=>
    intro h;simp only[yc,Z3,ZZ]at h;obtain⟨y,M,ys,ad,e⟩:=h;cases e;cases l with
    | nil=>
      cases x with
      |tmp t=>cases M;rfl
      | cell a t=>
        simp only[XU,Z3]at M;obtain⟨⟨ag,n⟩,_,M⟩:=M;simp only at M;split at M<;>cases M
    |cons z l=>simp only[yc,Z3,ZZ]at ad;obtain⟨_,_,_,_,e⟩:=ad;cases e
 have fin:∀s g,RA ⟨w,D,λk=>zc v=some k,L,[]⟩ fn.ntmps g s V C->(match s.get t with|.sl F (.r _ sz')=>F=rs/\sz'=sz|_=>False)->bodyPost P fn (λe C=>∃u U,e=.returned u/\(C.os=w.os/\C.tape=w.tape/\C.output=w.output/\w.heap.size<=C.heap.size)/\(∀k,k<w.heap.size->zc v≠some k->C.heap[k]?=w.heap[k]?) /\
  (∀b o y,D b o->w.cell? ⟨b,o,none⟩=some y->C.cell? ⟨b,o,none⟩=some y)/\(∀b o,D b o->U b o)/\(∀b o,U b o->D b o\/w.heap.size<=b\/zc v=some b)/\(∀b o,U b o->b<C.heap.size) /\
  Dat U C u (.sl rs .sh)/\yW U (λk=>w.heap.size<=k\/zc v=some k) C u (.sl rs (.r 0 sz))) .ret V C:=by
  intro s g h G;obtain⟨E,af,_⟩:=h;split at G
  .rename_i es' m sz' e;obtain⟨rfl,rfl⟩:=G;have ab:=xZ (P:=P) (w:=C) fn V.tmps (us:=[V.tmps.getD t undef]) (by rw[Z];rfl);have A:=E.slots t;have K:=E.owns _ _ (E.slot t);rw[e]at A K;have ae:Dat g.D C (zB V t) (.sl es' .sh):=by
    rcases A with(hr|⟨_,_,hh,_⟩)|⟨_,_,_,_,_,hh,_⟩
    .exact hr.sh
    .cases hh
    .cases hh
   refine⟨af,_,ab,_,g.D,rfl,⟨E.fr.os,E.fr.tape,E.fr.output,E.fr.size⟩,λk hk Q=>E.fr.block k hk Q,λb o y S M=>E.fr.cell b o y S M,E.fr.d0,λb o S=>E.fr.new b o S,E.dlt,ae,?_⟩;rcases K with Q|⟨gg,J,O,e,q1,q2,q3⟩
   .exact .inl Q
   .exact .inr ⟨gg,J,O,e,q1,q2,q3⟩
  .exact G.elim
 cases e with
 |normal=>obtain⟨s,g,A,K⟩:=T;exact fin s g A K
 |ret=>obtain⟨s,g,A,K⟩:=T;exact fin s g A K
 |exit id=>obtain⟨s,g,A,K⟩:=T;exact K.elim
 |goto l=>exact T.elim
 |panic ch=>exact T.elim
 |outgrown=>exact T.elim
def xN(fn:Func):Code:=match fn.body with
 |some c=>c
 |none=>.skip
def zbo(P:Program)(fn:Func)(j:List Nat)(n:Nat):Bool:=!(fn.name == "runtime.NumGoroutine") && fn.body.isSome && (yc P fn.results.toList).isSome && (qx P fn.ntmps j (xN fn)).isSome && decide (n<=fn.ntmps)
def zbt(P:Program)(fn:Func)(j:List Nat):PC:=(qx P fn.ntmps j (xN fn)).getD .sk
def zgk(P:Program)(fn:Func):List RV:=(yc P fn.results.toList).getD []
def zgM{f:FuncId}{fn:Func}(I:P.funcs[f]?=some fn)(B:List Nat){y:List PV}{r:PV}(n:Nat)(j:zbo P fn B n=true)(L:y.length=n)(A:∀p∈y,p.own=none)(u:pW P fn.ntmps True (zbt P fn B) (jG (zgk P fn) r) ⟨qQ 0 y,[]⟩):Cn P f y r:=by
 unfold zbo at j;simp only[Vm,Wg,wC]at j;obtain⟨⟨⟨⟨E,F⟩,G⟩,H⟩,K⟩:=j;obtain⟨c,C⟩:=wW.1 F;obtain⟨J,w⟩:=wW.1 G;obtain⟨M,o⟩:=wW.1 H;unfold zbt zgk at u;rw[o,w]at u;have e:xN fn=c:=by unfold xN;rw[C]
 rw[e]at o;exact zjM B I E C J w fn.ntmps rfl o A a9 u
def zin{f:FuncId}{fn:Func}(J:P.funcs[f]?=some fn)(B:List Nat){C F:List (List PV)}{sz:Nat}{w:List PV}(n t:Nat)(j:zbo P fn B n=true)(A:yc P fn.results.toList=some [.t t])(M:w.length+1=n)(y:∀p∈w,p.own=none)(u:pW P fn.ntmps False (zbt P fn B) (zao t F sz) ⟨qQ 0 (.sl C (.r 0 sz)::w),[]⟩):OCn P f C sz w F:=by
 unfold zbo at j;simp only[Vm,Wg,wC]at j;obtain⟨⟨⟨⟨G,H⟩,K⟩,I⟩,L⟩:=j;obtain⟨c,E⟩:=wW.1 H;obtain⟨N,o⟩:=wW.1 I;unfold zbt at u;rw[o]at u;have e:xN fn=c:=by unfold xN;rw[E]
 rw[e]at o;exact zio B J G E t A fn.ntmps rfl o y a9 u
end
section
open Go.ChangeShapes Go.WideShapes Go.ChangeAt Go.RowKit Go.Deep
section
variable {H:Type}{enc:TypeId×Value->H}{w:World}{base:Nat}{spare:Nat->Bool}{held:Bool}
instance : Inhabited Iv:=⟨⟨0,0⟩⟩
def zgC{n:Int}(h:(Lit.int .u64 n).wf=true):∃x:Nat,n=x/\x<zk:=by simp[Lit.wf,IntKind.min,IntKind.max,IntKind.signed,IntKind.bits]at h;exact⟨n.toNat,a9,by rw[zw];omega⟩
def kM{t:TypeId}{j:Nat}{o:List Value}{x:DataW H×List MemPlace}(ht:xt.underlying t=some (.int .u64))(h:DataW.trod enc xt w base spare held j t o=some x):∃n:Nat,o=[.int .u64 n]/\n<zk:=by obtain⟨n,rfl,_,y⟩:=DataW.trod_int ht h;obtain⟨m,rfl,u⟩:=zgC y;exact⟨m,rfl,u⟩
def zaC(a:Addr)(i:Nat):(a.add i).block=a.block:=by unfold Addr.add;split<;>rfl
def Za{α:Type}[Inhabited α]{t e:TypeId}{B sz:Nat}{N:List Value}{x:DataW H×List MemPlace}(rd:World->Nat->Nat->α->Prop)(ht:xt.underlying t=some (.slice e))(M:xt.cellsOf e=sz)
 (G:∀(n:Nat)(a:Addr)(o:List Value)(y:DataW H×List MemPlace),w.cells? base a sz=some o->DataW.trod enc xt w base spare held n e o=some y->a.spot=none/\a.block<w.heap.size/\∃x,rd w a.block a.off x)
 (h:DataW.trod enc xt w base spare held B t N=some x):∃v l,N=[v]/\RdSl sz rd 0 w.heap.size w v l:=by
 rcases open_slice ht h with⟨rfl,_⟩|⟨a,len,E,m,n,D,X,rfl,hb,S,U,K,_,V⟩
 .exact⟨_,[],rfl,RdSl.nil _ _ b9⟩
 have T:len<=m:=by rw[K];split<;>omega
 have A:∀i,i<len->∃y,(a.add (i*sz)).spot=none/\a.block<w.heap.size/\rd w a.block ((a.add (i*sz)).off) y:=by intro i hi;obtain⟨o,P,Q⟩:=V i a9;rw[M]at P;obtain⟨e1,e2,y,O⟩:=G _ _ _ _ P Q;rw[zaC]at e2 O;exact⟨y,e1,e2,O⟩
 obtain⟨f,I⟩:=choose_lt A;refine⟨_,(List.range len).map f,rfl,some a,E,b7,dL S,U,λL=>?_⟩;have j:0<len:=by
  rcases WB len with F|F
  .subst F;simp at L
  .exact F
 obtain⟨b,u,C⟩:=a;have hs:C=none:=by have:=(I 0 j).1;simpa[Addr.add]using this
 subst hs;refine⟨b,u,rfl,X4 _,(I 0 j).2.1,λi hi=>?_⟩;have J:i<len:=dL hi
 have:=(I i J).2.2;have e:((⟨b,u,none⟩:Addr).add (i*sz)).off=u+i*sz:=by unfold Addr.add;split<;>simp_all
 rw[e]at this;simpa using this
def YB{P:Program}{e:TypeId}{o u:Field}{n:Nat}{a:Addr}{E:List Value}{y:DataW H×List MemPlace}(T:P.underlying e=some (.struct #[o,u]))(U:o.offset=0)(V:u.offset=1)(M:P.cellsOf o.type=1)(N:P.cellsOf u.type=1)
 (Q:w.cells? base a 2=some E) (S:DataW.trod enc P w base spare held n e E=some y) :
 ∃B C k G I,w.cell? a=some B/\w.cell? (a.add 1)=some C/\DataW.trod enc P w base spare held k o.type [B]=some G/\DataW.trod enc P w base spare held k u.type [C]=some I:=by
 obtain⟨_,A,j⟩:=World.cells?_some Q;obtain⟨X,k,_,_,_,F,L⟩:=DataW.trod_struct T S;match X,F,E,A with
 |[G,I],_,[B,C],_=>have J:=L 0 o rfl;have K:=L 1 u rfl;simp[U,V,M,N]at J K;have O:=j 0 a9;have e1:=j 1 a9;exact⟨B,C,k,G,I,by simpa[Addr.add]using O,dL e1,J,K⟩
def zfA{n:Nat}{a:Addr}{B:List Value}{y:DataW H×List MemPlace}(F:w.cells? base a 2=some B)(G:DataW.trod enc xt w base spare held n 64 B=some y):a.spot=none/\a.block<w.heap.size/\∃s,rdIv w a.block a.off s:=by
 obtain⟨L,M,k,N,O,o,e1,C,E⟩:=YB underlying64 rfl rfl dM dM F G;obtain⟨lo,J,A⟩:=kM underlying36 C;obtain⟨hi,K,u⟩:=kM underlying36 E;obtain rfl:L=_:=dL J
 obtain rfl:M=_:=dL K
 obtain⟨b,I,j⟩:=a;obtain rfl:j=none:=World.cell?_spot o;exact⟨rfl,tn _ _ o,⟨lo,hi⟩,o,by simpa[Addr.add]using e1,A,u⟩
def ZA{j:Nat}{o:List Value}{x:DataW H×List MemPlace}(h:DataW.trod enc xt w base spare held j 24 o=some x):∃v l,o=[v]/\RdR 0 w.heap.size w v l:=
 Za rdIv underlying24 dM (λ_ _ _ _ u y=>zfA u y) h
end
end
namespace As
open Go.RowKit Go.Extern.Stop Go.Stop Go.Extern
def methodKind(h:Value)(w:World):(Go.method 432 194 (.agg #[h]) "Kind").run xt w=.ok (243,h) w:=dM
def methodElem(h:Value)(w:World):(Go.method 432 194 (.agg #[h]) "Elem").run xt w=.ok (258,.agg #[h]) w:=dM
def methodImplements(h:Value)(w:World):(Go.method 432 194 (.agg #[h]) "Implements").run xt w=.ok (259,.agg #[h]) w:=dM
def methodAssignableTo(h:Value)(w:World):(Go.method 432 194 (.agg #[h]) "AssignableTo").run xt w=.ok (256,.agg #[h]) w:=dM
def methodUnwrap(c k:Int)(w:World):(Go.method 432 123 (.agg #[.int .i64 c,.int .i64 k]) "Unwrap").run xt w=.ok (249,.agg #[.int .i64 c,.int .i64 k]) w:=dM
def rlm(z:Sem Value)(f:TypeId->Addr->Nat->Nat->Sem Value)(v:Value):
 ReflectliteValue.method z f #[v]=(do match <-ReflectliteValue.parts v with|none=>z|some (t,a,fl)=>f t a fl (fl%32)):=rfl
def rls(v x:Value):ReflectliteValue.set #[v,x]=(do
 let (some (dst,a,fl),some (src,b,_)):=(<-ReflectliteValue.parts v,<-ReflectliteValue.parts x)
  |unsupported (.noEntry "extern/(internal/reflectlite.Value).Set.zeroValue")
 if fl/ReflectliteValue.flagAddr%2 == 0 then unsupported (.noEntry "extern/(internal/reflectlite.Value).Set.unaddressable")
 let val <-loadVar src b
 if <-Rtype.directlyAssignable dst src then storeVar dst a val
 else if <-Rtype.implements dst src then
  if (<-Rtype.kind src) == 20 then
   match val with
   |.nilIface=>unsupported (.noEntry "extern/reflectlite: a nil value of one interface type handed on as a value of another")
   |_=>storeVar dst a val
  else storeVar dst a (.iface src val)
 else panicString ("reflectlite.Set: value of type " ++ (<-Rtype.spelt src) ++ " is not assignable to type " ++ (<-Rtype.spelt dst))
 pure (.tuple #[])):=rfl
def valueOfNp(t:Addr)(w:World):(ReflectliteValue.unpack (.iface 121 (.pointer (some t)))).run xt w
 = .ok (.agg #[.pointer (some ⟨2,121,none⟩),.pointer (some ⟨w.heap.size,0,none⟩),.int .u64 150]) (w.alloc (.cells #[.pointer (some t)] 121)):=dM
def typeNp(a:Addr)(w:World):(ReflectliteValue.methodAny (ReflectliteValue.valueError "reflectlite.Value.Type" 0) (λt _ _ _=>ReflectliteType.toType t) #[.agg #[.pointer (some ⟨2,121,none⟩),.pointer (some a),.int .u64 150]]).run xt w
 = .ok (.iface 194 (.agg #[.pointer (some ⟨2,121,none⟩)])) w:=dM
def kindNp(w:World):((ReflectliteType.abiMethod λt=>(λa:Nat=>Value.int IntKind.u8 (a:Int)) <$> Rtype.kind t) #[.pointer (some ⟨2,121,none⟩)]).run xt w=.ok (.int .u8 22) w:=dM
def kindN(w:World):((ReflectliteType.abiMethod λt=>(λa:Nat=>Value.int IntKind.u8 (a:Int)) <$> Rtype.kind t) #[.pointer (some ⟨2,83,none⟩)]).run xt w=.ok (.int .u8 2) w:=dM
def partsNp(a:Addr)(w:World):(ReflectliteValue.parts (.agg #[.pointer (some ⟨2,121,none⟩),.pointer (some a),.int .u64 150])).run xt w=.ok (some (121,a,150)) w:=dM
def isNilNp(a p:Addr)(W:World)(j:W.cell? a=some (.pointer (some p))):
 (ReflectliteValue.method (ReflectliteValue.valueError "reflectlite.Value.IsNil" 0) ReflectliteValue.isNil #[.agg #[.pointer (some ⟨2,121,none⟩),.pointer (some a),.int .u64 150]]).run xt W=.ok (.bool false) W:=by
 rw[rlm];simp only[tC,partsNp,Result.andThen];simp[ReflectliteValue.isNil,loadVar,isAgg,underlying,underlying121,j,Result.andThen]
def elemNp(w:World):(ReflectliteType.method ReflectliteType.elem #[.agg #[.pointer (some ⟨2,121,none⟩)]]).run xt w=.ok (.iface 194 (.agg #[.pointer (some ⟨2,83,none⟩)])) w:=dM
def implementsN(w:World):(ReflectliteType.relation "Implements" ReflectliteType.implements_ #[.agg #[.pointer (some ⟨2,83,none⟩)],.iface 194 (.agg #[.pointer (some ⟨2,44,none⟩)])]).run xt w=.ok (.bool true) w:=dM
def typeOfN(v:Value)(w:World):(ReflectliteType.typeOf #[.iface 83 v]).run xt w=.ok (.iface 194 (.agg #[.pointer (some ⟨2,83,none⟩)])) w:=dM
def assignableN(w:World):(ReflectliteType.relation "AssignableTo" ReflectliteType.assignableTo #[.agg #[.pointer (some ⟨2,83,none⟩)],.iface 194 (.agg #[.pointer (some ⟨2,83,none⟩)])]).run xt w=.ok (.bool true) w:=dM
def valueOfN(c:Int)(w:World):(ReflectliteValue.unpack (.iface 83 (.int .i64 c))).run xt w
 = .ok (.agg #[.pointer (some ⟨2,83,none⟩),.pointer (some ⟨w.heap.size,0,none⟩),.int .u64 130]) (w.alloc (.cells #[.int .i64 c] 83)):=dM
def elemOfNp(w:World):(Rtype.elem? 121).run xt w=.ok (some 83) w:=dM
def mkN(p:Addr)(w:World):(ReflectliteValue.mk 83 p ReflectliteValue.flagAddr).run xt w=.ok (.agg #[.pointer (some ⟨2,83,none⟩),.pointer (some p),.int .u64 386]) w:=dM
def elemVNp(a p:Addr)(W:World)(j:W.cell? a=some (.pointer (some p))):
 (ReflectliteValue.method (ReflectliteValue.valueError "reflectlite.Value.Elem" 0) ReflectliteValue.elem #[.agg #[.pointer (some ⟨2,121,none⟩),.pointer (some a),.int .u64 150]]).run xt W
   = .ok (.agg #[.pointer (some ⟨2,83,none⟩),.pointer (some p),.int .u64 386]) W:=by
 rw[rlm];simp only[tC,partsNp,Result.andThen];simp[ReflectliteValue.elem,loadVar,isAgg,underlying,underlying121,j,Result.andThen,elemOfNp,mkN]
def partsNa(a:Addr)(w:World):(ReflectliteValue.parts (.agg #[.pointer (some ⟨2,83,none⟩),.pointer (some a),.int .u64 386])).run xt w=.ok (some (83,a,386)) w:=dM
def partsN(a:Addr)(w:World):(ReflectliteValue.parts (.agg #[.pointer (some ⟨2,83,none⟩),.pointer (some a),.int .u64 130])).run xt w=.ok (some (83,a,130)) w:=dM
def directN(w:World):(Rtype.directlyAssignable 83 83).run xt w=.ok true w:=dM
def valueOfFp(t:Addr)(w:World):(ReflectliteValue.unpack (.iface 178 (.pointer (some t)))).run xt w
 = .ok (.agg #[.pointer (some ⟨2,178,none⟩),.pointer (some ⟨w.heap.size,0,none⟩),.int .u64 150]) (w.alloc (.cells #[.pointer (some t)] 178)):=dM
def typeFp(a:Addr)(w:World):(ReflectliteValue.methodAny (ReflectliteValue.valueError "reflectlite.Value.Type" 0) (λt _ _ _=>ReflectliteType.toType t) #[.agg #[.pointer (some ⟨2,178,none⟩),.pointer (some a),.int .u64 150]]).run xt w
 = .ok (.iface 194 (.agg #[.pointer (some ⟨2,178,none⟩)])) w:=dM
def kindFp(w:World):((ReflectliteType.abiMethod λt=>(λa:Nat=>Value.int IntKind.u8 (a:Int)) <$> Rtype.kind t) #[.pointer (some ⟨2,178,none⟩)]).run xt w=.ok (.int .u8 22) w:=dM
def kindF(w:World):((ReflectliteType.abiMethod λt=>(λa:Nat=>Value.int IntKind.u8 (a:Int)) <$> Rtype.kind t) #[.pointer (some ⟨2,123,none⟩)]).run xt w=.ok (.int .u8 25) w:=dM
def partsFp(a:Addr)(w:World):(ReflectliteValue.parts (.agg #[.pointer (some ⟨2,178,none⟩),.pointer (some a),.int .u64 150])).run xt w=.ok (some (178,a,150)) w:=dM
def isNilFp(a p:Addr)(W:World)(j:W.cell? a=some (.pointer (some p))):
 (ReflectliteValue.method (ReflectliteValue.valueError "reflectlite.Value.IsNil" 0) ReflectliteValue.isNil #[.agg #[.pointer (some ⟨2,178,none⟩),.pointer (some a),.int .u64 150]]).run xt W=.ok (.bool false) W:=by
 rw[rlm];simp only[tC,partsFp,Result.andThen];simp[ReflectliteValue.isNil,loadVar,isAgg,underlying,underlying178,j,Result.andThen]
def elemFp(w:World):(ReflectliteType.method ReflectliteType.elem #[.agg #[.pointer (some ⟨2,178,none⟩)]]).run xt w=.ok (.iface 194 (.agg #[.pointer (some ⟨2,123,none⟩)])) w:=dM
def implementsF(w:World):(ReflectliteType.relation "Implements" ReflectliteType.implements_ #[.agg #[.pointer (some ⟨2,123,none⟩)],.iface 194 (.agg #[.pointer (some ⟨2,44,none⟩)])]).run xt w=.ok (.bool true) w:=dM
def typeOfF(v:Value)(w:World):(ReflectliteType.typeOf #[.iface 123 v]).run xt w=.ok (.iface 194 (.agg #[.pointer (some ⟨2,123,none⟩)])) w:=dM
def assignableF(w:World):(ReflectliteType.relation "AssignableTo" ReflectliteType.assignableTo #[.agg #[.pointer (some ⟨2,123,none⟩)],.iface 194 (.agg #[.pointer (some ⟨2,123,none⟩)])]).run xt w=.ok (.bool true) w:=dM
def valueOfF(c k:Int)(w:World):(ReflectliteValue.unpack (.iface 123 (.agg #[.int .i64 c,.int .i64 k]))).run xt w
 = .ok (.agg #[.pointer (some ⟨2,123,none⟩),.pointer (some ⟨w.heap.size,0,none⟩),.int .u64 153]) (w.alloc (.cells #[.int .i64 c,.int .i64 k] 123)):=dM
def elemOfFp(w:World):(Rtype.elem? 178).run xt w=.ok (some 123) w:=dM
def mkF(p:Addr)(w:World):(ReflectliteValue.mk 123 p ReflectliteValue.flagAddr).run xt w=.ok (.agg #[.pointer (some ⟨2,123,none⟩),.pointer (some p),.int .u64 409]) w:=dM
def elemVFp(a p:Addr)(W:World)(j:W.cell? a=some (.pointer (some p))):
 (ReflectliteValue.method (ReflectliteValue.valueError "reflectlite.Value.Elem" 0) ReflectliteValue.elem #[.agg #[.pointer (some ⟨2,178,none⟩),.pointer (some a),.int .u64 150]]).run xt W
   = .ok (.agg #[.pointer (some ⟨2,123,none⟩),.pointer (some p),.int .u64 409]) W:=by
 rw[rlm];simp only[tC,partsFp,Result.andThen];simp[ReflectliteValue.elem,loadVar,isAgg,underlying,underlying178,j,Result.andThen,elemOfFp,mkF]
def partsFa(a:Addr)(w:World):(ReflectliteValue.parts (.agg #[.pointer (some ⟨2,123,none⟩),.pointer (some a),.int .u64 409])).run xt w=.ok (some (123,a,409)) w:=dM
def partsF(a:Addr)(w:World):(ReflectliteValue.parts (.agg #[.pointer (some ⟨2,123,none⟩),.pointer (some a),.int .u64 153])).run xt w=.ok (some (123,a,153)) w:=dM
def directF(w:World):(Rtype.directlyAssignable 123 123).run xt w=.ok true w:=dM
def sizeF(w:World):(sizeOf 123).run xt w=.ok 2 w:=dM
def assignableFN(w:World):(ReflectliteType.relation "AssignableTo" ReflectliteType.assignableTo #[.agg #[.pointer (some ⟨2,123,none⟩)],.iface 194 (.agg #[.pointer (some ⟨2,83,none⟩)])]).run xt w=.ok (.bool false) w:=dM
def setN(j b:Addr)(c:Int)(o:Value)(W:World)(hb:W.cell? b=some (.int .i64 c))(ht:W.cell? j=some o)(u:W.frozen? j=false):
 (ReflectliteValue.set #[.agg #[.pointer (some ⟨2,83,none⟩),.pointer (some j),.int .u64 386],.agg #[.pointer (some ⟨2,83,none⟩),.pointer (some b),.int .u64 130]]).run xt W
   = .ok (.tuple #[]) (W.setCell j (.int .i64 c)):=by
 rw[rls];simp only[tC,partsNa,partsN,Result.andThen];simp[ReflectliteValue.flagAddr,loadVar,isAgg,underlying,underlying83,hb,Result.andThen,directN,storeVar,Value.cells,storeCells,Addr.add];rw[run_store xt W j _ _ (by rfl)];simp[ht,u]
abbrev Ext(f:FuncId)(e:Array Value->Sem Value):Prop:=∀(j:Array Value)(w:World),(callFunc f j).run xt w=((e j).run xt w).andThen λv o=>.ok (.value v) o
def xt0:Ext 94 (λj=>ReflectliteValue.unpack (j.getD 0 (.tuple #[]))):=tK func94 dM dM dM dM
def xt1:Ext 95 (ReflectliteValue.methodAny (ReflectliteValue.valueError "reflectlite.Value.Type" 0) (λt _ _ _=>ReflectliteType.toType t)):=tK func95 dM dM dM dM
def xt2:Ext 96 (ReflectliteValue.method (ReflectliteValue.valueError "reflectlite.Value.IsNil" 0) ReflectliteValue.isNil):=tK func96 dM dM dM dM
def xt3:Ext 243 (ReflectliteType.abiMethod λt=>do pure (.int .u8 (<-Rtype.kind t))):=tK func243 dM dM dM dM
def xt4:Ext 258 (ReflectliteType.method ReflectliteType.elem):=tK func258 dM dM dM dM
def xt5:Ext 259 (ReflectliteType.relation "Implements" ReflectliteType.implements_):=tK func259 dM dM dM dM
def xt6:Ext 78 ReflectliteType.typeOf:=tK func78 dM dM dM dM
def xt7:Ext 256 (ReflectliteType.relation "AssignableTo" ReflectliteType.assignableTo):=tK func256 dM dM dM dM
def xt8:Ext 135 (ReflectliteValue.method (ReflectliteValue.valueError "reflectlite.Value.Elem" 0) ReflectliteValue.elem):=tK func135 dM dM dM dM
def xt9:Ext 136 ReflectliteValue.set:=tK func136 dM dM dM dM
end As
namespace As
open Go.RowKit Go.Extern.Stop Go.Stop Go.Extern
def as_NN(c:Int)(t:Addr)(y:Value)(w:World)(B:w.cell? ⟨1,0,none⟩=some (.iface 194 (.agg #[.pointer (some ⟨2,44,none⟩)])))(o:w.cell? t=some y)(A:w.frozen? t=false):
 Calls xt 57 #[.iface 83 (.int .i64 c),.iface 121 (.pointer (some t))] w λev P=>ev=.returned (.bool true)/\P=((((w.alloc (.cells #[.pointer (some t)] 121)).alloc (.cells #[.pointer (some ⟨2,121,none⟩),.pointer (some ⟨w.heap.size,0,none⟩),.int .u64 150] 171)).alloc (.cells #[.pointer (some ⟨2,121,none⟩),.pointer (some ⟨w.heap.size,0,none⟩),.int .u64 150] 171)).alloc (.cells #[.int .i64 c] 83)).setCell t (.int .i64 c):=by
 have U:=λa w=>xt0 a w;have V:=λa w=>xt1 a w;have X:=λa w=>xt2 a w;have H:=λa w=>xt3 a w;have J:=λa w=>xt4 a w;have K:=λa w=>xt5 a w;have E:=λa w=>xt6 a w;have I:=λa w=>xt7 a w;have F:=λa w=>xt8 a w;have G:=λa w=>xt9 a w;have tO:=typeOfN;have Y:=methodAssignableTo;have a25:=assignableN;have O:=valueOfN;have S:=valueOfNp;have T:=typeNp;have mK:=methodKind;have Z:=methodElem;have mI:=methodImplements;have N:=kindNp;have k25:=kindN;have C:=elemNp;have M:=implementsN;have n8:=isNilNp ⟨w.heap.size,0,none⟩ t ((w.alloc (.cells #[.pointer (some t)] 121)).alloc (.cells #[.pointer (some ⟨2,121,none⟩),.pointer (some ⟨w.heap.size,0,none⟩),.int .u64 150] 171)) b7;have j:1<w.heap.size:=tn w ⟨1,0,none⟩ B;have L:((w.alloc (.cells #[.pointer (some t)] 121)).alloc (.cells #[.pointer (some ⟨2,121,none⟩),.pointer (some ⟨w.heap.size,0,none⟩),.int .u64 150] 171)).cell? ⟨1,0,none⟩=some (.iface 194 (.agg #[.pointer (some ⟨2,44,none⟩)])):=by rw[tp _ _ ⟨1,0,none⟩ (by rw[tu];exact uk j),tp _ _ ⟨1,0,none⟩ j];exact B
 have u:t.block<w.heap.size:=by
  rcases wK t.block w.heap.size with h|h
  .exact h
  .simp[World.cell?,WZ h]at o
 have Q:=elemVNp ⟨w.heap.size,0,none⟩ t (((w.alloc (.cells #[.pointer (some t)] 121)).alloc (.cells #[.pointer (some ⟨2,121,none⟩),.pointer (some ⟨w.heap.size,0,none⟩),.int .u64 150] 171)).alloc (.cells #[.pointer (some ⟨2,121,none⟩),.pointer (some ⟨w.heap.size,0,none⟩),.int .u64 150] 171)) (by rw[tp _ _ ⟨w.heap.size,0,none⟩ b6];simp);have st:=setN t ⟨w.heap.size+1+1+1,0,none⟩ c y ((((w.alloc (.cells #[.pointer (some t)] 121)).alloc (.cells #[.pointer (some ⟨2,121,none⟩),.pointer (some ⟨w.heap.size,0,none⟩),.int .u64 150] 171)).alloc (.cells #[.pointer (some ⟨2,121,none⟩),.pointer (some ⟨w.heap.size,0,none⟩),.int .u64 150] 171)).alloc (.cells #[.int .i64 c] 83))
  (by rw[tV _ _ _ _ b7];rfl)
  (by rw[tp _ _ t b6,tp _ _ t b6,tp _ _ t b6,tp _ _ t u];exact o)
  (by rw[tz _ _ t b6,tz _ _ t b6,tz _ _ t b6,tz _ _ t (Uo u)];exact A)
 go_enter func57,ntmps57
 go_wp2;refine Ti 1 ?_;rw[tZ]
 go_wp2;go_ret;exact⟨rfl,rfl⟩
end As
namespace As
open Go.RowKit Go.Extern.Stop Go.Stop Go.Extern
def setF(T b:Nat)(c k:Int)(W:World)(C:W.cell? ⟨b,0,none⟩=some (.int .i64 c))(E:W.cell? ⟨b,1,none⟩=some (.int .i64 k))(H:(W.cell? ⟨T,0,none⟩).isSome=true)(I:(W.cell? ⟨T,1,none⟩).isSome=true)(A:W.frozen? ⟨T,0,none⟩=false)(B:W.frozen? ⟨T,1,none⟩=false):
 (ReflectliteValue.set #[.agg #[.pointer (some ⟨2,123,none⟩),.pointer (some ⟨T,0,none⟩),.int .u64 409],.agg #[.pointer (some ⟨2,123,none⟩),.pointer (some ⟨b,0,none⟩),.int .u64 153]]).run xt W
   = .ok (.tuple #[]) (W.setCells T 0 [.int .i64 c,.int .i64 k]):=by
 have G:(loadVar 123 ⟨b,0,none⟩).run xt W=.ok (.agg #[.int .i64 c,.int .i64 k]) W:=by
  have u:=run_loadCells_list (P:=xt) (w:=W) ⟨b,0,none⟩ [.int .i64 c,.int .i64 k] (λj v o=>by
   match j,o with
   |0,o=>cases o;simpa[Addr.add]using C
   |1,o=>cases o;simpa[Addr.add]using E)
  have hs:=sizeF W;simp[loadVar,isAgg,underlying,underlying123,Result.andThen,hs];simp only[wn,Wp]at u;rw[u]
 have y:(storeVar 123 ⟨T,0,none⟩ (.agg #[.int .i64 c,.int .i64 k])).run xt W=.ok () (W.setCells T 0 [.int .i64 c,.int .i64 k]):=by
  have hs:=sizeF W;have F:=Go.run_storeCells_cells (P:=xt) T 0 [.int .i64 c,.int .i64 k] 0 W (λj o=>by
   match j,o with
   |0,_=>simpa using H
   |1,_=>simpa using I) (λj o=>by
   match j,o with
   |0,_=>simpa using A
   |1,_=>simpa using B) dJ
  simp[storeVar,hs,Value.cells,Result.andThen];simpa using F
 rw[rls];simp only[tC,partsFa,partsF,Result.andThen];simp[ReflectliteValue.flagAddr,G,Result.andThen,directF,y]
end As
namespace As
open Go.RowKit Go.Extern.Stop Go.Stop Go.Extern
def noAs(v:Value)(j:TypeId)(w:World):(Instr.typeAssert (.iface 123 v) j 219 true).run xt w=.ok (.tuple #[.nilIface,.bool false]) w:=tY Tryz.underlying219 dM dM v j w
def hasUw(v:Value)(j:TypeId)(w:World):(Instr.typeAssert (.iface 123 v) j 199 true).run xt w=.ok (.tuple #[.iface 123 v,.bool true]) w:=run_typeAssert_hasB Tryz.underlying199 dM v j w
def as_FN(c k:Int)(t:Addr)(y:Value)(w:World)(B:w.cell? ⟨1,0,none⟩=some (.iface 194 (.agg #[.pointer (some ⟨2,44,none⟩)])))(o:w.cell? t=some y)(A:w.frozen? t=false):
 Calls xt 57 #[.iface 123 (.agg #[.int .i64 c,.int .i64 k]),.iface 121 (.pointer (some t))] w λev P=>ev=.returned (.bool true)/\P=(((((w.alloc (.cells #[.pointer (some t)] 121)).alloc (.cells #[.pointer (some ⟨2,121,none⟩),.pointer (some ⟨w.heap.size,0,none⟩),.int .u64 150] 171)).alloc (.cells #[.pointer (some ⟨2,121,none⟩),.pointer (some ⟨w.heap.size,0,none⟩),.int .u64 150] 171)).alloc (.cells #[.int .i64 c,.int .i64 k] 123)).alloc (.cells #[.int .i64 c] 83)).setCell t (.int .i64 c):=by
 have V:=λa w=>xt0 a w;have X:=λa w=>xt1 a w;have Y:=λa w=>xt2 a w;have H:=λa w=>xt3 a w;have J:=λa w=>xt4 a w;have K:=λa w=>xt5 a w;have E:=λa w=>xt6 a w;have I:=λa w=>xt7 a w;have F:=λa w=>xt8 a w;have G:=λa w=>xt9 a w;have tO:=typeOfN;have tF:=typeOfF;have Q:=assignableFN;have mU:=methodUnwrap;have nA:=noAs;have Z:=hasUw;have mA:=methodAssignableTo;have a25:=assignableN;have O:=valueOfN;have T:=valueOfNp;have U:=typeNp;have mK:=methodKind;have mE:=methodElem;have mI:=methodImplements;have N:=kindNp;have k25:=kindN;have C:=elemNp;have M:=implementsN;have n8:=isNilNp ⟨w.heap.size,0,none⟩ t ((w.alloc (.cells #[.pointer (some t)] 121)).alloc (.cells #[.pointer (some ⟨2,121,none⟩),.pointer (some ⟨w.heap.size,0,none⟩),.int .u64 150] 171)) b7;have j:1<w.heap.size:=tn w ⟨1,0,none⟩ B;have L:((w.alloc (.cells #[.pointer (some t)] 121)).alloc (.cells #[.pointer (some ⟨2,121,none⟩),.pointer (some ⟨w.heap.size,0,none⟩),.int .u64 150] 171)).cell? ⟨1,0,none⟩=some (.iface 194 (.agg #[.pointer (some ⟨2,44,none⟩)])):=by rw[tp _ _ ⟨1,0,none⟩ (by rw[tu];exact uk j),tp _ _ ⟨1,0,none⟩ j];exact B
 have u:t.block<w.heap.size:=by
  rcases wK t.block w.heap.size with h|h
  .exact h
  .simp[World.cell?,WZ h]at o
 have S:=elemVNp ⟨w.heap.size,0,none⟩ t ((((w.alloc (.cells #[.pointer (some t)] 121)).alloc (.cells #[.pointer (some ⟨2,121,none⟩),.pointer (some ⟨w.heap.size,0,none⟩),.int .u64 150] 171)).alloc (.cells #[.pointer (some ⟨2,121,none⟩),.pointer (some ⟨w.heap.size,0,none⟩),.int .u64 150] 171)).alloc (.cells #[.int .i64 c,.int .i64 k] 123)) (by rw[tp _ _ ⟨w.heap.size,0,none⟩ b6,tp _ _ ⟨w.heap.size,0,none⟩ b6];simp);have st:=setN t ⟨w.heap.size+1+1+1+1,0,none⟩ c y (((((w.alloc (.cells #[.pointer (some t)] 121)).alloc (.cells #[.pointer (some ⟨2,121,none⟩),.pointer (some ⟨w.heap.size,0,none⟩),.int .u64 150] 171)).alloc (.cells #[.pointer (some ⟨2,121,none⟩),.pointer (some ⟨w.heap.size,0,none⟩),.int .u64 150] 171)).alloc (.cells #[.int .i64 c,.int .i64 k] 123)).alloc (.cells #[.int .i64 c] 83))
  (by rw[tV _ _ _ _ b7];rfl)
  (by rw[tp _ _ t b6,tp _ _ t b6,tp _ _ t b6,tp _ _ t b6,tp _ _ t u];exact o)
  (by rw[tz _ _ t b6,tz _ _ t b6,tz _ _ t b6,tz _ _ t b6,tz _ _ t (Uo u)];exact A)
 go_enter func57,ntmps57
 go_wp2;refine Ti 2 ?_;rw[tZ]
 go_wp2;rw[tZ]
 go_wp2;go_ret;exact⟨rfl,rfl⟩
end As
section
open Go.RowKit
def rdE(u:Nat)(w:World)(b o:Nat)(e:En):Prop:=w.cell? ⟨b,o,none⟩=some (.int .u64 e.rep)/\w.cell? ⟨b,o+1,none⟩=some (.int .u64 e.max)/\(∃j,w.cell? ⟨b,o+2,none⟩=some j/\RdR 0 u w j e.holes)/\e.rep<zk/\e.max<zk
def RdV(j:Nat)(w:World)(v:Value)(l:List En):Prop:=RdSl 3 (rdE j) 0 j w v l
def RdV.keep{j:Nat}{w w':World}{v:Value}{l:List En}(h:RdV j w v l)(hb:∀k,k<j->w'.heap[k]?=w.heap[k]?):RdV j w' v l:=
 RdSl.keep h (Zp _) (Zp _) λb o x _ h2 ⟨c0,c1,⟨hv,c2,c3⟩,c4⟩=>
  ⟨(tk (a:=⟨b,o,none⟩) (hb b h2)).trans c0,(tk (a:=⟨b,o+1,none⟩) (hb b h2)).trans c1,⟨hv,(tk (a:=⟨b,o+2,none⟩) (hb b h2)).trans c2,c3.keep (Zp _) (Zp _) λb _ h=>hb b h⟩,c4⟩
def zC(e:En):List Nat:=e.rep::e.max::e.holes.length::e.holes.flatMap λs=>[s.lo,s.hi]
def zv(v:List En):List Nat:=v.length::v.flatMap zC
def PtE(u j:Nat)(A B:World):Prop:=A.heap.size<=B.heap.size/\∀k,k<A.heap.size->(k<u\/k=j\/∃o f t,A.heap[k]?=some (.cells o t f)/\(t = 155 \/ t = 64))->B.heap[k]?=A.heap[k]?
def RdV.pt{j u:Nat}{w o:World}{v:Value}{l:List En}(h:RdV j w v l)(y:PtE j u w o)(A:j<=w.heap.size):RdV j o v l:=h.keep λk hk=>y.2 k a9 (.inl hk)
def zko(x y z:Int)(w:World):(Instr.index 300 (.agg #[.int .u64 x,.int .u64 y,.int .u64 z]) (.int .i64 0)).run xt w=.ok (.int .u64 x) w:=dM
def zkp(x y z:Int)(w:World):(Instr.index 300 (.agg #[.int .u64 x,.int .u64 y,.int .u64 z]) (.int .i64 1)).run xt w=.ok (.int .u64 y) w:=dM
def zkq(x y z:Int)(w:World):(Instr.index 300 (.agg #[.int .u64 x,.int .u64 y,.int .u64 z]) (.int .i64 2)).run xt w=.ok (.int .u64 z) w:=dM
def zfR{v:List En}{k:Nat}(h:k<v.length):zv v=(v.length::(v.take k).flatMap zC)++zC v[k]++(v.drop (k+1)).flatMap zC:=by
 unfold zv
 conv=>lhs;rw[<-wZ k v,Vq h,Wj,We]
 simp
def Vt(v:List En)(va:Value)(Bv B:Nat)(W0:World)(hv:RdV B W0 va v)(hb:Boxed W0 Bv 48 va)(aF:B<=W0.heap.size):
 v7 xt 223 #[.pointer (some ⟨Bv,0,none⟩)] (λx:Nat=>#[.int .u64 x]) (λ_=>False) (PtE B Bv) (zv v) W0:=by
 intro l J Jx hJ aq hY h0;refine callsIn_wide.2 ?_;show Calls xt 223 #[.func (.yield l) #[] #[],.pointer (some ⟨Bv,0,none⟩)] W0 _;have HJ:=qL hJ;have bn:=qL aq;have HY:=qL hY;have HV:=qL hv;clear hJ aq hY;have bu:=hv.len;obtain⟨av,L,rfl,ba,aB,ae⟩:=hv;unfold maxLen at aB;have hM:=zw;have bw:IntKind.u64.wrap ((v.length:Nat):Int)=(v.length:Int):=ZR a9;have aY:=hb.cell;obtain⟨fn,K,u,H,T,N⟩:=HY.o [] v.length W0 h0 ⟨v.flatMap zC,rfl⟩;dsimp only at T;clear hM;go_enter func223,ntmps223
 go_upto_region 0 with fail
 refine(Ts (n:=8)).1 ?_
 gi_wp2
 refine N.mono ?_;rintro e w1 (⟨rfl,an,V⟩|⟨rfl,ar⟩)
 .gi_wp2
  have az:Boxed w1 Bv 48 (.slice av v.length L):=(V.2 Bv hb.lt (.inr (.inl rfl))).trans hb;have aj:=qL (HV.o.pt V aF);have aG:B<=w1.heap.size:=VS aF V.1;have aZ:=az.cell;clear T N aY hb az h0
  go_wp2_with fail
  go_loopg [17] v.length (λg x wr=>∃k:Nat,k<=v.length/\g=v.length-k/\x=.int .i64 k/\J (v.length::(v.take k).flatMap zC) wr/\RdV B wr (.slice av v.length L) v/\B<=wr.heap.size)
  case atStart=>exact⟨0,X4 _,rfl,rfl,dL an,aj.o,aG⟩
  case round=>
   obtain⟨k,hk,rfl,rfl,U,aT,bt⟩:=hrel;obtain⟨wo,bi⟩:=xm (wr);subst bi;clear an aj aG V aZ ae;by_cases X:k<v.length
   .obtain⟨a',am,ay,_,_,aA⟩:=aT;obtain⟨b,Y,aU,_,aW,Q⟩:=aA (by intro e;subst e;simp at X);obtain⟨rfl,_,rfl⟩:av=a'/\v.length=v.length/\L=am:=(dL ay);subst aU;obtain⟨c0,c1,⟨hv,c2,ag⟩,be,bg⟩:=Q k X;have aM:qA (RdV B wo (.slice (some ⟨b,Y,none⟩) v.length L) v):=⟨_,_,rfl,ba,by unfold maxLen;exact aB,λ_=>⟨b,Y,rfl,X4 _,aW,Q⟩⟩;have HE:qA (∃e,e=v[k]):=⟨_,rfl⟩;obtain⟨e,he⟩:=HE.o;rw[<-he]at c0 c1 ag be bg;have HK:=qL he;have br:=ag.len;obtain⟨ah,w,rfl,aD,af,I⟩:=ag;unfold maxLen at af;have bz:IntKind.u64.wrap ((e.holes.length:Nat):Int)=(e.holes.length:Int):=ZR (by rw[zw];omega);have HH:qA (RdR 0 B wo (.slice ah e.holes.length w) e.holes):=⟨_,_,rfl,aD,by unfold maxLen;exact af,I⟩;clear aA Q he HE ay I;have HP:qA (zv v=(v.length::(v.take k).flatMap zC)++zC e++(v.drop (k+1)).flatMap zC):=(by show zv v=_;rw[HK.o];exact zfR X)
    go_wp2_with fail
    go_loopg [30] 3 (λg x wr=>((g=3/\x=.int .i64 0/\J (v.length::(v.take k).flatMap zC) wr)\/(g=2/\x=.int .i64 1/\J ((v.length::(v.take k).flatMap zC)++[e.rep]) wr)\/(g=1/\x=.int .i64 2/\J ((v.length::(v.take k).flatMap zC)++[e.rep,e.max]) wr)\/(g=0/\x=.int .i64 3/\J ((v.length::(v.take k).flatMap zC)++[e.rep,e.max,e.holes.length]) wr)) /\
     RdV B wr (.slice (some ⟨b,Y,none⟩) v.length L) v/\B<=wr.heap.size/\wr.heap[wo.heap.size]?=some (.cells #[.int .u64 e.rep,.int .u64 e.max,.slice ah e.holes.length w] 155 (0,0))/\RdR 0 B wr (.slice ah e.holes.length w) e.holes)
    case atStart=>exact⟨.inl ⟨rfl,rfl,HJ.o _ _ _ U ((Keep.refl _ _).alloc _)⟩,aM.o.keep λj hj=>tr _ _ _ a9,b6,tl _ _,HH.o.keep (Zp _) (Zp _) λj _ hj=>tr _ _ _ a9⟩
    case round=>
     obtain⟨aC,P,E,A,O⟩:=hrel;clear U;have i0:=zko;have i1:=zkp;have i2:=zkq;rcases aC with⟨rfl,rfl,C⟩|⟨rfl,rfl,C⟩|⟨rfl,rfl,C⟩|⟨rfl,rfl,C⟩
     .obtain⟨fn,K,u,H,T,N⟩:=HY.o ((v.length::(v.take k).flatMap zC)) e.rep wr C ⟨e.max::e.holes.length::(e.holes.flatMap λs=>[s.lo,s.hi])++(v.drop (k+1)).flatMap zC,by rw[HP.o];simp[zC]⟩;try dsimp only at T
      go_upto_region 7 with fail
      refine(Ts (n:=8)).1 ?_
      gi_wp2
      refine N.mono ?_;rintro e' w3 (⟨rfl,F,o⟩|⟨rfl,y⟩)
      .gi_wp2
       go_wp2;go_roundg 2;case measure=>omega
       case rel=>exact⟨.inr (.inl ⟨rfl,rfl,dL F⟩),P.pt o E,VS E o.1,(o.2 _ (XE.1 A).1 (.inr (.inr ⟨_,_,_,A,.inl rfl⟩))).trans A,O.keep (Zp _) (Zp _) λj _ hj=>o.2 j a9 (.inl hj)⟩
      .gi_wp2
       go_wp2;refine tx (tJ rfl _ _ _) rfl ?_;exact⟨⟨_,rfl⟩,.inr ⟨((v.length::(v.take k).flatMap zC))++[e.rep],⟨e.max::e.holes.length::(e.holes.flatMap λs=>[s.lo,s.hi])++(v.drop (k+1)).flatMap zC,by rw[HP.o];simp[zC]⟩,y⟩⟩
     .obtain⟨fn,K,u,H,T,N⟩:=HY.o ((v.length::(v.take k).flatMap zC)++[e.rep]) e.max wr C ⟨e.holes.length::(e.holes.flatMap λs=>[s.lo,s.hi])++(v.drop (k+1)).flatMap zC,by rw[HP.o];simp[zC]⟩;try dsimp only at T
      go_upto_region 7 with fail
      refine(Ts (n:=8)).1 ?_
      gi_wp2
      refine N.mono ?_;rintro e' w3 (⟨rfl,F,o⟩|⟨rfl,y⟩)
      .gi_wp2
       go_wp2;go_roundg 1;case measure=>omega
       case rel=>exact⟨.inr (.inr (.inl ⟨rfl,rfl,dL F⟩)),P.pt o E,VS E o.1,(o.2 _ (XE.1 A).1 (.inr (.inr ⟨_,_,_,A,.inl rfl⟩))).trans A,O.keep (Zp _) (Zp _) λj _ hj=>o.2 j a9 (.inl hj)⟩
      .gi_wp2
       go_wp2;refine tx (tJ rfl _ _ _) rfl ?_;exact⟨⟨_,rfl⟩,.inr ⟨((v.length::(v.take k).flatMap zC)++[e.rep])++[e.max],⟨e.holes.length::(e.holes.flatMap λs=>[s.lo,s.hi])++(v.drop (k+1)).flatMap zC,by rw[HP.o];simp[zC]⟩,y⟩⟩
     .obtain⟨fn,K,u,H,T,N⟩:=HY.o ((v.length::(v.take k).flatMap zC)++[e.rep,e.max]) e.holes.length wr C ⟨(e.holes.flatMap λs=>[s.lo,s.hi])++(v.drop (k+1)).flatMap zC,by rw[HP.o];simp[zC]⟩;try dsimp only at T
      go_upto_region 7 with fail
      refine(Ts (n:=8)).1 ?_
      gi_wp2
      refine N.mono ?_;rintro e' w3 (⟨rfl,F,o⟩|⟨rfl,y⟩)
      .gi_wp2
       go_wp2;go_roundg 0;case measure=>omega
       case rel=>exact⟨.inr (.inr (.inr (⟨rfl,rfl,dL F⟩))),P.pt o E,VS E o.1,(o.2 _ (XE.1 A).1 (.inr (.inr ⟨_,_,_,A,.inl rfl⟩))).trans A,O.keep (Zp _) (Zp _) λj _ hj=>o.2 j a9 (.inl hj)⟩
      .gi_wp2
       go_wp2;refine tx (tJ rfl _ _ _) rfl ?_;exact⟨⟨_,rfl⟩,.inr ⟨((v.length::(v.take k).flatMap zC)++[e.rep,e.max])++[e.holes.length],⟨(e.holes.flatMap λs=>[s.lo,s.hi])++(v.drop (k+1)).flatMap zC,by rw[HP.o];simp[zC]⟩,y⟩⟩
     .have d0:wr.cell? ⟨wo.heap.size,2,none⟩=some (.slice ah e.holes.length w):=(by simp[World.cell?,A])
      go_wp2_with fail
      go_loopg [41] e.holes.length (λg x wr=>∃j:Nat,j<=e.holes.length/\g=e.holes.length-j/\x=.int .i64 j/\J (((v.length::(v.take k).flatMap zC)++[e.rep,e.max,e.holes.length])++(e.holes.take j).flatMap λs=>[s.lo,s.hi]) wr/\RdV B wr (.slice (some ⟨b,Y,none⟩) v.length L) v/\B<=wr.heap.size/\RdR 0 B wr (.slice ah e.holes.length w) e.holes)
      case atStart=>exact⟨0,X4 _,rfl,rfl,dL C,P,E,O⟩
      case round=>
       obtain⟨j,hj,rfl,rfl,ao,ad,aH,aS⟩:=hrel;clear C P E O d0 A;obtain⟨M,aI⟩:∃wo,wo=wr:=⟨_,rfl⟩;subst aI;by_cases S:j<e.holes.length
       .obtain⟨aN,ac,ax,_,_,Z⟩:=aS;obtain⟨bh,ab,aw,_,aV,G⟩:=Z (by intro e';rw[e']at S;simp at S);obtain⟨rfl,rfl⟩:ah=aN/\w=ac:=(dL ax);subst aw;obtain⟨c3,c4,s1,s2⟩:=G j S;obtain⟨s,hs⟩:=xm (e.holes[j]);rw[<-hs]at c3 c4 s1 s2;have HS:=qL hs;have aK:qA (RdR 0 B M (.slice (some ⟨bh,ab,none⟩) e.holes.length w) e.holes):=⟨_,_,rfl,aD,by unfold maxLen;exact af,λ_=>⟨bh,ab,rfl,X4 _,aV,G⟩⟩;clear hs Z G ax;have aL:=qL ad;clear ad;have aP:=HJ.o _ _ _ ao ((Keep.refl _ M).alloc (.cells #[.int .u64 s.lo,.int .u64 s.hi] 64));have HF:qA (zv v=((v.length::(v.take k).flatMap zC)++[e.rep,e.max,e.holes.length])++((e.holes.take j).flatMap λs=>[s.lo,s.hi])++[s.lo,s.hi]++(((e.holes.drop (j+1)).flatMap λs=>[s.lo,s.hi])++(v.drop (k+1)).flatMap zC)):=by
         show zv v=_;rw[HP.o];unfold zC
         conv=>lhs;rw[<-wZ j e.holes,Vq S,<-HS.o]
         simp;omega
        obtain⟨fn,K,u,H,T,N⟩:=HY.o (((v.length::(v.take k).flatMap zC)++[e.rep,e.max,e.holes.length])++((e.holes.take j).flatMap λs=>[s.lo,s.hi])) s.lo _ aP ⟨s.hi::(((e.holes.drop (j+1)).flatMap λs=>[s.lo,s.hi])++(v.drop (k+1)).flatMap zC),by rw[HF.o];simp only[wQ,yb,Y1]⟩;try dsimp only at T
        go_upto_region 12 with fail
        refine(Ts (n:=8)).1 ?_
        gi_wp2
        refine N.mono ?_;rintro e' w3 (⟨rfl,F,o⟩|⟨rfl,y⟩)
        .have aX:w3.heap[M.heap.size]?=some (.cells #[.int .u64 s.lo,.int .u64 s.hi] 64 (0,0)):=(o.2 _ b7 (.inr (.inr ⟨_,_,_,tl _ _,.inr rfl⟩))).trans (tl _ _);have bq:w3.cell? ⟨M.heap.size,1,none⟩=some (.int .u64 s.hi):=(by simp[World.cell?,aX]);have bc:B<=w3.heap.size:=VS aH (VS b7 o.1);have aJ:qA (∀q,q<B->w3.heap[q]?=M.heap[q]?):=λq hq=>(o.2 q b6 (.inl hq)).trans (tr _ _ _ a9);obtain⟨bp,bl,ak,aO,bj,aR⟩:=HY.o ((((v.length::(v.take k).flatMap zC)++[e.rep,e.max,e.holes.length])++((e.holes.take j).flatMap λs=>[s.lo,s.hi]))++[s.lo]) s.hi w3 F ⟨(((e.holes.drop (j+1)).flatMap λs=>[s.lo,s.hi])++(v.drop (k+1)).flatMap zC),by rw[HF.o];simp only[wQ,yb,Y1]⟩;try dsimp only at bj
         clear T N
         gi_wp2
         refine aR.mono ?_;rintro e2 w4 (⟨rfl,aQ,aE⟩|⟨rfl,au⟩)
         .gi_wp2
          go_wp2;go_roundg (e.holes.length-(j+1));case measure=>omega
          case rel=>have ai:∀q,q<B->w4.heap[q]?=M.heap[q]?:=λq hq=>(aE.2 q a9 (.inl hq)).trans (aJ.o q hq);refine⟨j+1,a9,rfl,by go_num,?_,aL.o.keep ai,VS bc aE.1,aK.o.keep (Zp _) (Zp _) λq _ hq=>ai q hq⟩;rw[X3 S,Wj,<-HS.o];simpa using aQ
         .gi_wp2
          go_wp2;refine tx (tJ rfl _ _ _) rfl ?_;exact⟨⟨_,rfl⟩,.inr ⟨_,⟨(((e.holes.drop (j+1)).flatMap λs=>[s.lo,s.hi])++(v.drop (k+1)).flatMap zC),by rw[HF.o];simp only[wQ,yb,Y1]⟩,au⟩⟩
        .gi_wp2
         refine⟨λf hf=>(by cases hf),?_⟩
         gi_wp2
         go_wp2;refine tx (tJ rfl _ _ _) rfl ?_;exact⟨⟨_,rfl⟩,.inr ⟨_,⟨s.hi::(((e.holes.drop (j+1)).flatMap λs=>[s.lo,s.hi])++(v.drop (k+1)).flatMap zC),by rw[HF.o];simp only[wQ,yb,Y1]⟩,y⟩⟩
       .obtain rfl:j=e.holes.length:=a9
        go_wp2;go_roundg (v.length-(k+1));case measure=>omega
        case rel=>refine⟨k+1,a9,rfl,by go_num,?_,ad,aH⟩;rw[X3 X,Wj,<-HK.o];simpa[zC]using ao
   .obtain rfl:k=v.length:=a9
    go_wp2;refine bodyPost_end (tJ rfl _ _ _) rfl ?_;rw[wj (Zp _)]at U;exact⟨⟨_,rfl⟩,.inl U⟩
 .gi_wp2
  go_wp2;refine tx (tJ rfl _ _ _) rfl ?_;exact⟨⟨_,rfl⟩,.inr ⟨[v.length],⟨v.flatMap zC,rfl⟩,ar⟩⟩
attribute [local go_sem] Oper.semAt_some
def Vu(a:Option Addr)(n c:Nat)(w:World):Calls xt 211 #[.slice a n c] w λe j=>e=.returned (.func (.func 223) #[] #[.pointer (some ⟨w.heap.size,0,none⟩)])/\j=w.alloc (.cells #[.slice a n c] 48):=by
 go_enter func211,ntmps211
 go_wp2;go_ret;exact⟨rfl,rfl⟩
def OwnN(base:Nat)(w:World)(v:Value)(j:List Nat):Prop:=w.ownsRow base 36 1 v j.length (j.map λx=>.int .u64 (x:Nat))
def OwnN.nil(base:Nat)(w:World):OwnN base w (.slice none 0 0) []:=tR _ _ _ _
def OwnN.keep{base:Nat}{S:Nat->Prop}{w w':World}{v:Value}{l:List Nat}(h:OwnN base w v l)(hb:Keep S w w')(hs:∀g,base<=g->g<w.heap.size->¬S g):OwnN base w' v l:=
 hb.ownsRow h λg j=>hs g (h.lt g j).1 (h.lt g j).2
def OwnN.mono{base j:Nat}{w:World}{v:Value}{l:List Nat}(h:OwnN base w v l)(hb:j<=base):OwnN j w v l:=by
 refine⟨h.1,?_⟩;rcases h.2 with A|⟨g,o,u,B,y,r⟩
 .exact .inl A
 .exact .inr ⟨g,o,u,B,VS hb y,r⟩
def SN(j:Nat)(A B:World):Prop:=(∃v,Boxed A j 147 v)/\Keep (λk=>k=j\/(j+4<=k/\∃o f,A.heap[k]?=some (.cells o 36 f))) A B
def SN.pt{y:Nat}{A B:World}(h:SN y A B):PtE y (y+1) A B:=by
 obtain⟨⟨v,F⟩,hk⟩:=h;refine⟨hk.size,λk u j=>hk.block k u ?_⟩;rintro(rfl|⟨H,C,f,o⟩)
 .rcases j with j|j|⟨C,f,t,j,ht⟩
  .omega
  .omega
  .have w:A.heap[k]?=some (.cells #[v] 147 (0,0)):=F;rw[w]at j;cases j;rcases ht with ht|ht<;>cases ht
 .rcases j with j|j|⟨E,G,t,j,ht⟩
  .omega
  .omega
  .rw[o]at j;cases j;rcases ht with ht|ht<;>cases ht
def Q5{W C:World}{w:Nat}{v A:Value}{M ys:List Nat}{B:Obj}
 (G:Boxed W w 147 v) (u:OwnN (w+4) W v M) (y:C.ownsRow (w+4) 36 1 A ys.length (ys.map λx=>.int .u64 (x:Nat))) (o:(W.alloc B).grownBy C v.ownBlock) :
 Boxed (C.setCell ⟨w,0,none⟩ A) w 147 A/\OwnN (w+4) (C.setCell ⟨w,0,none⟩ A) A ys/\SN w W (C.setCell ⟨w,0,none⟩ A):=by
 have F : 147 ≠ 36 :=b9
 obtain⟨N,J,K,O⟩:=qO G F u y o;refine⟨J,K,⟨v,G⟩,?_⟩;refine Keep.setCell (p:=⟨w,0,none⟩) ?_ (λ_=>.inl rfl) _;refine((Keep.refl _ W).alloc B).grown o λj E _=>.inr ⟨(u.lt j E).1,?_⟩;rcases u.2 with⟨rfl,_⟩|⟨g,H,I,rfl,P,L,_⟩
 .cases E
 .have:g=j:=(by simpa[Value.ownBlock]using E);subst this;exact⟨_,_,L⟩
def Tryz.infoU:(xt.info? 36).map (λi=>(i.zero,i.size,i.bytes))=some (some (Value.int .u64 0),1,8):=dM
def Q4(v:List En)(va:Value)(w:World)(hv:RdV w.heap.size w va v)(ac:(zv v).length<=1073741824):
 Calls xt 171 #[va] w λe Z=>∃u,e=.returned u/\OwnN w.heap.size Z u (zv v)/\Below w.heap.size w Z:=by
 have HV:=qL hv;obtain⟨N,K,rfl,_⟩:=hv;refine callsIn_wide.1 (tX (n:=9) func171 rfl trivial ?_ rfl);simp only[ntmps171,Wz,wn,Wp,Nat.reduceAdd,Nat.reduceSub,uf,ug,uy,ul,Y1,yb]
 gi_wp2_with (refine⟨trivial,?_⟩;gi_at_call 211;refine(callsIn_wide.2 (Vu _ _ _ _)).mono ?_;rintro e Z ⟨rfl,rfl⟩)
 obtain⟨J,I⟩:=xn (((w.alloc (Obj.cells #[Value.slice none 0 0] 147)).alloc (Obj.cells #[Value.slice N v.length K] 48)));have ad:J.heap.size=w.heap.size+2:=by rw[<-I];simp
 have b0:Boxed J w.heap.size 147 (Value.slice none 0 0):=by rw[<-I];exact(tQ w _ _).alloc _
 have b1:Boxed J (w.heap.size+1) 48 (Value.slice N v.length K):=by rw[<-I];have:=tQ (w.alloc (Obj.cells #[Value.slice none 0 0] 147)) 48 (Value.slice N v.length K);rw[tu]at this;exact this
 have O:Below w.heap.size w J:=by rw[<-I];exact((tq _ _).alloc (Zp _) _).alloc b7 _
 try simp only[tu]
 rw [I];clear I;refine Xt (w:=J) 223 #[.pointer (some ⟨w.heap.size+1,0,none⟩)] rfl (enters_of func223 dM rfl) (λx:Nat=>#[.int .u64 x]) (λ_=>rfl)
  (λ_=>False) (PtE w.heap.size (w.heap.size+1)) (zv v) ?hit
  (SN w.heap.size) (λA B h k hk L=>h.2.block k L (by rintro(e|⟨e,_⟩)<;>omega)) (λA B h=>h.pt)
  ?hPt ?hPt0 ⟨id,id⟩
  (λpre W=>(∃u,Boxed W w.heap.size 147 u/\OwnN (w.heap.size+4) W u pre)/\Below w.heap.size w W)
  (λ_ _ _=>False) ?hI (λ_ _ _ _ h _=>h) ⟨⟨_,b0,OwnN.nil _ _⟩,O⟩
  (λpre x Q W=>((∃u,Boxed W w.heap.size 147 u/\OwnN (w.heap.size+4) W u pre)/\Below w.heap.size w W) /\
    Q={ tmps:=#[Value.slice N v.length K,undef,Value.slice none 0 0,Value.pointer (some ⟨w.heap.size,0,none⟩),.int .u64 (x:Nat),Value.slice N v.length K,Value.func (Fn.func 223) #[] #[Value.pointer (some ⟨w.heap.size+1,0,none⟩)],.int .u64 (x:Nat),undef,undef,undef,undef,undef],defers:=[] })
  ?hAx ?hassign ?hbody ?hdone (λ_ _ _ _ h _=>h.elim)
 case hit=>intro W hk _;exact Vt v _ (w.heap.size+1) w.heap.size W (RdV.keep HV.o λk U=>((O.trans (hk.below a9 λ_ _=>id)).block k U)) (hk.boxed b1 id) (by have:=hk.size;omega)
 case hPt=>
  rintro A B C ⟨E,H⟩ ⟨F,h4⟩;refine⟨VS E F,λk hk y=>?_⟩;have e1:=H k hk y;refine(h4 k a9 ?_).trans e1;rcases y with y|y|⟨cs,f,t,y,ht⟩
  .exact .inl y
  .exact .inr (.inl y)
  .exact .inr (.inr ⟨cs,f,t,by rw[e1];exact y,ht⟩)
 case hPt0=>
  rintro A B hk ⟨o,ho⟩;refine⟨hk.size,λk L y=>hk.block k L ?_⟩;rintro rfl;rcases y with y|y|⟨cs,f,t,y,ht⟩
  .omega
  .omega
  .rw[ho]at y;cases y
 case hI=>rintro pre A B ⟨⟨u,E,H⟩,F⟩ T;have hk:Keep (λk=>k=J.heap.size\/k=J.heap.size+1) A B:=T.mono λ_ _ h=>h.elim False.elim id;exact⟨⟨u,hk.boxed E a9,H.keep hk (λg hg _=>a9)⟩,F.trans (hk.below F.size λk hk=>a9)⟩
 case hAx=>rintro pre x Q A B ⟨⟨⟨u,E,H⟩,F⟩,rfl⟩ hk;exact⟨⟨⟨u,hk.boxed E a9,H.keep hk (λg hg _=>a9)⟩,F.trans (hk.below F.size λk hk=>a9)⟩,rfl⟩
 case hassign=>
  rintro l pre x W M L ⟨⟨u,E,H⟩,F⟩;clear M
  gi_wp2
  exact⟨⟨⟨u,E⟩,Keep.refl _ _⟩,⟨⟨u,E,H⟩,F⟩,trivial⟩
 case hbody=>
  rintro l pre x Q W M L ⟨⟨⟨u,E,H⟩,F⟩,rfl⟩;have y:=E.cell;have hf:=E.frozen;obtain⟨i0,S,V,X,Y⟩:=tN Tryz.infoU;have hl:pre.length+1<=(zv v).length:=(by have:=M.length_le;simpa using this)
  gi_wp2_with (gi_at_builtin;refine Tx _ rfl _ _ 147 rfl (w.heap.size+4) 36 i0 (.int .u64 0) 1 8 underlying147 S V X Y rfl b9 _ _ _ rfl (H.alloc _) ⟨W.heap.size,0,none⟩ 1 1 [.int .u64 (x:Nat)] rfl rfl (kw (cs:=#[.int .u64 (x:Nat)]) (t := 36) (fr:=(0,0)) (tl W _)) dJ dF a9 (by rw[tu];omega) ?_;intro v' w3 j G _;obtain⟨g',ab,rfl⟩:=TS j;obtain⟨q2,q3,q4⟩:=Q5 (ys:=pre++[x]) E H (dL j) G;have ae:=(qO E b9 H j G).1.cell;have af:=(qO E b9 H j G).1.frozen)
  exact⟨q4,⟨_,q2,q3⟩,F.trans (q4.2.below F.size λk hk=>by rintro(e|⟨e,_⟩)<;>omega)⟩
 case hdone=>
  rintro W ⟨⟨u,E,H⟩,F⟩ hD;have y:=E.cell
  gi_wp2
  refine⟨b7,.inl ⟨_,_,rfl,tU hD,?_⟩⟩;have P:Keep (λk=>k=J.heap.size) W (W.putObj J.heap.size (.deferred none)):=(Keep.refl (λk=>k=J.heap.size) W).putObj (λ_=>rfl) _;exact⟨_,tI rfl _ _ _,u,rfl,OwnN.mono (H.keep P λg hg _=>a9) a9,F.trans (P.below F.size λk hk=>a9)⟩
def zgV(P:Program)(nt:Nat)(u:List Nat)(id:Nat)(o:Array Oper)(j:Bool):PC:=(qx P nt u (.region id o j)).getD .sk
def zgW(c:Operand):PO:=(po c).getD (.c .und)
def pcT(P:Program)(nt:Nat)(j:List Nat)(k:Nat)(X:PC):Code->PC
 |.region id ops draw=>if id=k then X else zgV P nt j id ops draw
 |.seq a b=>.sq (pcT P nt j k X a) (pcT P nt j k X b)
 |.cond c a b=>.cd (zgW c) (pcT P nt j k X a) (pcT P nt j k X b)
 |.block id a=>.bk id (pcT P nt j k X a)
 |.loop a=>.lp [] (pcT P nt j k X a)
 |.exit id=>.ex id
 |.ret=>.rt
 |.scope a=>pcT P nt j k X a
 |_=>.sk
def zhs{P:Program}{f:FuncId}{fn:Func}(B:P.funcs[f]?=some fn)(j:List Nat){o:List PV}{r:PV}(n:Nat)(u:zbo P fn j n=true)(C:o.length=n)(w:∀p∈o,p.own=none)(k:Nat)(X:PC){c:Code}(A:xN fn=c)(E:qx P fn.ntmps j c=some (pcT P fn.ntmps j k X c))(y:pW P fn.ntmps True (pcT P fn.ntmps j k X c) (jG (zgk P fn) r) ⟨qQ 0 o,[]⟩):Cn P f o r:=by refine zgM B j n u C w ?_;unfold zbt;rw[A,E,WP];exact y
attribute [local go_sem] Oper.semAt_some
def zsw{w:World}{g:Nat}{o:Array Value}{T:TypeId}(h:w.heap[g]?=some (.cells o T (0,0)))(i:Nat)(v:Value):(w.setCell ⟨g,i,none⟩ v).heap[g]?=some (.cells (o.setIfInBounds i v) T (0,0)):=by obtain⟨j,hk⟩:=XE.1 h;show (w.heap.modify g _)[g]?=_;rw[Wc (by rw[Array.size_modify];exact j),Array.getElem_modify_self,hk];simp
def wpList_append_copy{w:World}{O:Array Oper}{rest:List Oper}{o:Oper}{a:Act}{Q:Exit->Act->World->Prop}(L:o.guard=none)(s x:Operand)
 (ho:o.op=.call { callee:=.builtin .append,args:=#[s,x],argTypes:=#[24,24] }) (i:TypeInfo) (z:Value) (y:Nat)
 (hi:xt.info? 64 = some i) (hz:i.zero=some z) (G:i.size=2) (Y:i.bytes=y) (X:y<=64) (hzs:z.cells.size=2)
 (B:Nat) (hs:a.eval s=.slice (some ⟨B,0,none⟩) 0 0) (hB:w.heap[B]?=some (.cells #[] 64 (0,0))) (N:Nat) (ac:N<=B)
 {v:Value} {l:List Iv} (hx:a.eval x=v) (hr:RdR 0 w.heap.size w v l) (hl:l.length<=1099511627776)
 (h:∀T S,OwnR N S T l->Below B w S->wpList xt O Q rest (a.put o.dst T) S) :
 wpList xt O Q (o::rest) a w:=by
 have af:B<w.heap.size:=(XE.1 hB).1;have A:w.ownsRow N 64 2 (.slice (some ⟨B,0,none⟩) 0 0) 0 []:=⟨rfl,.inr ⟨B,0,#[],rfl,ac,hB,Zp _,b9,rfl,rfl⟩⟩;have I:=hr.bound;obtain⟨U,V,rfl,ah,ag,Z⟩:=hr;cases U with
 | none=>
   obtain rfl:l=[]:=by
    cases l with
    |nil=>rfl
    |cons s l=>obtain⟨b,C,e,_⟩:=Z b7;cases e
   refine TT L λK hK=>?_;have E:OwnR N w (.slice (some ⟨B,0,none⟩) 0 0) []:=⟨A,b7⟩;have hq:=hK _ _ (h _ _ E (tq _ _));clear A Z I h hK E;simp only[Wp]at hx;unfold Oper.wp execOp;simp only[ho,resolve,invoke,builtin,tC,tG,tw,uh,Wx,W6,hs,hx];go_simp;exact hq
 | some U=>
   refine Tc (P:=xt) w L s x 24 ho N 64 i z 2 y underlying24 hi hz G Y hzs b9 _ 0 [] hs A U l.length V (xw l) hx (y6 l) ?_ ?_ dF ?_ a9 ?_
   .intro j u M;have ab:j<l.length*2:=by
     have:=(Zw.1 M).1
     rwa[y6]at this
    have ae:l≠[]:=(by intro e;subst e;simp at ab);obtain⟨b,C,e,_,_,F⟩:=Z ae;cases e;have H:(⟨b,C,none⟩:Addr).add j=⟨b,C+j,none⟩:=by unfold Addr.add;split<;>simp_all
    rw[H];have hk:j/2<l.length:=a9;obtain⟨g1,g2,_⟩:=F (j/2) hk;obtain⟨f1,f2⟩:=vz l (j/2) hk;rcases UL j with h0|h0
    .have e:j/2*2=j:=a9;rw[e]at g1 f1;rw[f1]at M;cases M;exact g1
    .have e:j/2*2+1=j:=a9;rw[show C+j/2*2+1=C+j from by omega]at g2;rw[e]at f2;rw[f2]at M;cases M;exact g2
   .intro u hu;simp[xw]at hu;obtain⟨s,_,rfl|rfl⟩:=hu<;>rfl
   .calc (0+l.length)*y<=1099511627776*64:=UM a9 X
     _<=140737488355328:=b9
   .intro T S ho J _ hv;refine h T S ⟨?_,I⟩ ⟨J.os,J.tape,J.output,J.size,λk hk=>J.block k a9 (by simp[Value.ownBlock];omega)⟩;simpa using ho
def zff(b:Addr)(n c:Nat)(w:World):(binOp .eql 24 (.slice (some b) n c) (.slice none 0 0)).run xt w=.ok (.bool false) w:=dM
def zqL(n c:Nat)(w:World):(binOp .eql 24 (.slice none n c) (.slice none 0 0)).run xt w=.ok (.bool true) w:=dM
def zeX{w:World}{v:Value}{l:List Iv}(H:RdR 0 w.heap.size w v l)(O:l.length<=1099511627776):
 Calls xt 64 #[v] w λe G=>∃C,e=.returned C/\OwnR w.heap.size G C l/\Below w.heap.size w G:=by
 obtain⟨S,u,y,A,B⟩:=tN Tryz.infoIv;have L:=qL H;obtain⟨a,o,rfl,M,N,E⟩:=H;cases a with
 | none=>
   have I:=qL (show l=[] from wP λP=>by obtain⟨b,T,e,_⟩:=E P;cases e);have Q:=zqL l.length o;clear M N E u y A B;go_enter func64,ntmps64
   go_wp2;go_ret;exact⟨_,rfl,by rw[I.o];exact OwnR.nil _ _,tq _ _⟩
 | some b=>
   clear E;have J:qA (RdR 0 (w.alloc (.cells #[] 64)).heap.size (w.alloc (.cells #[] 64)) (.slice (some b) l.length o) l):=qL (L.o.keep (Zp _) b7 λj _ h=>tr _ _ _ h);have K:=tl w (.cells #[] 64 (0,0));have Q:=zff b l.length o;go_enter func64,ntmps64
   go_wp2_with (at_builtin;refine wpList_append_copy rfl _ _ rfl S (.agg #[.int .u64 0,.int .u64 0]) 16 u y A B b9 rfl w.heap.size rfl K w.heap.size (Zp _) rfl J.o O ?_;intro C G ho F)
   go_ret;exact⟨C,rfl,ho,((tq _ w).alloc (Zp _) (.cells #[] 64 (0,0))).trans F⟩
end
section
open Go.RowKit
instance kpoW:Pl.Kpo World:=⟨Keep qe,λw=>Keep.refl _ w,λ_ _ _ h k=>h.trans k⟩
namespace Pl
variable {Ω:Type}[Kpo Ω]
def walkE_mono{j:Oper->Act->Ω->(Act->Ω->Prop)->Prop}{a0:Act}{w0:Ω}{C:Ω->Prop}{E u:List (Option Tmp×VP Ω)->Prop}(w:∀env,E env->u env):∀(l:List Oper)(env:List (Option Tmp×VP Ω)),walkE j a0 w0 C E l env->walkE j a0 w0 C u l env
 |[],env,h=>w env h
 |o::l,env,⟨V,h1,h2,h3⟩=>⟨V,h1,h2,walkE_mono w l _ h3⟩
omit [Kpo Ω] in
def finG_mono{F j:Act->Ω->Prop}{w:Ω}(hF:∀a w,F a w->j a w):∀(env:List (Option Tmp×VP Ω))(a:Act),finG F w env a->finG j w env a
 |[],a,h=>hF a w h
 |(none,_)::r,a,h=>finG_mono hF r a h
 |(some d,V)::r,a,h=>λu o=>finG_mono hF r _ (h u o)
section
variable {P:Program}{Q:Exit->Act->World->Prop}{a0:Act}{w0:World}{C:World->Prop}{E:List (Option Tmp×VP World)->Prop}{l:List Oper}{o:Oper}{env:List (Option Tmp×VP World)}{f:Nat->Nat}
def wdetK(v:Value)(B:o.guard=none)(h:∀a w,C w->Keep qe w0 w->Rds env a0 (zA o) a w->(execOp a.eval o).run P w=.ok (.value v) w)
 (F:walkE (xC P Q) a0 w0 C E l (env++[(o.dst,λu _=>u=v)])):walkE (xC P Q) a0 w0 C E (jA f o::l) env:=
 ⟨λu _=>u=v,λ_ _ _ h _=>h,by
  have j:(jA f o).guard=none:=(by simp[jA,B]);unfold stepOk;rw[j];intro a w y hk G K A;show (jA f o).wp P a w K Q;rw[Xq];show o.upon P a K Q ((execOp a.eval o).run P w);rw[h a w y hk G];exact A v w (Keep.refl _ _) y rfl,F⟩
def wgenK(V:VP World)(hs:∀u w y,V u w->Keep qe w y->V u y)(F:o.guard=none)
 (h:headOk (xC P Q) a0 w0 C env o V) (G:walkE (xC P Q) a0 w0 C E l (env++[(o.dst,V)])):walkE (xC P Q) a0 w0 C E (jA f o::l) env:=
 ⟨V,hs,by
  have j:(jA f o).guard=none:=(by simp[jA,F]);unfold stepOk;rw[j];intro a w B hk H K A;show (jA f o).wp P a w K Q;rw[Xq];exact h a w B hk H K A,G⟩
end
end Pl
def znC{P:Program}{id:Nat}{l:List Oper}{Q:Exit->Act->World->Prop}{a:Act}{w:World}(σ:List Nat)(y nt:Nat)(C:World->Prop)(hm:P.follows .mixedOrders=true)(hp:q9 l.length σ=true)
 (X:(zck (z8 l σ).toArray y 1 nt && yK (z8 l σ).toArray (y+1))=true) (ad:a.tmps.size=nt) (hC:C w.drew) (j u:Oper) (hcut:(z8 l σ)[y+1]?=some j) (O:(z8 l σ)[y]?=some u) (ac:j.guard=none) (S:u.guard=none) (I:List Oper) (N:(z8 l σ).drop (y+2)=I)
 (h:Pl.walkE (xC P Q) a w.drew C (λenv=>(∀A,C A->Keep qe w.drew A->Pl.finG (λa w=>wpList P (z8 l σ).toArray Q (j::I) a w) A env a)/\∀A,C A->Keep qe w.drew A->Pl.finG (λa w=>j.wp P a w (λa w=>wpList P (z8 l σ).toArray Q (u::I) a w) Q) A (env.take y) a) ((z8 l σ).take (y+1)) []):(Code.region id l.toArray true).wp P Q a w:=by
 refine TP hm ?_;refine xd hp ?_;generalize z8 l σ=L at *;rw[Vm]at X;obtain⟨ae,U,hR,H,B,G⟩:=KI X.1;have hs:y+2<=L.length:=dL U
 have ab:L.drop (y+1)=j::I:=by rw[Vq a9,N];rw[Zv a9]at hcut;rw[wB hcut]
 obtain⟨V,F⟩:∃V:Nat->Act->World->Prop,V=λc=>match c with|0=>wpList P L.toArray Q (u::I)|_=>wpList P L.toArray Q I:=⟨_,rfl⟩
 refine Pl.greadyC (Ω:=World) (ops:=L.toArray) (nh:=y) (r:=1) (a0:=a) (w0:=w.drew) (C:=C) rfl (xC P Q) (wpOp P L.toArray Q) (wpAny P .any L.toArray Q) (λa w=>Q .normal a w) (λk a w=>wpList P L.toArray Q (L.drop k) a w)
  ?_ (λi K K' a w hk hs=>Tp hk hs) (λE a w J M=>⟨J,M⟩) (λaf E a w J M=>⟨J,M⟩) ?_ ?_ ae hR H B G X.2 U V ?_ ?_ ad hC (Pl.walkE_mono ?_ _ _ h)
 .intro i o K a w ho hs;unfold wpOp;simp only[ho];split
  .rename_i hw;rw[vj hw]at hs;exact .inl hs
  .rename_i hw;rw[vD hw]at hs;exact hs
 .intro k a w hk ht;have T:k<L.length:=(dL hk);simp only[Vq T,wpList]at ht;unfold wpOp;simp only[wF,Zv T];exact ht
 .intro a w ht;simpa[wpList]using ht
 .intro c a w Z ht;obtain rfl:c=0:=a9;rw[F]at ht⊢;simp only[wpList,vj (show Region.wanted u (yielded L.toArray a.tmps)=true by simp[Region.wanted,S])]at ht;unfold wpOp;simp only[wF,ud,O];rw[vj (show Region.wanted u (yielded L.toArray a.tmps)=true by simp[Region.wanted,S])];exact ht
 .intro a w ht;rw[F]at ht;show wpList P L.toArray Q (L.drop (y+2)) a w;rw[N];exact ht
 .rintro env ⟨J,M⟩;refine⟨λA Z hk=>?_,λc Z A Y hk=>?_⟩
  .rw[ab];exact J A Z hk
  .obtain rfl:c=0:=a9;refine Pl.finG_mono (λa w h=>?_) _ _ (M A Y hk);unfold wpOp;simp only[wF,hcut];rw[vj (show Region.wanted j (yielded L.toArray a.tmps)=true by simp[Region.wanted,ac]),F];exact .inl h
end
section
open Go.RowKit Go.Sort
abbrev zg:Int->Value:=Value.int .u64
def Zb(x:Int)(w:World):Calls xt 197 #[.int .u64 x] w λe j=>e=.returned (.bool false)/\j=w:=by
 go_enter func197,ntmps197
 go_wp2;go_ret;exact⟨b7,rfl⟩
def za(x y:Int)(w:World):Calls xt 204 #[.int .u64 x,.int .u64 y] w λe j=>e=.returned (.bool (Sort.ltInt x y))/\j=w:=by
 go_enter func204,ntmps204
 go_wp2_with (go_at_call 197;refine(Zb _ _).mono ?_;rintro e j ⟨rfl,rfl⟩)
 go_ret;exact⟨rfl,rfl⟩
def Zd(rb j X:Nat)(G:X<18446744073709551616)(w:World)(M:w.cell? ⟨rb,j,none⟩=some (.int .u64 X))(N:w.frozen? ⟨rb,j,none⟩=false):
 Calls xt 219 #[.pointer (some ⟨rb,j,none⟩)] w λe K=>e=.returned (.int .u64 (xorNextN X:Nat))/\K=(w.setCell ⟨rb,j,none⟩ (.int .u64 (xorNextN X:Nat))).drewN 3:=by
 obtain⟨A,o⟩:∃A:Nat,A=X ^^^ (X*8192%18446744073709551616):=⟨_,rfl⟩;obtain⟨B,u⟩:∃B:Nat,B=A ^^^ (A/128):=⟨_,rfl⟩;obtain⟨C,y⟩:∃C:Nat,C=B ^^^ (B*131072%18446744073709551616):=⟨_,rfl⟩;have I:A<18446744073709551616:=by rw[o];exact Nat.xor_lt_two_pow (n:=64) a9 a9
 have J:B<18446744073709551616:=by rw[u];exact Nat.xor_lt_two_pow (n:=64) a9 a9
 have e1:bits .xor .u64 (X:Int) (IntKind.u64.wrap ((X:Int)*8192))=(A:Int):=by rw[IntKind.wrap_u64,show ((X:Int)*8192%18446744073709551616)=((X*8192%18446744073709551616:Nat):Int) by omega,TR _ _ G a9,o]
 have e2:bits .xor .u64 (A:Int) ((A:Int)/128)=(B:Int):=by rw[show ((A:Int)/128)=((A/128:Nat):Int) by omega,TR _ _ I a9,u]
 have L:bits .xor .u64 (B:Int) (IntKind.u64.wrap ((B:Int)*131072))=(C:Int):=by rw[IntKind.wrap_u64,show ((B:Int)*131072%18446744073709551616)=((B*131072%18446744073709551616:Nat):Int) by omega,TR _ _ J a9,y]
 have E:xorNextN X=C:=by unfold xorNextN;simp only[];rw[<-o,<-u,<-y]
 rw[E];clear o u y E;have H:∀v F,(w.setCell ⟨rb,j,none⟩ v).setCell ⟨rb,j,none⟩ F=w.setCell ⟨rb,j,none⟩ F:=setCell_setCell w rb j;go_enter func219,ntmps219
 go_wp2;go_region;all_goals go_wp2
 all_goals go_region
 all_goals go_wp2
 all_goals go_region
 all_goals go_wp2
 go_ret;exact⟨rfl,rfl⟩
def kI(n:Nat)(u:n<4611686018427387904)(w:World):
 Calls xt 218 #[.int .i64 n] w λe o=>e=.returned (.int .u64 ((1 <<< bitsLen n:Nat):Int))/\o=w:=by
 have j:∀w,Calls xt 164 #[.int .u64 (n:Int)] w λe o=>e=.returned (.int .i64 (bitsLen n:Nat))/\o=w:=λw=>by
  have h:=ZC (n:Int) w a9 a9
  rwa[Int.toNat_natCast,bitLen_eq _ a9]at h
 have hk:bitsLen n<=62:=(bitsLen_le_iff n 62).2 a9;have y:=wrap_two_pow (bitsLen n) hk;go_enter func218,ntmps218
 go_wp2_with (first|(go_at_call 164;refine(j _).mono ?_;rintro e o ⟨rfl,rfl⟩))
 go_ret;exact⟨rfl,rfl⟩
set_option maxRecDepth 1000000 in
def jB(zc j H:Nat)(d:Array Int)(a b:Nat)(w:World)(I:Holds zg w zc j d)(M:a<=b)(hb:b<=d.size)(O:d.size<4611686018427387904):
 Calls xt 202 #[.slice (some ⟨zc,j,none⟩) d.size H,.int .i64 a,.int .i64 b] w λe S=>e=.returned (.tuple #[])/\∃n,S=putRow zg (Sort.ahead w n) zc j (reverseRange d a b):=by
 go_enter func202,ntmps202
 go_wp2;go_loopg [6,7] (b-a) (λk P Q wr=>∃(i jn:Nat) (C:Int) (o:Array Int) (n:Nat),P=.int .i64 i/\Q=.int .i64 C/\((i:Int)<C->C=jn/\jn<d.size)/\(¬(i:Int)<C->¬i<jn)/\jn-i<=k /\
  o.size=d.size/\wr=putRow zg (Sort.ahead w n) zc j o/\reverseLoop i jn o=reverseLoop a (b-1) d)
 case atStart=>exact⟨a,b-1,(b:Int)-1,d,0,rfl,rfl,λh=>⟨a9,a9⟩,λh=>a9,a9,rfl,(Ta zg w zc j d I).symm,rfl⟩
 case round=>
  obtain⟨i,jn,C,o,n,rfl,rfl,K,L,hk,E,B,u⟩:=hrel;by_cases F:(i:Int)<C
  .obtain⟨rfl,N⟩:=K F;have J:i<jn:=a9;have y:Holds zg wr zc j o:=(by rw[B];exact Td zg _ zc j d o (tM zg w n zc j d I) E);obtain⟨T,fi⟩:=y i a9;obtain⟨U,V⟩:=y jn a9;have A:qA (wr=putRow zg (Sort.ahead w n) zc j o):=B;clear B y I K L
   go_wp2_with fail
   go_region
   go_wp2;go_roundg (jn-1-(i+1));case measure=>omega
   case rel=>
    rw[reverseLoop,vj J]at u;exact⟨i+1,jn-1,(jn:Int)-1,swp o i jn,n+1,b7,rfl,λh=>⟨a9,a9⟩,λh=>a9,Zp _,by rw[tP];exact E,
     swap_world zg a9 a9 A.o (by simp[zg,tj,show jn<o.size by omega]) rfl,u⟩
  .have G:=L F
   go_wp2
   go_end0
   refine⟨rfl,n,?_⟩;rw[reverseLoop,vD G]at u;rw[reverseRange,<-u]
end
end Go.Proofs.YtjdjjlkifdimkaaGreatDoor
