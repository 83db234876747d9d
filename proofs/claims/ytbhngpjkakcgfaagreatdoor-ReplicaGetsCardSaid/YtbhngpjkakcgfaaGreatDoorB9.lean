import Derived.BigQuiet
import Derived.Deep.QuietTactic
import Derived.ChangeAt
import Derived.DataElems
import Derived.Deep.Slices
import Derived.ProofKit
import Derived.Lib.SmallJoins
import Derived.LaidEql
import Derived.Stop.Asserts
import Derived.RowKitTokens
import Derived.Laws.Cells
import Derived.Laws.IdiomCopy
import Derived.Maps.Own
import Derived.Maps.Views
import Derived.Maps.RangeWalk
import Derived.Sort.Walk7a
import Derived.Sort.WalkB12
import Derived.Sort.WalkA
import Derived.Test.YtbhngpjkakcgfaaGreatDoorB1
import Derived.Test.YtbhngpjkakcgfaaGreatDoorB8
set_option maxHeartbeats 16000000
set_option linter.all false
set_option maxRecDepth 100000
namespace Go.Proofs.YtbhngpjkakcgfaaGreatDoor
def tr:=@Go.World.cell?_alloc_lt
def tB:=@Go.World.frozen?_alloc_old
def tC:=@Go.Calls.quiet_of_same
def tM:=@Go.run_callFunc_extern
def tN:=@Go.Sort.holds_ahead
def tR:=@Go.Sort.size_swp
def tW:=@Go.World.cell?_alloc_at
def tY:=@Go.run_typeAssert_lacksB
def tZ:=@Go.rounds_succ
def Tb:=@Go.Sort.putRow_self
def Td:=@Go.Sort.frozen?_putRow
def Tf:=@Go.Sort.holds_putRow
def Tn:=@Go.wp_loop_rounds
def Tx:=@Go.Sort.cell?_putRow
def TD:=@Go.wpList_next_ranges
def TH:=@Go.World.cell?_spot
def TI:=@Go.wpList_range_own
def TR:=@Go.World.cells?_some
def TS:=@Go.DataW.trod_struct
def TV:=@Go.bits_xor_u64_nat
open Go.Proofs.Tryz renaming prog->xT
section
open Go.RowKit
variable {P:Program}
def qQ:Nat->List PV->List (Nat×PV)
 |_,[]=>[]
 |k,p::ps=>(k,p)::qQ (k+1) ps
def Qe:∀(j:List PV)(k i:Nat),yr (qQ k j) i=if k<=i then j.getD (i-k) .und else .und
 |[],k,i=>by simp[qQ,yr]
 | p::j,k,i=>by
   simp only[qQ,yr];by_cases h:k=i
   .subst h;simp
   .rw[Vm h,Qe j (k+1) i];by_cases u:k+1<=i
    .rw[vj u,vj a8];obtain⟨d,w⟩:∃d,i-k=d+1:=⟨i-k-1,a8⟩;rw[w,show i-(k+1)=d from by omega];rfl
    .rw[Vm u,Vm a8]
def PV.resD:PV->Bool
 |.agg cs=>zY cs
 |p=>p.isD
def zgB:List Value->Value
 |[u]=>u
 |us=>.tuple us.toArray
inductive RV where
 |t (i:Nat)
 |c (i:Nat) (ag:Bool) (n:Nat)
def RV.get(s:PS):RV->Option PV
 |.t i=>some (s.get i)
 | .c i ag n=>match s.get i with
   | .bx j o=>match s.b[j]? with
     | some u=>match ag with
       |true=>if o+n<=u.length then some (.agg ((u.drop o).take n)) else none
       |false=>u[o]?
     |none=>none
   |_=>none
def YJ(s:PS):List RV->Option (List PV)
 |[]=>some []
 |r::l=>(r.get s).bind λp=>(YJ s l).map λj=>p::j
def jC(j:List RV)(s:PS)(r:PV):Prop:=match j with
 |[.t t]=>SubP 0 (s.get t) r
 | [x]=>match x.get s with
   |some p=>p.resD=true/\SubP 0 p.sh r/\r.own=none
   |none=>False
 | j=>match YJ s j with
   |some u=>u.all PV.resD=true/\SubP 0 (.tup (u.map PV.sh)) r
   |none=>False
def jG(j:List RV)(r:PV):PX->PS->Prop
 |.x _,_=>False
 |_,s=>jC j s r
def XU(P:Program):ResultVar->Option RV
 |.tmp t=>some (.t t)
 |.cell a t=>(XH P t).bind fun(ag,n)=>if ag || n == 1 then some (.c a ag n) else none
def yc(P:Program):List ResultVar->Option (List RV)
 |[]=>some []
 |r::l=>(XU P r).bind λx=>(yc P l).map λj=>x::j
section
variable {B:Bs}{nt:Nat}{g:Gh}{s:PS}{a:Act}{w:World}
def Xs(j:Array Value):ResultVar->Sem Value
 |.tmp t=>pure (j.getD t undef)
 |.cell a t=>do loadVar t (<-asAddr (j.getD a undef))
def ziS(h:R B g s (zB a) w){J:ResultVar}{x:RV}{p:PV}(C:XU P J=some x)(A:x.get s=some p)(F:p.resD=true):∃u,(Xs a.tmps J).run P w=.ok u w/\Dat g.D w u p.sh:=by
 cases J with
 | tmp t=>
   cases C;simp only[RV.get,wO]at A;subst A;have O:(s.get t).isD=true:=by
    revert F;cases s.get t<;>intro F<;>first|exact F|rfl
   exact⟨_,rfl,((h.slots t).data O).sh⟩
 | cell i t=>
   simp only[XU,Z3]at C;obtain⟨⟨H,n⟩,hs,C⟩:=C;simp only at C;split at C
   .rename_i hcond;cases C;simp only[RV.get]at A;split at A
    .rename_i j o e;have M:=h.slots i;rw[e]at M;obtain⟨V,e1⟩:=M.inv_bx;split at A
     .rename_i cs hcs;obtain⟨U,K,T,Q,hz,hb⟩:=h.boxes j cs hcs;have E:∀k,k<cs.length->w.cell? ⟨g.ρ j,0+k,none⟩=some (K.getD k undef)/\(K.getD k undef).oneCell'=true:=λk hk=>by refine⟨?_,(hb k _ (Zv hk)).2⟩;simp only[World.cell?,Q];simp[show k<K.size by omega]
      have I:VI cs o H n λy=>y=p:=by
       unfold VI;cases H with
       | true=>
         simp only at A⊢;split at A
         .rename_i hle;cases A;exact⟨hle,rfl⟩
         .cases A
       |false=>simp only at A⊢;rw[A]
      have G:H=true->zY ((cs.drop o).take n)=true:=λe=>by
       subst e;simp only at A;split at A
       .cases A;exact F
       .cases A
      obtain⟨u,S,L,N,rfl⟩:=Qv (P:=P) (D:=g.D) (ρ:=g.ρ) (nb:=s.b.length) hs I E (λk q I=>(hb k q I).1) G;refine⟨u,?_,(N.data ?_).sh⟩
      .rw[wn]at L;have e2:a.tmps.getD i undef=.pointer (some ⟨g.ρ j,o,none⟩):=e1;simp only[Xs,e2,asAddr,tG,tI,tA,L]
      .revert F;cases S<;>intro F<;>first|exact F|rfl
     .cases A
    .cases A
   .cases C
def Kj(h:R B g s (zB a) w):∀{l:List ResultVar}{A:List RV}{y:List PV},yc P l=some A->YJ s A=some y->y.all PV.resD=true ->
 ∃us:List Value,(l.mapM (Xs a.tmps)).run P w=.ok us w/\us.length=y.length/\l.length=A.length/\∀(i:Nat) p,y[i]?=some p->Dat g.D w (us.getD i undef) p.sh
 |[],A,y,hc,j,_=>by cases hc;cases j;exact⟨[],rfl,rfl,rfl,λi p h=>by simp at h⟩
 | r::l,A,y,hc,j,hd=>by
   simp only[yc,Z3,ZZ]at hc;obtain⟨x,L,N,C,rfl⟩:=hc;simp only[YJ,Z3,ZZ]at j;obtain⟨p,j,M,K,rfl⟩:=j;simp only[UW,Vq]at hd;obtain⟨u,E,F⟩:=ziS h L j hd.1;obtain⟨us,G,H,I,J⟩:=Kj h C K hd.2;refine⟨u::us,by simp only[List.mapM_cons,tG,E,tA,G,tI],by simp[H],by simp[I],λi q hi=>?_⟩;cases i with
   |zero=>simp at hi;subst hi;exact F
   |succ i=>simpa using J i q (dJ hi)
def xZ(fn:Func)(j:Array Value){us:List Value}(h:(fn.results.toList.mapM (Xs j)).run P w=.ok us w):(results fn j).run P w=.ok (zgB us) w:=by
 unfold results;rw[Array.mapM_eq_mapM_toList];simp only[tG,Sem.run_map];erw[h];simp only[tA,tI];match us with
 |[]=>rfl
 |[u]=>rfl
 |u::v::l=>simp[zgB]
end
def ze2{D:Qk}{ρ:Nat->Nat}{w:World}{u:Value}{p:PV}(h:Rel D ρ 0 w u p):Dat D w u p:=by
 have j:∀{u p},Rel1 D ρ 0 w u p->Dat D w u p:=λh=>by
  rcases h with h|⟨i,o,_,hi,_⟩
  .exact h
  .omega
 rcases h with h|⟨f,H,I,B,A,rfl,rfl,C,E,F,G⟩
 .exact j h
 .exact .fn f H I B A C E (λi p y=>j (F i p y)) (λi p y=>j (G i p y))
def Ym{f:FuncId}{fn:Func}{c:Code}(y:P.funcs[f]?=some fn)(A:(fn.name == "runtime.NumGoroutine")=false)(hb:fn.body=some c):∀j w,(callFunc f j).run P w=.ok (.enter f j) w:=by
 intro j w;have u:¬fn.name = "runtime.NumGoroutine" :=dJ A
 simp[callFunc,y,u,hb]
def zjM{f:FuncId}{fn:Func}{c:Code}{pc:PC}(ms:List Nat)(hf:P.funcs[f]?=some fn)(hn:(fn.name == "runtime.NumGoroutine")=false)(hb:fn.body=some c)(M:List RV)(hr:yc P fn.results.toList=some M)(nt:Nat)(aj:fn.ntmps=nt)(hc:qx P nt ms c=some pc){L:List PV}{r:PV}
 (ak:∀p∈L,p.own=none) (hl:L.length<=nt) (an:pW P nt True pc (jG M r) ⟨qQ 0 L,[]⟩):Cn P f L r:=by
 refine⟨Ym hf hn hb,λD w vs S hD am hd=>calls_of_wp hf hb ?_⟩;subst aj;obtain⟨a,ha⟩:∃a:Act,({ tmps:=vs++Array.replicate (fn.ntmps-vs.size) undef,defers:=[] }:Act)=a:=⟨_,rfl⟩;rw[ha];have E:RA ⟨w,D,λ_=>False,S,[]⟩ fn.ntmps ⟨D,λ_=>0⟩ ⟨qQ 0 L,[]⟩ a w:=by
  have N:∀t,(⟨qQ 0 L,[]⟩:PS).get t=L.getD t .und:=λt=>(by show yr (qQ 0 L) t=_;rw[Qe];simp);have K:∀u p,zQ ⟨D,λ_=>0⟩ ⟨qQ 0 L,[]⟩ (zB a) w u p->p.own=none:=by
   rintro u p (⟨t,rfl,rfl⟩|⟨i,j,cs,F,_⟩)
   .rw[N,Q9];cases h:L[t]? with
    |none=>rfl
    |some p=>exact ak p (wM h)
   .simp at F
  refine⟨⟨λt=>?_,λi cs h=>by simp at h,λi j h=>by simp at h,λu p h=>zr (K u p h),λu p u' p' b h _ ho=>absurd (K u p h) ho,λu p b i h ho=>absurd (K u p h) ho,hD,λi h=>by simp at h,⟨rfl,rfl,rfl,Zp _,λ_ _ _=>rfl,λ_ _ h=>h,λ_ _ _ _ h=>h,λ_ _ h=>.inl h,hD⟩⟩,by rw[<-ha],by rw[<-ha];simp;omega⟩;rw[N,Q9];cases h:L[t]? with
  |none=>exact .dat (.und _)
  |some p=>have:=hd t p h;have ht:t<vs.size:=(by rw[am];exact(Zw.1 h).1);have e:zB a t=vs.getD t undef:=(by rw[<-ha];simp[zB,WJ ht]);rw[e];exact .dat this
 refine T5 (Ql (B:=⟨w,D,λ_=>False,S,[]⟩) (λ_ _ h=>h) c pc hc _ _ _ a w an E) λe a' H V=>?_;have fin:∀s g,RA ⟨w,D,λ_=>False,S,[]⟩ fn.ntmps g s a' H->jC M s r->bodyPost P fn (λe H=>∃v Z,e=.returned v/\Below w.heap.size w H/\(∀b o,D b o->Z b o)/\(∀b o,Z b o->D b o\/w.heap.size<=b)/\(∀b o,Z b o->b<H.heap.size)/\Dat Z H v r/\yW Z (λk=>w.heap.size<=k) H v r) .ret a' H:=by
  intro s g h A;obtain⟨E,Q,_⟩:=h;have I:Below w.heap.size w H:=⟨E.fr.os,E.fr.tape,E.fr.output,E.fr.size,λk hk=>E.fr.block k hk λh=>h⟩;have J:∀b o,g.D b o->D b o\/w.heap.size<=b:=λb o h=>by
   rcases E.fr.new b o h with h'|h'|h'
   .exact .inl h'
   .exact .inr h'
   .exact h'.elim
  have O:∀C,YJ s M=some C->C.all PV.resD=true->∃us:List Value,(results fn a'.tmps).run P H=.ok (zgB us) H/\us.length=C.length/\∀(i:Nat) p,C[i]?=some p->Dat g.D H (us.getD i undef) p.sh:=λC F G=>(by obtain⟨us,X,Y,_,k3⟩:=Kj E hr F G;exact⟨us,xZ fn _ X,Y,k3⟩);unfold jC at A;split at A
  .rename_i t;have ac:fn.results.toList=[.tmp t]:=by
    revert hr;cases fn.results.toList with
    |nil=>intro h;cases h
    | cons x l=>
      intro h;simp only[yc,Z3,ZZ]at h;obtain⟨y,U,ys,ae,e⟩:=h;cases e;cases l with
      | nil=>
        cases x with
        |tmp t=>cases U;rfl
        | cell a t=>
          simp only[XU,Z3]at U;obtain⟨⟨ag,n⟩,_,U⟩:=U;simp only at U;split at U<;>cases U
      |cons z l=>simp only[yc,Z3,ZZ]at ae;obtain⟨_,_,_,_,e⟩:=ae;cases e
   have ad:=xZ (P:=P) (w:=H) fn a'.tmps (us:=[a'.tmps.getD t undef]) (by rw[ac];rfl);refine⟨Q,_,ad,_,g.D,rfl,I,E.fr.d0,J,E.dlt,ze2 (SubP.rel A (E.slots t)),?_⟩;by_cases ho:r.own=none
   .exact zr ho
   .rcases SubP.own A (E.slots t) ho with rfl|⟨_,hk⟩
    .have:=E.owns _ _ (E.slot t);revert this ho;cases s.get t<;>try (intros;trivial)
     rename_i es ow;cases ow<;>try (intros;trivial)
     intro _ h;rcases h with hn|⟨gg,af,ah,e,F,hW,G⟩
     .exact .inl hn
     .exact .inr ⟨gg,af,ah,e,F,hW.resolve_right (λh=>h),G⟩
    .exact hk _ _ _
  .rename_i x _;split at A
   .rename_i p T;obtain⟨F,G,h3⟩:=A;obtain⟨us,X,Y,k3⟩:=O [p] (by simp[YJ,T]) (dJ F);match us,Y with
    |[u],_=>refine⟨Q,_,X,_,g.D,rfl,I,E.fr.d0,J,E.dlt,?_,zr h3⟩;exact ze2 (ρ:=g.ρ) (SubP.rel G (nb:=0) (.dat (k3 0 p rfl)))
   .exact A.elim
  .split at A
   .rename_i hne1 hne2 _ C T;obtain⟨F,G⟩:=A;obtain⟨us,X,Y,k3⟩:=O C T F;have ab:us.length≠1:=by
     intro e;rw[Y]at e;have ai:∀{M C},YJ s M=some C->C.length=M.length:=by
      intro M;induction M with
      |nil=>intro C h;cases h;rfl
      |cons x l ih=>intro C h;simp only[YJ,Z3,ZZ]at h;obtain⟨p,_,qs,hq,rfl⟩:=h;simp[ih hq]
     rw[ai T]at e;match M,e with
     |[x],_=>exact hne2 x rfl
    have ev:zgB us=.tuple us.toArray:=by
     revert ab;match us with
     |[]=>intro _;rfl
     |[u]=>intro h;exact absurd rfl h
     |u::v::l=>intro _;rfl
    rw[ev]at X;have:r.own=none:=by cases G<;>rfl
    refine⟨Q,_,X,_,g.D,rfl,I,E.fr.d0,J,E.dlt,?_,zr this⟩;refine ze2 (ρ:=g.ρ) (SubP.rel G (nb:=0) (.dat (.tup _ _ (by simp[Y]) λi p T=>?_)));simp only[wj,ZZ]at T;obtain⟨q,hq,rfl⟩:=T;have:=k3 i q hq;simpa[Q9]using this
   .exact A.elim
 cases e with
 |normal=>obtain⟨s,g,F,G⟩:=V;exact fin s g F G
 |ret=>obtain⟨s,g,F,G⟩:=V;exact fin s g F G
 |exit id=>obtain⟨s,g,F,G⟩:=V;exact G.elim
 |goto l=>exact V.elim
 |panic ch=>exact V.elim
 |outgrown=>exact V.elim
def zao(t:Nat)(j:List (List PV))(sz:Nat):PX->PS->Prop
 |.x _,_=>False
 |_,s=>match s.get t with
   |.sl es (.r _ sz')=>es=j/\sz'=sz
   |_=>False
def zio{f:FuncId}{fn:Func}{c:Code}{pc:PC}(ms:List Nat)(hf:P.funcs[f]?=some fn)(Q:(fn.name == "runtime.NumGoroutine")=false)(hb:fn.body=some c)(t:Nat)(hr:yc P fn.results.toList=some [.t t])(nt:Nat)(ah:fn.ntmps=nt)(hc:qx P nt ms c=some pc){F rs:List (List PV)}{sz:Nat}{I:List PV}
 (aj:∀p∈I,p.own=none) (hl:I.length+1<=nt) (am:pW P nt False pc (zao t rs sz) ⟨qQ 0 (.sl F (.r 0 sz)::I),[]⟩):OCn P f F sz I rs:=by
 refine⟨Ym hf Q hb,λD w v vs L S ak hd hv an=>calls_of_wp hf hb ?_⟩;subst ah;obtain⟨a,X⟩:∃a:Act,({ tmps:=(#[v]++vs)++Array.replicate (fn.ntmps-(#[v]++vs).size) undef,defers:=[] }:Act)=a:=⟨_,rfl⟩;rw[X];have N:∀i,(⟨qQ 0 (.sl F (.r 0 sz)::I),[]⟩:PS).get i=(PV.sl F (.r 0 sz)::I).getD i .und:=λi=>by show yr (qQ 0 _) i=_;rw[Qe];simp
 have H:zB a 0=v:=by rw[<-X];simp only[zB,ww];rw[WJ a9,WJ b6];rfl
 have hs:∀u p,zQ ⟨D,λ_=>0⟩ ⟨qQ 0 (.sl F (.r 0 sz)::I),[]⟩ (zB a) w u p->p.own≠none->u=v/\p=.sl F (.r 0 sz):=by
  rintro u p (⟨i,rfl,rfl⟩|⟨i,j,cs,A,_⟩) ho
  .rw[N]at ho⊢;cases i with
   |zero=>exact⟨H,rfl⟩
   | succ i=>
     exfalso;simp only[Q9,uM]at ho;cases h:I[i]? with
     |none=>rw[h]at ho;exact ho rfl
     |some p=>rw[h]at ho;exact ho (aj p (wM h))
  .simp at A
 have ac:yW D (Bs.W ⟨w,D,λk=>zc v=some k,L,[]⟩) w v (.sl F (.r 0 sz)):=by
  rcases an with Q|⟨gg,J,O,e,A,K,h3⟩
  .exact .inl Q
  .cases J with
   | zero=>
     by_cases Y:F=[]
     .subst Y;exact .inl ⟨_,by rw[A];rfl,rfl⟩
     .have:=QH (ρ:=λ_=>0) (nb:=0) (.dat (A▸hv));exact absurd (wH (tc.1 this.1)) Y
   |succ J=>exact .inr ⟨gg,_,O,e,A,.inr (by rw[A];rfl),h3⟩
 have hR:RA ⟨w,D,λk=>zc v=some k,L,[]⟩ fn.ntmps ⟨D,λ_=>0⟩ ⟨qQ 0 (.sl F (.r 0 sz)::I),[]⟩ a w:=by
  refine⟨⟨λi=>?_,λi cs h=>by simp at h,λi j h=>by simp at h,λu p h=>?_,λu p u' p' b h h' ho ai _ _=>by rw[(hs u p h ho).2,(hs u' p' h' ai).2],λu p b i h ho _ hi=>by simp at hi,S,λi h=>by simp at h,⟨rfl,rfl,rfl,Zp _,λ_ _ _=>rfl,λ_ _ h=>h,λ_ _ _ _ h=>h,λ_ _ h=>.inl h,S⟩⟩,by rw[<-X],by rw[<-X];simp;omega⟩
  .rw[N];cases i with
   |zero=>rw[H];exact .dat (hv.owned _ _)
   | succ i=>
     simp only[Q9,uM];cases h:I[i]? with
     |none=>exact .dat (.und _)
     |some p=>have:=hd i p h;have ht:i<vs.size:=(by rw[ak];exact(Zw.1 h).1);have e:zB a (i+1)=vs.getD i undef:=(by rw[<-X];simp only[zB,ww];rw[WJ a9,uU b6];simp);rw[e];exact .dat this
  .by_cases ho:p.own=none
   .exact zr ho
   .obtain⟨rfl,rfl⟩:=hs u p h ho;exact ac
 refine T5 (Ql (B:=⟨w,D,λk=>zc v=some k,L,[]⟩) (λh=>h.elim) c pc hc _ _ _ a w am hR) λe V C T=>?_;have Z:fn.results.toList=[.tmp t]:=by
  revert hr;cases fn.results.toList with
  |nil=>intro h;cases h
  | cons x l=>
    intro h;simp only[yc,Z3,ZZ]at h;obtain⟨y,M,ys,ad,e⟩:=h;cases e;cases l with
    | nil=>
      cases x with
      |tmp t=>cases M;rfl
      | cell a t=>
        simp only[XU,Z3]at M;obtain⟨⟨ag,n⟩,_,M⟩:=M;simp only at M;split at M<;>cases M
    |cons z l=>simp only[yc,Z3,ZZ]at ad;obtain⟨_,_,_,_,e⟩:=ad;cases e
 have fin:∀s g,RA ⟨w,D,λk=>zc v=some k,L,[]⟩ fn.ntmps g s V C->(match s.get t with|.sl F (.r _ sz')=>F=rs/\sz'=sz|_=>False)->bodyPost P fn (λe C=>∃u U,e=.returned u/\(C.os=w.os/\C.tape=w.tape/\C.output=w.output/\w.heap.size<=C.heap.size)/\(∀k,k<w.heap.size->zc v≠some k->C.heap[k]?=w.heap[k]?) /\
  (∀b o y,D b o->w.cell? ⟨b,o,none⟩=some y->C.cell? ⟨b,o,none⟩=some y)/\(∀b o,D b o->U b o)/\(∀b o,U b o->D b o\/w.heap.size<=b\/zc v=some b)/\(∀b o,U b o->b<C.heap.size) /\
  Dat U C u (.sl rs .sh)/\yW U (λk=>w.heap.size<=k\/zc v=some k) C u (.sl rs (.r 0 sz))) .ret V C:=by
  intro s g h G;obtain⟨E,af,_⟩:=h;split at G
  .rename_i es' m sz' e;obtain⟨rfl,rfl⟩:=G;have ab:=xZ (P:=P) (w:=C) fn V.tmps (us:=[V.tmps.getD t undef]) (by rw[Z];rfl);have A:=E.slots t;have K:=E.owns _ _ (E.slot t);rw[e]at A K;have ae:Dat g.D C (zB V t) (.sl es' .sh):=by
    rcases A with(hr|⟨_,_,hh,_⟩)|⟨_,_,_,_,_,hh,_⟩
    .exact hr.sh
    .cases hh
    .cases hh
   refine⟨af,_,ab,_,g.D,rfl,⟨E.fr.os,E.fr.tape,E.fr.output,E.fr.size⟩,λk hk Q=>E.fr.block k hk Q,λb o y S M=>E.fr.cell b o y S M,E.fr.d0,λb o S=>E.fr.new b o S,E.dlt,ae,?_⟩;rcases K with Q|⟨gg,J,O,e,q1,q2,q3⟩
   .exact .inl Q
   .exact .inr ⟨gg,J,O,e,q1,q2,q3⟩
  .exact G.elim
 cases e with
 |normal=>obtain⟨s,g,A,K⟩:=T;exact fin s g A K
 |ret=>obtain⟨s,g,A,K⟩:=T;exact fin s g A K
 |exit id=>obtain⟨s,g,A,K⟩:=T;exact K.elim
 |goto l=>exact T.elim
 |panic ch=>exact T.elim
 |outgrown=>exact T.elim
def xN(fn:Func):Code:=match fn.body with
 |some c=>c
 |none=>.skip
def zbo(P:Program)(fn:Func)(j:List Nat)(n:Nat):Bool:=!(fn.name == "runtime.NumGoroutine") && fn.body.isSome && (yc P fn.results.toList).isSome && (qx P fn.ntmps j (xN fn)).isSome && decide (n<=fn.ntmps)
def zbt(P:Program)(fn:Func)(j:List Nat):PC:=(qx P fn.ntmps j (xN fn)).getD .sk
def zgk(P:Program)(fn:Func):List RV:=(yc P fn.results.toList).getD []
def zgM{f:FuncId}{fn:Func}(J:P.funcs[f]?=some fn)(C:List Nat){A:List PV}{r:PV}(n:Nat)(j:zbo P fn C n=true)(M:A.length=n)(B:∀p∈A,p.own=none)(w:pW P fn.ntmps True (zbt P fn C) (jG (zgk P fn) r) ⟨qQ 0 A,[]⟩):Cn P f A r:=by
 unfold zbo at j;simp only[Vq,Wn,wG]at j;obtain⟨⟨⟨⟨F,G⟩,H⟩,I⟩,L⟩:=j;obtain⟨c,E⟩:=wY.1 G;obtain⟨K,y⟩:=wY.1 H;obtain⟨N,u⟩:=wY.1 I;unfold zbt zgk at w;rw[u,y]at w;have e:xN fn=c:=by unfold xN;rw[E]
 rw[e]at u;exact zjM C J F E K y fn.ntmps rfl u B a8 w
def zin{f:FuncId}{fn:Func}(K:P.funcs[f]?=some fn)(C:List Nat){E G:List (List PV)}{sz:Nat}{y:List PV}(n t:Nat)(j:zbo P fn C n=true)(B:yc P fn.results.toList=some [.t t])(N:y.length+1=n)(A:∀p∈y,p.own=none)(w:pW P fn.ntmps False (zbt P fn C) (zao t G sz) ⟨qQ 0 (.sl E (.r 0 sz)::y),[]⟩):OCn P f E sz y G:=by
 unfold zbo at j;simp only[Vq,Wn,wG]at j;obtain⟨⟨⟨⟨H,I⟩,L⟩,J⟩,M⟩:=j;obtain⟨c,F⟩:=wY.1 I;obtain⟨O,u⟩:=wY.1 J;unfold zbt at w;rw[u]at w;have e:xN fn=c:=by unfold xN;rw[F]
 rw[e]at u;exact zio C K H F t B fn.ntmps rfl u A a8 w
end
section
open Go.RowKit
def QZ:Option Iv->List Iv->Nat->Nat×Int
 |_,[],_=>(0,-1)
 |p,s::l,i=>if s.lo<=s.hi then (if (match p with|none=>0|some q=>relate q s)=0 then QZ (some s) l (i+1) else (3,(i:Int))) else (2,(i:Int))
def Zl(l:List Iv):Nat×Int:=QZ none l 0
def KJ:∀(l:List Iv)(p:Option Iv)(i:Nat),(∀s∈l,s.hi<zk)->((QZ p l i).1=0↔match p with|none=>NF 0 l|some q=>(∀s∈l,s.lo<=s.hi->relate q s=0\/True)/\(l=[]\/∃s r,l=s::r/\s.lo<=s.hi/\relate q s=0/\NF (s.hi+2) r))
 |[],p,i,_=>by cases p<;>simp[QZ,NF]
 | s::l,p,i,hb=>by
   have ih:=KJ l (some s) (i+1) (λt ht=>hb t (by simp[ht]));have hs:=hb s b6;have w:(QZ (some s) l (i+1)).1=0↔NF (s.hi+2) l:=by
    rw[ih];constructor
    .rintro⟨_,rfl|⟨t,r,rfl,u,j,y⟩⟩
     .trivial
     .refine⟨?_,u,hb t b6,y⟩;unfold relate at j;split at j
      .split at j
       .cases j
       .omega
      .split at j
       .split at j<;>cases j
       .cases j
    .intro h;refine⟨λ_ _ _=>.inr trivial,?_⟩;cases l with
     |nil=>exact .inl rfl
     |cons t r=>have:=h.1;exact .inr ⟨t,r,rfl,h.2.1,by unfold relate;rw[vj a8,Vm a8],h.2.2.2⟩
   unfold QZ;by_cases u:s.lo<=s.hi
   .rw[vj u];cases p with
    |none=>simp only[UL];rw[w];exact⟨λh=>⟨X3 _,u,hs,h⟩,λh=>h.2.2.2⟩
    | some q=>
      simp only;by_cases j:relate q s=0
      .rw[vj j,w];exact⟨λh=>⟨λ_ _ _=>.inr trivial,.inr ⟨s,l,rfl,u,j,h⟩⟩,λh=>by
        rcases h.2 with h|⟨t,r,e,_,_,h⟩
        .cases h
        .cases e;exact h⟩
      .rw[Vm j];simp;intro _ h;exact absurd h j
   .rw[Vm u];cases p with
    |none=>simp[NF,u]
    |some q=>simp;intro h;exact absurd h u
def YT{l:List Iv}(h:∀s∈l,s.hi<zk):(Zl l).1=0↔Nrm l:=KJ l none 0 h
def Yj{l:List Iv}{k:Nat}{p:Option Iv}(h:k<l.length):QZ p (l.drop k) k=if l[k].lo<=l[k].hi then (if (match p with|none=>0|some q=>relate q l[k])=0 then QZ (some l[k]) (l.drop (k+1)) (k+1) else (3,(k:Int))) else (2,(k:Int)):=by rw[vD h];rfl
end
section
open Go.ChangeShapes Go.WideShapes Go.ChangeAt Go.RowKit Go.Deep
section
variable {H:Type}{enc:TypeId×Value->H}{w:World}{base:Nat}{spare:Nat->Bool}{held:Bool}
instance : Inhabited Iv:=⟨⟨0,0⟩⟩
def zgC{n:Int}(h:(Lit.int .u64 n).wf=true):∃x:Nat,n=x/\x<zk:=by simp[Lit.wf,IntKind.min,IntKind.max,IntKind.signed,IntKind.bits]at h;exact⟨n.toNat,a8,by rw[zw];omega⟩
def kM{t:TypeId}{j:Nat}{u:List Value}{x:DataW H×List MemPlace}(ht:xT.underlying t=some (.int .u64))(h:DataW.trod enc xT w base spare held j t u=some x):∃n:Nat,u=[.int .u64 n]/\n<zk:=by obtain⟨n,rfl,_,A⟩:=DataW.trod_int ht h;obtain⟨m,rfl,y⟩:=zgC A;exact⟨m,rfl,y⟩
def zaC(a:Addr)(i:Nat):(a.add i).block=a.block:=by unfold Addr.add;split<;>rfl
def Za{α:Type}[Inhabited α]{t e:TypeId}{C sz:Nat}{O:List Value}{x:DataW H×List MemPlace}(rd:World->Nat->Nat->α->Prop)(ht:xT.underlying t=some (.slice e))(N:xT.cellsOf e=sz)
 (I:∀(n:Nat)(a:Addr)(u:List Value)(y:DataW H×List MemPlace),w.cells? base a sz=some u->DataW.trod enc xT w base spare held n e u=some y->a.spot=none/\a.block<w.heap.size/\∃x,rd w a.block a.off x)
 (h:DataW.trod enc xT w base spare held C t O=some x):∃v l,O=[v]/\RdSl sz rd 0 w.heap.size w v l:=by
 rcases open_slice ht h with⟨rfl,_⟩|⟨a,len,F,m,n,D,Y,rfl,hb,T,V,L,_,X⟩
 .exact⟨_,[],rfl,RdSl.nil _ _ b8⟩
 have U:len<=m:=by rw[L];split<;>omega
 have B:∀i,i<len->∃y,(a.add (i*sz)).spot=none/\a.block<w.heap.size/\rd w a.block ((a.add (i*sz)).off) y:=by intro i hi;obtain⟨u,Q,S⟩:=X i a8;rw[N]at Q;obtain⟨e1,e2,y,P⟩:=I _ _ _ _ Q S;rw[zaC]at e2 P;exact⟨y,e1,e2,P⟩
 obtain⟨f,J⟩:=choose_lt B;refine⟨_,(List.range len).map f,rfl,some a,F,b6,dJ T,V,λM=>?_⟩;have j:0<len:=by
  rcases Wi len with G|G
  .subst G;simp at M
  .exact G
 obtain⟨b,A,E⟩:=a;have hs:E=none:=by have:=(J 0 j).1;simpa[Addr.add]using this
 subst hs;refine⟨b,A,rfl,X3 _,(J 0 j).2.1,λi hi=>?_⟩;have K:i<len:=dJ hi
 have:=(J i K).2.2;have e:((⟨b,A,none⟩:Addr).add (i*sz)).off=A+i*sz:=by unfold Addr.add;split<;>simp_all
 rw[e]at this;simpa using this
def YB{P:Program}{e:TypeId}{u A:Field}{n:Nat}{a:Addr}{F:List Value}{y:DataW H×List MemPlace}(U:P.underlying e=some (.struct #[u,A]))(V:u.offset=0)(X:A.offset=1)(N:P.cellsOf u.type=1)(O:P.cellsOf A.type=1)
 (S:w.cells? base a 2=some F) (T:DataW.trod enc P w base spare held n e F=some y) :
 ∃C E k I J,w.cell? a=some C/\w.cell? (a.add 1)=some E/\DataW.trod enc P w base spare held k u.type [C]=some I/\DataW.trod enc P w base spare held k A.type [E]=some J:=by
 obtain⟨_,B,j⟩:=TR S;obtain⟨Y,k,_,_,_,G,M⟩:=TS U T;match Y,G,F,B with
 |[I,J],_,[C,E],_=>have K:=M 0 u rfl;have L:=M 1 A rfl;simp[V,X,N,O]at K L;have Q:=j 0 a8;have e1:=j 1 a8;exact⟨C,E,k,I,J,by simpa[Addr.add]using Q,dJ e1,K,L⟩
def zfA{n:Nat}{a:Addr}{C:List Value}{y:DataW H×List MemPlace}(G:w.cells? base a 2=some C)(I:DataW.trod enc xT w base spare held n 58 C=some y):a.spot=none/\a.block<w.heap.size/\∃s,rdIv w a.block a.off s:=by
 obtain⟨M,N,k,O,P,u,e1,E,F⟩:=YB Tryz.underlying58 rfl rfl dK dK G I;obtain⟨lo,K,B⟩:=kM Tryz.underlying38 E;obtain⟨hi,L,A⟩:=kM Tryz.underlying38 F;obtain rfl:M=_:=dJ K
 obtain rfl:N=_:=dJ L
 obtain⟨b,J,j⟩:=a;obtain rfl:j=none:=TH u;exact⟨rfl,tq _ _ u,⟨lo,hi⟩,u,by simpa[Addr.add]using e1,B,A⟩
def ZA{j:Nat}{u:List Value}{x:DataW H×List MemPlace}(h:DataW.trod enc xT w base spare held j 26 u=some x):∃v l,u=[v]/\RdR 0 w.heap.size w v l:=
 Za rdIv Tryz.underlying26 dK (λ_ _ _ _ y A=>zfA y A) h
def zpo{r:Reach}{A:Nat}{v:Value}{d:DataW H}{F:List MemPlace}(j:Value.okWide xT w r A 26 v)(h:DataW.Trod enc xT w base spare held 26 v d F):∃l,RdR 0 w.heap.size w v l:=by obtain⟨a,len,B,rfl⟩:=okWide_slice Tryz.underlying26 j;obtain⟨u,C⟩:=h;obtain⟨v,l,y,E⟩:=ZA C;simp[Value.cells]at y;exact⟨l,by rw[y];exact E⟩
end
end
namespace As
open Go.RowKit Go.Extern.Stop Go.Stop Go.Extern
def methodKind(h:Value)(w:World):(Go.method 417 174 (.agg #[h]) "Kind").run xT w=.ok (226,h) w:=dK
def methodElem(h:Value)(w:World):(Go.method 417 174 (.agg #[h]) "Elem").run xT w=.ok (241,.agg #[h]) w:=dK
def methodImplements(h:Value)(w:World):(Go.method 417 174 (.agg #[h]) "Implements").run xT w=.ok (242,.agg #[h]) w:=dK
def methodAssignableTo(h:Value)(w:World):(Go.method 417 174 (.agg #[h]) "AssignableTo").run xT w=.ok (239,.agg #[h]) w:=dK
def methodUnwrap(c k:Int)(w:World):(Go.method 417 96 (.agg #[.int .i64 c,.int .i64 k]) "Unwrap").run xT w=.ok (232,.agg #[.int .i64 c,.int .i64 k]) w:=dK
def rlm(z:Sem Value)(f:TypeId->Addr->Nat->Nat->Sem Value)(v:Value):
 ReflectliteValue.method z f #[v]=(do match <-ReflectliteValue.parts v with|none=>z|some (t,a,fl)=>f t a fl (fl%32)):=rfl
def rls(v x:Value):ReflectliteValue.set #[v,x]=(do
 let (some (dst,a,fl),some (src,b,_)):=(<-ReflectliteValue.parts v,<-ReflectliteValue.parts x)
  |unsupported (.noEntry "extern/(internal/reflectlite.Value).Set.zeroValue")
 if fl/ReflectliteValue.flagAddr%2 == 0 then unsupported (.noEntry "extern/(internal/reflectlite.Value).Set.unaddressable")
 let val <-loadVar src b
 if <-Rtype.directlyAssignable dst src then storeVar dst a val
 else if <-Rtype.implements dst src then
  if (<-Rtype.kind src) == 20 then
   match val with
   |.nilIface=>unsupported (.noEntry "extern/reflectlite: a nil value of one interface type handed on as a value of another")
   |_=>storeVar dst a val
  else storeVar dst a (.iface src val)
 else panicString ("reflectlite.Set: value of type " ++ (<-Rtype.spelt src) ++ " is not assignable to type " ++ (<-Rtype.spelt dst))
 pure (.tuple #[])):=rfl
def valueOfNp(t:Addr)(w:World):(ReflectliteValue.unpack (.iface 94 (.pointer (some t)))).run xT w
 = .ok (.agg #[.pointer (some ⟨1,94,none⟩),.pointer (some ⟨w.heap.size,0,none⟩),.int .u64 150]) (w.alloc (.cells #[.pointer (some t)] 94)):=dK
def typeNp(a:Addr)(w:World):(ReflectliteValue.methodAny (ReflectliteValue.valueError "reflectlite.Value.Type" 0) (λt _ _ _=>ReflectliteType.toType t) #[.agg #[.pointer (some ⟨1,94,none⟩),.pointer (some a),.int .u64 150]]).run xT w
 = .ok (.iface 174 (.agg #[.pointer (some ⟨1,94,none⟩)])) w:=dK
def kindNp(w:World):((ReflectliteType.abiMethod λt=>(λa:Nat=>Value.int IntKind.u8 (a:Int)) <$> Rtype.kind t) #[.pointer (some ⟨1,94,none⟩)]).run xT w=.ok (.int .u8 22) w:=dK
def kindN(w:World):((ReflectliteType.abiMethod λt=>(λa:Nat=>Value.int IntKind.u8 (a:Int)) <$> Rtype.kind t) #[.pointer (some ⟨1,49,none⟩)]).run xT w=.ok (.int .u8 2) w:=dK
def partsNp(a:Addr)(w:World):(ReflectliteValue.parts (.agg #[.pointer (some ⟨1,94,none⟩),.pointer (some a),.int .u64 150])).run xT w=.ok (some (94,a,150)) w:=dK
def isNilNp(a p:Addr)(W:World)(j:W.cell? a=some (.pointer (some p))):
 (ReflectliteValue.method (ReflectliteValue.valueError "reflectlite.Value.IsNil" 0) ReflectliteValue.isNil #[.agg #[.pointer (some ⟨1,94,none⟩),.pointer (some a),.int .u64 150]]).run xT W=.ok (.bool false) W:=by
 rw[rlm];simp only[tG,partsNp,Result.andThen];simp[ReflectliteValue.isNil,loadVar,isAgg,underlying,Tryz.underlying94,j,Result.andThen]
def elemNp(w:World):(ReflectliteType.method ReflectliteType.elem #[.agg #[.pointer (some ⟨1,94,none⟩)]]).run xT w=.ok (.iface 174 (.agg #[.pointer (some ⟨1,49,none⟩)])) w:=dK
def implementsN(w:World):(ReflectliteType.relation "Implements" ReflectliteType.implements_ #[.agg #[.pointer (some ⟨1,49,none⟩)],.iface 174 (.agg #[.pointer (some ⟨1,44,none⟩)])]).run xT w=.ok (.bool true) w:=dK
def typeOfN(v:Value)(w:World):(ReflectliteType.typeOf #[.iface 49 v]).run xT w=.ok (.iface 174 (.agg #[.pointer (some ⟨1,49,none⟩)])) w:=dK
def assignableN(w:World):(ReflectliteType.relation "AssignableTo" ReflectliteType.assignableTo #[.agg #[.pointer (some ⟨1,49,none⟩)],.iface 174 (.agg #[.pointer (some ⟨1,49,none⟩)])]).run xT w=.ok (.bool true) w:=dK
def valueOfN(c:Int)(w:World):(ReflectliteValue.unpack (.iface 49 (.int .i64 c))).run xT w
 = .ok (.agg #[.pointer (some ⟨1,49,none⟩),.pointer (some ⟨w.heap.size,0,none⟩),.int .u64 130]) (w.alloc (.cells #[.int .i64 c] 49)):=dK
def elemOfNp(w:World):(Rtype.elem? 94).run xT w=.ok (some 49) w:=dK
def mkN(p:Addr)(w:World):(ReflectliteValue.mk 49 p ReflectliteValue.flagAddr).run xT w=.ok (.agg #[.pointer (some ⟨1,49,none⟩),.pointer (some p),.int .u64 386]) w:=dK
def elemVNp(a p:Addr)(W:World)(j:W.cell? a=some (.pointer (some p))):
 (ReflectliteValue.method (ReflectliteValue.valueError "reflectlite.Value.Elem" 0) ReflectliteValue.elem #[.agg #[.pointer (some ⟨1,94,none⟩),.pointer (some a),.int .u64 150]]).run xT W
   = .ok (.agg #[.pointer (some ⟨1,49,none⟩),.pointer (some p),.int .u64 386]) W:=by
 rw[rlm];simp only[tG,partsNp,Result.andThen];simp[ReflectliteValue.elem,loadVar,isAgg,underlying,Tryz.underlying94,j,Result.andThen,elemOfNp,mkN]
def partsNa(a:Addr)(w:World):(ReflectliteValue.parts (.agg #[.pointer (some ⟨1,49,none⟩),.pointer (some a),.int .u64 386])).run xT w=.ok (some (49,a,386)) w:=dK
def partsN(a:Addr)(w:World):(ReflectliteValue.parts (.agg #[.pointer (some ⟨1,49,none⟩),.pointer (some a),.int .u64 130])).run xT w=.ok (some (49,a,130)) w:=dK
def directN(w:World):(Rtype.directlyAssignable 49 49).run xT w=.ok true w:=dK
def valueOfFp(t:Addr)(w:World):(ReflectliteValue.unpack (.iface 154 (.pointer (some t)))).run xT w
 = .ok (.agg #[.pointer (some ⟨1,154,none⟩),.pointer (some ⟨w.heap.size,0,none⟩),.int .u64 150]) (w.alloc (.cells #[.pointer (some t)] 154)):=dK
def typeFp(a:Addr)(w:World):(ReflectliteValue.methodAny (ReflectliteValue.valueError "reflectlite.Value.Type" 0) (λt _ _ _=>ReflectliteType.toType t) #[.agg #[.pointer (some ⟨1,154,none⟩),.pointer (some a),.int .u64 150]]).run xT w
 = .ok (.iface 174 (.agg #[.pointer (some ⟨1,154,none⟩)])) w:=dK
def kindFp(w:World):((ReflectliteType.abiMethod λt=>(λa:Nat=>Value.int IntKind.u8 (a:Int)) <$> Rtype.kind t) #[.pointer (some ⟨1,154,none⟩)]).run xT w=.ok (.int .u8 22) w:=dK
def kindF(w:World):((ReflectliteType.abiMethod λt=>(λa:Nat=>Value.int IntKind.u8 (a:Int)) <$> Rtype.kind t) #[.pointer (some ⟨1,96,none⟩)]).run xT w=.ok (.int .u8 25) w:=dK
def partsFp(a:Addr)(w:World):(ReflectliteValue.parts (.agg #[.pointer (some ⟨1,154,none⟩),.pointer (some a),.int .u64 150])).run xT w=.ok (some (154,a,150)) w:=dK
def isNilFp(a p:Addr)(W:World)(j:W.cell? a=some (.pointer (some p))):
 (ReflectliteValue.method (ReflectliteValue.valueError "reflectlite.Value.IsNil" 0) ReflectliteValue.isNil #[.agg #[.pointer (some ⟨1,154,none⟩),.pointer (some a),.int .u64 150]]).run xT W=.ok (.bool false) W:=by
 rw[rlm];simp only[tG,partsFp,Result.andThen];simp[ReflectliteValue.isNil,loadVar,isAgg,underlying,Tryz.underlying154,j,Result.andThen]
def elemFp(w:World):(ReflectliteType.method ReflectliteType.elem #[.agg #[.pointer (some ⟨1,154,none⟩)]]).run xT w=.ok (.iface 174 (.agg #[.pointer (some ⟨1,96,none⟩)])) w:=dK
def implementsF(w:World):(ReflectliteType.relation "Implements" ReflectliteType.implements_ #[.agg #[.pointer (some ⟨1,96,none⟩)],.iface 174 (.agg #[.pointer (some ⟨1,44,none⟩)])]).run xT w=.ok (.bool true) w:=dK
def typeOfF(v:Value)(w:World):(ReflectliteType.typeOf #[.iface 96 v]).run xT w=.ok (.iface 174 (.agg #[.pointer (some ⟨1,96,none⟩)])) w:=dK
def assignableF(w:World):(ReflectliteType.relation "AssignableTo" ReflectliteType.assignableTo #[.agg #[.pointer (some ⟨1,96,none⟩)],.iface 174 (.agg #[.pointer (some ⟨1,96,none⟩)])]).run xT w=.ok (.bool true) w:=dK
def valueOfF(c k:Int)(w:World):(ReflectliteValue.unpack (.iface 96 (.agg #[.int .i64 c,.int .i64 k]))).run xT w
 = .ok (.agg #[.pointer (some ⟨1,96,none⟩),.pointer (some ⟨w.heap.size,0,none⟩),.int .u64 153]) (w.alloc (.cells #[.int .i64 c,.int .i64 k] 96)):=dK
def elemOfFp(w:World):(Rtype.elem? 154).run xT w=.ok (some 96) w:=dK
def mkF(p:Addr)(w:World):(ReflectliteValue.mk 96 p ReflectliteValue.flagAddr).run xT w=.ok (.agg #[.pointer (some ⟨1,96,none⟩),.pointer (some p),.int .u64 409]) w:=dK
def elemVFp(a p:Addr)(W:World)(j:W.cell? a=some (.pointer (some p))):
 (ReflectliteValue.method (ReflectliteValue.valueError "reflectlite.Value.Elem" 0) ReflectliteValue.elem #[.agg #[.pointer (some ⟨1,154,none⟩),.pointer (some a),.int .u64 150]]).run xT W
   = .ok (.agg #[.pointer (some ⟨1,96,none⟩),.pointer (some p),.int .u64 409]) W:=by
 rw[rlm];simp only[tG,partsFp,Result.andThen];simp[ReflectliteValue.elem,loadVar,isAgg,underlying,Tryz.underlying154,j,Result.andThen,elemOfFp,mkF]
def partsFa(a:Addr)(w:World):(ReflectliteValue.parts (.agg #[.pointer (some ⟨1,96,none⟩),.pointer (some a),.int .u64 409])).run xT w=.ok (some (96,a,409)) w:=dK
def partsF(a:Addr)(w:World):(ReflectliteValue.parts (.agg #[.pointer (some ⟨1,96,none⟩),.pointer (some a),.int .u64 153])).run xT w=.ok (some (96,a,153)) w:=dK
def directF(w:World):(Rtype.directlyAssignable 96 96).run xT w=.ok true w:=dK
def sizeF(w:World):(sizeOf 96).run xT w=.ok 2 w:=dK
def assignableFN(w:World):(ReflectliteType.relation "AssignableTo" ReflectliteType.assignableTo #[.agg #[.pointer (some ⟨1,96,none⟩)],.iface 174 (.agg #[.pointer (some ⟨1,49,none⟩)])]).run xT w=.ok (.bool false) w:=dK
def setN(j b:Addr)(c:Int)(u:Value)(W:World)(hb:W.cell? b=some (.int .i64 c))(ht:W.cell? j=some u)(w:W.frozen? j=false):
 (ReflectliteValue.set #[.agg #[.pointer (some ⟨1,49,none⟩),.pointer (some j),.int .u64 386],.agg #[.pointer (some ⟨1,49,none⟩),.pointer (some b),.int .u64 130]]).run xT W
   = .ok (.tuple #[]) (W.setCell j (.int .i64 c)):=by
 rw[rls];simp only[tG,partsNa,partsN,Result.andThen];simp[ReflectliteValue.flagAddr,loadVar,isAgg,underlying,Tryz.underlying49,hb,Result.andThen,directN,storeVar,Value.cells,storeCells,Addr.add];rw[run_store xT W j _ _ (by rfl)];simp[ht,w]
abbrev Ext(f:FuncId)(e:Array Value->Sem Value):Prop:=∀(j:Array Value)(w:World),(callFunc f j).run xT w=((e j).run xT w).andThen λv u=>.ok (.value v) u
def xt0:Ext 72 (λj=>ReflectliteValue.unpack (j.getD 0 (.tuple #[]))):=tM Tryz.func72 dK dK dK dK
def xt1:Ext 73 (ReflectliteValue.methodAny (ReflectliteValue.valueError "reflectlite.Value.Type" 0) (λt _ _ _=>ReflectliteType.toType t)):=tM Tryz.func73 dK dK dK dK
def xt2:Ext 74 (ReflectliteValue.method (ReflectliteValue.valueError "reflectlite.Value.IsNil" 0) ReflectliteValue.isNil):=tM Tryz.func74 dK dK dK dK
def xt3:Ext 226 (ReflectliteType.abiMethod λt=>do pure (.int .u8 (<-Rtype.kind t))):=tM Tryz.func226 dK dK dK dK
def xt4:Ext 241 (ReflectliteType.method ReflectliteType.elem):=tM Tryz.func241 dK dK dK dK
def xt5:Ext 242 (ReflectliteType.relation "Implements" ReflectliteType.implements_):=tM Tryz.func242 dK dK dK dK
def xt6:Ext 64 ReflectliteType.typeOf:=tM Tryz.func64 dK dK dK dK
def xt7:Ext 239 (ReflectliteType.relation "AssignableTo" ReflectliteType.assignableTo):=tM Tryz.func239 dK dK dK dK
def xt8:Ext 109 (ReflectliteValue.method (ReflectliteValue.valueError "reflectlite.Value.Elem" 0) ReflectliteValue.elem):=tM Tryz.func109 dK dK dK dK
def xt9:Ext 110 ReflectliteValue.set:=tM Tryz.func110 dK dK dK dK
end As
namespace As
open Go.RowKit Go.Extern.Stop Go.Stop Go.Extern
def as_NN(c:Int)(t:Addr)(y:Value)(w:World)(C:w.cell? ⟨0,0,none⟩=some (.iface 174 (.agg #[.pointer (some ⟨1,44,none⟩)])))(j:w.cell? t=some y)(A:w.frozen? t=false):
 Calls xT 36 #[.iface 49 (.int .i64 c),.iface 94 (.pointer (some t))] w λev S=>ev=.returned (.bool true)/\S=((((w.alloc (.cells #[.pointer (some t)] 94)).alloc (.cells #[.pointer (some ⟨1,94,none⟩),.pointer (some ⟨w.heap.size,0,none⟩),.int .u64 150] 147)).alloc (.cells #[.pointer (some ⟨1,94,none⟩),.pointer (some ⟨w.heap.size,0,none⟩),.int .u64 150] 147)).alloc (.cells #[.int .i64 c] 49)).setCell t (.int .i64 c):=by
 have X:=λa w=>xt0 a w;have Y:=λa w=>xt1 a w;have Z:=λa w=>xt2 a w;have J:=λa w=>xt3 a w;have L:=λa w=>xt4 a w;have M:=λa w=>xt5 a w;have G:=λa w=>xt6 a w;have K:=λa w=>xt7 a w;have H:=λa w=>xt8 a w;have I:=λa w=>xt9 a w;have tO:=typeOfN;have mA:=methodAssignableTo;have a25:=assignableN;have Q:=valueOfN;have U:=valueOfNp;have V:=typeNp;have mK:=methodKind;have mE:=methodElem;have mI:=methodImplements;have P:=kindNp;have k25:=kindN;have E:=elemNp;have O:=implementsN;have n8:=isNilNp ⟨w.heap.size,0,none⟩ t ((w.alloc (.cells #[.pointer (some t)] 94)).alloc (.cells #[.pointer (some ⟨1,94,none⟩),.pointer (some ⟨w.heap.size,0,none⟩),.int .u64 150] 147)) b6;have B:0<w.heap.size:=by
  rcases Wi w.heap.size with F|h
  .simp[World.cell?,F]at C
  .exact h
 have N:((w.alloc (.cells #[.pointer (some t)] 94)).alloc (.cells #[.pointer (some ⟨1,94,none⟩),.pointer (some ⟨w.heap.size,0,none⟩),.int .u64 150] 147)).cell? ⟨0,0,none⟩=some (.iface 174 (.agg #[.pointer (some ⟨1,44,none⟩)])):=by rw[tr _ _ ⟨0,0,none⟩ b6,tr _ _ ⟨0,0,none⟩ B];exact C
 have u:t.block<w.heap.size:=by
  rcases wK t.block w.heap.size with h|h
  .exact h
  .simp[World.cell?,W6 h]at j
 have T:=elemVNp ⟨w.heap.size,0,none⟩ t (((w.alloc (.cells #[.pointer (some t)] 94)).alloc (.cells #[.pointer (some ⟨1,94,none⟩),.pointer (some ⟨w.heap.size,0,none⟩),.int .u64 150] 147)).alloc (.cells #[.pointer (some ⟨1,94,none⟩),.pointer (some ⟨w.heap.size,0,none⟩),.int .u64 150] 147)) (by rw[tr _ _ ⟨w.heap.size,0,none⟩ a9];simp);have st:=setN t ⟨w.heap.size+1+1+1,0,none⟩ c y ((((w.alloc (.cells #[.pointer (some t)] 94)).alloc (.cells #[.pointer (some ⟨1,94,none⟩),.pointer (some ⟨w.heap.size,0,none⟩),.int .u64 150] 147)).alloc (.cells #[.pointer (some ⟨1,94,none⟩),.pointer (some ⟨w.heap.size,0,none⟩),.int .u64 150] 147)).alloc (.cells #[.int .i64 c] 49))
  (by rw[tW _ _ _ _ b6];rfl)
  (by rw[tr _ _ t a9,tr _ _ t a9,tr _ _ t a9,tr _ _ t u];exact j)
  (by rw[tB _ _ t a9,tB _ _ t a9,tB _ _ t a9,tB _ _ t (Uo u)];exact A)
 go_enter Tryz.func36,Tryz.ntmps36
 go_wp2;refine Tn 1 ?_;rw[tZ]
 go_wp2;go_ret;exact⟨rfl,rfl⟩
end As
namespace As
open Go.RowKit Go.Extern.Stop Go.Stop Go.Extern
def setF(T b:Nat)(c k:Int)(W:World)(E:W.cell? ⟨b,0,none⟩=some (.int .i64 c))(F:W.cell? ⟨b,1,none⟩=some (.int .i64 k))(I:(W.cell? ⟨T,0,none⟩).isSome=true)(J:(W.cell? ⟨T,1,none⟩).isSome=true)(B:W.frozen? ⟨T,0,none⟩=false)(C:W.frozen? ⟨T,1,none⟩=false):
 (ReflectliteValue.set #[.agg #[.pointer (some ⟨1,96,none⟩),.pointer (some ⟨T,0,none⟩),.int .u64 409],.agg #[.pointer (some ⟨1,96,none⟩),.pointer (some ⟨b,0,none⟩),.int .u64 153]]).run xT W
   = .ok (.tuple #[]) (W.setCells T 0 [.int .i64 c,.int .i64 k]):=by
 have H:(loadVar 96 ⟨b,0,none⟩).run xT W=.ok (.agg #[.int .i64 c,.int .i64 k]) W:=by
  have y:=run_loadCells_list (P:=xT) (w:=W) ⟨b,0,none⟩ [.int .i64 c,.int .i64 k] (λj v u=>by
   match j,u with
   |0,u=>cases u;simpa[Addr.add]using E
   |1,u=>cases u;simpa[Addr.add]using F)
  have hs:=sizeF W;simp[loadVar,isAgg,underlying,Tryz.underlying96,Result.andThen,hs];simp only[wy,Wx]at y;rw[y]
 have A:(storeVar 96 ⟨T,0,none⟩ (.agg #[.int .i64 c,.int .i64 k])).run xT W=.ok () (W.setCells T 0 [.int .i64 c,.int .i64 k]):=by
  have hs:=sizeF W;have G:=Go.run_storeCells_cells (P:=xT) T 0 [.int .i64 c,.int .i64 k] 0 W (λj u=>by
   match j,u with
   |0,_=>simpa using I
   |1,_=>simpa using J) (λj u=>by
   match j,u with
   |0,_=>simpa using B
   |1,_=>simpa using C) dG
  simp[storeVar,hs,Value.cells,Result.andThen];simpa using G
 rw[rls];simp only[tG,partsFa,partsF,Result.andThen];simp[ReflectliteValue.flagAddr,H,Result.andThen,directF,A]
end As
namespace As
open Go.RowKit Go.Extern.Stop Go.Stop Go.Extern
def noAs(v:Value)(j:TypeId)(w:World):(Instr.typeAssert (.iface 96 v) j 194 true).run xT w=.ok (.tuple #[.nilIface,.bool false]) w:=tY Tryz.underlying194 dK dK v j w
def hasUw(v:Value)(j:TypeId)(w:World):(Instr.typeAssert (.iface 96 v) j 179 true).run xT w=.ok (.tuple #[.iface 96 v,.bool true]) w:=run_typeAssert_hasB Tryz.underlying179 dK v j w
def as_FN(c k:Int)(t:Addr)(y:Value)(w:World)(C:w.cell? ⟨0,0,none⟩=some (.iface 174 (.agg #[.pointer (some ⟨1,44,none⟩)])))(j:w.cell? t=some y)(A:w.frozen? t=false):
 Calls xT 36 #[.iface 96 (.agg #[.int .i64 c,.int .i64 k]),.iface 94 (.pointer (some t))] w λev S=>ev=.returned (.bool true)/\S=(((((w.alloc (.cells #[.pointer (some t)] 94)).alloc (.cells #[.pointer (some ⟨1,94,none⟩),.pointer (some ⟨w.heap.size,0,none⟩),.int .u64 150] 147)).alloc (.cells #[.pointer (some ⟨1,94,none⟩),.pointer (some ⟨w.heap.size,0,none⟩),.int .u64 150] 147)).alloc (.cells #[.int .i64 c,.int .i64 k] 96)).alloc (.cells #[.int .i64 c] 49)).setCell t (.int .i64 c):=by
 have Y:=λa w=>xt0 a w;have Z:=λa w=>xt1 a w;have h8:=λa w=>xt2 a w;have J:=λa w=>xt3 a w;have L:=λa w=>xt4 a w;have M:=λa w=>xt5 a w;have G:=λa w=>xt6 a w;have K:=λa w=>xt7 a w;have H:=λa w=>xt8 a w;have I:=λa w=>xt9 a w;have tO:=typeOfN;have tF:=typeOfF;have T:=assignableFN;have mU:=methodUnwrap;have nA:=noAs;have hU:=hasUw;have mA:=methodAssignableTo;have a25:=assignableN;have Q:=valueOfN;have V:=valueOfNp;have X:=typeNp;have mK:=methodKind;have mE:=methodElem;have mI:=methodImplements;have P:=kindNp;have k25:=kindN;have E:=elemNp;have O:=implementsN;have n8:=isNilNp ⟨w.heap.size,0,none⟩ t ((w.alloc (.cells #[.pointer (some t)] 94)).alloc (.cells #[.pointer (some ⟨1,94,none⟩),.pointer (some ⟨w.heap.size,0,none⟩),.int .u64 150] 147)) b6;have B:0<w.heap.size:=by
  rcases Wi w.heap.size with F|h
  .simp[World.cell?,F]at C
  .exact h
 have N:((w.alloc (.cells #[.pointer (some t)] 94)).alloc (.cells #[.pointer (some ⟨1,94,none⟩),.pointer (some ⟨w.heap.size,0,none⟩),.int .u64 150] 147)).cell? ⟨0,0,none⟩=some (.iface 174 (.agg #[.pointer (some ⟨1,44,none⟩)])):=by rw[tr _ _ ⟨0,0,none⟩ b6,tr _ _ ⟨0,0,none⟩ B];exact C
 have u:t.block<w.heap.size:=by
  rcases wK t.block w.heap.size with h|h
  .exact h
  .simp[World.cell?,W6 h]at j
 have U:=elemVNp ⟨w.heap.size,0,none⟩ t ((((w.alloc (.cells #[.pointer (some t)] 94)).alloc (.cells #[.pointer (some ⟨1,94,none⟩),.pointer (some ⟨w.heap.size,0,none⟩),.int .u64 150] 147)).alloc (.cells #[.pointer (some ⟨1,94,none⟩),.pointer (some ⟨w.heap.size,0,none⟩),.int .u64 150] 147)).alloc (.cells #[.int .i64 c,.int .i64 k] 96)) (by rw[tr _ _ ⟨w.heap.size,0,none⟩ a9,tr _ _ ⟨w.heap.size,0,none⟩ a9];simp);have st:=setN t ⟨w.heap.size+1+1+1+1,0,none⟩ c y (((((w.alloc (.cells #[.pointer (some t)] 94)).alloc (.cells #[.pointer (some ⟨1,94,none⟩),.pointer (some ⟨w.heap.size,0,none⟩),.int .u64 150] 147)).alloc (.cells #[.pointer (some ⟨1,94,none⟩),.pointer (some ⟨w.heap.size,0,none⟩),.int .u64 150] 147)).alloc (.cells #[.int .i64 c,.int .i64 k] 96)).alloc (.cells #[.int .i64 c] 49))
  (by rw[tW _ _ _ _ b6];rfl)
  (by rw[tr _ _ t a9,tr _ _ t a9,tr _ _ t a9,tr _ _ t a9,tr _ _ t u];exact j)
  (by rw[tB _ _ t a9,tB _ _ t a9,tB _ _ t a9,tB _ _ t a9,tB _ _ t (Uo u)];exact A)
 go_enter Tryz.func36,Tryz.ntmps36
 go_wp2;refine Tn 2 ?_;rw[tZ]
 go_wp2;rw[tZ]
 go_wp2;go_ret;exact⟨rfl,rfl⟩
end As
section
open Go.RowKit Go.Maps
attribute [local go_sem] Oper.semAt_some
def rW(v:Value):Option (DataW Value×List MemPlace):=some (.held v,[])
def kQ(r:Nat):Lit:=.int .u64 (r:Nat)
def ztm(D:DataW Value)(x:Nat):Prop:=has D (kQ x)=true/\x<zk
def ztD(D:DataW Value)(pre:List Nat):Prop:=pre.Nodup/\∀x∈pre,ztm D x
def zwl:Keyed xT 38 := int_keyed Tryz.underlying38
def zwL{r:Nat}(h:r<zk):keyOf xT 38 (.int .u64 (r:Nat))=some (kQ r):=by rw[zw]at h;refine keyOf_int_mk Tryz.underlying38 ?_;simp[Lit.wf,IntKind.min,IntKind.max,IntKind.signed,IntKind.bits];omega
def zwJ:∀(j:Value)(kl:Lit),keyOf xT 38 j=some kl->∃x:{r:Nat // r<zk},j=Value.int .u64 (x.1:Nat):=λj kl h=>by obtain⟨x,rfl,_,u⟩:=Maps.keyOf_int_inv Tryz.underlying38 h;simp[Lit.wf,IntKind.min,IntKind.max,IntKind.signed,IntKind.bits]at u;refine⟨⟨x.toNat,by rw[zw];omega⟩,?_⟩;rw[th a8]
def zvt{left:Lit->Bool}{r x:Nat}:(left (kQ r) && !(kQ r).sameKey (kQ x))=(left (kQ r) && !decide (r=x)):=by
 have h:(kQ r).sameKey (kQ x)=decide (r=x):=by simp[kQ,Lit.sameKey];omega
 rw[h]
def zvm{w A:World}{b r n YV:Nat}{D:DataW Value}{left:Lit->Bool}(h:w.ranges xT 38 rW b r n D left YV)(hb:A.heap[b]?=w.heap[b]?)(I:A.heap[r]?=w.heap[r]?):A.ranges xT 38 rW b r n D left YV:=by obtain⟨C,j,u,y,B,E,F,hs,H,G,rest⟩:=h;exact⟨C,j,u,y,B,hb.trans E,F,hs,H,I.trans G,rest⟩
def zwN{w u:World}{b n:Nat}{D:DataW Value}(h:w.ownsMap xT 38 rW b n D)(hb:u.heap[b]?=w.heap[b]?):u.ownsMap xT 38 rW b n D:=by obtain⟨y,j,A,r⟩:=h;exact⟨y,j,hb.trans A,r⟩
def PtM(j:Nat)(A B:World):Prop:=A.heap.size<=B.heap.size/\∀k,k<A.heap.size->(k<j\/∃b s e c,A.heap[k]?=some (.mapIter b s e c))->B.heap[k]?=A.heap[k]?
def zuF{t B Bv n0:Nat}{j:World}{D:DataW Value}(A:j.ownsMap xT 38 rW B t D)(Z:Boxed j Bv 105 (.map (some B)))(h1:B<n0)(h2:Bv<n0)(h3:n0<=j.heap.size):
 zsL xT 103 #[.pointer (some ⟨Bv,0,none⟩)] (λx:Nat=>#[.int .u64 x]) (λk=>k=j.heap.size) (PtM n0) (λpre x=>x∉pre/\ztm D x) (λpre=>pre.Nodup/\∀x,x∈pre↔ztm D x) (λ_=>True) j:=by
 intro l' J Jx hJ ar hY h0;refine callsIn_wide.2 ?_;show Calls xT 103 #[.func (.yield l') #[] #[],.pointer (some ⟨Bv,0,none⟩)] j _;have HJ:=qL hJ;have HY:=qL hY;have HO:=qL A;have c0:=Z.cell;clear hJ hY A ar Z;go_enter Tryz.func103,Tryz.ntmps103
 go_wp2_with (at_range;refine TI _ rfl _ 105 rfl 38 60 zwl Tryz.underlying105 rW B t D rfl HO.o ?_;intro w2 C H aB)
 have ac:=HJ.o [] _ _ h0 ((Keep.refl _ j).grown H λk e=>by cases e);have V:∀k,k<n0->w2.heap[k]?=j.heap[k]?:=λk hk=>H.block k a8 b6;clear h0 H c0;go_loopg [3] (Maps.size D) (λg x wr=>∃left pre,wr.ranges xT 38 rW B j.heap.size t D left g/\(∀r,left (kQ r)=true↔has D (kQ r)=true/\r∉pre)/\pre.Nodup/\(∀r∈pre,ztm D r)/\J pre wr/\(∀k,k<n0->wr.heap[k]?=j.heap[k]?));case atStart=>exact⟨_,[],C,λr=>b6,UN,λr h=>(by cases h),ac,V⟩
 case round=>
  obtain⟨left,pre,aj,ae,ai,ab,hj,Y⟩:=hrel;have P:=qL aj;have F:=qL ae;have O:=qL ai;have M:=qL ab;have N:=qL hj;have an:=qL Y;clear C aj ae ai ab hj Y ac V
  go_wp2_with (first
   |(at_next;refine TD _ rfl _ rfl 38 zwl rW (λr:{r:Nat // r<zk}=>Value.int .u64 (r.1:Nat)) (λc:Value=>c) zwJ (λv y _=>⟨v,rfl⟩) B j.heap.size t D left gk rfl P.o ?_ ?_)
   |go_in)
  .intro az aw
   go_wp2_with fail
   go_end0
   refine⟨⟨_,rfl⟩,.inl ⟨pre,⟨O.o,λx=>⟨M.o x,λhx=>wU λhn=>?_⟩⟩,N.o⟩⟩;have:=(F.o x).2 ⟨hx.1,hn⟩;rw[aw]at this;cases this
  .intro x hx c kl y ys w3 T w af hv au E ag I aC aA;obtain rfl:kl=kQ x:=by have:=(zwL hx).symm.trans w;simpa using this.symm
   have u:=(F.o x).1 af;have ad:=HJ.o pre _ _ N.o ((Keep.refl (λk=>k=j.heap.size) wr).grown I λk e _=>by cases e;rfl);have X:∀k,k<n0->w3.heap[k]?=j.heap[k]?:=λk hk=>(I.block k (by have:=P.o.lt;omega) (λe=>by cases e;omega)).trans (an.o k hk);obtain⟨fn,ay,ak,ax,hy,hR⟩:=HY.o pre x w3 ad ⟨u.2,u.1,hx⟩;have Q:=qL E;have am:=qL X;have S:=qL u;have ao:=qL ag;clear E X ad u af I w hv au ag;go_upto_region 3 with fail;refine(Tv (n:=8)).1 ?_
   gi_wp2
   refine hR.mono ?_;rintro e w4 (⟨rfl,aq,G⟩|⟨rfl,U⟩)
   .gi_wp2
    go_wp2_with fail
    go_roundg T;case measure=>exact ao.o
    case rel=>
     have K:=Q.o;have ah:=K.lt;have av:∃b s e c,w3.heap[j.heap.size]?=some (.mapIter b s e c):=(by obtain⟨_,_,_,_,_,_,_,_,_,h,_⟩:=K;exact⟨_,_,_,_,h⟩);refine⟨_,pre++[x],zvm K (G.2 _ a8 (.inl h1)) (G.2 _ ah (.inr av)),λr=>?_,?_,λr L=>?_,aq,λk hk=>(G.2 k a8 (.inl hk)).trans (am.o k hk)⟩
     .rw[zvt,Vq,F.o r];by_cases e:r=x
      .subst e;simp
      .simp[e]
     .refine Up.2 ⟨O.o,b6,λa ha b hb e=>?_⟩;simp only[wI]at hb;rw[hb]at e;exact S.o.2 (e▸ha)
     .rcases wE.1 L with L|L
      .exact M.o r L
      .simp only[wI]at L;rw[L];exact⟨S.o.1,hx⟩
   .gi_wp2
    go_wp2;refine tz (tL rfl _ _ _) rfl ?_;exact⟨⟨_,rfl⟩,.inr ⟨_,trivial,U⟩⟩
def zuG(B:Nat)(w:World):Calls xT 67 #[.map (some B)] w λe j=>e=.returned (.func (.func 103) #[] #[.pointer (some ⟨w.heap.size,0,none⟩)])/\j=w.alloc (.cells #[.map (some B)] 105):=by
 go_enter Tryz.func67,Tryz.ntmps67
 go_wp2;go_ret;exact⟨rfl,rfl⟩
def SN.ptM{C:Nat}{A B:World}(h:SN C A B):PtM C A B:=by
 obtain⟨⟨v,E⟩,hk⟩:=h;have y:A.heap[C]?=some (.cells #[v] 133 (0,0)):=E;refine⟨hk.size,λk w j=>hk.block k w ?_⟩;rintro(rfl|⟨G,F,f,u⟩)
 .rcases j with j|⟨_,_,_,_,j⟩
  .omega
  .rw[y]at j;cases j
 .rcases j with j|⟨_,_,_,_,j⟩
  .omega
  .rw[u]at j;cases j
def ztF{t B Q:Nat}{w:World}{D:DataW Value}(P:w.ownsMap xT 38 rW B t D)(U:Boxed w Q 105 (.map (some B)))(hl:∀pre,ztD D pre->pre.length<=1000000):
 Calls xT 138 #[.slice none 0 0,.func (.func 103) #[] #[.pointer (some ⟨Q,0,none⟩)]] w λe w'=>∃u pre,e=.returned u/\OwnN w.heap.size w' u pre/\ztD D pre/\(∀x,x∈pre↔ztm D x)/\Below w.heap.size w w':=by
 have T:=U.lt;have hB:=P.lt;refine callsIn_wide.1 (Ta (n:=9) Tryz.func138 rfl trivial ?_ rfl);simp only[Tryz.ntmps138,WD,wy,Wx,Nat.reduceAdd,Nat.reduceSub,ur,ut,uH,uw,Y1,yb]
 gi_wp2
 obtain⟨N,J⟩:=xt (w.alloc (Obj.cells #[Value.slice none 0 0] 133));have ah:N.heap.size=w.heap.size+1:=by rw[<-J];simp
 have b0:Boxed N w.heap.size 133 (Value.slice none 0 0):=by rw[<-J];exact tU w _ _
 have S:Below w.heap.size w N:=by rw[<-J];exact(tu _ _).alloc (Zp _) _
 try simp only[tw]
 rw [J];clear J;refine zsS (w:=N) 103 #[.pointer (some ⟨Q,0,none⟩)] rfl (enters_of Tryz.func103 dK rfl) (λx:Nat=>#[.int .u64 x]) (λ_=>rfl)
  (λk=>k=w.heap.size+3) (PtM w.heap.size) (λpre x=>x∉pre/\ztm D x) (λpre=>pre.Nodup/\∀x,x∈pre↔ztm D x) (λ_=>True) ?hit
  (SN w.heap.size) (λA B h k hk K=>h.2.block k K (by rintro(e|⟨e,_⟩)<;>omega)) (λA B h=>h.ptM)
  ?hPt ?hPt0 a8
  (λpre W=>(∃u,Boxed W w.heap.size 133 u/\OwnN (w.heap.size+4) W u pre)/\ztD D pre/\Below w.heap.size w W)
  (λ_ _ _=>False) ?hI (λ_ _ _ _ h _=>h) ⟨⟨_,b0,OwnN.nil _ _⟩,⟨UN,λx h=>(by cases h)⟩,S⟩
  (λpre x Y W=>((∃u,Boxed W w.heap.size 133 u/\OwnN (w.heap.size+4) W u pre)/\ztD D pre/\Below w.heap.size w W) /\
    Y={ tmps:=#[Value.slice none 0 0,Value.func (Fn.func 103) #[] #[Value.pointer (some ⟨Q,0,none⟩)],Value.pointer (some ⟨w.heap.size,0,none⟩),undef,Value.slice none 0 0,.int .u64 (x:Nat),Value.func (Fn.func 103) #[] #[Value.pointer (some ⟨Q,0,none⟩)],.int .u64 (x:Nat),undef,undef,undef,undef,undef],defers:=[] })
  ?hAx ?hassign ?hbody ?hdone (λ_ _ _ _ h _=>h.elim)
 case hit=>intro W hk ag;have Z:=S.trans (hk.below a8 λ_ _=>id);have h:=zuF (n0:=w.heap.size) (zwN P (Z.block _ hB)) ((Z.block _ T).trans U) hB T Z.size;rw[show W.heap.size=w.heap.size+3 by omega]at h;exact h
 case hPt=>rintro A B C ⟨E,H⟩ ⟨F,h4⟩;refine⟨V0 E F,λk hk M=>?_⟩;have e1:=H k hk M;exact(h4 k a8 (M.imp id λ⟨b,s,e,c,h⟩=>⟨b,s,e,c,e1.trans h⟩)).trans e1
 case hPt0=>
  rintro A B hk ⟨o,ho⟩;refine⟨hk.size,λk K M=>hk.block k K ?_⟩;rintro rfl;rcases M with M|⟨_,_,_,_,M⟩
  .omega
  .rw[ho]at M;cases M
 case hI=>rintro pre A B ⟨⟨u,E,H⟩,I,F⟩ hk;exact⟨⟨u,hk.boxed E a8,H.keep hk (λg hg _=>a8)⟩,I,F.trans (hk.below F.size λk hk=>a8)⟩
 case hAx=>rintro pre x Y A B ⟨⟨⟨u,E,H⟩,I,F⟩,rfl⟩ hk;exact⟨⟨⟨u,hk.boxed E a8,H.keep hk (λg hg _=>a8)⟩,I,F.trans (hk.below F.size λk hk=>a8)⟩,rfl⟩
 case hassign=>
  rintro l pre x W L K ⟨⟨u,E,H⟩,I,F⟩;clear L
  gi_wp2
  exact⟨⟨⟨u,E⟩,Keep.refl _ _⟩,⟨⟨u,E,H⟩,I,F⟩,trivial⟩
 case hbody=>
  rintro l' pre x Y W L K ⟨⟨⟨u,E,H⟩,I,F⟩,rfl⟩;have M:=E.cell;have hf:=E.frozen;obtain⟨i0,ab,ac,ad,ae⟩:=tQ Tryz.infoU;have hl:=hl _ I;have X:qA (ztD D (pre++[x])):=qL ⟨Up.2 ⟨I.1,b6,λa ha b hb e=>by simp only[wI]at hb;exact L.1 (hb▸e▸ha)⟩,λy hy=>(wE.1 hy).elim (I.2 y) λh=>by simp only[wI]at h;rw[h];exact L.2⟩;clear I L
  gi_wp2_with (gi_at_builtin;refine TA _ rfl _ _ 133 rfl (w.heap.size+4) 38 i0 (.int .u64 0) 1 8 Tryz.underlying133 ab ac ad ae rfl b8 _ _ _ rfl (H.alloc _) ⟨W.heap.size,0,none⟩ 1 1 [.int .u64 (x:Nat)] rfl rfl (kw (cs:=#[.int .u64 (x:Nat)]) (t := 38) (fr:=(0,0)) (tp W _)) dG c8 a8 (by rw[tw];omega) ?_;intro v' w3 j G _;obtain⟨g',af,rfl⟩:=TW j;obtain⟨q2,q3,q4⟩:=Q5 (ys:=pre++[x]) E H (dJ j) G;have ai:=(qO E b8 H j G).1.cell;have aj:=(qO E b8 H j G).1.frozen)
  exact⟨q4,⟨_,q2,q3⟩,X.o,F.trans (q4.2.below F.size λk hk=>by rintro(e|⟨e,_⟩)<;>omega)⟩
 case hdone=>
  rintro pre W ⟨_,O⟩ ⟨⟨u,E,H⟩,I,F⟩ hD;have M:=E.cell;have HF:=qL O;have HM:=qL I;clear O I
  gi_wp2
  refine⟨b6,.inl ⟨_,_,rfl,Tc hD,?_⟩⟩;have V:Keep (λk=>k=N.heap.size) W (W.putObj N.heap.size (.deferred none)):=(Keep.refl (λk=>k=N.heap.size) W).putObj (λ_=>rfl) _;exact⟨_,tK rfl _ _ _,u,pre,rfl,OwnN.mono (H.keep V λg hg _=>a8) a8,HM.o,HF.o,F.trans (V.below F.size λk hk=>a8)⟩
end
section
open Go.RowKit Go.Sort
abbrev zg:Int->Value:=Value.int .u64
def Zb(x:Int)(w:World):Calls xT 163 #[.int .u64 x] w λe j=>e=.returned (.bool false)/\j=w:=by
 go_enter Tryz.func163,Tryz.ntmps163
 go_wp2;go_ret;exact⟨b6,rfl⟩
def za(x y:Int)(w:World):Calls xT 170 #[.int .u64 x,.int .u64 y] w λe j=>e=.returned (.bool (Sort.ltInt x y))/\j=w:=by
 go_enter Tryz.func170,Tryz.ntmps170
 go_wp2_with (go_at_call 163;refine(Zb _ _).mono ?_;rintro e j ⟨rfl,rfl⟩)
 go_ret;exact⟨rfl,rfl⟩
def Zd(rb j X:Nat)(H:X<18446744073709551616)(w:World)(N:w.cell? ⟨rb,j,none⟩=some (.int .u64 X))(O:w.frozen? ⟨rb,j,none⟩=false):
 Calls xT 192 #[.pointer (some ⟨rb,j,none⟩)] w λe L=>e=.returned (.int .u64 (xorNextN X:Nat))/\L=(w.setCell ⟨rb,j,none⟩ (.int .u64 (xorNextN X:Nat))).drewN 3:=by
 obtain⟨A,u⟩:∃A:Nat,A=X ^^^ (X*8192%18446744073709551616):=⟨_,rfl⟩;obtain⟨B,y⟩:∃B:Nat,B=A ^^^ (A/128):=⟨_,rfl⟩;obtain⟨C,E⟩:∃C:Nat,C=B ^^^ (B*131072%18446744073709551616):=⟨_,rfl⟩;have J:A<18446744073709551616:=by rw[u];exact Nat.xor_lt_two_pow (n:=64) a8 a8
 have K:B<18446744073709551616:=by rw[y];exact Nat.xor_lt_two_pow (n:=64) a8 a8
 have e1:bits .xor .u64 (X:Int) (IntKind.u64.wrap ((X:Int)*8192))=(A:Int):=by rw[IntKind.wrap_u64,show ((X:Int)*8192%18446744073709551616)=((X*8192%18446744073709551616:Nat):Int) by omega,TV _ _ H a8,u]
 have e2:bits .xor .u64 (A:Int) ((A:Int)/128)=(B:Int):=by rw[show ((A:Int)/128)=((A/128:Nat):Int) by omega,TV _ _ J a8,y]
 have M:bits .xor .u64 (B:Int) (IntKind.u64.wrap ((B:Int)*131072))=(C:Int):=by rw[IntKind.wrap_u64,show ((B:Int)*131072%18446744073709551616)=((B*131072%18446744073709551616:Nat):Int) by omega,TV _ _ K a8,E]
 have F:xorNextN X=C:=by unfold xorNextN;simp only[];rw[<-u,<-y,<-E]
 rw[F];clear u y E F;have I:∀v G,(w.setCell ⟨rb,j,none⟩ v).setCell ⟨rb,j,none⟩ G=w.setCell ⟨rb,j,none⟩ G:=setCell_setCell w rb j;go_enter Tryz.func192,Tryz.ntmps192
 go_wp2;go_region;all_goals go_wp2
 all_goals go_region
 all_goals go_wp2
 all_goals go_region
 all_goals go_wp2
 go_ret;exact⟨rfl,rfl⟩
def kI(n:Nat)(y:n<4611686018427387904)(w:World):
 Calls xT 191 #[.int .i64 n] w λe u=>e=.returned (.int .u64 ((1 <<< bitsLen n:Nat):Int))/\u=w:=by
 have j:∀w,Calls xT 140 #[.int .u64 (n:Int)] w λe u=>e=.returned (.int .i64 (bitsLen n:Nat))/\u=w:=λw=>by
  have h:=ZC (n:Int) w a8 a8
  rwa[Int.toNat_natCast,bitLen_eq _ a8]at h
 have hk:bitsLen n<=62:=(bitsLen_le_iff n 62).2 a8;have A:=wrap_two_pow (bitsLen n) hk;go_enter Tryz.func191,Tryz.ntmps191
 go_wp2_with (first|(go_at_call 140;refine(j _).mono ?_;rintro e u ⟨rfl,rfl⟩))
 go_ret;exact⟨rfl,rfl⟩
set_option maxRecDepth 1000000 in
def jB(zc j I:Nat)(d:Array Int)(a b:Nat)(w:World)(J:Holds zg w zc j d)(N:a<=b)(hb:b<=d.size)(P:d.size<4611686018427387904):
 Calls xT 168 #[.slice (some ⟨zc,j,none⟩) d.size I,.int .i64 a,.int .i64 b] w λe T=>e=.returned (.tuple #[])/\∃n,T=putRow zg (Sort.ahead w n) zc j (reverseRange d a b):=by
 go_enter Tryz.func168,Tryz.ntmps168
 go_wp2;go_loopg [6,7] (b-a) (λk Q S wr=>∃(i jn:Nat) (E:Int) (u:Array Int) (n:Nat),Q=.int .i64 i/\S=.int .i64 E/\((i:Int)<E->E=jn/\jn<d.size)/\(¬(i:Int)<E->¬i<jn)/\jn-i<=k /\
  u.size=d.size/\wr=putRow zg (Sort.ahead w n) zc j u/\reverseLoop i jn u=reverseLoop a (b-1) d)
 case atStart=>exact⟨a,b-1,(b:Int)-1,d,0,rfl,rfl,λh=>⟨a8,a8⟩,λh=>a8,a8,rfl,(Tb zg w zc j d J).symm,rfl⟩
 case round=>
  obtain⟨i,jn,E,u,n,rfl,rfl,L,M,hk,F,C,y⟩:=hrel;by_cases G:(i:Int)<E
  .obtain⟨rfl,O⟩:=L G;have K:i<jn:=a8;have B:Holds zg wr zc j u:=(by rw[C];exact Tf zg _ zc j d u (tN zg w n zc j d J) F);obtain⟨U,fi⟩:=B i a8;obtain⟨V,X⟩:=B jn a8;have A:qA (wr=putRow zg (Sort.ahead w n) zc j u):=C;clear C B J L M
   go_wp2_with fail
   go_region
   go_wp2;go_roundg (jn-1-(i+1));case measure=>omega
   case rel=>
    rw[reverseLoop,vj K]at y;exact⟨i+1,jn-1,(jn:Int)-1,swp u i jn,n+1,b6,rfl,λh=>⟨a8,a8⟩,λh=>a8,Zp _,by rw[tR];exact F,
     swap_world zg a8 a8 A.o (by simp[zg,tl,show jn<u.size by omega]) rfl,y⟩
  .have H:=M G
   go_wp2
   go_end0
   refine⟨rfl,n,?_⟩;rw[reverseLoop,Vm H]at y;rw[reverseRange,<-y]
def vV(zc u K a b:Nat)(d:Array Int)(w:World)(I:Holds zg w zc u d)(ab:a<=b)(hb:b<=d.size)(ai:d.size<4611686018427387904):
 Calls xT 164 #[.slice (some ⟨zc,u,none⟩) d.size K,.int .i64 a,.int .i64 b] w λe w'=>
  e=.returned (.tuple #[])/\∃n,w'=putRow zg (Sort.ahead w n) zc u (Sort.insertionSort ltInt d a b):=by
 go_enter Tryz.func164,Tryz.ntmps164
 go_wp2
 go_loopw [6] (λS wr=>∃(i n:Nat) (B:Array Int),S=.int .i64 i/\a<i/\i<=b+1/\B.size=d.size/\wr=putRow zg (Sort.ahead w n) zc u B /\
  insOuter ltInt a b i B=insOuter ltInt a b (a+1) d) (λS _=>b+1-(intOf S).toNat)
 case atStart=>exact⟨a+1,0,d,by go_num,a8,a8,rfl,(Tb _ _ _ _ _ I).symm,rfl⟩
 case round=>
  obtain⟨i,n,B,rfl,ac,ag,Q,aj,hO⟩:=hrel;have X:qA (insOuter ltInt a b i B=insOuter ltInt a b (a+1) d):=hO;clear hO
  go_wp2
  ·
   go_loopw [7] (λT U=>∃(j m:Nat) (y:Array Int),T=.int .i64 j/\a<=j/\j<=i/\y.size=d.size/\U=putRow zg (Sort.ahead w m) zc u y /\
    insInner ltInt a j y=insInner ltInt a i B) (λT _=>(intOf T).toNat)
   case atStart=>exact⟨i,n,B,rfl,a8,Zp _,Q,rfl,rfl⟩
   case round=>
    obtain⟨j,m,y,rfl,ad,ah,E,A,Z⟩:=hrel;have P:i<b:=b9;obtain⟨G,L⟩:∃G:Nat->Int,∀t,G t=y[t]!:=⟨λt=>y[t]!,λ_=>rfl⟩;have ae:∀t,t<d.size->wr.cell? ⟨zc,u+t,none⟩=some (.int .u64 (G t)):=λt ht=>(by rw[A,L];exact Tx _ _ _ _ d y (tN _ _ _ _ _ _ I) E t a8);have af:∀t,t<d.size->wr.frozen? ⟨zc,u+t,none⟩=false:=λt ht=>(by rw[A,Td];exact((tN _ _ m _ _ _ I) t ht).2);have Y:qA (wr=putRow zg (Sort.ahead w m) zc u y):=A;have HG:qA (∀t,G t=y[t]!):=L;have V:qA (insInner ltInt a j y=insInner ltInt a i B):=Z;clear A L Z I;have H:(j<=a\/ltInt y[j]! y[j-1]! = false)->∀q,∃J n' C,Value.int .i64 ((i:Int)+1)=.int .i64 (J:Nat)/\a<J/\J<=b+1/\C.size=d.size /\
     wr.drewN q=putRow zg (Sort.ahead w n') zc u C/\insOuter ltInt a b J C=insOuter ltInt a b (a+1) d:=λhs q=>
     ⟨i+1,m+q,y,by go_num,a8,a8,E,by rw[Y.o];exact putRow_drewN _ _ _ _ _ _ _,
      by rw[<-X.o,insOuter_go _ _ _ _ _ P,<-V.o,insInner_stop _ _ _ _ hs]⟩
    have F:qA _:=H;clear H
    go_wp2;by_cases N:a<j
    .go_quiet (first|(go_at_call 170;refine tC (za _ _ _)))
     go_wp2
     ·
      have O:ltInt (G j) (G (j-1))=true:=b9;go_region;all_goals go_wp2
      go_roundw
      case rel=>
       refine⟨j-1,m+(nq+1),swp y j (j-1),by congr 1;omega,a8,a8,by rw[tR];exact E,?_,?_⟩
       .rw[Y.o,HG.o,HG.o];exact swap_worldA _ w m (nq+1) zc u y j (j-1) a8 a8
       .rw[<-V.o,insInner_go ltInt a j y N (by rw[<-HG.o,<-HG.o];exact O)]
      case measure=>simp[intOf];omega
     ·
      have O:ltInt (G j) (G (j-1))=false:=b9
      go_roundw
      case rel=>exact F.o (Or.inr (by rw[<-HG.o,<-HG.o];exact O)) nq
      case measure=>simp[intOf];omega
    .go_quiet (first|(go_at_call 170;refine tC (za _ _ _)))
     go_wp2
     go_roundw
     case rel=>exact F.o (Or.inl a8) nq
     case measure=>simp[intOf];omega
  ·
   have M:¬i<b:=b9
   go_end0
   exact⟨rfl,n,by unfold Sort.insertionSort;rw[<-X.o,insOuter_stop _ _ _ _ _ M]⟩
end
end Go.Proofs.YtbhngpjkakcgfaaGreatDoor
