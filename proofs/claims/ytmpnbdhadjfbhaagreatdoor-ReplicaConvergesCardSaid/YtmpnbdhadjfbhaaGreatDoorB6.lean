import Derived.ChangeKeysEq
import Derived.Laws.Concat
import Derived.Test.YtmpnbdhadjfbhaaGreatDoorB5
set_option linter.all false
namespace Go.Proofs.YtmpnbdhadjfbhaaGreatDoor
def c8{p:Prop}(h:p:=by unfold maxLen;omega):p:=h
def tH:=@Go.Sem.run_pure
def t8:=@Go.Oper.upon_enter
def TA:=@Go.grownCap_le_maxLen
def TI:=@Go.grownCap_ge
def T1:=@Go.growslice_fits
open Go.RowKit
section
variable {P:Program}{o:Oper}{D:Qk}{ρ:Nat->Nat}{nb:Nat}{s:PS}{a:Act}{w:World}
def QC{o:Oper}{t:Tmp}(h:Operand.tmp t∈o.op.operands.toList):t∈zA o:=by unfold zA;exact ue.2 ⟨_,h,rfl⟩
def Rd.op(h:Rd D ρ s (zB a) (zA o) w){y:Operand}{y':PO}(u:po y=some y')(j:y∈o.op.operands.toList):Rel D ρ s.b.length w (a.eval y) (s.ev y'):=
 h.at u λt e=>QC (by rw[<-e];exact j)
def kz:∀{l:List Operand}{j:List PO},Qu l=some j->j.length=l.length/\∀(i:Nat)(y:Operand),l[i]?=some y->∃o,j[i]?=some o/\po y=some o
 |[],j,h=>by cases h;exact⟨rfl,λi y h=>by simp at h⟩
 | x::r,j,h=>by
   simp only[Qu,Z3,ZZ]at h;obtain⟨y,B,l,A,rfl⟩:=h;obtain⟨u,w⟩:=kz A;refine⟨by simp[u],λi z hz=>?_⟩;cases i with
   |zero=>simp at hz;subst hz;exact⟨y,rfl,B⟩
   |succ i=>simpa using w i z (dJ hz)
def QS(P:Program)(o:Oper)(D:Qk)(ρ:Nat->Nat)(s:PS)(a:Act)(w:World)(K:PV->Prop):Prop:=∃p,K p/\p.own=none/\Qok P o s ρ D a w p
def QS.det{K:PV->Prop}{u:Value}{p:PV}(y:(execOp a.eval o).run P w=.ok (.value u) w)(h:Rel D ρ s.b.length w u p)(hk:K p)(ho:p.own=none)(j:p.isN=false:=by rfl):QS P o D ρ s a w K:=⟨p,hk,ho,zby y h λ_ _ _=>xA j⟩
def QS.strip{K:PV->Prop}{u:Value}{p:PV}(j:(execOp a.eval o).run P w=.ok (.value u) w)(h:Rel D ρ s.b.length w u p)(hk:K p.strip):QS P o D ρ s a w K:=⟨p.strip,hk,p.strip_own,zby j h.strip λ_ _ _=>xA p.strip_isN⟩
section
variable {K:PV->Prop}(hR:Rd D ρ s (zB a) (zA o) w)
include hR
theorem zlz{x:Operand}{G:PO}(ho:o.op=.move x\/o.op=.assign x)(C:po x=some G)(hk:PK.q P s (.mv G) K):QS P o D ρ s a w K:=by
 have y:(execOp a.eval o).run P w=.ok (.value (a.eval x)) w:=by rcases ho with ho|ho<;>simp[execOp,ho]
 have I:x∈o.op.operands.toList:=by rcases ho with ho|ho<;>simp[ho,Op.operands]
 have hrel:=hR.op C I;cases G with
 | t i=>
   have E:x=.tmp i:=by cases x<;>first|(cases C;rfl)|cases C
   subst E;simp only[PK.q]at hk;rcases PV.pre_or i (s.get i)with e|⟨B,n,m,e1,e2⟩
   .rw[e]at hk;exact .strip y hrel hk
   .rw[e2]at hk;have j:Rel D ρ s.b.length w (zB a i) (.sl B (.r n m)):=e1▸hrel;obtain⟨H,u,T,b,F,f,A,J,U,L,M,N,O,Q⟩:=j.inv_sl;refine⟨_,hk,rfl,zby y ?_ λX V S=>⟨H,B.length,u,?_,?_⟩⟩
    .show Rel D ρ s.b.length w (zB a i) _;rw[A];exact .dat (.sl H u T B _ b F f J (λh=>by cases h) L M N O Q)
    .have:=(S.2 i (QC I)).2 (by rw[e1];simp[PV.own]);rw[this,A]
    .exact A
 |c p=>exact .strip y hrel hk
 |f p=>exact .strip y hrel hk
theorem zny{c x y:Operand}{j u A:PO}(ho:o.op=.pick c x y)(E:po c=some j)(F:po x=some u)(G:po y=some A)
 (hk:qV (s.ev j) λb=>(b=true->K (s.ev u).strip)/\(b=false->K (s.ev A).strip)):QS P o D ρ s a w K:=by
 obtain⟨b,e1,_,B,C⟩:=xE hk (hR.op E (by simp[ho,Op.operands]));cases b with
 |true=>exact .strip (by simp[execOp,ho,e1,asBool]) (hR.op F (by simp[ho,Op.operands])) (B rfl)
 |false=>exact .strip (by simp[execOp,ho,e1,asBool]) (hR.op G (by simp[ho,Op.operands])) (C rfl)
theorem zlv{op:BinOp}{t G:TypeId}{x y:Operand}{j A:PO}(ho:o.op=.binOp op t x y G)(E:po x=some j)(F:po y=some A)(hk:QB op (s.ev j) (s.ev A) K):QS P o D ρ s a w K:=by obtain⟨r,B,C⟩:=zdX (P:=P) t x y hk (hR.op E (by simp[ho,Op.operands])) (hR.op F (by simp[ho,Op.operands]));refine .det (u:=r) ?_ (.dat (.v _)) C rfl;simp only[execOp,ho,tE,B,tx,tH]
theorem zlu{op:BinOp}{t G:TypeId}{x y:Operand}{u A:PO}(ho:o.op=.binOp op t x y G)(j:op=.eql\/op=.neq)(ht:P.underlying t=some .bool)(E:po x=some u)(F:po y=some A)
 (hk:qV (s.ev u) λa=>qV (s.ev A) λb=>K (.v (.bool ((op == .neq) != (a == b))))):QS P o D ρ s a w K:=by
 obtain⟨m,e1,_,B⟩:=xE hk (hR.op E (by simp[ho,Op.operands]));obtain⟨n,e2,_,C⟩:=xE B (hR.op F (by simp[ho,Op.operands]));refine .det ?_ (.dat (.v _)) C rfl;have hb:=JD (P:=P) (w:=w) ht m n;rcases j with rfl|rfl
 .simp only[execOp,ho,tE,e1,e2,kh,tx,tH,binOp,hb];cases m<;>cases n<;>rfl
 .simp only[execOp,ho,tE,e1,e2,kh,tx,tH,binOp,hb];cases m<;>cases n<;>rfl
theorem zpV{op:BinOp}{t H:TypeId}{x y:Operand}{C E:PO}(ho:o.op=.binOp op t x y H)(B:zoQ op=true)(F:po x=some C)(G:po y=some E)(hk:PK.q P s (.sb op C E) K):QS P o D ρ s a w K:=by
 have u:=hR.op F (by simp[ho,Op.operands]);have A:=hR.op G (by simp[ho,Op.operands]);simp only[PK.q]at hk;unfold qsb at hk;split at hk
 .rename_i p q ex ey;rw[ex]at u;rw[ey]at A;have e1:=u.v_inv;have e2:=A.v_inv;obtain⟨hs,hk⟩:=hk;have j:=run_string_add_sum (P:=P) (w:=w) p q hs;cases op<;>first
   |exact absurd B b8
   |(refine .det ?_ (.dat (.v _)) hk rfl;simp[execOp,ho,e1,e2,eqGuard,binOp,j];done)
   |(refine .det ?_ (.dat (.v _)) hk rfl;simp[execOp,ho,e1,e2,eqGuard,binOp,Op.stringOp])
 .exact hk.elim
theorem zlB{op:BinOp}{t C:TypeId}{x:Operand}{A:PO}{ms}(ho:o.op=.binOp op t x (.const .nilIface) C)(j:op=.eql\/op=.neq)(ht:P.underlying t=some (.interface ms))(B:po x=some A)
 (hk:PK.q P s (.nil (op == .neq) A) K):QS P o D ρ s a w K:=by
 have u:=hR.op B (by simp[ho,Op.operands]);simp only[PK.q]at hk;split at hk
 .rename_i e;rw[e]at u;have e1:=u.v_inv;refine .det ?_ (.dat (.v _)) hk rfl;have y:a.eval (.const .nilIface)=.nilIface:=rfl;rcases j with rfl|rfl<;>simp only[execOp,ho,tE,e1,y,X1,tx,tH,binOp,za3 ht]<;>rfl
 .rename_i tt pp e;rw[e]at u;obtain⟨v,e1,_⟩:=u.inv_ifc;refine .det ?_ (.dat (.v _)) hk rfl;have y:a.eval (.const .nilIface)=.nilIface:=rfl;rcases j with rfl|rfl<;>simp only[execOp,ho,tE,e1,y,Y5,tx,tH,binOp,JE ht]<;>rfl
 .exact hk.elim
theorem zlC{t:TypeId}{x:Operand}{j:PO}(ho:o.op=.unOp .not t x)(y:po x=some j)(hk:qV (s.ev j) λb=>K (.v (.bool (!b)))):QS P o D ρ s a w K:=by obtain⟨b,e1,_,u⟩:=xE hk (hR.op y (by simp[ho,Op.operands]));exact .det (by simp[execOp,ho,e1,Op.unary]) (.dat (.v _)) u rfl
theorem zlA{t:TypeId}{x:Operand}{A:PO}(ho:o.op=.unOp .neg t x)(C:po x=some A)(hk:QB .sub (.v (.int .i64 0)) (s.ev A) K):QS P o D ρ s a w K:=by
 have y:=hR.op C (by simp[ho,Op.operands]);unfold QB at hk;split at hk
 .rename_i k1 n1 k2 n2 e1 e2;cases e1;rw[e2]at y;have B:=y.v_inv;obtain⟨rfl,hk⟩:=hk;have j:qar .i64 (0-n2) K:=hk;exact .det (u:=.int .i64 (IntKind.i64.wrap (0-n2))) (by simp[execOp,ho,B,Op.unary,Op.intArith]) (.dat (.v _)) (kC j) rfl
 .exact hk.elim
theorem znn{t u:TypeId}{x:Operand}{y:PO}{k F:IntKind}(ho:o.op=.convert t u x)(A:P.underlying t=some (.int F))(B:P.underlying u=some (.int k))(E:po x=some y)(hk:vR (s.ev y) λ_ n=>K (.v (.int k (k.wrap n)))):QS P o D ρ s a w K:=by obtain⟨j,n,e1,_,C⟩:=yu hk (hR.op E (by simp[ho,Op.operands]));exact .det (by simp[execOp,ho,e1,convert,tG A,tG B,Conv.intToInt]) (.dat (.v _)) C rfl
theorem znp{t:TypeId}{x:Operand}{H:PO}{f:Nat}{B:Array Field}{j:Field}{i:TypeInfo}(ho:o.op=.fieldAddr t x f)(C:P.underlying t=some (.struct B))(E:B[f]?=some j)(F:P.info? j.type=some i)(G:i.size≠0)
 (L:po x=some H) (hk:PK.q P s (.fa H j.offset) K):QS P o D ρ s a w K:=by
 have A:=hR.op L (by simp[ho,Op.operands]);simp only[PK.q]at hk;split at hk
 .rename_i i' o' e;rw[e]at A;obtain⟨hi,e1⟩:=A.inv_bx;refine .det (u:=.pointer (some ⟨ρ i',o'+j.offset,none⟩)) ?_ (.inl (.inr ⟨_,_,rfl,hi,rfl⟩)) hk rfl;simp[execOp,ho,e1,Instr.fieldAt,tG C,E,Instr.sureAddr,fieldPlace,zE F,G,zh]
 .rename_i cs o' e;rw[e]at A;obtain⟨b,y,u,e1,I,J⟩:=A.inv_cp;refine .det (u:=.pointer (some ⟨b,y+(o'+j.offset),none⟩)) ?_ (.dat (.cp b y cs _ u I J)) hk rfl;simp[execOp,ho,e1,Instr.fieldAt,tG C,E,Instr.sureAddr,fieldPlace,zE F,G,zh,Wt]
 .exact hk.elim
theorem znr{t e:TypeId}{x y:Operand}{O Q:PO}{i:TypeInfo}(ho:o.op=.indexAddr t x y)(T:P.underlying t=some (.slice e))(U:P.info? e=some i)(hx:po x=some O)(hy:po y=some Q)(hk:PK.q P s (.ia O Q i.size) K):QS P o D ρ s a w K:=by
 simp only[PK.q]at hk;obtain⟨F,k,ex,V⟩:=y8 hk;obtain⟨j,n,e2,_,hn,G⟩:=yu V (hR.op hy (by simp[ho,Op.operands]));have M:=hR.op hx (by simp[ho,Op.operands]);rw[ex]at M;obtain⟨ad,S,N,b,E,f,e1,hc,hz,hm,Z,J,Y,hd⟩:=M.inv_sl;split at G
 .rename_i el hel;obtain⟨L,X⟩:=G;have B:n.toNat<F.length:=(Zw.1 hel).1;have A:N=i.size:=(J _ _ hel).symm.trans L;have H:=Z (by intro e;subst e;simp at B);refine .det (u:=.pointer (some ⟨b,E+n.toNat*i.size,none⟩)) ?_ (.dat ?_) X rfl
  .have I:n<F.length:=a8;simp[execOp,ho,e1,e2,Instr.indexAt,asIntOf,tG T,H,hn,I,zE U,zh]
  .have:=Dat.cp (D:=D) (w:=w) b (E+n.toNat*i.size) el 0 (λj=>f (n.toNat*i.size+j)) (λj hj=>?_) (λj p hp=>?_)
   .simpa using this
   .rw[L]at hj;have C:n.toNat*i.size+j<F.length*N:=by
     rw[A]
     calc n.toNat*i.size+j<n.toNat*i.size+i.size:=a8
      _=(n.toNat+1)*i.size:=by rw[WY];omega
      _<=F.length*i.size:=Wq _ B
    have:=Y _ C;rw[Wt];exact this
   .have:=hd _ _ _ _ hel hp;rw[A]at this;exact this
 .exact G.elim
theorem zni{t e:TypeId}{x y:Operand}{H I:PO}{i:TypeInfo}{m:Nat}(ho:o.op=.indexAddr t x y)(F:P.underlying t=some (.array m e))(G:P.info? e=some i)(M:po x=some H)(N:po y=some I)(hk:PK.q P s (.aa H I m i.size) K):QS P o D ρ s a w K:=by
 simp only[PK.q]at hk;obtain⟨j,n,e2,_,C,B⟩:=yu hk (hR.op N (by simp[ho,Op.operands]));have E:=hR.op M (by simp[ho,Op.operands]);split at B
 .rename_i i' o' e;rw[e]at E;obtain⟨hi,e1⟩:=E.inv_bx;refine .det (u:=.pointer (some ⟨ρ i',o'+n.toNat*i.size,none⟩)) ?_ (.inl (.inr ⟨_,_,rfl,hi,rfl⟩)) B rfl;simp[execOp,ho,e1,e2,Instr.indexAt,asIntOf,tG F,Instr.sureAddr,C.1,C.2,zE G,zh]
 .rename_i cs o' e;rw[e]at E;obtain⟨b,A,u,e1,J,L⟩:=E.inv_cp;refine .det (u:=.pointer (some ⟨b,A+(o'+n.toNat*i.size),none⟩)) ?_ (.dat (.cp b A cs _ u J L)) B rfl;simp[execOp,ho,e1,e2,Instr.indexAt,asIntOf,tG F,Instr.sureAddr,C.1,C.2,zE G,zh,Wt]
 .exact B.elim
theorem zns{t e:TypeId}{x y:Operand}{I J:PO}{B:Bool}{m H:Nat}(ho:o.op=.index t x y)(N:P.underlying t=some (.array m e))(E:XH P e=some (B,H))(S:po x=some I)(T:po y=some J)(hk:PK.q P s (.ix I J m B H) K):QS P o D ρ s a w K:=by
 simp only[PK.q]at hk;obtain⟨j,n,e2,_,F,A⟩:=yu hk (hR.op T (by simp[ho,Op.operands]));have G:=hR.op S (by simp[ho,Op.operands]);split at A
 .rename_i cs e;rw[e]at G;obtain⟨Z,e1,hz,O,Q⟩:=G.inv_agg;obtain⟨u,p,C,L,M⟩:=VJ (P:=P) E A hz O Q;obtain⟨i,d,U,X,Y,V⟩:=vT E;refine .strip (u:=u) (p:=p) ?_ (.dat L) M;rw[<-V]at C;simp[execOp,ho,e1,e2,Instr.index,asIntOf,tG N,F.1,F.2,zE U,C]
 .exact A.elim
theorem znq{t:TypeId}{x:Operand}{E:PO}{f:Nat}{A:Array Field}{j:Field}{y:Bool}{C:Nat}(ho:o.op=.field t x f)(I:P.underlying t=some (.struct A))(J:A[f]?=some j)(L:XH P j.type=some (y,C))
 (O:po x=some E) (hk:PK.q P s (.fl E j.offset y C) K):QS P o D ρ s a w K:=by
 simp only[PK.q]at hk;have B:=hR.op O (by simp[ho,Op.operands]);split at hk
 .rename_i cs e;rw[e]at B;obtain⟨Q,e1,hz,M,N⟩:=B.inv_agg;obtain⟨u,p,F,G,H⟩:=VJ (P:=P) L hk hz M N;refine .strip (u:=u) (p:=p) ?_ (.dat G) H;simp[execOp,ho,e1,Instr.field,tG I,J,asAgg,F]
 .exact hk.elim
theorem znt{t:TypeId}{x:Operand}{Q:PO}{G:Bool}{J:Nat}(ho:o.op=.load t x)(N:XH P t=some (G,J))(U:po x=some Q)(hk:PK.q P s (.ld Q G J) K):QS P o D ρ s a w K:=by
 simp only[PK.q]at hk;have F:=hR.op U (by simp[ho,Op.operands]);split at hk
 .rename_i cs o' e;rw[e]at F;obtain⟨b,V,u,e1,S,O⟩:=F.inv_cp;have A:G=true->zY ((cs.drop o').take J)=true:=λ_=>by unfold zY;rw[wK];intro p C;obtain⟨j,B⟩:=wI (Wr (WE C));exact(O j p B).isD
  obtain⟨L,p,E,H,I⟩:=Qv (P:=P) (ρ:=ρ) (nb:=s.b.length) N hk (λj B=>(S j B).2) (λj p C=>.dat (D:=D) (O j p C)) A;exact .strip (u:=L) (p:=p) (by simp[execOp,ho,e1,Instr.loadAt,Instr.sureAddr,E]) H I
 .rename_i i' o' e;rw[e]at F;obtain⟨hi,e1⟩:=F.inv_bx;split at hk
  .rename_i cs hcs;obtain⟨M,X,T,hz,hb⟩:=hR.boxes i' cs hcs;have y:∀j,j<cs.length->w.cell? ⟨ρ i',0+j,none⟩=some (M.getD j undef)/\(M.getD j undef).oneCell'=true:=λj B=>by refine⟨?_,(hb j _ (Zv B)).2⟩;simp only[World.cell?,T];simp[show j<M.size by omega]
   obtain⟨L,p,E,H,I⟩:=Qv (P:=P) (D:=D) (ρ:=ρ) (nb:=s.b.length) N hk.2 y (λj p C=>(hb j p C).1) (λ_=>hk.1);rw[wn]at E;exact .strip (u:=L) (p:=p) (by simp[execOp,ho,e1,Instr.loadAt,Instr.sureAddr,E]) H I
  .exact hk.elim
 .exact hk.elim
omit hR in
theorem K7{t:TypeId}(h:jX P t=true):∃k,P.underlying t=some (.int k):=by
 unfold jX at h;split at h
 .exact⟨_,b9⟩
 .cases h
omit hR in
theorem ky{t:TypeId}(h:jX P t=true){j:Array Value}{o:Nat}{v:Value}(y:j[o]?=some v):(part t j o).run P w=.ok v w:=by obtain⟨k,u⟩:=K7 h;simp[part,xy u,Qb,y]
omit hR in
theorem KT{t:TypeId}(h:jX P t=true)(d:Nat)(k:IntKind)(m n:Int):(Op.equalIn (d+1) t (.int k m) (.int k n)).run P w=.ok (decide (m=n)) w:=by obtain⟨o,j⟩:=K7 h;rw[run_equalIn_int w d t k o m n j];congr 1
omit hR in
theorem KS(d:Nat){vs us:Array Value}:∀(y:List Field)(i:Nat)(o B:List PV),K8 P i y=true->o.length=y.length->jy o B->(∀j v,o[j]?=some (.v v)->vs[i+j]?=some v)->(∀j v,B[j]?=some (.v v)->us[i+j]?=some v)->(Op.eqFields (d+1) vs us y).run P w=.ok (xQ o B) w
 |[],i,o,B,_,hl,_,_,_=>by obtain rfl:o=[]:=wW.1 hl;simp[Op.eqFields,xQ]
 | f::y,i,o,B,hi,hl,u,hv,hu=>by
   unfold K8 at hi;simp only[V0,bne_iff_ne,ne_eq,tj]at hi;obtain⟨⟨⟨E,F⟩,C⟩,G⟩:=hi;unfold jy at u;split at u
   .cases hl
   .rename_i k a r k' b r';obtain⟨rfl,u⟩:=u;have e1:=hv 0 _ rfl;have e2:=hu 0 _ rfl;rw[ud,<-F]at e1 e2;have ih:=KS d (vs:=vs) (us:=us) y (i+1) r r' G (dJ hl) u (λj v h=>by have:=hv (j+1) v h;rwa[show i+(j+1)=i+1+j by omega]at this) (λj v h=>by have:=hu (j+1) v h;rwa[show i+(j+1)=i+1+j by omega]at this);simp only[Op.eqFields,E,ne_eq,not_false_eq_true,UJ,tE,ky (P:=P) (w:=w) C e1,ky (P:=P) (w:=w) C e2,tx,KT (P:=P) (w:=w) C d k a b];by_cases A:a=b
    .simp[A,ih,xQ]
    .simp[A,xQ]
   .cases u
omit hR in
theorem KR(d:Nat){e:TypeId}(B:jX P e=true){vs us:Array Value}:∀(u A:List PV)(i:Nat),jy u A->(∀j v,u[j]?=some (.v v)->vs[i+j]?=some v)->(∀j v,A[j]?=some (.v v)->us[i+j]?=some v)->(Op.eqItems (d+1) e 1 vs us (List.range' i u.length)).run P w=.ok (xQ u A) w
 |[],A,i,_,_,_=>by simp[Op.eqItems,xQ]
 | x::u,A,i,o,hv,hu=>by
   unfold jy at o;split at o
   .rename_i h;cases h
   .rename_i k a r k' b r' h;cases h;obtain⟨rfl,o⟩:=o;have e1:=hv 0 _ rfl;have e2:=hu 0 _ rfl;rw[ud]at e1 e2;have ih:=KR d B (vs:=vs) (us:=us) u r' (i+1) o (λj v h=>by have:=hv (j+1) v h;rwa[show i+(j+1)=i+1+j by omega]at this) (λj v h=>by have:=hu (j+1) v h;rwa[show i+(j+1)=i+1+j by omega]at this);simp only[wv,List.range'_succ,Op.eqItems,tE,Uj,ky (P:=P) (w:=w) B e1,ky (P:=P) (w:=w) B e2,tx,KT (P:=P) (w:=w) B d k a b];by_cases y:a=b
    .simp[y,ih,xQ]
    .simp[y,xQ]
   .cases o
omit hR in
theorem zfc{t:TypeId}{n:Nat}(ht:za9 P t=some n){o us:Array Value}{u C:List PV}(I:u.length=n)(H:jy u C)(K:∀j v,u[j]?=some (.v v)->o[0+j]?=some v)(J:∀j v,C[j]?=some (.v v)->us[0+j]?=some v):(Op.equal t (.agg o) (.agg us)).run P w=.ok (xQ u C) w/\∀op A B,(eqGuard op t A B (.agg o) (.agg us)).run P w=.ok () w:=by
 unfold za9 at ht;split at ht
 .rename_i fs hf;split at ht
  .rename_i hcond;simp only[V0,Wk]at hcond;obtain⟨⟨E,F⟩,G⟩:=hcond;cases ht;have y:P.fieldsOf t=fs:=(by unfold Program.fieldsOf;rw[hf]);refine⟨?_,λop A B=>run_eqGuard_agg w op t A B o us G⟩;show (Op.equalIn (9998+1+1) t _ _).run P w=_;rw[run_equalIn_agg w _ t o us (by rw[y];exact hf) F,y];exact KS _ _ 0 u C E (dJ I) H K J
  .cases ht
 .rename_i m e hf;split at ht
  .rename_i hcond;simp only[V0,Wk,tj]at hcond;obtain⟨⟨⟨E,F⟩,G⟩,L⟩:=hcond;cases ht;obtain⟨i,hi⟩:=wX.1 F;refine⟨?_,λop A B=>run_eqGuard_agg w op t A B o us L⟩;show (Op.equalIn (9998+1+1) t _ _).run P w=_;rw[run_equalIn_array w _ o us hf hi,G,List.range_eq_range',<-I];exact KR _ E u C 0 H K J
  .cases ht
 .cases ht
omit hR in
theorem KU:∀{o u:List PV},jy o u->(∀p∈o,∃v,p=.v v)/\∀p∈u,∃v,p=.v v
 |[],[],_=>⟨b6,b6⟩
 |[],_::_,h=>by simp[jy]at h
 | x::o,u,h=>by
   unfold jy at h;split at h
   .rename_i e;cases e
   .rename_i e;cases e;obtain⟨i1,i2⟩:=KU h.2;exact⟨λp j=>(wi.1 j).elim (λe=>⟨_,e⟩) (i1 p),λp j=>(wi.1 j).elim (λe=>⟨_,e⟩) (i2 p)⟩
   .cases h
theorem zlx{op:BinOp}{t t':TypeId}{x y:Operand}{Q S:PO}(ho:o.op=.binOp op t x y t')(G:op=.eql\/op=.neq)(ht:(za9 P t).isSome=true)(hx:po x=some Q)(hy:po y=some S)(hk:zbz (op == .neq) ((za9 P t).getD 0) (s.ev Q) (s.ev S) K):QS P o D ρ s a w K:=by
 have C:=hR.op hx (by simp[ho,Op.operands]);have E:=hR.op hy (by simp[ho,Op.operands]);obtain⟨n,M⟩:=wX.1 ht;rw[M]at hk;unfold zbz at hk;split at hk
 .rename_i xs ys ex ey;obtain⟨⟨X,J⟩,hk⟩:=hk;rw[ex]at C;rw[ey]at E;have get:∀{u:Value}{H:List PV},(∀p∈H,∃v,p=.v v)->Rel D ρ s.b.length w u (.agg H)->∃A:Array Value,u=.agg A/\∀j v,H[j]?=some (.v v)->A[0+j]?=some v:=λI h=>by obtain⟨A,rfl,hz,_,V⟩:=h.inv_agg;refine⟨A,rfl,λj v L=>?_⟩;have F:=V j _ L;have B:j<A.size:=(by rw[hz];exact(Zw.1 L).1);rw[wu,Wd B,WP]at F;rw[wn,Wd B];generalize A[j]=z at F;cases F;rfl
  obtain⟨T,U⟩:=KU J;obtain⟨A,e1,Z⟩:=get T C;obtain⟨us,e2,Y⟩:=get U E;obtain⟨N,O⟩:=zfc (P:=P) (w:=w) M X J Z Y;refine .det ?_ (.dat (.v _)) hk rfl;rcases G with rfl|rfl
  .simp only[execOp,ho,tE,e1,e2,O,tx,tH,binOp,N];cases xQ xs ys<;>rfl
  .simp only[execOp,ho,tE,e1,e2,O,tx,tH,binOp,N];cases xQ xs ys<;>rfl
 .exact hk.elim
theorem znu{t:TypeId}{e:TypeId}{x:Operand}{E:PO}{c:Call}(ho:o.op=.call c)(B:c.callee=.builtin .len)(A:c.args=#[x])(y:c.argTypes=#[t])(G:P.underlying t=some (.slice e))(I:po x=some E)
 (hk:QA (s.ev E) λj=>K (.v (.int .i64 j.length))):QS P o D ρ s a w K:=by
 obtain⟨j,k,ex,H⟩:=y8 hk;have C:=hR.op I (by simp[ho,Op.operands,Call.operands,B,A]);rw[ex]at C;obtain⟨L,F,M,b,J,f,e1,_⟩:=C.inv_sl;refine .det (u:=.int .i64 j.length) ?_ (.dat (.v _)) H rfl;simp[execOp,ho,resolve,B,A,y,invoke,builtin,Builtin.len_,tG G,e1,goInt]
theorem zno{x:Operand}{A:PO}{i:Nat}(ho:o.op=.extract x i)(C:po x=some A)(hk:PK.q P s (.ex A i) K):QS P o D ρ s a w K:=by
 simp only[PK.q]at hk;have j:=hR.op C (by simp[ho,Op.operands]);split at hk
 .rename_i cs e;rw[e]at j;obtain⟨y,e1,hz,B⟩:=j.inv_tup;split at hk
  .rename_i p hp;have hi:i<y.size:=Y7 hz hp;refine .strip (u:=y.getD i undef) (p:=p) ?_ (.dat (B i p hp)) hk;simp[execOp,ho,e1,Instr.extract,hi]
  .exact hk.elim
 .exact hk.elim
theorem znx{x:Operand}{y:PO}(ho:o.op=.nilCheck x)(A:po x=some y)(hk:PK.q P s (.nc y) K):QS P o D ρ s a w K:=by
 simp only[PK.q]at hk;have j:=hR.op A (by simp[ho,Op.operands]);split at hk
 .rename_i i o' e;rw[e]at j;obtain⟨hi,e1⟩:=j.inv_bx;exact .det (by simp[execOp,ho,e1]) j hk rfl
 .rename_i cs o' e;rw[e]at j;obtain⟨b,B,u,e1,C,E⟩:=j.inv_cp;exact .det (by simp[execOp,ho,e1]) j hk rfl
 .exact hk.elim
theorem znw{t:TypeId}{d:TypeDesc}{x:Operand}{j:PO}(ho:o.op=.makeInterface t x)(y:P.underlying t=some d)(A:∀E,d≠.interface E)(C:po x=some j)(hk:PK.q P s (.mi t j) K):QS P o D ρ s a w K:=by
 simp only[PK.q]at hk;have B:=hR.op C (by simp[ho,Op.operands]);split at hk
 .rename_i hd;refine .det (u:=.iface t (a.eval x)) ?_ (.dat (.ifc _ _ _ (B.data hd).sh)) hk rfl;simp only[execOp,ho,tE,Instr.makeInterface,tG y,tx];cases d<;>first|rfl|exact absurd rfl (A _)
 .exact hk.elim
theorem znv{f:Fn}{F C:Array Operand}{G E:List PO}(ho:o.op=.makeFunc f F C)(M:Qu F.toList=some G)(N:Qu C.toList=some E)(hk:PK.q P s (.mf f G E) K):QS P o D ρ s a w K:=by
 simp only[PK.q,V0,wK,WH]at hk;obtain⟨⟨hd,O⟩,hk⟩:=hk;obtain⟨Y,p1⟩:=kz M;obtain⟨Z,p2⟩:=kz N;have J:∀{A:Array Operand}{j:List PO},j.length=A.toList.length->(∀(i:Nat)(y:Operand),A.toList[i]?=some y->∃V,j[i]?=some V/\po y=some V)->(∀x∈j,(s.ev x).sh.isD=true\/(s.ev x).sh.isB=true)->(∀y∈A.toList,y∈o.op.operands.toList) ->
  ∀(i:Nat) q,(j.map λx=>(s.ev x).sh)[i]?=some q->Rel1 D ρ s.b.length w ((A.map a.eval).getD i undef) q:=by
  intro A j hl hp H Q i q X;simp only[wk,ZZ]at X;obtain⟨U,B,rfl⟩:=X;have hi:i<A.toList.length:=(by rw[<-hl];exact(Zw.1 B).1);obtain⟨V,I,S⟩:=hp i _ (Zv hi);rw[B]at I;cases I;have L:Rel D ρ s.b.length w (a.eval A.toList[i]) (s.ev U).sh:=by
   have:=hR.op S (Q _ (Y1 hi));rcases H U (wL B)with h|h
   .exact .dat ((this.data (by rwa[PV.sh_isD]at h)).sh)
   .rcases this with(this|⟨i,o,e,M,N⟩)|⟨f,va,vb,F,C,e,_⟩
    .exact .dat this.sh
    .exact .inl (.inr ⟨i,o,by rw[e];rfl,M,N⟩)
    .rw[e]at h;cases h
  have e:(A.map a.eval).getD i undef=a.eval A.toList[i]:=(by have:i<A.size:=(dJ hi);simp[this]);rw[e];rcases H U (wL B)with h|h
  .exact .inl (L.data h)
  .rcases L with L|⟨f,va,vb,F,C,e,_⟩
   .exact L
   .rw[e]at h;cases h
 refine .det (u:=.func f (F.map a.eval) (C.map a.eval)) (by simp[execOp,ho,Instr.makeFunc]) (.inr ⟨f,_,_,_,_,rfl,rfl,dJ Y.symm,dJ Z.symm,?_,?_⟩) hk rfl
 .exact J Y p1 hd λy T=>by simp only[ho,Op.operands,WT,wC];exact .inl T
 .exact J Z p2 O λy T=>by simp only[ho,Op.operands,WT,wC];exact .inr T
theorem zly{m:Bool}{x y:Operand}{A B:PO}{c:Call}(ho:o.op=.call c)(u:c.callee=.builtin (if m then .max else .min))(j:c.args=#[x,y])(F:po x=some A)(G:po y=some B)(hk:PK.q P s (.mm m A B) K):QS P o D ρ s a w K:=by
 simp only[PK.q]at hk;obtain⟨k,I,e1,_,C⟩:=yu hk (hR.op F (by simp[ho,Op.operands,Call.operands,u,j]));obtain⟨H,J,e2,_,rfl,E⟩:=yu C (hR.op G (by simp[ho,Op.operands,Call.operands,u,j]));refine .det ?_ (.dat (.v _)) E rfl;cases m
 .simp[execOp,ho,resolve,u,j,invoke,builtin,Builtin.min_,e1,e2,Builtin.min2]
 .simp[execOp,ho,resolve,u,j,invoke,builtin,Builtin.max_,e1,e2,Builtin.max2]
end
end
section
variable {P:Program}{o:Oper}{D:Qk}{ρ:Nat->Nat}{nb:Nat}{s:PS}{a:Act}{w:World}
def zej{i n o j:Nat}(h:i<n)(u:j<o):i*o+j<n*o:=by
 calc i*o+j<i*o+o:=a8
  _=(i+1)*o:=by rw[WY];omega
  _<=n*o:=Wq _ h
def zgu{k:Ow}(G:k≠.z){E:Option Addr}{b B A l h y:Nat}{o:List (List PV)}{f:Nat->Value}(U:l<=h)(O:h<=o.length)(T:o.length<=y)(V:y<=maxLen)(M:o≠[]->E=some ⟨b,B,none⟩)(I:∀(i:Nat)(e:List PV),o[i]?=some e->e.length=A)
 (L:∀j,j<o.length*A->D b (B+j)/\w.cell? ⟨b,B+j,none⟩=some (f j)/\(f j).oneCell'=true) (N:∀(i:Nat)(e:List PV)(j:Nat)(p:PV),o[i]?=some e->e[j]?=some p->Dat D w (f (i*A+j)) p) :
 Dat D w (.slice (if y-0=l then E else E.map (·.add (l*A))) (h-l) (y-l)) (.sl ((o.take h).drop l) k):=by
 have u:((o.take h).drop l).length=h-l:=a9
 have F:Dat D w (.slice (if y-0=l then E else E.map (·.add (l*A))) ((o.take h).drop l).length (y-l)) (.sl ((o.take h).drop l) k):=by
  have get:∀(i:Nat) e,((o.take h).drop l)[i]?=some e->o[l+i]?=some e/\i<h-l:=λi e C=>(by have hi:=(Zw.1 C).1;rw[u]at hi;rw[Wi,wt,vD a8]at C;exact⟨C,hi⟩);refine .sl _ _ A _ _ b (B+l*A) (λj=>f (l*A+j)) a8 (λh=>absurd h G) a8 (λH=>?_) (λi e C=>I _ e (get i e C).1) (λj P=>?_) (λi e j p C S=>?_)
  .have Q:l<h:=by
    rcases wJ l h with J|J
    .exact J
    .exact absurd (wH (by rw[u];omega)) H
   rw[Vq a8,M (by intro e;subst e;simp at O;omega)];simp[zh]
  .rw[u]at P;have:l*A+j<o.length*A:=by have K:(l+(h-l))*A<=o.length*A:=Wq _ a8;rw[WY]at K;omega
   rw[Wt];exact L _ this
  .have:=N _ _ _ _ (get i e C).1 S;rw[WY,Wt]at this;exact this
 rw[u]at F;exact F
section
variable {K:PV->Prop}(hR:Rd D ρ s (zB a) (zA o) w)
include hR
theorem znz{t e:TypeId}{x:Operand}{L:PO}{lo hi:Option Operand}{B S:Option PO}{i:TypeInfo}(ho:o.op=.slice t x lo hi none)(N:P.underlying t=some (.slice e))(h3:P.info? e=some i)(hx:po x=some L)(J:poo lo=some B)(I:poo hi=some S)
 (hk:PK.q P s (.sc L B S i.size) K):QS P o D ρ s a w K:=by
 simp only[PK.q]at hk;obtain⟨C,k,ex,h4⟩:=y8 hk;have hr:=hR.op hx (by simp[ho,Op.operands]);rw[ex]at hr;obtain⟨F,A,sz,b,ao,f,e1,hc,hz,hm,ha,ab,hD,hd⟩:=hr.inv_sl;have fin:∀l h:Nat,(l<=h/\h<=C.length/\(∀e∈C,e.length=i.size)/\K (.sl ((C.take h).drop l) (Xw B (s.ev L))))->(B=none->l=0)->(execOp a.eval o).run P w=.ok (.value (.slice (if A=l then F else F.map (·.add (l*i.size))) (h-l) (A-l))) w->QS P o D ρ s a w K:=by
  rintro l h ⟨hl,hh,ag,hK⟩ X E;have U:Xw B (s.ev L)≠.z:=by unfold Xw;split<;>simp
  have T:(PV.sl ((C.take h).drop l) (Xw B (s.ev L))).own=none:=by unfold Xw;split<;>rfl
  have G:∀x0 n0,zbZ x0 n0 s (zB a) (zA o) w->NewOk x0 n0 w (.slice (if A=l then F else F.map (·.add (l*i.size))) (h-l) (A-l)) (.sl ((C.take h).drop l) (Xw B (s.ev L))):=λx0 n0 hN=>by
   have Z:∀u:Value,NewOk x0 n0 w u (.sl ((C.take h).drop l) .sh):=λ_=>trivial;rw[ex];cases hlo2:B with
   |some y=>exact Z _
   | none=>
     have h0:=X hlo2;subst h0;cases k with
     | p j=>
       have ah:∃t,x=.tmp t/\s.get t=.sl C (.p j):=by
        cases x with
        |tmp t=>cases hx;exact⟨t,rfl,ex⟩
        | const v=>
          cases hx;have:(ofV v).isN=false:=by unfold ofV;split<;>(try split)<;>rfl
          rw[show ofV v=_ from ex]at this;cases this
        |func f=>cases hx;cases ex
        |global g=>cases hx
       obtain⟨t,rfl,ht⟩:=ah;have O:=(hN.2 t (QC (by simp[ho,Op.operands]))).1;rw[ht]at O;obtain⟨am,ae,aj,q1,q2⟩:=O;have q3:zB a t=.slice F C.length A:=e1;rw[q3]at q2;injection q2 with r1 r2 r3;subst r1;subst r3;refine⟨F,ae,A,q1,?_⟩;have V:((C.take h).drop 0).length=h:=a9;rw[V];have e4:(if A=0 then F else F.map (·.add (0*i.size)))=F:=by
        split
        .rfl
        .cases F with
         |none=>rfl
         |some F=>simp[Addr.add]
       rw[e4];rfl
     |_=>exact Z _
  by_cases Q:C=[]
  .subst Q;have h0:h=0:=(dJ hh);subst h0;have l0:l=0:=a8;subst l0;refine⟨_,hK,T,zby E (.dat ?_) G⟩;exact .sl _ _ 1 [] _ 0 0 (λ_=>undef) (X4 _) (λh=>absurd h U) a8 (λh=>absurd rfl h) (λi e h=>by simp at h) (λj h=>absurd h b6) (λi e j p h=>by simp at h)
  .have ac:sz=i.size:=by
    cases C with
    |nil=>exact absurd rfl Q
    |cons e C=>exact(ab 0 e rfl).symm.trans (ag e b6)
   subst ac;refine⟨_,hK,T,zby E (.dat ?_) G⟩;simpa using zgu U hl hh hc hm ha ab hD hd
 have H:∀h:Nat,h<=A->qBd s B 0 (λl=>l<=h/\h<=C.length/\(∀e∈C,e.length=i.size)/\K (.sl ((C.take h).drop l) (Xw B (s.ev L)))) ->
  (∀l:Nat,l<=h->(match lo.map a.eval with|some v=>Instr.sliceBound v h .sliceB|none=>pure 0:Sem Nat).run P w=.ok l w->(execOp a.eval o).run P w=.ok (.value (.slice (if A=l then F else F.map (·.add (l*i.size))) (h-l) (A-l))) w)->QS P o D ρ s a w K:=by
  intro h an hq E;cases lo with
  |none=>cases J;exact fin 0 h hq (λ_=>rfl) (E 0 (X4 _) b6)
  |some y=>simp only[poo,ZZ]at J;obtain⟨y',hy,rfl⟩:=J;obtain⟨j,n,e2,_,hn,hf⟩:=yu hq (hR.op hy (by simp[ho,Op.operands]));have af:n<=h:=(by have:=hf.1;omega);exact fin n.toNat h hf (λe=>by cases e) (E n.toNat hf.1 (by simp[e2,Instr.sliceBound,asIntOf,hn,af]))
 have ak:(match P.underlying t with|some (.array _ _)=>true|_=>false)=false:=by rw[N]
 cases hi with
 | none=>
   cases I;refine H C.length hc h4 λl hl hs=>?_;simp only[Option.map]at hs;cases lo with
   |none=>have l0:l=0:=(dJ hs.symm);subst l0;simp[execOp,ho,e1,Instr.sliceAt,Instr.slice,tG N,Instr.sliceBounds,zE h3]
   |some y=>simp only at hs;simp[execOp,ho,e1,Instr.sliceAt,Instr.slice,tG N,Instr.sliceBounds,zE h3,hs]
 | some z=>
   simp only[poo,ZZ]at I;obtain⟨z',ai,rfl⟩:=I;obtain⟨j,n,e2,_,hn,M⟩:=yu h4 (hR.op ai (by simp[ho,Op.operands]));have Y:n<=A:=by
    have:n.toNat<=C.length:=by
     cases B with
     |none=>exact M.2.1
     | some y=>
       simp only[qBd,vR]at M;split at M
       .exact M.2.2.1
       .exact M.elim
    omega
   refine H n.toNat a8 M λl hl hs=>?_;simp only[Option.map]at hs;cases lo with
   |none=>have l0:l=0:=(dJ hs.symm);subst l0;simp[execOp,ho,e1,e2,Instr.sliceAt,Instr.slice,tG N,Instr.sliceBounds,Instr.sliceBound,asIntOf,hn,Y,zE h3]
   |some y=>simp only at hs;have hh:(Instr.sliceBound (.int j n) A .sliceAcap).run P w=.ok n.toNat w:=(by simp[Instr.sliceBound,asIntOf,hn,Y]);simp[execOp,ho,e1,e2,Instr.sliceAt,Instr.slice,tG N,Instr.sliceBounds,hh,zE h3,hs]
end
def CellsD(D:Qk)(w:World)(j:Array Value)(o:List PV):Prop:=
 j.size=o.length/\∀(i:Nat) p,o[i]?=some p->Dat D w (j.getD i undef) p/\(j.getD i undef).oneCell'=true
def CellsR.data{u:Value}{j:List PV}(h:CellsR D ρ nb w u j)(o:zY j=true):CellsD D w u.cells (j.map PV.sh):=by refine⟨dJ h.1,λi p A=>?_⟩;simp only[wk,ZZ]at A;obtain⟨q,y,rfl⟩:=A;unfold zY at o;rw[wK]at o;exact⟨((h.2 i q y).1.data (o q (wL y))).sh,(h.2 i q y).2⟩
def x6(u:Nat):∀(l:List Value)(k:Nat)(o:Array Value),u+k+l.length<=o.size ->
 ((l.zipIdx k).foldl (fun(w:Array Value) (c,j)=>w.setIfInBounds (u+j) c) o).size=o.size /\
 ∀i,((l.zipIdx k).foldl (fun(w:Array Value) (c,j)=>w.setIfInBounds (u+j) c) o).getD i undef=if u+k<=i/\i<u+k+l.length then l.getD (i-(u+k)) undef else o.getD i undef
 |[],k,o,_=>⟨rfl,λi=>by simp;intro y A;omega⟩
 | v::l,k,o,h=>by
   simp only[List.zipIdx_cons,WI];simp only[wv]at h;obtain⟨y,A⟩:=x6 u l (k+1) (o.setIfInBounds (u+k) v) a9;refine⟨by rw[y];simp,λi=>?_⟩;rw[A i];by_cases e:i=u+k
   .subst e;rw[Vq a8,vD b6];have:u+k<o.size:=a8;simp[this]
   .by_cases e2:u+(k+1)<=i/\i<u+(k+1)+l.length
    .rw[vD e2,vD a9];obtain⟨d,B⟩:∃d,i-(u+k)=d+1:=⟨i-(u+k)-1,a8⟩;rw[B,show i-(u+(k+1))=d from by omega];simp
    .rw[Vq e2,Vq a9];simp[ui (uP e)]
def Xy(u o:List PV)(j i:Nat)(h:j+o.length<=u.length):(XI u o j)[i]?=if j<=i/\i<j+o.length then o[i-j]? else u[i]?:=by
 unfold XI;have ht:(u.take j).length=j:=a9
 by_cases w:i<j
 .rw[Vq a8,wQ,wh a8,wt,vD w]
 .by_cases y:i<j+o.length
  .rw[vD a8,wQ,V2 a8,wh a8,ht]
  .rw[Vq a8,V2 a9,Wi];congr 1;simp;omega
def QK(o u:List PV)(j:Nat)(h:j+u.length<=o.length):(XI o u j).length=o.length:=by unfold XI;simp;omega
def Xz{y us:Array Value}{B o:List PV}{off:Nat}(hz:CellsD D w y B)(A:CellsD D w us o)(h:off+o.length<=B.length):
 CellsD D w (us.zipIdx.foldl (fun(o:Array Value) (c,j)=>o.setIfInBounds (off+j) c) y) (XI B o off):=by
 obtain⟨C,E⟩:=x6 off us.toList 0 y (by simp[hz.1,A.1];omega);have e:us.zipIdx.foldl (fun(o:Array Value) (c,j)=>o.setIfInBounds (off+j) c) y=(us.toList.zipIdx 0).foldl (fun(o:Array Value) (c,j)=>o.setIfInBounds (off+j) c) y:=by rw[<-Array.foldl_toList,tf]
 rw[e];refine⟨by rw[C,QK _ _ _ h];exact hz.1,λi p u=>?_⟩;rw[Xy _ _ _ _ h]at u;rw[E i];have F:us.toList.length=o.length:=dJ A.1
 simp only[ud];by_cases hi:off<=i/\i<off+o.length
 .rw[vD hi]at u;rw[vD a8];have:=A.2 _ _ u;have e2:us.toList.getD (i-off) undef=us.getD (i-off) undef:=b6;rw[e2];exact this
 .rw[Vq hi]at u;rw[Vq a8];exact hz.2 _ _ u
def Z4(j:Nat->Option (Nat×Nat)){K:List PV->Prop}:∀(parts:List (Nat×Operand))(y:List (Nat×Nat×PO))(A:Array Value)(B:List PV),y.length=parts.length ->
 (∀(k:Nat) i x,parts[k]?=some (i,x)->∃o n F,y[k]?=some (o,n,F)/\j i=some (o,n)/\Rel D ρ nb w (a.eval x) (s.ev F)) ->
 CellsD D w A B->vS s y B K->∃u C,Instr.fill j A (parts.map fun(i,x)=>(i,a.eval x))=some u/\CellsD D w u C/\K C
 |[],[],A,B,_,_,hz,hq=>⟨A,B,rfl,hz,hq⟩
 |[],_::_,_,_,h,_,_,_=>by cases h
 |_::_,[],_,_,h,_,_,_=>by cases h
 | (i,x)::parts,(o,n,F)::y,A,B,hl,hp,hz,hq=>by
   obtain⟨H,U,Q,e1,e2,I⟩:=hp 0 i x rfl;simp at e1;obtain⟨rfl,rfl,rfl⟩:=e1;simp only[vS]at hq;obtain⟨C,⟨S,T,N,O⟩,G⟩:=xY hq I;have P:=G.data N;obtain⟨u,E,J,L,M⟩:=Z4 j parts y _ _ (dJ hl) (λk i x hk=>by simpa using hp (k+1) i x (dJ hk)) (Xz (off:=o) hz P a9) O;refine⟨u,E,?_,L,M⟩;simp only[Wx,Instr.fill,e2];rw[Vq]
   .exact J
   .have:=G.1;have:=hz.1;simp;omega
def qJ{t:TypeId}{j:List PV}(h:xg P t=some j):∃i z,P.info? t=some i/\i.zero=some z/\j=z.cells.toList.map Q6/\(∀v∈z.cells.toList,v.oneCell'=true):=by
 unfold xg at h;simp only[Z3]at h;obtain⟨i,hi,z,hz,h⟩:=h;split at h
 .rename_i hall;cases h;rw[wK]at hall;exact⟨i,z,hi,hz,rfl,hall⟩
 .cases h
def yT{z:Value}(h:∀v∈z.cells.toList,v.oneCell'=true):CellsD D w z.cells (z.cells.toList.map Q6):=by
 refine⟨b6,λi p o=>?_⟩;simp only[wk,ZZ]at o;obtain⟨v,j,rfl⟩:=o;have u:v∈z.cells.toList:=wL j;have e:z.cells.getD i undef=v:=by simp at j;simp[j]
 rw[e];exact⟨zai D w v,h v u⟩
def CellsD.agg{o:Array Value}{j:List PV}(h:CellsD D w o j):Dat D w (.agg o) (.agg j):=
 .agg _ _ h.1 (λi hi=>(h.2 i _ (Zv hi)).2) λi p u=>(h.2 i p u).1
def Zz{u:Array Field}:∀{l:List (Nat×Operand)}{o:List (Nat×Nat×PO)},Qq P u l=some o->o.length=l.length/\∀(k:Nat) i x,l[k]?=some (i,x)->∃f n w,u[i]?=some f/\P.info? f.type=some n/\o[k]?=some (f.offset,n.size,w)/\po x=some w
 |[],o,h=>by cases h;exact⟨rfl,λk i x h=>by simp at h⟩
 | (i,x)::r,o,h=>by
   simp only[Qq,Z3,ZZ]at h;obtain⟨f,C,n,F,y,G,l,E,rfl⟩:=h;obtain⟨A,B⟩:=Zz E;refine⟨by simp[A],λk j z hz=>?_⟩;cases k with
   |zero=>simp at hz;obtain⟨rfl,rfl⟩:=hz;exact⟨f,n,y,C,F,rfl,G⟩
   |succ k=>simpa using B k j z (dJ hz)
def Zy{u:Nat}:∀{l:List (Nat×Operand)}{o:List (Nat×Nat×PO)},Qp u l=some o->o.length=l.length/\∀(k:Nat) i x,l[k]?=some (i,x)->∃w,o[k]?=some (i*u,u,w)/\po x=some w
 |[],o,h=>by cases h;exact⟨rfl,λk i x h=>by simp at h⟩
 | (i,x)::r,o,h=>by
   simp only[Qp,Z3,ZZ]at h;obtain⟨y,E,l,C,rfl⟩:=h;obtain⟨A,B⟩:=Zy C;refine⟨by simp[A],λk j z hz=>?_⟩;cases k with
   |zero=>simp at hz;obtain⟨rfl,rfl⟩:=hz;exact⟨y,rfl,E⟩
   |succ k=>simpa using B k j z (dJ hz)
section
variable {K:PV->Prop}(hR:Rd D ρ s (zB a) (zA o) w)
include hR
theorem zlt{t:TypeId}{parts:Array (Nat×Operand)}{C:Array Field}{L:List PV}{I:List (Nat×Nat×PO)}(ho:o.op=.build t parts)(X:P.underlying t=some (.struct C))(hz:xg P t=some L)(y:∀f∈C.toList,(P.info? f.type).isSome=true)
 (Y:Qq P C parts.toList=some I) (hk:PK.q P s (.bd L I) K):QS P o D ρ s a w K:=by
 simp only[PK.q]at hk;obtain⟨i,z,T,U,rfl,V⟩:=qJ hz;obtain⟨Z,l2⟩:=Zz Y;obtain⟨j,H,F⟩:∃j,C.toList.mapM (λf=>(P.info? f.type).map λi=>(f.offset,i.size))=some j/\∀(i:Nat) f n,C.toList[i]?=some f->P.info? f.type=some n->j[i]?=some (f.offset,n.size):=by
  revert y;induction C.toList with
  |nil=>intro _;exact⟨[],rfl,λi f n h=>by simp at h⟩
  | cons f l ih=>
    intro y;obtain⟨pl,e1,e2⟩:=ih λf E=>y f (by simp[E]);have:=y f b6;obtain⟨n,J⟩:=wX.1 this;refine⟨(f.offset,n.size)::pl,by simp[List.mapM_cons,J,e1],λi N n' E A=>?_⟩;cases i with
    |zero=>simp at E;subst E;rw[J]at A;cases A;rfl
    |succ i=>simpa using e2 i N n' (dJ E) A
 obtain⟨B,cs,O,Q,S⟩:=Z4 (D:=D) (ρ:=ρ) (nb:=s.b.length) (w:=w) (a:=a) (s:=s) (j.toArray[·]?) parts.toList I z.cells _ Z (λk i x G=>by
  obtain⟨f,n,x',e1,e2,M,e4⟩:=l2 k i x G;refine⟨f.offset,n.size,x',M,by simpa using F i f n (dJ e1) e2,hR.op e4 ?_⟩;simp only[ho,Op.operands,wB];exact⟨(i,x),wL G,rfl⟩) (yT V) hk
 refine .det (u:=.agg B) ?_ (.dat Q.agg) S rfl;have hb:P.built t (parts.map fun(i,x)=>(i,a.eval x)).toList=some B:=by unfold Program.built;simp only[T,X,U,H];rw[WS];exact O
 simp only[execOp,ho,tE,run_build w t _ B hb,tx];rfl
theorem zls{t e:TypeId}{n:Nat}{parts:Array (Nat×Operand)}{A:TypeInfo}{C:List PV}{B:List (Nat×Nat×PO)}(ho:o.op=.build t parts)(M:P.underlying t=some (.array n e))(N:P.info? e=some A)(hz:xg P t=some C)
 (O:Qp A.size parts.toList=some B) (hk:PK.q P s (.bd C B) K):QS P o D ρ s a w K:=by
 simp only[PK.q]at hk;obtain⟨i,z,I,J,rfl,L⟩:=qJ hz;obtain⟨Q,S⟩:=Zy O;obtain⟨j,U,F,G,H⟩:=Z4 (D:=D) (ρ:=ρ) (nb:=s.b.length) (w:=w) (a:=a) (s:=s) (λi=>some (i*A.size,A.size)) parts.toList B z.cells _ Q (λk i x y=>by
  obtain⟨T,E,e4⟩:=S k i x y;refine⟨_,_,T,E,rfl,hR.op e4 ?_⟩;simp only[ho,Op.operands,wB];exact⟨(i,x),wL y,rfl⟩) (yT L) hk
 refine .det (u:=.agg j) ?_ (.dat G.agg) H rfl;have hb:P.built t (parts.map fun(i,x)=>(i,a.eval x)).toList=some j:=by unfold Program.built;simp only[I,M,J,N];rw[WS];exact F
 simp only[execOp,ho,tE,run_build w t _ j hb,tx];rfl
end
def RowD(D:Qk)(w:World)(y:Nat)(o:List Value)(u:List (List PV)):Prop:=
 o.length=u.length*y/\(∀(i:Nat)(e:List PV),u[i]?=some e->e.length=y)/\(∀j,j<o.length->(o.getD j undef).oneCell'=true)/\∀(i:Nat)(e:List PV)(j:Nat)(p:PV),u[i]?=some e->e[j]?=some p->Dat D w (o.getD (i*y+j) undef) p
def RowD.mono{D':Qk}{w':World}{y:Nat}{A:List Value}{u:List (List PV)}(h:RowD D w y A u)(E:∀b o,D b o->D' b o)(F:∀b o x,D b o->w.cell? ⟨b,o,none⟩=some x->w'.cell? ⟨b,o,none⟩=some x):RowD D' w' y A u:=
 ⟨h.1,h.2.1,h.2.2.1,λi e j p B C=>(h.2.2.2 i e j p B C).mono E F⟩
def RowD.append{u:Nat}{A us:List Value}{y G:List (List PV)}(h:RowD D w u A y)(k:RowD D w u us G):RowD D w u (A++us) (y++G):=by
 have E:y.length*u=A.length:=h.1.symm;refine⟨by simp[h.1,k.1,WY],λi e o=>?_,λj C=>?_,λi e j p o F=>?_⟩
 .rcases wJ i y.length with hi|hi
  .rw[wh hi]at o;exact h.2.1 i e o
  .rw[V2 hi]at o;exact k.2.1 _ e o
 .rw[vw];rcases wJ j A.length with hi|hi
  .rw[wh hi,<-vw];exact h.2.2.1 j hi
  .rw[V2 hi,<-vw];exact k.2.2.1 _ (by simp at C;omega)
 .rw[vw];rcases wJ i y.length with hi|hi
  .rw[wh hi]at o;have B:=h.2.1 i e o;have C:j<u:=(by rw[<-B];exact(Zw.1 F).1);rw[wh (by rw[<-E];exact zej hi C),<-vw];exact h.2.2.2 i e j p o F
  .rw[V2 hi]at o;have H:A.length<=i*u+j:=(by rw[<-E];exact V1 (Wq _ hi) a8);rw[V2 H,<-vw];have:=k.2.2.2 _ e j p o F;rw[Nat.sub_mul]at this;rw[show i*u+j-A.length=i*u-y.length*u+j from by rw[E];have:=Wq u hi;omega];exact this
def jr{B b cap:Nat}{u:List Value}{o:List (List PV)}{A:Array Value}{e:TypeId}{fr:Nat×Nat}{k:Ow}(h:RowD D w B u o)(F:w.heap[b]?=some (.cells A e fr))(ht:∀j,j<u.length->A[j]?=some (u.getD j undef))
 (E:o.length<=cap) (G:cap<=maxLen) (hk:k=.z->cap=o.length) (C:∀j,j<u.length->D b j):Dat D w (.slice (some ⟨b,0,none⟩) o.length cap) (.sl o k):=
 .sl _ _ B _ _ b 0 (λj=>u.getD j undef) E hk G (λ_=>rfl) h.2.1 (λj y=>by
  rw[<-h.1]at y;refine⟨by simpa using C j y,?_,h.2.2.1 j y⟩;simp only[World.cell?,F,wn];simpa using ht j y) h.2.2.2
def Yl{B:Nat}{K:List (List PV)->Prop}:∀(l:List Operand)(E:List PO),Qu l=some E->(∀x∈l,∀F,po x=some F->Rel D ρ nb w (a.eval x) (s.ev F))->yP s B E K ->
 ∃C,K C/\C.length=l.length/\RowD D w B (l.flatMap λx=>(a.eval x).cells.toList) C/\∀x∈l,(a.eval x).cells.size=B
 |[],E,h,_,hq=>by cases h;exact⟨[],hq,rfl,⟨b6,λi e h=>by simp at h,λj h=>by simp at h,λi e j p h=>by simp at h⟩,b6⟩
 | x::l,E,h,hr,hq=>by
   simp only[Qu,Z3,ZZ]at h;obtain⟨F,Y,L,J,rfl⟩:=h;simp only[yP]at hq;obtain⟨M,⟨G,S,T⟩,H⟩:=xY hq (hr x b6 F Y);obtain⟨C,N,O,P,Q⟩:=Yl l L J (λy A=>hr y (by simp[A])) T;have U:=H.data S;have u:(a.eval x).cells.size=B:=(by rw[H.1];exact G);refine⟨_,N,by simp[O],?_,λy A=>?_⟩
   .have one:RowD D w B (a.eval x).cells.toList [M.map PV.sh]:=by
     refine⟨dJ u,λi e o=>?_,λj V=>?_,λi e j p o X=>?_⟩
     .have:i=0:=(by have:=(Zw.1 o).1;simpa using this);subst this;simp at o;subst o;simpa using G
     .have I:j<M.length:=(by rw[G,<-u];simpa using V);have:=(H.2 j _ (Zv I)).2;simpa using this
     .have:i=0:=(by have:=(Zw.1 o).1;simpa using this);subst this;simp at o;subst o;have:=(U.2 j p X).1;simpa using this
    have:=one.append P;simpa using this
   .rcases wi.1 A with rfl|A
    .exact u
    .exact Q y A
def X5{sz:Nat}:∀(l:List Value)(k:Nat)(done:List Value)(o:Array Value),(∀v∈l,v.cells.size=sz)->done.length=k*sz->o.size=(k+l.length)*sz->(∀j,j<done.length->o[j]?=some (done.getD j undef)) ->
 ∃w,Instr.fill (λi=>some (i*sz,sz)) o (l.zipIdx k |>.map fun(v,i)=>(i,v))=some w/\w.toList=done++l.flatMap λv=>v.cells.toList
 | [],k,done,o,_,h2,h3,h4=>by
   refine⟨o,rfl,?_⟩;simp only[Ux,wY];apply Uo;intro j;rcases wJ j done.length with A|A
   .have:=h4 j A;rw[Zv A];simpa[vw,Zv A]using this
   .rw[WU A,WU (by simp[h3];simp at h3;omega)]
 | v::l,k,done,o,h1,h2,h3,h4=>by
   have B:=h1 v b6;simp only[wv]at h3;have M:k*sz+sz<=o.size:=(by rw[h3,<-Nat.succ_mul];exact Wq _ a8);obtain⟨G,I⟩:=x6 (k*sz) v.cells.toList 0 o (by simp[B];omega);have e:v.cells.zipIdx.foldl (fun(C:Array Value) (c,j)=>C.setIfInBounds (k*sz+j) c) o=(v.cells.toList.zipIdx 0).foldl (fun(C:Array Value) (c,j)=>C.setIfInBounds (k*sz+j) c) o:=(by rw[<-Array.foldl_toList,tf]);rw[<-e]at G I;obtain⟨y,E⟩:∃c,v.cells.zipIdx.foldl (fun(C:Array Value) (c,j)=>C.setIfInBounds (k*sz+j) c) o=c:=⟨_,rfl⟩;rw[E]at G I;obtain⟨w,K,L⟩:=X5 l (k+1) (done++v.cells.toList) y (λu N=>h1 u (by simp[N])) (by simp[h2,B,WY]) (by rw[G,h3];congr 1;omega) (λj A=>by
    have F:j<y.size:=(by rw[G];simp[h2,B]at A;omega);have J:=I j;rw[wu,Wd F,WP]at J;rw[Wd F,J];congr 1;simp only[ud];rw[vw (l:=done++_)];rcases wJ j done.length with H|H
    .rw[Vq a8,wh H,<-vw,wu,h4 j H];rfl
    .rw[vD (by simp[B];simp[B]at A;omega),V2 H,vw,h2])
   refine⟨w,?_,by rw[L];simp⟩;simp only[List.zipIdx_cons,Wx,Instr.fill];rw[Vq (by simp[B];omega),E];exact K
section
variable {K:PV->Prop}(hR:Rd D ρ s (zB a) (zA o) w)
include hR
theorem KF{t e:TypeId}{n:Nat}{parts:Array (Nat×Operand)}{A:TypeInfo}{zs:List PV}{ps:List PO}(ho:o.op=.buildSlice t n parts)(h1:P.underlying t=some (.slice e))(M:P.info? e=some A)(hz:xg P e=some zs)
 (hp:Qu (parts.toList.map (·.2))=some ps) (hi:parts.toList.map (·.1)=List.range n) (hn:n*A.size<=16777216) (ab:n<=maxLen) {N:List (List PV)->Prop} (hk:yP s A.size ps N) :
 ∃(C:List (List PV)) (u:Array Value),N C/\C.length=n/\(execOp a.eval o).run P w=.ok (.value (.slice (some ⟨w.heap.size,0,none⟩) n n)) (w.alloc (.cells u e))/\RowD D w A.size u.toList C/\∀j,j<u.toList.length->u[j]?=some (u.toList.getD j undef):=by
 obtain⟨i,z,g1,g2,rfl,g4⟩:=qJ hz;rw[M]at g1;cases g1;have F:parts.toList.length=n:=by have:=W8 List.length hi;simpa using this
 obtain⟨C,k1,k2,k3,k4⟩:=Yl (D:=D) (ρ:=ρ) (nb:=s.b.length) (w:=w) (a:=a) (s:=s) _ _ hp (λx hx x' Y=>hR.op Y (by simpa[ho,Op.operands]using hx)) hk;have X:parts.toList.map (fun(i,x)=>(i,a.eval x))=((parts.toList.map λy=>a.eval y.2).zipIdx 0).map fun(v,i)=>(i,v):=by
  apply Uo;intro j;rcases wJ j parts.toList.length with E|E
  .have S:(parts.toList.map (·.1))[j]?=(List.range n)[j]?:=(by rw[hi]);rw[wk,Zv E,uI a8]at S;simp at S;simp[Zv E,List.getElem?_zipIdx];have H:j<parts.size:=(dJ E);simp[H,S]
  .rw[WU (dJ E),WU (dJ E)]
 have U:C.length=n:=by rw[k2];simpa using F
 have B:∀L:Array Value,L.size=n*A.size->∃u,Instr.fill (λi=>some (i*A.size,A.size)) L (parts.toList.map fun(i,x)=>(i,a.eval x))=some u/\u.toList=(parts.toList.map λy=>a.eval y.2).flatMap λv=>v.cells.toList:=λL T=>by
  obtain⟨c',e1,e2⟩:=X5 (sz:=A.size) (parts.toList.map λy=>a.eval y.2) 0 [] L (λv hv=>by
   simp only[wB]at hv;obtain⟨y,hy,rfl⟩:=hv;exact k4 _ (wB.2 ⟨y,hy,rfl⟩)) b6 (by rw[T];simp only[ww,F,wn]) (λj E=>by simp at E)
  rw[<-X]at e1;exact⟨c',e1,dJ e2⟩
 have fin:∀u:Array Value,u.toList=((parts.toList.map λy=>a.eval y.2).flatMap λv=>v.cells.toList)->(execOp a.eval o).run P w=.ok (.value (.slice (some ⟨w.heap.size,0,none⟩) n n)) (w.alloc (.cells u e)) ->
  ∃(C:List (List PV)) (u:Array Value),N C/\C.length=n/\(execOp a.eval o).run P w=.ok (.value (.slice (some ⟨w.heap.size,0,none⟩) n n)) (w.alloc (.cells u e))/\RowD D w A.size u.toList C/\∀j,j<u.toList.length->u[j]?=some (u.toList.getD j undef):=by
  intro u J hr;have V:(List.map (λx=>x.snd) parts.toList).flatMap (λx=>(a.eval x).cells.toList)=u.toList:=(by rw[J];simp[Uc]);rw[V]at k3;have K:∀j,j<u.toList.length->u[j]?=some (u.toList.getD j undef):=λj E=>by have H:j<u.size:=(dJ E);simp[H]
  exact⟨C,u,k1,U,hr,k3,K⟩
 by_cases O:n*A.size=0
 .obtain⟨u,G,J⟩:=B ((Array.range (n*A.size)).map λx=>(#[]:Array Value)[x%(#[]:Array Value).size]!) b6;refine fin u J ?_;have I:¬(16777216<n*A.size):=a8;rw[<-WS]at G;simp[execOp,ho,Instr.buildSlice,tG h1,zE M,I,O,newRow]at G⊢;simp[G]
 .obtain⟨u,G,J⟩:=B ((Array.range (n*A.size)).map λx=>z.cells[x%z.cells.size]!) b6;refine fin u J ?_;have I:¬(16777216<n*A.size):=a8;rw[<-WS]at G;have Z:(zeroValue e).run P w=.ok z w:=(by simp[zeroValue,typeInfo,M,g2]);have Q:¬(n=0\/A.size=0):=(by rw[<-Nat.mul_eq_zero];exact O);simp[execOp,ho,Instr.buildSlice,tG h1,zE M,I,Q,Z,newRow]at G⊢;simp[G];exact λh=>absurd h O
theorem znk{t e:TypeId}{n:Nat}{parts:Array (Nat×Operand)}{C:TypeInfo}{Q:List PV}{F:List PO}(ho:o.op=.buildSlice t n parts)(G:P.underlying t=some (.slice e))(H:P.info? e=some C)(hz:xg P e=some Q)
 (J:Qu (parts.toList.map (·.2))=some F) (hi:parts.toList.map (·.1)=List.range n) (I:n*C.size<=16777216) (A:n<=maxLen) (hk:PK.q P s (.bs C.size F) K):QS P o D ρ s a w K:=by
 simp only[PK.q]at hk;obtain⟨S,u,M,B,L,N,y⟩:=KF hR ho G H hz J hi I A hk;have hb:Below w.heap.size w (w.alloc (.cells u e)):=(tr _ _).alloc (Zp _) _;have O:=N.mono (D':=λb o=>D b o\/w.heap.size<=b) (w':=w.alloc (.cells u e)) (λ_ _ h=>.inl h) λb o x _ E=>qa hb (qF E) E;refine⟨_,M,rfl,zlD L hb (.dat ?_) λ_ _ _=>trivial⟩;have:=jr (cap:=n) (k:=.z) (e:=e) (fr:=(0,0)) O (tn w (.cells u e)) y a8 A (λ_=>a8) (λj _=>.inr (Zp _));rw[B]at this;exact this
end
section
variable {K:PV->Prop}(hR:Rd D ρ s (zB a) (zA o) w)
include hR
theorem kf{j:List Operand}{B:List PO}(u:Qu j=some B)(I:∀x∈j,x∈o.op.operands.toList)(C:zY (B.map λx=>(s.ev x).sh)=true):
 B.length=j.length/\∀(i:Nat) p,(B.map λx=>(s.ev x).sh)[i]?=some p->Dat D w ((j.map a.eval).getD i undef) p:=by
 obtain⟨G,H⟩:=kz u;refine⟨G,λi p u=>?_⟩;have E:=u;simp only[wk,ZZ]at u;obtain⟨J,y,rfl⟩:=u;have hi:i<j.length:=by rw[<-G];exact(Zw.1 y).1
 obtain⟨K,A,F⟩:=H i _ (Zv hi);rw[y]at A;cases A;have e:(j.map a.eval).getD i undef=a.eval j[i]:=by simp[hi]
 rw[e];unfold zY at C;rw[wK]at C;exact((hR.op F (I _ (Y1 hi))).data (by have:=C _ (wL E);rwa[PV.sh_isD]at this)).sh
omit hR in
theorem KG{f:FuncId}{C:List PV}{r:PV}{B:Array Value}(y:GL D w)(M:Cn P f C r)(F:B.size=C.length)(N:∀(i:Nat) p,C[i]?=some p->Dat D w (B.getD i undef) p)(T:(execOp a.eval o).run P w=.ok (.enter f B) w):
 ∀(next:Act->World->Prop)(Q:Exit->Act->World->Prop),(∀u A j,Below w.heap.size w A->(∀b o,D b o/\b<w.heap.size->j b o)->(∀b o,j b o->(D b o/\b<w.heap.size)\/w.heap.size<=b)->(∀b o,j b o->b<A.heap.size)->Dat j A u r->yW j (λk=>w.heap.size<=k) A u r->next (a.put o.dst u) A)->o.wp P a w next Q:=by
 intro next Q O
 show o.upon P a next Q ((execOp a.eval o).run P w)
 rw[T,t8];have E:∀(i:Nat) p,C[i]?=some p->Dat (λb o=>D b o/\b<w.heap.size) w (B.getD i undef) p:=λi p S=>(N i p S).restrict;refine(M.2 _ w B (λx G=>⟨⟨(y x G).1,tp w ⟨0,0,_⟩ (y x G).2⟩,(y x G).2⟩) (λb o h=>h.2) F E).mono ?_;rintro e A ⟨v,j,rfl,hb,H,I,J,K,L⟩;exact O v A j hb H I J K L
omit hR in
theorem zcb{f:FuncId}{B:List PV}{r:PV}{C:Array Value}(y:GL D w)(G:Cn P f B r)(A:C.size=B.length)(H:∀(i:Nat) p,B[i]?=some p->Dat D w (C.getD i undef) p)(J:(execOp a.eval o).run P w=.ok (.enter f C) w)(hk:K r.strip):QS P o D ρ s a w K:=by
 refine⟨r.strip,hk,r.strip_own,λnext Q I=>KG y G A H J next Q λu L M hb N E O F S=>I u L hb ?_ λ_ _ _=>xA r.strip_isN⟩;refine(Rel.dat F.strip).mono (λb o h=>?_) (λ_ _ _ _ h=>h) (Zp _) λ_ _=>rfl;rcases E b o h with j|j
 .exact .inl j.1
 .exact .inr j
omit hR in
theorem Jk{f:FuncId}{u:List Operand}{c:Call}(ho:o.op=.call c)(A:c.callee=.value (.func f))(y:c.args.toList=u)(B:∀j w,(callFunc f j).run P w=.ok (.enter f j) w):
 (execOp a.eval o).run P w=.ok (.enter f (u.map a.eval).toArray) w:=by
 have e:c.args.map a.eval=(u.map a.eval).toArray:=WD.1 (by rw[WS,y]);have e2:a.eval (.func f)=.func (.func f) #[] #[]:=rfl;simp only[execOp,ho,resolve,A,e,e2,Deferred.ofValue,tE,tH,tx,invoke];rw[show (#[]++(u.map a.eval).toArray++#[]:Array Value)=(u.map a.eval).toArray from by simp];exact B _ _
theorem znl{f:FuncId}{C:List Operand}{B:List PO}{c:Call}(ho:o.op=.call c)(A:c.callee=.value (.func f))(y:c.args.toList=C)(j:Qu C=some B)(hk:PK.q P s (.ca f B) K):QS P o D ρ s a w K:=by simp only[PK.q]at hk;obtain⟨r,u,G,hk⟩:=hk;obtain⟨E,F⟩:=kf hR j (λx H=>by rw[ho];simp only[Op.operands,Call.operands,A,WT,wC,y];exact .inr H) G;refine zcb hR.gl u (by simp[E]) (λi p j=>?_) (Jk ho A y u.1) hk;have:=F i p j;simpa using this
theorem znm{t:Tmp}{J:List Operand}{I:List PO}{c:Call}(ho:o.op=.call c)(M:c.callee=.value (.tmp t))(S:c.args.toList=J)(j:Qu J=some I)(hk:PK.q P s (.cl (.t t) I) K):QS P o D ρ s a w K:=by
 simp only[PK.q]at hk;have T:=hR.op (y:=.tmp t) (y':=.t t) rfl (by rw[ho];simp[Op.operands,Call.operands,M]);split at hk
 .rename_i f fs cs e;rw[e]at T;obtain⟨r,Q,E,hk⟩:=hk;have u:fs.all PV.isD=true/\zY (I.map λx=>(s.ev x).sh)=true/\cs.all PV.isD=true:=by unfold zY at E⊢;simp only[List.all_append,V0]at E;exact⟨E.1.1,E.1.2,E.2⟩
  obtain⟨H,L⟩:=kf hR j (λx Z=>by rw[ho];simp only[Op.operands,Call.operands,M,WT,wC,S];exact .inr Z) u.2.1;have N:∃B C,a.eval (.tmp t)=.func (.func f) B C/\B.size=fs.length/\C.size=cs.length/\(∀(i:Nat) p,fs[i]?=some p->Dat D w (B.getD i undef) p)/\(∀(i:Nat) p,cs[i]?=some p->Dat D w (C.getD i undef) p):=by
   have F:(PV.fn (.func f) fs cs).isD=true:=by
    have G:∀l:List PV,l.all PV.isD=true->l.all (λp=>!p.isB)=true:=λl h=>by
     rw[wK]at h⊢;intro p j;have:=h p j;cases p<;>first|rfl|cases this
    simp only[PV.isD,G _ u.1,G _ u.2.2,Bool.and_self]
   have:=T.data F;generalize a.eval (.tmp t)=z at this⊢;cases this with
   |fn f B C fs cs H L h3 h4=>exact⟨B,C,rfl,H,L,h3,h4⟩
  obtain⟨B,C,X,O,s2,U,V⟩:=N;have Y:(execOp a.eval o).run P w=.ok (.enter f (B++(J.map a.eval).toArray++C)) w:=(by have e:c.args.map a.eval=(J.map a.eval).toArray:=WD.1 (by rw[WS,S]);simp only[execOp,ho,resolve,M,e,X,Deferred.ofValue,tE,tH,tx,invoke];exact Q.1 _ _);refine zcb hR.gl Q (by simp[H,O,s2]) (λi p j=>?_) Y hk;rw[wu];rcases wJ i (fs.length+I.length)with hi|hi
  .rw[wh a9]at j;rw[WK a9];rcases wJ i fs.length with A|A
   .rw[wh A]at j;rw[WK a8];have:=U i p j
    rwa[wu]at this
   .rw[V2 A]at j;rw[uY a8,O];have:=L _ p j;simpa[vw]using this
  .rw[V2 a9]at j;rw[uY a9];have:=V _ p j;rw[wu]at this;simpa[O,H]using this
 .exact hk.elim
theorem zpU{t:Tmp}{m:String}{j:List Operand}{F:List PO}{c:Call}(ho:o.op=.call c)(u:c.callee=.invoke (.tmp t) m)(H:c.args.toList=j)(X:Qu j=some F)(hk:PK.q P s (.iv (.t t) m F) K):QS P o D ρ s a w K:=by
 simp only[PK.q]at hk;have I:=hR.op (y:=.tmp t) (y':=.t t) rfl (by rw[ho];simp[Op.operands,Call.operands,u]);split at hk
 .rename_i T p e;rw[e]at I;obtain⟨f,V,r,G,A,hk⟩:=hk;have B:p.isD=true/\zY (F.map λx=>(s.ev x).sh)=true:=by unfold zY at A⊢;simp only[List.all_cons,V0,PV.sh_isD]at A;exact A
  obtain⟨O,Q⟩:=kf hR X (λx Y=>by rw[ho];simp only[Op.operands,Call.operands,u,WT,wC,H];exact .inr Y) B.2;have C:∃v,a.eval (.tmp t)=.iface T v/\Dat D w v p:=by
   have:=I.data (by simp[PV.isD]);generalize a.eval (.tmp t)=z at this⊢;cases this with
   |ifc t x p h=>exact⟨x,rfl,h⟩
  obtain⟨v,M,J⟩:=C;have N:(execOp a.eval o).run P w=.ok (.enter f (#[v]++(j.map a.eval).toArray)) w:=by
   have e:c.args.map a.eval=(j.map a.eval).toArray:=WD.1 (by rw[WS,H]);have L:(#[Value.iface T v]++(j.map a.eval).toArray).extract 1 (#[Value.iface T v]++(j.map a.eval).toArray).size=(j.map a.eval).toArray:=by
    apply Array.ext
    .simp
    .intro i S U;simp
   have e4:(#[Value.iface T v]++(j.map a.eval).toArray)[0]?=some (.iface T v):=b6;simp only[execOp,ho,resolve,u,e,M,tE,tH,tx,invoke,e4,L,V v,G.1]
  refine zcb hR.gl G (by simp[O]) (λi q E=>?_) N hk;rw[wu];cases i with
  |zero=>simp only[Uk,wN]at E;subst E;simpa using J.sh
  |succ i=>have:=Q i q (dJ E);simpa[vw]using this
 .exact hk.elim
end
end
section
variable {P:Program}{o:Oper}{D:Qk}{ρ:Nat->Nat}{nb:Nat}{s:PS}{a:Act}{w:World}
def sl_row{u:Value}{A:List (List PV)}{k:Ow}{sz:Nat}(h:Rel D ρ nb w u (.sl A k))(hs:∀e∈A,e.length=sz):∃(F:Option Addr) (o:Nat) (P:List Value),u=.slice F A.length o/\A.length<=o/\o<=maxLen/\(k=.z->o=A.length) /\
 RowD D w sz P A/\(A≠[]->∃b B,F=some ⟨b,B,none⟩/\∀j v,P[j]?=some v->D b (B+j)/\w.cell? ⟨b,B+j,none⟩=some v):=by
 obtain⟨F,o,C,b,B,f,e1,M,hz,N,S,E,H,T⟩:=h.inv_sl;cases A with
 |nil=>exact⟨F,o,[],e1,M,N,hz,⟨b6,λi e h=>by simp at h,λj h=>by simp at h,λi e j p h=>by simp at h⟩,λh=>absurd rfl h⟩
 | cons e A=>
   have L:C=sz:=(E 0 e rfl).symm.trans (hs e b6);subst L;refine⟨F,o,(List.range ((e::A).length*C)).map f,e1,M,N,hz,⟨b6,E,λj U=>?_,λi Q j p I O=>?_⟩,λK=>⟨b,B,S K,λj v G=>?_⟩⟩
   .have y:j<(e::A).length*C:=(dJ U);rw[vw,wk,uI y];exact(H j y).2.2
   .have J:=zej (Zw.1 I).1 (show j<C by rw[<-E _ _ I];exact(Zw.1 O).1);rw[vw,wk,uI J];exact T i Q j p I O
   .have y:j<(e::A).length*C:=(by have:=(Zw.1 G).1;simpa using this);rw[wk,uI y]at G;simp at G;subst G;exact⟨(H j y).1,(H j y).2.1⟩
def Xv{C:Nat}{y:List Value}{A:List (List PV)}(h:RowD D w C y A):∀u∈y,u.oneCell'=true:=λu B=>by
 obtain⟨j,o⟩:=wI B;have:=h.2.2.1 j (Zw.1 o).1
 rwa[vw,o]at this
structure ApOp(P:Program)(o:Oper)(x y:Operand)(t e:TypeId)(i:TypeInfo)(z:Value):Prop where
 ho:∃c,o.op=.call c/\c.callee=.builtin .append/\c.args=#[x,y]/\c.argTypes=#[t,t]
 ht:P.underlying t=some (.slice e)
 hi:P.info? e=some i
 hz:i.zero=some z
 hzs:z.cells.size=i.size
 hs:0<i.size
 hb:0<i.bytes
def ApOp.run{x y:Operand}{t e:TypeId}{i:TypeInfo}{z:Value}(h:ApOp P o x y t e i z){u v r:Value}{A:World}(F:a.eval x=u)(G:a.eval y=v)(E:(Builtin.append_ #[t,t] o.type #[u,v]).run P w=.ok r A):
 (execOp a.eval o).run P w=.ok (.value r) A:=by
 obtain⟨c,ho,C,B,j⟩:=h.ho;simp only[execOp,ho,resolve,C,B,j,uf,Wx,W6,F,G,invoke,builtin,tE,tH,tx,E]
def vl{t ty e:TypeId}{i:TypeInfo}(ht:P.underlying t=some (.slice e))(hi:P.info? e=some i)(u o:Option Addr)(n j c:Nat)(y:n<=j):
 (Builtin.append_ #[t,t] ty #[.slice u n j,.slice o 0 c]).run P w=.ok (.slice u n j) w:=by
 cases u<;>cases o<;>simp[Builtin.append_,tG ht,zE hi,Builtin.lenOf,y,Builtin.firstCells,loadCells,loadCellsFrom,storeCells]
def yJ{t ty e:TypeId}{i:TypeInfo}{z:Value}(ht:P.underlying t=some (.slice e))(hi:P.info? e=some i)(hz:i.zero=some z)(hzs:z.cells.size=i.size)(hb:0<i.bytes){ad:Option Addr}{J:Addr}{n m cap c:Nat}{olds o:List Value}(y:olds.length=n*i.size)(K:o.length=m*i.size)
 (B:n≠0->∃b,ad=some b/\∀j v,olds[j]?=some v->w.cell? (b.add j)=some v) (I:ad=none->cap=0) (A:∀j v,o[j]?=some v->w.cell? (J.add j)=some v) (G:cap<n+m) (F:(n+m)*i.bytes<=140737488355328) :
 ∃u L,(Builtin.append_ #[t,t] ty #[.slice ad n cap,.slice (some J) m c]).run P w=.ok (.slice (some ⟨w.heap.size,0,none⟩) (n+m) u) (w.drew.alloc (.cells L e))/\n+m<=u/\u<=maxLen/\L.size=u*i.size/\∀j,j<(olds++o).length->L[j]?=some ((olds++o).getD j undef):=by
 have T:n+m<=9223372036854775807:=by have:=Nat.le_mul_of_pos_right (n+m) hb;omega
 have H:=T1 (old:=cap) (need:=n+m) a8 F;have get:∀(u:Nat)(l:List Value),(∀j,j<l.length->(l.toArray++Builtin.zeroCells z.cells u)[j]?=some (l.getD j undef)):=λu l j E=>by rw[WK (dJ E)];simp[E]
 have N:n+m<=maxLen:=c8
 cases ad with
 | none=>
   have M:=I rfl;subst M;have O:n=0:=by
    rcases WC n with h|h
    .exact h
    .obtain⟨b,e,_⟩:=B a8;cases e
   subst O;have ho:olds=[]:=wH (dJ y);subst ho;have Q:=run_append_nil (P:=P) w t ty e i z ht hi hz J m c o K A a8 a8 (by simp only[wn]at F;omega);refine⟨_,_,dJ Q,by simpa using TI w m 0 e,TA w m 0 e a8,?_,λj E=>by simpa using get _ o j (dJ E)⟩;have:=TI w m 0 e;simp only[Array.size_append,WA,size_zeroCells,hzs,K,<-WY];congr 1;omega
 | some b=>
   have C:∀j v,olds[j]?=some v->w.cell? (b.add j)=some v:=by
    rcases WC n with h|h
    .subst h;have ho:olds=[]:=wH (dJ y);subst ho;intro j v U;simp at U
    .obtain⟨b2,e,S⟩:=B a8;cases e;exact S
   have Q:=run_append_grow (P:=P) w t ty e i z ht hi hz b n cap olds y C J m c o K A G a8 H;refine⟨_,_,Q,TI w (n+m) cap e,TA w (n+m) cap e N,?_,λj E=>?_⟩
   .have:=TI w (n+m) cap e;simp only[Array.size_append,WA,size_zeroCells,hzs,K,y,<-WY];congr 1;omega
   .have:=get (grownCap w (n+m) cap e-(n+m)) (olds++o) j E;rw[<-this];simp
def zjv{x y:Operand}{t e:TypeId}{i:TypeInfo}{z:Value}(h:ApOp P o x y t e i z){B A:List (List PV)}{k:Ow}(hx:Rel D ρ nb w (a.eval x) (.sl B .z))(hy:Rel D ρ nb w (a.eval y) (.sl A k))
 (h1:∀e∈B,e.length=i.size) (h2:∀e∈A,e.length=i.size) (I:(B.length+A.length)*i.bytes<=140737488355328) :
 (A=[]/\(execOp a.eval o).run P w=.ok (.value (a.eval x)) w)\/∃u E G,(execOp a.eval o).run P w=.ok (.value (.slice (some ⟨w.heap.size,0,none⟩) (B.length+A.length) u)) (w.drew.alloc (.cells E e))/\(B++A).length<=u/\u<=maxLen/\E.size=u*i.size /\
   RowD D w i.size G (B++A)/\∀j,j<G.length->E[j]?=some (G.getD j undef):=by
 obtain⟨V,H,G,e1,c1,c2,Y,T,N⟩:=sl_row hx h1;obtain⟨X,u,M,e2,d1,d2,_,U,Z⟩:=sl_row hy h2;have F:=Y rfl;by_cases C:A=[]
 .subst C;left;refine⟨rfl,?_⟩;rw[e1];exact h.run e1 e2 (vl h.ht h.hi _ _ _ _ _ a8)
 .right;obtain⟨b',S,rfl,g3⟩:=Z C;have Q:0<A.length:=wV.2 C;obtain⟨cp,E,hr,k1,k2,k3,k4⟩:=yJ (P:=P) (w:=w) (ty:=o.type) (c:=u) (ad:=V) (cap:=H) h.ht h.hi h.hz h.hzs h.hb T.1 U.1 (λJ=>by
   obtain⟨b,L,rfl,g4⟩:=N (by intro e;subst e;simp at J);exact⟨_,rfl,λj v K=>by rw[zh];exact(g4 j v K).2⟩) (λJ=>by
   by_cases O:B=[]
   .subst O;simpa using F
   .obtain⟨b,L,e,_⟩:=N O;rw[J]at e;cases e) (λj v K=>by rw[zh];exact(g3 j v K).2) a8 I
  exact⟨cp,E,G++M,h.run e1 e2 hr,dJ k1,k2,k3,T.append U,k4⟩
section
variable {K:PV->Prop}(hR:Rd D ρ s (zB a) (zA o) w)
include hR
theorem znj{x y:Operand}{O Q:PO}{t e:TypeId}{i:TypeInfo}{z:Value}(h:ApOp P o x y t e i z)(F:po x=some O)(hy:po y=some Q)(hk:PK.q P s (.ap O Q i.size i.bytes) K):QS P o D ρ s a w K:=by
 simp only[PK.q]at hk;obtain⟨c,ho,N,C,_⟩:=h.ho;have u:=hR.op F (by rw[ho];simp[Op.operands,Call.operands,N,C]);have E:=hR.op hy (by rw[ho];simp[Op.operands,Call.operands,N,C]);split at hk
 .rename_i es ex;obtain⟨ab,k,ey,h1,h2,h3,M⟩:=y8 hk;rw[ex]at u;rw[ey]at E;rcases zjv h u E h1 h2 h3 with⟨rfl,H⟩|⟨A,B,vs,H,k1,k2,k3,k4,k5⟩
  .obtain⟨J,G,sz,b,I,f,L,S,T,U,V,X,Y,Z⟩:=u.inv_sl;refine⟨_,M,rfl,zby H ?_ λ_ _ _=>.inl ⟨J,by rw[L,T rfl];simp⟩⟩;rw[wY,L];exact .dat (.sl J G sz es _ b I f S (λh=>by cases h) U V X Y Z)
  .have hb:Below w.heap.size w (w.drew.alloc (.cells B e)):=(show Below w.heap.size w w.drew from ⟨rfl,rfl,rfl,Zp _,λ_ _=>rfl⟩).alloc (Zp _) _;refine⟨_,M,rfl,zlD H hb (.dat ?_) λ_ _ hN=>.inr ⟨w.heap.size,A,B,e,hN.1,b6,tn w.drew (.cells B e),k3⟩⟩;have k6:=k4.mono (D':=λb o=>D b o\/w.heap.size<=b) (w':=w.drew.alloc (.cells B e)) (λ_ _ h=>.inl h) λb o x _ F=>qa hb (qF F) F;have:=jr (k:=.n i.size) (e:=e) (fr:=(0,0)) k6 (tn w.drew (.cells B e)) k5 k1 k2 (λh=>by cases h) (λj _=>.inr (Zp _));simpa using this
 .exact hk.elim
end
end
end Go.Proofs.YtmpnbdhadjfbhaaGreatDoor
