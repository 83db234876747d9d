import Derived.ChangeKeysEq
import Derived.Laws.Concat
import Derived.Test.YtmpnbdhadjfbhaaGreatDoorB4
set_option linter.all false
namespace Go.Proofs.YtmpnbdhadjfbhaaGreatDoor
def c8{p:Prop}(h:p:=by unfold maxLen;omega):p:=h
def tJ:=@Go.Sem.run_pure
def Tc:=@Go.Oper.upon_enter
def TD:=@Go.grownCap_le_maxLen
def TL:=@Go.grownCap_ge
def T4:=@Go.growslice_fits
open Go.RowKit
section
variable {P:Program}{o:Oper}{D:xT}{ρ:Nat->Nat}{nb:Nat}{s:PS}{a:Act}{w:World}
def QC{o:Oper}{t:Tmp}(h:Operand.tmp t∈o.op.operands.toList):t∈zA o:=by unfold zA;exact uh.2 ⟨_,h,rfl⟩
def Rd.op(h:Rd D ρ s (zB a) (zA o) w){y:Operand}{y':PO}(u:po y=some y')(j:y∈o.op.operands.toList):Rel D ρ s.b.length w (a.eval y) (s.ev y'):=
 h.at u λt e=>QC (by rw[<-e];exact j)
def kz:∀{l:List Operand}{j:List PO},Qu l=some j->j.length=l.length/\∀(i:Nat)(y:Operand),l[i]?=some y->∃o,j[i]?=some o/\po y=some o
 |[],j,h=>by cases h;exact⟨rfl,λi y h=>by simp at h⟩
 | x::r,j,h=>by
   simp only[Qu,Z3,ZZ]at h;obtain⟨y,B,l,A,rfl⟩:=h;obtain⟨u,w⟩:=kz A;refine⟨by simp[u],λi z hz=>?_⟩;cases i with
   |zero=>simp at hz;subst hz;exact⟨y,rfl,B⟩
   |succ i=>simpa using w i z (dK hz)
def QS(P:Program)(o:Oper)(D:xT)(ρ:Nat->Nat)(s:PS)(a:Act)(w:World)(K:PV->Prop):Prop:=∃p,K p/\p.own=none/\Qok P o s ρ D a w p
def QS.det{K:PV->Prop}{u:Value}{p:PV}(A:(execOp a.eval o).run P w=.ok (.value u) w)(h:Rel D ρ s.b.length w u p)(hk:K p)(ho:p.own=none)(j:p.isN=false:=by rfl):QS P o D ρ s a w K:=⟨p,hk,ho,zby A h λ_ _ _=>xA j⟩
def QS.strip{K:PV->Prop}{u:Value}{p:PV}(j:(execOp a.eval o).run P w=.ok (.value u) w)(h:Rel D ρ s.b.length w u p)(hk:K p.strip):QS P o D ρ s a w K:=⟨p.strip,hk,p.strip_own,zby j h.strip λ_ _ _=>xA p.strip_isN⟩
section
variable {K:PV->Prop}(hR:Rd D ρ s (zB a) (zA o) w)
include hR
theorem zlz{x:Operand}{H:PO}(ho:o.op=.move x\/o.op=.assign x)(E:po x=some H)(hk:PK.q P s (.mv H) K):QS P o D ρ s a w K:=by
 have A:(execOp a.eval o).run P w=.ok (.value (a.eval x)) w:=by rcases ho with ho|ho<;>simp[execOp,ho]
 have J:x∈o.op.operands.toList:=by rcases ho with ho|ho<;>simp[ho,Op.operands]
 have hrel:=hR.op E J;cases H with
 | t i=>
   have F:x=.tmp i:=by cases x<;>first|(cases E;rfl)|cases E
   subst F;simp only[PK.q]at hk;rcases PV.pre_or i (s.get i)with e|⟨C,n,m,e1,e2⟩
   .rw[e]at hk;exact .strip A hrel hk
   .rw[e2]at hk;have j:Rel D ρ s.b.length w (zB a i) (.sl C (.r n m)):=e1▸hrel;obtain⟨I,u,sz,b,G,f,B,L,U,M,N,O,Q,S⟩:=j.inv_sl;refine⟨_,hk,rfl,zby A ?_ λX V T=>⟨I,C.length,u,?_,?_⟩⟩
    .show Rel D ρ s.b.length w (zB a i) _;rw[B];exact .dat (.sl I u sz C _ b G f L (λh=>by cases h) M N O Q S)
    .have:=(T.2 i (QC J)).2 (by rw[e1];simp[PV.own]);rw[this,B]
    .exact B
 |c p=>exact .strip A hrel hk
 |f p=>exact .strip A hrel hk
theorem zny{c x y:Operand}{j u A:PO}(ho:o.op=.pick c x y)(E:po c=some j)(F:po x=some u)(G:po y=some A)
 (hk:qV (s.ev j) λb=>(b=true->K (s.ev u).strip)/\(b=false->K (s.ev A).strip)):QS P o D ρ s a w K:=by
 obtain⟨b,e1,_,B,C⟩:=xE hk (hR.op E (by simp[ho,Op.operands]));cases b with
 |true=>exact .strip (by simp[execOp,ho,e1,asBool]) (hR.op F (by simp[ho,Op.operands])) (B rfl)
 |false=>exact .strip (by simp[execOp,ho,e1,asBool]) (hR.op G (by simp[ho,Op.operands])) (C rfl)
theorem zlv{op:BinOp}{t G:TypeId}{x y:Operand}{j A:PO}(ho:o.op=.binOp op t x y G)(E:po x=some j)(F:po y=some A)(hk:QB op (s.ev j) (s.ev A) K):QS P o D ρ s a w K:=by obtain⟨r,B,C⟩:=zdX (P:=P) t x y hk (hR.op E (by simp[ho,Op.operands])) (hR.op F (by simp[ho,Op.operands]));refine .det (u:=r) ?_ (.dat (.v _)) C rfl;simp only[execOp,ho,tH,B,tB,tJ]
theorem zlu{op:BinOp}{t G:TypeId}{x y:Operand}{u A:PO}(ho:o.op=.binOp op t x y G)(j:op=.eql\/op=.neq)(ht:P.underlying t=some .bool)(E:po x=some u)(F:po y=some A)
 (hk:qV (s.ev u) λa=>qV (s.ev A) λb=>K (.v (.bool ((op == .neq) != (a == b))))):QS P o D ρ s a w K:=by
 obtain⟨m,e1,_,B⟩:=xE hk (hR.op E (by simp[ho,Op.operands]));obtain⟨n,e2,_,C⟩:=xE B (hR.op F (by simp[ho,Op.operands]));refine .det ?_ (.dat (.v _)) C rfl;have hb:=JD (P:=P) (w:=w) ht m n;rcases j with rfl|rfl
 .simp only[execOp,ho,tH,e1,e2,kh,tB,tJ,binOp,hb];cases m<;>cases n<;>rfl
 .simp only[execOp,ho,tH,e1,e2,kh,tB,tJ,binOp,hb];cases m<;>cases n<;>rfl
theorem zpV{op:BinOp}{t H:TypeId}{x y:Operand}{C E:PO}(ho:o.op=.binOp op t x y H)(B:zoQ op=true)(F:po x=some C)(G:po y=some E)(hk:PK.q P s (.sb op C E) K):QS P o D ρ s a w K:=by
 have u:=hR.op F (by simp[ho,Op.operands]);have A:=hR.op G (by simp[ho,Op.operands]);simp only[PK.q]at hk;unfold qsb at hk;split at hk
 .rename_i p q ex ey;rw[ex]at u;rw[ey]at A;have e1:=u.v_inv;have e2:=A.v_inv;obtain⟨hs,hk⟩:=hk;have j:=run_string_add_sum (P:=P) (w:=w) p q hs;cases op<;>first
   |exact absurd B b8
   |(refine .det ?_ (.dat (.v _)) hk rfl;simp[execOp,ho,e1,e2,eqGuard,binOp,j];done)
   |(refine .det ?_ (.dat (.v _)) hk rfl;simp[execOp,ho,e1,e2,eqGuard,binOp,Op.stringOp])
 .exact hk.elim
theorem zlB{op:BinOp}{t E:TypeId}{x:Operand}{B:PO}{ms}(ho:o.op=.binOp op t x (.const .nilIface) E)(j:op=.eql\/op=.neq)(ht:P.underlying t=some (.interface ms))(C:po x=some B)
 (hk:PK.q P s (.nil (op == .neq) B) K):QS P o D ρ s a w K:=by
 have u:=hR.op C (by simp[ho,Op.operands]);simp only[PK.q]at hk;split at hk
 .rename_i e;rw[e]at u;have e1:=u.v_inv;refine .det ?_ (.dat (.v _)) hk rfl;have A:a.eval (.const .nilIface)=.nilIface:=rfl;rcases j with rfl|rfl<;>simp only[execOp,ho,tH,e1,A,X1,tB,tJ,binOp,za3 ht]<;>rfl
 .rename_i tt pp e;rw[e]at u;obtain⟨v,e1,_⟩:=u.inv_ifc;refine .det ?_ (.dat (.v _)) hk rfl;have A:a.eval (.const .nilIface)=.nilIface:=rfl;rcases j with rfl|rfl<;>simp only[execOp,ho,tH,e1,A,Y5,tB,tJ,binOp,JE ht]<;>rfl
 .exact hk.elim
theorem zlC{t:TypeId}{x:Operand}{j:PO}(ho:o.op=.unOp .not t x)(A:po x=some j)(hk:qV (s.ev j) λb=>K (.v (.bool (!b)))):QS P o D ρ s a w K:=by obtain⟨b,e1,_,u⟩:=xE hk (hR.op A (by simp[ho,Op.operands]));exact .det (by simp[execOp,ho,e1,Op.unary]) (.dat (.v _)) u rfl
theorem zlA{t:TypeId}{x:Operand}{B:PO}(ho:o.op=.unOp .neg t x)(E:po x=some B)(hk:QB .sub (.v (.int .i64 0)) (s.ev B) K):QS P o D ρ s a w K:=by
 have A:=hR.op E (by simp[ho,Op.operands]);unfold QB at hk;split at hk
 .rename_i k1 n1 k2 n2 e1 e2;cases e1;rw[e2]at A;have C:=A.v_inv;obtain⟨rfl,hk⟩:=hk;have j:qar .i64 (0-n2) K:=hk;exact .det (u:=.int .i64 (IntKind.i64.wrap (0-n2))) (by simp[execOp,ho,C,Op.unary,Op.intArith]) (.dat (.v _)) (kC j) rfl
 .exact hk.elim
theorem znn{t u:TypeId}{x:Operand}{A:PO}{k G:IntKind}(ho:o.op=.convert t u x)(B:P.underlying t=some (.int G))(C:P.underlying u=some (.int k))(F:po x=some A)(hk:vR (s.ev A) λ_ n=>K (.v (.int k (k.wrap n)))):QS P o D ρ s a w K:=by obtain⟨j,n,e1,_,E⟩:=yu hk (hR.op F (by simp[ho,Op.operands]));exact .det (by simp[execOp,ho,e1,convert,tI B,tI C,Conv.intToInt]) (.dat (.v _)) E rfl
theorem znp{t:TypeId}{x:Operand}{I:PO}{f:Nat}{C:Array Field}{j:Field}{i:TypeInfo}(ho:o.op=.fieldAddr t x f)(E:P.underlying t=some (.struct C))(F:C[f]?=some j)(G:P.info? j.type=some i)(H:i.size≠0)
 (M:po x=some I) (hk:PK.q P s (.fa I j.offset) K):QS P o D ρ s a w K:=by
 have B:=hR.op M (by simp[ho,Op.operands]);simp only[PK.q]at hk;split at hk
 .rename_i i' o' e;rw[e]at B;obtain⟨hi,e1⟩:=B.inv_bx;refine .det (u:=.pointer (some ⟨ρ i',o'+j.offset,none⟩)) ?_ (.inl (.inr ⟨_,_,rfl,hi,rfl⟩)) hk rfl;simp[execOp,ho,e1,Instr.fieldAt,tI E,F,Instr.sureAddr,fieldPlace,zE G,H,zh]
 .rename_i cs o' e;rw[e]at B;obtain⟨b,A,u,e1,J,L⟩:=B.inv_cp;refine .det (u:=.pointer (some ⟨b,A+(o'+j.offset),none⟩)) ?_ (.dat (.cp b A cs _ u J L)) hk rfl;simp[execOp,ho,e1,Instr.fieldAt,tI E,F,Instr.sureAddr,fieldPlace,zE G,H,zh,Ww]
 .exact hk.elim
theorem znr{t e:TypeId}{x y:Operand}{N O:PO}{i:TypeInfo}(ho:o.op=.indexAddr t x y)(S:P.underlying t=some (.slice e))(T:P.info? e=some i)(hx:po x=some N)(hy:po y=some O)(hk:PK.q P s (.ia N O i.size) K):QS P o D ρ s a w K:=by
 simp only[PK.q]at hk;obtain⟨F,k,ex,U⟩:=y8 hk;obtain⟨j,n,e2,_,hn,G⟩:=yu U (hR.op hy (by simp[ho,Op.operands]));have M:=hR.op hx (by simp[ho,Op.operands]);rw[ex]at M;obtain⟨ad,Q,sz,b,E,f,e1,hc,hz,hm,Y,J,X,Z⟩:=M.inv_sl;split at G
 .rename_i el hel;obtain⟨L,V⟩:=G;have B:n.toNat<F.length:=(Zw.1 hel).1;have A:sz=i.size:=(J _ _ hel).symm.trans L;have H:=Y (by intro e;subst e;simp at B);refine .det (u:=.pointer (some ⟨b,E+n.toNat*i.size,none⟩)) ?_ (.dat ?_) V rfl
  .have I:n<F.length:=a8;simp[execOp,ho,e1,e2,Instr.indexAt,asIntOf,tI S,H,hn,I,zE T,zh]
  .have:=Dat.cp (D:=D) (w:=w) b (E+n.toNat*i.size) el 0 (λj=>f (n.toNat*i.size+j)) (λj hj=>?_) (λj p hp=>?_)
   .simpa using this
   .rw[L]at hj;have C:n.toNat*i.size+j<F.length*sz:=by
     rw[A]
     calc n.toNat*i.size+j<n.toNat*i.size+i.size:=a8
      _=(n.toNat+1)*i.size:=by rw[W7];omega
      _<=F.length*i.size:=Wu _ B
    have:=X _ C;rw[Ww];exact this
   .have:=Z _ _ _ _ hel hp;rw[A]at this;exact this
 .exact G.elim
theorem zni{t e:TypeId}{x y:Operand}{H I:PO}{i:TypeInfo}{m:Nat}(ho:o.op=.indexAddr t x y)(F:P.underlying t=some (.array m e))(G:P.info? e=some i)(M:po x=some H)(N:po y=some I)(hk:PK.q P s (.aa H I m i.size) K):QS P o D ρ s a w K:=by
 simp only[PK.q]at hk;obtain⟨j,n,e2,_,C,B⟩:=yu hk (hR.op N (by simp[ho,Op.operands]));have E:=hR.op M (by simp[ho,Op.operands]);split at B
 .rename_i i' o' e;rw[e]at E;obtain⟨hi,e1⟩:=E.inv_bx;refine .det (u:=.pointer (some ⟨ρ i',o'+n.toNat*i.size,none⟩)) ?_ (.inl (.inr ⟨_,_,rfl,hi,rfl⟩)) B rfl;simp[execOp,ho,e1,e2,Instr.indexAt,asIntOf,tI F,Instr.sureAddr,C.1,C.2,zE G,zh]
 .rename_i cs o' e;rw[e]at E;obtain⟨b,A,u,e1,J,L⟩:=E.inv_cp;refine .det (u:=.pointer (some ⟨b,A+(o'+n.toNat*i.size),none⟩)) ?_ (.dat (.cp b A cs _ u J L)) B rfl;simp[execOp,ho,e1,e2,Instr.indexAt,asIntOf,tI F,Instr.sureAddr,C.1,C.2,zE G,zh,Ww]
 .exact B.elim
theorem zns{t e:TypeId}{x y:Operand}{I J:PO}{B:Bool}{m H:Nat}(ho:o.op=.index t x y)(N:P.underlying t=some (.array m e))(E:XH P e=some (B,H))(S:po x=some I)(T:po y=some J)(hk:PK.q P s (.ix I J m B H) K):QS P o D ρ s a w K:=by
 simp only[PK.q]at hk;obtain⟨j,n,e2,_,F,A⟩:=yu hk (hR.op T (by simp[ho,Op.operands]));have G:=hR.op S (by simp[ho,Op.operands]);split at A
 .rename_i cs e;rw[e]at G;obtain⟨Z,e1,hz,O,Q⟩:=G.inv_agg;obtain⟨u,p,C,L,M⟩:=VJ (P:=P) E A hz O Q;obtain⟨i,d,U,X,Y,V⟩:=vT E;refine .strip (u:=u) (p:=p) ?_ (.dat L) M;rw[<-V]at C;simp[execOp,ho,e1,e2,Instr.index,asIntOf,tI N,F.1,F.2,zE U,C]
 .exact A.elim
theorem znq{t:TypeId}{x:Operand}{F:PO}{f:Nat}{B:Array Field}{j:Field}{A:Bool}{E:Nat}(ho:o.op=.field t x f)(J:P.underlying t=some (.struct B))(L:B[f]?=some j)(M:XH P j.type=some (A,E))
 (Q:po x=some F) (hk:PK.q P s (.fl F j.offset A E) K):QS P o D ρ s a w K:=by
 simp only[PK.q]at hk;have C:=hR.op Q (by simp[ho,Op.operands]);split at hk
 .rename_i cs e;rw[e]at C;obtain⟨S,e1,hz,N,O⟩:=C.inv_agg;obtain⟨u,p,G,H,I⟩:=VJ (P:=P) M hk hz N O;refine .strip (u:=u) (p:=p) ?_ (.dat H) I;simp[execOp,ho,e1,Instr.field,tI J,L,asAgg,G]
 .exact hk.elim
theorem znt{t:TypeId}{x:Operand}{S:PO}{H:Bool}{L:Nat}(ho:o.op=.load t x)(O:XH P t=some (H,L))(V:po x=some S)(hk:PK.q P s (.ld S H L) K):QS P o D ρ s a w K:=by
 simp only[PK.q]at hk;have G:=hR.op V (by simp[ho,Op.operands]);split at hk
 .rename_i cs o' e;rw[e]at G;obtain⟨b,X,u,e1,T,Q⟩:=G.inv_cp;have B:H=true->zY ((cs.drop o').take L)=true:=λ_=>by unfold zY;rw[wN];intro p E;obtain⟨j,C⟩:=wK (Wv (WH E));exact(Q j p C).isD
  obtain⟨M,p,F,I,J⟩:=Qv (P:=P) (ρ:=ρ) (nb:=s.b.length) O hk (λj C=>(T j C).2) (λj p E=>.dat (D:=D) (Q j p E)) B;exact .strip (u:=M) (p:=p) (by simp[execOp,ho,e1,Instr.loadAt,Instr.sureAddr,F]) I J
 .rename_i i' o' e;rw[e]at G;obtain⟨hi,e1⟩:=G.inv_bx;split at hk
  .rename_i cs hcs;obtain⟨N,Y,U,hz,hb⟩:=hR.boxes i' cs hcs;have A:∀j,j<cs.length->w.cell? ⟨ρ i',0+j,none⟩=some (N.getD j undef)/\(N.getD j undef).oneCell'=true:=λj C=>by refine⟨?_,(hb j _ (Zv C)).2⟩;simp only[World.cell?,U];simp[show j<N.size by omega]
   obtain⟨M,p,F,I,J⟩:=Qv (P:=P) (D:=D) (ρ:=ρ) (nb:=s.b.length) O hk.2 A (λj p E=>(hb j p E).1) (λ_=>hk.1);rw[wn]at F;exact .strip (u:=M) (p:=p) (by simp[execOp,ho,e1,Instr.loadAt,Instr.sureAddr,F]) I J
  .exact hk.elim
 .exact hk.elim
omit hR in
theorem K7{t:TypeId}(h:jX P t=true):∃k,P.underlying t=some (.int k):=by
 unfold jX at h;split at h
 .exact⟨_,b9⟩
 .cases h
omit hR in
theorem ky{t:TypeId}(h:jX P t=true){j:Array Value}{o:Nat}{v:Value}(A:j[o]?=some v):(part t j o).run P w=.ok v w:=by obtain⟨k,u⟩:=K7 h;simp[part,xy u,Qb,A]
omit hR in
theorem KT{t:TypeId}(h:jX P t=true)(d:Nat)(k:IntKind)(m n:Int):(Op.equalIn (d+1) t (.int k m) (.int k n)).run P w=.ok (decide (m=n)) w:=by obtain⟨o,j⟩:=K7 h;rw[run_equalIn_int w d t k o m n j];congr 1
omit hR in
theorem KS(d:Nat){vs us:Array Value}:∀(A:List Field)(i:Nat)(o C:List PV),K8 P i A=true->o.length=A.length->jy o C->(∀j v,o[j]?=some (.v v)->vs[i+j]?=some v)->(∀j v,C[j]?=some (.v v)->us[i+j]?=some v)->(Op.eqFields (d+1) vs us A).run P w=.ok (xQ o C) w
 |[],i,o,C,_,hl,_,_,_=>by obtain rfl:o=[]:=wY.1 hl;simp[Op.eqFields,xQ]
 | f::A,i,o,C,hi,hl,u,hv,hu=>by
   unfold K8 at hi;simp only[VS,bne_iff_ne,ne_eq,tk]at hi;obtain⟨⟨⟨F,G⟩,E⟩,H⟩:=hi;unfold jy at u;split at u
   .cases hl
   .rename_i k a r k' b r';obtain⟨rfl,u⟩:=u;have e1:=hv 0 _ rfl;have e2:=hu 0 _ rfl;rw[ug,<-G]at e1 e2;have ih:=KS d (vs:=vs) (us:=us) A (i+1) r r' H (dK hl) u (λj v h=>by have:=hv (j+1) v h;rwa[show i+(j+1)=i+1+j by omega]at this) (λj v h=>by have:=hu (j+1) v h;rwa[show i+(j+1)=i+1+j by omega]at this);simp only[Op.eqFields,F,ne_eq,not_false_eq_true,UM,tH,ky (P:=P) (w:=w) E e1,ky (P:=P) (w:=w) E e2,tB,KT (P:=P) (w:=w) E d k a b];by_cases B:a=b
    .simp[B,ih,xQ]
    .simp[B,xQ]
   .cases u
omit hR in
theorem KR(d:Nat){e:TypeId}(C:jX P e=true){vs us:Array Value}:∀(u B:List PV)(i:Nat),jy u B->(∀j v,u[j]?=some (.v v)->vs[i+j]?=some v)->(∀j v,B[j]?=some (.v v)->us[i+j]?=some v)->(Op.eqItems (d+1) e 1 vs us (List.range' i u.length)).run P w=.ok (xQ u B) w
 |[],B,i,_,_,_=>by simp[Op.eqItems,xQ]
 | x::u,B,i,o,hv,hu=>by
   unfold jy at o;split at o
   .rename_i h;cases h
   .rename_i k a r k' b r' h;cases h;obtain⟨rfl,o⟩:=o;have e1:=hv 0 _ rfl;have e2:=hu 0 _ rfl;rw[ug]at e1 e2;have ih:=KR d C (vs:=vs) (us:=us) u r' (i+1) o (λj v h=>by have:=hv (j+1) v h;rwa[show i+(j+1)=i+1+j by omega]at this) (λj v h=>by have:=hu (j+1) v h;rwa[show i+(j+1)=i+1+j by omega]at this);simp only[ww,List.range'_succ,Op.eqItems,tH,Uk,ky (P:=P) (w:=w) C e1,ky (P:=P) (w:=w) C e2,tB,KT (P:=P) (w:=w) C d k a b];by_cases A:a=b
    .simp[A,ih,xQ]
    .simp[A,xQ]
   .cases o
omit hR in
theorem zfc{t:TypeId}{n:Nat}(ht:za9 P t=some n){o us:Array Value}{u E:List PV}(J:u.length=n)(I:jy u E)(L:∀j v,u[j]?=some (.v v)->o[0+j]?=some v)(K:∀j v,E[j]?=some (.v v)->us[0+j]?=some v):(Op.equal t (.agg o) (.agg us)).run P w=.ok (xQ u E) w/\∀op B C,(eqGuard op t B C (.agg o) (.agg us)).run P w=.ok () w:=by
 unfold za9 at ht;split at ht
 .rename_i fs hf;split at ht
  .rename_i hcond;simp only[VS,Wo]at hcond;obtain⟨⟨F,G⟩,H⟩:=hcond;cases ht;have A:P.fieldsOf t=fs:=(by unfold Program.fieldsOf;rw[hf]);refine⟨?_,λop B C=>run_eqGuard_agg w op t B C o us H⟩;show (Op.equalIn (9998+1+1) t _ _).run P w=_;rw[run_equalIn_agg w _ t o us (by rw[A];exact hf) G,A];exact KS _ _ 0 u E F (dK J) I L K
  .cases ht
 .rename_i m e hf;split at ht
  .rename_i hcond;simp only[VS,Wo,tk]at hcond;obtain⟨⟨⟨F,G⟩,H⟩,M⟩:=hcond;cases ht;obtain⟨i,hi⟩:=wZ.1 G;refine⟨?_,λop B C=>run_eqGuard_agg w op t B C o us M⟩;show (Op.equalIn (9998+1+1) t _ _).run P w=_;rw[run_equalIn_array w _ o us hf hi,H,List.range_eq_range',<-J];exact KR _ F u E 0 I L K
  .cases ht
 .cases ht
omit hR in
theorem KU:∀{o u:List PV},jy o u->(∀p∈o,∃v,p=.v v)/\∀p∈u,∃v,p=.v v
 |[],[],_=>⟨b6,b6⟩
 |[],_::_,h=>by simp[jy]at h
 | x::o,u,h=>by
   unfold jy at h;split at h
   .rename_i e;cases e
   .rename_i e;cases e;obtain⟨w,A⟩:=KU h.2;exact⟨λp j=>(V3.1 j).elim (λe=>⟨_,e⟩) (w p),λp j=>(V3.1 j).elim (λe=>⟨_,e⟩) (A p)⟩
   .cases h
theorem zlx{op:BinOp}{t t':TypeId}{x y:Operand}{Q S:PO}(ho:o.op=.binOp op t x y t')(G:op=.eql\/op=.neq)(ht:(za9 P t).isSome=true)(hx:po x=some Q)(hy:po y=some S)(hk:zbz (op == .neq) ((za9 P t).getD 0) (s.ev Q) (s.ev S) K):QS P o D ρ s a w K:=by
 have C:=hR.op hx (by simp[ho,Op.operands]);have E:=hR.op hy (by simp[ho,Op.operands]);obtain⟨n,M⟩:=wZ.1 ht;rw[M]at hk;unfold zbz at hk;split at hk
 .rename_i xs ys ex ey;obtain⟨⟨X,J⟩,hk⟩:=hk;rw[ex]at C;rw[ey]at E;have get:∀{u:Value}{H:List PV},(∀p∈H,∃v,p=.v v)->Rel D ρ s.b.length w u (.agg H)->∃A:Array Value,u=.agg A/\∀j v,H[j]?=some (.v v)->A[0+j]?=some v:=λI h=>by obtain⟨A,rfl,hz,_,V⟩:=h.inv_agg;refine⟨A,rfl,λj v L=>?_⟩;have F:=V j _ L;have B:j<A.size:=(by rw[hz];exact(Zw.1 L).1);rw[wC,Wg B,WW]at F;rw[wn,Wg B];generalize A[j]=z at F;cases F;rfl
  obtain⟨T,U⟩:=KU J;obtain⟨A,e1,Z⟩:=get T C;obtain⟨us,e2,Y⟩:=get U E;obtain⟨N,O⟩:=zfc (P:=P) (w:=w) M X J Z Y;refine .det ?_ (.dat (.v _)) hk rfl;rcases G with rfl|rfl
  .simp only[execOp,ho,tH,e1,e2,O,tB,tJ,binOp,N];cases xQ xs ys<;>rfl
  .simp only[execOp,ho,tH,e1,e2,O,tB,tJ,binOp,N];cases xQ xs ys<;>rfl
 .exact hk.elim
theorem znu{t:TypeId}{e:TypeId}{x:Operand}{F:PO}{c:Call}(ho:o.op=.call c)(C:c.callee=.builtin .len)(B:c.args=#[x])(A:c.argTypes=#[t])(H:P.underlying t=some (.slice e))(J:po x=some F)
 (hk:QA (s.ev F) λj=>K (.v (.int .i64 j.length))):QS P o D ρ s a w K:=by
 obtain⟨j,k,ex,I⟩:=y8 hk;have E:=hR.op J (by simp[ho,Op.operands,Call.operands,C,B]);rw[ex]at E;obtain⟨M,G,sz,b,L,f,e1,_⟩:=E.inv_sl;refine .det (u:=.int .i64 j.length) ?_ (.dat (.v _)) I rfl;simp[execOp,ho,resolve,C,B,A,invoke,builtin,Builtin.len_,tI H,e1,goInt]
theorem zno{x:Operand}{B:PO}{i:Nat}(ho:o.op=.extract x i)(E:po x=some B)(hk:PK.q P s (.ex B i) K):QS P o D ρ s a w K:=by
 simp only[PK.q]at hk;have j:=hR.op E (by simp[ho,Op.operands]);split at hk
 .rename_i cs e;rw[e]at j;obtain⟨A,e1,hz,C⟩:=j.inv_tup;split at hk
  .rename_i p hp;have hi:i<A.size:=Y7 hz hp;refine .strip (u:=A.getD i undef) (p:=p) ?_ (.dat (C i p hp)) hk;simp[execOp,ho,e1,Instr.extract,hi]
  .exact hk.elim
 .exact hk.elim
theorem znx{x:Operand}{A:PO}(ho:o.op=.nilCheck x)(B:po x=some A)(hk:PK.q P s (.nc A) K):QS P o D ρ s a w K:=by
 simp only[PK.q]at hk;have j:=hR.op B (by simp[ho,Op.operands]);split at hk
 .rename_i i o' e;rw[e]at j;obtain⟨hi,e1⟩:=j.inv_bx;exact .det (by simp[execOp,ho,e1]) j hk rfl
 .rename_i cs o' e;rw[e]at j;obtain⟨b,C,u,e1,E,F⟩:=j.inv_cp;exact .det (by simp[execOp,ho,e1]) j hk rfl
 .exact hk.elim
theorem znw{t:TypeId}{d:TypeDesc}{x:Operand}{j:PO}(ho:o.op=.makeInterface t x)(A:P.underlying t=some d)(B:∀F,d≠.interface F)(E:po x=some j)(hk:PK.q P s (.mi t j) K):QS P o D ρ s a w K:=by
 simp only[PK.q]at hk;have C:=hR.op E (by simp[ho,Op.operands]);split at hk
 .rename_i hd;refine .det (u:=.iface t (a.eval x)) ?_ (.dat (.ifc _ _ _ (C.data hd).sh)) hk rfl;simp only[execOp,ho,tH,Instr.makeInterface,tI A,tB];cases d<;>first|rfl|exact absurd rfl (B _)
 .exact hk.elim
theorem znv{f:Fn}{F C:Array Operand}{G E:List PO}(ho:o.op=.makeFunc f F C)(M:Qu F.toList=some G)(N:Qu C.toList=some E)(hk:PK.q P s (.mf f G E) K):QS P o D ρ s a w K:=by
 simp only[PK.q,VS,wN,WT]at hk;obtain⟨⟨hd,O⟩,hk⟩:=hk;obtain⟨Y,p1⟩:=kz M;obtain⟨Z,p2⟩:=kz N;have J:∀{A:Array Operand}{j:List PO},j.length=A.toList.length->(∀(i:Nat)(y:Operand),A.toList[i]?=some y->∃V,j[i]?=some V/\po y=some V)->(∀x∈j,(s.ev x).sh.isD=true\/(s.ev x).sh.isB=true)->(∀y∈A.toList,y∈o.op.operands.toList) ->
  ∀(i:Nat) q,(j.map λx=>(s.ev x).sh)[i]?=some q->Rel1 D ρ s.b.length w ((A.map a.eval).getD i undef) q:=by
  intro A j hl hp H Q i q X;simp only[wh,ZZ]at X;obtain⟨U,B,rfl⟩:=X;have hi:i<A.toList.length:=(by rw[<-hl];exact(Zw.1 B).1);obtain⟨V,I,S⟩:=hp i _ (Zv hi);rw[B]at I;cases I;have L:Rel D ρ s.b.length w (a.eval A.toList[i]) (s.ev U).sh:=by
   have:=hR.op S (Q _ (XE hi));rcases H U (wO B)with h|h
   .exact .dat ((this.data (by rwa[PV.sh_isD]at h)).sh)
   .rcases this with(this|⟨i,o,e,M,N⟩)|⟨f,va,vb,F,C,e,_⟩
    .exact .dat this.sh
    .exact .inl (.inr ⟨i,o,by rw[e];rfl,M,N⟩)
    .rw[e]at h;cases h
  have e:(A.map a.eval).getD i undef=a.eval A.toList[i]:=(by have:i<A.size:=(dK hi);simp[this]);rw[e];rcases H U (wO B)with h|h
  .exact .inl (L.data h)
  .rcases L with L|⟨f,va,vb,F,C,e,_⟩
   .exact L
   .rw[e]at h;cases h
 refine .det (u:=.func f (F.map a.eval) (C.map a.eval)) (by simp[execOp,ho,Instr.makeFunc]) (.inr ⟨f,_,_,_,_,rfl,rfl,dK Y.symm,dK Z.symm,?_,?_⟩) hk rfl
 .exact J Y p1 hd λy T=>by simp only[ho,Op.operands,WY,wF];exact .inl T
 .exact J Z p2 O λy T=>by simp only[ho,Op.operands,WY,wF];exact .inr T
theorem zly{m:Bool}{x y:Operand}{A B:PO}{c:Call}(ho:o.op=.call c)(u:c.callee=.builtin (if m then .max else .min))(j:c.args=#[x,y])(F:po x=some A)(G:po y=some B)(hk:PK.q P s (.mm m A B) K):QS P o D ρ s a w K:=by
 simp only[PK.q]at hk;obtain⟨k,I,e1,_,C⟩:=yu hk (hR.op F (by simp[ho,Op.operands,Call.operands,u,j]));obtain⟨H,J,e2,_,rfl,E⟩:=yu C (hR.op G (by simp[ho,Op.operands,Call.operands,u,j]));refine .det ?_ (.dat (.v _)) E rfl;cases m
 .simp[execOp,ho,resolve,u,j,invoke,builtin,Builtin.min_,e1,e2,Builtin.min2]
 .simp[execOp,ho,resolve,u,j,invoke,builtin,Builtin.max_,e1,e2,Builtin.max2]
end
end
section
variable {P:Program}{o:Oper}{D:xT}{ρ:Nat->Nat}{nb:Nat}{s:PS}{a:Act}{w:World}
def zej{i n sz j:Nat}(h:i<n)(o:j<sz):i*sz+j<n*sz:=by
 calc i*sz+j<i*sz+sz:=a8
  _=(i+1)*sz:=by rw[W7];omega
  _<=n*sz:=Wu _ h
def zgu{k:Ow}(G:k≠.z){E:Option Addr}{b B sz l h A:Nat}{o:List (List PV)}{f:Nat->Value}(U:l<=h)(O:h<=o.length)(T:o.length<=A)(V:A<=maxLen)(M:o≠[]->E=some ⟨b,B,none⟩)(I:∀(i:Nat)(e:List PV),o[i]?=some e->e.length=sz)
 (L:∀j,j<o.length*sz->D b (B+j)/\w.cell? ⟨b,B+j,none⟩=some (f j)/\(f j).oneCell'=true) (N:∀(i:Nat)(e:List PV)(j:Nat)(p:PV),o[i]?=some e->e[j]?=some p->Dat D w (f (i*sz+j)) p) :
 Dat D w (.slice (if A-0=l then E else E.map (·.add (l*sz))) (h-l) (A-l)) (.sl ((o.take h).drop l) k):=by
 have u:((o.take h).drop l).length=h-l:=a9
 have F:Dat D w (.slice (if A-0=l then E else E.map (·.add (l*sz))) ((o.take h).drop l).length (A-l)) (.sl ((o.take h).drop l) k):=by
  have get:∀(i:Nat) e,((o.take h).drop l)[i]?=some e->o[l+i]?=some e/\i<h-l:=λi e C=>(by have hi:=(Zw.1 C).1;rw[u]at hi;rw[Wn,wt,Vm a8]at C;exact⟨C,hi⟩);refine .sl _ _ sz _ _ b (B+l*sz) (λj=>f (l*sz+j)) a8 (λh=>absurd h G) a8 (λH=>?_) (λi e C=>I _ e (get i e C).1) (λj P=>?_) (λi e j p C S=>?_)
  .have Q:l<h:=by
    rcases wL l h with J|J
    .exact J
    .exact absurd (wJ (by rw[u];omega)) H
   rw[Vq a8,M (by intro e;subst e;simp at O;omega)];simp[zh]
  .rw[u]at P;have:l*sz+j<o.length*sz:=by have K:(l+(h-l))*sz<=o.length*sz:=Wu _ a8;rw[W7]at K;omega
   rw[Ww];exact L _ this
  .have:=N _ _ _ _ (get i e C).1 S;rw[W7,Ww]at this;exact this
 rw[u]at F;exact F
section
variable {K:PV->Prop}(hR:Rd D ρ s (zB a) (zA o) w)
include hR
theorem znz{t e:TypeId}{x:Operand}{L:PO}{lo hi:Option Operand}{B S:Option PO}{i:TypeInfo}(ho:o.op=.slice t x lo hi none)(N:P.underlying t=some (.slice e))(h3:P.info? e=some i)(hx:po x=some L)(J:poo lo=some B)(I:poo hi=some S)
 (hk:PK.q P s (.sc L B S i.size) K):QS P o D ρ s a w K:=by
 simp only[PK.q]at hk;obtain⟨C,k,ex,h4⟩:=y8 hk;have hr:=hR.op hx (by simp[ho,Op.operands]);rw[ex]at hr;obtain⟨F,A,sz,b,ao,f,e1,hc,hz,hm,ha,ab,hD,hd⟩:=hr.inv_sl;have fin:∀l h:Nat,(l<=h/\h<=C.length/\(∀e∈C,e.length=i.size)/\K (.sl ((C.take h).drop l) (Xw B (s.ev L))))->(B=none->l=0)->(execOp a.eval o).run P w=.ok (.value (.slice (if A=l then F else F.map (·.add (l*i.size))) (h-l) (A-l))) w->QS P o D ρ s a w K:=by
  rintro l h ⟨hl,hh,ag,hK⟩ X E;have U:Xw B (s.ev L)≠.z:=by unfold Xw;split<;>simp
  have T:(PV.sl ((C.take h).drop l) (Xw B (s.ev L))).own=none:=by unfold Xw;split<;>rfl
  have G:∀x0 n0,zbZ x0 n0 s (zB a) (zA o) w->NewOk x0 n0 w (.slice (if A=l then F else F.map (·.add (l*i.size))) (h-l) (A-l)) (.sl ((C.take h).drop l) (Xw B (s.ev L))):=λx0 n0 hN=>by
   have Z:∀u:Value,NewOk x0 n0 w u (.sl ((C.take h).drop l) .sh):=λ_=>trivial;rw[ex];cases hlo2:B with
   |some y=>exact Z _
   | none=>
     have h0:=X hlo2;subst h0;cases k with
     | p j=>
       have ah:∃t,x=.tmp t/\s.get t=.sl C (.p j):=by
        cases x with
        |tmp t=>cases hx;exact⟨t,rfl,ex⟩
        | const v=>
          cases hx;have:(ofV v).isN=false:=by unfold ofV;split<;>(try split)<;>rfl
          rw[show ofV v=_ from ex]at this;cases this
        |func f=>cases hx;cases ex
        |global g=>cases hx
       obtain⟨t,rfl,ht⟩:=ah;have O:=(hN.2 t (QC (by simp[ho,Op.operands]))).1;rw[ht]at O;obtain⟨am,ae,aj,q1,q2⟩:=O;have q3:zB a t=.slice F C.length A:=e1;rw[q3]at q2;injection q2 with r1 r2 r3;subst r1;subst r3;refine⟨F,ae,A,q1,?_⟩;have V:((C.take h).drop 0).length=h:=a9;rw[V];have e4:(if A=0 then F else F.map (·.add (0*i.size)))=F:=by
        split
        .rfl
        .cases F with
         |none=>rfl
         |some F=>simp[Addr.add]
       rw[e4];rfl
     |_=>exact Z _
  by_cases Q:C=[]
  .subst Q;have h0:h=0:=(dK hh);subst h0;have l0:l=0:=a8;subst l0;refine⟨_,hK,T,zby E (.dat ?_) G⟩;exact .sl _ _ 1 [] _ 0 0 (λ_=>undef) (X3 _) (λh=>absurd h U) a8 (λh=>absurd rfl h) (λi e h=>by simp at h) (λj h=>absurd h b6) (λi e j p h=>by simp at h)
  .have ac:sz=i.size:=by
    cases C with
    |nil=>exact absurd rfl Q
    |cons e C=>exact(ab 0 e rfl).symm.trans (ag e b6)
   subst ac;refine⟨_,hK,T,zby E (.dat ?_) G⟩;simpa using zgu U hl hh hc hm ha ab hD hd
 have H:∀h:Nat,h<=A->qBd s B 0 (λl=>l<=h/\h<=C.length/\(∀e∈C,e.length=i.size)/\K (.sl ((C.take h).drop l) (Xw B (s.ev L)))) ->
  (∀l:Nat,l<=h->(match lo.map a.eval with|some v=>Instr.sliceBound v h .sliceB|none=>pure 0:Sem Nat).run P w=.ok l w->(execOp a.eval o).run P w=.ok (.value (.slice (if A=l then F else F.map (·.add (l*i.size))) (h-l) (A-l))) w)->QS P o D ρ s a w K:=by
  intro h an hq E;cases lo with
  |none=>cases J;exact fin 0 h hq (λ_=>rfl) (E 0 (X3 _) b6)
  |some y=>simp only[poo,ZZ]at J;obtain⟨y',hy,rfl⟩:=J;obtain⟨j,n,e2,_,hn,hf⟩:=yu hq (hR.op hy (by simp[ho,Op.operands]));have af:n<=h:=(by have:=hf.1;omega);exact fin n.toNat h hf (λe=>by cases e) (E n.toNat hf.1 (by simp[e2,Instr.sliceBound,asIntOf,hn,af]))
 have ak:(match P.underlying t with|some (.array _ _)=>true|_=>false)=false:=by rw[N]
 cases hi with
 | none=>
   cases I;refine H C.length hc h4 λl hl hs=>?_;simp only[Option.map]at hs;cases lo with
   |none=>have l0:l=0:=(dK hs.symm);subst l0;simp[execOp,ho,e1,Instr.sliceAt,Instr.slice,tI N,Instr.sliceBounds,zE h3]
   |some y=>simp only at hs;simp[execOp,ho,e1,Instr.sliceAt,Instr.slice,tI N,Instr.sliceBounds,zE h3,hs]
 | some z=>
   simp only[poo,ZZ]at I;obtain⟨z',ai,rfl⟩:=I;obtain⟨j,n,e2,_,hn,M⟩:=yu h4 (hR.op ai (by simp[ho,Op.operands]));have Y:n<=A:=by
    have:n.toNat<=C.length:=by
     cases B with
     |none=>exact M.2.1
     | some y=>
       simp only[qBd,vR]at M;split at M
       .exact M.2.2.1
       .exact M.elim
    omega
   refine H n.toNat a8 M λl hl hs=>?_;simp only[Option.map]at hs;cases lo with
   |none=>have l0:l=0:=(dK hs.symm);subst l0;simp[execOp,ho,e1,e2,Instr.sliceAt,Instr.slice,tI N,Instr.sliceBounds,Instr.sliceBound,asIntOf,hn,Y,zE h3]
   |some y=>simp only at hs;have hh:(Instr.sliceBound (.int j n) A .sliceAcap).run P w=.ok n.toNat w:=(by simp[Instr.sliceBound,asIntOf,hn,Y]);simp[execOp,ho,e1,e2,Instr.sliceAt,Instr.slice,tI N,Instr.sliceBounds,hh,zE h3,hs]
end
def CellsD(D:xT)(w:World)(j:Array Value)(o:List PV):Prop:=
 j.size=o.length/\∀(i:Nat) p,o[i]?=some p->Dat D w (j.getD i undef) p/\(j.getD i undef).oneCell'=true
def CellsR.data{u:Value}{j:List PV}(h:CellsR D ρ nb w u j)(o:zY j=true):CellsD D w u.cells (j.map PV.sh):=by refine⟨dK h.1,λi p B=>?_⟩;simp only[wh,ZZ]at B;obtain⟨q,A,rfl⟩:=B;unfold zY at o;rw[wN]at o;exact⟨((h.2 i q A).1.data (o q (wO A))).sh,(h.2 i q A).2⟩
def x6(u:Nat):∀(l:List Value)(k:Nat)(o:Array Value),u+k+l.length<=o.size ->
 ((l.zipIdx k).foldl (fun(w:Array Value) (c,j)=>w.setIfInBounds (u+j) c) o).size=o.size /\
 ∀i,((l.zipIdx k).foldl (fun(w:Array Value) (c,j)=>w.setIfInBounds (u+j) c) o).getD i undef=if u+k<=i/\i<u+k+l.length then l.getD (i-(u+k)) undef else o.getD i undef
 |[],k,o,_=>⟨rfl,λi=>by simp;intro A B;omega⟩
 | v::l,k,o,h=>by
   simp only[List.zipIdx_cons,WU];simp only[ww]at h;obtain⟨A,B⟩:=x6 u l (k+1) (o.setIfInBounds (u+k) v) a9;refine⟨by rw[A];simp,λi=>?_⟩;rw[B i];by_cases e:i=u+k
   .subst e;rw[Vq a8,Vm b6];have:u+k<o.size:=a8;simp[this]
   .by_cases e2:u+(k+1)<=i/\i<u+(k+1)+l.length
    .rw[Vm e2,Vm a9];obtain⟨d,C⟩:∃d,i-(u+k)=d+1:=⟨i-(u+k)-1,a8⟩;rw[C,show i-(u+(k+1))=d from by omega];simp
    .rw[Vq e2,Vq a9];simp[uk (Ug e)]
def Xy(u o:List PV)(j i:Nat)(h:j+o.length<=u.length):(XI u o j)[i]?=if j<=i/\i<j+o.length then o[i-j]? else u[i]?:=by
 unfold XI;have ht:(u.take j).length=j:=a9
 by_cases w:i<j
 .rw[Vq a8,wU,V2 a8,wt,Vm w]
 .by_cases A:i<j+o.length
  .rw[Vm a8,wU,V1 a8,V2 a8,ht]
  .rw[Vq a8,V1 a9,Wn];congr 1;simp;omega
def QK(o u:List PV)(j:Nat)(h:j+u.length<=o.length):(XI o u j).length=o.length:=by unfold XI;simp;omega
def Xz{A us:Array Value}{C o:List PV}{off:Nat}(hz:CellsD D w A C)(B:CellsD D w us o)(h:off+o.length<=C.length):
 CellsD D w (us.zipIdx.foldl (fun(o:Array Value) (c,j)=>o.setIfInBounds (off+j) c) A) (XI C o off):=by
 obtain⟨E,F⟩:=x6 off us.toList 0 A (by simp[hz.1,B.1];omega);have e:us.zipIdx.foldl (fun(o:Array Value) (c,j)=>o.setIfInBounds (off+j) c) A=(us.toList.zipIdx 0).foldl (fun(o:Array Value) (c,j)=>o.setIfInBounds (off+j) c) A:=by rw[<-Array.foldl_toList,tg]
 rw[e];refine⟨by rw[E,QK _ _ _ h];exact hz.1,λi p u=>?_⟩;rw[Xy _ _ _ _ h]at u;rw[F i];have G:us.toList.length=o.length:=dK B.1
 simp only[ug];by_cases hi:off<=i/\i<off+o.length
 .rw[Vm hi]at u;rw[Vm a8];have:=B.2 _ _ u;have e2:us.toList.getD (i-off) undef=us.getD (i-off) undef:=b6;rw[e2];exact this
 .rw[Vq hi]at u;rw[Vq a8];exact hz.2 _ _ u
def Z4(j:Nat->Option (Nat×Nat)){K:List PV->Prop}:∀(parts:List (Nat×Operand))(A:List (Nat×Nat×PO))(B:Array Value)(C:List PV),A.length=parts.length ->
 (∀(k:Nat) i x,parts[k]?=some (i,x)->∃o n G,A[k]?=some (o,n,G)/\j i=some (o,n)/\Rel D ρ nb w (a.eval x) (s.ev G)) ->
 CellsD D w B C->vS s A C K->∃u E,Instr.fill j B (parts.map fun(i,x)=>(i,a.eval x))=some u/\CellsD D w u E/\K E
 |[],[],B,C,_,_,hz,hq=>⟨B,C,rfl,hz,hq⟩
 |[],_::_,_,_,h,_,_,_=>by cases h
 |_::_,[],_,_,h,_,_,_=>by cases h
 | (i,x)::parts,(o,n,G)::A,B,C,hl,hp,hz,hq=>by
   obtain⟨I,V,S,e1,e2,J⟩:=hp 0 i x rfl;simp at e1;obtain⟨rfl,rfl,rfl⟩:=e1;simp only[vS]at hq;obtain⟨E,⟨T,U,O,P⟩,H⟩:=xY hq J;have Q:=H.data O;obtain⟨u,F,L,M,N⟩:=Z4 j parts A _ _ (dK hl) (λk i x hk=>by simpa using hp (k+1) i x (dK hk)) (Xz (off:=o) hz Q a9) P;refine⟨u,F,?_,M,N⟩;simp only[WA,Instr.fill,e2];rw[Vq]
   .exact L
   .have:=H.1;have:=hz.1;simp;omega
def qJ{t:TypeId}{j:List PV}(h:xg P t=some j):∃i z,P.info? t=some i/\i.zero=some z/\j=z.cells.toList.map Q6/\(∀v∈z.cells.toList,v.oneCell'=true):=by
 unfold xg at h;simp only[Z3]at h;obtain⟨i,hi,z,hz,h⟩:=h;split at h
 .rename_i hall;cases h;rw[wN]at hall;exact⟨i,z,hi,hz,rfl,hall⟩
 .cases h
def yT{z:Value}(h:∀v∈z.cells.toList,v.oneCell'=true):CellsD D w z.cells (z.cells.toList.map Q6):=by
 refine⟨b6,λi p o=>?_⟩;simp only[wh,ZZ]at o;obtain⟨v,j,rfl⟩:=o;have u:v∈z.cells.toList:=wO j;have e:z.cells.getD i undef=v:=by simp at j;simp[j]
 rw[e];exact⟨zai D w v,h v u⟩
def CellsD.agg{o:Array Value}{j:List PV}(h:CellsD D w o j):Dat D w (.agg o) (.agg j):=
 .agg _ _ h.1 (λi hi=>(h.2 i _ (Zv hi)).2) λi p u=>(h.2 i p u).1
def Zz{u:Array Field}:∀{l:List (Nat×Operand)}{o:List (Nat×Nat×PO)},Qq P u l=some o->o.length=l.length/\∀(k:Nat) i x,l[k]?=some (i,x)->∃f n w,u[i]?=some f/\P.info? f.type=some n/\o[k]?=some (f.offset,n.size,w)/\po x=some w
 |[],o,h=>by cases h;exact⟨rfl,λk i x h=>by simp at h⟩
 | (i,x)::r,o,h=>by
   simp only[Qq,Z3,ZZ]at h;obtain⟨f,C,n,F,y,G,l,E,rfl⟩:=h;obtain⟨A,B⟩:=Zz E;refine⟨by simp[A],λk j z hz=>?_⟩;cases k with
   |zero=>simp at hz;obtain⟨rfl,rfl⟩:=hz;exact⟨f,n,y,C,F,rfl,G⟩
   |succ k=>simpa using B k j z (dK hz)
def Zy{sz:Nat}:∀{l:List (Nat×Operand)}{o:List (Nat×Nat×PO)},Qp sz l=some o->o.length=l.length/\∀(k:Nat) i x,l[k]?=some (i,x)->∃u,o[k]?=some (i*sz,sz,u)/\po x=some u
 |[],o,h=>by cases h;exact⟨rfl,λk i x h=>by simp at h⟩
 | (i,x)::r,o,h=>by
   simp only[Qp,Z3,ZZ]at h;obtain⟨y,C,l,B,rfl⟩:=h;obtain⟨w,A⟩:=Zy B;refine⟨by simp[w],λk j z hz=>?_⟩;cases k with
   |zero=>simp at hz;obtain⟨rfl,rfl⟩:=hz;exact⟨y,rfl,C⟩
   |succ k=>simpa using A k j z (dK hz)
section
variable {K:PV->Prop}(hR:Rd D ρ s (zB a) (zA o) w)
include hR
theorem zlt{t:TypeId}{parts:Array (Nat×Operand)}{E:Array Field}{M:List PV}{J:List (Nat×Nat×PO)}(ho:o.op=.build t parts)(Y:P.underlying t=some (.struct E))(hz:xg P t=some M)(A:∀f∈E.toList,(P.info? f.type).isSome=true)
 (Z:Qq P E parts.toList=some J) (hk:PK.q P s (.bd M J) K):QS P o D ρ s a w K:=by
 simp only[PK.q]at hk;obtain⟨i,z,U,V,rfl,X⟩:=qJ hz;obtain⟨l1,l2⟩:=Zz Z;obtain⟨j,I,G⟩:∃j,E.toList.mapM (λf=>(P.info? f.type).map λi=>(f.offset,i.size))=some j/\∀(i:Nat) f n,E.toList[i]?=some f->P.info? f.type=some n->j[i]?=some (f.offset,n.size):=by
  revert A;induction E.toList with
  |nil=>intro _;exact⟨[],rfl,λi f n h=>by simp at h⟩
  | cons f l ih=>
    intro A;obtain⟨pl,e1,e2⟩:=ih λf F=>A f (by simp[F]);have:=A f b6;obtain⟨n,L⟩:=wZ.1 this;refine⟨(f.offset,n.size)::pl,by simp[List.mapM_cons,L,e1],λi O n' F B=>?_⟩;cases i with
    |zero=>simp at F;subst F;rw[L]at B;cases B;rfl
    |succ i=>simpa using e2 i O n' (dK F) B
 obtain⟨C,cs,Q,S,T⟩:=Z4 (D:=D) (ρ:=ρ) (nb:=s.b.length) (w:=w) (a:=a) (s:=s) (j.toArray[·]?) parts.toList J z.cells _ l1 (λk i x H=>by
  obtain⟨f,n,x',e1,e2,N,e4⟩:=l2 k i x H;refine⟨f.offset,n.size,x',N,by simpa using G i f n (dK e1) e2,hR.op e4 ?_⟩;simp only[ho,Op.operands,wD];exact⟨(i,x),wO H,rfl⟩) (yT X) hk
 refine .det (u:=.agg C) ?_ (.dat S.agg) T rfl;have hb:P.built t (parts.map fun(i,x)=>(i,a.eval x)).toList=some C:=by unfold Program.built;simp only[U,Y,V,I];rw[WX];exact Q
 simp only[execOp,ho,tH,run_build w t _ C hb,tB];rfl
theorem zls{t e:TypeId}{n:Nat}{parts:Array (Nat×Operand)}{B:TypeInfo}{E:List PV}{C:List (Nat×Nat×PO)}(ho:o.op=.build t parts)(N:P.underlying t=some (.array n e))(O:P.info? e=some B)(hz:xg P t=some E)
 (Q:Qp B.size parts.toList=some C) (hk:PK.q P s (.bd E C) K):QS P o D ρ s a w K:=by
 simp only[PK.q]at hk;obtain⟨i,z,J,L,rfl,M⟩:=qJ hz;obtain⟨S,T⟩:=Zy Q;obtain⟨j,V,G,H,I⟩:=Z4 (D:=D) (ρ:=ρ) (nb:=s.b.length) (w:=w) (a:=a) (s:=s) (λi=>some (i*B.size,B.size)) parts.toList C z.cells _ S (λk i x A=>by
  obtain⟨U,F,e4⟩:=T k i x A;refine⟨_,_,U,F,rfl,hR.op e4 ?_⟩;simp only[ho,Op.operands,wD];exact⟨(i,x),wO A,rfl⟩) (yT M) hk
 refine .det (u:=.agg j) ?_ (.dat H.agg) I rfl;have hb:P.built t (parts.map fun(i,x)=>(i,a.eval x)).toList=some j:=by unfold Program.built;simp only[J,N,L,O];rw[WX];exact G
 simp only[execOp,ho,tH,run_build w t _ j hb,tB];rfl
end
def RowD(D:xT)(w:World)(sz:Nat)(o:List Value)(u:List (List PV)):Prop:=
 o.length=u.length*sz/\(∀(i:Nat)(e:List PV),u[i]?=some e->e.length=sz)/\(∀j,j<o.length->(o.getD j undef).oneCell'=true)/\∀(i:Nat)(e:List PV)(j:Nat)(p:PV),u[i]?=some e->e[j]?=some p->Dat D w (o.getD (i*sz+j) undef) p
def RowD.mono{D':xT}{w':World}{sz:Nat}{A:List Value}{u:List (List PV)}(h:RowD D w sz A u)(E:∀b o,D b o->D' b o)(F:∀b o x,D b o->w.cell? ⟨b,o,none⟩=some x->w'.cell? ⟨b,o,none⟩=some x):RowD D' w' sz A u:=
 ⟨h.1,h.2.1,h.2.2.1,λi e j p B C=>(h.2.2.2 i e j p B C).mono E F⟩
def RowD.append{sz:Nat}{A us:List Value}{u G:List (List PV)}(h:RowD D w sz A u)(k:RowD D w sz us G):RowD D w sz (A++us) (u++G):=by
 have E:u.length*sz=A.length:=h.1.symm;refine⟨by simp[h.1,k.1,W7],λi e o=>?_,λj C=>?_,λi e j p o F=>?_⟩
 .rcases wL i u.length with hi|hi
  .rw[V2 hi]at o;exact h.2.1 i e o
  .rw[V1 hi]at o;exact k.2.1 _ e o
 .rw[vj];rcases wL j A.length with hi|hi
  .rw[V2 hi,<-vj];exact h.2.2.1 j hi
  .rw[V1 hi,<-vj];exact k.2.2.1 _ (by simp at C;omega)
 .rw[vj];rcases wL i u.length with hi|hi
  .rw[V2 hi]at o;have B:=h.2.1 i e o;have C:j<sz:=(by rw[<-B];exact(Zw.1 F).1);rw[V2 (by rw[<-E];exact zej hi C),<-vj];exact h.2.2.2 i e j p o F
  .rw[V1 hi]at o;have H:A.length<=i*sz+j:=(by rw[<-E];exact V0 (Wu _ hi) a8);rw[V1 H,<-vj];have:=k.2.2.2 _ e j p o F;rw[Nat.sub_mul]at this;rw[show i*sz+j-A.length=i*sz-u.length*sz+j from by rw[E];have:=Wu sz hi;omega];exact this
def jr{sz b cap:Nat}{u:List Value}{o:List (List PV)}{B:Array Value}{e:TypeId}{fr:Nat×Nat}{k:Ow}(h:RowD D w sz u o)(F:w.heap[b]?=some (.cells B e fr))(ht:∀j,j<u.length->B[j]?=some (u.getD j undef))
 (E:o.length<=cap) (G:cap<=maxLen) (hk:k=.z->cap=o.length) (C:∀j,j<u.length->D b j):Dat D w (.slice (some ⟨b,0,none⟩) o.length cap) (.sl o k):=
 .sl _ _ sz _ _ b 0 (λj=>u.getD j undef) E hk G (λ_=>rfl) h.2.1 (λj A=>by
  rw[<-h.1]at A;refine⟨by simpa using C j A,?_,h.2.2.1 j A⟩;simp only[World.cell?,F,wn];simpa using ht j A) h.2.2.2
def Yl{sz:Nat}{K:List (List PV)->Prop}:∀(l:List Operand)(C:List PO),Qu l=some C->(∀x∈l,∀E,po x=some E->Rel D ρ nb w (a.eval x) (s.ev E))->yP s sz C K ->
 ∃B,K B/\B.length=l.length/\RowD D w sz (l.flatMap λx=>(a.eval x).cells.toList) B/\∀x∈l,(a.eval x).cells.size=sz
 |[],C,h,_,hq=>by cases h;exact⟨[],hq,rfl,⟨b6,λi e h=>by simp at h,λj h=>by simp at h,λi e j p h=>by simp at h⟩,b6⟩
 | x::l,C,h,hr,hq=>by
   simp only[Qu,Z3,ZZ]at h;obtain⟨E,X,J,I,rfl⟩:=h;simp only[yP]at hq;obtain⟨L,⟨F,Q,S⟩,G⟩:=xY hq (hr x b6 E X);obtain⟨B,M,N,O,P⟩:=Yl l J I (λy A=>hr y (by simp[A])) S;have T:=G.data Q;have u:(a.eval x).cells.size=sz:=(by rw[G.1];exact F);refine⟨_,M,by simp[N],?_,λy A=>?_⟩
   .have one:RowD D w sz (a.eval x).cells.toList [L.map PV.sh]:=by
     refine⟨dK u,λi e o=>?_,λj U=>?_,λi e j p o V=>?_⟩
     .have:i=0:=(by have:=(Zw.1 o).1;simpa using this);subst this;simp at o;subst o;simpa using F
     .have H:j<L.length:=(by rw[F,<-u];simpa using U);have:=(G.2 j _ (Zv H)).2;simpa using this
     .have:i=0:=(by have:=(Zw.1 o).1;simpa using this);subst this;simp at o;subst o;have:=(T.2 j p V).1;simpa using this
    have:=one.append O;simpa using this
   .rcases V3.1 A with rfl|A
    .exact u
    .exact P y A
def X5{sz:Nat}:∀(l:List Value)(k:Nat)(done:List Value)(o:Array Value),(∀v∈l,v.cells.size=sz)->done.length=k*sz->o.size=(k+l.length)*sz->(∀j,j<done.length->o[j]?=some (done.getD j undef)) ->
 ∃w,Instr.fill (λi=>some (i*sz,sz)) o (l.zipIdx k |>.map fun(v,i)=>(i,v))=some w/\w.toList=done++l.flatMap λv=>v.cells.toList
 | [],k,done,o,_,h2,h3,h4=>by
   refine⟨o,rfl,?_⟩;simp only[Uz,Wc];apply Uq;intro j;rcases wL j done.length with B|B
   .have:=h4 j B;rw[Zv B];simpa[vj,Zv B]using this
   .rw[WZ B,WZ (by simp[h3];simp at h3;omega)]
 | v::l,k,done,o,h1,h2,h3,h4=>by
   have C:=h1 v b6;simp only[ww]at h3;have N:k*sz+sz<=o.size:=(by rw[h3,<-Nat.succ_mul];exact Wu _ a8);obtain⟨H,J⟩:=x6 (k*sz) v.cells.toList 0 o (by simp[C];omega);have e:v.cells.zipIdx.foldl (fun(E:Array Value) (c,j)=>E.setIfInBounds (k*sz+j) c) o=(v.cells.toList.zipIdx 0).foldl (fun(E:Array Value) (c,j)=>E.setIfInBounds (k*sz+j) c) o:=(by rw[<-Array.foldl_toList,tg]);rw[<-e]at H J;obtain⟨A,F⟩:∃c,v.cells.zipIdx.foldl (fun(E:Array Value) (c,j)=>E.setIfInBounds (k*sz+j) c) o=c:=⟨_,rfl⟩;rw[F]at H J;obtain⟨w,L,M⟩:=X5 l (k+1) (done++v.cells.toList) A (λu O=>h1 u (by simp[O])) (by simp[h2,C,W7]) (by rw[H,h3];congr 1;omega) (λj B=>by
    have G:j<A.size:=(by rw[H];simp[h2,C]at B;omega);have K:=J j;rw[wC,Wg G,WW]at K;rw[Wg G,K];congr 1;simp only[ug];rw[vj (l:=done++_)];rcases wL j done.length with I|I
    .rw[Vq a8,V2 I,<-vj,wC,h4 j I];rfl
    .rw[Vm (by simp[C];simp[C]at B;omega),V1 I,vj,h2])
   refine⟨w,?_,by rw[M];simp⟩;simp only[List.zipIdx_cons,WA,Instr.fill];rw[Vq (by simp[C];omega),F];exact L
section
variable {K:PV->Prop}(hR:Rd D ρ s (zB a) (zA o) w)
include hR
theorem KF{t e:TypeId}{n:Nat}{parts:Array (Nat×Operand)}{A:TypeInfo}{zs:List PV}{ps:List PO}(ho:o.op=.buildSlice t n parts)(h1:P.underlying t=some (.slice e))(M:P.info? e=some A)(hz:xg P e=some zs)
 (hp:Qu (parts.toList.map (·.2))=some ps) (hi:parts.toList.map (·.1)=List.range n) (hn:n*A.size<=16777216) (ab:n<=maxLen) {N:List (List PV)->Prop} (hk:yP s A.size ps N) :
 ∃(C:List (List PV)) (u:Array Value),N C/\C.length=n/\(execOp a.eval o).run P w=.ok (.value (.slice (some ⟨w.heap.size,0,none⟩) n n)) (w.alloc (.cells u e))/\RowD D w A.size u.toList C/\∀j,j<u.toList.length->u[j]?=some (u.toList.getD j undef):=by
 obtain⟨i,z,g1,g2,rfl,g4⟩:=qJ hz;rw[M]at g1;cases g1;have F:parts.toList.length=n:=by have:=WR List.length hi;simpa using this
 obtain⟨C,k1,k2,k3,k4⟩:=Yl (D:=D) (ρ:=ρ) (nb:=s.b.length) (w:=w) (a:=a) (s:=s) _ _ hp (λx hx x' Y=>hR.op Y (by simpa[ho,Op.operands]using hx)) hk;have X:parts.toList.map (fun(i,x)=>(i,a.eval x))=((parts.toList.map λy=>a.eval y.2).zipIdx 0).map fun(v,i)=>(i,v):=by
  apply Uq;intro j;rcases wL j parts.toList.length with E|E
  .have S:(parts.toList.map (·.1))[j]?=(List.range n)[j]?:=(by rw[hi]);rw[wh,Zv E,uK a8]at S;simp at S;simp[Zv E,List.getElem?_zipIdx];have H:j<parts.size:=(dK E);simp[H,S]
  .rw[WZ (dK E),WZ (dK E)]
 have U:C.length=n:=by rw[k2];simpa using F
 have B:∀L:Array Value,L.size=n*A.size->∃u,Instr.fill (λi=>some (i*A.size,A.size)) L (parts.toList.map fun(i,x)=>(i,a.eval x))=some u/\u.toList=(parts.toList.map λy=>a.eval y.2).flatMap λv=>v.cells.toList:=λL T=>by
  obtain⟨c',e1,e2⟩:=X5 (sz:=A.size) (parts.toList.map λy=>a.eval y.2) 0 [] L (λv hv=>by
   simp only[wD]at hv;obtain⟨y,hy,rfl⟩:=hv;exact k4 _ (wD.2 ⟨y,hy,rfl⟩)) b6 (by rw[T];simp only[wB,F,wn]) (λj E=>by simp at E)
  rw[<-X]at e1;exact⟨c',e1,dK e2⟩
 have fin:∀u:Array Value,u.toList=((parts.toList.map λy=>a.eval y.2).flatMap λv=>v.cells.toList)->(execOp a.eval o).run P w=.ok (.value (.slice (some ⟨w.heap.size,0,none⟩) n n)) (w.alloc (.cells u e)) ->
  ∃(C:List (List PV)) (u:Array Value),N C/\C.length=n/\(execOp a.eval o).run P w=.ok (.value (.slice (some ⟨w.heap.size,0,none⟩) n n)) (w.alloc (.cells u e))/\RowD D w A.size u.toList C/\∀j,j<u.toList.length->u[j]?=some (u.toList.getD j undef):=by
  intro u J hr;have V:(List.map (λx=>x.snd) parts.toList).flatMap (λx=>(a.eval x).cells.toList)=u.toList:=(by rw[J];simp[Ua]);rw[V]at k3;have K:∀j,j<u.toList.length->u[j]?=some (u.toList.getD j undef):=λj E=>by have H:j<u.size:=(dK E);simp[H]
  exact⟨C,u,k1,U,hr,k3,K⟩
 by_cases O:n*A.size=0
 .obtain⟨u,G,J⟩:=B ((Array.range (n*A.size)).map λx=>(#[]:Array Value)[x%(#[]:Array Value).size]!) b6;refine fin u J ?_;have I:¬(16777216<n*A.size):=a8;rw[<-WX]at G;simp[execOp,ho,Instr.buildSlice,tI h1,zE M,I,O,newRow]at G⊢;simp[G]
 .obtain⟨u,G,J⟩:=B ((Array.range (n*A.size)).map λx=>z.cells[x%z.cells.size]!) b6;refine fin u J ?_;have I:¬(16777216<n*A.size):=a8;rw[<-WX]at G;have Z:(zeroValue e).run P w=.ok z w:=(by simp[zeroValue,typeInfo,M,g2]);have Q:¬(n=0\/A.size=0):=(by rw[<-Nat.mul_eq_zero];exact O);simp[execOp,ho,Instr.buildSlice,tI h1,zE M,I,Q,Z,newRow]at G⊢;simp[G];exact λh=>absurd h O
theorem znk{t e:TypeId}{n:Nat}{parts:Array (Nat×Operand)}{E:TypeInfo}{S:List PV}{G:List PO}(ho:o.op=.buildSlice t n parts)(H:P.underlying t=some (.slice e))(I:P.info? e=some E)(hz:xg P e=some S)
 (L:Qu (parts.toList.map (·.2))=some G) (hi:parts.toList.map (·.1)=List.range n) (J:n*E.size<=16777216) (B:n<=maxLen) (hk:PK.q P s (.bs E.size G) K):QS P o D ρ s a w K:=by
 simp only[PK.q]at hk;obtain⟨T,u,N,C,M,O,A⟩:=KF hR ho H I hz L hi J B hk;have hb:Below w.heap.size w (w.alloc (.cells u e)):=(tv _ _).alloc (Zp _) _;have Q:=O.mono (D':=λb o=>D b o\/w.heap.size<=b) (w':=w.alloc (.cells u e)) (λ_ _ h=>.inl h) λb o x _ F=>qa hb (qF F) F;refine⟨_,N,rfl,zlD M hb (.dat ?_) λ_ _ _=>trivial⟩;have:=jr (cap:=n) (k:=.z) (e:=e) (fr:=(0,0)) Q (tq w (.cells u e)) A a8 B (λ_=>a8) (λj _=>.inr (Zp _));rw[C]at this;exact this
end
section
variable {K:PV->Prop}(hR:Rd D ρ s (zB a) (zA o) w)
include hR
theorem kf{j:List Operand}{C:List PO}(u:Qu j=some C)(J:∀x∈j,x∈o.op.operands.toList)(E:zY (C.map λx=>(s.ev x).sh)=true):
 C.length=j.length/\∀(i:Nat) p,(C.map λx=>(s.ev x).sh)[i]?=some p->Dat D w ((j.map a.eval).getD i undef) p:=by
 obtain⟨H,I⟩:=kz u;refine⟨H,λi p u=>?_⟩;have F:=u;simp only[wh,ZZ]at u;obtain⟨K,A,rfl⟩:=u;have hi:i<j.length:=by rw[<-H];exact(Zw.1 A).1
 obtain⟨L,B,G⟩:=I i _ (Zv hi);rw[A]at B;cases B;have e:(j.map a.eval).getD i undef=a.eval j[i]:=by simp[hi]
 rw[e];unfold zY at E;rw[wN]at E;exact((hR.op G (J _ (XE hi))).data (by have:=E _ (wO F);rwa[PV.sh_isD]at this)).sh
omit hR in
theorem KG{f:FuncId}{E:List PV}{r:PV}{C:Array Value}(A:GL D w)(N:Cn P f E r)(G:C.size=E.length)(O:∀(i:Nat) p,E[i]?=some p->Dat D w (C.getD i undef) p)(U:(execOp a.eval o).run P w=.ok (.enter f C) w):
 ∀(next:Act->World->Prop)(Q:Exit->Act->World->Prop),(∀u B j,Below w.heap.size w B->(∀b o,D b o/\b<w.heap.size->j b o)->(∀b o,j b o->(D b o/\b<w.heap.size)\/w.heap.size<=b)->(∀b o,j b o->b<B.heap.size)->Dat j B u r->yW j (λk=>w.heap.size<=k) B u r->next (a.put o.dst u) B)->o.wp P a w next Q:=by
 intro next Q S
 show o.upon P a next Q ((execOp a.eval o).run P w)
 rw[U,Tc];have F:∀(i:Nat) p,E[i]?=some p->Dat (λb o=>D b o/\b<w.heap.size) w (C.getD i undef) p:=λi p T=>(O i p T).restrict;refine(N.2 _ w C (λx H=>⟨⟨(A x H).1,tr w ⟨0,0,_⟩ (A x H).2⟩,(A x H).2⟩) (λb o h=>h.2) G F).mono ?_;rintro e B ⟨v,j,rfl,hb,I,J,K,L,M⟩;exact S v B j hb I J K L M
omit hR in
theorem zcb{f:FuncId}{C:List PV}{r:PV}{E:Array Value}(A:GL D w)(H:Cn P f C r)(B:E.size=C.length)(I:∀(i:Nat) p,C[i]?=some p->Dat D w (E.getD i undef) p)(L:(execOp a.eval o).run P w=.ok (.enter f E) w)(hk:K r.strip):QS P o D ρ s a w K:=by
 refine⟨r.strip,hk,r.strip_own,λnext Q J=>KG A H B I L next Q λu M N hb O F S G T=>J u M hb ?_ λ_ _ _=>xA r.strip_isN⟩;refine(Rel.dat G.strip).mono (λb o h=>?_) (λ_ _ _ _ h=>h) (Zp _) λ_ _=>rfl;rcases F b o h with j|j
 .exact .inl j.1
 .exact .inr j
omit hR in
theorem Jk{f:FuncId}{u:List Operand}{c:Call}(ho:o.op=.call c)(B:c.callee=.value (.func f))(A:c.args.toList=u)(C:∀j w,(callFunc f j).run P w=.ok (.enter f j) w):
 (execOp a.eval o).run P w=.ok (.enter f (u.map a.eval).toArray) w:=by
 have e:c.args.map a.eval=(u.map a.eval).toArray:=WG.1 (by rw[WX,A]);have e2:a.eval (.func f)=.func (.func f) #[] #[]:=rfl;simp only[execOp,ho,resolve,B,e,e2,Deferred.ofValue,tH,tJ,tB,invoke];rw[show (#[]++(u.map a.eval).toArray++#[]:Array Value)=(u.map a.eval).toArray from by simp];exact C _ _
theorem znl{f:FuncId}{E:List Operand}{C:List PO}{c:Call}(ho:o.op=.call c)(B:c.callee=.value (.func f))(A:c.args.toList=E)(j:Qu E=some C)(hk:PK.q P s (.ca f C) K):QS P o D ρ s a w K:=by simp only[PK.q]at hk;obtain⟨r,u,H,hk⟩:=hk;obtain⟨F,G⟩:=kf hR j (λx I=>by rw[ho];simp only[Op.operands,Call.operands,B,WY,wF,A];exact .inr I) H;refine zcb hR.gl u (by simp[F]) (λi p j=>?_) (Jk ho B A u.1) hk;have:=G i p j;simpa using this
theorem znm{t:Tmp}{J:List Operand}{I:List PO}{c:Call}(ho:o.op=.call c)(M:c.callee=.value (.tmp t))(S:c.args.toList=J)(j:Qu J=some I)(hk:PK.q P s (.cl (.t t) I) K):QS P o D ρ s a w K:=by
 simp only[PK.q]at hk;have T:=hR.op (y:=.tmp t) (y':=.t t) rfl (by rw[ho];simp[Op.operands,Call.operands,M]);split at hk
 .rename_i f fs cs e;rw[e]at T;obtain⟨r,Q,E,hk⟩:=hk;have u:fs.all PV.isD=true/\zY (I.map λx=>(s.ev x).sh)=true/\cs.all PV.isD=true:=by unfold zY at E⊢;simp only[List.all_append,VS]at E;exact⟨E.1.1,E.1.2,E.2⟩
  obtain⟨H,L⟩:=kf hR j (λx Z=>by rw[ho];simp only[Op.operands,Call.operands,M,WY,wF,S];exact .inr Z) u.2.1;have N:∃B C,a.eval (.tmp t)=.func (.func f) B C/\B.size=fs.length/\C.size=cs.length/\(∀(i:Nat) p,fs[i]?=some p->Dat D w (B.getD i undef) p)/\(∀(i:Nat) p,cs[i]?=some p->Dat D w (C.getD i undef) p):=by
   have F:(PV.fn (.func f) fs cs).isD=true:=by
    have G:∀l:List PV,l.all PV.isD=true->l.all (λp=>!p.isB)=true:=λl h=>by
     rw[wN]at h⊢;intro p j;have:=h p j;cases p<;>first|rfl|cases this
    simp only[PV.isD,G _ u.1,G _ u.2.2,Bool.and_self]
   have:=T.data F;generalize a.eval (.tmp t)=z at this⊢;cases this with
   |fn f B C fs cs H L h3 h4=>exact⟨B,C,rfl,H,L,h3,h4⟩
  obtain⟨B,C,X,O,s2,U,V⟩:=N;have Y:(execOp a.eval o).run P w=.ok (.enter f (B++(J.map a.eval).toArray++C)) w:=(by have e:c.args.map a.eval=(J.map a.eval).toArray:=WG.1 (by rw[WX,S]);simp only[execOp,ho,resolve,M,e,X,Deferred.ofValue,tH,tJ,tB,invoke];exact Q.1 _ _);refine zcb hR.gl Q (by simp[H,O,s2]) (λi p j=>?_) Y hk;rw[wC];rcases wL i (fs.length+I.length)with hi|hi
  .rw[V2 a9]at j;rw[WL a9];rcases wL i fs.length with A|A
   .rw[V2 A]at j;rw[WL a8];have:=U i p j
    rwa[wC]at this
   .rw[V1 A]at j;rw[uW a8,O];have:=L _ p j;simpa[vj]using this
  .rw[V1 a9]at j;rw[uW a9];have:=V _ p j;rw[wC]at this;simpa[O,H]using this
 .exact hk.elim
theorem zpU{t:Tmp}{m:String}{j:List Operand}{F:List PO}{c:Call}(ho:o.op=.call c)(u:c.callee=.invoke (.tmp t) m)(H:c.args.toList=j)(X:Qu j=some F)(hk:PK.q P s (.iv (.t t) m F) K):QS P o D ρ s a w K:=by
 simp only[PK.q]at hk;have I:=hR.op (y:=.tmp t) (y':=.t t) rfl (by rw[ho];simp[Op.operands,Call.operands,u]);split at hk
 .rename_i T p e;rw[e]at I;obtain⟨f,V,r,G,A,hk⟩:=hk;have B:p.isD=true/\zY (F.map λx=>(s.ev x).sh)=true:=by unfold zY at A⊢;simp only[List.all_cons,VS,PV.sh_isD]at A;exact A
  obtain⟨O,Q⟩:=kf hR X (λx Y=>by rw[ho];simp only[Op.operands,Call.operands,u,WY,wF,H];exact .inr Y) B.2;have C:∃v,a.eval (.tmp t)=.iface T v/\Dat D w v p:=by
   have:=I.data (by simp[PV.isD]);generalize a.eval (.tmp t)=z at this⊢;cases this with
   |ifc t x p h=>exact⟨x,rfl,h⟩
  obtain⟨v,M,J⟩:=C;have N:(execOp a.eval o).run P w=.ok (.enter f (#[v]++(j.map a.eval).toArray)) w:=by
   have e:c.args.map a.eval=(j.map a.eval).toArray:=WG.1 (by rw[WX,H]);have L:(#[Value.iface T v]++(j.map a.eval).toArray).extract 1 (#[Value.iface T v]++(j.map a.eval).toArray).size=(j.map a.eval).toArray:=by
    apply Array.ext
    .simp
    .intro i S U;simp
   have e4:(#[Value.iface T v]++(j.map a.eval).toArray)[0]?=some (.iface T v):=b6;simp only[execOp,ho,resolve,u,e,M,tH,tJ,tB,invoke,e4,L,V v,G.1]
  refine zcb hR.gl G (by simp[O]) (λi q E=>?_) N hk;rw[wC];cases i with
  |zero=>simp only[Ul,wQ]at E;subst E;simpa using J.sh
  |succ i=>have:=Q i q (dK E);simpa[vj]using this
 .exact hk.elim
end
end
section
variable {P:Program}{o:Oper}{D:xT}{ρ:Nat->Nat}{nb:Nat}{s:PS}{a:Act}{w:World}
def sl_row{u:Value}{B:List (List PV)}{k:Ow}{sz:Nat}(h:Rel D ρ nb w u (.sl B k))(hs:∀e∈B,e.length=sz):∃(G:Option Addr) (o:Nat) (Q:List Value),u=.slice G B.length o/\B.length<=o/\o<=maxLen/\(k=.z->o=B.length) /\
 RowD D w sz Q B/\(B≠[]->∃b C,G=some ⟨b,C,none⟩/\∀j v,Q[j]?=some v->D b (C+j)/\w.cell? ⟨b,C+j,none⟩=some v):=by
 obtain⟨G,o,E,b,C,f,e1,N,hz,O,T,F,I,U⟩:=h.inv_sl;cases B with
 |nil=>exact⟨G,o,[],e1,N,O,hz,⟨b6,λi e h=>by simp at h,λj h=>by simp at h,λi e j p h=>by simp at h⟩,λh=>absurd rfl h⟩
 | cons e B=>
   have M:E=sz:=(F 0 e rfl).symm.trans (hs e b6);subst M;refine⟨G,o,(List.range ((e::B).length*E)).map f,e1,N,O,hz,⟨b6,F,λj V=>?_,λi S j p J P=>?_⟩,λL=>⟨b,C,T L,λj v H=>?_⟩⟩
   .have A:j<(e::B).length*E:=(dK V);rw[vj,wh,uK A];exact(I j A).2.2
   .have K:=zej (Zw.1 J).1 (show j<E by rw[<-F _ _ J];exact(Zw.1 P).1);rw[vj,wh,uK K];exact U i S j p J P
   .have A:j<(e::B).length*E:=(by have:=(Zw.1 H).1;simpa using this);rw[wh,uK A]at H;simp at H;subst H;exact⟨(I j A).1,(I j A).2.1⟩
def Xv{sz:Nat}{A:List Value}{B:List (List PV)}(h:RowD D w sz A B):∀u∈A,u.oneCell'=true:=λu C=>by
 obtain⟨j,o⟩:=wK C;have:=h.2.2.1 j (Zw.1 o).1
 rwa[vj,o]at this
structure ApOp(P:Program)(o:Oper)(x y:Operand)(t e:TypeId)(i:TypeInfo)(z:Value):Prop where
 ho:∃c,o.op=.call c/\c.callee=.builtin .append/\c.args=#[x,y]/\c.argTypes=#[t,t]
 ht:P.underlying t=some (.slice e)
 hi:P.info? e=some i
 hz:i.zero=some z
 hzs:z.cells.size=i.size
 hs:0<i.size
 hb:0<i.bytes
def ApOp.run{x y:Operand}{t e:TypeId}{i:TypeInfo}{z:Value}(h:ApOp P o x y t e i z){u v r:Value}{A:World}(F:a.eval x=u)(G:a.eval y=v)(E:(Builtin.append_ #[t,t] o.type #[u,v]).run P w=.ok r A):
 (execOp a.eval o).run P w=.ok (.value r) A:=by
 obtain⟨c,ho,C,B,j⟩:=h.ho;simp only[execOp,ho,resolve,C,B,j,ui,WA,ub,F,G,invoke,builtin,tH,tJ,tB,E]
def vl{t ty e:TypeId}{i:TypeInfo}(ht:P.underlying t=some (.slice e))(hi:P.info? e=some i)(u o:Option Addr)(n j c:Nat)(A:n<=j):
 (Builtin.append_ #[t,t] ty #[.slice u n j,.slice o 0 c]).run P w=.ok (.slice u n j) w:=by
 cases u<;>cases o<;>simp[Builtin.append_,tI ht,zE hi,Builtin.lenOf,A,Builtin.firstCells,loadCells,loadCellsFrom,storeCells]
def yJ{t ty e:TypeId}{i:TypeInfo}{z:Value}(ht:P.underlying t=some (.slice e))(hi:P.info? e=some i)(hz:i.zero=some z)(hzs:z.cells.size=i.size)(hb:0<i.bytes){ad:Option Addr}{K:Addr}{n m cap c:Nat}{olds o:List Value}(A:olds.length=n*i.size)(L:o.length=m*i.size)
 (C:n≠0->∃b,ad=some b/\∀j v,olds[j]?=some v->w.cell? (b.add j)=some v) (J:ad=none->cap=0) (B:∀j v,o[j]?=some v->w.cell? (K.add j)=some v) (H:cap<n+m) (G:(n+m)*i.bytes<=140737488355328) :
 ∃u M,(Builtin.append_ #[t,t] ty #[.slice ad n cap,.slice (some K) m c]).run P w=.ok (.slice (some ⟨w.heap.size,0,none⟩) (n+m) u) (w.drew.alloc (.cells M e))/\n+m<=u/\u<=maxLen/\M.size=u*i.size/\∀j,j<(olds++o).length->M[j]?=some ((olds++o).getD j undef):=by
 have U:n+m<=9223372036854775807:=by have:=Nat.le_mul_of_pos_right (n+m) hb;omega
 have I:=T4 (old:=cap) (need:=n+m) a8 G;have get:∀(u:Nat)(l:List Value),(∀j,j<l.length->(l.toArray++Builtin.zeroCells z.cells u)[j]?=some (l.getD j undef)):=λu l j F=>by rw[WL (dK F)];simp[F]
 have O:n+m<=maxLen:=c8
 cases ad with
 | none=>
   have N:=J rfl;subst N;have Q:n=0:=by
    rcases Wl n with h|h
    .exact h
    .obtain⟨b,e,_⟩:=C a8;cases e
   subst Q;have ho:olds=[]:=wJ (dK A);subst ho;have S:=run_append_nil (P:=P) w t ty e i z ht hi hz K m c o L B a8 a8 (by simp only[wn]at G;omega);refine⟨_,_,dK S,by simpa using TL w m 0 e,TD w m 0 e a8,?_,λj F=>by simpa using get _ o j (dK F)⟩;have:=TL w m 0 e;simp only[Array.size_append,WC,size_zeroCells,hzs,L,<-W7];congr 1;omega
 | some b=>
   have E:∀j v,olds[j]?=some v->w.cell? (b.add j)=some v:=by
    rcases Wl n with h|h
    .subst h;have ho:olds=[]:=wJ (dK A);subst ho;intro j v V;simp at V
    .obtain⟨b2,e,T⟩:=C a8;cases e;exact T
   have S:=run_append_grow (P:=P) w t ty e i z ht hi hz b n cap olds A E K m c o L B H a8 I;refine⟨_,_,S,TL w (n+m) cap e,TD w (n+m) cap e O,?_,λj F=>?_⟩
   .have:=TL w (n+m) cap e;simp only[Array.size_append,WC,size_zeroCells,hzs,L,A,<-W7];congr 1;omega
   .have:=get (grownCap w (n+m) cap e-(n+m)) (olds++o) j F;rw[<-this];simp
def zjv{x y:Operand}{t e:TypeId}{i:TypeInfo}{z:Value}(h:ApOp P o x y t e i z){B A:List (List PV)}{k:Ow}(hx:Rel D ρ nb w (a.eval x) (.sl B .z))(hy:Rel D ρ nb w (a.eval y) (.sl A k))
 (h1:∀e∈B,e.length=i.size) (h2:∀e∈A,e.length=i.size) (I:(B.length+A.length)*i.bytes<=140737488355328) :
 (A=[]/\(execOp a.eval o).run P w=.ok (.value (a.eval x)) w)\/∃u E G,(execOp a.eval o).run P w=.ok (.value (.slice (some ⟨w.heap.size,0,none⟩) (B.length+A.length) u)) (w.drew.alloc (.cells E e))/\(B++A).length<=u/\u<=maxLen/\E.size=u*i.size /\
   RowD D w i.size G (B++A)/\∀j,j<G.length->E[j]?=some (G.getD j undef):=by
 obtain⟨V,H,G,e1,c1,c2,Y,T,N⟩:=sl_row hx h1;obtain⟨X,u,M,e2,d1,d2,_,U,Z⟩:=sl_row hy h2;have F:=Y rfl;by_cases C:A=[]
 .subst C;left;refine⟨rfl,?_⟩;rw[e1];exact h.run e1 e2 (vl h.ht h.hi _ _ _ _ _ a8)
 .right;obtain⟨b',S,rfl,g3⟩:=Z C;have Q:0<A.length:=wX.2 C;obtain⟨cp,E,hr,k1,k2,k3,k4⟩:=yJ (P:=P) (w:=w) (ty:=o.type) (c:=u) (ad:=V) (cap:=H) h.ht h.hi h.hz h.hzs h.hb T.1 U.1 (λJ=>by
   obtain⟨b,L,rfl,g4⟩:=N (by intro e;subst e;simp at J);exact⟨_,rfl,λj v K=>by rw[zh];exact(g4 j v K).2⟩) (λJ=>by
   by_cases O:B=[]
   .subst O;simpa using F
   .obtain⟨b,L,e,_⟩:=N O;rw[J]at e;cases e) (λj v K=>by rw[zh];exact(g3 j v K).2) a8 I
  exact⟨cp,E,G++M,h.run e1 e2 hr,dK k1,k2,k3,T.append U,k4⟩
section
variable {K:PV->Prop}(hR:Rd D ρ s (zB a) (zA o) w)
include hR
theorem znj{x y:Operand}{O Q:PO}{t e:TypeId}{i:TypeInfo}{z:Value}(h:ApOp P o x y t e i z)(F:po x=some O)(hy:po y=some Q)(hk:PK.q P s (.ap O Q i.size i.bytes) K):QS P o D ρ s a w K:=by
 simp only[PK.q]at hk;obtain⟨c,ho,N,C,_⟩:=h.ho;have u:=hR.op F (by rw[ho];simp[Op.operands,Call.operands,N,C]);have E:=hR.op hy (by rw[ho];simp[Op.operands,Call.operands,N,C]);split at hk
 .rename_i es ex;obtain⟨ab,k,ey,h1,h2,h3,M⟩:=y8 hk;rw[ex]at u;rw[ey]at E;rcases zjv h u E h1 h2 h3 with⟨rfl,H⟩|⟨A,B,vs,H,k1,k2,k3,k4,k5⟩
  .obtain⟨J,G,sz,b,I,f,L,S,T,U,V,X,Y,Z⟩:=u.inv_sl;refine⟨_,M,rfl,zby H ?_ λ_ _ _=>.inl ⟨J,by rw[L,T rfl];simp⟩⟩;rw[Wc,L];exact .dat (.sl J G sz es _ b I f S (λh=>by cases h) U V X Y Z)
  .have hb:Below w.heap.size w (w.drew.alloc (.cells B e)):=(show Below w.heap.size w w.drew from ⟨rfl,rfl,rfl,Zp _,λ_ _=>rfl⟩).alloc (Zp _) _;refine⟨_,M,rfl,zlD H hb (.dat ?_) λ_ _ hN=>.inr ⟨w.heap.size,A,B,e,hN.1,b6,tq w.drew (.cells B e),k3⟩⟩;have k6:=k4.mono (D':=λb o=>D b o\/w.heap.size<=b) (w':=w.drew.alloc (.cells B e)) (λ_ _ h=>.inl h) λb o x _ F=>qa hb (qF F) F;have:=jr (k:=.n i.size) (e:=e) (fr:=(0,0)) k6 (tq w.drew (.cells B e)) k5 k1 k2 (λh=>by cases h) (λj _=>.inr (Zp _));simpa using this
 .exact hk.elim
end
end
end Go.Proofs.YtmpnbdhadjfbhaaGreatDoor
