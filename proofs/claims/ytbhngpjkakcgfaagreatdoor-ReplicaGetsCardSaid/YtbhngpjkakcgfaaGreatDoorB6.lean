import Derived.ChangeKeysEq
import Derived.Laws.Concat
import Derived.Test.YtbhngpjkakcgfaaGreatDoorB5
set_option linter.all false
namespace Go.Proofs.YtbhngpjkakcgfaaGreatDoor
def tA:=@Go.Result.andThen_ok
def tG:=@Go.Sem.run_bind
def tH:=@Go.run_underlying
def tI:=@Go.Sem.run_pure
def t9:=@Go.Oper.upon_enter
def Tw:=@Go.Oper.wp_mono
section
open Go.RowKit
def zlE(f:Nat->Nat)(e:Edge):Edge:={ e with on:=f e.on }
def jA(f:Nat->Nat)(o:Oper):Oper:={ o with after:=o.after.map (zlE f),guard:=o.guard.map λy=>(f y.1,y.2) }
def z8(l:List Oper)(σ:List Nat):List Oper:=σ.map λi=>jA (λj=>σ.idxOf j) (l.getD i default)
def q9(n:Nat)(σ:List Nat):Bool:=σ.length == n && (List.range n).all (λi=>decide (σ.idxOf i<n)) && (List.range n).all λk=>decide (σ.getD k n<n) && decide (σ.idxOf (σ.getD k n)=k)
section
variable {P:Program}{Q:Exit->Act->World->Prop}{l:List Oper}{σ:List Nat}
def Xq(f:Nat->Nat)(o:Oper)(a:Act)(w:World)(K:Act->World->Prop):(jA f o).wp P a w K Q=o.wp P a w K Q:=by cases o;rfl
def zbD(f:Nat->Nat)(o:Oper)(a:Act)(w:World):(jA f o).asks P a w=o.asks P a w:=by cases o;rfl
def qU{n:Nat}(h:q9 n σ=true):σ.length=n/\(∀i,i<n->σ.idxOf i<n)/\∀k,k<n->σ.getD k n<n/\σ.idxOf (σ.getD k n)=k:=by unfold q9 at h;simp only[Vq,tk,wL,WN,wG]at h;exact⟨h.1.1,h.1.2,h.2⟩
def vP{n i:Nat}(h:q9 n σ=true)(hi:i<n):σ.getD (σ.idxOf i) n=i:=by obtain⟨u,j,w⟩:=qU h;have y:=j i hi;rw[Q9,Zv a8];exact List.getElem_idxOf a8
def VD{n j:Nat}(h:q9 n σ=true)(B:n<=j):σ.idxOf j=n:=by obtain⟨u,A,w⟩:=qU h;rw[<-u];refine List.idxOf_eq_length λy=>?_;obtain⟨k,hk,e⟩:=Wk y;have:=(w k a8).1;rw[Q9,Zv hk]at this;simp at this;omega
def Qt{k:Nat}(h:q9 l.length σ=true)(hk:k<l.length):∃o,l[σ.getD k l.length]?=some o/\(z8 l σ)[k]?=some (jA (λj=>σ.idxOf j) o):=by
 obtain⟨y,A,w⟩:=qU h;have u:=(w k hk).1;refine⟨l[σ.getD k l.length],Zv u,?_⟩;unfold z8;have e:σ[k]?=some (σ.getD k l.length):=by rw[Q9,Zv a8];rfl
 rw[wj,e];simp only[uP];congr 2;rw[Q9,Zv u];rfl
structure PermM(n:Nat)(σ:List Nat)(m m':Array Bool):Prop where
 s:m.size=n
 s':m'.size=n
 h:∀k,k<n->m'.getD k false=m.getD (σ.getD k n) false
def PermM.at{n:Nat}{m y:Array Bool}(w:q9 n σ=true)(h:PermM n σ m y)(j:Nat):y.getD (σ.idxOf j) false=m.getD j false:=by
 obtain⟨B,A,C⟩:=qU w;rcases wK j n with u|u
 .rw[h.h _ (A j u),vP w u]
 .rw[VD w u];have e1:y.getD n false=false:=by rw[ww,W6 (by rw[h.s'];exact Zp _)];rfl
  have e2:m.getD j false=false:=(by rw[ww,W6 (by rw[h.s];exact u)];rfl);rw[e1,e2]
def getD_tf{m:Array Bool}{i:Nat}(h:i<m.size):m.getD i true=m.getD i false:=by simp[h]
def PermM.set{n k:Nat}{m y:Array Bool}(B:q9 n σ=true)(h:PermM n σ m y)(hk:k<n):PermM n σ (m.setIfInBounds (σ.getD k n) true) (y.setIfInBounds k true):=by
 obtain⟨C,E,w⟩:=qU B;refine⟨dJ h.s,dJ h.s',λj u=>?_⟩;by_cases e:j=k
 .subst e;rw[zl (by rw[h.s'];exact u),zl (by rw[h.s];exact(w j u).1)]
 .have A:σ.getD j n≠σ.getD k n:=λe2=>e (by have:=(w j u).2;have:=(w k hk).2;rw[e2]at *;omega);rw[zj e,zj A,h.h j u]
def xG{j:Array Oper}{m:Array Bool}{i:Nat}:i∈Region.ready .any j m↔i<j.size/\m.getD i true=false/\∃o,j[i]?=some o/\(o.after.all λe=>!Region.binds .any e || m.getD e.on false)=true:=by unfold Region.ready;simp only[WB,WN,Vq,Wn];refine uQ λhi=>uQ λ_=>?_;rw[We hi];simp
def jZ{m u:Array Bool}{k:Nat}(y:q9 l.length σ=true)(h:PermM l.length σ m u)(hk:k<l.length):k∈Region.ready .any (z8 l σ).toArray u↔σ.getD k l.length∈Region.ready .any l.toArray m:=by
 obtain⟨E,F,A⟩:=qU y;obtain⟨o,B,C⟩:=Qt y hk;have w:(z8 l σ).length=l.length:=by unfold z8;simpa using E
 have e:(u.getD k true=false)↔(m.getD (σ.getD k l.length) true=false):=by rw[getD_tf (by rw[h.s'];exact hk),getD_tf (by rw[h.s];exact(A k hk).1),h.h k hk]
 have e2:((jA (λj=>σ.idxOf j) o).after.all λe=>!Region.binds .any e || u.getD e.on false)=(o.after.all λe=>!Region.binds .any e || m.getD e.on false):=by show ((o.after.map (zlE λj=>σ.idxOf j)).all λe=>!Region.binds .any e || u.getD e.on false)=_;rw[Array.all_map];congr 1;funext e;show (!Region.binds .any e || u.getD (σ.idxOf e.on) false)=_;rw[h.at y]
 rw[xG,xG,e];simp only[WD,w,wF,B,C,wO,exists_eq_left',e2,hk,(A k hk).1]
def J6(y:q9 l.length σ=true)(u:Array Value)(j:Nat):yielded (z8 l σ).toArray u (σ.idxOf j)=yielded l.toArray u j:=by
 obtain⟨E,F,G⟩:=qU y;have B:(z8 l σ).length=l.length:=by unfold z8;simpa using E
 have e:((z8 l σ).toArray[σ.idxOf j]?).bind (·.dst)=(l.toArray[j]?).bind (·.dst):=by
  simp only[wF];rcases wK j l.length with w|w
  .obtain⟨o,A,C⟩:=Qt y (F j w);rw[vP y w]at A;rw[A,C];rfl
  .rw[VD y w,WW a8,WW w]
 unfold yielded;rw[e]
def VE(w:q9 l.length σ=true)(o:Oper)(u:Array Value):Region.wanted (jA (λj=>σ.idxOf j) o) (yielded (z8 l σ).toArray u)=Region.wanted o (yielded l.toArray u):=by
 unfold Region.wanted jA;cases o.guard with
 |none=>rfl
 |some y=>obtain⟨j,b⟩:=y;simp only[uP,J6 w]
def wpAny_perm(A:q9 l.length σ=true):∀(j:Nat)(m y:Array Bool)(a:Act)(w:World),PermM l.length σ m y->wpAny P .any (z8 l σ).toArray Q j y a w->wpAny P .any l.toArray Q j m a w:=by
 obtain⟨K,I,N⟩:=qU A;have nil:∀{m y:Array Bool},PermM l.length σ m y->Region.ready .any l.toArray m=[]->Region.ready .any (z8 l σ).toArray y=[]:=λ{m y} h e=>by refine Ww.2 λk hk=>?_;have B:(z8 l σ).length=l.length:=(by unfold z8;simpa using K);have G:k<l.length:=(by have:=(xG.1 hk).1;simp only[WD,B]at this;exact this);have:=(jZ A h G).1 hk;rw[e]at this;cases this
 have E:∀{m y:Array Bool},PermM l.length σ m y->Region.ready .any (z8 l σ).toArray y=[]->Region.ready .any l.toArray m=[]:=λ{m y} h e=>by refine Ww.2 λi hi=>?_;have u:i<l.length:=(by simpa using (xG.1 hi).1);have:=(jZ A h (I i u)).2 (by rw[vP A u];exact hi);rw[e]at this;cases this
 intro j;induction j with
 |zero=>intro m y a w h C;exact⟨E h C.1,C.2⟩
 | succ j ih=>
   intro m y a w h C;refine⟨λe=>C.1 (nil h e),λi hi=>?_⟩;have u:i<l.length:=(by simpa using (xG.1 hi).1);have hk:=I i u;have M:=(jZ A h hk).2 (by rw[vP A u];exact hi);have hs:=C.2 _ M;obtain⟨o,H,J⟩:=Qt A hk;have F:=h.set A hk;rw[vP A u]at H F;unfold wpOp at hs⊢;simp only[wF,H,J,VE A,Xq,zbD]at hs⊢;split
   .rename_i hwa;rw[vj hwa]at hs;exact hs.imp (Tw λa w L=>ih _ _ a w F L) id
   .rename_i hwa;rw[Vm hwa]at hs;exact ih _ _ _ w F hs
def xd(y:q9 l.length σ=true){a:Act}{w:World}(h:wpAny P .any (z8 l σ).toArray Q (z8 l σ).toArray.size (Array.replicate (z8 l σ).toArray.size false) a w):wpAny P .any l.toArray Q l.toArray.size (Array.replicate l.toArray.size false) a w:=by
 obtain⟨A,B,C⟩:=qU y;have j:(z8 l σ).length=l.length:=by unfold z8;simpa using A
 simp only[WD,j]at h⊢;refine wpAny_perm y _ _ _ a w ⟨b6,b6,λk hk=>?_⟩ h;have u:∀i:Nat,(Array.replicate l.length false).getD i false=false:=λi=>by
  simp only[ww,uo];split<;>rfl
 rw[u,u]
end
end
section
open Go.RowKit
attribute [local go_sem] Oper.semAt_some
def zB(a:Act):Nat->Value:=λt=>a.tmps.getD t undef
def zai(D:Qk)(w:World)(v:Value):Dat D w v (Q6 v):=by
 unfold Q6;split
 .exact .sl none 0 1 [] .sh 0 0 (λ_=>undef) (Zp _) (λh=>by cases h) (X3 _) (λh=>absurd rfl h) (λi e h=>by simp at h) (λj h=>absurd h b6) (λi e j p h=>by simp at h)
 .exact .v _
def zfT(D:Qk)(w:World)(v:Value):Dat D w v (ofV v):=by
 unfold ofV;split
 .exact .sl none 0 1 [] .z 0 0 (λ_=>undef) (Zp _) (λ_=>rfl) (X3 _) (λh=>absurd rfl h) (λi e h=>by simp at h) (λj h=>absurd h b6) (λi e j p h=>by simp at h)
 .rename_i vs;split
  .rename_i hall;refine .agg vs _ b6 (λi hi=>?_) λi p y=>?_
   .rw[wL]at hall;have u:i<vs.size:=(dJ hi);exact hall _ (by simp[u])
   .simp only[wj,ZZ]at y;obtain⟨v,A,rfl⟩:=y;have:vs.getD i undef=v:=(by simp at A;simp[A]);rw[this];exact zai D w v
  .exact .v _
 .exact .v _
structure Rd(D:Qk)(ρ:Nat->Nat)(s:PS)(x:Nat->Value)(ts:List Nat)(w:World):Prop where
 slots:∀t∈ts,Rel D ρ s.b.length w (x t) (s.get t)
 boxes:∀(i:Nat) cs,s.b[i]?=some cs->zaA ⟨D,ρ⟩ s.b.length w i cs
 gl:GL D w
def zbZ(u:Nat->Value)(j:Nat)(s:PS)(x:Nat->Value)(y:List Nat)(w:World):Prop:=
 j<=w.heap.size/\∀t∈y,NewOk u j w (x t) (s.get t)/\((s.get t).own≠none->u t=x t)
def Qok(P:Program)(o:Oper)(s:PS)(ρ:Nat->Nat)(D:Qk)(a:Act)(w:World)(p:PV):Prop:=
 ∀(next:Act->World->Prop)(Q:Exit->Act->World->Prop),(∀u j,Below w.heap.size w j->Rel (λb o=>D b o\/w.heap.size<=b) ρ s.b.length j u p->(∀A y,zbZ A y s (zB a) (zA o) w->NewOk A y j u p)->next (a.put o.dst u) j)->o.wp P a w next Q
variable {P:Program}{o:Oper}{D:Qk}{ρ:Nat->Nat}{nb:Nat}{s:PS}{a:Act}{w:World}
def zby{u:Value}{p:PV}(C:(execOp a.eval o).run P w=.ok (.value u) w)(h:Rel D ρ s.b.length w u p)(A:∀y j,zbZ y j s (zB a) (zA o) w->NewOk y j w u p):Qok P o s ρ D a w p:=by
 intro next Q B
 show o.upon P a next Q ((execOp a.eval o).run P w)
 rw[C];exact B u w (tu _ _) (h.mono (λ_ _ h=>.inl h) (λ_ _ _ _ h=>h) (Zp _) λ_ _=>rfl) A
def zlD{u:Value}{p:PV}{j:World}(E:(execOp a.eval o).run P w=.ok (.value u) j)(hb:Below w.heap.size w j)(h:Rel (λb o=>D b o\/w.heap.size<=b) ρ s.b.length j u p)(B:∀A y,zbZ A y s (zB a) (zA o) w->NewOk A y j u p):Qok P o s ρ D a w p:=by
 intro next Q C
 show o.upon P a next Q ((execOp a.eval o).run P w)
 rw[E];exact C u j hb h B
def Xk{y:Operand}{u:PO}(j:po y=some u)(h:∀t,y=.tmp t->Rel D ρ nb w (zB a t) (s.get t)):Rel D ρ nb w (a.eval y) (s.ev u):=by
 cases y with
 |tmp t=>cases j;exact h t rfl
 |const v=>cases j;exact .dat (zfT D w v)
 |func f=>cases j;exact .dat (.fn (.func f) #[] #[] [] [] rfl rfl (λi p h=>by simp at h) (λi p h=>by simp at h))
 |global g=>cases j
def Rd.at{j:List Nat}(h:Rd D ρ s (zB a) j w){y:Operand}{u:PO}(A:po y=some u)(ht:∀t,y=.tmp t->t∈j):Rel D ρ s.b.length w (a.eval y) (s.ev u):=
 Xk A λt e=>h.slots t (ht t e)
def Rel.inv_agg{u:Value}{j:List PV}(h:Rel D ρ nb w u (.agg j)):∃y:Array Value,u=.agg y/\y.size=j.length/\(∀i,i<j.length->(y.getD i undef).oneCell'=true)/\∀(i:Nat) p,j[i]?=some p->Dat D w (y.getD i undef) p:=by
 rcases h with(h|⟨i,o,h,_⟩)|⟨f,va,vb,fs,j,h,_⟩
 .cases h with|agg y j hs h1 h=>exact⟨y,rfl,hs,h1,h⟩
 .cases h
 .cases h
def Rel.inv_tup{u:Value}{j:List PV}(h:Rel D ρ nb w u (.tup j)):∃y:Array Value,u=.tuple y/\y.size=j.length/\∀(i:Nat) p,j[i]?=some p->Dat D w (y.getD i undef) p:=by
 rcases h with(h|⟨i,o,h,_⟩)|⟨f,va,vb,fs,j,h,_⟩
 .cases h with|tup y j hs h=>exact⟨y,rfl,hs,h⟩
 .cases h
 .cases h
def Rel.inv_ifc{u:Value}{t:TypeId}{p:PV}(h:Rel D ρ nb w u (.ifc t p)):∃x,u=.iface t x/\Dat D w x p:=by
 rcases h with(h|⟨i,o,h,_⟩)|⟨f,va,vb,fs,cs,h,_⟩
 .cases h with|ifc t x p h=>exact⟨x,rfl,h⟩
 .cases h
 .cases h
def Rel.inv_bx{u:Value}{i o:Nat}(h:Rel D ρ nb w u (.bx i o)):i<nb/\u=.pointer (some ⟨ρ i,o,none⟩):=by
 rcases h with(h|⟨i,o,h,hi,hu⟩)|⟨f,va,vb,fs,cs,h,_⟩
 .cases h
 .cases h;exact⟨hi,hu⟩
 .cases h
def Rel.inv_cp{u:Value}{A:List PV}{k:Nat}(h:Rel D ρ nb w u (.cp A k)):∃(b y:Nat) (f:Nat->Value),u=.pointer (some ⟨b,y+k,none⟩)/\(∀j,j<A.length->D b (y+j)/\w.cell? ⟨b,y+j,none⟩=some (f j)/\(f j).oneCell'=true)/\∀(j:Nat) p,A[j]?=some p->Dat D w (f j) p:=by
 rcases h with(h|⟨i,o,h,_⟩)|⟨f,va,vb,fs,A,h,_⟩
 .cases h with|cp b y A o u h1 h2=>exact⟨b,y,u,rfl,h1,h2⟩
 .cases h
 .cases h
def Rel.inv_sl{u:Value}{B:List (List PV)}{k:Ow}(h:Rel D ρ nb w u (.sl B k)):∃(C:Option Addr) (y sz b A:Nat) (f:Nat->Value),u=.slice C B.length y/\B.length<=y/\(k=.z->y=B.length)/\y<=maxLen/\(B≠[]->C=some ⟨b,A,none⟩) /\
 (∀(i:Nat) e,B[i]?=some e->e.length=sz)/\(∀j,j<B.length*sz->D b (A+j)/\w.cell? ⟨b,A+j,none⟩=some (f j)/\(f j).oneCell'=true)/\∀(i:Nat) e (j:Nat) p,B[i]?=some e->e[j]?=some p->Dat D w (f (i*sz+j)) p:=by
 rcases h with(h|⟨i,o,h,_⟩)|⟨f,va,vb,fs,cs,h,_⟩
 .cases h with|sl a y sz B o b A u hc hz hm ha hsz hD h=>exact⟨a,y,sz,b,A,u,rfl,hc,hz,hm,ha,hsz,hD,h⟩
 .cases h
 .cases h
def xE{p:PV}{K:Bool->Prop}{u:Value}(h:qV p K)(j:Rel D ρ nb w u p):∃b,u=.bool b/\p=.v (.bool b)/\K b:=by
 unfold qV at h;split at h
 .exact⟨_,j.v_inv,rfl,h⟩
 .exact h.elim
def yu{p:PV}{K:IntKind->Int->Prop}{u:Value}(h:vR p K)(j:Rel D ρ nb w u p):∃k n,u=.int k n/\p=.v (.int k n)/\K k n:=by
 unfold vR at h;split at h
 .exact⟨_,_,j.v_inv,rfl,h⟩
 .exact h.elim
def y8{p:PV}{K:List (List PV)->Prop}(h:QA p K):∃j k,p=.sl j k/\K j:=by
 unfold QA at h;split at h
 .exact⟨_,_,rfl,h⟩
 .exact h.elim
def kC{k:IntKind}{n:Int}{K:PV->Prop}(h:qar k n K):K (.v (.int k (k.wrap n))):=by
 unfold qar at h;split at h
 .obtain⟨⟨j,w⟩,u⟩:=h;have:IntKind.i64.wrap n=n:=IntWalk.i64_in _ ⟨j,a8⟩;rw[this];exact u
 .exact h
def zd0{op:BinOp}{k:IntKind}{x y:Int}{K:PV->Prop}(t:TypeId)(h:Xo op k x y K):∃u,(binOp op t (.int k x) (.int k y)).run P w=.ok u w/\K (.v u):=by
 unfold Xo at h;split at h;case h_1=>exact⟨_,by simp[binOp,Op.intArith],kC h⟩
 case h_2=>exact⟨_,by simp[binOp,Op.intArith],kC h⟩
 case h_3=>exact⟨_,by simp[binOp,Op.intArith],kC h⟩
 case h_4=>exact⟨_,by simp[binOp,Op.intDiv,h.1],kC h.2⟩
 case h_5=>exact⟨_,by simp[binOp,Op.intDiv,h.1],h.2⟩
 case h_6=>exact⟨.bool (decide (x=y)),by simp[binOp,Op.intCmp];rfl,h⟩
 case h_7=>exact⟨.bool (!decide (x=y)),by simp[binOp,Op.intCmp];rfl,h⟩
 case h_8=>exact⟨_,by simp[binOp,Op.intCmp],h⟩
 case h_9=>exact⟨_,by simp[binOp,Op.intCmp],h⟩
 case h_10=>exact⟨_,by simp[binOp,Op.intCmp],h⟩
 case h_11=>exact⟨_,by simp[binOp,Op.intCmp],h⟩
 case h_12=>exact⟨_,by simp[binOp,Op.shift,Int.not_lt.2 h.1];rfl,h.2⟩
 case h_13=>exact h.elim
def X0(op:BinOp)(t:TypeId)(x y:Operand)(k j:IntKind)(m n:Int):(eqGuard op t x y (.int k m) (.int j n)).run P w=.ok () w:=by
 unfold eqGuard;split<;>simp
def zdX{op:BinOp}{p q:PV}{K:PV->Prop}{u v:Value}(t:TypeId)(x y:Operand)(h:QB op p q K)(B:Rel D ρ nb w u p)(C:Rel D ρ nb w v q):
 ∃r,(do eqGuard op t x y u v;binOp op t u v:Sem Value).run P w=.ok r w/\K (.v r):=by
 unfold QB at h;split at h
 .obtain rfl:=B.v_inv;obtain rfl:=C.v_inv;obtain⟨rfl,h⟩:=h;obtain⟨r,j,A⟩:=zd0 (P:=P) (w:=w) t h;exact⟨r,by simp[X0,j],A⟩
 .exact h.elim
def kh(op:BinOp)(t:TypeId)(x y:Operand)(m n:Bool):(eqGuard op t x y (.bool m) (.bool n)).run P w=.ok () w:=by
 unfold eqGuard;split<;>simp
def JD{t:TypeId}(ht:P.underlying t=some .bool)(m n:Bool):(Op.equal t (.bool m) (.bool n)).run P w=.ok (m == n) w:=by unfold Op.equal Op.maxDepth;rw[show (10000:Nat)=9999+1 from rfl];unfold Op.equalIn;simp[tH ht]
def X1(op:BinOp)(t:TypeId)(x:Operand):(eqGuard op t x (.const .nilIface) .nilIface .nilIface).run P w=.ok () w:=by
 unfold eqGuard;cases op<;>cases x<;>simp
def Y5(op:BinOp)(t j:TypeId)(x y:Operand)(v:Value):(eqGuard op t x y (.iface j v) .nilIface).run P w=.ok () w:=by
 unfold eqGuard;cases op<;>simp
def za3{t:TypeId}{ms}(ht:P.underlying t=some (.interface ms)):(Op.equal t .nilIface .nilIface).run P w=.ok true w:=by unfold Op.equal Op.maxDepth;rw[show (10000:Nat)=9999+1 from rfl];unfold Op.equalIn;simp[tH ht]
def JE{t:TypeId}{ms}(ht:P.underlying t=some (.interface ms))(j:TypeId)(v:Value):(Op.equal t (.iface j v) .nilIface).run P w=.ok false w:=by unfold Op.equal Op.maxDepth;rw[show (10000:Nat)=9999+1 from rfl];unfold Op.equalIn;simp[tH ht]
def Y7{l:List PV}{j:Array Value}{i:Nat}{p:PV}(hs:j.size=l.length)(u:l[i]?=some p):i<j.size:=by rw[hs];exact(Zw.1 u).1
def CellsR(D:Qk)(ρ:Nat->Nat)(nb:Nat)(w:World)(u:Value)(j:List PV):Prop:=
 u.cells.size=j.length/\∀(i:Nat) p,j[i]?=some p->Rel D ρ nb w (u.cells.getD i undef) p/\(u.cells.getD i undef).oneCell'=true
def yG{u:Value}{p:PV}(h:Rel D ρ nb w u p)(y:u.oneCell'=true):CellsR D ρ nb w u [p]:=by
 have e:u.cells=#[u]:=by cases u<;>first|rfl|cases y
 refine⟨by rw[e];rfl,λi q j=>?_⟩;have hi:i=0:=by have:=(Zw.1 j).1;simpa using this
 subst hi;simp at j;subst j;rw[e];exact⟨h,y⟩
def xY{p:PV}{K:List PV->Prop}{u:Value}(h:qW p K)(j:Rel D ρ nb w u p):∃y,K y/\CellsR D ρ nb w u y:=by
 unfold qW at h;split at h
 .obtain⟨E,rfl,hs,B,C⟩:=j.inv_agg;exact⟨_,h,hs,λi p A=>⟨.dat (C i p A),B i (Zw.1 A).1⟩⟩
 .obtain rfl:=j.v_inv;exact⟨_,h.2,yG j h.1⟩
 .obtain⟨_,_,_,_,_,_,rfl,_⟩:=j.inv_sl;exact⟨_,h,yG j rfl⟩
 .obtain⟨_,_,_,rfl,_⟩:=j.inv_cp;exact⟨_,h,yG j rfl⟩
 .obtain⟨_,rfl⟩:=j.inv_bx;exact⟨_,h,yG j rfl⟩
 .refine⟨_,h,yG j ?_⟩;rcases j with(j|⟨i,o,j,_⟩)|⟨f,va,vb,fs,y,_,rfl,_⟩
  .cases j;rfl
  .cases j
  .rfl
 .obtain⟨_,rfl,_⟩:=j.inv_ifc;exact⟨_,h,yG j rfl⟩
 .exact h.elim
def xy{t:TypeId}{d:TypeDesc}(h:P.underlying t=some d):(isAgg t).run P w=.ok (Qb d) w:=by
 unfold isAgg;simp only[tG,tH h,tA];cases d<;>simp[Qb]
def zE{t:TypeId}{i:TypeInfo}(h:P.info? t=some i):(sizeOf t).run P w=.ok i.size w:=by simp[sizeOf,typeInfo,h]
def vT{t:TypeId}{j:Bool}{n:Nat}(h:XH P t=some (j,n)):∃i d,P.info? t=some i/\P.underlying t=some d/\Qb d=j/\i.size=n:=by unfold XH at h;simp only[Z3,ZZ]at h;obtain⟨i,hi,d,u,e⟩:=h;cases e;exact⟨i,d,hi,u,rfl,rfl⟩
def Zs{t:TypeId}{n:Nat}{j:Addr}{v:Value}(h:XH P t=some (false,n))(A:w.cell? j=some v):(loadVar t j).run P w=.ok v w:=by obtain⟨i,d,B,u,y,C⟩:=vT h;simp[loadVar,xy u,y,A]
def Vo{t:TypeId}{n:Nat}{u:Addr}{f:Nat->Value}(h:XH P t=some (true,n))(E:∀j,j<n->w.cell? (u.add j)=some (f j)):(loadVar t u).run P w=.ok (.agg ((List.range n).map f).toArray) w:=by obtain⟨i,d,y,A,B,C⟩:=vT h;subst C;simp[loadVar,xy A,B,zE y,run_loadCells w u i.size f E]
def zh(b o j:Nat):(⟨b,o,none⟩:Addr).add j=⟨b,o+j,none⟩:=by unfold Addr.add;split<;>simp_all
def Qv{t:TypeId}{C:Bool}{n b B o:Nat}{E:List PV}{f:Nat->Value}{K:PV->Prop}(hs:XH P t=some (C,n))(A:VI E o C n K)
 (G:∀j,j<E.length->w.cell? ⟨b,B+j,none⟩=some (f j)/\(f j).oneCell'=true) (I:∀(j:Nat) p,E[j]?=some p->Rel D ρ nb w (f j) p) (L:C=true->zY ((E.drop o).take n)=true) :
 ∃u p,(loadVar t ⟨b,B+o,none⟩).run P w=.ok u w/\Rel D ρ nb w u p/\K p:=by
 unfold VI at A;cases C with
 | true=>
   obtain⟨M,J⟩:=A;refine⟨_,_,Vo (f:=λj=>f (o+j)) hs (λj N=>?_),?_,J⟩
   .rw[zh,Wr];exact(G _ a8).1
   .refine .dat (.agg _ _ a9 (λi hi=>?_) λi p y=>?_)
    .have H:i<n:=(by simp at hi;omega);have:((List.range n).map λj=>f (o+j)).toArray.getD i undef=f (o+i):=(by simp[H]);rw[this];exact(G _ a8).2
    .have hi:i<n:=(by have:=(Zw.1 y).1;simp at this;omega);have:((List.range n).map λj=>f (o+j)).toArray.getD i undef=f (o+i):=(by simp[hi]);rw[this];have F:=L rfl;unfold zY at F;rw[wL]at F;refine(I _ _ ?_).data (F p (wM y));rw[wt,vj hi,Wj]at y;exact y
 | false=>
   simp only at A;split at A
   .rename_i p y;exact⟨_,p,Zs hs (G o (Zw.1 y).1).1,I _ _ y,A⟩
   .exact A.elim
def VJ{t:TypeId}{G:Bool}{n o:Nat}{F:List PV}{y:Array Value}{K:PV->Prop}(hs:XH P t=some (G,n))(B:VI F o G n K)(hz:y.size=F.length)(M:∀i,i<F.length->(y.getD i undef).oneCell'=true)
 (J:∀(j:Nat) p,F[j]?=some p->Dat D w (y.getD j undef) p):∃u p,(part t y o).run P w=.ok u w/\Dat D w u p/\K p:=by
 obtain⟨i,d,e1,e2,I,e4⟩:=vT hs;unfold VI at B;subst e4;cases G with
 | true=>
   obtain⟨O,L⟩:=B;refine⟨.agg (y.extract o (o+i.size)),_,by simp[part,xy e2,I,zE e1],?_,L⟩;have E:∀j,j<i.size->(y.extract o (o+i.size)).getD j undef=y.getD (o+j) undef:=λj C=>(by have:o+j<y.size:=a8;have N:j<(y.extract o (o+i.size)).size:=a9;simp[ww,We N,We this]);refine .agg _ _ a9 (λj C=>?_) λj p A=>?_
   .have H:j<i.size:=(by simp at C;omega);rw[E j H];exact M _ a8
   .have C:j<i.size:=(by have:=(Zw.1 A).1;simp at this;omega);rw[E j C];rw[wt,vj C,Wj]at A;exact J _ _ A
 | false=>
   simp only at B;split at B
   .rename_i p A;have ho:o<y.size:=Y7 hz A;refine⟨y.getD o undef,p,?_,J _ _ A,B⟩;simp[part,xy e2,I,ho]
   .exact B.elim
end
section
open Go.RowKit
variable {P:Program}{o:Oper}{D:Qk}{ρ:Nat->Nat}{nb:Nat}{s:PS}{a:Act}{w:World}
def QC{o:Oper}{t:Tmp}(h:Operand.tmp t∈o.op.operands.toList):t∈zA o:=by unfold zA;exact uf.2 ⟨_,h,rfl⟩
def Rd.op(h:Rd D ρ s (zB a) (zA o) w){y:Operand}{y':PO}(u:po y=some y')(j:y∈o.op.operands.toList):Rel D ρ s.b.length w (a.eval y) (s.ev y'):=
 h.at u λt e=>QC (by rw[<-e];exact j)
def kz:∀{l:List Operand}{j:List PO},Qu l=some j->j.length=l.length/\∀(i:Nat)(y:Operand),l[i]?=some y->∃u,j[i]?=some u/\po y=some u
 |[],j,h=>by cases h;exact⟨rfl,λi y h=>by simp at h⟩
 | x::r,j,h=>by
   simp only[Qu,Z3,ZZ]at h;obtain⟨y,C,l,B,rfl⟩:=h;obtain⟨w,A⟩:=kz B;refine⟨by simp[w],λi z hz=>?_⟩;cases i with
   |zero=>simp at hz;subst hz;exact⟨y,rfl,C⟩
   |succ i=>simpa using A i z (dJ hz)
def QS(P:Program)(o:Oper)(D:Qk)(ρ:Nat->Nat)(s:PS)(a:Act)(w:World)(K:PV->Prop):Prop:=∃p,K p/\p.own=none/\Qok P o s ρ D a w p
def QS.det{K:PV->Prop}{u:Value}{p:PV}(y:(execOp a.eval o).run P w=.ok (.value u) w)(h:Rel D ρ s.b.length w u p)(hk:K p)(ho:p.own=none)(j:p.isN=false:=by rfl):QS P o D ρ s a w K:=⟨p,hk,ho,zby y h λ_ _ _=>xA j⟩
def QS.strip{K:PV->Prop}{u:Value}{p:PV}(j:(execOp a.eval o).run P w=.ok (.value u) w)(h:Rel D ρ s.b.length w u p)(hk:K p.strip):QS P o D ρ s a w K:=⟨p.strip,hk,p.strip_own,zby j h.strip λ_ _ _=>xA p.strip_isN⟩
section
variable {K:PV->Prop}(hR:Rd D ρ s (zB a) (zA o) w)
include hR
theorem zlz{x:Operand}{G:PO}(ho:o.op=.move x\/o.op=.assign x)(C:po x=some G)(hk:PK.q P s (.mv G) K):QS P o D ρ s a w K:=by
 have y:(execOp a.eval o).run P w=.ok (.value (a.eval x)) w:=by rcases ho with ho|ho<;>simp[execOp,ho]
 have I:x∈o.op.operands.toList:=by rcases ho with ho|ho<;>simp[ho,Op.operands]
 have hrel:=hR.op C I;cases G with
 | t i=>
   have E:x=.tmp i:=by cases x<;>first|(cases C;rfl)|cases C
   subst E;simp only[PK.q]at hk;rcases PV.pre_or i (s.get i)with e|⟨B,n,m,e1,e2⟩
   .rw[e]at hk;exact .strip y hrel hk
   .rw[e2]at hk;have j:Rel D ρ s.b.length w (zB a i) (.sl B (.r n m)):=e1▸hrel;obtain⟨H,u,sz,b,F,f,A,J,T,L,M,N,O,Q⟩:=j.inv_sl;refine⟨_,hk,rfl,zby y ?_ λV U S=>⟨H,B.length,u,?_,?_⟩⟩
    .show Rel D ρ s.b.length w (zB a i) _;rw[A];exact .dat (.sl H u sz B _ b F f J (λh=>by cases h) L M N O Q)
    .have:=(S.2 i (QC I)).2 (by rw[e1];simp[PV.own]);rw[this,A]
    .exact A
 |c p=>exact .strip y hrel hk
 |f p=>exact .strip y hrel hk
theorem zny{c x y:Operand}{j u A:PO}(ho:o.op=.pick c x y)(E:po c=some j)(F:po x=some u)(G:po y=some A)
 (hk:qV (s.ev j) λb=>(b=true->K (s.ev u).strip)/\(b=false->K (s.ev A).strip)):QS P o D ρ s a w K:=by
 obtain⟨b,e1,_,B,C⟩:=xE hk (hR.op E (by simp[ho,Op.operands]));cases b with
 |true=>exact .strip (by simp[execOp,ho,e1,asBool]) (hR.op F (by simp[ho,Op.operands])) (B rfl)
 |false=>exact .strip (by simp[execOp,ho,e1,asBool]) (hR.op G (by simp[ho,Op.operands])) (C rfl)
theorem zlv{op:BinOp}{t G:TypeId}{x y:Operand}{j A:PO}(ho:o.op=.binOp op t x y G)(E:po x=some j)(F:po y=some A)(hk:QB op (s.ev j) (s.ev A) K):QS P o D ρ s a w K:=by obtain⟨r,B,C⟩:=zdX (P:=P) t x y hk (hR.op E (by simp[ho,Op.operands])) (hR.op F (by simp[ho,Op.operands]));refine .det (u:=r) ?_ (.dat (.v _)) C rfl;simp only[execOp,ho,tG,B,tA,tI]
theorem zlu{op:BinOp}{t G:TypeId}{x y:Operand}{u A:PO}(ho:o.op=.binOp op t x y G)(j:op=.eql\/op=.neq)(ht:P.underlying t=some .bool)(E:po x=some u)(F:po y=some A)
 (hk:qV (s.ev u) λa=>qV (s.ev A) λb=>K (.v (.bool ((op == .neq) != (a == b))))):QS P o D ρ s a w K:=by
 obtain⟨m,e1,_,B⟩:=xE hk (hR.op E (by simp[ho,Op.operands]));obtain⟨n,e2,_,C⟩:=xE B (hR.op F (by simp[ho,Op.operands]));refine .det ?_ (.dat (.v _)) C rfl;have hb:=JD (P:=P) (w:=w) ht m n;rcases j with rfl|rfl
 .simp only[execOp,ho,tG,e1,e2,kh,tA,tI,binOp,hb];cases m<;>cases n<;>rfl
 .simp only[execOp,ho,tG,e1,e2,kh,tA,tI,binOp,hb];cases m<;>cases n<;>rfl
theorem zpV{op:BinOp}{t H:TypeId}{x y:Operand}{C E:PO}(ho:o.op=.binOp op t x y H)(B:zoQ op=true)(F:po x=some C)(G:po y=some E)(hk:PK.q P s (.sb op C E) K):QS P o D ρ s a w K:=by
 have u:=hR.op F (by simp[ho,Op.operands]);have A:=hR.op G (by simp[ho,Op.operands]);simp only[PK.q]at hk;unfold qsb at hk;split at hk
 .rename_i p q ex ey;rw[ex]at u;rw[ey]at A;have e1:=u.v_inv;have e2:=A.v_inv;obtain⟨hs,hk⟩:=hk;have j:=run_string_add_sum (P:=P) (w:=w) p q hs;cases op<;>first
   |exact absurd B b8
   |(refine .det ?_ (.dat (.v _)) hk rfl;simp[execOp,ho,e1,e2,eqGuard,binOp,j];done)
   |(refine .det ?_ (.dat (.v _)) hk rfl;simp[execOp,ho,e1,e2,eqGuard,binOp,Op.stringOp])
 .exact hk.elim
theorem zlB{op:BinOp}{t C:TypeId}{x:Operand}{A:PO}{ms}(ho:o.op=.binOp op t x (.const .nilIface) C)(j:op=.eql\/op=.neq)(ht:P.underlying t=some (.interface ms))(B:po x=some A)
 (hk:PK.q P s (.nil (op == .neq) A) K):QS P o D ρ s a w K:=by
 have u:=hR.op B (by simp[ho,Op.operands]);simp only[PK.q]at hk;split at hk
 .rename_i e;rw[e]at u;have e1:=u.v_inv;refine .det ?_ (.dat (.v _)) hk rfl;have y:a.eval (.const .nilIface)=.nilIface:=rfl;rcases j with rfl|rfl<;>simp only[execOp,ho,tG,e1,y,X1,tA,tI,binOp,za3 ht]<;>rfl
 .rename_i tt pp e;rw[e]at u;obtain⟨v,e1,_⟩:=u.inv_ifc;refine .det ?_ (.dat (.v _)) hk rfl;have y:a.eval (.const .nilIface)=.nilIface:=rfl;rcases j with rfl|rfl<;>simp only[execOp,ho,tG,e1,y,Y5,tA,tI,binOp,JE ht]<;>rfl
 .exact hk.elim
theorem zlC{t:TypeId}{x:Operand}{j:PO}(ho:o.op=.unOp .not t x)(y:po x=some j)(hk:qV (s.ev j) λb=>K (.v (.bool (!b)))):QS P o D ρ s a w K:=by obtain⟨b,e1,_,u⟩:=xE hk (hR.op y (by simp[ho,Op.operands]));exact .det (by simp[execOp,ho,e1,Op.unary]) (.dat (.v _)) u rfl
theorem zlA{t:TypeId}{x:Operand}{A:PO}(ho:o.op=.unOp .neg t x)(C:po x=some A)(hk:QB .sub (.v (.int .i64 0)) (s.ev A) K):QS P o D ρ s a w K:=by
 have y:=hR.op C (by simp[ho,Op.operands]);unfold QB at hk;split at hk
 .rename_i k1 n1 k2 n2 e1 e2;cases e1;rw[e2]at y;have B:=y.v_inv;obtain⟨rfl,hk⟩:=hk;have j:qar .i64 (0-n2) K:=hk;exact .det (u:=.int .i64 (IntKind.i64.wrap (0-n2))) (by simp[execOp,ho,B,Op.unary,Op.intArith]) (.dat (.v _)) (kC j) rfl
 .exact hk.elim
theorem znn{t u:TypeId}{x:Operand}{y:PO}{k F:IntKind}(ho:o.op=.convert t u x)(A:P.underlying t=some (.int F))(B:P.underlying u=some (.int k))(E:po x=some y)(hk:vR (s.ev y) λ_ n=>K (.v (.int k (k.wrap n)))):QS P o D ρ s a w K:=by obtain⟨j,n,e1,_,C⟩:=yu hk (hR.op E (by simp[ho,Op.operands]));exact .det (by simp[execOp,ho,e1,convert,tH A,tH B,Conv.intToInt]) (.dat (.v _)) C rfl
theorem znp{t:TypeId}{x:Operand}{H:PO}{f:Nat}{B:Array Field}{j:Field}{i:TypeInfo}(ho:o.op=.fieldAddr t x f)(C:P.underlying t=some (.struct B))(E:B[f]?=some j)(F:P.info? j.type=some i)(G:i.size≠0)
 (L:po x=some H) (hk:PK.q P s (.fa H j.offset) K):QS P o D ρ s a w K:=by
 have A:=hR.op L (by simp[ho,Op.operands]);simp only[PK.q]at hk;split at hk
 .rename_i i' o' e;rw[e]at A;obtain⟨hi,e1⟩:=A.inv_bx;refine .det (u:=.pointer (some ⟨ρ i',o'+j.offset,none⟩)) ?_ (.inl (.inr ⟨_,_,rfl,hi,rfl⟩)) hk rfl;simp[execOp,ho,e1,Instr.fieldAt,tH C,E,Instr.sureAddr,fieldPlace,zE F,G,zh]
 .rename_i cs o' e;rw[e]at A;obtain⟨b,y,u,e1,I,J⟩:=A.inv_cp;refine .det (u:=.pointer (some ⟨b,y+(o'+j.offset),none⟩)) ?_ (.dat (.cp b y cs _ u I J)) hk rfl;simp[execOp,ho,e1,Instr.fieldAt,tH C,E,Instr.sureAddr,fieldPlace,zE F,G,zh,Wr]
 .exact hk.elim
theorem znr{t e:TypeId}{x y:Operand}{N O:PO}{i:TypeInfo}(ho:o.op=.indexAddr t x y)(S:P.underlying t=some (.slice e))(T:P.info? e=some i)(hx:po x=some N)(hy:po y=some O)(hk:PK.q P s (.ia N O i.size) K):QS P o D ρ s a w K:=by
 simp only[PK.q]at hk;obtain⟨F,k,ex,U⟩:=y8 hk;obtain⟨j,n,e2,_,hn,G⟩:=yu U (hR.op hy (by simp[ho,Op.operands]));have M:=hR.op hx (by simp[ho,Op.operands]);rw[ex]at M;obtain⟨ad,Q,sz,b,E,f,e1,hc,hz,hm,Y,J,X,Z⟩:=M.inv_sl;split at G
 .rename_i el hel;obtain⟨L,V⟩:=G;have B:n.toNat<F.length:=(Zw.1 hel).1;have A:sz=i.size:=(J _ _ hel).symm.trans L;have H:=Y (by intro e;subst e;simp at B);refine .det (u:=.pointer (some ⟨b,E+n.toNat*i.size,none⟩)) ?_ (.dat ?_) V rfl
  .have I:n<F.length:=a8;simp[execOp,ho,e1,e2,Instr.indexAt,asIntOf,tH S,H,hn,I,zE T,zh]
  .have:=Dat.cp (D:=D) (w:=w) b (E+n.toNat*i.size) el 0 (λj=>f (n.toNat*i.size+j)) (λj hj=>?_) (λj p hp=>?_)
   .simpa using this
   .rw[L]at hj;have C:n.toNat*i.size+j<F.length*sz:=by
     rw[A]
     calc n.toNat*i.size+j<n.toNat*i.size+i.size:=a8
      _=(n.toNat+1)*i.size:=by rw[WZ];omega
      _<=F.length*i.size:=Ws _ B
    have:=X _ C;rw[Wr];exact this
   .have:=Z _ _ _ _ hel hp;rw[A]at this;exact this
 .exact G.elim
theorem zni{t e:TypeId}{x y:Operand}{H I:PO}{i:TypeInfo}{m:Nat}(ho:o.op=.indexAddr t x y)(F:P.underlying t=some (.array m e))(G:P.info? e=some i)(M:po x=some H)(N:po y=some I)(hk:PK.q P s (.aa H I m i.size) K):QS P o D ρ s a w K:=by
 simp only[PK.q]at hk;obtain⟨j,n,e2,_,C,B⟩:=yu hk (hR.op N (by simp[ho,Op.operands]));have E:=hR.op M (by simp[ho,Op.operands]);split at B
 .rename_i i' o' e;rw[e]at E;obtain⟨hi,e1⟩:=E.inv_bx;refine .det (u:=.pointer (some ⟨ρ i',o'+n.toNat*i.size,none⟩)) ?_ (.inl (.inr ⟨_,_,rfl,hi,rfl⟩)) B rfl;simp[execOp,ho,e1,e2,Instr.indexAt,asIntOf,tH F,Instr.sureAddr,C.1,C.2,zE G,zh]
 .rename_i cs o' e;rw[e]at E;obtain⟨b,A,u,e1,J,L⟩:=E.inv_cp;refine .det (u:=.pointer (some ⟨b,A+(o'+n.toNat*i.size),none⟩)) ?_ (.dat (.cp b A cs _ u J L)) B rfl;simp[execOp,ho,e1,e2,Instr.indexAt,asIntOf,tH F,Instr.sureAddr,C.1,C.2,zE G,zh,Wr]
 .exact B.elim
theorem zns{t e:TypeId}{x y:Operand}{I J:PO}{B:Bool}{m H:Nat}(ho:o.op=.index t x y)(N:P.underlying t=some (.array m e))(E:XH P e=some (B,H))(S:po x=some I)(T:po y=some J)(hk:PK.q P s (.ix I J m B H) K):QS P o D ρ s a w K:=by
 simp only[PK.q]at hk;obtain⟨j,n,e2,_,F,A⟩:=yu hk (hR.op T (by simp[ho,Op.operands]));have G:=hR.op S (by simp[ho,Op.operands]);split at A
 .rename_i cs e;rw[e]at G;obtain⟨Z,e1,hz,O,Q⟩:=G.inv_agg;obtain⟨u,p,C,L,M⟩:=VJ (P:=P) E A hz O Q;obtain⟨i,d,U,X,Y,V⟩:=vT E;refine .strip (u:=u) (p:=p) ?_ (.dat L) M;rw[<-V]at C;simp[execOp,ho,e1,e2,Instr.index,asIntOf,tH N,F.1,F.2,zE U,C]
 .exact A.elim
theorem znq{t:TypeId}{x:Operand}{E:PO}{f:Nat}{A:Array Field}{j:Field}{y:Bool}{C:Nat}(ho:o.op=.field t x f)(I:P.underlying t=some (.struct A))(J:A[f]?=some j)(L:XH P j.type=some (y,C))
 (O:po x=some E) (hk:PK.q P s (.fl E j.offset y C) K):QS P o D ρ s a w K:=by
 simp only[PK.q]at hk;have B:=hR.op O (by simp[ho,Op.operands]);split at hk
 .rename_i cs e;rw[e]at B;obtain⟨Q,e1,hz,M,N⟩:=B.inv_agg;obtain⟨u,p,F,G,H⟩:=VJ (P:=P) L hk hz M N;refine .strip (u:=u) (p:=p) ?_ (.dat G) H;simp[execOp,ho,e1,Instr.field,tH I,J,asAgg,F]
 .exact hk.elim
theorem znt{t:TypeId}{x:Operand}{Q:PO}{G:Bool}{J:Nat}(ho:o.op=.load t x)(N:XH P t=some (G,J))(U:po x=some Q)(hk:PK.q P s (.ld Q G J) K):QS P o D ρ s a w K:=by
 simp only[PK.q]at hk;have F:=hR.op U (by simp[ho,Op.operands]);split at hk
 .rename_i cs o' e;rw[e]at F;obtain⟨b,V,u,e1,S,O⟩:=F.inv_cp;have A:G=true->zY ((cs.drop o').take J)=true:=λ_=>by unfold zY;rw[wL];intro p C;obtain⟨j,B⟩:=wJ (Wt (WF C));exact(O j p B).isD
  obtain⟨L,p,E,H,I⟩:=Qv (P:=P) (ρ:=ρ) (nb:=s.b.length) N hk (λj B=>(S j B).2) (λj p C=>.dat (D:=D) (O j p C)) A;exact .strip (u:=L) (p:=p) (by simp[execOp,ho,e1,Instr.loadAt,Instr.sureAddr,E]) H I
 .rename_i i' o' e;rw[e]at F;obtain⟨hi,e1⟩:=F.inv_bx;split at hk
  .rename_i cs hcs;obtain⟨M,X,T,hz,hb⟩:=hR.boxes i' cs hcs;have y:∀j,j<cs.length->w.cell? ⟨ρ i',0+j,none⟩=some (M.getD j undef)/\(M.getD j undef).oneCell'=true:=λj B=>by refine⟨?_,(hb j _ (Zv B)).2⟩;simp only[World.cell?,T];simp[show j<M.size by omega]
   obtain⟨L,p,E,H,I⟩:=Qv (P:=P) (D:=D) (ρ:=ρ) (nb:=s.b.length) N hk.2 y (λj p C=>(hb j p C).1) (λ_=>hk.1);rw[wn]at E;exact .strip (u:=L) (p:=p) (by simp[execOp,ho,e1,Instr.loadAt,Instr.sureAddr,E]) H I
  .exact hk.elim
 .exact hk.elim
omit hR in
theorem K7{t:TypeId}(h:jX P t=true):∃k,P.underlying t=some (.int k):=by
 unfold jX at h;split at h
 .exact⟨_,b9⟩
 .cases h
omit hR in
theorem ky{t:TypeId}(h:jX P t=true){j:Array Value}{o:Nat}{v:Value}(y:j[o]?=some v):(part t j o).run P w=.ok v w:=by obtain⟨k,u⟩:=K7 h;simp[part,xy u,Qb,y]
omit hR in
theorem KT{t:TypeId}(h:jX P t=true)(d:Nat)(k:IntKind)(m n:Int):(Op.equalIn (d+1) t (.int k m) (.int k n)).run P w=.ok (decide (m=n)) w:=by obtain⟨u,j⟩:=K7 h;rw[run_equalIn_int w d t k u m n j];congr 1
omit hR in
theorem KS(d:Nat){vs us:Array Value}:∀(A:List Field)(i:Nat)(u C:List PV),K8 P i A=true->u.length=A.length->jy u C->(∀j v,u[j]?=some (.v v)->vs[i+j]?=some v)->(∀j v,C[j]?=some (.v v)->us[i+j]?=some v)->(Op.eqFields (d+1) vs us A).run P w=.ok (xQ u C) w
 |[],i,u,C,_,hl,_,_,_=>by obtain rfl:u=[]:=wX.1 hl;simp[Op.eqFields,xQ]
 | f::A,i,u,C,hi,hl,y,hv,hu=>by
   unfold K8 at hi;simp only[Vq,bne_iff_ne,ne_eq,tk]at hi;obtain⟨⟨⟨F,G⟩,E⟩,H⟩:=hi;unfold jy at y;split at y
   .cases hl
   .rename_i k a r k' b r';obtain⟨rfl,y⟩:=y;have e1:=hv 0 _ rfl;have e2:=hu 0 _ rfl;rw[ue,<-G]at e1 e2;have ih:=KS d (vs:=vs) (us:=us) A (i+1) r r' H (dJ hl) y (λj v h=>by have:=hv (j+1) v h;rwa[show i+(j+1)=i+1+j by omega]at this) (λj v h=>by have:=hu (j+1) v h;rwa[show i+(j+1)=i+1+j by omega]at this);simp only[Op.eqFields,F,ne_eq,not_false_eq_true,UL,tG,ky (P:=P) (w:=w) E e1,ky (P:=P) (w:=w) E e2,tA,KT (P:=P) (w:=w) E d k a b];by_cases B:a=b
    .simp[B,ih,xQ]
    .simp[B,xQ]
   .cases y
omit hR in
theorem KR(d:Nat){e:TypeId}(C:jX P e=true){vs us:Array Value}:∀(y B:List PV)(i:Nat),jy y B->(∀j v,y[j]?=some (.v v)->vs[i+j]?=some v)->(∀j v,B[j]?=some (.v v)->us[i+j]?=some v)->(Op.eqItems (d+1) e 1 vs us (List.range' i y.length)).run P w=.ok (xQ y B) w
 |[],B,i,_,_,_=>by simp[Op.eqItems,xQ]
 | x::y,B,i,u,hv,hu=>by
   unfold jy at u;split at u
   .rename_i h;cases h
   .rename_i k a r k' b r' h;cases h;obtain⟨rfl,u⟩:=u;have e1:=hv 0 _ rfl;have e2:=hu 0 _ rfl;rw[ue]at e1 e2;have ih:=KR d C (vs:=vs) (us:=us) y r' (i+1) u (λj v h=>by have:=hv (j+1) v h;rwa[show i+(j+1)=i+1+j by omega]at this) (λj v h=>by have:=hu (j+1) v h;rwa[show i+(j+1)=i+1+j by omega]at this);simp only[wy,List.range'_succ,Op.eqItems,tG,Uh,ky (P:=P) (w:=w) C e1,ky (P:=P) (w:=w) C e2,tA,KT (P:=P) (w:=w) C d k a b];by_cases A:a=b
    .simp[A,ih,xQ]
    .simp[A,xQ]
   .cases u
omit hR in
theorem zfc{t:TypeId}{n:Nat}(ht:za9 P t=some n){u us:Array Value}{y E:List PV}(J:y.length=n)(I:jy y E)(L:∀j v,y[j]?=some (.v v)->u[0+j]?=some v)(K:∀j v,E[j]?=some (.v v)->us[0+j]?=some v):(Op.equal t (.agg u) (.agg us)).run P w=.ok (xQ y E) w/\∀op B C,(eqGuard op t B C (.agg u) (.agg us)).run P w=.ok () w:=by
 unfold za9 at ht;split at ht
 .rename_i fs hf;split at ht
  .rename_i hcond;simp only[Vq,Wn]at hcond;obtain⟨⟨F,G⟩,H⟩:=hcond;cases ht;have A:P.fieldsOf t=fs:=(by unfold Program.fieldsOf;rw[hf]);refine⟨?_,λop B C=>run_eqGuard_agg w op t B C u us H⟩;show (Op.equalIn (9998+1+1) t _ _).run P w=_;rw[run_equalIn_agg w _ t u us (by rw[A];exact hf) G,A];exact KS _ _ 0 y E F (dJ J) I L K
  .cases ht
 .rename_i m e hf;split at ht
  .rename_i hcond;simp only[Vq,Wn,tk]at hcond;obtain⟨⟨⟨F,G⟩,H⟩,M⟩:=hcond;cases ht;obtain⟨i,hi⟩:=wY.1 G;refine⟨?_,λop B C=>run_eqGuard_agg w op t B C u us M⟩;show (Op.equalIn (9998+1+1) t _ _).run P w=_;rw[run_equalIn_array w _ u us hf hi,H,List.range_eq_range',<-J];exact KR _ F y E 0 I L K
  .cases ht
 .cases ht
omit hR in
theorem KU:∀{u w:List PV},jy u w->(∀p∈u,∃v,p=.v v)/\∀p∈w,∃v,p=.v v
 |[],[],_=>⟨b6,b6⟩
 |[],_::_,h=>by simp[jy]at h
 | x::u,w,h=>by
   unfold jy at h;split at h
   .rename_i e;cases e
   .rename_i e;cases e;obtain⟨y,A⟩:=KU h.2;exact⟨λp j=>(wh.1 j).elim (λe=>⟨_,e⟩) (y p),λp j=>(wh.1 j).elim (λe=>⟨_,e⟩) (A p)⟩
   .cases h
theorem zlx{op:BinOp}{t t':TypeId}{x y:Operand}{Q S:PO}(ho:o.op=.binOp op t x y t')(G:op=.eql\/op=.neq)(ht:(za9 P t).isSome=true)(hx:po x=some Q)(hy:po y=some S)(hk:zbz (op == .neq) ((za9 P t).getD 0) (s.ev Q) (s.ev S) K):QS P o D ρ s a w K:=by
 have C:=hR.op hx (by simp[ho,Op.operands]);have E:=hR.op hy (by simp[ho,Op.operands]);obtain⟨n,M⟩:=wY.1 ht;rw[M]at hk;unfold zbz at hk;split at hk
 .rename_i xs ys ex ey;obtain⟨⟨X,J⟩,hk⟩:=hk;rw[ex]at C;rw[ey]at E;have get:∀{u:Value}{H:List PV},(∀p∈H,∃v,p=.v v)->Rel D ρ s.b.length w u (.agg H)->∃A:Array Value,u=.agg A/\∀j v,H[j]?=some (.v v)->A[0+j]?=some v:=λI h=>by obtain⟨A,rfl,hz,_,V⟩:=h.inv_agg;refine⟨A,rfl,λj v L=>?_⟩;have F:=V j _ L;have B:j<A.size:=(by rw[hz];exact(Zw.1 L).1);rw[ww,We B,WQ]at F;rw[wn,We B];generalize A[j]=z at F;cases F;rfl
  obtain⟨T,U⟩:=KU J;obtain⟨A,e1,Z⟩:=get T C;obtain⟨us,e2,Y⟩:=get U E;obtain⟨N,O⟩:=zfc (P:=P) (w:=w) M X J Z Y;refine .det ?_ (.dat (.v _)) hk rfl;rcases G with rfl|rfl
  .simp only[execOp,ho,tG,e1,e2,O,tA,tI,binOp,N];cases xQ xs ys<;>rfl
  .simp only[execOp,ho,tG,e1,e2,O,tA,tI,binOp,N];cases xQ xs ys<;>rfl
 .exact hk.elim
theorem znu{t:TypeId}{e:TypeId}{x:Operand}{E:PO}{c:Call}(ho:o.op=.call c)(B:c.callee=.builtin .len)(A:c.args=#[x])(y:c.argTypes=#[t])(G:P.underlying t=some (.slice e))(I:po x=some E)
 (hk:QA (s.ev E) λj=>K (.v (.int .i64 j.length))):QS P o D ρ s a w K:=by
 obtain⟨j,k,ex,H⟩:=y8 hk;have C:=hR.op I (by simp[ho,Op.operands,Call.operands,B,A]);rw[ex]at C;obtain⟨L,F,sz,b,J,f,e1,_⟩:=C.inv_sl;refine .det (u:=.int .i64 j.length) ?_ (.dat (.v _)) H rfl;simp[execOp,ho,resolve,B,A,y,invoke,builtin,Builtin.len_,tH G,e1,goInt]
theorem zno{x:Operand}{A:PO}{i:Nat}(ho:o.op=.extract x i)(C:po x=some A)(hk:PK.q P s (.ex A i) K):QS P o D ρ s a w K:=by
 simp only[PK.q]at hk;have j:=hR.op C (by simp[ho,Op.operands]);split at hk
 .rename_i cs e;rw[e]at j;obtain⟨y,e1,hz,B⟩:=j.inv_tup;split at hk
  .rename_i p hp;have hi:i<y.size:=Y7 hz hp;refine .strip (u:=y.getD i undef) (p:=p) ?_ (.dat (B i p hp)) hk;simp[execOp,ho,e1,Instr.extract,hi]
  .exact hk.elim
 .exact hk.elim
theorem znx{x:Operand}{y:PO}(ho:o.op=.nilCheck x)(A:po x=some y)(hk:PK.q P s (.nc y) K):QS P o D ρ s a w K:=by
 simp only[PK.q]at hk;have j:=hR.op A (by simp[ho,Op.operands]);split at hk
 .rename_i i o' e;rw[e]at j;obtain⟨hi,e1⟩:=j.inv_bx;exact .det (by simp[execOp,ho,e1]) j hk rfl
 .rename_i cs o' e;rw[e]at j;obtain⟨b,B,u,e1,C,E⟩:=j.inv_cp;exact .det (by simp[execOp,ho,e1]) j hk rfl
 .exact hk.elim
theorem znw{t:TypeId}{d:TypeDesc}{x:Operand}{j:PO}(ho:o.op=.makeInterface t x)(y:P.underlying t=some d)(A:∀E,d≠.interface E)(C:po x=some j)(hk:PK.q P s (.mi t j) K):QS P o D ρ s a w K:=by
 simp only[PK.q]at hk;have B:=hR.op C (by simp[ho,Op.operands]);split at hk
 .rename_i hd;refine .det (u:=.iface t (a.eval x)) ?_ (.dat (.ifc _ _ _ (B.data hd).sh)) hk rfl;simp only[execOp,ho,tG,Instr.makeInterface,tH y,tA];cases d<;>first|rfl|exact absurd rfl (A _)
 .exact hk.elim
theorem znv{f:Fn}{F C:Array Operand}{G E:List PO}(ho:o.op=.makeFunc f F C)(M:Qu F.toList=some G)(N:Qu C.toList=some E)(hk:PK.q P s (.mf f G E) K):QS P o D ρ s a w K:=by
 simp only[PK.q,Vq,wL,WO]at hk;obtain⟨⟨hd,O⟩,hk⟩:=hk;obtain⟨Y,p1⟩:=kz M;obtain⟨Z,p2⟩:=kz N;have J:∀{A:Array Operand}{j:List PO},j.length=A.toList.length->(∀(i:Nat)(y:Operand),A.toList[i]?=some y->∃V,j[i]?=some V/\po y=some V)->(∀x∈j,(s.ev x).sh.isD=true\/(s.ev x).sh.isB=true)->(∀y∈A.toList,y∈o.op.operands.toList) ->
  ∀(i:Nat) q,(j.map λx=>(s.ev x).sh)[i]?=some q->Rel1 D ρ s.b.length w ((A.map a.eval).getD i undef) q:=by
  intro A j hl hp H Q i q X;simp only[wj,ZZ]at X;obtain⟨U,B,rfl⟩:=X;have hi:i<A.toList.length:=(by rw[<-hl];exact(Zw.1 B).1);obtain⟨V,I,S⟩:=hp i _ (Zv hi);rw[B]at I;cases I;have L:Rel D ρ s.b.length w (a.eval A.toList[i]) (s.ev U).sh:=by
   have:=hR.op S (Q _ (Yf hi));rcases H U (wM B)with h|h
   .exact .dat ((this.data (by rwa[PV.sh_isD]at h)).sh)
   .rcases this with(this|⟨i,o,e,M,N⟩)|⟨f,va,vb,F,C,e,_⟩
    .exact .dat this.sh
    .exact .inl (.inr ⟨i,o,by rw[e];rfl,M,N⟩)
    .rw[e]at h;cases h
  have e:(A.map a.eval).getD i undef=a.eval A.toList[i]:=(by have:i<A.size:=(dJ hi);simp[this]);rw[e];rcases H U (wM B)with h|h
  .exact .inl (L.data h)
  .rcases L with L|⟨f,va,vb,F,C,e,_⟩
   .exact L
   .rw[e]at h;cases h
 refine .det (u:=.func f (F.map a.eval) (C.map a.eval)) (by simp[execOp,ho,Instr.makeFunc]) (.inr ⟨f,_,_,_,_,rfl,rfl,dJ Y.symm,dJ Z.symm,?_,?_⟩) hk rfl
 .exact J Y p1 hd λy T=>by simp only[ho,Op.operands,WU,wE];exact .inl T
 .exact J Z p2 O λy T=>by simp only[ho,Op.operands,WU,wE];exact .inr T
theorem zly{m:Bool}{x y:Operand}{A B:PO}{c:Call}(ho:o.op=.call c)(u:c.callee=.builtin (if m then .max else .min))(j:c.args=#[x,y])(F:po x=some A)(G:po y=some B)(hk:PK.q P s (.mm m A B) K):QS P o D ρ s a w K:=by
 simp only[PK.q]at hk;obtain⟨k,I,e1,_,C⟩:=yu hk (hR.op F (by simp[ho,Op.operands,Call.operands,u,j]));obtain⟨H,J,e2,_,rfl,E⟩:=yu C (hR.op G (by simp[ho,Op.operands,Call.operands,u,j]));refine .det ?_ (.dat (.v _)) E rfl;cases m
 .simp[execOp,ho,resolve,u,j,invoke,builtin,Builtin.min_,e1,e2,Builtin.min2]
 .simp[execOp,ho,resolve,u,j,invoke,builtin,Builtin.max_,e1,e2,Builtin.max2]
end
end
section
open Go.RowKit
variable {P:Program}{o:Oper}{D:Qk}{ρ:Nat->Nat}{nb:Nat}{s:PS}{a:Act}{w:World}
def zej{i n sz j:Nat}(h:i<n)(u:j<sz):i*sz+j<n*sz:=by
 calc i*sz+j<i*sz+sz:=a8
  _=(i+1)*sz:=by rw[WZ];omega
  _<=n*sz:=Ws _ h
def zgu{k:Ow}(G:k≠.z){E:Option Addr}{b B sz l h A:Nat}{u:List (List PV)}{f:Nat->Value}(U:l<=h)(O:h<=u.length)(T:u.length<=A)(V:A<=maxLen)(M:u≠[]->E=some ⟨b,B,none⟩)(I:∀(i:Nat)(e:List PV),u[i]?=some e->e.length=sz)
 (L:∀j,j<u.length*sz->D b (B+j)/\w.cell? ⟨b,B+j,none⟩=some (f j)/\(f j).oneCell'=true) (N:∀(i:Nat)(e:List PV)(j:Nat)(p:PV),u[i]?=some e->e[j]?=some p->Dat D w (f (i*sz+j)) p) :
 Dat D w (.slice (if A-0=l then E else E.map (·.add (l*sz))) (h-l) (A-l)) (.sl ((u.take h).drop l) k):=by
 have y:((u.take h).drop l).length=h-l:=a9
 have F:Dat D w (.slice (if A-0=l then E else E.map (·.add (l*sz))) ((u.take h).drop l).length (A-l)) (.sl ((u.take h).drop l) k):=by
  have get:∀(i:Nat) e,((u.take h).drop l)[i]?=some e->u[l+i]?=some e/\i<h-l:=λi e C=>(by have hi:=(Zw.1 C).1;rw[y]at hi;rw[Wj,wt,vj a8]at C;exact⟨C,hi⟩);refine .sl _ _ sz _ _ b (B+l*sz) (λj=>f (l*sz+j)) a8 (λh=>absurd h G) a8 (λH=>?_) (λi e C=>I _ e (get i e C).1) (λj P=>?_) (λi e j p C S=>?_)
  .have Q:l<h:=by
    rcases wK l h with J|J
    .exact J
    .exact absurd (wH (by rw[y];omega)) H
   rw[Vm a8,M (by intro e;subst e;simp at O;omega)];simp[zh]
  .rw[y]at P;have:l*sz+j<u.length*sz:=by have K:(l+(h-l))*sz<=u.length*sz:=Ws _ a8;rw[WZ]at K;omega
   rw[Wr];exact L _ this
  .have:=N _ _ _ _ (get i e C).1 S;rw[WZ,Wr]at this;exact this
 rw[y]at F;exact F
section
variable {K:PV->Prop}(hR:Rd D ρ s (zB a) (zA o) w)
include hR
theorem znz{t e:TypeId}{x:Operand}{L:PO}{lo hi:Option Operand}{B S:Option PO}{i:TypeInfo}(ho:o.op=.slice t x lo hi none)(N:P.underlying t=some (.slice e))(h3:P.info? e=some i)(hx:po x=some L)(J:poo lo=some B)(I:poo hi=some S)
 (hk:PK.q P s (.sc L B S i.size) K):QS P o D ρ s a w K:=by
 simp only[PK.q]at hk;obtain⟨C,k,ex,h4⟩:=y8 hk;have hr:=hR.op hx (by simp[ho,Op.operands]);rw[ex]at hr;obtain⟨F,A,sz,b,ao,f,e1,hc,hz,hm,ha,ab,hD,hd⟩:=hr.inv_sl;have fin:∀l h:Nat,(l<=h/\h<=C.length/\(∀e∈C,e.length=i.size)/\K (.sl ((C.take h).drop l) (Xw B (s.ev L))))->(B=none->l=0)->(execOp a.eval o).run P w=.ok (.value (.slice (if A=l then F else F.map (·.add (l*i.size))) (h-l) (A-l))) w->QS P o D ρ s a w K:=by
  rintro l h ⟨hl,hh,ag,hK⟩ X E;have U:Xw B (s.ev L)≠.z:=by unfold Xw;split<;>simp
  have T:(PV.sl ((C.take h).drop l) (Xw B (s.ev L))).own=none:=by unfold Xw;split<;>rfl
  have G:∀x0 n0,zbZ x0 n0 s (zB a) (zA o) w->NewOk x0 n0 w (.slice (if A=l then F else F.map (·.add (l*i.size))) (h-l) (A-l)) (.sl ((C.take h).drop l) (Xw B (s.ev L))):=λx0 n0 hN=>by
   have Z:∀u:Value,NewOk x0 n0 w u (.sl ((C.take h).drop l) .sh):=λ_=>trivial;rw[ex];cases hlo2:B with
   |some y=>exact Z _
   | none=>
     have h0:=X hlo2;subst h0;cases k with
     | p j=>
       have ah:∃t,x=.tmp t/\s.get t=.sl C (.p j):=by
        cases x with
        |tmp t=>cases hx;exact⟨t,rfl,ex⟩
        | const v=>
          cases hx;have:(ofV v).isN=false:=by unfold ofV;split<;>(try split)<;>rfl
          rw[show ofV v=_ from ex]at this;cases this
        |func f=>cases hx;cases ex
        |global g=>cases hx
       obtain⟨t,rfl,ht⟩:=ah;have O:=(hN.2 t (QC (by simp[ho,Op.operands]))).1;rw[ht]at O;obtain⟨am,ae,aj,q1,q2⟩:=O;have q3:zB a t=.slice F C.length A:=e1;rw[q3]at q2;injection q2 with r1 r2 r3;subst r1;subst r3;refine⟨F,ae,A,q1,?_⟩;have V:((C.take h).drop 0).length=h:=a9;rw[V];have e4:(if A=0 then F else F.map (·.add (0*i.size)))=F:=by
        split
        .rfl
        .cases F with
         |none=>rfl
         |some F=>simp[Addr.add]
       rw[e4];rfl
     |_=>exact Z _
  by_cases Q:C=[]
  .subst Q;have h0:h=0:=(dJ hh);subst h0;have l0:l=0:=a8;subst l0;refine⟨_,hK,T,zby E (.dat ?_) G⟩;exact .sl _ _ 1 [] _ 0 0 (λ_=>undef) (X3 _) (λh=>absurd h U) a8 (λh=>absurd rfl h) (λi e h=>by simp at h) (λj h=>absurd h b6) (λi e j p h=>by simp at h)
  .have ac:sz=i.size:=by
    cases C with
    |nil=>exact absurd rfl Q
    |cons e C=>exact(ab 0 e rfl).symm.trans (ag e b6)
   subst ac;refine⟨_,hK,T,zby E (.dat ?_) G⟩;simpa using zgu U hl hh hc hm ha ab hD hd
 have H:∀h:Nat,h<=A->qBd s B 0 (λl=>l<=h/\h<=C.length/\(∀e∈C,e.length=i.size)/\K (.sl ((C.take h).drop l) (Xw B (s.ev L)))) ->
  (∀l:Nat,l<=h->(match lo.map a.eval with|some v=>Instr.sliceBound v h .sliceB|none=>pure 0:Sem Nat).run P w=.ok l w->(execOp a.eval o).run P w=.ok (.value (.slice (if A=l then F else F.map (·.add (l*i.size))) (h-l) (A-l))) w)->QS P o D ρ s a w K:=by
  intro h an hq E;cases lo with
  |none=>cases J;exact fin 0 h hq (λ_=>rfl) (E 0 (X3 _) b6)
  |some y=>simp only[poo,ZZ]at J;obtain⟨y',hy,rfl⟩:=J;obtain⟨j,n,e2,_,hn,hf⟩:=yu hq (hR.op hy (by simp[ho,Op.operands]));have af:n<=h:=(by have:=hf.1;omega);exact fin n.toNat h hf (λe=>by cases e) (E n.toNat hf.1 (by simp[e2,Instr.sliceBound,asIntOf,hn,af]))
 have ak:(match P.underlying t with|some (.array _ _)=>true|_=>false)=false:=by rw[N]
 cases hi with
 | none=>
   cases I;refine H C.length hc h4 λl hl hs=>?_;simp only[Option.map]at hs;cases lo with
   |none=>have l0:l=0:=(dJ hs.symm);subst l0;simp[execOp,ho,e1,Instr.sliceAt,Instr.slice,tH N,Instr.sliceBounds,zE h3]
   |some y=>simp only at hs;simp[execOp,ho,e1,Instr.sliceAt,Instr.slice,tH N,Instr.sliceBounds,zE h3,hs]
 | some z=>
   simp only[poo,ZZ]at I;obtain⟨z',ai,rfl⟩:=I;obtain⟨j,n,e2,_,hn,M⟩:=yu h4 (hR.op ai (by simp[ho,Op.operands]));have Y:n<=A:=by
    have:n.toNat<=C.length:=by
     cases B with
     |none=>exact M.2.1
     | some y=>
       simp only[qBd,vR]at M;split at M
       .exact M.2.2.1
       .exact M.elim
    omega
   refine H n.toNat a8 M λl hl hs=>?_;simp only[Option.map]at hs;cases lo with
   |none=>have l0:l=0:=(dJ hs.symm);subst l0;simp[execOp,ho,e1,e2,Instr.sliceAt,Instr.slice,tH N,Instr.sliceBounds,Instr.sliceBound,asIntOf,hn,Y,zE h3]
   |some y=>simp only at hs;have hh:(Instr.sliceBound (.int j n) A .sliceAcap).run P w=.ok n.toNat w:=(by simp[Instr.sliceBound,asIntOf,hn,Y]);simp[execOp,ho,e1,e2,Instr.sliceAt,Instr.slice,tH N,Instr.sliceBounds,hh,zE h3,hs]
end
def CellsD(D:Qk)(w:World)(j:Array Value)(u:List PV):Prop:=
 j.size=u.length/\∀(i:Nat) p,u[i]?=some p->Dat D w (j.getD i undef) p/\(j.getD i undef).oneCell'=true
def CellsR.data{u:Value}{j:List PV}(h:CellsR D ρ nb w u j)(y:zY j=true):CellsD D w u.cells (j.map PV.sh):=by refine⟨dJ h.1,λi p B=>?_⟩;simp only[wj,ZZ]at B;obtain⟨q,A,rfl⟩:=B;unfold zY at y;rw[wL]at y;exact⟨((h.2 i q A).1.data (y q (wM A))).sh,(h.2 i q A).2⟩
def x6(w:Nat):∀(l:List Value)(k:Nat)(u:Array Value),w+k+l.length<=u.size ->
 ((l.zipIdx k).foldl (fun(y:Array Value) (c,j)=>y.setIfInBounds (w+j) c) u).size=u.size /\
 ∀i,((l.zipIdx k).foldl (fun(y:Array Value) (c,j)=>y.setIfInBounds (w+j) c) u).getD i undef=if w+k<=i/\i<w+k+l.length then l.getD (i-(w+k)) undef else u.getD i undef
 |[],k,u,_=>⟨rfl,λi=>by simp;intro A B;omega⟩
 | v::l,k,u,h=>by
   simp only[List.zipIdx_cons,WP];simp only[wy]at h;obtain⟨A,B⟩:=x6 w l (k+1) (u.setIfInBounds (w+k) v) a9;refine⟨by rw[A];simp,λi=>?_⟩;rw[B i];by_cases e:i=w+k
   .subst e;rw[Vm a8,vj b6];have:w+k<u.size:=a8;simp[this]
   .by_cases e2:w+(k+1)<=i/\i<w+(k+1)+l.length
    .rw[vj e2,vj a9];obtain⟨d,C⟩:∃d,i-(w+k)=d+1:=⟨i-(w+k)-1,a8⟩;rw[C,show i-(w+(k+1))=d from by omega];simp
    .rw[Vm e2,Vm a9];simp[ui (Uk e)]
def Xy(w u:List PV)(j i:Nat)(h:j+u.length<=w.length):(XI w u j)[i]?=if j<=i/\i<j+u.length then u[i-j]? else w[i]?:=by
 unfold XI;have ht:(w.take j).length=j:=a9
 by_cases y:i<j
 .rw[Vm a8,wR,V3 a8,wt,vj y]
 .by_cases A:i<j+u.length
  .rw[vj a8,wR,V1 a8,V3 a8,ht]
  .rw[Vm a8,V1 a9,Wj];congr 1;simp;omega
def QK(u w:List PV)(j:Nat)(h:j+w.length<=u.length):(XI u w j).length=u.length:=by unfold XI;simp;omega
def Xz{A us:Array Value}{C u:List PV}{off:Nat}(hz:CellsD D w A C)(B:CellsD D w us u)(h:off+u.length<=C.length):
 CellsD D w (us.zipIdx.foldl (fun(u:Array Value) (c,j)=>u.setIfInBounds (off+j) c) A) (XI C u off):=by
 obtain⟨E,F⟩:=x6 off us.toList 0 A (by simp[hz.1,B.1];omega);have e:us.zipIdx.foldl (fun(u:Array Value) (c,j)=>u.setIfInBounds (off+j) c) A=(us.toList.zipIdx 0).foldl (fun(u:Array Value) (c,j)=>u.setIfInBounds (off+j) c) A:=by rw[<-Array.foldl_toList,tg]
 rw[e];refine⟨by rw[E,QK _ _ _ h];exact hz.1,λi p y=>?_⟩;rw[Xy _ _ _ _ h]at y;rw[F i];have G:us.toList.length=u.length:=dJ B.1
 simp only[ue];by_cases hi:off<=i/\i<off+u.length
 .rw[vj hi]at y;rw[vj a8];have:=B.2 _ _ y;have e2:us.toList.getD (i-off) undef=us.getD (i-off) undef:=b6;rw[e2];exact this
 .rw[Vm hi]at y;rw[Vm a8];exact hz.2 _ _ y
def Z4(j:Nat->Option (Nat×Nat)){K:List PV->Prop}:∀(parts:List (Nat×Operand))(A:List (Nat×Nat×PO))(B:Array Value)(C:List PV),A.length=parts.length ->
 (∀(k:Nat) i x,parts[k]?=some (i,x)->∃u n G,A[k]?=some (u,n,G)/\j i=some (u,n)/\Rel D ρ nb w (a.eval x) (s.ev G)) ->
 CellsD D w B C->vS s A C K->∃y E,Instr.fill j B (parts.map fun(i,x)=>(i,a.eval x))=some y/\CellsD D w y E/\K E
 |[],[],B,C,_,_,hz,hq=>⟨B,C,rfl,hz,hq⟩
 |[],_::_,_,_,h,_,_,_=>by cases h
 |_::_,[],_,_,h,_,_,_=>by cases h
 | (i,x)::parts,(u,n,G)::A,B,C,hl,hp,hz,hq=>by
   obtain⟨I,V,S,e1,e2,J⟩:=hp 0 i x rfl;simp at e1;obtain⟨rfl,rfl,rfl⟩:=e1;simp only[vS]at hq;obtain⟨E,⟨T,U,O,P⟩,H⟩:=xY hq J;have Q:=H.data O;obtain⟨y,F,L,M,N⟩:=Z4 j parts A _ _ (dJ hl) (λk i x hk=>by simpa using hp (k+1) i x (dJ hk)) (Xz (off:=u) hz Q a9) P;refine⟨y,F,?_,M,N⟩;simp only[Wz,Instr.fill,e2];rw[Vm]
   .exact L
   .have:=H.1;have:=hz.1;simp;omega
def qJ{t:TypeId}{j:List PV}(h:xg P t=some j):∃i z,P.info? t=some i/\i.zero=some z/\j=z.cells.toList.map Q6/\(∀v∈z.cells.toList,v.oneCell'=true):=by
 unfold xg at h;simp only[Z3]at h;obtain⟨i,hi,z,hz,h⟩:=h;split at h
 .rename_i hall;cases h;rw[wL]at hall;exact⟨i,z,hi,hz,rfl,hall⟩
 .cases h
def yT{z:Value}(h:∀v∈z.cells.toList,v.oneCell'=true):CellsD D w z.cells (z.cells.toList.map Q6):=by
 refine⟨b6,λi p u=>?_⟩;simp only[wj,ZZ]at u;obtain⟨v,j,rfl⟩:=u;have y:v∈z.cells.toList:=wM j;have e:z.cells.getD i undef=v:=by simp at j;simp[j]
 rw[e];exact⟨zai D w v,h v y⟩
def CellsD.agg{u:Array Value}{j:List PV}(h:CellsD D w u j):Dat D w (.agg u) (.agg j):=
 .agg _ _ h.1 (λi hi=>(h.2 i _ (Zv hi)).2) λi p y=>(h.2 i p y).1
def Zz{w:Array Field}:∀{l:List (Nat×Operand)}{u:List (Nat×Nat×PO)},Qq P w l=some u->u.length=l.length/\∀(k:Nat) i x,l[k]?=some (i,x)->∃f n A,w[i]?=some f/\P.info? f.type=some n/\u[k]?=some (f.offset,n.size,A)/\po x=some A
 |[],u,h=>by cases h;exact⟨rfl,λk i x h=>by simp at h⟩
 | (i,x)::r,u,h=>by
   simp only[Qq,Z3,ZZ]at h;obtain⟨f,E,n,G,y,H,l,F,rfl⟩:=h;obtain⟨B,C⟩:=Zz F;refine⟨by simp[B],λk j z hz=>?_⟩;cases k with
   |zero=>simp at hz;obtain⟨rfl,rfl⟩:=hz;exact⟨f,n,y,E,G,rfl,H⟩
   |succ k=>simpa using C k j z (dJ hz)
def Zy{sz:Nat}:∀{l:List (Nat×Operand)}{u:List (Nat×Nat×PO)},Qp sz l=some u->u.length=l.length/\∀(k:Nat) i x,l[k]?=some (i,x)->∃w,u[k]?=some (i*sz,sz,w)/\po x=some w
 |[],u,h=>by cases h;exact⟨rfl,λk i x h=>by simp at h⟩
 | (i,x)::r,u,h=>by
   simp only[Qp,Z3,ZZ]at h;obtain⟨y,E,l,C,rfl⟩:=h;obtain⟨A,B⟩:=Zy C;refine⟨by simp[A],λk j z hz=>?_⟩;cases k with
   |zero=>simp at hz;obtain⟨rfl,rfl⟩:=hz;exact⟨y,rfl,E⟩
   |succ k=>simpa using B k j z (dJ hz)
section
variable {K:PV->Prop}(hR:Rd D ρ s (zB a) (zA o) w)
include hR
theorem zlt{t:TypeId}{parts:Array (Nat×Operand)}{C:Array Field}{L:List PV}{I:List (Nat×Nat×PO)}(ho:o.op=.build t parts)(X:P.underlying t=some (.struct C))(hz:xg P t=some L)(y:∀f∈C.toList,(P.info? f.type).isSome=true)
 (Y:Qq P C parts.toList=some I) (hk:PK.q P s (.bd L I) K):QS P o D ρ s a w K:=by
 simp only[PK.q]at hk;obtain⟨i,z,T,U,rfl,V⟩:=qJ hz;obtain⟨Z,l2⟩:=Zz Y;obtain⟨j,H,F⟩:∃j,C.toList.mapM (λf=>(P.info? f.type).map λi=>(f.offset,i.size))=some j/\∀(i:Nat) f n,C.toList[i]?=some f->P.info? f.type=some n->j[i]?=some (f.offset,n.size):=by
  revert y;induction C.toList with
  |nil=>intro _;exact⟨[],rfl,λi f n h=>by simp at h⟩
  | cons f l ih=>
    intro y;obtain⟨pl,e1,e2⟩:=ih λf E=>y f (by simp[E]);have:=y f b6;obtain⟨n,J⟩:=wY.1 this;refine⟨(f.offset,n.size)::pl,by simp[List.mapM_cons,J,e1],λi N n' E A=>?_⟩;cases i with
    |zero=>simp at E;subst E;rw[J]at A;cases A;rfl
    |succ i=>simpa using e2 i N n' (dJ E) A
 obtain⟨B,cs,O,Q,S⟩:=Z4 (D:=D) (ρ:=ρ) (nb:=s.b.length) (w:=w) (a:=a) (s:=s) (j.toArray[·]?) parts.toList I z.cells _ Z (λk i x G=>by
  obtain⟨f,n,x',e1,e2,M,e4⟩:=l2 k i x G;refine⟨f.offset,n.size,x',M,by simpa using F i f n (dJ e1) e2,hR.op e4 ?_⟩;simp only[ho,Op.operands,wC];exact⟨(i,x),wM G,rfl⟩) (yT V) hk
 refine .det (u:=.agg B) ?_ (.dat Q.agg) S rfl;have hb:P.built t (parts.map fun(i,x)=>(i,a.eval x)).toList=some B:=by unfold Program.built;simp only[T,X,U,H];rw[WT];exact O
 simp only[execOp,ho,tG,run_build w t _ B hb,tA];rfl
theorem zls{t e:TypeId}{n:Nat}{parts:Array (Nat×Operand)}{A:TypeInfo}{C:List PV}{B:List (Nat×Nat×PO)}(ho:o.op=.build t parts)(M:P.underlying t=some (.array n e))(N:P.info? e=some A)(hz:xg P t=some C)
 (O:Qp A.size parts.toList=some B) (hk:PK.q P s (.bd C B) K):QS P o D ρ s a w K:=by
 simp only[PK.q]at hk;obtain⟨i,z,I,J,rfl,L⟩:=qJ hz;obtain⟨Q,S⟩:=Zy O;obtain⟨j,U,F,G,H⟩:=Z4 (D:=D) (ρ:=ρ) (nb:=s.b.length) (w:=w) (a:=a) (s:=s) (λi=>some (i*A.size,A.size)) parts.toList B z.cells _ Q (λk i x y=>by
  obtain⟨T,E,e4⟩:=S k i x y;refine⟨_,_,T,E,rfl,hR.op e4 ?_⟩;simp only[ho,Op.operands,wC];exact⟨(i,x),wM y,rfl⟩) (yT L) hk
 refine .det (u:=.agg j) ?_ (.dat G.agg) H rfl;have hb:P.built t (parts.map fun(i,x)=>(i,a.eval x)).toList=some j:=by unfold Program.built;simp only[I,M,J,N];rw[WT];exact F
 simp only[execOp,ho,tG,run_build w t _ j hb,tA];rfl
end
def RowD(D:Qk)(w:World)(sz:Nat)(u:List Value)(y:List (List PV)):Prop:=
 u.length=y.length*sz/\(∀(i:Nat)(e:List PV),y[i]?=some e->e.length=sz)/\(∀j,j<u.length->(u.getD j undef).oneCell'=true)/\∀(i:Nat)(e:List PV)(j:Nat)(p:PV),y[i]?=some e->e[j]?=some p->Dat D w (u.getD (i*sz+j) undef) p
def RowD.mono{D':Qk}{w':World}{sz:Nat}{y:List Value}{u:List (List PV)}(h:RowD D w sz y u)(C:∀b o,D b o->D' b o)(E:∀b o x,D b o->w.cell? ⟨b,o,none⟩=some x->w'.cell? ⟨b,o,none⟩=some x):RowD D' w' sz y u:=
 ⟨h.1,h.2.1,h.2.2.1,λi e j p A B=>(h.2.2.2 i e j p A B).mono C E⟩
def RowD.append{sz:Nat}{A us:List Value}{y G:List (List PV)}(h:RowD D w sz A y)(k:RowD D w sz us G):RowD D w sz (A++us) (y++G):=by
 have E:y.length*sz=A.length:=h.1.symm;refine⟨by simp[h.1,k.1,WZ],λi e u=>?_,λj C=>?_,λi e j p u F=>?_⟩
 .rcases wK i y.length with hi|hi
  .rw[V3 hi]at u;exact h.2.1 i e u
  .rw[V1 hi]at u;exact k.2.1 _ e u
 .rw[Q9];rcases wK j A.length with hi|hi
  .rw[V3 hi,<-Q9];exact h.2.2.1 j hi
  .rw[V1 hi,<-Q9];exact k.2.2.1 _ (by simp at C;omega)
 .rw[Q9];rcases wK i y.length with hi|hi
  .rw[V3 hi]at u;have B:=h.2.1 i e u;have C:j<sz:=(by rw[<-B];exact(Zw.1 F).1);rw[V3 (by rw[<-E];exact zej hi C),<-Q9];exact h.2.2.2 i e j p u F
  .rw[V1 hi]at u;have H:A.length<=i*sz+j:=(by rw[<-E];exact V0 (Ws _ hi) a8);rw[V1 H,<-Q9];have:=k.2.2.2 _ e j p u F;rw[Nat.sub_mul]at this;rw[show i*sz+j-A.length=i*sz-y.length*sz+j from by rw[E];have:=Ws sz hi;omega];exact this
def jr{sz b cap:Nat}{y:List Value}{u:List (List PV)}{B:Array Value}{e:TypeId}{fr:Nat×Nat}{k:Ow}(h:RowD D w sz y u)(F:w.heap[b]?=some (.cells B e fr))(ht:∀j,j<y.length->B[j]?=some (y.getD j undef))
 (E:u.length<=cap) (G:cap<=maxLen) (hk:k=.z->cap=u.length) (C:∀j,j<y.length->D b j):Dat D w (.slice (some ⟨b,0,none⟩) u.length cap) (.sl u k):=
 .sl _ _ sz _ _ b 0 (λj=>y.getD j undef) E hk G (λ_=>rfl) h.2.1 (λj A=>by
  rw[<-h.1]at A;refine⟨by simpa using C j A,?_,h.2.2.1 j A⟩;simp only[World.cell?,F,wn];simpa using ht j A) h.2.2.2
def Yl{sz:Nat}{K:List (List PV)->Prop}:∀(l:List Operand)(E:List PO),Qu l=some E->(∀x∈l,∀F,po x=some F->Rel D ρ nb w (a.eval x) (s.ev F))->yP s sz E K ->
 ∃C,K C/\C.length=l.length/\RowD D w sz (l.flatMap λx=>(a.eval x).cells.toList) C/\∀x∈l,(a.eval x).cells.size=sz
 |[],E,h,_,hq=>by cases h;exact⟨[],hq,rfl,⟨b6,λi e h=>by simp at h,λj h=>by simp at h,λi e j p h=>by simp at h⟩,b6⟩
 | x::l,E,h,hr,hq=>by
   simp only[Qu,Z3,ZZ]at h;obtain⟨F,Y,L,J,rfl⟩:=h;simp only[yP]at hq;obtain⟨M,⟨G,S,T⟩,H⟩:=xY hq (hr x b6 F Y);obtain⟨C,N,O,P,Q⟩:=Yl l L J (λy B=>hr y (by simp[B])) T;have U:=H.data S;have A:(a.eval x).cells.size=sz:=(by rw[H.1];exact G);refine⟨_,N,by simp[O],?_,λy B=>?_⟩
   .have one:RowD D w sz (a.eval x).cells.toList [M.map PV.sh]:=by
     refine⟨dJ A,λi e u=>?_,λj V=>?_,λi e j p u X=>?_⟩
     .have:i=0:=(by have:=(Zw.1 u).1;simpa using this);subst this;simp at u;subst u;simpa using G
     .have I:j<M.length:=(by rw[G,<-A];simpa using V);have:=(H.2 j _ (Zv I)).2;simpa using this
     .have:i=0:=(by have:=(Zw.1 u).1;simpa using this);subst this;simp at u;subst u;have:=(U.2 j p X).1;simpa using this
    have:=one.append P;simpa using this
   .rcases wh.1 B with rfl|B
    .exact A
    .exact Q y B
def X5{sz:Nat}:∀(l:List Value)(k:Nat)(done:List Value)(w:Array Value),(∀v∈l,v.cells.size=sz)->done.length=k*sz->w.size=(k+l.length)*sz->(∀j,j<done.length->w[j]?=some (done.getD j undef)) ->
 ∃y,Instr.fill (λi=>some (i*sz,sz)) w (l.zipIdx k |>.map fun(v,i)=>(i,v))=some y/\y.toList=done++l.flatMap λv=>v.cells.toList
 | [],k,done,w,_,h2,h3,h4=>by
   refine⟨w,rfl,?_⟩;simp only[Uw,wZ];apply Un;intro j;rcases wK j done.length with B|B
   .have:=h4 j B;rw[Zv B];simpa[Q9,Zv B]using this
   .rw[WW B,WW (by simp[h3];simp at h3;omega)]
 | v::l,k,done,w,h1,h2,h3,h4=>by
   have C:=h1 v b6;simp only[wy]at h3;have N:k*sz+sz<=w.size:=(by rw[h3,<-Nat.succ_mul];exact Ws _ a8);obtain⟨H,J⟩:=x6 (k*sz) v.cells.toList 0 w (by simp[C];omega);have e:v.cells.zipIdx.foldl (fun(E:Array Value) (c,j)=>E.setIfInBounds (k*sz+j) c) w=(v.cells.toList.zipIdx 0).foldl (fun(E:Array Value) (c,j)=>E.setIfInBounds (k*sz+j) c) w:=(by rw[<-Array.foldl_toList,tg]);rw[<-e]at H J;obtain⟨A,F⟩:∃c,v.cells.zipIdx.foldl (fun(E:Array Value) (c,j)=>E.setIfInBounds (k*sz+j) c) w=c:=⟨_,rfl⟩;rw[F]at H J;obtain⟨y,L,M⟩:=X5 l (k+1) (done++v.cells.toList) A (λu O=>h1 u (by simp[O])) (by simp[h2,C,WZ]) (by rw[H,h3];congr 1;omega) (λj B=>by
    have G:j<A.size:=(by rw[H];simp[h2,C]at B;omega);have K:=J j;rw[ww,We G,WQ]at K;rw[We G,K];congr 1;simp only[ue];rw[Q9 (l:=done++_)];rcases wK j done.length with I|I
    .rw[Vm a8,V3 I,<-Q9,ww,h4 j I];rfl
    .rw[vj (by simp[C];simp[C]at B;omega),V1 I,Q9,h2])
   refine⟨y,?_,by rw[M];simp⟩;simp only[List.zipIdx_cons,Wz,Instr.fill];rw[Vm (by simp[C];omega),F];exact L
section
variable {K:PV->Prop}(hR:Rd D ρ s (zB a) (zA o) w)
include hR
theorem KF{t e:TypeId}{n:Nat}{parts:Array (Nat×Operand)}{A:TypeInfo}{zs:List PV}{ps:List PO}(ho:o.op=.buildSlice t n parts)(h1:P.underlying t=some (.slice e))(M:P.info? e=some A)(hz:xg P e=some zs)
 (hp:Qu (parts.toList.map (·.2))=some ps) (hi:parts.toList.map (·.1)=List.range n) (hn:n*A.size<=16777216) (ab:n<=maxLen) {N:List (List PV)->Prop} (hk:yP s A.size ps N) :
 ∃(C:List (List PV)) (u:Array Value),N C/\C.length=n/\(execOp a.eval o).run P w=.ok (.value (.slice (some ⟨w.heap.size,0,none⟩) n n)) (w.alloc (.cells u e))/\RowD D w A.size u.toList C/\∀j,j<u.toList.length->u[j]?=some (u.toList.getD j undef):=by
 obtain⟨i,z,g1,g2,rfl,g4⟩:=qJ hz;rw[M]at g1;cases g1;have F:parts.toList.length=n:=by have:=ud List.length hi;simpa using this
 obtain⟨C,k1,k2,k3,k4⟩:=Yl (D:=D) (ρ:=ρ) (nb:=s.b.length) (w:=w) (a:=a) (s:=s) _ _ hp (λx hx x' Y=>hR.op Y (by simpa[ho,Op.operands]using hx)) hk;have X:parts.toList.map (fun(i,x)=>(i,a.eval x))=((parts.toList.map λy=>a.eval y.2).zipIdx 0).map fun(v,i)=>(i,v):=by
  apply Un;intro j;rcases wK j parts.toList.length with E|E
  .have S:(parts.toList.map (·.1))[j]?=(List.range n)[j]?:=(by rw[hi]);rw[wj,Zv E,uJ a8]at S;simp at S;simp[Zv E,List.getElem?_zipIdx];have H:j<parts.size:=(dJ E);simp[H,S]
  .rw[WW (dJ E),WW (dJ E)]
 have U:C.length=n:=by rw[k2];simpa using F
 have B:∀L:Array Value,L.size=n*A.size->∃u,Instr.fill (λi=>some (i*A.size,A.size)) L (parts.toList.map fun(i,x)=>(i,a.eval x))=some u/\u.toList=(parts.toList.map λy=>a.eval y.2).flatMap λv=>v.cells.toList:=λL T=>by
  obtain⟨c',e1,e2⟩:=X5 (sz:=A.size) (parts.toList.map λy=>a.eval y.2) 0 [] L (λv hv=>by
   simp only[wC]at hv;obtain⟨y,hy,rfl⟩:=hv;exact k4 _ (wC.2 ⟨y,hy,rfl⟩)) b6 (by rw[T];simp only[wu,F,wn]) (λj E=>by simp at E)
  rw[<-X]at e1;exact⟨c',e1,dJ e2⟩
 have fin:∀u:Array Value,u.toList=((parts.toList.map λy=>a.eval y.2).flatMap λv=>v.cells.toList)->(execOp a.eval o).run P w=.ok (.value (.slice (some ⟨w.heap.size,0,none⟩) n n)) (w.alloc (.cells u e)) ->
  ∃(C:List (List PV)) (u:Array Value),N C/\C.length=n/\(execOp a.eval o).run P w=.ok (.value (.slice (some ⟨w.heap.size,0,none⟩) n n)) (w.alloc (.cells u e))/\RowD D w A.size u.toList C/\∀j,j<u.toList.length->u[j]?=some (u.toList.getD j undef):=by
  intro u J hr;have V:(List.map (λx=>x.snd) parts.toList).flatMap (λx=>(a.eval x).cells.toList)=u.toList:=(by rw[J];simp[uZ]);rw[V]at k3;have K:∀j,j<u.toList.length->u[j]?=some (u.toList.getD j undef):=λj E=>by have H:j<u.size:=(dJ E);simp[H]
  exact⟨C,u,k1,U,hr,k3,K⟩
 by_cases O:n*A.size=0
 .obtain⟨u,G,J⟩:=B ((Array.range (n*A.size)).map λx=>(#[]:Array Value)[x%(#[]:Array Value).size]!) b6;refine fin u J ?_;have I:¬(16777216<n*A.size):=a8;rw[<-WT]at G;simp[execOp,ho,Instr.buildSlice,tH h1,zE M,I,O,newRow]at G⊢;simp[G]
 .obtain⟨u,G,J⟩:=B ((Array.range (n*A.size)).map λx=>z.cells[x%z.cells.size]!) b6;refine fin u J ?_;have I:¬(16777216<n*A.size):=a8;rw[<-WT]at G;have Z:(zeroValue e).run P w=.ok z w:=(by simp[zeroValue,typeInfo,M,g2]);have Q:¬(n=0\/A.size=0):=(by rw[<-Nat.mul_eq_zero];exact O);simp[execOp,ho,Instr.buildSlice,tH h1,zE M,I,Q,Z,newRow]at G⊢;simp[G];exact λh=>absurd h O
theorem znk{t e:TypeId}{n:Nat}{parts:Array (Nat×Operand)}{C:TypeInfo}{Q:List PV}{F:List PO}(ho:o.op=.buildSlice t n parts)(G:P.underlying t=some (.slice e))(H:P.info? e=some C)(hz:xg P e=some Q)
 (J:Qu (parts.toList.map (·.2))=some F) (hi:parts.toList.map (·.1)=List.range n) (I:n*C.size<=16777216) (A:n<=maxLen) (hk:PK.q P s (.bs C.size F) K):QS P o D ρ s a w K:=by
 simp only[PK.q]at hk;obtain⟨S,u,M,B,L,N,y⟩:=KF hR ho G H hz J hi I A hk;have hb:Below w.heap.size w (w.alloc (.cells u e)):=(tu _ _).alloc (Zp _) _;have O:=N.mono (D':=λb o=>D b o\/w.heap.size<=b) (w':=w.alloc (.cells u e)) (λ_ _ h=>.inl h) λb o x _ E=>qa hb (qF E) E;refine⟨_,M,rfl,zlD L hb (.dat ?_) λ_ _ _=>trivial⟩;have:=jr (cap:=n) (k:=.z) (e:=e) (fr:=(0,0)) O (tp w (.cells u e)) y a8 A (λ_=>a8) (λj _=>.inr (Zp _));rw[B]at this;exact this
end
section
variable {K:PV->Prop}(hR:Rd D ρ s (zB a) (zA o) w)
include hR
theorem kf{j:List Operand}{B:List PO}(u:Qu j=some B)(I:∀x∈j,x∈o.op.operands.toList)(C:zY (B.map λx=>(s.ev x).sh)=true):
 B.length=j.length/\∀(i:Nat) p,(B.map λx=>(s.ev x).sh)[i]?=some p->Dat D w ((j.map a.eval).getD i undef) p:=by
 obtain⟨G,H⟩:=kz u;refine⟨G,λi p u=>?_⟩;have E:=u;simp only[wj,ZZ]at u;obtain⟨J,y,rfl⟩:=u;have hi:i<j.length:=by rw[<-G];exact(Zw.1 y).1
 obtain⟨K,A,F⟩:=H i _ (Zv hi);rw[y]at A;cases A;have e:(j.map a.eval).getD i undef=a.eval j[i]:=by simp[hi]
 rw[e];unfold zY at C;rw[wL]at C;exact((hR.op F (I _ (Yf hi))).data (by have:=C _ (wM E);rwa[PV.sh_isD]at this)).sh
omit hR in
theorem KG{f:FuncId}{C:List PV}{r:PV}{B:Array Value}(y:GL D w)(M:Cn P f C r)(F:B.size=C.length)(N:∀(i:Nat) p,C[i]?=some p->Dat D w (B.getD i undef) p)(T:(execOp a.eval o).run P w=.ok (.enter f B) w):
 ∀(next:Act->World->Prop)(Q:Exit->Act->World->Prop),(∀u A j,Below w.heap.size w A->(∀b o,D b o/\b<w.heap.size->j b o)->(∀b o,j b o->(D b o/\b<w.heap.size)\/w.heap.size<=b)->(∀b o,j b o->b<A.heap.size)->Dat j A u r->yW j (λk=>w.heap.size<=k) A u r->next (a.put o.dst u) A)->o.wp P a w next Q:=by
 intro next Q O
 show o.upon P a next Q ((execOp a.eval o).run P w)
 rw[T,t9];have E:∀(i:Nat) p,C[i]?=some p->Dat (λb o=>D b o/\b<w.heap.size) w (B.getD i undef) p:=λi p S=>(N i p S).restrict;refine(M.2 _ w B (λx G=>⟨⟨(y x G).1,tq w ⟨0,0,_⟩ (y x G).2⟩,(y x G).2⟩) (λb o h=>h.2) F E).mono ?_;rintro e A ⟨v,j,rfl,hb,H,I,J,K,L⟩;exact O v A j hb H I J K L
omit hR in
theorem zcb{f:FuncId}{B:List PV}{r:PV}{C:Array Value}(y:GL D w)(G:Cn P f B r)(A:C.size=B.length)(H:∀(i:Nat) p,B[i]?=some p->Dat D w (C.getD i undef) p)(J:(execOp a.eval o).run P w=.ok (.enter f C) w)(hk:K r.strip):QS P o D ρ s a w K:=by
 refine⟨r.strip,hk,r.strip_own,λnext Q I=>KG y G A H J next Q λu L M hb N E O F S=>I u L hb ?_ λ_ _ _=>xA r.strip_isN⟩;refine(Rel.dat F.strip).mono (λb o h=>?_) (λ_ _ _ _ h=>h) (Zp _) λ_ _=>rfl;rcases E b o h with j|j
 .exact .inl j.1
 .exact .inr j
omit hR in
theorem Jk{f:FuncId}{u:List Operand}{c:Call}(ho:o.op=.call c)(A:c.callee=.value (.func f))(y:c.args.toList=u)(B:∀j w,(callFunc f j).run P w=.ok (.enter f j) w):
 (execOp a.eval o).run P w=.ok (.enter f (u.map a.eval).toArray) w:=by
 have e:c.args.map a.eval=(u.map a.eval).toArray:=WE.1 (by rw[WT,y]);have e2:a.eval (.func f)=.func (.func f) #[] #[]:=rfl;simp only[execOp,ho,resolve,A,e,e2,Deferred.ofValue,tG,tI,tA,invoke];rw[show (#[]++(u.map a.eval).toArray++#[]:Array Value)=(u.map a.eval).toArray from by simp];exact B _ _
theorem znl{f:FuncId}{C:List Operand}{B:List PO}{c:Call}(ho:o.op=.call c)(A:c.callee=.value (.func f))(y:c.args.toList=C)(j:Qu C=some B)(hk:PK.q P s (.ca f B) K):QS P o D ρ s a w K:=by simp only[PK.q]at hk;obtain⟨r,u,G,hk⟩:=hk;obtain⟨E,F⟩:=kf hR j (λx H=>by rw[ho];simp only[Op.operands,Call.operands,A,WU,wE,y];exact .inr H) G;refine zcb hR.gl u (by simp[E]) (λi p j=>?_) (Jk ho A y u.1) hk;have:=F i p j;simpa using this
theorem znm{t:Tmp}{J:List Operand}{I:List PO}{c:Call}(ho:o.op=.call c)(M:c.callee=.value (.tmp t))(S:c.args.toList=J)(j:Qu J=some I)(hk:PK.q P s (.cl (.t t) I) K):QS P o D ρ s a w K:=by
 simp only[PK.q]at hk;have T:=hR.op (y:=.tmp t) (y':=.t t) rfl (by rw[ho];simp[Op.operands,Call.operands,M]);split at hk
 .rename_i f fs cs e;rw[e]at T;obtain⟨r,Q,E,hk⟩:=hk;have u:fs.all PV.isD=true/\zY (I.map λx=>(s.ev x).sh)=true/\cs.all PV.isD=true:=by unfold zY at E⊢;simp only[List.all_append,Vq]at E;exact⟨E.1.1,E.1.2,E.2⟩
  obtain⟨H,L⟩:=kf hR j (λx Z=>by rw[ho];simp only[Op.operands,Call.operands,M,WU,wE,S];exact .inr Z) u.2.1;have N:∃B C,a.eval (.tmp t)=.func (.func f) B C/\B.size=fs.length/\C.size=cs.length/\(∀(i:Nat) p,fs[i]?=some p->Dat D w (B.getD i undef) p)/\(∀(i:Nat) p,cs[i]?=some p->Dat D w (C.getD i undef) p):=by
   have F:(PV.fn (.func f) fs cs).isD=true:=by
    have G:∀l:List PV,l.all PV.isD=true->l.all (λp=>!p.isB)=true:=λl h=>by
     rw[wL]at h⊢;intro p j;have:=h p j;cases p<;>first|rfl|cases this
    simp only[PV.isD,G _ u.1,G _ u.2.2,Bool.and_self]
   have:=T.data F;generalize a.eval (.tmp t)=z at this⊢;cases this with
   |fn f B C fs cs H L h3 h4=>exact⟨B,C,rfl,H,L,h3,h4⟩
  obtain⟨B,C,X,O,s2,U,V⟩:=N;have Y:(execOp a.eval o).run P w=.ok (.enter f (B++(J.map a.eval).toArray++C)) w:=(by have e:c.args.map a.eval=(J.map a.eval).toArray:=WE.1 (by rw[WT,S]);simp only[execOp,ho,resolve,M,e,X,Deferred.ofValue,tG,tI,tA,invoke];exact Q.1 _ _);refine zcb hR.gl Q (by simp[H,O,s2]) (λi p j=>?_) Y hk;rw[ww];rcases wK i (fs.length+I.length)with hi|hi
  .rw[V3 a9]at j;rw[WJ a9];rcases wK i fs.length with A|A
   .rw[V3 A]at j;rw[WJ a8];have:=U i p j
    rwa[ww]at this
   .rw[V1 A]at j;rw[uU a8,O];have:=L _ p j;simpa[Q9]using this
  .rw[V1 a9]at j;rw[uU a9];have:=V _ p j;rw[ww]at this;simpa[O,H]using this
 .exact hk.elim
theorem zpU{t:Tmp}{m:String}{j:List Operand}{F:List PO}{c:Call}(ho:o.op=.call c)(u:c.callee=.invoke (.tmp t) m)(H:c.args.toList=j)(X:Qu j=some F)(hk:PK.q P s (.iv (.t t) m F) K):QS P o D ρ s a w K:=by
 simp only[PK.q]at hk;have I:=hR.op (y:=.tmp t) (y':=.t t) rfl (by rw[ho];simp[Op.operands,Call.operands,u]);split at hk
 .rename_i T p e;rw[e]at I;obtain⟨f,V,r,G,A,hk⟩:=hk;have B:p.isD=true/\zY (F.map λx=>(s.ev x).sh)=true:=by unfold zY at A⊢;simp only[UW,Vq,PV.sh_isD]at A;exact A
  obtain⟨O,Q⟩:=kf hR X (λx Y=>by rw[ho];simp only[Op.operands,Call.operands,u,WU,wE,H];exact .inr Y) B.2;have C:∃v,a.eval (.tmp t)=.iface T v/\Dat D w v p:=by
   have:=I.data (by simp[PV.isD]);generalize a.eval (.tmp t)=z at this⊢;cases this with
   |ifc t x p h=>exact⟨x,rfl,h⟩
  obtain⟨v,M,J⟩:=C;have N:(execOp a.eval o).run P w=.ok (.enter f (#[v]++(j.map a.eval).toArray)) w:=by
   have e:c.args.map a.eval=(j.map a.eval).toArray:=WE.1 (by rw[WT,H]);have L:(#[Value.iface T v]++(j.map a.eval).toArray).extract 1 (#[Value.iface T v]++(j.map a.eval).toArray).size=(j.map a.eval).toArray:=by
    apply Array.ext
    .simp
    .intro i S U;simp
   have e4:(#[Value.iface T v]++(j.map a.eval).toArray)[0]?=some (.iface T v):=b6;simp only[execOp,ho,resolve,u,e,M,tG,tI,tA,invoke,e4,L,V v,G.1]
  refine zcb hR.gl G (by simp[O]) (λi q E=>?_) N hk;rw[ww];cases i with
  |zero=>simp only[Ui,wO]at E;subst E;simpa using J.sh
  |succ i=>have:=Q i q (dJ E);simpa[Q9]using this
 .exact hk.elim
end
end
end Go.Proofs.YtbhngpjkakcgfaaGreatDoor
