import Derived.BigQuiet
import Derived.Deep.QuietTactic
import Derived.Laws.AppendOwn
import Derived.Test.YtjdjjlkifdimkaaGreatDoorB4
set_option maxHeartbeats 16000000
set_option linter.all false
namespace Go.Proofs.YtjdjjlkifdimkaaGreatDoor
def Tt:=@Go.Oper.wp_mono
open Go.RowKit
open Go.Proofs.Tryz
section
attribute [local go_sem] Oper.semAt_some
def occ(j:List (Iv×Bool×Bool))(p q:Bool):Bool:=j.any λy=>y.2.1 == p && y.2.2 == q
def zoz(a b:List Iv)(p q:Bool):Bool:=!occ (yO a b) p q
def zpi(u:List (Iv×Bool×Bool))(s:Iv)(j o p q:Bool):occ (u++[(s,j,o)]) p q=(occ u p q || (j == p && o == q)):=by simp[occ,uR]
def zqY{j o:List (Iv×Bool×Bool)}{p q:Bool}(h:j <+: o)(u:occ j p q=true):occ o p q=true:=by obtain⟨r,rfl⟩:=h;unfold occ at *;rw[uR,u,Bool.true_or]
def zpX{a b:List Iv}{p q:Bool}:∀(u:List (Iv×Bool×Bool))(x:Nat),Cov a b x u->((u.any λy=>y.2.1 == p && y.2.2 == q)=true↔∃z,x<=z/\z<zk/\mem a z=p/\mem b z=q)
 |[],x,h=>by have:x=zk:=h;simp;intro z B o;omega
 | (s,p',q')::r,x,⟨B,o,h3,h4,h5⟩=>by
   rw[ui,WA,zpX r _ h5];constructor
   .rintro(h|⟨z,w,z2,j⟩)
    .simp at h;have:=h4 x (Zp _) o;exact⟨x,Zp _,a9,this.1.trans h.1,this.2.trans h.2⟩
    .exact⟨z,a9,z2,j⟩
   .rintro⟨z,w,z2,j,A⟩;by_cases hz:z<=s.hi
    .have:=h4 z w hz;left;simp[<-this.1,<-this.2,j,A]
    .exact .inr ⟨z,a9,z2,j,A⟩
def zpH{a b:List Iv}(o:Nrm a)(hb:Nrm b)(p q:Bool):zoz a b p q=true↔∀z,z<zk->¬(mem a z=p/\mem b z=q):=by
 have:=zpX (p:=p) (q:=q) _ _ (j4 o hb);unfold zoz occ;rw[Wg,<-W5,this];constructor
 .intro h z hz j;exact h ⟨z,X4 _,hz,j⟩
 .rintro h ⟨z,_,hz,j⟩;exact h z hz j
set_option maxRecDepth 100000 in
def zph(a b:List Iv)(V X:Value)(p q:Bool)(w:World)(ha:Nrm a)(hb:Nrm b)(ra:RdR 0 w.heap.size w V a)(rb:RdR 0 w.heap.size w X b):
 Calls Tryz.prog 169 #[V,X,.agg #[.bool p,.bool q]] w λe w'=>e=.returned (.bool (zoz a b p q))/\Below w.heap.size w w':=by
 obtain⟨aa,ca,rfl,_⟩:=id ra;obtain⟨I,J,rfl,_⟩:=id rb;refine callsIn_wide.1 (tX (n:=9) func169 rfl trivial ?_ rfl);simp only[ntmps169,Wz,wn,Wp,Nat.reduceAdd,Nat.reduceSub,uf,ug,uy,ul,Y1,yb]
 gi_wp2_with (refine⟨trivial,?_⟩;gi_at_call 150;refine(callsIn_wide.2 (Xi _ _ _ _ _ _ _)).mono ?_;rintro e w' ⟨rfl,rfl⟩)
 obtain⟨y,u⟩:=xn (((((w.alloc (Obj.cells #[Value.bool p,Value.bool q] 186)).alloc (Obj.cells #[Value.bool false] 4)).alloc (Obj.cells #[Value.slice aa a.length ca] 24)).alloc (Obj.cells #[Value.slice I b.length J] 24)));have ac:y.heap.size=w.heap.size+4:=by rw[<-u];simp
 have Y:y.heap[w.heap.size]?=some (.cells #[.bool p,.bool q] 186 (0,0)):=by rw[<-u];exact(tr _ _ _ b6).trans ((tr _ _ _ b6).trans ((tr _ _ _ b7).trans (tl w _)))
 have b1:Boxed y (w.heap.size+1) 4 (Value.bool false):=by rw[<-u];have:=tQ (w.alloc (Obj.cells #[Value.bool p,Value.bool q] 186)) 4 (Value.bool false);rw[tu]at this;exact(this.alloc _).alloc _
 have b2:Boxed y (w.heap.size+1+1) 24 (Value.slice aa a.length ca):=by rw[<-u];have:=tQ ((w.alloc (Obj.cells #[Value.bool p,Value.bool q] 186)).alloc (Obj.cells #[Value.bool false] 4)) 24 (Value.slice aa a.length ca);simp only[tu]at this;exact this.alloc _
 have Z:Boxed y (w.heap.size+1+1+1) 24 (Value.slice I b.length J):=by rw[<-u];have:=tQ (((w.alloc (Obj.cells #[Value.bool p,Value.bool q] 186)).alloc (Obj.cells #[Value.bool false] 4)).alloc (Obj.cells #[Value.slice aa a.length ca] 24)) 24 (Value.slice I b.length J);simp only[tu]at this;exact this
 have G:Below w.heap.size w y:=by rw[<-u];exact((((tq _ _).alloc (Zp _) _).alloc b7 _).alloc b6 _).alloc b6 _
 rw[u];clear u;refine ziP (w:=y) 184 #[.pointer (some ⟨w.heap.size+1+1,0,none⟩),.pointer (some ⟨w.heap.size+1+1+1,0,none⟩)] rfl (enters_of func184 dM rfl) za1 (λ_=>rfl)
  (λk=>k=w.heap.size+1+1\/k=w.heap.size+1+1+1) (λk=>k<w.heap.size\/k=w.heap.size+1+1\/k=w.heap.size+1+1+1) (yO a b) ?hit
  (λk=>k=w.heap.size+1\/w.heap.size+6<=k) (λk hk=>a9) a9 ⟨a9,a9⟩
  (λpre W=>W.heap[w.heap.size]?=some (.cells #[.bool p,.bool q] 186 (0,0))/\Boxed W (w.heap.size+1) 4 (.bool false)/\Below w.heap.size w W/\qA (occ pre p q=false))
  (λc pre W=>c=.ret/\Boxed W (w.heap.size+1) 4 (.bool false)/\Below w.heap.size w W/\qA (occ pre p q=true)) ?hI ?hIx ⟨Y,b1,G,rfl⟩
  (λpre x O W=>(W.heap[w.heap.size]?=some (.cells #[.bool p,.bool q] 186 (0,0))/\Boxed W (w.heap.size+1) 4 (.bool false)/\Below w.heap.size w W/\qA (occ pre p q=false))/\∃Bs,W.heap[Bs]?=some (.cells #[.bool x.2.1,.bool x.2.2] 186 (0,0))/\w.heap.size+6<=Bs/\O={ tmps:=#[Value.slice aa a.length ca,Value.slice I b.length J,Value.agg #[Value.bool p,Value.bool q],undef,undef,Value.pointer (some ⟨w.heap.size,0,none⟩),Value.pointer (some ⟨w.heap.size+1,0,none⟩),undef,Value.pointer (some ⟨Bs,0,none⟩),Value.slice aa a.length ca,Value.slice I b.length J,Value.func (Fn.func 184) #[] #[Value.pointer (some ⟨w.heap.size+1+1,0,none⟩),Value.pointer (some ⟨w.heap.size+1+1+1,0,none⟩)],.agg #[.int .u64 x.1.lo,.int .u64 x.1.hi],.agg #[.bool x.2.1,.bool x.2.2],undef,undef,undef],defers:=[] })
  ?hAx ?hassign ?hbody ?hdone ?hstop
 case hit=>
  intro W hk _;exact J7 a b _ _ (w.heap.size+1+1) (w.heap.size+1+1+1) w.heap.size W ha hb a9 a9 a9
   ⟨hk.boxed b2 id,hk.boxed Z id,ra.below (G.trans (hk.below a9 λ_ _=>id)) (Zp _),rb.below (G.trans (hk.below a9 λ_ _=>id)) (Zp _),Suf.refl _ _,Suf.refl _ _⟩
 case hI=>rintro pre A B ⟨E,o,j,C⟩ hk;exact⟨hk.obj E a9,hk.boxed o a9,j.trans (hk.below j.size λk hk=>a9),C⟩
 case hIx=>rintro c pre A B ⟨E,o,j,C⟩ hk;exact⟨E,hk.boxed o a9,j.trans (hk.below j.size λk hk=>a9),C⟩
 case hAx=>rintro pre x O A B ⟨⟨E,o,j,C⟩,Bs,hs,L,rfl⟩ hk;exact⟨⟨hk.obj E a9,hk.boxed o a9,j.trans (hk.below j.size λk hk=>a9),C⟩,Bs,hk.obj hs a9,L,rfl⟩
 case hassign=>
  rintro l pre ⟨⟨lo,hi⟩,M,N⟩ W H Q ⟨E,o,j,C⟩;clear H;dsimp only[za1]
  gi_wp2
  exact⟨(Keep.refl _ _).alloc _,⟨(tr _ _ _ a9).trans E,o.alloc _,j.alloc j.size _,C⟩,W.heap.size,tl W _,a9,rfl⟩
 case hbody=>
  rintro l pre ⟨⟨lo,hi⟩,M,N⟩ O W H Q ⟨⟨E,o,j,C⟩,Bs,hs,L,rfl⟩;clear H;have c0:W.cell? ⟨Bs,0,none⟩=some (.bool M):=(by simp[World.cell?,hs]);have c1:W.cell? ⟨Bs,1,none⟩=some (.bool N):=(by simp[World.cell?,hs]);have c2:W.cell? ⟨w.heap.size,0,none⟩=some (.bool p):=(by simp[World.cell?,E]);have c3:W.cell? ⟨w.heap.size,1,none⟩=some (.bool q):=(by simp[World.cell?,E]);have U:=o.cell;have f4:=o.frozen;cases ht:(M == p && N == q)with
  | true=>
    have S:M=p/\N=q:=(dL ht);obtain⟨rfl,rfl⟩:=S;have HT:=qL ht;clear ht
    gi_wp2
    exact⟨(Keep.refl _ _).setCell (p:=⟨w.heap.size+1,0,none⟩) (λ_=>.inl rfl) _,rfl,o.set _,j.setCell (p:=⟨w.heap.size+1,0,none⟩) b7 _,by show occ _ _ _=true;rw[zpi,C.o];simp⟩
  | false=>
    gi_wp2
    all_goals first|(exfalso;simp_all;done)|exact⟨Keep.refl _ _,E,o,j,by show occ _ _ _=false;rw[zpi,C.o];simp_all⟩
 case hdone=>
  rintro W ⟨E,o,j,C⟩ P;have U:=o.cell;have f4:=o.frozen
  gi_wp2
  refine⟨b7,.inl ⟨_,_,rfl,tU (by rw[tv _ _ _ _ b6];exact P),?_⟩⟩;have F:Keep (λk=>k=w.heap.size+1\/k=y.heap.size) W ((W.setCell ⟨w.heap.size+1,0,none⟩ (.bool true)).putObj y.heap.size (.deferred none)):=((Keep.refl (λk=>k=w.heap.size+1\/k=y.heap.size) W).setCell (p:=⟨w.heap.size+1,0,none⟩) (λ_=>.inl rfl) _).putObj (λ_=>.inr rfl) _;have T:((W.setCell ⟨w.heap.size+1,0,none⟩ (.bool true)).putObj y.heap.size (.deferred none)).cell? ⟨w.heap.size+1,0,none⟩=some (.bool true):=(by refine(tk ?_).trans (o.set (.bool true)).cell;exact tL (by show w.heap.size+1≠_;omega));refine⟨.bool true,by simp[results,Tryz.results169,go_sem,T],?_,j.trans (F.below j.size λk hk=>a9)⟩;show Ending.returned (.bool true)=.returned (.bool (!occ (yO a b) p q));rw[C.o];rfl
 case hstop=>
  rintro c pre W K ⟨rfl,o,j,C⟩ P;have U:=o.cell
  gi_wp2
  refine⟨b7,.inl ⟨_,_,rfl,tU P,?_⟩⟩;have F:Keep (λk=>k=y.heap.size) W (W.putObj y.heap.size (.deferred none)):=(Keep.refl (λk=>k=y.heap.size) W).putObj (λ_=>rfl) _;have T:=(F.boxed o a9).cell;refine⟨.bool false,by simp[results,Tryz.results169,go_sem,T],?_,j.trans (F.below j.size λk hk=>a9)⟩;show Ending.returned (.bool false)=.returned (.bool (!occ (yO a b) p q));rw[zqY K C.o];rfl
def zov(a b:List Iv)(j o:Value)(w:World)(y:Nrm a)(hb:Nrm b)(ra:RdR 0 w.heap.size w j a)(rb:RdR 0 w.heap.size w o b):
 Calls Tryz.prog 127 #[j,o] w λe w'=>e=.returned (.bool (zoz a b true true))/\Below w.heap.size w w':=by
 have u:=qL (zph a b j o true true w y hb ra rb);obtain⟨A,C,rfl,_⟩:=ra;obtain⟨B,E,rfl,_⟩:=rb;go_enter func127,ntmps127
 go_wp2_with (go_at_call 169;refine u.o.mono ?_;rintro e w' ⟨rfl,hb⟩)
 go_ret;exact⟨rfl,‹_›⟩
def QZ:Option Iv->List Iv->Nat->Nat×Int
 |_,[],_=>(0,-1)
 |p,s::l,i=>if s.lo<=s.hi then (if (match p with|none=>0|some q=>relate q s)=0 then QZ (some s) l (i+1) else (3,(i:Int))) else (2,(i:Int))
def Zl(l:List Iv):Nat×Int:=QZ none l 0
def KJ:∀(l:List Iv)(p:Option Iv)(i:Nat),(∀s∈l,s.hi<zk)->((QZ p l i).1=0↔match p with|none=>NF 0 l|some q=>(∀s∈l,s.lo<=s.hi->relate q s=0\/True)/\(l=[]\/∃s r,l=s::r/\s.lo<=s.hi/\relate q s=0/\NF (s.hi+2) r))
 |[],p,i,_=>by cases p<;>simp[QZ,NF]
 | s::l,p,i,hb=>by
   have ih:=KJ l (some s) (i+1) (λt ht=>hb t (by simp[ht]));have hs:=hb s b7;have u:(QZ (some s) l (i+1)).1=0↔NF (s.hi+2) l:=by
    rw[ih];constructor
    .rintro⟨_,rfl|⟨t,r,rfl,o,j,w⟩⟩
     .trivial
     .refine⟨?_,o,hb t b7,w⟩;unfold relate at j;split at j
      .split at j
       .cases j
       .omega
      .split at j
       .split at j<;>cases j
       .cases j
    .intro h;refine⟨λ_ _ _=>.inr trivial,?_⟩;cases l with
     |nil=>exact .inl rfl
     |cons t r=>have:=h.1;exact .inr ⟨t,r,rfl,h.2.1,by unfold relate;rw[vj a9,vD a9],h.2.2.2⟩
   unfold QZ;by_cases o:s.lo<=s.hi
   .rw[vj o];cases p with
    |none=>simp only[UJ];rw[u];exact⟨λh=>⟨X4 _,o,hs,h⟩,λh=>h.2.2.2⟩
    | some q=>
      simp only;by_cases j:relate q s=0
      .rw[vj j,u];exact⟨λh=>⟨λ_ _ _=>.inr trivial,.inr ⟨s,l,rfl,o,j,h⟩⟩,λh=>by
        rcases h.2 with h|⟨t,r,e,_,_,h⟩
        .cases h
        .cases e;exact h⟩
      .rw[vD j];simp;intro _ h;exact absurd h j
   .rw[vD o];cases p with
    |none=>simp[NF,o]
    |some q=>simp;intro h;exact absurd h o
def YT{l:List Iv}(h:∀s∈l,s.hi<zk):(Zl l).1=0↔Nrm l:=KJ l none 0 h
def Yj{l:List Iv}{k:Nat}{p:Option Iv}(h:k<l.length):QZ p (l.drop k) k=if l[k].lo<=l[k].hi then (if (match p with|none=>0|some q=>relate q l[k])=0 then QZ (some l[k]) (l.drop (k+1)) (k+1) else (3,(k:Int))) else (2,(k:Int)):=by rw[Vq h];rfl
inductive Ow where
 |sh
 |z
 |n (sz:Nat)
 |p (i:Nat)
 |r (n sz:Nat)
inductive PV where
 |v (x:Value)
 |agg (cs:List PV)
 |tup (cs:List PV)
 |sl (es:List (List PV)) (o:Ow)
 |cp (cs:List PV) (o:Nat)
 |bx (i o:Nat)
 |fn (f:Fn) (fs cs:List PV)
 |ifc (t:TypeId) (x:PV)
 |und
inductive Dat(D:xT)(w:World):Value->PV->Prop where
 |v (x:Value):Dat D w x (.v x)
 |und (x:Value):Dat D w x .und
 |agg (vs:Array Value) (cs:List PV) (hs:vs.size=cs.length) (h1:∀i,i<cs.length->(vs.getD i undef).oneCell'=true) (h:∀(i:Nat)(p:PV),cs[i]?=some p->Dat D w (vs.getD i undef) p):Dat D w (.agg vs) (.agg cs)
 |tup (vs:Array Value) (cs:List PV) (hs:vs.size=cs.length) (h:∀(i:Nat)(p:PV),cs[i]?=some p->Dat D w (vs.getD i undef) p):Dat D w (.tuple vs) (.tup cs)
 |fn (f:Fn) (va vb:Array Value) (fs cs:List PV) (h1:va.size=fs.length) (h2:vb.size=cs.length) (h3:∀(i:Nat)(p:PV),fs[i]?=some p->Dat D w (va.getD i undef) p) (h4:∀(i:Nat)(p:PV),cs[i]?=some p->Dat D w (vb.getD i undef) p):Dat D w (.func f va vb) (.fn f fs cs)
 |ifc (t:TypeId) (x:Value) (p:PV) (h:Dat D w x p):Dat D w (.iface t x) (.ifc t p)
 |sl (a:Option Addr) (cap sz:Nat) (es:List (List PV)) (o:Ow) (b off:Nat) (u:Nat->Value) (hc:es.length<=cap) (hz:o=.z->cap=es.length) (hm:cap<=maxLen) (ha:es≠[]->a=some ⟨b,off,none⟩)
    (hsz:∀(i:Nat)(e:List PV),es[i]?=some e->e.length=sz) (hD:∀j,j<es.length*sz->D b (off+j)/\w.cell? ⟨b,off+j,none⟩=some (u j)/\(u j).oneCell'=true)
    (h:∀(i:Nat)(e:List PV)(j:Nat)(p:PV),es[i]?=some e->e[j]?=some p->Dat D w (u (i*sz+j)) p):Dat D w (.slice a es.length cap) (.sl es o)
 |cp (b off:Nat) (cs:List PV) (o:Nat) (u:Nat->Value) (hD:∀j,j<cs.length->D b (off+j)/\w.cell? ⟨b,off+j,none⟩=some (u j)/\(u j).oneCell'=true)
    (h:∀(j:Nat)(p:PV),cs[j]?=some p->Dat D w (u j) p):Dat D w (.pointer (some ⟨b,off+o,none⟩)) (.cp cs o)
def Dat.mono{D D':xT}{w w':World}{x:Value}{p:PV}(h:Dat D w x p)(A:∀b o,D b o->D' b o)(B:∀b o x,D b o->w.cell? ⟨b,o,none⟩=some x->w'.cell? ⟨b,o,none⟩=some x):Dat D' w' x p:=by
 induction h with
 |v x=>exact .v x
 |und x=>exact .und x
 |agg vs cs hs h1 _ ih=>exact .agg vs cs hs h1 ih
 |tup vs cs hs _ ih=>exact .tup vs cs hs ih
 |fn f va vb fs cs h1 h2 _ _ ih1 ih2=>exact .fn f va vb fs cs h1 h2 ih1 ih2
 |ifc t x p _ ih=>exact .ifc t x p ih
 |sl a cap sz es o b off u hc hz hm ha hsz hd _ ih=>exact .sl a cap sz es o b off u hc hz hm ha hsz (λj y=>⟨A _ _ (hd j y).1,B _ _ _ (hd j y).1 (hd j y).2.1,(hd j y).2.2⟩) ih
 |cp b off cs o u hd _ ih=>exact .cp b off cs o u (λj y=>⟨A _ _ (hd j y).1,B _ _ _ (hd j y).1 (hd j y).2.1,(hd j y).2.2⟩) ih
def Rel1(D:xT)(ρ:Nat->Nat)(j:Nat)(w:World)(x:Value)(p:PV):Prop:=
 Dat D w x p\/∃i o,p=.bx i o/\i<j/\x=.pointer (some ⟨ρ i,o,none⟩)
def Rel(D:xT)(ρ:Nat->Nat)(nb:Nat)(w:World)(x:Value)(p:PV):Prop:=
 Rel1 D ρ nb w x p\/∃f u y o j,p=.fn f o j/\x=.func f u y/\u.size=o.length/\y.size=j.length/\(∀i q,o[i]?=some q->Rel1 D ρ nb w (u.getD i undef) q)/\(∀i q,j[i]?=some q->Rel1 D ρ nb w (y.getD i undef) q)
def Rel1.mono{D D':xT}{ρ ρ':Nat->Nat}{u j:Nat}{w w':World}{x:Value}{p:PV}(h:Rel1 D ρ u w x p)(y:∀b o,D b o->D' b o)(A:∀b o x,D b o->w.cell? ⟨b,o,none⟩=some x->w'.cell? ⟨b,o,none⟩=some x)
 (C:u<=j) (B:∀i,i<u->ρ' i=ρ i):Rel1 D' ρ' j w' x p:=by
 rcases h with h|⟨i,o,rfl,hi,rfl⟩
 .exact .inl (h.mono y A)
 .exact .inr ⟨i,o,rfl,a9,by rw[B i hi]⟩
def Rel.mono{D D':xT}{ρ ρ':Nat->Nat}{E j:Nat}{w w':World}{x:Value}{p:PV}(h:Rel D ρ E w x p)(u:∀b o,D b o->D' b o)(B:∀b o x,D b o->w.cell? ⟨b,o,none⟩=some x->w'.cell? ⟨b,o,none⟩=some x)
 (y:E<=j) (C:∀i,i<E->ρ' i=ρ i):Rel D' ρ' j w' x p:=by
 rcases h with h|⟨f,L,M,G,F,rfl,rfl,H,I,J,K⟩
 .exact .inl (h.mono u B y C)
 .exact .inr ⟨f,L,M,G,F,rfl,rfl,H,I,λi q A=>(J i q A).mono u B y C,λi q A=>(K i q A).mono u B y C⟩
def Rel.dat{D:xT}{ρ:Nat->Nat}{nb:Nat}{w:World}{x:Value}{p:PV}(h:Dat D w x p):Rel D ρ nb w x p:=.inl (.inl h)
def PV.own:PV->Option Nat
 |.sl _ (.r n _)=>some n
 |_=>none
def PV.isB:PV->Bool
 |.bx _ _=>true
 |_=>false
def PV.isD:PV->Bool
 |.bx _ _=>false
 |.fn _ fs cs=>fs.all (λp=>!p.isB) && cs.all (λp=>!p.isB)
 |_=>true
def PV.strip:PV->PV
 |.sl es (.r _ _)=>.sl es .sh
 |.sl es (.n _)=>.sl es .sh
 |.sl es (.p _)=>.sl es .sh
 |p=>p
def PV.sh:PV->PV
 |.sl es _=>.sl es .sh
 |p=>p
def PV.strip_own(p:PV):p.strip.own=none:=by
 cases p<;>try rfl
 rename_i o;cases o<;>rfl
def PV.isN:PV->Bool
 |.sl _ (.n _)=>true
 |.sl _ (.p _)=>true
 |_=>false
def PV.strip_isN(p:PV):p.strip.isN=false:=by
 cases p<;>try rfl
 rename_i o;cases o<;>rfl
def NewOk(A:Nat->Value)(y:Nat)(w:World)(x:Value):PV->Prop
 |.sl es (.p i)=>∃u len j,A i=.slice u len j/\x=.slice u es.length j
 |.sl es (.n sz)=>(∃u,x=.slice u es.length es.length)\/∃g j o e,y<=g/\x=.slice (some ⟨g,0,none⟩) es.length j/\w.heap[g]?=some (.cells o e (0,0))/\o.size=j*sz
 |_=>True
def xA{u:Nat->Value}{j:Nat}{w:World}{x:Value}{p:PV}(h:p.isN=false):NewOk u j w x p:=by
 cases p<;>try trivial
 rename_i o;cases o<;>first|trivial|cases h
def NewOk.mono{C:Nat->Value}{A B:Nat}{w w':World}{x:Value}{p:PV}(h:NewOk C A w x p)(I:B<=A)(G:∀k,k<w.heap.size->w'.heap[k]?=w.heap[k]?):NewOk C B w' x p:=by
 cases p<;>try trivial
 rename_i es o;cases o<;>first|exact h|skip
 rcases h with h|⟨g,j,u,e,H,E,y,F⟩
 .exact .inl h
 .exact .inr ⟨g,j,u,e,a9,E,(G g (XE.1 y).1).trans y,F⟩
def Dat.strip{D:xT}{w:World}{x:Value}{p:PV}(h:Dat D w x p):Dat D w x p.strip:=by
 cases h with
 | sl a cap sz es o b off u hc hz hm ha hsz hD h=>
   cases o with
   |sh=>exact .sl a cap sz es _ b off u hc hz hm ha hsz hD h
   |z=>exact .sl a cap sz es _ b off u hc hz hm ha hsz hD h
   |n m=>exact .sl a cap sz es _ b off u hc (λh=>by cases h) hm ha hsz hD h
   |p m=>exact .sl a cap sz es _ b off u hc (λh=>by cases h) hm ha hsz hD h
   |r n m=>exact .sl a cap sz es _ b off u hc (λh=>by cases h) hm ha hsz hD h
 |v x=>exact .v x
 |und x=>exact .und x
 |agg vs cs hs h1 h=>exact .agg vs cs hs h1 h
 |tup vs cs hs h=>exact .tup vs cs hs h
 |fn f va vb fs cs h1 h2 h3 h4=>exact .fn f va vb fs cs h1 h2 h3 h4
 |ifc t x p h=>exact .ifc t x p h
 |cp b off cs o u hD h=>exact .cp b off cs o u hD h
def Dat.sh{D:xT}{w:World}{x:Value}{p:PV}(h:Dat D w x p):Dat D w x p.sh:=by
 cases h with
 |sl a cap sz es o b off u hc hz hm ha hsz hD h=>exact .sl a cap sz es _ b off u hc (λh=>by cases h) hm ha hsz hD h
 |v x=>exact .v x
 |und x=>exact .und x
 |agg vs cs hs h1 h=>exact .agg vs cs hs h1 h
 |tup vs cs hs h=>exact .tup vs cs hs h
 |fn f va vb fs cs h1 h2 h3 h4=>exact .fn f va vb fs cs h1 h2 h3 h4
 |ifc t x p h=>exact .ifc t x p h
 |cp b off cs o u hD h=>exact .cp b off cs o u hD h
def Dat.owned{D:xT}{w:World}{x:Value}{j:List (List PV)}{k:Ow}(h:Dat D w x (.sl j k))(n m:Nat):Dat D w x (.sl j (.r n m)):=by
 cases h with
 |sl a cap sz j o b off u hc hz hm ha hsz hD h=>exact .sl a cap sz j _ b off u hc (λh=>by cases h) hm ha hsz hD h
def PV.sh_own(p:PV):p.sh.own=none:=by cases p<;>rfl
def PV.sh_isD(p:PV):p.sh.isD=p.isD:=by cases p<;>rfl
def Rel1.strip{D:xT}{ρ:Nat->Nat}{j:Nat}{w:World}{x:Value}{p:PV}(h:Rel1 D ρ j w x p):Rel1 D ρ j w x p.strip:=by
 rcases h with h|⟨i,o,rfl,hi,rfl⟩
 .exact .inl h.strip
 .exact .inr ⟨i,o,rfl,hi,rfl⟩
def Rel.strip{D:xT}{ρ:Nat->Nat}{j:Nat}{w:World}{x:Value}{p:PV}(h:Rel D ρ j w x p):Rel D ρ j w x p.strip:=by
 rcases h with h|⟨f,y,A,u,o,rfl,h⟩
 .exact .inl h.strip
 .exact .inr ⟨f,y,A,u,o,rfl,h⟩
def yW(D:xT)(W:Nat->Prop)(w:World)(x:Value):PV->Prop
 |.sl es (.r _ sz)=>(∃a,x=.slice a 0 0/\es=[])\/∃g j u e,x=.slice (some ⟨g,0,none⟩) es.length j/\W g/\w.heap[g]?=some (.cells u e (0,0))/\u.size=j*sz/\(∀e∈es,e.length=sz)/\∀o,es.length*sz<=o->¬D g o
 |_=>True
def zr{D:xT}{W:Nat->Prop}{w:World}{x:Value}{p:PV}(h:p.own=none):yW D W w x p:=by
 cases p<;>try trivial
 rename_i o;cases o<;>first|trivial|cases h
def zc:Value->Option Nat
 |.slice (some a) _ (_+1)=>some a.block
 |_=>Option.none
def Dat.restrict{D:xT}{w:World}{x:Value}{p:PV}(h:Dat D w x p):Dat (λb o=>D b o/\b<w.heap.size) w x p:=by
 induction h with
 |v x=>exact .v x
 |und x=>exact .und x
 |agg vs cs hs h1 _ ih=>exact .agg vs cs hs h1 ih
 |tup vs cs hs _ ih=>exact .tup vs cs hs ih
 |fn f va vb fs cs h1 h2 _ _ ih1 ih2=>exact .fn f va vb fs cs h1 h2 ih1 ih2
 |ifc t x p _ ih=>exact .ifc t x p ih
 |sl a cap sz es o b off u hc hz hm ha hsz hd _ ih=>exact .sl a cap sz es o b off u hc hz hm ha hsz (λj y=>⟨⟨(hd j y).1,tn w ⟨b,off+j,_⟩ (hd j y).2.1⟩,(hd j y).2⟩) ih
 |cp b off cs o u hd _ ih=>exact .cp b off cs o u (λj y=>⟨⟨(hd j y).1,tn w ⟨b,off+j,_⟩ (hd j y).2.1⟩,(hd j y).2⟩) ih
def Rel1.restrict{D:xT}{ρ:Nat->Nat}{j:Nat}{w:World}{x:Value}{p:PV}(h:Rel1 D ρ j w x p):Rel1 (λb o=>D b o/\b<w.heap.size) ρ j w x p:=by
 rcases h with h|h
 .exact .inl h.restrict
 .exact .inr h
def Rel.restrict{D:xT}{ρ:Nat->Nat}{u:Nat}{w:World}{x:Value}{p:PV}(h:Rel D ρ u w x p):Rel (λb o=>D b o/\b<w.heap.size) ρ u w x p:=by
 rcases h with h|⟨f,I,J,A,y,B,C,E,F,G,H⟩
 .exact .inl h.restrict
 .exact .inr ⟨f,I,J,A,y,B,C,E,F,λi q j=>(G i q j).restrict,λi q j=>(H i q j).restrict⟩
def Dat.isD{D:xT}{w:World}{x:Value}{p:PV}(h:Dat D w x p):p.isD=true:=by
 have o:∀{x p},Dat D w x p->p.isB=false:=λh=>by cases h<;>rfl
 cases h<;>try rfl
 rename_i f va vb fs cs h1 h2 h3 h4;simp only[PV.isD,Vm,wH,Wg];exact⟨λp j=>by obtain⟨i,hi⟩:=wJ j;exact o (h3 i p hi),λp j=>by obtain⟨i,hi⟩:=wJ j;exact o (h4 i p hi)⟩
def Rel1.data{D:xT}{ρ:Nat->Nat}{u:Nat}{w:World}{x:Value}{p:PV}(h:Rel1 D ρ u w x p)(j:p.isB=false):Dat D w x p:=by
 rcases h with h|⟨i,o,rfl,_⟩
 .exact h
 .cases j
def Rel.data{D:xT}{ρ:Nat->Nat}{G:Nat}{w:World}{x:Value}{p:PV}(h:Rel D ρ G w x p)(u:p.isD=true):Dat D w x p:=by
 rcases h with h|⟨f,H,I,A,y,rfl,rfl,B,C,E,F⟩
 .rcases h with h|⟨i,o,rfl,_⟩
  .exact h
  .cases u
 .simp only[PV.isD,Vm,wH,Wg]at u;exact .fn f H I A y B C (λi q j=>(E i q j).data (u.1 q (wL j))) (λi q j=>(F i q j).data (u.2 q (wL j)))
def Rel.v_inv{D:xT}{ρ:Nat->Nat}{j:Nat}{w:World}{x y:Value}(h:Rel D ρ j w x (.v y)):x=y:=by
 rcases h with(h|⟨i,o,h,_⟩)|⟨f,va,vb,fs,cs,h,_⟩
 .cases h;rfl
 .cases h
 .cases h
def PV.pre(i:Nat):PV->PV
 |.sl es (.r _ _)=>.sl es (.p i)
 |p=>p.strip
def PV.pre_or(i:Nat)(p:PV):p.pre i=p.strip\/∃j n m,p=.sl j (.r n m)/\p.pre i=.sl j (.p i):=by
 cases p<;>try exact .inl rfl
 rename_i j o;cases o<;>first|exact .inl rfl|exact .inr ⟨_,_,_,rfl,rfl⟩
def PV.clean:PV->PV
 |.sl es (.n _)=>.sl es .sh
 |.sl es (.p _)=>.sl es .sh
 |p=>p
def PV.clean_or(p:PV):p.clean=p.strip\/p.clean=p:=by
 cases p<;>try exact .inr rfl
 rename_i es o;cases o<;>first|exact .inl rfl|exact .inr rfl
def PV.clean_isN(p:PV):p.clean.isN=false:=by
 cases p<;>try rfl
 rename_i es o;cases o<;>rfl
end
section
structure PS where
 t:List (Nat×PV)
 b:List (List PV)
def yr:List (Nat×PV)->Nat->PV
 |[],_=>.und
 |(j,p)::r,i=>if j=i then p else yr r i
def PS.get(s:PS)(i:Nat):PV:=yr s.t i
def PS.put(s:PS)(d:Option Nat)(p:PV):PS:=match d with|some d=>⟨(d,p)::s.t,s.b⟩|none=>s
structure Gh where
 D:Nat->Nat->Prop
 ρ:Nat->Nat
structure Bs where
 w0:World
 D0:Nat->Nat->Prop
 Sb:Nat->Prop
 gl:GL D0 w0
 df:List Deferred
def Bs.W(B:Bs)(k:Nat):Prop:=B.w0.heap.size<=k\/B.Sb k
structure Fr(B:Bs)(D:xT)(w:World):Prop where
 os:w.os=B.w0.os
 tape:w.tape=B.w0.tape
 output:w.output=B.w0.output
 size:B.w0.heap.size<=w.heap.size
 block:∀k,k<B.w0.heap.size->¬B.Sb k->w.heap[k]?=B.w0.heap[k]?
 d0:∀b o,B.D0 b o->D b o
 cell:∀b o x,B.D0 b o->B.w0.cell? ⟨b,o,none⟩=some x->w.cell? ⟨b,o,none⟩=some x
 new:∀b o,D b o->B.D0 b o\/B.W b
 d0lt:∀b o,B.D0 b o->b<B.w0.heap.size
def zaA(g:Gh)(y:Nat)(w:World)(i:Nat)(u:List PV):Prop:=
 ∃o e,w.heap[g.ρ i]?=some (.cells o e (0,0))/\o.size=u.length/\∀(j:Nat)(p:PV),u[j]?=some p->Rel g.D g.ρ y w (o.getD j undef) p/\(o.getD j undef).oneCell'=true
def zQ(g:Gh)(s:PS)(x:Nat->Value)(w:World)(u:Value)(p:PV):Prop:=
 (∃t,u=x t/\p=s.get t)\/(∃(i j:Nat) (o:List PV),s.b[i]?=some o/\o[j]?=some p/\w.cell? ⟨g.ρ i,j,none⟩=some u)
structure R(B:Bs)(g:Gh)(s:PS)(x:Nat->Value)(w:World):Prop where
 slots:∀t,Rel g.D g.ρ s.b.length w (x t) (s.get t)
 boxes:∀(i:Nat) cs,s.b[i]?=some cs->B.W (g.ρ i)/\zaA g s.b.length w i cs
 inj:∀i j,i<s.b.length->j<s.b.length->g.ρ i=g.ρ j->i=j
 owns:∀u p,zQ g s x w u p->yW g.D B.W w u p
 disj:∀u p u' p' b,zQ g s x w u p->zQ g s x w u' p'->p.own≠none->p'.own≠none->zc u=some b->zc u'=some b->p.own=p'.own
 ownbox:∀u p b i,zQ g s x w u p->p.own≠none->zc u=some b->i<s.b.length->g.ρ i≠b
 dlt:∀b o,g.D b o->b<w.heap.size
 dbox:∀i,i<s.b.length->∀o,¬g.D (g.ρ i) o
 fr:Fr B g.D w
def qa{n:Nat}{w w':World}(h:Below n w w'){b o:Nat}{x:Value}(hb:b<n)(j:w.cell? ⟨b,o,none⟩=some x):w'.cell? ⟨b,o,none⟩=some x:=(h.cell (p:=⟨b,o,none⟩) hb).trans j
def qF{w:World}{b o:Nat}{x:Value}(j:w.cell? ⟨b,o,none⟩=some x):b<w.heap.size:=tn w ⟨b,o,none⟩ j
def QO(x:Nat->Value)(d:Option Nat)(u:Value):Nat->Value:=λt=>if d=some t then u else x t
def kN(x:Nat->Value)(d:Nat)(u:Value):QO x (some d) u d=u:=by simp[QO]
def QP(x:Nat->Value){d t:Nat}(u:Value)(h:d≠t):QO x (some d) u t=x t:=by simp[QO,h]
def zF(s:PS)(d:Nat)(p:PV):(s.put (some d) p).get d=p:=by simp[PS.put,PS.get,yr]
def zV(s:PS){d t:Nat}(p:PV)(h:d≠t):(s.put (some d) p).get t=s.get t:=by simp[PS.put,PS.get,yr,h]
variable {B:Bs}{g:Gh}{s:PS}{x:Nat->Value}{w w':World}
def R.gl(h:R B g s x w):GL g.D w:=B.gl.mono h.fr.d0 h.fr.cell
def R.slot(h:R B g s x w)(t:Nat):zQ g s x w (x t) (s.get t):=.inl ⟨t,rfl,rfl⟩
def R.ρlt(h:R B g s x w){i:Nat}(hi:i<s.b.length):g.ρ i<w.heap.size:=by obtain⟨_,o,e,j,_⟩:=h.boxes i _ (Zv hi);exact(XE.1 j).1
def zX{D:xT}{W:Nat->Prop}{u:Value}{p:PV}{b:Nat}(h:yW D W w u p)(ho:p.own≠none)(hb:zc u=some b):b<w.heap.size/\W b:=by
 cases p<;>try exact absurd rfl ho
 rename_i o;cases o<;>try exact absurd rfl ho
 rcases h with⟨a,rfl,_⟩|⟨A,j,y,e,rfl,B,C,_⟩
 .cases a<;>cases hb
 .obtain rfl:A=b:=by cases j<;>simp[zc]at hb;exact hb
  exact⟨(XE.1 C).1,B⟩
def QH{D:xT}{ρ:Nat->Nat}{nb:Nat}{a:Option Addr}{n j:Nat}{y:List (List PV)}{o:Ow}(h:Rel D ρ nb w (.slice a n j) (.sl y o)):n<=j/\n=y.length/\j<=maxLen:=by
 rcases h with(h|⟨i,o,h,_⟩)|⟨f,va,vb,fs,cs,h,_⟩
 .cases h with
  |sl a j sz y o b off u hc hz hm ha hsz hD h=>exact⟨hc,rfl,hm⟩
 .cases h
 .cases h
def R.slot_rel(h:R B g s x w){u:Value}{p:PV}(hs:zQ g s x w u p):Rel g.D g.ρ s.b.length w u p:=by
 rcases hs with⟨t,rfl,rfl⟩|⟨i,j,y,A,C,o⟩
 .exact h.slots t
 .obtain⟨_,H,e,G,F,E⟩:=h.boxes i y A;have:=(E j p C).1;simp only[World.cell?,G]at o;simp only[Option.isSome_none,uD,UV]at o;rw[wu,o]at this;exact this
def OwnNew(B:Bs)(g:Gh)(s:PS)(x:Nat->Value)(w:World)(u:Value)(p:PV):Prop:=
 p.own≠none->yW g.D B.W w u p/\(∀v q b,zQ g s x w v q->q.own≠none->zc v=some b->zc u=some b->q.own=p.own)/\(∀b i,zc u=some b->i<s.b.length->g.ρ i≠b)
def OwnNew.none{u:Value}{p:PV}(h:p.own=none):OwnNew B g s x w u p:=λj=>absurd h j
def R.ownNew(h:R B g s x w){u:Value}{p:PV}(hs:zQ g s x w u p):OwnNew B g s x w u p:=λho=>
 ⟨h.owns _ _ hs,λv q b j o y A=>h.disj _ _ _ _ b j hs o ho y A,λb i j o=>h.ownbox _ _ b i hs ho j o⟩
def R.put(h:R B g s x w)(d:Option Nat){u:Value}{p:PV}(J:Rel g.D g.ρ s.b.length w u p)(ho:OwnNew B g s x w u p):
 R B g (s.put d p) (QO x d u) w:=by
 cases d with
 |none=>have:QO x none u=x:=(by funext t;simp[QO]);rw[this];exact h
 |some d=>
 have hs:∀v q,zQ g (s.put (some d) p) (QO x (some d) u) w v q->(v=u/\q=p)\/zQ g s x w v q:=by
  rintro v q (⟨t,rfl,rfl⟩|hb)
  .by_cases e:d=t
   .subst e;exact .inl ⟨kN _ _ _,zF _ _ _⟩
   .exact .inr (.inl ⟨t,QP _ _ e,zV _ _ e⟩)
  .exact .inr (.inr hb)
 refine⟨?_,h.boxes,h.inj,?_,?_,?_,h.dlt,h.dbox,h.fr⟩
 .intro t;by_cases e:d=t
  .subst e;rw[kN,zF];exact J
  .rw[QP _ _ e,zV _ _ e];exact h.slots t
 .intro v q j;by_cases A:q.own=none
  .exact zr A
  .rcases hs v q j with⟨rfl,rfl⟩|j
   .exact(ho A).1
   .exact h.owns _ _ j
 .intro v q G F b H I o y b1 b2;rcases hs v q H with⟨rfl,rfl⟩|C<;>rcases hs G F I with⟨rfl,rfl⟩|E
  .rfl
  .exact((ho o).2.1 G F b E y b2 b1).symm
  .exact(ho y).2.1 v q b C o b1 b2
  .exact h.disj _ _ _ _ b C E o y b1 b2
 .intro v q b i j o b1 hi;rcases hs v q j with⟨rfl,rfl⟩|j
  .exact(ho o).2.2 b i b1 hi
  .exact h.ownbox _ _ b i j o b1 hi
def R.frame(h:R B g s x w)(F:xT)(J:∀b o y,g.D b o->w.cell? ⟨b,o,none⟩=some y->w'.cell? ⟨b,o,none⟩=some y)
 (V:∀i,i<s.b.length->w'.heap[g.ρ i]?=w.heap[g.ρ i]?) (c3:∀u p b,zQ g s x w u p->p.own≠none->zc u=some b->w'.heap[b]?=w.heap[b]?)
 (M:∀b o,g.D b o->F b o) (N:∀b o,F b o->g.D b o\/(B.W b/\(∀i,i<s.b.length->g.ρ i≠b)/\∀u p,zQ g s x w u p->p.own≠none->zc u≠some b)) (d3:∀b o,F b o->b<w'.heap.size)
 (e1:w'.os=w.os) (e2:w'.tape=w.tape) (e3:w'.output=w.output) (e4:w.heap.size<=w'.heap.size) (e5:∀k,k<B.w0.heap.size->¬B.Sb k->w'.heap[k]?=w.heap[k]?):R B ⟨F,g.ρ⟩ s x w':=by
 have hs:∀u q,zQ ⟨F,g.ρ⟩ s x w' u q->zQ g s x w u q:=by
  rintro u q (T|⟨i,j,K,Y,h5,h6⟩)
  .exact .inl T
  .exact .inr ⟨i,j,K,Y,h5,by rw[<-h6];exact(tk (a:=⟨g.ρ i,j,none⟩) (V i (Zw.1 Y).1)).symm⟩
 refine⟨λt=>(h.slots t).mono M J (Zp _) λ_ _=>rfl,?_,h.inj,?_,?_,?_,d3,?_,?_⟩
 .intro i K hi;obtain⟨O,vs,e,hv,S,hr⟩:=h.boxes i K hi;exact⟨O,vs,e,(V i (Zw.1 hi).1).trans hv,S,λj p Z=>⟨(hr j p Z).1.mono M J (Zp _) λ_ _=>rfl,(hr j p Z).2⟩⟩
 .intro u q T;by_cases Q:q.own=none
  .exact zr Q
  have E:=hs u q T;have:=h.owns u q E;cases q<;>try trivial
  rename_i es o;cases o<;>try trivial
  rcases this with I|⟨X,G,L,e,rfl,O,hh,hc,he,hd⟩
  .exact .inl I
  .cases G with
   | zero=>
     by_cases H:es=[]
     .subst H;exact .inl ⟨_,rfl,rfl⟩
     .obtain⟨P,_⟩:=QH (h.slot_rel E);exact absurd (wG (U8.1 P)) H
   | succ G=>
     refine .inr ⟨X,_,L,e,rfl,O,(c3 _ _ X E Q rfl).trans hh,hc,he,λo ho C=>?_⟩;rcases N _ _ C with A|A
     .exact hd o ho A
     .exact A.2.2 _ _ E Q rfl
 .intro u q u' q' b U k2;exact h.disj u q u' q' b (hs _ _ U) (hs _ _ k2)
 .intro u q b i U;exact h.ownbox u q b i (hs _ _ U)
 .intro i hi o C;rcases N _ _ C with A|A
  .exact h.dbox i hi o A
  .exact A.2.1 i hi rfl
 .refine⟨e1.trans h.fr.os,e2.trans h.fr.tape,e3.trans h.fr.output,VS h.fr.size e4,λk hk I=>(e5 k hk I).trans (h.fr.block k hk I),λb o C=>M _ _ (h.fr.d0 b o C),?_,?_,?_⟩
  .intro b o y C hy;exact J _ _ _ (h.fr.d0 b o C) (h.fr.cell b o y C hy)
  .intro b o C;rcases N _ _ C with A|A
   .exact h.fr.new b o A
   .exact .inr A.1
  .exact h.fr.d0lt
def R.grow(h:R B g s x w)(hb:Below w.heap.size w w')(j:xT)(G:∀b o,g.D b o->j b o)
 (H:∀b o,j b o->g.D b o\/w.heap.size<=b) (I:∀b o,j b o->b<w'.heap.size):R B ⟨j,g.ρ⟩ s x w':=by
 refine h.frame j (λb o y _ F=>qa hb (qF F) F) (λi hi=>hb.block _ (h.ρlt hi)) (λu p b E ho C=>hb.block _ (zX (h.owns u p E) ho C).1) G ?_ I
  hb.os hb.tape hb.output hb.size λk hk _=>hb.block k (vw hk h.fr.size)
 intro b o J;rcases H b o J with A|A
 .exact .inl A
 .refine .inr ⟨.inl (VS h.fr.size A),λi hi e=>?_,λu p E ho e=>?_⟩
  .have:=h.ρlt hi;omega
  .have:=(zX (h.owns u p E) ho e).1;omega
def R.drew(h:R B g s x w):R B g s x w.drew:=
 h.grow (w':=w.drew) ⟨rfl,rfl,rfl,Zp _,λ_ _=>rfl⟩ g.D (λ_ _ h=>h) (λ_ _ h=>.inl h) h.dlt
def R.box(h:R B g s x w)(d:Option Nat)(C:Array Value)(e:TypeId)(F:List PV)(ab:C.size=F.length)
 (hr:∀(j:Nat)(p:PV),F[j]?=some p->Rel g.D g.ρ s.b.length w (C.getD j undef) p/\(C.getD j undef).oneCell'=true) (ho:∀p∈F,p.own=none) :
 R B ⟨g.D,λi=>if i=s.b.length then w.heap.size else g.ρ i⟩ (PS.put ⟨s.t,s.b++[F]⟩ d (.bx s.b.length 0)) (QO x d (.pointer (some ⟨w.heap.size,0,none⟩))) (w.alloc (.cells C e)):=by
 have hb:Below w.heap.size w (w.alloc (.cells C e)):=(tq _ _).alloc (Zp _) _;have I:R B g s x (w.alloc (.cells C e)):=h.grow hb g.D (λ_ _ h=>h) (λ_ _ h=>.inl h) λb o X=>vw (h.dlt b o X) hb.size;obtain⟨ρ',L⟩:=xn ((λi=>if i=s.b.length then w.heap.size else g.ρ i));rw[L];have e1:∀i,i<s.b.length->ρ' i=g.ρ i:=λi hi=>by rw[<-L];simp;omega
 have e2:ρ' s.b.length=w.heap.size:=by rw[<-L];simp
 have J:∀b o x,g.D b o->w.cell? ⟨b,o,none⟩=some x->(w.alloc (.cells C e)).cell? ⟨b,o,none⟩=some x:=λb o x _ M=>qa hb (qF M) M;have mono:∀u p,Rel g.D g.ρ s.b.length (w.alloc (.cells C e)) u p->Rel g.D ρ' (s.b++[F]).length (w.alloc (.cells C e)) u p:=λu p hu=>hu.mono (λ_ _ h=>h) (λ_ _ _ _ h=>h) b7 e1;have ad:(s.b++[F]).length=s.b.length+1:=b7
 have hs:∀u q,zQ ⟨g.D,ρ'⟩ ⟨s.t,s.b++[F]⟩ x (w.alloc (.cells C e)) u q->q.own≠none->zQ g s x (w.alloc (.cells C e)) u q:=by
  rintro u q (M|⟨i,j,E,G,T,V⟩) U
  .exact .inl M
  .rcases wK i s.b.length with hi|hi
   .rw[V1 hi]at G;exact .inr ⟨i,j,E,G,T,by rw[<-V];show _=World.cell? _ ⟨ρ' i,j,none⟩;rw[e1 i hi]⟩
   .rw[V0 hi]at G;have K:i-s.b.length=0:=by have:=(Zw.1 G).1;simp at this;omega
    rw[K]at G;simp at G;subst G;exact absurd (ho q (wL T)) U
 have r1:R B ⟨g.D,ρ'⟩ ⟨s.t,s.b++[F]⟩ x (w.alloc (.cells C e)):=by
  refine⟨λt=>mono _ _ (I.slots t),?_,?_,?_,?_,?_,I.dlt,?_,I.fr⟩
  .intro i E hi;rcases wK i s.b.length with y|y
   .rw[V1 y]at hi;obtain⟨hW,ac,e',hv,S,Q⟩:=I.boxes i E hi;refine⟨by show B.W (ρ' i);rw[e1 i y];exact hW,ac,e',by show _=_;rw[<-hv];show (World.alloc _ _).heap[ρ' i]?=_;rw[e1 i y],S,λj p P=>⟨mono _ _ (Q j p P).1,(Q j p P).2⟩⟩
   .rw[V0 y]at hi;have K:i-s.b.length=0:=by have:=(Zw.1 hi).1;simp at this;omega
    rw[K]at hi;simp at hi;subst hi;have:i=s.b.length:=a9;subst this;refine⟨by show B.W (ρ' _);rw[e2];exact .inl h.fr.size,C,e,?_,ab,λj p P=>⟨mono _ _ ((hr j p P).1.mono (λ_ _ h=>h) J (Zp _) λ_ _=>rfl),(hr j p P).2⟩⟩;show (World.alloc _ _).heap[ρ' _]?=_;rw[e2];exact tl w _
  .intro i j hi hj Z;have Y:i<s.b.length+1:=(dL hi);have ae:j<s.b.length+1:=(dL hj);have A:ρ' i=ρ' j:=Z;rcases wK i s.b.length with y|y<;>rcases wK j s.b.length with O|O
   .rw[e1 i y,e1 j O]at A;exact I.inj i j y O A
   .have:j=s.b.length:=a9;rw[e1 i y,this,e2]at A;have:=h.ρlt y;omega
   .have:i=s.b.length:=a9;rw[e1 j O,this,e2]at A;have:=h.ρlt O;omega
   .omega
  .intro u q hu;by_cases U:q.own=none
   .exact zr U
   .exact I.owns u q (hs u q hu U)
  .intro u q u' q' b k1 k2 N o2;exact I.disj u q u' q' b (hs _ _ k1 N) (hs _ _ k2 o2) N o2
  .intro u q b i k1 N b1 hi;have k:=hs _ _ k1 N;show ρ' i≠b;rcases wK i s.b.length with y|y
   .rw[e1 i y];exact I.ownbox u q b i k N b1 y
   .have:i=s.b.length:=(by have:i<(s.b++[F]).length:=hi;simp at this;omega);rw[this,e2];have k0:zQ g s x w u q:=by
     rcases k with M|⟨i,j,E,G,T,V⟩
     .exact .inl M
     .exact .inr ⟨i,j,E,G,T,by rw[<-V];exact(hb.cell (p:=⟨g.ρ i,j,none⟩) (h.ρlt (Zw.1 G).1)).symm⟩
    have:=(zX (h.owns u q k0) N b1).1;omega
  .intro i hi o X;have Y:i<s.b.length+1:=(by have:i<(s.b++[F]).length:=hi;simpa using this);have H:g.D (ρ' i) o:=X;rcases wK i s.b.length with y|y
   .rw[e1 i y]at H;exact h.dbox i y o H
   .have:i=s.b.length:=a9;rw[this,e2]at H;have:=h.dlt _ _ H;omega
 refine r1.put d (.inl (.inr ⟨s.b.length,0,rfl,b7,?_⟩)) (.none rfl);show _=Value.pointer (some ⟨ρ' s.b.length,0,none⟩);rw[e2]
def R.boxAt(h:R B g s x w)(d:Option Nat)(Q:Array Value)(e:TypeId)(C:List PV)(Z:Q.size=C.length){E:Nat}(hh:w.heap[E]?=some (.cells Q e (0,0)))(T:B.W E)(M:∀i,i<s.b.length->g.ρ i≠E)(X:∀o,¬g.D E o)(Y:∀u q,zQ g s x w u q->q.own≠none->zc u≠some E)
 (hr:∀(j:Nat)(p:PV),C[j]?=some p->Rel g.D g.ρ s.b.length w (Q.getD j undef) p/\(Q.getD j undef).oneCell'=true) (ho:∀p∈C,p.own=none) :
 R B ⟨g.D,λi=>if i=s.b.length then E else g.ρ i⟩ (PS.put ⟨s.t,s.b++[C]⟩ d (.bx s.b.length 0)) (QO x d (.pointer (some ⟨E,0,none⟩))) w:=by
 obtain⟨ρ',J⟩:=xn ((λi=>if i=s.b.length then E else g.ρ i));rw[J];have e1:∀i,i<s.b.length->ρ' i=g.ρ i:=λi hi=>by rw[<-J];simp;omega
 have e2:ρ' s.b.length=E:=by rw[<-J];simp
 have mono:∀u p,Rel g.D g.ρ s.b.length w u p->Rel g.D ρ' (s.b++[C]).length w u p:=λu p hu=>hu.mono (λ_ _ h=>h) (λ_ _ _ _ h=>h) b7 e1;have ac:(s.b++[C]).length=s.b.length+1:=b7
 have hs:∀u q,zQ ⟨g.D,ρ'⟩ ⟨s.t,s.b++[C]⟩ x w u q->q.own≠none->zQ g s x w u q:=by
  rintro u q (hx|⟨i,j,G,H,h5,h6⟩) S
  .exact .inl hx
  .rcases wK i s.b.length with hi|hi
   .rw[V1 hi]at H;exact .inr ⟨i,j,G,H,h5,by rw[<-h6];show _=World.cell? _ ⟨ρ' i,j,none⟩;rw[e1 i hi]⟩
   .rw[V0 hi]at H;have I:i-s.b.length=0:=by have:=(Zw.1 H).1;simp at this;omega
    rw[I]at H;simp at H;subst H;exact absurd (ho q (wL h5)) S
 have r1:R B ⟨g.D,ρ'⟩ ⟨s.t,s.b++[C]⟩ x w:=by
  refine⟨λt=>mono _ _ (h.slots t),?_,?_,?_,?_,?_,h.dlt,?_,h.fr⟩
  .intro i G hi;rcases wK i s.b.length with A|A
   .rw[V1 A]at hi;obtain⟨T,ab,e',hv,P,O⟩:=h.boxes i G hi;refine⟨by show B.W (ρ' i);rw[e1 i A];exact T,ab,e',by show _=_;rw[<-hv];show w.heap[ρ' i]?=_;rw[e1 i A],P,λj p N=>⟨mono _ _ (O j p N).1,(O j p N).2⟩⟩
   .rw[V0 A]at hi;have I:i-s.b.length=0:=by have:=(Zw.1 hi).1;simp at this;omega
    rw[I]at hi;simp at hi;subst hi;have:i=s.b.length:=a9;subst this;refine⟨by show B.W (ρ' _);rw[e2];exact T,Q,e,?_,Z,λj p N=>⟨mono _ _ (hr j p N).1,(hr j p N).2⟩⟩;show w.heap[ρ' _]?=_;rw[e2];exact hh
  .intro i j hi hj V;have U:i<s.b.length+1:=(dL hi);have ad:j<s.b.length+1:=(dL hj);have y:ρ' i=ρ' j:=V;rcases wK i s.b.length with A|A<;>rcases wK j s.b.length with L|L
   .rw[e1 i A,e1 j L]at y;exact h.inj i j A L y
   .have:j=s.b.length:=a9;rw[e1 i A,this,e2]at y;exact absurd y (M i A)
   .have:i=s.b.length:=a9;rw[e1 j L,this,e2]at y;exact absurd y.symm (M j L)
   .omega
  .intro u q hu;by_cases S:q.own=none
   .exact zr S
   .exact h.owns u q (hs u q hu S)
  .intro u q u' q' b k1 k2 K o2;exact h.disj u q u' q' b (hs _ _ k1 K) (hs _ _ k2 o2) K o2
  .intro u q b i k1 K b1 hi;have k:=hs _ _ k1 K;show ρ' i≠b;rcases wK i s.b.length with A|A
   .rw[e1 i A];exact h.ownbox u q b i k K b1 A
   .have:i=s.b.length:=(by have:i<(s.b++[C]).length:=hi;simp at this;omega);rw[this,e2];exact λe3=>Y u q k K (by rw[b1,<-e3])
  .intro i hi o hD;have U:i<s.b.length+1:=(by have:i<(s.b++[C]).length:=hi;simpa using this);have F:g.D (ρ' i) o:=hD;rcases wK i s.b.length with A|A
   .rw[e1 i A]at F;exact h.dbox i A o F
   .have:i=s.b.length:=a9;rw[this,e2]at F;exact X o F
 refine r1.put d (.inl (.inr ⟨s.b.length,0,rfl,b7,?_⟩)) (.none rfl);show _=Value.pointer (some ⟨ρ' s.b.length,0,none⟩);rw[e2]
def PV.down(n:Nat):PV->PV
 |.sl es (.r m sz)=>if m=n then .sl es .sh else .sl es (.r m sz)
 |p=>p
def PS.down(n:Nat)(s:PS):PS:=⟨s.t.map λy=>(y.1,y.2.down n),s.b.map λj=>j.map (PV.down n)⟩
def PV.down_or(n:Nat)(p:PV):p.down n=p.strip\/(p.down n=p/\p.own≠some n):=by
 cases p<;>try exact .inl rfl
 rename_i es o;cases o with
 |sh=>exact .inl rfl
 |z=>exact .inl rfl
 |n k=>exact .inr ⟨rfl,by simp[PV.own]⟩
 |p k=>exact .inr ⟨rfl,by simp[PV.own]⟩
 | r m sz=>
   by_cases e:m=n
   .exact .inl (by simp[PV.down,PV.strip,e])
   .exact .inr ⟨by simp[PV.down,e],by simp[PV.own,e]⟩
def PV.down_own{n:Nat}{p:PV}(h:(p.down n).own≠none):p.down n=p/\p.own≠some n:=by
 rcases PV.down_or n p with e|e
 .rw[e]at h;exact absurd p.strip_own h
 .exact e
def Vn(n t:Nat):∀l:List (Nat×PV),yr (l.map λy=>(y.1,y.2.down n)) t=(yr l t).down n
 |[]=>rfl
 | (j,p)::l=>by
   simp only[Wx,yr];split
   .rfl
   .exact Vn n t l
def Va(n t:Nat)(s:PS):(s.down n).get t=(s.get t).down n:=Vn n t s.t
def Rel.down{D:xT}{ρ:Nat->Nat}{j:Nat}{u:Value}{p:PV}(n:Nat)(h:Rel D ρ j w u p):Rel D ρ j w u (p.down n):=by
 rcases PV.down_or n p with e|e
 .rw[e];exact h.strip
 .rw[e.1];exact h
def zbH{n:Nat}{u:Value}{q:PV}(h:zQ g (s.down n) x w u q):∃p,q=p.down n/\zQ g s x w u p:=by
 rcases h with⟨t,rfl,rfl⟩|⟨i,j,C,o,y,B⟩
 .exact⟨_,Va n t s,.inl ⟨t,rfl,rfl⟩⟩
 .simp only[PS.down,wh,ZZ]at o;obtain⟨A,o,rfl⟩:=o;simp only[wh,ZZ]at y;obtain⟨p,y,rfl⟩:=y;exact⟨p,rfl,.inr ⟨i,j,A,o,y,B⟩⟩
def R.down(h:R B g s x w)(n:Nat):R B g (s.down n) x w/\∀u p,zQ g (s.down n) x w u p->p.own≠none->zQ g s x w u p/\p.own≠some n:=by
 have y:(s.down n).b.length=s.b.length:=by simp[PS.down]
 have hs:∀u p,zQ g (s.down n) x w u p->p.own≠none->zQ g s x w u p/\p.own≠some n:=by intro u q E ho;obtain⟨p,rfl,o⟩:=zbH E;obtain⟨e1,e2⟩:=PV.down_own ho;rw[e1];exact⟨o,e2⟩
 refine⟨⟨λt=>?_,?_,λi j=>by rw[y];exact h.inj i j,?_,?_,?_,h.dlt,λi=>by rw[y];exact h.dbox i,h.fr⟩,hs⟩
 .rw[Va,y];exact(h.slots t).down n
 .intro i O hi;simp only[PS.down,wh,ZZ]at hi;obtain⟨C,hi,rfl⟩:=hi;obtain⟨L,N,e,J,K,G⟩:=h.boxes i C hi;refine⟨L,N,e,J,dL K,λj p o=>?_⟩;simp only[wh,ZZ]at o;obtain⟨I,o,rfl⟩:=o;rw[y];exact⟨(G j I o).1.down n,(G j I o).2⟩
 .intro u q E;by_cases ho:q.own=none
  .exact zr ho
  .exact h.owns _ _ (hs u q E ho).1
 .intro u q Q P b F M A H;exact h.disj _ _ _ _ b (hs _ _ F A).1 (hs _ _ M H).1 A H
 .intro u q b i F A b1 hi;exact h.ownbox _ _ b i (hs _ _ F A).1 A b1 (by rw[<-y];exact hi)
def PS.clean(s:PS):PS:=⟨s.t.map λy=>(y.1,y.2.clean),s.b⟩
def Yy(t:Nat):∀l:List (Nat×PV),yr (l.map λy=>(y.1,y.2.clean)) t=(yr l t).clean
 |[]=>rfl
 | (j,p)::l=>by
   simp only[Wx,yr];split
   .rfl
   .exact Yy t l
def kT(t:Nat)(s:PS):s.clean.get t=(s.get t).clean:=Yy t s.t
def Rel.clean{D:xT}{ρ:Nat->Nat}{j:Nat}{u:Value}{p:PV}(h:Rel D ρ j w u p):Rel D ρ j w u p.clean:=by
 rcases PV.clean_or p with e|e
 .rw[e];exact h.strip
 .rw[e];exact h
def R.clean(h:R B g s x w):R B g s.clean x w:=by
 have hs:∀u p,zQ g s.clean x w u p->p.own≠none->zQ g s x w u p:=λu p j ho=>by
  rcases j with⟨t,rfl,rfl⟩|j
  .rw[kT]at ho⊢;rcases PV.clean_or (s.get t)with e|e
   .rw[e]at ho;exact absurd (s.get t).strip_own ho
   .rw[e];exact .inl ⟨t,rfl,rfl⟩
  .exact .inr j
 refine⟨λt=>by rw[kT];exact(h.slots t).clean,h.boxes,h.inj,λu p j=>?_,λu p F E b A C o y=>h.disj u p F E b (hs _ _ A o) (hs _ _ C y) o y,λu p b i k o=>h.ownbox u p b i (hs _ _ k o) o,h.dlt,h.dbox,h.fr⟩;by_cases ho:p.own=none
 .exact zr ho
 .exact h.owns _ _ (hs _ _ j ho)
end
inductive PO where
 |t (i:Nat)
 |c (p:PV)
 |f (f:FuncId)
def PS.ev(s:PS):PO->PV
 |.t i=>s.get i
 |.c p=>p
 |.f f=>.fn (.func f) [] []
def Q6:Value->PV
 |.slice none 0 0=>.sl [] .sh
 |v=>.v v
def ofV:Value->PV
 |.slice none 0 0=>.sl [] .z
 |.agg vs=>if vs.toList.all (·.oneCell') then .agg (vs.toList.map Q6) else .v (.agg vs)
 |v=>.v v
def po:Operand->Option PO
 |.tmp t=>some (.t t)
 |.const v=>some (.c (ofV v))
 |.func f=>some (.f f)
 |.global _=>none
inductive PK where
 |mv (x:PO)
 |bin (op:BinOp) (x y:PO)
 |beq (neg:Bool) (x y:PO)
 |eq2 (neg:Bool) (x y:PO) (n:Nat)
 |nil (neg:Bool) (x:PO)
 |not (x:PO)
 |cv (k:IntKind) (x:PO)
 |fa (x:PO) (off:Nat)
 |ia (x y:PO) (sz:Nat)
 |aa (x y:PO) (n sz:Nat)
 |ix (x y:PO) (n:Nat) (ag:Bool) (sz:Nat)
 |fl (x:PO) (off:Nat) (ag:Bool) (sz:Nat)
 |ld (x:PO) (ag:Bool) (sz:Nat)
 |nc (x:PO)
 |bd (zs:List PV) (ps:List (Nat×Nat×PO))
 |bs (sz:Nat) (ps:List PO)
 |ln (x:PO)
 |ex (x:PO) (i:Nat)
 |mf (f:Fn) (fs cs:List PO)
 |mi (t:TypeId) (x:PO)
 |pk (c x y:PO)
 |sc (x:PO) (lo hi:Option PO) (sz:Nat)
 |ap (x y:PO) (sz bytes:Nat)
 |mm (max:Bool) (x y:PO)
 |ca (f:FuncId) (xs:List PO)
 |cl (f:PO) (xs:List PO)
 |iv (x:PO) (m:String) (xs:List PO)
 |sb (op:BinOp) (x y:PO)
 |al (zs:List PV)
 |bo (x:PO)
 |st (x y:PO) (sz:Nat)
structure PI where
 d:Option Nat
 g:Option (Nat×Bool)
 k:PK
def Qb:TypeDesc->Bool
 |.struct _=>true
 |.array _ _=>true
 |_=>false
def XH(P:Program)(t:TypeId):Option (Bool×Nat):=(P.info? t).bind λi=>(P.underlying t).map λd=>(Qb d,i.size)
def Qu:List Operand->Option (List PO)
 |[]=>some []
 |x::r=>(po x).bind λy=>(Qu r).map λl=>y::l
def poo:Option Operand->Option (Option PO)
 |none=>some none
 |some x=>(po x).map some
def Qq(P:Program)(j:Array Field):List (Nat×Operand)->Option (List (Nat×Nat×PO))
 |[]=>some []
 |(i,x)::r=>(j[i]?).bind λf=>(P.info? f.type).bind λn=>(po x).bind λy=>(Qq P j r).map λl=>(f.offset,n.size,y)::l
def Qp(sz:Nat):List (Nat×Operand)->Option (List (Nat×Nat×PO))
 |[]=>some []
 |(i,x)::r=>(po x).bind λy=>(Qp sz r).map λl=>(i*sz,sz,y)::l
def xg(P:Program)(t:TypeId):Option (List PV):=(P.info? t).bind λi=>i.zero.bind λz=>if z.cells.toList.all (·.oneCell') then some (z.cells.toList.map Q6) else none
def jX(P:Program)(t:TypeId):Bool:=match P.underlying t with
 |some (.int _)=>true
 |_=>false
def K8(P:Program):Nat->List Field->Bool
 |_,[]=>true
 |i,f::r=>(f.name != "_") && f.offset == i && jX P f.type && K8 P (i+1) r
def za9(P:Program)(t:TypeId):Option Nat:=match P.underlying t with
 |some (.struct fs)=>if K8 P 0 fs.toList && !P.stoodInHeld t && !P.eqGuardType P.depth t then some fs.size else none
 |some (.array n e)=>if jX P e && (P.info? e).isSome && P.cellsOf e == 1 && !P.eqGuardType P.depth t then some n else none
 |_=>none
def JL:Operand->Bool
 |.const .nilIface=>true
 |_=>false
def zk3:BinOp->Bool
 |.add|.sub|.mul|.quo|.rem|.eql|.neq|.lss|.leq|.gtr|.geq|.shr=>true
 |_=>false
def zoQ:BinOp->Bool
 |.add|.eql|.neq=>true
 |_=>false
def zpq(P:Program)(t:TypeId):Bool:=match P.underlying t with
 |some .string=>true
 |_=>false
def zc6(P:Program)(t:TypeId):Bool:=match P.underlying t with
 |some (.interface _)=>true
 |_=>false
def zh0(P:Program)(t:TypeId):Bool:=match P.underlying t with
 |some .bool=>true
 |_=>false
def zmS(P:Program)(t:TypeId):Bool:=match P.underlying t with
 |some (.int _)=>true
 |_=>false
def XR(P:Program)(o:Oper):Option PK:=
 match o.op with
 |.move x=>(po x).map .mv
 |.assign x=>(po x).map .mv
 |.pick c a b=>(po c).bind λc=>(po a).bind λa=>(po b).map λb=>.pk c a b
 |.alloc e=>(xg P e).map .al
 |.box _ x=>(po x).map .bo
 | .build t parts=>(xg P t).bind λC=>match P.underlying t with
   |some (.struct u)=>if u.toList.all (λf=>(P.info? f.type).isSome) then (Qq P u parts.toList).map λB=>.bd C B else none
   |some (.array _ e)=>(P.info? e).bind λi=>(Qp i.size parts.toList).map λB=>.bd C B
   |_=>none
 | .buildSlice t n parts=>match P.underlying t with
   |some (.slice e)=>(P.info? e).bind λi=>(xg P e).bind λC=>(Qu (parts.toList.map (·.2))).bind λB=>if parts.toList.map (·.1)=List.range n/\n*i.size<=16777216/\n<=16777216 then some (.bs i.size B) else none
   |_=>none
 |.load t a=>(XH P t).bind fun(ag,n)=>if ag || n == 1 then (po a).map λa=>.ld a ag n else none
 |.store t a v=>(XH P t).bind fun(_,n)=>(po a).bind λa=>(po v).map λv=>.st a v n
 |.nilCheck x=>(po x).map .nc
 | .binOp op t x y _=>(po x).bind λw=>(po y).bind λE=>
   if (op == .eql || op == .neq) && JL y && zc6 P t then some (.nil (op == .neq) w)
   else if (op == .eql || op == .neq) && (za9 P t).isSome then some (.eq2 (op == .neq) w E ((za9 P t).getD 0))
   else if (op == .eql || op == .neq) && zh0 P t then some (.beq (op == .neq) w E)
   else if zk3 op && zmS P t then some (.bin op w E)
   else if zoQ op && zpq P t then some (.sb op w E) else none
 |.unOp .not _ x=>(po x).map .not
 | .convert s t x=>match P.underlying s,P.underlying t with
   |some (.int _),some (.int k)=>(po x).map (.cv k)
   |_,_=>none
 | .makeInterface t x=>match P.underlying t with
   |some (.interface _)=>none
   |some _=>(po x).map (.mi t)
   |none=>none
 |.makeFunc f u F=>(Qu u.toList).bind λu=>(Qu F.toList).map λF=>.mf f u F
 | .slice t x lo hi none=>match P.underlying t with
   |some (.slice e)=>(P.info? e).bind λi=>(po x).bind λx=>(poo lo).bind λlo=>(poo hi).map λhi=>.sc x lo hi i.size
   |_=>none
 | .fieldAddr t x f=>match P.underlying t with
   |some (.struct u)=>(u[f]?).bind λA=>(P.info? A.type).bind λi=>if i.size=0 then none else (po x).map λx=>.fa x A.offset
   |_=>none
 | .field t x f=>match P.underlying t with
   |some (.struct u)=>(u[f]?).bind λA=>(XH P A.type).bind fun(ag,n)=>if ag || n == 1 then (po x).map λx=>.fl x A.offset ag n else none
   |_=>none
 | .indexAddr t x y=>match P.underlying t with
   |some (.slice e)=>(P.info? e).bind λi=>(po x).bind λx=>(po y).map λy=>.ia x y i.size
   |some (.array n e)=>(P.info? e).bind λi=>(po x).bind λx=>(po y).map λy=>.aa x y n i.size
   |_=>none
 | .index t x y=>match P.underlying t with
   |some (.array n e)=>(XH P e).bind fun(ag,k)=>if ag || k == 1 then (po x).bind λx=>(po y).map λy=>.ix x y n ag k else none
   |_=>none
 |.extract x i=>(po x).map λx=>.ex x i
 | .call c=>match c.callee,c.args.toList,c.argTypes.toList with
   | .builtin .len,[x],[t]=>match P.underlying t with
     |some (.slice _)=>(po x).map .ln
     |_=>none
   | .builtin .append,[x,y],[t,t']=>match P.underlying t with
     |some (.slice e)=>(P.info? e).bind λi=>if t=t'/\0<i.size/\0<i.bytes then (xg P e).bind λC=>if C.length=i.size then (po x).bind λx=>(po y).map λy=>.ap x y i.size i.bytes else none else none
     |_=>none
   |.builtin .max,[x,y],_=>(po x).bind λx=>(po y).map λy=>.mm true x y
   |.builtin .min,[x,y],_=>(po x).bind λx=>(po y).map λy=>.mm false x y
   |.value (.func f),j,_=>(Qu j).map λj=>.ca f j
   |.value (.tmp t),j,_=>(Qu j).map λj=>.cl (.t t) j
   |.invoke (.tmp t) m,j,_=>(Qu j).map λj=>.iv (.t t) m j
   |_,_,_=>none
 |.unOp .neg _ x=>(po x).map λw=>.bin .sub (.c (.v (.int .i64 0))) w
 |_=>none
def Cn(P:Program)(f:FuncId)(A:List PV)(r:PV):Prop:=
 (∀j w,(callFunc f j).run P w=.ok (.enter f j) w) /\
 ∀(D:xT)(w:World)(y:Array Value),GL D w->(∀b o,D b o->b<w.heap.size)->y.size=A.length->(∀(i:Nat) p,A[i]?=some p->Dat D w (y.getD i undef) p)->Calls P f y w λe w'=>
  ∃v u,e=.returned v/\Below w.heap.size w w'/\(∀b o,D b o->u b o)/\(∀b o,u b o->D b o\/w.heap.size<=b)/\(∀b o,u b o->b<w'.heap.size)/\Dat u w' v r/\yW u (λk=>w.heap.size<=k) w' v r
def OCn(P:Program)(f:FuncId)(C:List (List PV))(sz:Nat)(E:List PV)(F:List (List PV)):Prop:=
 (∀j w,(callFunc f j).run P w=.ok (.enter f j) w) /\
 ∀(D:xT) (w:World) (v:Value) (B:Array Value),GL D w->(∀b o,D b o->b<w.heap.size)->B.size=E.length->(∀(i:Nat) p,E[i]?=some p->Dat D w (B.getD i undef) p)->Dat D w v (.sl C .sh)->yW D (λ_=>True) w v (.sl C (.r 0 sz)) ->
  Calls P f (#[v]++B) w λe w'=>∃u A,e=.returned u/\(w'.os=w.os/\w'.tape=w.tape/\w'.output=w.output/\w.heap.size<=w'.heap.size)/\(∀k,k<w.heap.size->zc v≠some k->w'.heap[k]?=w.heap[k]?) /\
   (∀b o y,D b o->w.cell? ⟨b,o,none⟩=some y->w'.cell? ⟨b,o,none⟩=some y)/\(∀b o,D b o->A b o)/\(∀b o,A b o->D b o\/w.heap.size<=b\/zc v=some b)/\(∀b o,A b o->b<w'.heap.size) /\
   Dat A w' u (.sl F .sh)/\yW A (λk=>w.heap.size<=k\/zc v=some k) w' u (.sl F (.r 0 sz))
def qW(p:PV)(K:List PV->Prop):Prop:=match p with
 |.agg cs=>K cs
 |.v x=>x.oneCell'=true/\K [.v x]
 |.sl es o=>K [.sl es o]
 |.cp cs o=>K [.cp cs o]
 |.bx i o=>K [.bx i o]
 |.fn f fs cs=>K [.fn f fs cs]
 |.ifc t x=>K [.ifc t x]
 |_=>False
def qV(p:PV)(K:Bool->Prop):Prop:=match p with
 |.v (.bool b)=>K b
 |_=>False
def vR(p:PV)(K:IntKind->Int->Prop):Prop:=match p with
 |.v (.int k n)=>K k n
 |_=>False
def QA(p:PV)(K:List (List PV)->Prop):Prop:=match p with
 |.sl es _=>K es
 |_=>False
def qar(k:IntKind)(n:Int)(K:PV->Prop):Prop:=match k with
 |.i64=>(-9223372036854775808<=n/\n<9223372036854775808)/\K (.v (.int .i64 n))
 |k=>K (.v (.int k (k.wrap n)))
def zgm(k:IntKind)(a b:Int):Int:=a.fdiv (2 ^ (min b.toNat k.bits))
def Xo(op:BinOp)(k:IntKind)(a b:Int)(K:PV->Prop):Prop:=match op with
 |.add=>qar k (a+b) K
 |.sub=>qar k (a-b) K
 |.mul=>qar k (a*b) K
 |.quo=>b≠0/\qar k (a.tdiv b) K
 |.rem=>b≠0/\K (.v (.int k (a.tmod b)))
 |.eql=>K (.v (.bool (decide (a=b))))
 |.neq=>K (.v (.bool (!decide (a=b))))
 |.lss=>K (.v (.bool (decide (a<b))))
 |.leq=>K (.v (.bool (decide (a<=b))))
 |.gtr=>K (.v (.bool (decide (b<a))))
 |.geq=>K (.v (.bool (decide (b<=a))))
 |.shr=>0<=b/\K (.v (.int k (zgm k a b)))
 |_=>False
def QB(op:BinOp)(p q:PV)(K:PV->Prop):Prop:=match p,q with
 |.v (.int k a),.v (.int k' b)=>k=k'/\Xo op k a b K
 |_,_=>False
def jy:List PV->List PV->Prop
 |[],[]=>True
 |.v (.int k _)::r,.v (.int k' _)::r'=>k=k'/\jy r r'
 |_,_=>False
def xQ:List PV->List PV->Bool
 |.v (.int _ a)::r,.v (.int _ b)::r'=>decide (a=b) && xQ r r'
 |_,_=>true
def zbz(j:Bool)(m:Nat)(p q:PV)(K:PV->Prop):Prop:=match p,q with
 |.agg xs,.agg ys=>(xs.length=m/\jy xs ys)/\K (.v (.bool (j != xQ xs ys)))
 |_,_=>False
def sbV(op:BinOp)(a b:ByteArray):PV:=match op with
 |.add=>.v (.string (a++b))
 |.eql=>.v (.bool (a.toList == b.toList))
 |_=>.v (.bool !(a.toList == b.toList))
def qsb(op:BinOp)(p q:PV)(K:PV->Prop):Prop:=match p,q with
 |.v (.string a),.v (.string b)=>a.size+b.size<=9223372036854775807/\K (sbV op a b)
 |_,_=>False
def Mth(P:Program)(t:TypeId)(m:String)(f:FuncId):Prop:=∀(v:Value)(j:Array Value)(w:World),(callMethod (.iface t v) m j).run P w=(callFunc f (#[v]++j)).run P w
def VI(j:List PV)(o:Nat)(u:Bool)(n:Nat)(K:PV->Prop):Prop:=match u with
 |true=>o+n<=j.length/\K (.agg ((j.drop o).take n))
 | false=>match j[o]? with
   |some p=>K p
   |none=>False
def zY(j:List PV):Bool:=j.all PV.isD
def XI(u o:List PV)(j:Nat):List PV:=u.take j++o++u.drop (j+o.length)
def vS(s:PS):List (Nat×Nat×PO)->List PV->(List PV->Prop)->Prop
 |[],zs,K=>K zs
 |(off,n,x)::r,zs,K=>qW (s.ev x) λj=>j.length=n/\off+n<=zs.length/\zY j=true/\vS s r (XI zs (j.map PV.sh) off) K
def yP(s:PS)(sz:Nat):List PO->(List (List PV)->Prop)->Prop
 |[],K=>K []
 |x::r,K=>qW (s.ev x) λj=>j.length=sz/\zY j=true/\yP s sz r λo=>K (j.map PV.sh::o)
def Xw(lo:Option PO)(p:PV):Ow:=match lo,p with
 |none,.sl _ (.p i)=>.p i
 |_,_=>.sh
def qBd(s:PS)(y:Option PO)(n:Nat)(K:Nat->Prop):Prop:=match y with
 |none=>K n
 |some y=>vR (s.ev y) λ_ n=>0<=n/\K n.toNat
def PK.q(P:Program)(s:PS)(k:PK)(K:PV->Prop):Prop:=match k with
 | .mv x=>match x with
   |.t i=>K ((s.get i).pre i)
   |x=>K (s.ev x).strip
 |.bin op x y=>QB op (s.ev x) (s.ev y) K
 |.beq n x y=>qV (s.ev x) λa=>qV (s.ev y) λb=>K (.v (.bool (n != (a == b))))
 |.eq2 n x y m=>zbz n m (s.ev x) (s.ev y) K
 | .nil n x=>match s.ev x with
   |.v .nilIface=>K (.v (.bool (!n)))
   |.ifc _ _=>K (.v (.bool n))
   |_=>False
 |.not x=>qV (s.ev x) λb=>K (.v (.bool (!b)))
 |.cv k x=>vR (s.ev x) λ_ n=>K (.v (.int k (k.wrap n)))
 | .fa x off=>match s.ev x with
   |.bx i o=>K (.bx i (o+off))
   |.cp j o=>K (.cp j (o+off))
   |_=>False
 | .ia x y sz=>QA (s.ev x) λu=>vR (s.ev y) λ_ n=>0<=n/\match u[n.toNat]? with
   |some e=>e.length=sz/\K (.cp e 0)
   |none=>False
 | .aa x y n sz=>vR (s.ev y) λ_ m=>(0<=m/\m<n)/\match s.ev x with
   |.bx i o=>K (.bx i (o+m.toNat*sz))
   |.cp j o=>K (.cp j (o+m.toNat*sz))
   |_=>False
 | .ix x y n ag sz=>vR (s.ev y) λ_ m=>(0<=m/\m<n)/\match s.ev x with
   |.agg j=>VI j (m.toNat*sz) ag sz λp=>K p.strip
   |_=>False
 | .fl x off ag n=>match s.ev x with
   |.agg j=>VI j off ag n λp=>K p.strip
   |_=>False
 | .ld x ag n=>match s.ev x with
   |.cp j o=>VI j o ag n λp=>K p.strip
   | .bx i o=>match s.b[i]? with
     |some j=>zY ((j.drop o).take n)=true/\VI j o ag n λp=>K p.strip
     |none=>False
   |_=>False
 | .nc x=>match s.ev x with
   |.bx i o=>K (.bx i o)
   |.cp j o=>K (.cp j o)
   |_=>False
 |.bd zs ps=>vS s ps zs λj=>K (.agg j)
 |.bs sz ps=>yP s sz ps λu=>K (.sl u .z)
 |.ln x=>QA (s.ev x) λu=>K (.v (.int .i64 u.length))
 | .ex x i=>match s.ev x with
   | .tup j=>match j[i]? with
     |some p=>K p.strip
     |none=>False
   |_=>False
 |.mf f fs j=>(fs.all (λx=>(s.ev x).sh.isD || (s.ev x).sh.isB) && j.all (λx=>(s.ev x).sh.isD || (s.ev x).sh.isB))=true/\K (.fn f (fs.map λx=>(s.ev x).sh) (j.map λx=>(s.ev x).sh))
 | .mi t x=>match (s.ev x).isD with
   |true=>K (.ifc t (s.ev x).sh)
   |false=>False
 |.pk c x y=>qV (s.ev c) λb=>(b=true->K (s.ev x).strip)/\(b=false->K (s.ev y).strip)
 |.sc x lo hi sz=>QA (s.ev x) λu=>qBd s hi u.length λh=>qBd s lo 0 λl=>l<=h/\h<=u.length/\(∀e∈u,e.length=sz)/\K (.sl ((u.take h).drop l) (Xw lo (s.ev x)))
 |.mm m x y=>vR (s.ev x) λk a=>vR (s.ev y) λA b=>k=A/\K (.v (.int k (if m then (if b > a then b else a) else (if b<a then b else a))))
 |.ca f xs=>∃r,Cn P f (xs.map λx=>(s.ev x).sh) r/\zY (xs.map λx=>(s.ev x).sh)=true/\K r.strip
 | .cl y xs=>match s.ev y with
   |.fn (.func f) fs j=>∃r,Cn P f (fs++(xs.map λx=>(s.ev x).sh)++j) r/\zY (fs++(xs.map λx=>(s.ev x).sh)++j)=true/\K r.strip
   |_=>False
 | .iv x m xs=>match s.ev x with
   |.ifc t p=>∃f,Mth P t m f/\∃r,Cn P f (p.sh::xs.map λx=>(s.ev x).sh) r/\zY (p.sh::xs.map λx=>(s.ev x).sh)=true/\K r.strip
   |_=>False
 |.sb op x y=>qsb op (s.ev x) (s.ev y) K
 | .ap x y sz by_=>match s.ev x with
   |.sl u .z=>QA (s.ev y) λw=>(∀e∈u,e.length=sz)/\(∀e∈w,e.length=sz)/\(u.length+w.length)*by_<=140737488355328/\K (.sl (u++w) (.n sz))
   |_=>False
 |_=>False
def yC(y:PO)(p:PV)(j:List PV):List PV:=match y,p with
 |.t _,.sl es o=>[.sl es o]
 |_,_=>j.map PV.sh
def apO(o j:List (List PV))(d sz:Nat):Ow:=match o,j with
 |_::_,[]=>.sh
 |_,_=>.r d sz
def isT:PO->Bool
 |.t _=>true
 |_=>false
def PV.fz1(b:List (List PV)):PV->PV
 |.bx i o=>.cp ((b[i]?.getD []).map PV.sh) o
 |p=>p
def PV.fz(b:List (List PV)):PV->PV
 |.fn f fs cs=>.fn f (fs.map (PV.fz1 b)) (cs.map (PV.fz1 b))
 |p=>p.fz1 b
def PS.fz(s:PS):PS:=⟨s.t.map λy=>(y.1,y.2.fz s.b),[]⟩
def PK.e(P:Program)(k:PK)(d:Option Nat)(s:PS)(K:PS->Prop):Prop:=match k with
 |.mf f fs w=>if (fs.any λx=>(s.ev x).isB) || (w.any λx=>(s.ev x).isB) then s.b.all zY=true/\PK.q P s.fz (.mf f fs w) λp=>K (s.fz.put d p) else PK.q P s (.mf f fs w) λp=>K (s.put d p)
 |.mv (.t i)=>K (s.put d (s.get i))
 |.sc x lo hi sz=>PK.q P s (.sc x lo hi sz) λp=>K (s.put d p.strip)
 | .ld x false 1=>match s.ev x with
   | .bx i o=>match s.b[i]? with
     | some w=>match w[o]? with
       |some p=>K (s.put d p)
       |none=>False
     |none=>False
   |_=>PK.q P s (.ld x false 1) λp=>K (s.put d p)
 |.al zs=>K (PS.put ⟨s.t,s.b++[zs]⟩ d (.bx s.b.length 0))
 | .bs sz ps=>match d with
   |some d=>yP s sz ps λu=>K (s.put (some d) (.sl u (.r d sz)))
   |none=>PK.q P s (.bs sz ps) λp=>K (s.put d p)
 |.bo x=>qW (s.ev x) λw=>K (PS.put ⟨s.t,s.b++[w.map PV.sh]⟩ d (.bx s.b.length 0))
 | .st x y sz=>match s.ev x with
   | .bx i o=>match s.b[i]? with
     |some w=>qW (s.ev y) λus=>us.length=sz/\o+sz<=w.length/\K (PS.put ⟨s.t,s.b.set i (XI w (yC y (s.ev y) us) o)⟩ d (.v undef))
     |none=>False
   |_=>False
 | .ap x y sz by_=>match s.ev x with
   |.sl u (.r n sz')=>sz'=sz/\isT x=true/\QA (s.ev y) λj=>(∀e∈j,e.length=sz)/\(u.length+j.length)*by_<=140737488355328/\K ((s.down n).put d (.sl (u++j) (.r n sz)))
   | .sl u .z=>match d with
     |some d=>QA (s.ev y) λj=>(∀e∈u,e.length=sz)/\(∀e∈j,e.length=sz)/\(u.length+j.length)*by_<=140737488355328/\K (s.put (some d) (.sl (u++j) (apO u j d sz)))
     |none=>PK.q P s (.ap x y sz by_) λp=>K (s.put d p.strip)
   |_=>False
 | .ca f xs=>match xs with
   | .t i::xs'=>match s.get i with
     |.sl u (.r n sz)=>(∃r,Cn P f (xs.map λx=>(s.ev x).sh) r/\zY (xs.map λx=>(s.ev x).sh)=true/\K (s.put d r))\/∃A,OCn P f u sz (xs'.map λx=>(s.ev x).sh) A/\zY (xs'.map λx=>(s.ev x).sh)=true/\K ((s.down n).put d (.sl A (.r n sz)))
     |_=>∃r,Cn P f (xs.map λx=>(s.ev x).sh) r/\zY (xs.map λx=>(s.ev x).sh)=true/\K (s.put d r)
   |_=>∃r,Cn P f (xs.map λx=>(s.ev x).sh) r/\zY (xs.map λx=>(s.ev x).sh)=true/\K (s.put d r)
 |k=>k.q P s λp=>K (s.put d p)
section
variable {P:Program}{s:PS}
def Det{α:Type}(H:(α->Prop)->Prop):Prop:=∀K,H K->∃x,K x/\H λy=>y=x
def Det.pure{α:Type}(x:α):Det λK:α->Prop=>K x:=λK h=>⟨x,h,rfl⟩
def Det.false{α:Type}:Det λ_:α->Prop=>False:=λ_ h=>h.elim
def Det.and{α:Type}{H:(α->Prop)->Prop}(p:Prop)(h:Det H):Det λK=>p/\H K:=λK hk=>by obtain⟨x,j,o⟩:=h K hk.2;exact⟨x,j,hk.1,o⟩
def Qw{α:Type}{p:PV}{H:List PV->(α->Prop)->Prop}(h:∀j,Det (H j)):Det λK=>qW p λj=>H j K:=by
 intro K hk;unfold qW at hk⊢;split at hk<;>first|exact h _ K hk|exact Det.and _ (h _) K hk|exact hk.elim
def jm{α:Type}{p:PV}{H:Bool->(α->Prop)->Prop}(h:∀b,Det (H b)):Det λK=>qV p λb=>H b K:=by
 intro K hk;unfold qV at hk⊢;split at hk
 .exact h _ K hk
 .exact hk.elim
def yQ{α:Type}{p:PV}{H:IntKind->Int->(α->Prop)->Prop}(h:∀k n,Det (H k n)):Det λK=>vR p λk n=>H k n K:=by
 intro K hk;unfold vR at hk⊢;split at hk
 .exact h _ _ K hk
 .exact hk.elim
def ZQ{α:Type}{p:PV}{H:List (List PV)->(α->Prop)->Prop}(h:∀j,Det (H j)):Det λK=>QA p λj=>H j K:=by
 intro K hk;unfold QA at hk⊢;split at hk
 .exact h _ K hk
 .exact hk.elim
def zav(k:IntKind)(n:Int):Det (qar k n):=by
 intro K hk;unfold qar at hk⊢;split at hk
 .exact⟨_,hk.2,hk.1,rfl⟩
 .exact⟨_,hk,rfl⟩
def zdZ(op:BinOp)(k:IntKind)(a b:Int):Det (Xo op k a b):=by
 intro K hk;unfold Xo at hk⊢;split at hk<;>first|exact zav _ _ K hk|exact Det.and _ (zav _ _) K hk|exact Det.and _ (Det.pure _) K hk|exact⟨_,hk,rfl⟩|exact hk.elim
def zdV(op:BinOp)(p q:PV):Det (QB op p q):=by
 intro K hk;unfold QB at hk⊢;split at hk
 .exact Det.and _ (zdZ _ _ _ _) K hk
 .exact hk.elim
def zdY(n:Bool)(m:Nat)(p q:PV):Det (zbz n m p q):=by
 intro K hk;unfold zbz at hk⊢;split at hk
 .exact⟨_,hk.2,hk.1,rfl⟩
 .exact hk.elim
def zgf(u:List PV)(o:Nat)(j:Bool)(n:Nat):Det (VI u o j n):=by
 intro K hk;unfold VI at hk⊢;split at hk
 .exact⟨_,hk.2,hk.1,rfl⟩
 .split at hk
  .exact⟨_,hk,rfl⟩
  .exact hk.elim
def kB{α:Type}(w:List PV)(o:Nat)(u:Bool)(n:Nat)(f:PV->α):Det λK:α->Prop=>VI w o u n λp=>K (f p):=by
 intro K hk;obtain⟨x,y,j⟩:=zgf w o u n _ hk;refine⟨f x,y,?_⟩;unfold VI at j⊢;split at j
 .exact⟨j.1,by rw[j.2]⟩
 .split at j
  .rw[j]
  .exact j.elim
def Qy{α:Type}(f:List PV->α):∀(u:List (Nat×Nat×PO))(j:List PV),Det λK:α->Prop=>vS s u j λo=>K (f o)
 |[],j=>Det.pure _
 |(off,n,x)::r,j=>Qw λo=>Det.and _ (Det.and _ (Det.and _ (Qy f r _)))
def Qx{α:Type}(sz:Nat):∀(u:List PO)(f:List (List PV)->α),Det λK:α->Prop=>yP s sz u λj=>K (f j)
 |[],f=>Det.pure _
 |x::r,f=>Qw λo=>Det.and _ (Det.and _ (Qx sz r λj=>f (o.map PV.sh::j)))
def zar{α:Type}(y:Option PO)(n:Nat){H:Nat->(α->Prop)->Prop}(h:∀n,Det (H n)):Det λK=>qBd s y n λm=>H m K:=by
 cases y with
 |none=>exact h n
 |some y=>exact yQ λ_ _=>Det.and _ (h _)
def zat(k:PK):Det (k.q P s):=by
 cases k with
 |mv x=>cases x<;>exact Det.pure _
 |bin op x y=>exact zdV _ _ _
 |beq n x y=>exact jm λa=>jm λb=>Det.pure _
 |eq2 n x y m=>exact zdY _ _ _ _
 | nil n x=>
   intro K hk;simp only[PK.q]at hk⊢;split at hk<;>first|exact⟨_,hk,rfl⟩|exact hk.elim
 |not x=>exact jm λa=>Det.pure _
 |cv k x=>exact yQ λa b=>Det.pure _
 | fa x off=>
   intro K hk;simp only[PK.q]at hk⊢;split at hk<;>first|exact⟨_,hk,rfl⟩|exact hk.elim
 | ia x y sz=>
   refine ZQ λw=>yQ λ_ n=>Det.and _ λK hk=>?_;split at hk
   .exact⟨_,hk.2,hk.1,rfl⟩
   .exact hk.elim
 | aa x y n sz=>
   refine yQ λ_ m=>Det.and _ λK hk=>?_;split at hk<;>first|exact⟨_,hk,rfl⟩|exact hk.elim
 | ix x y n ag sz=>
   refine yQ λ_ m=>Det.and _ λK hk=>?_;split at hk
   .exact kB _ _ _ _ _ K hk
   .exact hk.elim
 | fl x off ag n=>
   intro K hk;simp only[PK.q]at hk⊢;split at hk
   .exact kB _ _ _ _ _ K hk
   .exact hk.elim
 | ld x ag n=>
   intro K hk;simp only[PK.q]at hk⊢;split at hk
   .exact kB _ _ _ _ _ K hk
   .split at hk
    .exact Det.and _ (kB _ _ _ _ _) K hk
    .exact hk.elim
   .exact hk.elim
 | nc x=>
   intro K hk;simp only[PK.q]at hk⊢;split at hk<;>first|exact⟨_,hk,rfl⟩|exact hk.elim
 |bd zs ps=>exact Qy _ _ _
 |bs sz ps=>exact Qx _ _ _
 |ln x=>exact ZQ λ_=>Det.pure _
 | ex x i=>
   intro K hk;simp only[PK.q]at hk⊢;split at hk
   .split at hk
    .exact⟨_,hk,rfl⟩
    .exact hk.elim
   .exact hk.elim
 |mf f fs cs=>exact Det.and _ (Det.pure _)
 | mi t x=>
   intro K hk;simp only[PK.q]at hk⊢;split at hk
   .exact⟨_,hk,rfl⟩
   .exact hk.elim
 | pk c x y=>
   refine jm λb=>?_;intro K hk;cases b with
   |true=>exact⟨_,hk.1 rfl,λ_=>rfl,nofun⟩
   |false=>exact⟨_,hk.2 rfl,nofun,λ_=>rfl⟩
 |sc x lo hi sz=>exact ZQ λw=>zar _ _ λh=>zar _ _ λl=>Det.and _ (Det.and _ (Det.and _ (Det.pure _)))
 | ap x y sz b=>
   intro K hk;simp only[PK.q]at hk⊢;split at hk
   .exact ZQ (λA=>Det.and _ (Det.and _ (Det.and _ (Det.pure _)))) K hk
   .exact hk.elim
 |mm m x y=>exact yQ λ_ _=>yQ λ_ _=>Det.and _ (Det.pure _)
 |ca f xs=>intro K hk;obtain⟨r,j,o,u⟩:=hk;exact⟨_,u,r,j,o,rfl⟩
 | cl y xs=>
   intro K hk;simp only[PK.q]at hk⊢;split at hk
   .obtain⟨r,j,o,u⟩:=hk;exact⟨_,u,r,j,o,rfl⟩
   .exact hk.elim
 | iv x m xs=>
   intro K hk;simp only[PK.q]at hk⊢;split at hk
   .obtain⟨f,B,r,j,o,u⟩:=hk;exact⟨_,u,f,B,r,j,o,rfl⟩
   .exact hk.elim
 | sb op x y=>
   intro K hk;simp only[PK.q]at hk⊢;unfold qsb at hk⊢;split at hk
   .exact⟨_,hk.2,hk.1,rfl⟩
   .exact hk.elim
 |al zs=>exact Det.false
 |bo x=>exact Det.false
 |st x y n=>exact Det.false
end
section
def zlE(f:Nat->Nat)(e:Edge):Edge:={ e with on:=f e.on }
def jA(f:Nat->Nat)(o:Oper):Oper:={ o with after:=o.after.map (zlE f),guard:=o.guard.map λy=>(f y.1,y.2) }
def z8(l:List Oper)(σ:List Nat):List Oper:=σ.map λi=>jA (λj=>σ.idxOf j) (l.getD i default)
def q9(n:Nat)(σ:List Nat):Bool:=σ.length == n && (List.range n).all (λi=>decide (σ.idxOf i<n)) && (List.range n).all λk=>decide (σ.getD k n<n) && decide (σ.idxOf (σ.getD k n)=k)
section
variable {P:Program}{Q:Exit->Act->World->Prop}{l:List Oper}{σ:List Nat}
def Xq(f:Nat->Nat)(o:Oper)(a:Act)(w:World)(K:Act->World->Prop):(jA f o).wp P a w K Q=o.wp P a w K Q:=by cases o;rfl
def zbD(f:Nat->Nat)(o:Oper)(a:Act)(w:World):(jA f o).asks P a w=o.asks P a w:=by cases o;rfl
def qU{n:Nat}(h:q9 n σ=true):σ.length=n/\(∀i,i<n->σ.idxOf i<n)/\∀k,k<n->σ.getD k n<n/\σ.idxOf (σ.getD k n)=k:=by unfold q9 at h;simp only[Vm,th,wH,WO,wC]at h;exact⟨h.1.1,h.1.2,h.2⟩
def vP{n i:Nat}(h:q9 n σ=true)(hi:i<n):σ.getD (σ.idxOf i) n=i:=by obtain⟨o,j,u⟩:=qU h;have w:=j i hi;rw[Q9,Zv a9];exact List.getElem_idxOf a9
def VD{n j:Nat}(h:q9 n σ=true)(A:n<=j):σ.idxOf j=n:=by obtain⟨o,y,u⟩:=qU h;rw[<-o];refine List.idxOf_eq_length λw=>?_;obtain⟨k,hk,e⟩:=Wd w;have:=(u k a9).1;rw[Q9,Zv hk]at this;simp at this;omega
def Qt{k:Nat}(h:q9 l.length σ=true)(hk:k<l.length):∃o,l[σ.getD k l.length]?=some o/\(z8 l σ)[k]?=some (jA (λj=>σ.idxOf j) o):=by
 obtain⟨y,A,w⟩:=qU h;have u:=(w k hk).1;refine⟨l[σ.getD k l.length],Zv u,?_⟩;unfold z8;have e:σ[k]?=some (σ.getD k l.length):=by rw[Q9,Zv a9];rfl
 rw[wh,e];simp only[uS];congr 2;rw[Q9,Zv u];rfl
structure PermM(n:Nat)(σ:List Nat)(m m':Array Bool):Prop where
 s:m.size=n
 s':m'.size=n
 h:∀k,k<n->m'.getD k false=m.getD (σ.getD k n) false
def PermM.at{n:Nat}{m w:Array Bool}(u:q9 n σ=true)(h:PermM n σ m w)(j:Nat):w.getD (σ.idxOf j) false=m.getD j false:=by
 obtain⟨A,y,B⟩:=qU u;rcases wK j n with o|o
 .rw[h.h _ (y j o),vP u o]
 .rw[VD u o];have e1:w.getD n false=false:=by rw[wu,WZ (by rw[h.s'];exact Zp _)];rfl
  have e2:m.getD j false=false:=(by rw[wu,WZ (by rw[h.s];exact o)];rfl);rw[e1,e2]
def getD_tf{m:Array Bool}{i:Nat}(h:i<m.size):m.getD i true=m.getD i false:=by simp[h]
def PermM.set{n k:Nat}{m w:Array Bool}(A:q9 n σ=true)(h:PermM n σ m w)(hk:k<n):PermM n σ (m.setIfInBounds (σ.getD k n) true) (w.setIfInBounds k true):=by
 obtain⟨B,C,u⟩:=qU A;refine⟨dL h.s,dL h.s',λj o=>?_⟩;by_cases e:j=k
 .subst e;rw[zl (by rw[h.s'];exact o),zl (by rw[h.s];exact(u j o).1)]
 .have y:σ.getD j n≠σ.getD k n:=λe2=>e (by have:=(u j o).2;have:=(u k hk).2;rw[e2]at *;omega);rw[zj e,zj y,h.h j o]
def xG{j:Array Oper}{m:Array Bool}{i:Nat}:i∈Region.ready .any j m↔i<j.size/\m.getD i true=false/\∃o,j[i]?=some o/\(o.after.all λe=>!Region.binds .any e || m.getD e.on false)=true:=by unfold Region.ready;simp only[Wq,WO,Vm,Wg];refine uT λhi=>uT λ_=>?_;rw[Wc hi];simp
def jZ{m u:Array Bool}{k:Nat}(y:q9 l.length σ=true)(h:PermM l.length σ m u)(hk:k<l.length):k∈Region.ready .any (z8 l σ).toArray u↔σ.getD k l.length∈Region.ready .any l.toArray m:=by
 obtain⟨E,F,A⟩:=qU y;obtain⟨o,B,C⟩:=Qt y hk;have w:(z8 l σ).length=l.length:=by unfold z8;simpa using E
 have e:(u.getD k true=false)↔(m.getD (σ.getD k l.length) true=false):=by rw[getD_tf (by rw[h.s'];exact hk),getD_tf (by rw[h.s];exact(A k hk).1),h.h k hk]
 have e2:((jA (λj=>σ.idxOf j) o).after.all λe=>!Region.binds .any e || u.getD e.on false)=(o.after.all λe=>!Region.binds .any e || m.getD e.on false):=by show ((o.after.map (zlE λj=>σ.idxOf j)).all λe=>!Region.binds .any e || u.getD e.on false)=_;rw[Array.all_map];congr 1;funext e;show (!Region.binds .any e || u.getD (σ.idxOf e.on) false)=_;rw[h.at y]
 rw[xG,xG,e];simp only[Wz,w,wF,B,C,wN,exists_eq_left',e2,hk,(A k hk).1]
def J6(y:q9 l.length σ=true)(u:Array Value)(j:Nat):yielded (z8 l σ).toArray u (σ.idxOf j)=yielded l.toArray u j:=by
 obtain⟨E,F,G⟩:=qU y;have B:(z8 l σ).length=l.length:=by unfold z8;simpa using E
 have e:((z8 l σ).toArray[σ.idxOf j]?).bind (·.dst)=(l.toArray[j]?).bind (·.dst):=by
  simp only[wF];rcases wK j l.length with w|w
  .obtain⟨o,A,C⟩:=Qt y (F j w);rw[vP y w]at A;rw[A,C];rfl
  .rw[VD y w,WU a9,WU w]
 unfold yielded;rw[e]
def VE(w:q9 l.length σ=true)(o:Oper)(u:Array Value):Region.wanted (jA (λj=>σ.idxOf j) o) (yielded (z8 l σ).toArray u)=Region.wanted o (yielded l.toArray u):=by
 unfold Region.wanted jA;cases o.guard with
 |none=>rfl
 |some y=>obtain⟨j,b⟩:=y;simp only[uS,J6 w]
def wpAny_perm(A:q9 l.length σ=true):∀(j:Nat)(m y:Array Bool)(a:Act)(w:World),PermM l.length σ m y->wpAny P .any (z8 l σ).toArray Q j y a w->wpAny P .any l.toArray Q j m a w:=by
 obtain⟨K,I,N⟩:=qU A;have nil:∀{m y:Array Bool},PermM l.length σ m y->Region.ready .any l.toArray m=[]->Region.ready .any (z8 l σ).toArray y=[]:=λ{m y} h e=>by refine Wv.2 λk hk=>?_;have B:(z8 l σ).length=l.length:=(by unfold z8;simpa using K);have G:k<l.length:=(by have:=(xG.1 hk).1;simp only[Wz,B]at this;exact this);have:=(jZ A h G).1 hk;rw[e]at this;cases this
 have E:∀{m y:Array Bool},PermM l.length σ m y->Region.ready .any (z8 l σ).toArray y=[]->Region.ready .any l.toArray m=[]:=λ{m y} h e=>by refine Wv.2 λi hi=>?_;have u:i<l.length:=(by simpa using (xG.1 hi).1);have:=(jZ A h (I i u)).2 (by rw[vP A u];exact hi);rw[e]at this;cases this
 intro j;induction j with
 |zero=>intro m y a w h C;exact⟨E h C.1,C.2⟩
 | succ j ih=>
   intro m y a w h C;refine⟨λe=>C.1 (nil h e),λi hi=>?_⟩;have u:i<l.length:=(by simpa using (xG.1 hi).1);have hk:=I i u;have M:=(jZ A h hk).2 (by rw[vP A u];exact hi);have hs:=C.2 _ M;obtain⟨o,H,J⟩:=Qt A hk;have F:=h.set A hk;rw[vP A u]at H F;unfold wpOp at hs⊢;simp only[wF,H,J,VE A,Xq,zbD]at hs⊢;split
   .rename_i hwa;rw[vj hwa]at hs;exact hs.imp (Tt λa w L=>ih _ _ a w F L) id
   .rename_i hwa;rw[vD hwa]at hs;exact ih _ _ _ w F hs
def xd(u:q9 l.length σ=true){a:Act}{w:World}(h:wpAny P .any (z8 l σ).toArray Q (z8 l σ).toArray.size (Array.replicate (z8 l σ).toArray.size false) a w):wpAny P .any l.toArray Q l.toArray.size (Array.replicate l.toArray.size false) a w:=by
 obtain⟨y,A,B⟩:=qU u;have j:(z8 l σ).length=l.length:=by unfold z8;simpa using y
 simp only[Wz,j]at h⊢;refine wpAny_perm u _ _ _ a w ⟨b7,b7,λk hk=>?_⟩ h;have o:∀i:Nat,(Array.replicate l.length false).getD i false=false:=λi=>by
  simp only[wu,uv];split<;>rfl
 rw[o,o]
end
end
end Go.Proofs.YtjdjjlkifdimkaaGreatDoor
