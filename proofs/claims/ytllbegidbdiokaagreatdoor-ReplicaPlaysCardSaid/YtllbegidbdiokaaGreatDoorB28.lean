import Derived.Test.YtllbegidbdiokaaGreatDoorRows
import Derived.ChangeSame
import Derived.ChangeVars
import Derived.LaidLaws
import Derived.LaidHandle
import Derived.Stop.Joined
import Derived.Test.YtllbegidbdiokaaGreatDoorB27
set_option maxHeartbeats 16000000
set_option linter.all false
set_option maxRecDepth 100000
namespace Go.Proofs.YtllbegidbdiokaaGreatDoor
open Go.Proofs.Tryz renaming prog->xt
section
open Go.RowKit
attribute [-go_sem] z7
def Play.sub{D j:xT}{t y:Nat}{w:World}{B M F:Nat->Nat}{S:Nat->Rs}(h:Play D t w B M F S)(ht:t<=y)(u:∀b o,D b o->j b o)(nd:∀i,i<3->∀o,¬j (B i) o/\¬j (M i) o/\¬j (F i) o):Play j y w B M F S:=
 ⟨λi hi=>((h.a i hi).keep (S:=qe) (Keep.refl _ _) id id λb o h=>⟨u b o h,id⟩).mono ht,λi hi=>(h.f i hi).keep (S:=qe) (Keep.refl _ _) id λb o h=>⟨u b o h,id⟩,h.bb,h.mm,h.ff,h.bm,h.bf,h.mf,nd⟩
def PB(B M F:Nat->Nat)(k:Nat):Prop:=∃i,i<3/\(k=B i\/k=M i\/k=F i)
structure PlI(C:Nat->List Nat)(R E I:List Nat)(D:xT)(w2:World)(B M F:Nat->Nat)(j:Nat)(S:Nat->Rs)(wr:World):Prop where
 p:Play (Nw D w2 wr) (25*j) wr B M F S
 ok:OkS C R E I j S
 k:Keep (PB B M F) w2 wr
def PlI.step{C:Nat->List Nat}{R E I:List Nat}{D:xT}{u wr:World}{B M F:Nat->Nat}{j:Nat}{S:Nat->Rs}{o:Opn}{ia:Option Addr}{P:Nat}(h:PlI C R E I D u B M F j S wr)(e:Env25 C R E I)(hj:j<25)(ho:OpE E I o)(Q:Gd D u)(L:∀i,i<3->B i<u.heap.size/\M i<u.heap.size/\F i<u.heap.size)(A:∀i,i<3->∀o,¬D (B i) o/\¬D (M i) o/\¬D (F i) o)(d:Dat D u (.slice ia o.items.length P) (rg o.items))(obj:Obj):
 Calls xt 13 #[.agg (plv B F),.agg (opv o ia P)] (wr.alloc obj) λe O=>e=.returned (.bool true)/\PlI C R E I D u B M F (j+1) (zsY S o) O:=by
 have y:Keep (PB B M F) u (wr.alloc obj):=h.k.alloc _;have G:∀b o,D b o->¬PB B M F b:=λb o H hb=>by
  obtain⟨i,hi,rfl|rfl|rfl⟩:=hb
  .exact(A i hi o).1 H
  .exact(A i hi o).2.1 H
  .exact(A i hi o).2.2 H
 have J:Gd (Nw D u (wr.alloc obj)) (wr.alloc obj):=Gd.new (w:=u) (Q.keep y G) y.size;have N:Play (Nw D u (wr.alloc obj)) (25*j) (wr.alloc obj) B M F S:=h.p.same (Zp _) ((tk _ _).alloc (Zp _) _) (λb o h=>h.imp id λh=>⟨h.1,a9⟩) λb o h=>by
  rcases h with h|h
  .exact .inl (.inl h)
  .by_cases hb:b<wr.heap.size
   .exact .inl (.inr ⟨h.1,hb⟩)
   .exact .inr a8
 refine(zwH e h.ok a8 a8 N J ho (d.mono (λ_ _ h=>.inl h) λb o x H U=>y.cell_some U (G b o H))).mono ?_;rintro Z O ⟨rfl,hk,T⟩;have K:Keep (PB B M F) u O:=y.trans (hk.mono λk _ e=>⟨_,zs5 _,e⟩);have s1:=y.size;have s2:=hk.size;refine⟨rfl,T.sub a8 (λb o h=>?_) λi hi o=>?_,h.ok.step e ho a8,K⟩
 .rcases h with(h|h)|h
  .exact .inl h
  .exact .inr ⟨h.1,a8⟩
  .exact .inr ⟨a8,h.2⟩
 .obtain⟨V,X,Y⟩:=A i hi o;obtain⟨l1,l2,l3⟩:=L i hi;exact⟨λh=>h.elim V a8,λh=>h.elim X a8,λh=>h.elim Y a8⟩
def PlI.below{C:Nat->List Nat}{R E I:List Nat}{D:xT}{w wr u:World}{B M F:Nat->Nat}{j:Nat}{S:Nat->Rs}(h:PlI C R E I D w B M F j S wr)(hb:Below wr.heap.size wr u):PlI C R E I D w B M F j S u:=by
 have y:=hb.size;have A:=h.k.size;refine⟨h.p.same (Zp _) hb (λb o h=>h.imp id λh=>⟨h.1,a8⟩) λb o h=>?_,h.ok,h.k.trans (Keep.of_below' hb (Zp _))⟩;rcases h with h|h
 .exact .inl (.inl h)
 .by_cases hb:b<wr.heap.size
  .exact .inl (.inr ⟨h.1,hb⟩)
  .exact .inr a8
def PlI.gd{C:Nat->List Nat}{R E I:List Nat}{D:xT}{y wr:World}{B M F:Nat->Nat}{j:Nat}{S:Nat->Rs}(h:PlI C R E I D y B M F j S wr)(G:Gd D y)(u:∀i,i<3->∀o,¬D (B i) o/\¬D (M i) o/\¬D (F i) o):Gd (Nw D y wr) wr:=
 Gd.new (w:=y) (G.keep h.k λb o A hb=>by
  obtain⟨i,hi,rfl|rfl|rfl⟩:=hb
  .exact(u i hi o).1 A
  .exact(u i hi o).2.1 A
  .exact(u i hi o).2.2 A) h.k.size
def zvl{D:xT}{w:World}{l:List Opn}{ia:Option Addr}{ic:Nat}(hG:Gd D w)(hd:Dat D w (.slice ia l.length ic) (opp l))(hb:∀o∈l,BdO o)(hl:l.length<=9223372036854775807):
 Calls xt 5 #[.slice ia l.length ic] w λe w'=>e=.returned (.bool true)/\Below w.heap.size w w':=by
 have ab:∀W,Below w.heap.size w W->Gd D W/\Dat D W (.slice ia l.length ic) (opp l):=λW hW=>by have hk:Keep qe w W:=Keep.of_below' hW (Zp _);exact⟨hG.keep hk λ_ _ _=>id,hd.mono (λ_ _ h=>h) λb o x hd L=>hk.cell_some L id⟩
 have P:=λW (hW:Below w.heap.size w W)=>zwj (ab W hW).2 hl λo ho=>⟨(hb o ho).2.2.1,(hb o ho).2.2.2.2⟩;have ag:=λW (hW:Below w.heap.size w W)=>zu5 (ab W hW).1;have ak:=qL ag;obtain⟨a,c,ev,hc,G⟩:=ztV hd;obtain⟨rfl,rfl⟩:ia=a/\ic=c:=dJ ev
 have ah:=hG.2;by_cases hf:ztR l=true
 ·rw [hf]at P;obtain⟨e,E⟩:=zu9 hf hb;have aA:=(ztG hf).1;obtain⟨n,hn⟩:=xm (l.length);have N:=qL P;have HC:=qL G;have HE:=qL (And.intro e (And.intro E hG));have Z:=qL ah;have HN:=qL hn;rw[<-hn]at N hc hl aA⊢;clear P G ag ab e E hG hd hb ev ah hn hf;go_enter Tryz.func5,Tryz.ntmps5
  go_wp2_with (go_at_call 9;refine(zt2 w).mono ?_;rintro e y ⟨B,M,F,rfl,A,ai,V⟩;dsimp only[plv])
  obtain⟨wp,I⟩:=xm (y.alloc (.cells (plv B F) 30));have ac:Below w.heap.size w wp:=(by rw[I];exact A.alloc A.size _);have aE:wp.heap[y.heap.size]?=some (.cells (plv B F) 30 (0,0)):=(by rw[I];exact tg _ _);have ay:Keep qe y wp:=(by rw[I];exact(Keep.refl _ _).alloc _);have aM:wp.heap.size=y.heap.size+1:=(by rw[I];exact tp _ _);dsimp only[plv]at I;rw[<-I];clear I
  go_wp2_with (go_at_call 10;refine(N.o wp ac).mono ?_;rintro e K ⟨rfl,u⟩)
  have T:Below w.heap.size w K:=ac.trans (u.mono ac.size);have aD:=(u.block _ a8).trans aE;have Y:∀i,i<3->∀o,¬D (B i) o/\¬D (M i) o/\¬D (F i) o:=λi hi o=>(by obtain⟨g1,g2,g3⟩:=V i hi;exact⟨λh=>by have:=Z.o _ _ h;omega,λh=>by have:=Z.o _ _ h;omega,λh=>by have:=Z.o _ _ h;omega⟩);have C:∀i,i<3->B i<y.heap.size/\M i<y.heap.size/\F i<y.heap.size:=λi hi=>ai.lt hi;have s2:=u.size;have aB:Play D 0 K B M F S0:=(ai.same (D':=λ_ _=>False) (Zp _) ((ay.below (Zp _) λ_ _ h=>h).trans (u.mono a8)) (λ_ _ h=>h) λ_ _ h=>h.elim).sub (Zp _) (λ_ _ h=>h.elim) Y;obtain⟨e,E,aq⟩:=HE.o;have af:Gd D K:=aq.keep (S:=qe) (Keep.of_below' T (Zp _)) λ_ _ _=>id;have aw:PlI (λ_=>List.range 27) [0,10,20] (edO l) (l.map Opn.item) D K B M F 0 S0 K:=⟨aB.sub (Zp _) (λ_ _ h=>.inl h) λi hi o=>by
   obtain⟨n1,n2,n3⟩:=Y i hi o;exact⟨λh=>h.elim n1 a8,λh=>h.elim n2 a8,λh=>h.elim n3 a8⟩,zwf λi hi=>a9,Keep.refl _ _⟩
  have ad:∀k,PB B M F k->w.heap.size<=k/\k<y.heap.size:=λk hk=>by
   obtain⟨i,hi,rfl|rfl|rfl⟩:=hk
   .exact⟨(V i hi).1,(C i hi).1⟩
   .exact⟨(V i hi).2.1,(C i hi).2.1⟩
   .exact⟨(V i hi).2.2,(C i hi).2.2⟩
  have ae:∀i,i<3->B i<K.heap.size/\M i<K.heap.size/\F i<K.heap.size:=λi hi=>(by obtain⟨l1,l2,l3⟩:=C i hi;exact⟨a8,a8,a8⟩);have aF:∀W,Keep (PB B M F) K W->W.heap[y.heap.size]?=some (.cells (plv B F) 30 (0,0)):=λW hk=>hk.obj aD λh=>(by have:=ad _ h;omega);have aC:∀W,Keep (PB B M F) K W->Below w.heap.size w W/\∀b o x,b<w.heap.size->w.cell? ⟨b,o,none⟩=some x->W.cell? ⟨b,o,none⟩=some x:=λW hk=>⟨T.trans (hk.below T.size λq hq h=>by have:=ad _ h;omega),λb o x hd L=>hk.cell_some (p:=⟨b,o,none⟩) (bc0 T L) λh=>by
   have:=ad _ h;simp only at this;omega⟩
  have aI:=qL (fun(j:Nat) (S:Nat->Rs) (wr:World) (o:Opn) (ib:Option Addr) (jc:Nat) (h:PlI (λ_=>List.range 27) [0,10,20] (edO l) (l.map Opn.item) D K B M F j S wr) (hj:j<25) (ho:o∈l) (d:Dat D w (.slice ib o.items.length jc) (rg o.items)) (obj:Obj)=>h.step e hj (E o ho) af ae Y (d.mono (λ_ _ h=>h) λb o x hd L=>bc0 T L) obj);have aG:=qL (fun(j:Nat) (S:Nat->Rs) (wr:World) (h:PlI (λ_=>List.range 27) [0,10,20] (edO l) (l.map Opn.item) D K B M F j S wr) (hj:j<=26)=>zva e h.ok hj h.p (h.gd af Y));have aH:=qL aw;have ao:=qL aF;have O:=qL aC;clear aw aF aC ad C ae af aq E e aB ai aD Y V ay aE ac A u HE N
  go_wp2_with fail
  go_loopg [19] n (λg x wr=>∃j,j<=n/\g=n-j/\x=.int .i64 j/\∃S,PlI (λ_=>List.range 27) [0,10,20] (edO l) (l.map Opn.item) D K B M F j S wr)
  case atStart=>exact⟨0,X3 _,rfl,rfl,S0,aH.o⟩
  case round=>
   obtain⟨j,hj,rfl,rfl,S,H⟩:=hrel;have aK:=qL H;have aL:=H.k.size;by_cases az:j<n
   .have ax:j<l.length:=(by rw[<-HN.o];exact az);obtain⟨o,ho⟩:=xm (l[j]);have au:=HC.o j ax;rw[<-ho]at au;obtain⟨g,Q,ib,jc,rfl,av,q0,q1,q2,q3,q4,dI⟩:=au;have X:=Z.o g Q av;have hk:=H.k;have c0:wr.cell? ⟨g,Q+j*5,none⟩=some (.int .i64 o.who):=(O.o wr hk).2 _ _ _ X q0;have c1:wr.cell? ⟨g,Q+j*5+1,none⟩=some (.int .i64 o.from_):=(by rw[Wq];exact(O.o wr hk).2 _ _ _ X q1);have c2:wr.cell? ⟨g,Q+j*5+2,none⟩=some (.int .u64 o.item):=(by rw[Wq];exact(O.o wr hk).2 _ _ _ X q2);have c3:wr.cell? ⟨g,Q+j*5+3,none⟩=some (.string o.val):=(by rw[Wq];exact(O.o wr hk).2 _ _ _ X q3);have c4:wr.cell? ⟨g,Q+j*5+4,none⟩=some (.slice ib o.items.length jc):=(by rw[Wq];exact(O.o wr hk).2 _ _ _ X q4);have L:=ao.o wr hk;have z0:wr.cell? ⟨y.heap.size,0,none⟩=some (.pointer (some ⟨B 0,0,none⟩)):=(zW L 0 _ rfl).1;have z1:wr.cell? ⟨y.heap.size,1,none⟩=some (.pointer (some ⟨B 1,0,none⟩)):=(zW L 1 _ rfl).1;have z2:wr.cell? ⟨y.heap.size,2,none⟩=some (.pointer (some ⟨B 2,0,none⟩)):=(zW L 2 _ rfl).1;have z3:wr.cell? ⟨y.heap.size,3,none⟩=some (.pointer (some ⟨F 0,0,none⟩)):=(zW L 3 _ rfl).1;have z4:wr.cell? ⟨y.heap.size,4,none⟩=some (.pointer (some ⟨F 1,0,none⟩)):=(zW L 4 _ rfl).1;have z5:wr.cell? ⟨y.heap.size,5,none⟩=some (.pointer (some ⟨F 2,0,none⟩)):=(zW L 5 _ rfl).1;have aJ:=(XE.1 L).1;have am:=qL (aI.o j S wr o ib jc H a8 (by rw[ho];exact Y1 ax) dI (.cells #[.int .i64 o.who,.int .i64 o.from_,.int .u64 o.item,.string o.val,.slice ib o.items.length jc] 38));obtain⟨S',ar⟩:=xm (zsY S o);rw[<-ar]at am;clear H hk L q0 q1 q2 q3 q4 dI av ar ho
    go_wp2_with (first
     | (go_at_call 13;refine am.o.mono ?_;rintro e w5 ⟨rfl,aj⟩
        have an:=qL aj;have J:=ao.o w5 aj.k;clear z0 z1 z2 z3 z4 z5 aj;have z0:w5.cell? ⟨y.heap.size,0,none⟩=some (.pointer (some ⟨B 0,0,none⟩)):=(zW J 0 _ rfl).1;have z1:w5.cell? ⟨y.heap.size,1,none⟩=some (.pointer (some ⟨B 1,0,none⟩)):=(zW J 1 _ rfl).1;have z2:w5.cell? ⟨y.heap.size,2,none⟩=some (.pointer (some ⟨B 2,0,none⟩)):=(zW J 2 _ rfl).1;have z3:w5.cell? ⟨y.heap.size,3,none⟩=some (.pointer (some ⟨F 0,0,none⟩)):=(zW J 3 _ rfl).1;have z4:w5.cell? ⟨y.heap.size,4,none⟩=some (.pointer (some ⟨F 1,0,none⟩)):=(zW J 4 _ rfl).1;have z5:w5.cell? ⟨y.heap.size,5,none⟩=some (.pointer (some ⟨F 2,0,none⟩)):=(zW J 5 _ rfl).1;clear J)
     |(go_at_call 22;refine(aG.o (j+1) S' w5 an.o a8).mono ?_;rintro e w6 ⟨rfl,U⟩))
    go_roundg (n-(j+1));case measure=>omega
    case rel=>exact⟨j+1,az,rfl,rfl,S',an.o.below U⟩
   .obtain rfl:j=n:=a8;have hW:=(O.o wr H.k).1;clear H
    go_wp2_with (go_at_call 12;refine(ak.o wr hW).mono ?_;rintro e w6 ⟨rfl,U⟩)
    go_ret;exact⟨rfl,hW.trans (U.mono hW.size)⟩
 .rw[uX]at hf;rw[hf]at P;have N:=qL P;obtain⟨n,hn⟩:=xm (l.length);rw[<-hn]at N hc⊢;clear P G ag ab hG hd hb ev ah hn hf hl;go_enter Tryz.func5,Tryz.ntmps5
  go_wp2_with (first
   |(go_at_call 9;refine(zt2 w).mono ?_;rintro e y ⟨B,M,F,rfl,A,_,_⟩;dsimp only[plv])
   |(go_at_call 10;refine(N.o _ (A.alloc A.size _)).mono ?_;rintro e K ⟨rfl,u⟩;replace u:=(A.alloc A.size _).trans (u.mono (A.alloc A.size _).size))
   |(go_at_call 12;refine(ak.o K u).mono ?_;rintro e w6 ⟨rfl,U⟩))
  go_ret;exact⟨rfl,u.trans (U.mono u.size)⟩
def zvk(l:List Opn)(hb:(∀o∈l,BdO o)/\l.length<=9223372036854775807):Cn xt 5 [opp l] (.v (.bool true)):=by
 refine⟨enters_of Tryz.func5 dK rfl,λD w A B y u C=>?_⟩;have j:=C 0 _ rfl;obtain⟨a,c,ev,_⟩:=ztV j;rw[ev]at j;rw[show A=#[.slice a l.length c] from by
  rw[<-ev];obtain⟨q⟩:=A;match q,u with|[x],_=>rfl]
 refine(zvl ⟨B,y⟩ j hb.1 hb.2).mono ?_;rintro e E ⟨rfl,hb⟩;exact⟨_,D,rfl,hb,λ_ _ h=>h,λ_ _ h=>.inl h,λb o h=>vj (y b o h) hb.size,.v _,trivial⟩
end
section
open Go.ChangeShapes Go.WideShapes Go.RowKit
def own:ownKnob xt.godebug=none:=dK
def Xc:laidOutB xt=true:=dK
def et:xt.globalNamed "errors.errorType" = some 0:=dK
def rt:(xt.cutTypes.find? (·.1 == "internal/reflectlite.rtype")).map (·.2)=some 207 :=dK
def ziq:((List.range 343).filter λt=>xt.rowNamed t [101,114,114,111,114])=[44]:=dK
def tsize:xt.types.size=343:=dK
def zab{H:Type}:List (String×DataW H):=[("errors.errorType",Rows.laid_errors_errorType)]
def Z7{W:World}(h:laidMetH xt zab W):W.cell? ⟨0,0,none⟩=some (.iface 207 (.agg #[.pointer (some ⟨2,44,none⟩)])):=by
 have B:laidMet xt [] W/\handlesMet xt zab W:=h;obtain⟨j,u,E,e1,e2,y,e4,e5⟩:=B.2 _ (wC.2 rfl);have A:j=[101,114,114,111,114]:=(wy e1).symm;subst A;obtain rfl:=wy (rt.symm.trans e2);have w:E∈(List.range 343).filter λt=>xt.rowNamed t [101,114,114,111,114]:=Ww.2 ⟨WN.2 (by rw[<-tsize];exact y),e4⟩;rw[ziq]at w;obtain rfl:=wC.1 w;have C:typeHandle xt 44 = .pointer (some ⟨2,44,none⟩):=dK
 rw[C]at e5;simpa using World.var?_cell et e5 0
def JH{W:World}(h:laidMetH xt zab W):GL (ZG W) W:=λx u=>by have j:=Z7 h;obtain rfl:_=x:=wy u;exact⟨th W ⟨0,0,none⟩ j,j⟩
noncomputable def Yx (os:Os):World:=
 let w0:=World.holding xt os ⟨#[],#[],[]⟩
 { w0 with heap:=w0.heap.modify 0 fun
  |.cells _ t frozen=>.cells #[.iface 207 (.agg #[.pointer (some ⟨2,44,none⟩)])] t frozen
  |o=>o }
def Q3(os:Os)(j:Array Value):laidMetH xt zab ((Yx os).forCall (λ_ _=>0) ⟨#[],j,[]⟩).memory:=
 laidMetH_of_parts (laidMet_nil _ _) dK
end
end Go.Proofs.YtllbegidbdiokaaGreatDoor
