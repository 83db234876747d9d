import Derived.Test.YtjdjjlkifdimkaaGreatDoorRows
import Derived.ChangeSame
import Derived.ChangeVars
import Derived.LaidLaws
import Derived.LaidHandle
import Derived.Stop.Joined
import Derived.LaidSub
import Derived.Test.YtjdjjlkifdimkaaGreatDoorB25
set_option maxHeartbeats 16000000
set_option linter.all false
set_option maxRecDepth 100000
namespace Go.Proofs.YtjdjjlkifdimkaaGreatDoor
open Go.RowKit
open Go.Proofs.Tryz
open Go.Proofs.Tryz renaming prog->xt
section
attribute [-go_sem] z7
def sq1:Code->Code
 |.seq a _=>a
 |c=>c
def cT:Code->Code
 |.cond _ a _=>a
 |c=>c
def zs8{t:Array Value}(h:t.size=128):∃u:Nat->Value,t=#[u 0,u 1,u 2,u 3,u 4,u 5,u 6,u 7,u 8,u 9,u 10,u 11,u 12,u 13,u 14,u 15,u 16,u 17,u 18,u 19,u 20,u 21,u 22,u 23,u 24,u 25,u 26,u 27,u 28,u 29,u 30,u 31,u 32,u 33,u 34,u 35,u 36,u 37,u 38,u 39,u 40,u 41,u 42,u 43,u 44,u 45,u 46,u 47,u 48,u 49,u 50,u 51,u 52,u 53,u 54,u 55,u 56,u 57,u 58,u 59,u 60,u 61,u 62,u 63,u 64,u 65,u 66,u 67,u 68,u 69,u 70,u 71,u 72,u 73,u 74,u 75,u 76,u 77,u 78,u 79,u 80,u 81,u 82,u 83,u 84,u 85,u 86,u 87,u 88,u 89,u 90,u 91,u 92,u 93,u 94,u 95,u 96,u 97,u 98,u 99,u 100,u 101,u 102,u 103,u 104,u 105,u 106,u 107,u 108,u 109,u 110,u 111,u 112,u 113,u 114,u 115,u 116,u 117,u 118,u 119,u 120,u 121,u 122,u 123,u 124,u 125,u 126,u 127]:=
 ⟨λi=>t.getD i undef,(show t=((List.range 128).map λi=>t.getD i undef).toArray from Array.ext (by simp[h]) λi j o=>by simp[j]).trans rfl⟩
noncomputable def zuy:Code:=cT (sq2 (sq1 (sq2 (sq2 (xN Tryz.f9)))))
noncomputable def zui:Code:=sq2 zuy
noncomputable def zwh:Code:=sq2 zui
def zvx{f:FuncId}{t:TypeId}{m:String}{v:Value}{s:Tmp}{c:Call}{o:Oper}{a:Act}{w:World}{K:Act->World->Prop}{Q:Exit->Act->World->Prop}(E:Mth xt t m f)(C:∀j w,(callFunc f j).run xt w=.ok (.enter f j) w)(ho:o.op=.call c)(B:c.callee=.invoke (.tmp s) m)(G:a.eval (.tmp s)=.iface t v)(A:c.args=#[])
 (h:Calls xt f #[v] w λe y=>∃u,e=.returned u/\K (a.put o.dst u) y):o.wp xt a w K Q:=by
 have F:(execOp a.eval o).run xt w=.ok (.enter f #[v]) w:=by simp only[execOp,ho,resolve,B,G,A,tC,tG,tw,invoke];have:=E v #[] w;rw[C]at this;simpa using this
 unfold Oper.wp;rw[F,t9];exact h.mono λe H h=>by obtain⟨v,rfl,h⟩:=h;exact h
def do5{W:World}{g h:Nat}{x:Rc}{post:Ending->World->Prop}{F:Act->World->Prop}(w:W.heap[g]?=some (.cells #[.int .u64 x.item,.int .u64 x.rep,.int .u64 x.ctr,.string x.val] 66 (0,0)))(y:W.heap[h]?=some (.cells #[.int .u64 x.item,.int .u64 x.rep,.int .u64 x.ctr,.string x.val] 80 (0,0)))(o:post (.returned (.bool true)) W){t:Array Value}(ht:t.size=128)(A:t[7]?=some (.pointer (some ⟨g,0,none⟩)))(B:t[8]?=some (.nilIface))(C:t[9]?=some (.pointer (some ⟨h,0,none⟩)))(j:t[10]?=some (.bool true)):
 Code.wp xt zwh (Exit.then F (bodyPost xt Tryz.f9 post)) ⟨t,[]⟩ W:=by
 have G:W.cell? ⟨g,0,none⟩=some (.int .u64 x.item):=(zW w 0 _ rfl).1;have H:W.cell? ⟨g,1,none⟩=some (.int .u64 x.rep):=(zW w 1 _ rfl).1;have I:W.cell? ⟨g,2,none⟩=some (.int .u64 x.ctr):=(zW w 2 _ rfl).1;have J:W.cell? ⟨g,3,none⟩=some (.string x.val):=(zW w 3 _ rfl).1;have K:W.cell? ⟨h,0,none⟩=some (.int .u64 x.item):=(zW y 0 _ rfl).1;have L:W.cell? ⟨h,1,none⟩=some (.int .u64 x.rep):=(zW y 1 _ rfl).1;have M:W.cell? ⟨h,2,none⟩=some (.int .u64 x.ctr):=(zW y 2 _ rfl).1;have N:W.cell? ⟨h,3,none⟩=some (.string x.val):=(zW y 3 _ rfl).1;have E:=qL o;clear w y o;obtain⟨u,rfl⟩:=zs8 ht;replace A:u 7=_:=wB A;replace B:u 8=_:=wB B;replace C:u 9=_:=wB C;replace j:u 10=_:=wB j;rw[A,B,C,j];clear A B C j ht;obtain⟨Q,o⟩:=xm (bodyPost xt Tryz.f9 post);rw[<-o];simp only[zwh,zui,zuy,sq1,sq2,cT,xN,Tryz.f9];subst o
 go_wp2_with fail
 exact E.o
def do4{W:World}{F o g i c:Nat}{x:Rc}{it:Nat}{v:ByteArray}{R:World->World->Prop}{post:Ending->World->Prop}{K0:Act->World->Prop}(hi:i<3)(hg:W.heap[g]?=some (.cells #[.int .u64 x.item,.int .u64 x.rep,.int .u64 x.ctr,.string x.val] 66 (0,0)))(ad:g≠c)
 (I:W.cell? ⟨F,3+i,none⟩=some (.pointer (some ⟨c,0,none⟩))) (hy:W.cell? ⟨o,2,none⟩=some (.int .u64 it)) (hz:W.cell? ⟨o,3,none⟩=some (.string v)) (ab:c<W.heap.size) (ai:F≠c) (aj:o≠c)
 (hP:∀G,Below W.heap.size W G->Calls xt 23 #[.pointer (some ⟨c,0,none⟩),.int .u64 it,.string v] G λe w'=>e=.returned (.tuple #[rcv x,.bool true])/\R G w') (hR:∀A B,R A B->Keep (λk=>k=c) A B)
 (K:∀U J G,Below W.heap.size W U->R U J->Keep (λk=>W.heap.size<=k/\(k<U.heap.size\/J.heap.size<=k)) J G->post (.returned (.bool true)) G) {t:Array Value} (ht:t.size=128) (H:t[2]?=some (.pointer (some ⟨F,0,none⟩))) (X:t[3]?=some (.pointer (some ⟨o,0,none⟩))) (Y:t[5]?=some (.int .i64 i)) (Z:t[7]?=some (.pointer (some ⟨g,0,none⟩))) (h8:t[8]?=some (.nilIface)) :
 Code.wp xt zui (Exit.then K0 (bodyPost xt Tryz.f9 post)) ⟨t,[]⟩ W:=by
 have E:xt.follows .mixedOrders=true:=dM
 have ag:(i:Int)<3:=a9
 have O:=enters_of func23 dM rfl;have ae:=(XE.1 hg).1;have T:=tn W _ I;have C:=tn W _ hy;have hF:∀x:Wm,Keep (λk=>k=c\/W.heap.size<=k) W.drew x.1->x.1.cell? ⟨F,3+i,none⟩=some (.pointer (some ⟨c,0,none⟩))/\x.1.cell? ⟨o,2,none⟩=some (.int .u64 it)/\x.1.cell? ⟨o,3,none⟩=some (.string v):=λx hk=>
  ⟨hk.cell_some (p:=⟨F,3+i,none⟩) I (by show ¬(F=c\/W.heap.size<=F);simp only at T;omega),hk.cell_some (p:=⟨o,2,none⟩) hy (by show ¬(o=c\/W.heap.size<=o);simp only at C;omega),hk.cell_some (p:=⟨o,3,none⟩) hz (by show ¬(o=c\/W.heap.size<=o);simp only at C;omega)⟩
 have HF:=qL hF;have HG:=qL hg;have HP:=qL hP;have HQ:=qL K;have HR:=qL hR;clear hg hP K I hy hz hF hR T C;obtain⟨u,rfl⟩:=zs8 ht;replace H:u 2=_:=wB H;replace X:u 3=_:=wB X;replace Y:u 5=_:=wB Y;replace Z:u 7=_:=wB Z;replace h8:u 8=_:=wB h8;rw[H,X,Y,Z,h8];clear H X Y Z h8 ht;obtain⟨Q,K⟩:=xm (bodyPost xt Tryz.f9 post);rw[<-K];simp only[zui,zuy,sq1,sq2,cT,xN,Tryz.f9];subst K
 go_wp2_with fail
 rename_i Kx hKx;refine zvo (Sw:=λk=>k=c\/W.heap.size<=k) (mkD 50 (some 9) true) 128 (HX W R #[.int .u64 x.item,.int .u64 x.rep,.int .u64 x.ctr,.string x.val] #[.int .u64 0,.int .u64 0,.int .u64 0,.string ⟨#[]⟩] 80) E dM rfl HX.start ?_;repeat (refine ztp ?_ rfl rfl (λa m hk j=>?_) ?_;rotate_left;(obtain⟨q0,q1,q2⟩:=HF.o m hk;simp[Pl.Rds,zA,Pl.lk,Op.operands,Call.operands,RdEq]at j;(first|replace j:=exM j|replace j:=And.intro j.1 (exM j.2)|skip);go_simp;with_reducible rfl);simp only[Y1,yb])
 refine zt0 _ zt6 rfl (zue (S:=λk=>k=c) (v:=.tuple #[.agg #[.int .u64 x.item,.int .u64 x.rep,.int .u64 x.ctr,.string x.val],.bool true]) rfl rfl rfl (λa x j=>by simp[Pl.Rds,zA,Pl.lk,Op.operands,Call.operands,RdEq]at j;simp[j]) O HP.o HR.o λk h=>⟨.inl h,by rw[h];exact ab⟩) ?_;simp only[Y1,yb];repeat (refine ztp ?_ rfl rfl (λa m hk j=>?_) ?_;rotate_left;(obtain⟨q0,q1,q2⟩:=HF.o m hk;simp[Pl.Rds,zA,Pl.lk,Op.operands,Call.operands,RdEq]at j;(first|replace j:=exM j|replace j:=And.intro j.1 (exM j.2)|skip);go_simp;with_reducible rfl);simp only[Y1,yb])
 refine zt0 _ zwr rfl (zuX rfl λa w=>by go_simp) ?_;simp only[Y1,yb];refine zt0 (λ_ _=>True) (λ_ _ _ _ _=>trivial) rfl (zuY rfl (λa m j=>?_) λk h=>.inr h) ?_
 .simp[Pl.Rds,zA,Pl.lk,Op.operands,Call.operands,RdEq]at j;obtain⟨⟨_,⟨p1,p2⟩,rfl,V⟩,p3,p4⟩:=j;refine⟨V,λw y=>?_⟩;have c0:w.cell? ⟨m.2.2,0,none⟩=some (.int .u64 0):=(zW y 0 _ rfl).1;have c1:w.cell? ⟨m.2.2,1,none⟩=some (.int .u64 0):=(zW y 1 _ rfl).1;have c2:w.cell? ⟨m.2.2,2,none⟩=some (.int .u64 0):=(zW y 2 _ rfl).1;have c3:w.cell? ⟨m.2.2,3,none⟩=some (.string ⟨#[]⟩):=(zW y 3 _ rfl).1;have d0:w.frozen? ⟨m.2.2,0,none⟩=false:=(zW y 0 _ rfl).2;have d1:w.frozen? ⟨m.2.2,1,none⟩=false:=(zW y 1 _ rfl).2;have d2:w.frozen? ⟨m.2.2,2,none⟩=false:=(zW y 2 _ rfl).2;have d3:w.frozen? ⟨m.2.2,3,none⟩=false:=(zW y 3 _ rfl).2;refine⟨(((w.setCell ⟨m.2.2,0,none⟩ (.int .u64 x.item)).setCell ⟨m.2.2,1,none⟩ (.int .u64 x.rep)).setCell ⟨m.2.2,2,none⟩ (.int .u64 x.ctr)).setCell ⟨m.2.2,3,none⟩ (.string x.val),by go_simp,?_,?_⟩
  .simpa using zsw (zsw (zsw (zsw y 0 _) 1 _) 2 _) 3 _
  .exact((((Keep.refl (λk=>k=m.2.2) w).setCell (p:=⟨m.2.2,0,none⟩) (λ_=>rfl) _).setCell (p:=⟨m.2.2,1,none⟩) (λ_=>rfl) _).setCell (p:=⟨m.2.2,2,none⟩) (λ_=>rfl) _).setCell (p:=⟨m.2.2,3,none⟩) (λ_=>rfl) _
 simp only[Y1,yb];repeat (refine ztp ?_ rfl rfl (λa m hk j=>?_) ?_;rotate_left;(obtain⟨q0,q1,q2⟩:=HF.o m hk;simp[Pl.Rds,zA,Pl.lk,Op.operands,Call.operands,RdEq]at j;(first|replace j:=exM j|replace j:=And.intro j.1 (exM j.2)|skip);go_simp;with_reducible rfl);simp only[Y1,yb])
 intro m I hk;simp only[Pl.finG,Y1,yb,and_imp,WQ];simp only[Act.put,ww,wR,wS];intro h0 V;refine⟨trivial,λM=>?_⟩;have H:2∈m.2.1:=M 13 b9 2 rfl rfl;refine hKx _ _ ?_;obtain⟨U,J,N,L,ah,af,ac⟩:=I.post h0;obtain⟨hN,hv⟩:=I.var V;rw[vj H]at hv;have P:Keep (λk=>W.heap.size<=k/\(k<U.heap.size\/J.heap.size<=k)) J m.1:=af.mono λk _ e=>by rw[e.2];exact⟨hN,ac V⟩
 exact do5 (P.obj ((HR.o _ _ L).obj ((N.block g ae).trans HG.o) ad) λe=>absurd e.1 a9) hv (HQ.o _ _ _ N L P) rfl rfl rfl rfl rfl
def do3{W:World}{C o i b y:Nat}{x:Rc}{it:Nat}{v:ByteArray}{R:World->World->Prop}{post:Ending->World->Prop}{Kx:Act->World->Prop}{K0:Act->World->Prop}(hi:i<3)
 (J:W.cell? ⟨C,i,none⟩=some (.pointer (some ⟨b,0,none⟩))) (hy:W.cell? ⟨o,2,none⟩=some (.int .u64 it)) (hz:W.cell? ⟨o,3,none⟩=some (.string v)) (hb:b<W.heap.size) (hm:y<W.heap.size) (hn:C≠b/\C≠y/\o≠b/\o≠y)
 (hP:∀F,Below W.heap.size W F->Calls xt 22 #[.pointer (some ⟨b,0,none⟩),.int .u64 it,.string v] F λe w'=>e=.returned (.tuple #[rcv x,.nilIface])/\R F w') (hR:∀A B,R A B->Keep (λk=>k=b\/k=y) A B)
 (M:∀T K F g,Below W.heap.size W T->R T K->Keep (λk=>W.heap.size<=k/\(k<T.heap.size\/K.heap.size<=k)) K F->W.heap.size<=g->F.heap[g]?=some (.cells #[.int .u64 x.item,.int .u64 x.rep,.int .u64 x.ctr,.string x.val] 66 (0,0))->∀t:Array Value,t.size=128->t[2]?=some (.pointer (some ⟨C,0,none⟩))->t[3]?=some (.pointer (some ⟨o,0,none⟩))->t[5]?=some (.int .i64 i)->t[7]?=some (.pointer (some ⟨g,0,none⟩))->t[8]?=some (.nilIface)->Code.wp xt zui (Exit.then K0 (bodyPost xt Tryz.f9 post)) ⟨t,[]⟩ F) (L:∀a w,Code.wp xt zui (Exit.then K0 (bodyPost xt Tryz.f9 post)) a w->Kx a w) {t:Array Value} (ht:t.size=128) (I:t[2]?=some (.pointer (some ⟨C,0,none⟩))) (V:t[3]?=some (.pointer (some ⟨o,0,none⟩))) (X:t[5]?=some (.int .i64 i)) :
 Code.wp xt (sq1 zuy) (Exit.then Kx (Exit.then K0 (bodyPost xt Tryz.f9 post))) ⟨t,[]⟩ W:=by
 have H:xt.follows .mixedOrders=true:=dM
 have ag:(i:Int)<3:=a9
 have O:=enters_of func22 dM rfl;have P:=tn W _ J;have G:=tn W _ hy;have hF:∀x:Wm,Keep (λk=>(k=b\/k=y)\/W.heap.size<=k) W.drew x.1->x.1.cell? ⟨C,i,none⟩=some (.pointer (some ⟨b,0,none⟩))/\x.1.cell? ⟨o,2,none⟩=some (.int .u64 it)/\x.1.cell? ⟨o,3,none⟩=some (.string v):=λx hk=>
  ⟨hk.cell_some (p:=⟨C,i,none⟩) J (by show ¬((C=b\/C=y)\/W.heap.size<=C);simp only at P;omega),hk.cell_some (p:=⟨o,2,none⟩) hy (by show ¬((o=b\/o=y)\/W.heap.size<=o);simp only at G;omega),hk.cell_some (p:=⟨o,3,none⟩) hz (by show ¬((o=b\/o=y)\/W.heap.size<=o);simp only at G;omega)⟩
 have Y:=qL hF;have HP:=qL hP;have HQ:=qL M;have HR:=qL hR;clear hP M J hy hz hF hR P G hn;have Z:=qL L;clear L;obtain⟨u,rfl⟩:=zs8 ht;replace I:u 2=_:=wB I;replace V:u 3=_:=wB V;replace X:u 5=_:=wB X;rw[I,V,X];clear I V X ht;obtain⟨Q,M⟩:=xm (bodyPost xt Tryz.f9 post);rw[<-M];simp only[zuy,sq1,sq2,cT,xN,Tryz.f9];subst M;refine zvo (Sw:=λk=>(k=b\/k=y)\/W.heap.size<=k) (mkD 38 (some 7) true) 128 (HX W R #[.int .u64 x.item,.int .u64 x.rep,.int .u64 x.ctr,.string x.val] #[.int .u64 0,.int .u64 0,.int .u64 0,.string ⟨#[]⟩] 66) H dM rfl HX.start ?_;repeat (refine ztp ?_ rfl rfl (λa m hk j=>?_) ?_;rotate_left;(obtain⟨q0,q1,q2⟩:=Y.o m hk;simp[Pl.Rds,zA,Pl.lk,Op.operands,Call.operands,RdEq]at j;(first|replace j:=exM j|replace j:=And.intro j.1 (exM j.2)|skip);go_simp;with_reducible rfl);simp only[Y1,yb])
 refine zt0 _ zt6 rfl (zue (S:=λk=>k=b\/k=y) (v:=.tuple #[.agg #[.int .u64 x.item,.int .u64 x.rep,.int .u64 x.ctr,.string x.val],.nilIface]) rfl rfl rfl (λa x j=>by simp[Pl.Rds,zA,Pl.lk,Op.operands,Call.operands,RdEq]at j;simp[j]) O HP.o HR.o λk h=>⟨.inl h,by rcases h with h|h<;>rw[h]<;>assumption⟩) ?_;simp only[Y1,yb];repeat (refine ztp ?_ rfl rfl (λa m hk j=>?_) ?_;rotate_left;(obtain⟨q0,q1,q2⟩:=Y.o m hk;simp[Pl.Rds,zA,Pl.lk,Op.operands,Call.operands,RdEq]at j;(first|replace j:=exM j|replace j:=And.intro j.1 (exM j.2)|skip);go_simp;with_reducible rfl);simp only[Y1,yb])
 refine zt0 _ zwr rfl (zuX rfl λa w=>by go_simp) ?_;simp only[Y1,yb];refine zt0 (λ_ _=>True) (λ_ _ _ _ _=>trivial) rfl (zuY rfl (λa m j=>?_) λk h=>.inr h) ?_
 .simp[Pl.Rds,zA,Pl.lk,Op.operands,Call.operands,RdEq]at j;obtain⟨⟨_,⟨p1,p2⟩,rfl,U⟩,p3,p4⟩:=j;refine⟨U,λw E=>?_⟩;have c0:w.cell? ⟨m.2.2,0,none⟩=some (.int .u64 0):=(zW E 0 _ rfl).1;have c1:w.cell? ⟨m.2.2,1,none⟩=some (.int .u64 0):=(zW E 1 _ rfl).1;have c2:w.cell? ⟨m.2.2,2,none⟩=some (.int .u64 0):=(zW E 2 _ rfl).1;have c3:w.cell? ⟨m.2.2,3,none⟩=some (.string ⟨#[]⟩):=(zW E 3 _ rfl).1;have d0:w.frozen? ⟨m.2.2,0,none⟩=false:=(zW E 0 _ rfl).2;have d1:w.frozen? ⟨m.2.2,1,none⟩=false:=(zW E 1 _ rfl).2;have d2:w.frozen? ⟨m.2.2,2,none⟩=false:=(zW E 2 _ rfl).2;have d3:w.frozen? ⟨m.2.2,3,none⟩=false:=(zW E 3 _ rfl).2;refine⟨(((w.setCell ⟨m.2.2,0,none⟩ (.int .u64 x.item)).setCell ⟨m.2.2,1,none⟩ (.int .u64 x.rep)).setCell ⟨m.2.2,2,none⟩ (.int .u64 x.ctr)).setCell ⟨m.2.2,3,none⟩ (.string x.val),by go_simp,?_,?_⟩
  .simpa using zsw (zsw (zsw (zsw E 0 _) 1 _) 2 _) 3 _
  .exact((((Keep.refl (λk=>k=m.2.2) w).setCell (p:=⟨m.2.2,0,none⟩) (λ_=>rfl) _).setCell (p:=⟨m.2.2,1,none⟩) (λ_=>rfl) _).setCell (p:=⟨m.2.2,2,none⟩) (λ_=>rfl) _).setCell (p:=⟨m.2.2,3,none⟩) (λ_=>rfl) _
 simp only[Y1,yb];repeat (refine ztp ?_ rfl rfl (λa m hk j=>?_) ?_;rotate_left;(obtain⟨q0,q1,q2⟩:=Y.o m hk;simp[Pl.Rds,zA,Pl.lk,Op.operands,Call.operands,RdEq]at j;(first|replace j:=exM j|replace j:=And.intro j.1 (exM j.2)|skip);go_simp;with_reducible rfl);simp only[Y1,yb])
 intro m J hk;simp only[Pl.finG,Y1,yb,and_imp,WQ];simp only[Act.put,ww,wR,wS];intro h0 U;refine⟨trivial,λN=>?_⟩;have I:2∈m.2.1:=N 13 b9 2 rfl rfl;refine Z.o _ _ ?_;obtain⟨T,K,ac,ab,ah,ae,ad⟩:=J.post h0;obtain⟨hN,hv⟩:=J.var U;rw[vj I]at hv;have af:Keep (λk=>W.heap.size<=k/\(k<T.heap.size\/K.heap.size<=k)) K m.1:=ae.mono λk _ e=>by rw[e.2];exact⟨hN,ad U⟩
 exact HQ.o _ _ _ _ ac ab af hN hv _ rfl rfl rfl rfl rfl rfl
noncomputable def zuz:Code:=sq2 (sq2 (sq2 (xN Tryz.f9)))
noncomputable def zuj:Code:=sq2 zuz
def do6{W:World}{y C i j b c m0 n:Nat}{vi er:Value}{R:World->World->Prop}{post:Ending->World->Prop}{Kx:Act->World->Prop}(hi:i<3)(hj:j<3)
 (H:W.cell? ⟨y,i,none⟩=some (.pointer (some ⟨b,0,none⟩))) (hy:W.cell? ⟨y,j,none⟩=some (.pointer (some ⟨c,0,none⟩))) (hz:W.cell? ⟨C,4,none⟩=some vi) (hb:b<W.heap.size) (hm:m0<W.heap.size) (hn:y≠b/\y≠m0/\C≠b/\C≠m0)
 (hP:∀G,Below W.heap.size W G->Calls xt 11 #[.pointer (some ⟨b,0,none⟩),.pointer (some ⟨c,0,none⟩),vi] G λe w'=>e=.returned (.tuple #[.int .i64 n,er])/\R G w') (hR:∀A B,R A B->Keep (λk=>k=b\/k=m0) A B)
 (K:∀N I G,Below W.heap.size W N->R N I->Keep (λk=>W.heap.size<=k/\(k<N.heap.size\/I.heap.size<=k)) I G->∀t:Array Value,t.size=128->t[2]?=some (.pointer (some ⟨y,0,none⟩))->t[3]?=some (.pointer (some ⟨C,0,none⟩))->t[5]?=some (.int .i64 i)->t[6]?=some (.int .i64 j)->t[11]?=some (.int .i64 n)->t[12]?=some (er)->Code.wp xt zuj (bodyPost xt Tryz.f9 post) ⟨t,[]⟩ G) (J:∀a w,Code.wp xt zuj (bodyPost xt Tryz.f9 post) a w->Kx a w) {t:Array Value} (ht:t.size=128) (O:t[2]?=some (.pointer (some ⟨y,0,none⟩))) (P:t[3]?=some (.pointer (some ⟨C,0,none⟩))) (T:t[5]?=some (.int .i64 i)) (U:t[6]?=some (.int .i64 j)) :
 Code.wp xt (sq1 zuz) (Exit.then Kx (bodyPost xt Tryz.f9 post)) ⟨t,[]⟩ W:=by
 have F:xt.follows .mixedOrders=true:=dM
 have ae:(i:Int)<3:=a9
 have af:(j:Int)<3:=a9
 have L:=enters_of func11 dM rfl;have E:=tn W _ H;have M:=tn W _ hz;have hF:∀x:Wm,Keep (λk=>(k=b\/k=m0)\/W.heap.size<=k) W.drew x.1->x.1.cell? ⟨y,i,none⟩=some (.pointer (some ⟨b,0,none⟩))/\x.1.cell? ⟨y,j,none⟩=some (.pointer (some ⟨c,0,none⟩))/\x.1.cell? ⟨C,4,none⟩=some vi:=λx hk=>
  ⟨hk.cell_some (p:=⟨y,i,none⟩) H (by show ¬((y=b\/y=m0)\/W.heap.size<=y);simp only at E;omega),hk.cell_some (p:=⟨y,j,none⟩) hy (by show ¬((y=b\/y=m0)\/W.heap.size<=y);simp only at E;omega),hk.cell_some (p:=⟨C,4,none⟩) hz (by show ¬((C=b\/C=m0)\/W.heap.size<=C);simp only at M;omega)⟩
 have HF:=qL hF;have HP:=qL hP;have HQ:=qL K;have HR:=qL hR;clear hP K H hy hz hF hR E M hn;have V:=qL J;clear J;obtain⟨u,rfl⟩:=zs8 ht;replace O:u 2=_:=wB O;replace P:u 3=_:=wB P;replace T:u 5=_:=wB T;replace U:u 6=_:=wB U;rw[O,P,T,U];clear O P T U ht;obtain⟨Q,K⟩:=xm (bodyPost xt Tryz.f9 post);rw[<-K];simp only[zuz,sq1,sq2,cT,xN,Tryz.f9];subst K;refine zvo (Sw:=λk=>(k=b\/k=m0)\/W.heap.size<=k) (mkD 74 none false) 128 (HX W R #[] #[] 0) F dM rfl HX.start ?_;repeat (refine ztp ?_ rfl rfl (λa m hk o=>?_) ?_;rotate_left;(obtain⟨q0,q1,q2⟩:=HF.o m hk;simp[Pl.Rds,zA,Pl.lk,Op.operands,Call.operands,RdEq]at o;(first|replace o:=exM o|replace o:=And.intro o.1 (exM o.2)|skip);go_simp;with_reducible rfl);simp only[Y1,yb])
 refine zt0 _ zt6 rfl (zue (S:=λk=>k=b\/k=m0) (v:=.tuple #[.int .i64 n,er]) rfl rfl rfl (λa x o=>by simp[Pl.Rds,zA,Pl.lk,Op.operands,Call.operands,RdEq]at o;simp[o]) L HP.o HR.o λk h=>⟨.inl h,by rcases h with h|h<;>rw[h]<;>assumption⟩) ?_;simp only[Y1,yb];repeat (refine ztp ?_ rfl rfl (λa m hk o=>?_) ?_;rotate_left;(obtain⟨q0,q1,q2⟩:=HF.o m hk;simp[Pl.Rds,zA,Pl.lk,Op.operands,Call.operands,RdEq]at o;(first|replace o:=exM o|replace o:=And.intro o.1 (exM o.2)|skip);go_simp;with_reducible rfl);simp only[Y1,yb])
 intro m H hk;simp only[Pl.finG,Y1,yb,and_imp,WQ];simp only[Act.put,ww,wR,wS];intro h0;refine⟨trivial,λad=>?_⟩;refine V.o _ _ ?_;obtain⟨N,I,Y,X,ag,ab,Z⟩:=H.post h0;have ac:Keep (λk=>W.heap.size<=k/\(k<N.heap.size\/I.heap.size<=k)) I m.1:=ab.mono λk _ e=>by rw[e.2];exact⟨(H.var e.1).1,Z e.1⟩
 exact HQ.o _ _ _ Y X ac _ rfl rfl rfl rfl rfl rfl rfl
def do7{W:World}{w L i j b c n:Nat}{vi:Value}{k0:Int}{R:World->World->Prop}{post:Ending->World->Prop}(hi:i<3)(hj:j<3)
 (I:W.cell? ⟨w,3+i,none⟩=some (.pointer (some ⟨b,0,none⟩))) (hy:W.cell? ⟨w,3+j,none⟩=some (.pointer (some ⟨c,0,none⟩))) (hz:W.cell? ⟨L,4,none⟩=some vi) (hb:b<W.heap.size) (hn:w≠b/\L≠b)
 (hC:Calls xt 21 #[vi] W λe w'=>e=.returned (.tuple #[.int .i64 0,.int .i64 k0])/\Below W.heap.size W w')
 (hP:∀G,Below W.heap.size W G->Calls xt 27 #[.pointer (some ⟨b,0,none⟩),.pointer (some ⟨c,0,none⟩),vi] G λe w'=>e=.returned (.int .i64 n)/\R G w') (hR:∀A B,R A B->Keep (λk=>k=b) A B)
 (O:∀w5 M G,Below W.heap.size W w5->R w5 M->Keep (λk=>W.heap.size<=k/\(k<w5.heap.size\/M.heap.size<=k)) M G->post (.returned (.bool true)) G) {t:Array Value} (ht:t.size=128) (h2:t[2]?=some (.pointer (some ⟨w,0,none⟩))) (h3:t[3]?=some (.pointer (some ⟨L,0,none⟩))) (h5:t[5]?=some (.int .i64 i)) (h6:t[6]?=some (.int .i64 j)) (C:t[11]?=some (.int .i64 n)) (E:t[12]?=some (.nilIface)) :
 Code.wp xt zuj (bodyPost xt Tryz.f9 post) ⟨t,[]⟩ W:=by
 have K:xt.follows .mixedOrders=true:=dM
 have ae:(i:Int)<3:=a9
 have af:(j:Int)<3:=a9
 have U:=enters_of func27 dM rfl;have J:=tn W _ I;have Z:=tn W _ hz;have hF:∀y,Below W.heap.size W y->∀x:Wm,Keep (λk=>k=b\/y.heap.size<=k) y.drew x.1->x.1.cell? ⟨w,3+i,none⟩=some (.pointer (some ⟨b,0,none⟩))/\x.1.cell? ⟨w,3+j,none⟩=some (.pointer (some ⟨c,0,none⟩))/\x.1.cell? ⟨L,4,none⟩=some vi:=λy h1 x hk=>by have hs:=h1.size;exact⟨hk.cell_some (p:=⟨w,3+i,none⟩) (bc1 h1.drew I) (by show ¬(w=b\/y.heap.size<=w);simp only at J;omega),hk.cell_some (p:=⟨w,3+j,none⟩) (bc1 h1.drew hy) (by show ¬(w=b\/y.heap.size<=w);simp only at J;omega),hk.cell_some (p:=⟨L,4,none⟩) (bc1 h1.drew hz) (by show ¬(L=b\/y.heap.size<=L);simp only at Z;omega)⟩
 have ab:=qL hF;have HP:=qL hP;have HQ:=qL O;have HR:=qL hR;have HC:=qL hC;clear hP O I hy hF hR J Z hn hC;obtain⟨u,rfl⟩:=zs8 ht;replace h2:u 2=_:=wB h2;replace h3:u 3=_:=wB h3;replace h5:u 5=_:=wB h5;replace h6:u 6=_:=wB h6;replace C:u 11=_:=wB C;replace E:u 12=_:=wB E;rw[h2,h3,h5,h6,C,E];clear h2 h3 h5 h6 C E ht;obtain⟨Q,O⟩:=xm (bodyPost xt Tryz.f9 post);rw[<-O];simp only[zuj,zuz,sq1,sq2,cT,xN,Tryz.f9];subst O
 go_wp2_with (go_at_call 21;refine HC.o.mono ?_;rintro e y ⟨rfl,F⟩)
 rename_i Kx hKx;have HF:=qL (ab.o y F);have H:=F.size;refine zvo (Sw:=λk=>k=b\/y.heap.size<=k) (mkD 125 none false) 128 (HX y R #[] #[] 0) K dM rfl HX.start ?_;repeat (first|(refine ztp ?_ rfl rfl (λa m hk o=>?_) ?_;rotate_left;obtain⟨q0,q1,q2⟩:=HF.o m hk;(simp[Pl.Rds,zA,Pl.lk,Op.operands,Call.operands,RdEq]at o;(first|replace o:=exM o|replace o:=And.intro o.1 (exM o.2)|skip);go_simp;with_reducible rfl);simp only[Y1,yb])|(refine zvI ?_ rfl rfl (ztS rfl rfl) (λa m hk o=>?_) ?_;rotate_left;obtain⟨q0,q1,q2⟩:=HF.o m hk;(simp[Pl.Rds,zA,Pl.lk,Op.operands,Call.operands,RdEq]at o;(first|replace o:=exM o|replace o:=And.intro o.1 (exM o.2)|skip);go_simp;with_reducible rfl);simp only[Y1,yb]))
 refine zws _ zt6 rfl (ztS rfl rfl) (zue (S:=λk=>k=b) (v:=.int .i64 n) rfl rfl rfl (λa x o=>by simp[Pl.Rds,zA,Pl.lk,Op.operands,Call.operands,RdEq]at o;simp[o]) U (λG ac=>HP.o G (F.trans (ac.mono H))) HR.o λk h=>⟨.inl h,by rw[h];omega⟩) ?_;simp only[Y1,yb];repeat (first|(refine ztp ?_ rfl rfl (λa m hk o=>?_) ?_;rotate_left;obtain⟨q0,q1,q2⟩:=HF.o m hk;(simp[Pl.Rds,zA,Pl.lk,Op.operands,Call.operands,RdEq]at o;(first|replace o:=exM o|replace o:=And.intro o.1 (exM o.2)|skip);go_simp;with_reducible rfl);simp only[Y1,yb])|(refine zvI ?_ rfl rfl (ztS rfl rfl) (λa m hk o=>?_) ?_;rotate_left;obtain⟨q0,q1,q2⟩:=HF.o m hk;(simp[Pl.Rds,zA,Pl.lk,Op.operands,Call.operands,RdEq]at o;(first|replace o:=exM o|replace o:=And.intro o.1 (exM o.2)|skip);go_simp;with_reducible rfl);simp only[Y1,yb]))
 intro m I hk;simp only[Pl.finG,Y1,yb,and_imp,WQ];simp only[Act.put,ww,wR,wS];intro h0;refine⟨trivial,λad=>?_⟩;refine hKx _ _ ?_;obtain⟨w5,M,T,P,ag,X,V⟩:=I.post h0;have Y:Keep (λk=>W.heap.size<=k/\(k<w5.heap.size\/M.heap.size<=k)) M m.1:=X.mono λk _ e=>by rw[e.2];exact⟨VS H (I.var e.1).1,V e.1⟩
 have N:=qL (HQ.o _ _ _ (F.trans (T.mono H)) P Y);clear I X V Y T P HP HR HQ
 go_wp2_with fail
 exact N.o
def do8{W:World}{P:Nat}{O:Value}{e0 k0:Int}{s2:ByteArray}{post:Ending->World->Prop}(h0:e0≠0)(hs:s2.size<=1000)
 (hz:W.cell? ⟨P,4,none⟩=some O)
 (K:Calls xt 21 #[O] W λe C=>e=.returned (.tuple #[.int .i64 e0,.int .i64 k0])/\Below W.heap.size W C)
 (L:∀j,Below W.heap.size W j->Calls xt 24 #[.iface 141 (.agg #[.string sRp,.iface 123 (.agg #[.int .i64 e0,.int .i64 k0])])] j λe C=>e=.returned (.int .i64 e0)/\Below j.heap.size j C)
 (J:∀j,Below W.heap.size W j->Calls xt 25 #[.iface 141 (.agg #[.string sRp,.iface 123 (.agg #[.int .i64 e0,.int .i64 k0])])] j λe C=>e=.returned (.int .i64 k0)/\Below j.heap.size j C)
 (N:∀j,Below W.heap.size W j->Calls xt 250 #[.agg #[.string sRp,.iface 123 (.agg #[.int .i64 e0,.int .i64 k0])]] j λe C=>e=.returned (.string (⟨#[114,101,112,108,105,99,97,58,32]⟩++s2))/\Below j.heap.size j C)
 (M:∀j,Below W.heap.size W j->Calls xt 26 #[.int .i64 e0] j λe C=>e=.returned (.string s2)/\Below j.heap.size j C)
 (G:∀j,Below W.heap.size W j->post (.returned (.bool true)) j) {t:Array Value} (ht:t.size=128) (I:t[3]?=some (.pointer (some ⟨P,0,none⟩))) (A:t[11]?=some (.int .i64 0)) (B:t[12]?=some (.iface 141 (.agg #[.string sRp,.iface 123 (.agg #[.int .i64 e0,.int .i64 k0])]))) :
 Code.wp xt zuj (bodyPost xt Tryz.f9 post) ⟨t,[]⟩ W:=by
 have Y:=qL G;have T:=qL K;have U:=qL L;have S:=qL J;have X:=qL N;have V:=qL M;have Z:¬9223372036854775807<9+s2.size:=a9
 have H:=enters_of func250 dM rfl;clear G K L J N M;obtain⟨u,rfl⟩:=zs8 ht;replace I:u 3=_:=wB I;replace A:u 11=_:=wB A;replace B:u 12=_:=wB B;rw[I,A,B];clear I A B ht;obtain⟨Q,G⟩:=xm (bodyPost xt Tryz.f9 post);rw[<-G];simp only[zuj,zuz,sq1,sq2,cT,xN,Tryz.f9];subst G
 go_wp2_with (first
  |(go_at_call 21;refine T.o.mono ?_;rintro e w1 ⟨rfl,E⟩)
  |(go_at_call 24;refine(U.o _ E).mono ?_;rintro e w2 ⟨rfl,o⟩;replace o:=E.trans (o.mono E.size))
  |(go_at_call 25;refine(S.o _ o).mono ?_;rintro e w3 ⟨rfl,w⟩;replace w:=o.trans (w.mono o.size)))
 refine zvx zn8 H rfl rfl rfl rfl ?_;refine(X.o _ w).mono ?_;rintro e w4 ⟨rfl,y⟩;refine⟨_,rfl,?_⟩;replace y:=w.trans (y.mono w.size)
 go_wp2_with (go_at_call 26;refine(V.o _ y).mono ?_;rintro e w5 ⟨rfl,F⟩;replace F:=y.trans (F.mono y.size))
 exact Y.o _ F
def Keep.step{S:Nat->Prop}{W w y A:World}(j:Below W.heap.size W w)(o:Keep S w y)(u:Keep (λk=>W.heap.size<=k/\(k<w.heap.size\/y.heap.size<=k)) y A):Keep S W A:=by have B:=j.size;have C:=o.size;exact⟨u.os.trans (o.os.trans j.os),u.tape.trans (o.tape.trans j.tape),u.output.trans (o.output.trans j.output),VS B (VS C u.size),λk hk hs=>(u.block k a9 (λe=>a9)).trans ((o.block k a9 hs).trans (j.block k hk))⟩
def Play.lt{D:xT}{t:Nat}{w:World}{B M F:Nat->Nat}{S:Nat->Rs}(h:Play D t w B M F S){i:Nat}(hi:i<3):B i<w.heap.size/\M i<w.heap.size/\F i<w.heap.size:=by obtain⟨_,_,j,o,_⟩:=h.a i hi;exact⟨(XE.1 j).1,o.lt,(h.f i hi).lt⟩
def Play.upd{D D':xT}{t J i:Nat}{w I:World}{B M F:Nat->Nat}{S:Nat->Rs}{s:Rs}(h:Play D t w B M F S)(hi:i<3)(ht:t<=J)(hk:Keep (λk=>k=B i\/k=M i\/k=F i) w I)(K:∀b o,D b o->D' b o)(C:∀b o,D' b o->D b o\/w.heap.size<=b)(L:Rpl D' J I (B i) (M i) s)(hF:Rpf D' I (F i) s):Play D' J I B M F (ztC S i s):=by
 refine⟨λj A=>?_,λj A=>?_,h.bb,h.mm,h.ff,h.bm,h.bf,h.mf,λj A o=>?_⟩
 .unfold ztC;split
  .rename_i e;rw[e];exact L
  .rename_i e;exact((h.a j A).keep hk (by rintro(u|u|u);exact e (h.bb _ _ A hi u);exact h.bm _ _ A hi u;exact h.bf _ _ A hi u) (by rintro(u|u|u);exact h.bm _ _ hi A u.symm;exact e (h.mm _ _ A hi u);exact h.mf _ _ A hi u) λb o y=>⟨K b o y,by
    obtain⟨E,G,H⟩:=h.nd i hi o;rintro(rfl|rfl|rfl)
    .exact E y
    .exact G y
    .exact H y⟩).mono ht
 .unfold ztC;split
  .rename_i e;rw[e];exact hF
  .rename_i e;exact(h.f j A).keep hk (by rintro(u|u|u);exact h.bf _ _ hi A u.symm;exact h.mf _ _ hi A u.symm;exact e (h.ff _ _ A hi u)) λb o y=>⟨K b o y,by
    obtain⟨E,G,H⟩:=h.nd i hi o;rintro(rfl|rfl|rfl)
    .exact E y
    .exact G y
    .exact H y⟩
 .obtain⟨E,G,H⟩:=h.nd j A o;obtain⟨N,O,P⟩:=h.lt A;exact⟨λy=>(C _ _ y).elim E a9,λy=>(C _ _ y).elim G a9,λy=>(C _ _ y).elim H a9⟩
def Play.same{D D':xT}{t H:Nat}{w E:World}{B M F:Nat->Nat}{S:Nat->Rs}(h:Play D t w B M F S)(ht:t<=H)(hk:Below w.heap.size w E)(G:∀b o,D b o->D' b o)(y:∀b o,D' b o->D b o\/w.heap.size<=b):Play D' H E B M F S:=by have C:Keep qe w E:=Keep.of_below' hk (Zp _);refine⟨λj A=>((h.a j A).keep C id id λb o u=>⟨G b o u,id⟩).mono ht,λj A=>(h.f j A).keep C id λb o u=>⟨G b o u,id⟩,h.bb,h.mm,h.ff,h.bm,h.bf,h.mf,λj A o=>?_⟩;obtain⟨I,J,K⟩:=h.nd j A o;obtain⟨L,N,O⟩:=h.lt A;exact⟨λu=>(y _ _ u).elim I a9,λu=>(y _ _ u).elim J a9,λu=>(y _ _ u).elim K a9⟩
def zux{D:xT}{w:World}{v x y:Value}(h:Dat D w v (.tup [.v x,.v y])):v=.tuple #[x,y]:=by
 cases h with
 | tup vs cs hs h=>
   have d0:=(h 0 _ rfl).v_inv;have j:=(h 1 _ rfl).v_inv;obtain⟨l⟩:=vs;match l,hs with
   |[p,q],_=>simp at d0 j;rw[d0,j]
def opv(o:Opn)(ia:Option Addr)(j:Nat):Array Value:=#[.int .i64 o.who,.int .i64 o.from_,.int .u64 o.item,.string o.val,.slice ia o.items.length j]
def zsN(B F:Nat->Nat){i:Nat}(hi:i<3):(plv B F)[i]?=some (.pointer (some ⟨B i,0,none⟩))/\(plv B F)[3+i]?=some (.pointer (some ⟨F i,0,none⟩)):=by
 match i,hi with
 |0,_=>exact⟨rfl,rfl⟩
 |1,_=>exact⟨rfl,rfl⟩
 |2,_=>exact⟨rfl,rfl⟩
def zwH{C:Qk}{R E I:List Nat}{n t:Nat}{D:xT}{w:World}{B M F:Nat->Nat}{S:Nat->Rs}{o:Opn}{ia:Option Addr}{ic:Nat}(e:Env25 C R E I)(ab:OkS C R E I n S)(hn:n<=25)(ht:t<800000)(N:Play D t w B M F S)(hG:Gd D w)(ho:OpE E I o)(d:Dat D w (.slice ia o.items.length ic) (rg o.items)):
 Calls xt 9 #[.agg (plv B F),.agg (opv o ia ic)] w λe w'=>e=.returned (.bool true)/\Keep (λk=>k=B (zsV o.who)\/k=M (zsV o.who)\/k=F (zsV o.who)) w w'/\Play (Nw D w w') (t+25) w' B M F (zsY S o):=by
 obtain⟨w1,ac⟩:=xm ((w.alloc (.cells (plv B F) 30)).alloc (.cells (opv o ia ic) 38));have aF:Below w.heap.size w w1:=by rw[ac];exact((tq _ w).alloc (Zp _) _).alloc b7 _
 have aS:w1.heap.size=w.heap.size+2:=by rw[ac];simp
 have aO:w1.heap[w.heap.size]?=some (.cells (plv B F) 30 (0,0)):=by rw[ac];exact To _ _ _
 have am:w1.heap[w.heap.size+1]?=some (.cells (opv o ia ic) 38 (0,0)):=by rw[ac];exact Ty _ _ _
 have y0:w1.cell? ⟨w.heap.size+1,0,none⟩=some (.int .i64 o.who):=(zW am 0 _ rfl).1;have y1:w1.cell? ⟨w.heap.size+1,1,none⟩=some (.int .i64 o.from_):=(zW am 1 _ rfl).1;have y4:w1.cell? ⟨w.heap.size+1,4,none⟩=some (.slice ia o.items.length ic):=(zW am 4 _ rfl).1;have aN:(o.who%18446744073709551616)%3=((zsV o.who:Nat):Int):=by unfold zsV;omega
 have aJ:(o.from_%18446744073709551616)%3=((zsV o.from_:Nat):Int):=by unfold zsV;omega
 have HX:=qL aO;have HY:=qL am;have aC:=qL aF;have aE:=qL aN;have aD:=qL aJ;clear aO am aF aN aJ;dsimp only[plv,opv]at ac⊢;go_enter func9,ntmps9
 go_wp2_with fail
 rw[<-ac];clear ac;go_region;rw[aE.o,aD.o];obtain⟨i,af⟩:=xm (zsV o.who);obtain⟨j,aA⟩:=xm (zsV o.from_);have hi:i<3:=by rw[af];exact zs5 _
 have hj:j<3:=by rw[aA];exact zs5 _
 rw[<-af,<-aA];have hW:Below w.heap.size w w1.drew:=aC.o.drew;obtain⟨W,ai⟩:=xm (w1.drew);rw[<-ai]at hW⊢;have bg:W.heap.size=w.heap.size+2:=by rw[ai];exact aS
 have aP:W.heap[w.heap.size]?=some (.cells (plv B F) 30 (0,0)):=by rw[ai];exact HX.o
 have aB:W.heap[w.heap.size+1]?=some (.cells (opv o ia ic) 38 (0,0)):=by rw[ai];exact HY.o
 obtain⟨b1,b2,b3⟩:=N.lt hi;obtain⟨c1,c2,c3⟩:=N.lt hj;obtain⟨n1,n2,n3⟩:(∀o,¬D (B i) o)/\(∀o,¬D (M i) o)/\∀o,¬D (F i) o:=⟨λo=>(N.nd i hi o).1,λo=>(N.nd i hi o).2.1,λo=>(N.nd i hi o).2.2⟩;have aI:=N.bm i i hi hi;have aH:=N.bf i i hi hi;have aL:=N.mf i i hi hi;have aG:∀A,Below W.heap.size W A->(∀k,k<3->Rpl D t A (B k) (M k) (S k)/\Rpf D A (F k) (S k))/\Gd D A/\Dat D A (.slice ia o.items.length ic) (rg o.items):=λA G=>by have hk:Keep qe w A:=(Keep.of_below' hW (Zp _)).trans (Keep.of_below' G (Zp _));exact⟨λk ag=>⟨(N.a k ag).keep hk id id λb o h=>⟨h,id⟩,(N.f k ag).keep hk id λb o h=>⟨h,id⟩⟩,hG.keep hk λ_ _ _=>id,d.mono (λ_ _ h=>h) λb o x hd hx=>hk.cell_some hx id⟩
 have y4:W.cell? ⟨w.heap.size+1,4,none⟩=some (.slice ia o.items.length ic):=(zW aB 4 _ rfl).1;have HK:=qL (And.intro N (And.intro hG (And.intro d (And.intro ab (And.intro ho e)))));have O:=qL aG;have ae:=qL aP;have ao:=qL aB;have ad:=qL hW;clear y0 y1 N hG d ab ho e aG aP aB hW ai HX HY aC aE aD;by_cases h0:o.items.length=0
 .go_wp2_with fail
  rename_i Kx hKx;have an:=qL hKx;clear hKx;obtain⟨N,hG,d,ab,ho,e⟩:=HK.o;have ak:zsY S o=ztC S i (ztM (S i) o.item o.val):=(by rw[af];exact vj h0);have hs:Ok25 C R E I n (S i):=ab i hi;refine do3 (x:=ztL (S i) o.item o.val) (R:=λA L=>Keep (λk=>k=B i\/k=M i) A L/\Rpl (Nw D A L) (t+1) L (B i) (M i) (ztM (S i) o.item o.val)) hi (zW ae.o i _ (zsN B F hi).1).1 (zW ao.o 2 _ rfl).1 (zW ao.o 3 _ rfl).1 a9 a9 a9 (λA G=>(zvG e hs hn ho.2.2.2.1 ((O.o A G).1 i hi).1 (O.o A G).2.1 n1 n2 aI a9).mono (by rintro e w' ⟨rfl,h1,h2⟩;exact⟨rfl,h1,h2⟩)) (λA L h=>h.1) ?_ an.o rfl rfl rfl rfl;intro w5 w6 P g Y T U be hg t ht h2 h3 h5 h7 h8;have H:Keep (λk=>k=B i\/k=M i) W P:=Keep.step Y T.1 U;have aT:=H.size;have y:∀A,Below P.heap.size P A->Rpf D A (F i) (S i)/\Gd D A:=λA G=>by have hk:Keep (λk=>k=B i\/k=M i) w A:=((Keep.of_below' ad.o (Zp _)).trans H).trans (Keep.of_below' G (Zp _));have hd:∀b o,D b o->¬(b=B i\/b=M i):=λb o h e=>e.elim (λe=>n1 o (e▸h)) λe=>n2 o (e▸h);exact⟨(N.f i hi).keep hk a9 λb o h=>⟨h,hd b o h⟩,hG.keep hk hd⟩
  refine do4 (x:=ztL (S i) o.item o.val) (R:=λA L=>Keep (λk=>k=F i) A L/\Rpf (Nw D A L) L (F i) (ztM (S i) o.item o.val)) hi hg a9 (H.cell_some (zW ae.o (3+i) _ (zsN B F hi).2).1 (by show ¬(w.heap.size=B i\/w.heap.size=M i);omega)) (H.cell_some (zW ao.o 2 _ rfl).1 (by show ¬(w.heap.size+1=B i\/w.heap.size+1=M i);omega)) (H.cell_some (zW ao.o 3 _ rfl).1 (by show ¬(w.heap.size+1=B i\/w.heap.size+1=M i);omega)) a9 a9 a9 (λA G=>(zuS e hs hn ho.2.2.2.1 (y A G).1 (y A G).2 n3).mono (by rintro e w' ⟨rfl,h1,h2⟩;exact⟨rfl,h1,h2⟩)) (λA L h=>h.1) ?_ ht h2 h3 h5 h7 h8;intro aZ ba Q V J K;have Z:Keep (λk=>k=F i) P Q:=Keep.step V J.1 K;have X:Keep (λk=>k=B i\/k=M i\/k=F i) w Q:=((Keep.of_below' ad.o (Zp _)).trans (H.mono λk _ h=>h.elim .inl λh=>.inr (.inl h))).trans (Z.mono λk _ h=>.inr (.inr h));have s5:=Y.size;have s6:=T.1.size;have s7:=U.size;have aW:=V.size;have aX:=J.1.size;have aY:=K.size;have s8:=Z.size;have aj:∀b o,D b o->b<w.heap.size:=hG.2;refine⟨rfl,af▸X,?_⟩;rw[ak];refine N.upd hi a9 X (λb o h=>.inl h) (λb o h=>h.imp id UO) ?_ ?_
  .refine((T.2.keep (D':=Nw D w5 w6) U a9 a9 λb o h=>⟨h,λe=>?_⟩).keep (D':=Nw D w Q) Z aH aL λb o h=>⟨?_,λe=>?_⟩).mono a9
   .rcases h with h|h
    .have:=aj b o h;omega
    .omega
   .exact h.imp id λh=>⟨a9,a9⟩
   .rcases h with h|h
    .exact n3 o (e▸h)
    .omega
  .refine J.2.keep K a9 λb o h=>⟨h.imp id λh=>⟨a9,a9⟩,λe=>?_⟩;rcases h with h|h
   .have:=aj b o h;omega
   .omega
 .have bc:¬((o.items.length:Int)=0):=a9
  go_wp2_with fail
  rename_i Kx hKx;have an:=qL hKx;clear hKx;obtain⟨N,hG,d,ab,ho,e⟩:=HK.o;have hs:Ok25 C R E I n (S i):=ab i hi;have hf:Ok25 C R E I n (S j):=ab j hj;have aj:∀b o,D b o->b<w.heap.size:=hG.2;have aK:o.items.length<=10:=ho.2.2.1;have au:∀A,Gd D A->Dat D A (.slice ia o.items.length ic) (rg o.items)->Calls xt 21 #[.slice ia o.items.length ic] A λe w'=>e=.returned (.tuple #[.int .i64 (Zl o.items).1,.int .i64 (Zl o.items).2])/\Below A.heap.size A w':=λA G dA=>by
   refine(jP (XO o.items a9 ho.1) G.1 G.2 rfl λk p hp=>?_).mono ?_
   .match k,hp with
    |0,hp=>cases hp;exact dA
    |k+1,hp=>simp at hp
   .rintro e w' ⟨u,rfl,hb,hd⟩;rw[zux hd];exact⟨rfl,hb⟩
  have aQ:=(zW ae.o i _ (zsN B F hi).1).1;have aR:=(zW ae.o j _ (zsN B F hj).1).1;have aU:=(zW ae.o (3+i) _ (zsN B F hi).2).1;have aV:=(zW ae.o (3+j) _ (zsN B F hj).2).1;have ay:∀b o,D b o->¬(b=B i\/b=M i):=λb o h e=>e.elim (λe=>n1 o (e▸h)) λe=>n2 o (e▸h);by_cases hc:(Zl o.items).1=0
  .obtain⟨aM,hE⟩:=ho.ed hc;have ak:zsY S o=ztC S i (ztt (S i) (S j) o.items):=(by unfold zsY;rw[vD h0,vj hc,af,aA]);refine do6 (n:=(zs0 (S j) (S i).known o.items).length) (er:=.nilIface) (R:=λA L=>Keep (λk=>k=B i\/k=M i) A L/\Rpl (Nw D A L) (t+25) L (B i) (M i) (ztt (S i) (S j) o.items)) hi hj aQ aR y4 a9 a9 a9 (λA G=>(zuP e hs hf a9 ((O.o A G).1 i hi).1 ((O.o A G).1 j hj).1 (O.o A G).2.1 n1 n2 aI a9 aM hE aK (O.o A G).2.2).mono (by rintro e w' ⟨rfl,h1,h2⟩;exact⟨rfl,h1,h2⟩)) (λA L h=>h.1) ?_ an.o rfl rfl rfl rfl rfl;intro w5 w6 P Y T U t ht h2 h3 h5 h6 av aw;have H:Keep (λk=>k=B i\/k=M i) W P:=Keep.step Y T.1 U;have aT:=H.size;have y:∀A,Below P.heap.size P A->(∀k,k<3->Rpf D A (F k) (S k))/\Gd D A/\Dat D A (.slice ia o.items.length ic) (rg o.items):=λA G=>(by have hk:Keep (λk=>k=B i\/k=M i) w A:=((Keep.of_below' ad.o (Zp _)).trans H).trans (Keep.of_below' G (Zp _));exact⟨λk ag=>(N.f k ag).keep hk (by rintro(e|e);exact N.bf _ _ hi ag e.symm;exact N.mf _ _ hi ag e.symm) λb o h=>⟨h,ay b o h⟩,hG.keep hk ay,d.mono (λ_ _ h=>h) λb o x hd hx=>hk.cell_some hx (ay b o hd)⟩)
   have ar:=au P (y P (tq _ _)).2.1 (y P (tq _ _)).2.2;rw[hc]at ar;have ax:∀k,k=w.heap.size\/k=w.heap.size+1->¬(k=B i\/k=M i):=λk hk=>a9;refine do7 (k0:=(Zl o.items).2) (R:=λA L=>Keep (λk=>k=F i) A L/\Rpf (Nw D A L) L (F i) (ztt (S i) (S j) o.items)) hi hj (H.cell_some aU (ax _ (.inl rfl))) (H.cell_some aV (ax _ (.inl rfl))) (H.cell_some y4 (ax _ (.inr rfl))) a9 a9 ar (λA G=>(zuo e hs hf a9 ((y A G).1 i hi) ((y A G).1 j hj) (λe=>by rw[N.ff _ _ hj hi e]) (y A G).2.1 n3 aM hE aK (y A G).2.2).mono (by rintro e w' ⟨rfl,h1,h2⟩;exact⟨rfl,h1,h2⟩)) (λA L h=>h.1) ?_ ht h2 h3 h5 h6 av aw;intro aZ ba Q V J K;have Z:Keep (λk=>k=F i) P Q:=Keep.step V J.1 K;have X:Keep (λk=>k=B i\/k=M i\/k=F i) w Q:=((Keep.of_below' ad.o (Zp _)).trans (H.mono λk _ h=>h.elim .inl λh=>.inr (.inl h))).trans (Z.mono λk _ h=>.inr (.inr h));have s5:=Y.size;have s6:=T.1.size;have s7:=U.size;have aW:=V.size;have aX:=J.1.size;have aY:=K.size;have s8:=Z.size;refine⟨rfl,af▸X,?_⟩;rw[ak];refine N.upd hi a9 X (λb o h=>.inl h) (λb o h=>h.imp id UO) ?_ ?_
   .refine(T.2.keep (D':=Nw D w5 w6) U a9 a9 λb o h=>⟨h,λe=>?_⟩).keep (D':=Nw D w Q) Z aH aL λb o h=>⟨?_,λe=>?_⟩
    .rcases h with h|h
     .have:=aj b o h;omega
     .omega
    .exact h.imp id λh=>⟨a9,a9⟩
    .rcases h with h|h
     .exact n3 o (e▸h)
     .omega
   .refine J.2.keep K a9 λb o h=>⟨h.imp id λh=>⟨a9,a9⟩,λe=>?_⟩;rcases h with h|h
    .have:=aj b o h;omega
    .omega
  .have ak:zsY S o=S:=(by unfold zsY;rw[vD h0,vD hc]);have ah:=zth o.items none 0 hc;replace ah:(Zl o.items).1=2\/(Zl o.items).1=3:=ah;refine do6 (m0:=M i) (n:=0) (er:=erV (Zl o.items)) (R:=λA L=>Below A.heap.size A L) hi hj aQ aR y4 a9 a9 a9 (λA G=>(zuO e hs ((O.o A G).1 i hi).1 (O.o A G).2.1 ho.1 hc a9 (O.o A G).2.2).mono (by rintro e w' ⟨rfl,h1⟩;exact⟨rfl,h1⟩)) (λA L h=>Keep.of_below' h (Zp _)) ?_ an.o rfl rfl rfl rfl rfl;intro w5 w6 P Y T U t ht h2 h3 h5 h6 av aw;have H:Keep qe W P:=Keep.step Y (Keep.of_below' T (Zp _)) U;have y:∀A,Below P.heap.size P A->Gd D A/\Dat D A (.slice ia o.items.length ic) (rg o.items):=λA G=>(by have hk:Keep qe w A:=((Keep.of_below' ad.o (Zp _)).trans H).trans (Keep.of_below' G (Zp _));exact⟨hG.keep hk λ_ _ _=>id,d.mono (λ_ _ h=>h) λb o x hd hx=>hk.cell_some hx id⟩);have ar:=au P (y P (tq _ _)).1 (y P (tq _ _)).2;have az:∀A,Dat D A (.agg #[.string sRp,.iface 123 (.agg #[.int .i64 (Zl o.items).1,.int .i64 (Zl o.items).2])]) (.agg [.v (.string sRp),jS (Zl o.items).1 (Zl o.items).2]):=λA=>(by rw[zmb hc];exact znT (.v _) (.ifc _ _ _ (znT (.v _) (.v _) rfl rfl)) rfl rfl);have aq:∀{u:Value}{p:PV}{A:World},Dat D A u p->∀(k:Nat) q,[p][k]?=some q->Dat D A (#[u].getD k undef) q:=λh k q hq=>by
    match k,hq with
    |0,hq=>cases hq;exact h
    |k+1,hq=>simp at hq
   refine do8 (e0:=((Zl o.items).1:Int)) (k0:=(Zl o.items).2) (s2:=zn4 (Zl o.items).1) (by rcases ah with h|h<;>rw[h]<;>decide) (by rw[zoJ];omega) (H.cell_some y4 id) ar (λA G=>zsI (zpW sRp (Zl o.items) hc) (y A G).1 rfl (aq (.ifc _ _ _ (az A)))) (λA G=>zsI (zrc sRp (Zl o.items) hc) (y A G).1 rfl (aq (.ifc _ _ _ (az A)))) (λA G=>?_) (λA G=>zsI (zoT (Zl o.items).1 (by rcases ah with h|h<;>rw[h]<;>decide)) (y A G).1 rfl (aq (.v _))) ?_ ht h3 av aw
   .have:=zsI (zom sRp (Zl o.items) b9 hc (by rcases ah with h|h<;>rw[h]<;>decide)) (y A G).1 rfl (aq (az A));rw[show sRp++zoq=(⟨#[114,101,112,108,105,99,97,58,32]⟩:ByteArray) from by kernel_rfl]at this;exact this
   .intro Q hb;have X:Keep qe w Q:=((Keep.of_below' ad.o (Zp _)).trans H).trans (Keep.of_below' hb (Zp _));refine⟨rfl,X.mono λ_ _ h=>h.elim,?_⟩;rw[ak];exact N.same a9 (X.below (Zp _) λ_ _ h=>h) (λb o h=>.inl h) (λb o h=>h.imp id UO)
def Ke.sz{C:Qk}{R E I:List Nat}{k:List Fg}(h:Ke C R E k)(e:Env25 C R E I):k.length<=1000000/\∀f∈k,f.items.length<=1000000/\f.vec.length<=1000000/\∀y∈f.vec,y.holes.length<=1000000:=by
 have w:=h.l;have A:=h.m;have B:=e.e;refine⟨a9,λf j=>⟨by have:=yv j;omega,?_,λy o=>by have:=(h.s f j).2.2 y o;omega⟩⟩;have hi:=h.ik f j;have u:=Ji (f.vec.map En.rep) R (uz.2 hi.right.2) λy o=>by obtain⟨z,hz,rfl⟩:=wy.1 o;exact hi.rep z hz
 have:=e.ok.2;rw[wt]at u;omega
def zuv{l:List Rc}(h:∀x∈l,x.item<zk):(l.filter λx=>mem [⟨0,18446744073709551615⟩] x.item)=l:=List.filter_eq_self.2 λx j=>by have:=h x j;rw[zw]at this;simp[mem];omega
def Play.sub{D j:xT}{t y:Nat}{w:World}{B M F:Nat->Nat}{S:Nat->Rs}(h:Play D t w B M F S)(ht:t<=y)(u:∀b o,D b o->j b o)(nd:∀i,i<3->∀o,¬j (B i) o/\¬j (M i) o/\¬j (F i) o):Play j y w B M F S:=
 ⟨λi hi=>((h.a i hi).keep (S:=qe) (Keep.refl _ _) id id λb o h=>⟨u b o h,id⟩).mono ht,λi hi=>(h.f i hi).keep (S:=qe) (Keep.refl _ _) id λb o h=>⟨u b o h,id⟩,h.bb,h.mm,h.ff,h.bm,h.bf,h.mf,nd⟩
def PB(B M F:Nat->Nat)(k:Nat):Prop:=∃i,i<3/\(k=B i\/k=M i\/k=F i)
structure PlI(C:Qk)(R E I:List Nat)(D:xT)(w2:World)(B M F:Nat->Nat)(j:Nat)(S:Nat->Rs)(wr:World):Prop where
 p:Play (Nw D w2 wr) (25*j) wr B M F S
 ok:OkS C R E I j S
 k:Keep (PB B M F) w2 wr
def PlI.step{C:Qk}{R E I:List Nat}{D:xT}{u wr:World}{B M F:Nat->Nat}{j:Nat}{S:Nat->Rs}{o:Opn}{ia:Option Addr}{P:Nat}(h:PlI C R E I D u B M F j S wr)(e:Env25 C R E I)(hj:j<25)(ho:OpE E I o)(Q:Gd D u)(L:∀i,i<3->B i<u.heap.size/\M i<u.heap.size/\F i<u.heap.size)(A:∀i,i<3->∀o,¬D (B i) o/\¬D (M i) o/\¬D (F i) o)(d:Dat D u (.slice ia o.items.length P) (rg o.items))(obj:Obj):
 Calls xt 9 #[.agg (plv B F),.agg (opv o ia P)] (wr.alloc obj) λe O=>e=.returned (.bool true)/\PlI C R E I D u B M F (j+1) (zsY S o) O:=by
 have y:Keep (PB B M F) u (wr.alloc obj):=h.k.alloc _;have G:∀b o,D b o->¬PB B M F b:=λb o H hb=>by
  obtain⟨i,hi,rfl|rfl|rfl⟩:=hb
  .exact(A i hi o).1 H
  .exact(A i hi o).2.1 H
  .exact(A i hi o).2.2 H
 have J:Gd (Nw D u (wr.alloc obj)) (wr.alloc obj):=Gd.new (w:=u) (Q.keep y G) y.size;have N:Play (Nw D u (wr.alloc obj)) (25*j) (wr.alloc obj) B M F S:=h.p.same (Zp _) ((tq _ _).alloc (Zp _) _) (λb o h=>h.imp id λh=>⟨h.1,b6⟩) λb o h=>by
  rcases h with h|h
  .exact .inl (.inl h)
  .by_cases hb:b<wr.heap.size
   .exact .inl (.inr ⟨h.1,hb⟩)
   .exact .inr a9
 refine(zwH e h.ok a9 a9 N J ho (d.mono (λ_ _ h=>.inl h) λb o x H U=>y.cell_some U (G b o H))).mono ?_;rintro Z O ⟨rfl,hk,T⟩;have K:Keep (PB B M F) u O:=y.trans (hk.mono λk _ e=>⟨_,zs5 _,e⟩);have s1:=y.size;have s2:=hk.size;refine⟨rfl,T.sub a9 (λb o h=>?_) λi hi o=>?_,h.ok.step e ho a9,K⟩
 .rcases h with(h|h)|h
  .exact .inl h
  .exact .inr ⟨h.1,a9⟩
  .exact .inr ⟨a9,h.2⟩
 .obtain⟨V,X,Y⟩:=A i hi o;obtain⟨l1,l2,l3⟩:=L i hi;exact⟨λh=>h.elim V a9,λh=>h.elim X a9,λh=>h.elim Y a9⟩
def PlI.gd{C:Qk}{R E I:List Nat}{D:xT}{y wr:World}{B M F:Nat->Nat}{j:Nat}{S:Nat->Rs}(h:PlI C R E I D y B M F j S wr)(G:Gd D y)(u:∀i,i<3->∀o,¬D (B i) o/\¬D (M i) o/\¬D (F i) o):Gd (Nw D y wr) wr:=
 Gd.new (w:=y) (G.keep h.k λb o A hb=>by
  obtain⟨i,hi,rfl|rfl|rfl⟩:=hb
  .exact(u i hi o).1 A
  .exact(u i hi o).2.1 A
  .exact(u i hi o).2.2 A) h.k.size
def DT(w:World)(v:Value)(l:List Rc):Prop:=∃a c,v=.slice a l.length c/\Dat (λ_ _=>True) w v (lp l)
def DT.of{D:xT}{w:World}{v:Value}{l:List Rc}(h:Dat D w v (lp l)):DT w v l:=by obtain⟨a,c,rfl,_⟩:=zsZ h;exact⟨a,c,rfl,h.mono (λ_ _ _=>trivial) λ_ _ _ _ h=>h⟩
def zud{D:xT}{A:World}{v:Value}{p:PV}(h:Dat D A v p):∀(k:Nat) q,[p][k]?=some q->Dat D A (#[v].getD k undef) q:=λk q j=>by
 match k,j with
 |0,j=>cases j;exact h
 |k+1,j=>simp at j
def zxb{D:xT}{w:World}{u:Value}{p:PV}{i r c:Nat}(h:Dat D w u p):∀(j:Nat) q,[p,.v (.int .u64 (i:Nat)),.v (.int .u64 (r:Nat)),.v (.int .u64 (c:Nat))][j]?=some q->Dat D w (#[u,.int .u64 (i:Nat),.int .u64 (r:Nat),.int .u64 (c:Nat)].getD j undef) q:=λj q o=>by
 match j,o with
 |0,o=>cases o;exact h
 |1,o=>cases o;exact .v _
 |2,o=>cases o;exact .v _
 |3,o=>cases o;exact .v _
 |j+4,o=>simp at o
def zxd(a b c:Option Addr)(w:World):(Instr.index 26 (.agg #[.pointer a,.pointer b,.pointer c]) (.int .i64 0)).run xt w=.ok (.pointer a) w:=dM
def zxe(a b c:Option Addr)(w:World):(Instr.index 26 (.agg #[.pointer a,.pointer b,.pointer c]) (.int .i64 1)).run xt w=.ok (.pointer b) w:=dM
def zxf(a b c:Option Addr)(w:World):(Instr.index 26 (.agg #[.pointer a,.pointer b,.pointer c]) (.int .i64 2)).run xt w=.ok (.pointer c) w:=dM
def zxg{B:Nat->Nat}:∀{j:Nat}(o:j<3)(w:World),(Instr.index 26 (.agg #[.pointer (some ⟨B 0,0,none⟩),.pointer (some ⟨B 1,0,none⟩),.pointer (some ⟨B 2,0,none⟩)]) (.int .i64 (j:Nat))).run xt w=.ok (.pointer (some ⟨B j,0,none⟩)) w
 |0,_,w=>zxd _ _ _ w
 |1,_,w=>zxe _ _ _ w
 |2,_,w=>zxf _ _ _ w
def zv3{C:Qk}{R E I:List Nat}{n t:Nat}{D:xT}{w:World}{B M F:Nat->Nat}{S:Nat->Rs}(e:Env25 C R E I)(ok:OkS C R E I n S)(hn:n<=26)(pi:PyI S)(hP:Play D t w B M F S)(hG:Gd D w){i J r0 K:Nat}(hi:i<3)(Q:J<zk)(O:K<zk):
 ∃(k:List Fg) (L:List Rc) (H:Bool) (y:Option Rc),L.length<=1000000/\(H=true->∃z,y=some z/\leR K r0 z)/\∀W,Below w.heap.size w W ->
  (Calls xt 10 #[.pointer (some ⟨B i,0,none⟩)] W λe j=>Below W.heap.size W j/\∃u,e=.returned u/\SlK D w k u j) /\
  (∀u,SlK D w k u W->(Calls xt 16 #[u] W λe j=>e=.returned (.bool true)/\Below W.heap.size W j) /\
    (∀z∈L,Calls xt 18 #[u,.int .u64 (z.item:Nat),.int .u64 (z.rep:Nat),.int .u64 (z.ctr:Nat)] W λe j=>e=.returned (.bool true)/\Below W.heap.size W j) /\
    (Calls xt 18 #[u,.int .u64 (J:Nat),.int .u64 (r0:Nat),.int .u64 (K:Nat)] W λe j=>e=.returned (.bool H)/\Below W.heap.size W j)) /\
  (∀g,w.heap.size<=g->W.heap[g]?=some (.cells #[.int .u64 0,.int .u64 18446744073709551615] 64 (0,0))->Calls xt 17 #[.pointer (some ⟨B i,0,none⟩),.slice (some ⟨g,0,none⟩) 1 1] W λe j=>Below W.heap.size W j/\∃u,e=.returned u/\DT j u L) /\
  Calls xt 19 #[.pointer (some ⟨B i,0,none⟩),.int .u64 (J:Nat)] W λe j=>e=.returned (.tuple #[rcv (y.getD zRc),.bool y.isSome])/\Below W.heap.size W j:=by
 have hs:Ok25 C R E I n (S i):=ok i hi;have T:=hs.k.zz e;have ab:=hs.len e;refine⟨(S i).known,(S i).recs,hasK (S i).known J r0 K,zrZ (S i).recs J,a9,λh=>pi.i2 i hi J r0 K Q O h,λW X=>?_⟩;have hk:Keep qe w W:=Keep.of_below' X (Zp _);have U:Rpl D t W (B i) (M i) (S i):=(hP.a i hi).keep hk id id λb o h=>⟨h,id⟩;have N:Gd D W:=hG.keep hk λ_ _ _=>id;have A:Gd (Nw D w W) W:=Gd.new (w:=w) N X.size;refine⟨?_,λu hu=>?_,λg Z H=>?_,zwk U Q⟩
 .refine(zte (n:=0) U N hs.k.can (hs.k.sz e).1 (hs.k.sz e).2).mono ?_;rintro e j ⟨v,rfl,hb,G⟩;obtain⟨a,c,rfl⟩:=zsM G;exact⟨hb,_,rfl,a,c,rfl,G.mono (λb o h=>h.imp id λh=>⟨VS X.size h.1,h.2⟩) λ_ _ _ _ h=>h⟩
 .obtain⟨a,c,rfl,G⟩:=hu;refine⟨zsI (zn0 (S i).known hs.k.kn hs.k.can e.ok (by have:=e.e;omega)) A rfl (zud G),λz hz=>?_,zsI (zoW (S i).known J r0 K hs.k.r O T) A rfl (zxb G)⟩;have Y:=zsI (zoW (S i).known z.item z.rep z.ctr hs.k.r (ztn e hn hs hz).2 T) A rfl (zxb G);rw[pi.i1 i hi z hz]at Y;exact Y
 .have P:=(XE.1 H).1;have V:Rpl (Nw D w W) t W (B i) (M i) (S i):=U.keep (S:=qe) (Keep.refl _ _) id id λb o h=>⟨.inl h,id⟩;refine(zum (ia:=some ⟨g,0,none⟩) (ic:=1) (items:=[⟨0,18446744073709551615⟩]) e hs V A (λs hs=>?_) b7 (zt9 H ⟨.inr ⟨Z,P⟩,.inr ⟨Z,P⟩⟩)).mono ?_
  .simp only[wD]at hs;subst hs;rw[zw];exact⟨b9,b9⟩
  .rw[zuv λx H=>(e.m _ (hs.x x H).1).1];rintro e j ⟨a,c,rfl,hb,G⟩;exact⟨hb,_,rfl,.of G⟩
def zwq{D:xT}{U:World}{l:List Opn}{ia:Option Addr}{ic i0 r0 c0:Nat}(br:Gd D U)(bA:Dat D U (.slice ia l.length ic) (opp l))(hb:∀o∈l,BdO o)(hl:l.length<=9223372036854775807)(aH:i0<zk)(bR:c0<zk):
 Calls xt 4 #[.slice ia l.length ic,.agg #[.int .u64 (i0:Nat),.int .u64 (r0:Nat),.int .u64 (c0:Nat)]] U λe w'=>e=.returned (.bool true)/\Below U.heap.size U w':=by
 obtain⟨w,hw⟩:=xm (U.alloc (.cells #[.int .u64 (i0:Nat),.int .u64 (r0:Nat),.int .u64 (c0:Nat)] 60));have aN:Below U.heap.size U w:=by rw[hw];exact(tq _ _).alloc (Zp _) _
 have ci:w.heap.size=U.heap.size+1:=by rw[hw];exact tu _ _
 have bt:w.heap[U.heap.size]?=some (.cells #[.int .u64 (i0:Nat),.int .u64 (r0:Nat),.int .u64 (c0:Nat)] 60 (0,0)):=by rw[hw];exact tl _ _
 have am:Keep qe U w:=Keep.of_below' aN (Zp _);have hG:Gd D w:=br.keep am λ_ _ _=>id;have hd:Dat D w (.slice ia l.length ic) (opp l):=bA.mono (λ_ _ h=>h) λb o x hd E=>am.cell_some E id;have aZ:=qL aN;have bl:=qL bt;clear br bA am aN bt;have ac:∀W,Below w.heap.size w W->Gd D W/\Dat D W (.slice ia l.length ic) (opp l):=λW G=>by have hk:Keep qe w W:=Keep.of_below' G (Zp _);exact⟨hG.keep hk λ_ _ _=>id,hd.mono (λ_ _ h=>h) λb o x hd E=>hk.cell_some E id⟩
 have ak:=λW (G:Below w.heap.size w W)=>zwj (ac W G).2 hl λo ho=>⟨(hb o ho).2.2.1,(hb o ho).2.2.2.2⟩;have aP:=λW (G:Below w.heap.size w W)=>zu5 (ac W G).1;have aW:=qL aP;obtain⟨a,c,ev,hc,ad⟩:=ztV hd;obtain⟨rfl,rfl⟩:ia=a/\ic=c:=dL ev
 have aQ:=hG.2;by_cases hf:ztR l=true
 ·rw [hf] at ak;obtain⟨e,J⟩:=zu9 hf hb;have bF:=(ztG hf).1;obtain⟨n,hn⟩:=xm (l.length);have ai:=qL ak;have HC:=qL ad;have HE:=qL (And.intro e (And.intro J hG));have au:=qL aQ;have HN:=qL hn;rw[<-hn]at ai hc hl bF⊢;clear ak ad aP ac e J hG hd hb ev aQ hn hf;go_enter func4,ntmps4
  go_wp2_with (go_at_call 5;rw[<-hw];refine(zt2 w).mono ?_;rintro e V ⟨B,M,F,rfl,H,aT,ay⟩;dsimp only[plv])
  clear hw;obtain⟨wp,ae⟩:=xm (V.alloc (.cells (plv B F) 30));have aD:Below w.heap.size w wp:=(by rw[ae];exact H.alloc H.size _);have bK:wp.heap[V.heap.size]?=some (.cells (plv B F) 30 (0,0)):=(by rw[ae];exact tl _ _);have bD:Keep qe V wp:=(by rw[ae];exact(Keep.refl _ _).alloc _);have cj:wp.heap.size=V.heap.size+1:=(by rw[ae];exact tu _ _);dsimp only[plv]at ae;rw[<-ae];clear ae
  go_wp2_with (go_at_call 6;refine(ai.o wp aD).mono ?_;rintro e X ⟨rfl,A⟩)
  have aw:Below w.heap.size w X:=aD.trans (A.mono aD.size);have bI:=(A.block _ a9).trans bK;have aA:∀i,i<3->∀o,¬D (B i) o/\¬D (M i) o/\¬D (F i) o:=λi hi o=>(by obtain⟨g1,g2,g3⟩:=ay i hi;exact⟨λh=>by have:=au.o _ _ h;omega,λh=>by have:=au.o _ _ h;omega,λh=>by have:=au.o _ _ h;omega⟩);have T:∀i,i<3->B i<V.heap.size/\M i<V.heap.size/\F i<V.heap.size:=λi hi=>aT.lt hi;have s2:=A.size;have bG:Play D 0 X B M F S0:=(aT.same (D':=λ_ _=>False) (Zp _) ((bD.below (Zp _) λ_ _ h=>h).trans (A.mono a9)) (λ_ _ h=>h) λ_ _ h=>h.elim).sub (Zp _) (λ_ _ h=>h.elim) aA;obtain⟨e,J,bp⟩:=HE.o;have aO:Gd D X:=bp.keep (S:=qe) (Keep.of_below' aw (Zp _)) λ_ _ _=>id;have aH:PlI (λ_=>List.range 27) [0,10,20] (edO l) (l.map Opn.item) D X B M F 0 S0 X:=⟨bG.sub (Zp _) (λ_ _ h=>.inl h) λi hi o=>by
   obtain⟨n1,n2,n3⟩:=aA i hi o;exact⟨λh=>h.elim n1 a9,λh=>h.elim n2 a9,λh=>h.elim n3 a9⟩,zwf λi hi=>b6,Keep.refl _ _⟩
  have aJ:∀k,PB B M F k->w.heap.size<=k/\k<V.heap.size:=λk hk=>by
   obtain⟨i,hi,rfl|rfl|rfl⟩:=hk
   .exact⟨(ay i hi).1,(T i hi).1⟩
   .exact⟨(ay i hi).2.1,(T i hi).2.1⟩
   .exact⟨(ay i hi).2.2,(T i hi).2.2⟩
  have aL:∀i,i<3->B i<X.heap.size/\M i<X.heap.size/\F i<X.heap.size:=λi hi=>(by obtain⟨l1,l2,l3⟩:=T i hi;exact⟨a9,a9,a9⟩);have bL:∀W,Keep (PB B M F) X W->W.heap[V.heap.size]?=some (.cells (plv B F) 30 (0,0)):=λW hk=>hk.obj bI λh=>(by have:=aJ _ h;omega);have bH:∀W,Keep (PB B M F) X W->Below w.heap.size w W/\∀b o x,b<w.heap.size->w.cell? ⟨b,o,none⟩=some x->W.cell? ⟨b,o,none⟩=some x:=λW hk=>⟨aw.trans (hk.below aw.size λq hq h=>by have:=aJ _ h;omega),λb o x hd E=>hk.cell_some (p:=⟨b,o,none⟩) (bc0 aw E) λh=>by
   have:=aJ _ h;simp only at this;omega⟩
  have bj:=qL (fun(j:Nat) (S:Nat->Rs) (wr:World) (o:Opn) (ib:Option Addr) (jc:Nat) (h:PlI (λ_=>List.range 27) [0,10,20] (edO l) (l.map Opn.item) D X B M F j S wr) (hj:j<25) (ho:o∈l) (d:Dat D w (.slice ib o.items.length jc) (rg o.items)) (obj:Obj)=>h.step e hj (J o ho) aO aL aA (d.mono (λ_ _ h=>h) λb o x hd E=>bc0 aw E) obj);have bh:=qL (fun(j:Nat) (S:Nat->Rs) (o:Opn) (pi:PyI S) (ok:OkS (λ_=>List.range 27) [0,10,20] (edO l) (l.map Opn.item) j S) (hj:j<25) (ho:o∈l)=>pi.step e a9 ok (J o ho));have ba:=qL (fun(S:Nat->Rs) (wr:World) (h:PlI (λ_=>List.range 27) [0,10,20] (edO l) (l.map Opn.item) D X B M F n S wr)=>And.intro e (h.gd aO aA));have be:=qL aH;have bn:=qL bL;have Z:=qL bH;clear aH bL bH aJ T aL aO bp J e bG aT bI aA ay bD bK aD H A HE ai
  go_wp2_with fail
  go_loopg [28] n (λg x wr=>∃j,j<=n/\g=n-j/\x=.int .i64 j/\∃S,PlI (λ_=>List.range 27) [0,10,20] (edO l) (l.map Opn.item) D X B M F j S wr/\PyI S)
  case atStart=>exact⟨0,X4 _,rfl,rfl,S0,be.o,PyI.zero⟩
  case round=>
   obtain⟨j,hj,rfl,rfl,S,C,aK⟩:=hrel;have ch:=C.k.size;have E:=bn.o wr C.k;have z0:wr.cell? ⟨V.heap.size,0,none⟩=some (.pointer (some ⟨B 0,0,none⟩)):=(zW E 0 _ rfl).1;have z1:wr.cell? ⟨V.heap.size,1,none⟩=some (.pointer (some ⟨B 1,0,none⟩)):=(zW E 1 _ rfl).1;have z2:wr.cell? ⟨V.heap.size,2,none⟩=some (.pointer (some ⟨B 2,0,none⟩)):=(zW E 2 _ rfl).1;have z3:wr.cell? ⟨V.heap.size,3,none⟩=some (.pointer (some ⟨F 0,0,none⟩)):=(zW E 3 _ rfl).1;have z4:wr.cell? ⟨V.heap.size,4,none⟩=some (.pointer (some ⟨F 1,0,none⟩)):=(zW E 4 _ rfl).1;have z5:wr.cell? ⟨V.heap.size,5,none⟩=some (.pointer (some ⟨F 2,0,none⟩)):=(zW E 5 _ rfl).1;have bY:=(XE.1 E).1;by_cases an:j<n
   .have bC:j<l.length:=(by rw[<-HN.o];exact an);obtain⟨o,ho⟩:=xm (l[j]);have bw:=HC.o j bC;rw[<-ho]at bw;obtain⟨g,ao,ib,jc,rfl,bB,q0,q1,q2,q3,q4,dI⟩:=bw;have az:=au.o g ao bB;have hk:=C.k;have c0:wr.cell? ⟨g,ao+j*5,none⟩=some (.int .i64 o.who):=(Z.o wr hk).2 _ _ _ az q0;have c1:wr.cell? ⟨g,ao+j*5+1,none⟩=some (.int .i64 o.from_):=(by rw[Wy];exact(Z.o wr hk).2 _ _ _ az q1);have c2:wr.cell? ⟨g,ao+j*5+2,none⟩=some (.int .u64 o.item):=(by rw[Wy];exact(Z.o wr hk).2 _ _ _ az q2);have c3:wr.cell? ⟨g,ao+j*5+3,none⟩=some (.string o.val):=(by rw[Wy];exact(Z.o wr hk).2 _ _ _ az q3);have c4:wr.cell? ⟨g,ao+j*5+4,none⟩=some (.slice ib o.items.length jc):=(by rw[Wy];exact(Z.o wr hk).2 _ _ _ az q4);have aS:o∈l:=(by rw[ho];exact Yf bC);have bN:=qL (bj.o j S wr o ib jc C a9 aS dI (.cells #[.int .i64 o.who,.int .i64 o.from_,.int .u64 o.item,.string o.val,.slice ib o.items.length jc] 38));have bO:=qL (bh.o j S o aK C.ok a9 aS);clear C aK hk E q0 q1 q2 q3 q4 dI bB ho aS
    go_wp2_with (go_at_call 9;refine bN.o.mono ?_;rintro e w5 ⟨rfl,bT⟩)
    go_roundg (n-(j+1));case measure=>omega
    case rel=>exact⟨j+1,an,rfl,rfl,_,bT,bO.o⟩
   .obtain rfl:j=n:=a9;obtain⟨e,bq⟩:=ba.o S wr C;have G:=(Z.o wr C.k).1;have am:∀i,i<3->_:=λi hi=>zv3 (r0:=r0) e C.ok a9 aK C.p bq hi aH bR;have bP:=qL am;have HW:=qL G;have bJ:∀W,Below wr.heap.size wr W->W.heap[U.heap.size]?=some (.cells #[.int .u64 (i0:Nat),.int .u64 (r0:Nat),.int .u64 (c0:Nat)] 60 (0,0)):=λW hb=>((G.trans (hb.mono G.size)).block _ a9).trans bl.o;have bQ:=qL bJ;obtain⟨wv,bW⟩:∃wv,wv=wr:=⟨wr,rfl⟩;subst bW;clear C aK e bq am bJ G E bj bh ba be bn bl Z HC au HN
    go_wp2_with fail
    go_loopg [39] 3 (λg x wr=>∃j,j<=3/\g=3-j/\x=.int .i64 j/\Below wv.heap.size wv wr)
    case atStart=>exact⟨0,X4 _,rfl,rfl,tq _ _⟩
    case round=>
     obtain⟨j,hj,rfl,rfl,aE⟩:=hrel;clear z0 z1 z2 z3 z4 z5;by_cases an:j<3
     .obtain⟨k,L,hh,y,hL,hy,ac⟩:=bP.o j an;have ag:=qL ac;have ah:=qL aE;have HY:=qL hy;have HL:=qL hL;clear ac aE hy hL;obtain⟨ln,aR⟩:=xm (L.length);have bg:=qL aR;have ce:ln<=1000000:=(by rw[aR];exact HL.o);have cb:=λW=>zxg (B:=B) an W;have bX:(j:Int)<3:=a9;clear aR
      go_wp2_with (first
       |(go_at_call 10;refine(ag.o _ ah.o).1.mono ?_;rintro e w5 ⟨bu,u,rfl,hu⟩;have aq:=qL (ah.o.trans (bu.mono ah.o.size));have HU:=qL hu;clear bu hu)
       |(go_at_call 16;refine((ag.o _ aq.o).2.1 _ HU.o).1.mono ?_;rintro e w6 ⟨rfl,aj⟩;have ar:=qL aj;clear aj)
       | (go_at_call 17
          have aC:Below wv.heap.size wv w6:=aq.o.trans (ar.o.mono aq.o.size);refine((ag.o _ (aC.alloc aC.size _)).2.2.1 _ aC.size (tl _ _)).mono ?_;rintro e w7 ⟨I,u7,rfl,aG⟩;have K:Below w5.heap.size w5 w7:=(ar.o.alloc ar.o.size _).trans (I.mono (ar.o.alloc ar.o.size _).size);have aX:=qL K;obtain⟨a7,c7,rfl,aG⟩:=aG;obtain⟨a8,c8,ev,bE,cg,aB⟩:=zsZ aG;obtain⟨rfl,rfl⟩:a7=a8/\c7=c8:=(dL ev);have bi:=qL aB;rw[<-bg.o]at bE⊢;clear aC I K aG aB ev))
      obtain⟨wo,bU⟩:∃wo,wo=wr:=⟨wr,rfl⟩;subst bU;go_loopg [52] ln (λg x wr=>∃i,i<=ln/\g=ln-i/\x=.int .i64 i/\Below w7.heap.size w7 wr);case atStart=>exact⟨0,X4 _,rfl,rfl,tq _ _⟩
      case round=>
       obtain⟨i,hi,rfl,rfl,O⟩:=hrel;have ab:Below w5.heap.size w5 wr:=aX.o.trans (O.mono aX.o.size);have af:=qL O;have bZ:=qL ab;have aU:∀W,Below wr.heap.size wr W->SlK (Nw D X wv) wv k u W/\Below wv.heap.size wv W:=λW G=>⟨SlK.stab _ _ _ HU.o (Keep.of_below' (ab.trans (G.mono ab.size)) (Zp _)),aq.o.trans ((ab.trans (G.mono ab.size)).mono aq.o.size)⟩;have Y:=qL aU;by_cases aM:i<ln
       .have aI:i<L.length:=(by rw[<-bg.o];exact aM);obtain⟨g7,o7,rfl,bz⟩:=bi.o (λe=>by rw[e]at aI;simp at aI);have hc:∀q u,(rcs L[i])[q]?=some u->wr.cell? ⟨g7,o7+i*4+q,none⟩=some u:=λq u hu=>(by have bS:q<4:=(by have:=(Zw.1 hu).1;simpa[rcs]using this);rw[Wy];exact bc0 O (bz (i*4+q) u (by rw[zsD aI bS];exact hu)).2);obtain⟨z,hz⟩:=xm (L[i]);have bM:z∈L:=(by rw[hz];exact Yf aI);rw[<-hz]at hc;have p0:wr.cell? ⟨g7,o7+i*4,none⟩=some (.int .u64 z.item):=hc 0 _ rfl;have p1:wr.cell? ⟨g7,o7+i*4+1,none⟩=some (.int .u64 z.rep):=hc 1 _ rfl;have p2:wr.cell? ⟨g7,o7+i*4+2,none⟩=some (.int .u64 z.ctr):=hc 2 _ rfl;have p3:wr.cell? ⟨g7,o7+i*4+3,none⟩=some (.string z.val):=hc 3 _ rfl;have Q:=λW G=>((ag.o W (Y.o W G).2).2.1 _ (Y.o W G).1).2.1 z bM;have av:=qL Q;clear hc bz hz O ab aU Q bM
        go_wp2_with (go_at_call 18;refine(av.o _ ((tq _ _).alloc (Zp _) _)).mono ?_;rintro e w8 ⟨rfl,I⟩;have N:=qL ((af.o.alloc af.o.size _).trans (I.mono (af.o.alloc af.o.size _).size));clear I)
        go_roundg (ln-(i+1));case measure=>omega
        case rel=>exact⟨i+1,aM,rfl,rfl,N.o⟩
       .obtain rfl:i=ln:=a9;have E:=bQ.o wr (Y.o wr (tq _ _)).2;have x0:wr.cell? ⟨U.heap.size,0,none⟩=some (.int .u64 (i0:Nat)):=(zW E 0 _ rfl).1;have x1:wr.cell? ⟨U.heap.size,1,none⟩=some (.int .u64 (r0:Nat)):=(zW E 1 _ rfl).1;have x2:wr.cell? ⟨U.heap.size,2,none⟩=some (.int .u64 (c0:Nat)):=(zW E 2 _ rfl).1;have P:=λW G=>(ag.o W (Y.o W G).2).2.2.2;have Q:=λW G=>((ag.o W (Y.o W G).2).2.1 _ (Y.o W G).1).2.2;obtain⟨r,hr⟩:=xm (y.getD zRc);obtain⟨b,hb⟩:=xm (y.isSome);have ax:hh=false\/(hh=true/\b=true/\leR c0 r0 r):=by
         by_cases h:hh=true
         .obtain⟨z,hz,hl⟩:=HY.o h;rw[hz]at hr hb;exact .inr ⟨h,hb,by rw[hr];exact hl⟩
         .exact .inl (dL h)
        rw[<-hr,<-hb]at P;dsimp only[rcv]at P;clear hr hb E aU ab O;obtain⟨ri,rr,rx,rv⟩:=r;have aF:hh=false\/(hh=true/\b=true/\c0<rx)\/(hh=true/\b=true/\rx=c0/\r0<=rr):=by
         rcases ax with h|⟨h1,h2,h|h⟩
         .exact .inl h
         .exact .inr (.inl ⟨h1,h2,h⟩)
         .exact .inr (.inr ⟨h1,h2,h.1.symm,h.2⟩)
        clear ax;dsimp only at P;rcases aF with rfl|⟨rfl,rfl,cc⟩|⟨rfl,rfl,rfl,cf⟩;all_goals
         have bc:=qL P;have av:=qL Q;clear P Q
         go_wp2_with (go_at_call 19;refine(bc.o _ (tq _ _)).mono ?_;rintro e w8 ⟨rfl,I⟩
                      have x5:∀o q v,q<3->wr.cell? ⟨U.heap.size,q,none⟩=some v->(w8.alloc o).cell? ⟨U.heap.size,q,none⟩=some v:=λo q v _ h=>bc0 (I.alloc I.size o) h;have y0:=λo=>x5 o 0 _ b9 x0;have y1:=λo=>x5 o 1 _ b9 x1;have y2:=λo=>x5 o 2 _ b9 x2;have N:=qL I;clear x5 x0 x1 x2 I)
         refine(av.o _ (N.o.alloc N.o.size _)).mono ?_;rintro e w9 ⟨rfl,K⟩;have aV:=(K.block w8.heap.size b7).trans (tl w8 _);have r1:=(zW aV 1 _ rfl).1;have r2:=(zW aV 2 _ rfl).1;have x0:=bc0 K (y0 _);have x1:=bc0 K (y1 _);have x2:=bc0 K (y2 _);have aY:=qL ((Y.o _ ((N.o.alloc N.o.size _).trans (K.mono (N.o.alloc N.o.size _).size))).2);clear K aV y0 y1 y2
         go_wp2_with fail
         go_roundg (3-(j+1));case measure=>omega
         case rel=>exact⟨j+1,an,rfl,rfl,aY.o⟩
     .obtain rfl:j=3:=a9;have ah:=qL aE;clear aE
      go_wp2_with (go_at_call 8;refine(aW.o _ (HW.o.trans (ah.o.mono HW.o.size))).mono ?_;rintro e w6 ⟨rfl,aj⟩)
      go_ret;have hz:=HW.o.trans (ah.o.mono HW.o.size);exact⟨rfl,aZ.o.trans ((hz.trans (aj.mono hz.size)).mono a9)⟩
 .rw[W5]at hf;rw[hf]at ak;have ai:=qL ak;obtain⟨n,hn⟩:=xm (l.length);rw[<-hn]at ai hc⊢;clear ak ad aP ac hG hd hb ev aQ hn hf hl;go_enter func4,ntmps4
  go_wp2_with (first
   |(go_at_call 5;rw[<-hw];refine(zt2 w).mono ?_;rintro e V ⟨B,M,F,rfl,H,_,_⟩;dsimp only[plv])
   |(go_at_call 6;refine(ai.o _ (H.alloc H.size _)).mono ?_;rintro e X ⟨rfl,A⟩;replace A:=(H.alloc H.size _).trans (A.mono (H.alloc H.size _).size))
   |(go_at_call 8;refine(aW.o X A).mono ?_;rintro e w6 ⟨rfl,aj⟩))
  go_ret;exact⟨rfl,aZ.o.trans ((A.trans (aj.mono A.size)).mono a9)⟩
def zwX{D:xT}{w:World}{v:Value}{x:Nat×Nat×Nat}(h:Dat D w v (xp x)):v=.agg #[.int .u64 (x.1:Nat),.int .u64 (x.2.1:Nat),.int .u64 (x.2.2:Nat)]:=by
 unfold xp at h;cases h with
 | agg vs cs hs h1 h=>
   obtain⟨q⟩:=vs;match q,hs with
   |[a,b,c],_=>have j:a=_:=(h 0 _ rfl).v_inv;have e1:b=_:=(h 1 _ rfl).v_inv;have e2:c=_:=(h 2 _ rfl).v_inv;rw[j,e1,e2]
def zwp(l:List Opn)(x:Nat×Nat×Nat)(hb:(∀o∈l,BdO o)/\l.length<=9223372036854775807)(E:BdX x):Cn xt 4 [opp l,xp x] (.v (.bool true)):=by
 refine⟨enters_of func4 dM rfl,λD w F H B A C=>?_⟩;have u:=C 0 _ rfl;have G:=C 1 _ rfl;obtain⟨a,c,ev,_⟩:=ztV u;rw[ev]at u;have j:=zwX G;rw[show F=#[.slice a l.length c,.agg #[.int .u64 (x.1:Nat),.int .u64 (x.2.1:Nat),.int .u64 (x.2.2:Nat)]] from by
  rw[<-ev,<-j];obtain⟨q⟩:=F;match q,A with|[x,y],_=>rfl]
 refine(zwq ⟨H,B⟩ u hb.1 hb.2 E.1 E.2.2).mono ?_;rintro e I ⟨rfl,hb⟩;exact⟨_,D,rfl,hb,λ_ _ h=>h,λ_ _ h=>.inl h,λb o h=>vw (B b o h) hb.size,.v _,trivial⟩
end
section
open Go.ChangeShapes Go.WideShapes
def own:ownKnob xt.godebug=none:=dM
def Xc:laidOutB xt=true:=dM
def et:xt.globalNamed "errors.errorType" = some 1:=dM
def rt:(xt.cutTypes.find? (·.1 == "internal/reflectlite.rtype")).map (·.2)=some 194 :=dM
def ziq:((List.range 332).filter λt=>xt.rowNamed t [101,114,114,111,114])=[44]:=dM
def tsize:xt.types.size=332:=dM
def zab{H:Type}:List (String×DataW H):=[("errors.errorType",Rows.laid_errors_errorType)]
def Z7{W:World}(h:laidMetH xt zab W):W.cell? ⟨1,0,none⟩=some (.iface 194 (.agg #[.pointer (some ⟨2,44,none⟩)])):=by
 have A:laidMet xt [] W/\handlesMet xt zab W:=h;obtain⟨j,u,C,e1,e2,w,e4,e5⟩:=A.2 _ (wD.2 rfl);have y:j=[101,114,114,111,114]:=(wB e1).symm;subst y;obtain rfl:=wB (rt.symm.trans e2);have o:C∈(List.range 332).filter λt=>xt.rowNamed t [101,114,114,111,114]:=Wq.2 ⟨WO.2 (by rw[<-tsize];exact w),e4⟩;rw[ziq]at o;obtain rfl:=wD.1 o;have B:typeHandle xt 44 = .pointer (some ⟨2,44,none⟩):=dM
 rw[B]at e5;simpa using World.var?_cell et e5 0
def JH{W:World}(h:laidMetH xt zab W):GL (ZG W) W:=λx o=>by have j:=Z7 h;obtain rfl:_=x:=wB o;exact⟨tn W ⟨1,0,none⟩ j,j⟩
noncomputable def Yx (os:Os):World:=
 let w0:=World.holding xt os ⟨#[],#[],[]⟩
 { w0 with heap:=w0.heap.modify 1 fun
  |.cells _ t frozen=>.cells #[.iface 194 (.agg #[.pointer (some ⟨2,44,none⟩)])] t frozen
  |o=>o }
def zqw{H:Type}:List (String×DataW H):=[("errors.errorType",Rows.laid_errors_errorType),("kenning/canon.codes",Rows.laid_kenning_canon_codes)]
def zpI{W:World}(h:laidMetH xt zqw W):GL (ZG W) W:=JH (show laidMetH xt zab W from h.filter (λx=>x.1 == "errors.errorType"))
noncomputable def zpC (os:Os):World:=
 let w0:=Yx os
 { w0 with heap:=w0.heap.modify 0 fun
  |.cells _ t frozen=>.cells #[.int .i64 9,.int .i64 10,.int .i64 10,.int .i64 3] t frozen
  |o=>o }
def zpD(os:Os)(j:Array Value):laidMetH xt zqw ((zpC os).forCall (λ_ _=>0) ⟨#[],j,[]⟩).memory:=
 laidMetH_of_parts (laidMet_of_run' 20 dM dM) dM
end
end Go.Proofs.YtjdjjlkifdimkaaGreatDoor
