import Derived.Shelf.SlMaps.Clone
import Derived.Test.YtmpnbdhadjfbhaaGreatDoorB26
set_option maxHeartbeats 16000000
set_option linter.all false
set_option maxRecDepth 100000
namespace Go.Proofs.YtmpnbdhadjfbhaaGreatDoor
open Go.Proofs.Tryz
open Go.Proofs.Tryz renaming prog->xt
section
open Go.RowKit
attribute [-go_sem] z7
def k25:List Fg:=znP 5 1 0
def r25:Rc:=⟨5,1,0,⟨#[97]⟩⟩
def zsP:CanK k25:=by
 have u:(1:Nat)<zk:=by rw[zw];decide
 have o:(0:Nat)<zk:=by rw[zw];decide
 refine⟨⟨λf j=>?_,by simp[k25,znP]⟩,by simp[k25,znP,xh]⟩;simp only[k25,znP,wH]at j;subst j;exact⟨zkS u o,by simp[zl9],by simp[Nrm,NF,zw],b6⟩
def zvd{i r x:Nat}(h:hasK k25 i r x=true):i=5:=by obtain⟨f,j,o,_⟩:=(zfo zsP.right).1 h;simp only[k25,znP,wH]at j;subst j;simp[mem]at o;omega
def zve:vh zn [] k25=k25:=znD rfl zic zsP.right zsP λi r x _ _=>by rw[zcY];simp[zn]
def zuB:Env25 (λ_=>List.range 27) [1,2] [0,5,6,10] [5]:=
 ⟨⟨λr=>b6,b6⟩,λr x j=>a9,b6,b6,b6,λi hi=>by
   simp only[wH]at hi;subst hi;exact⟨by rw[zw];decide,b6,λ_=>b6⟩⟩
def a25:Rs:=⟨1,[r25],k25,1⟩
def zvF:ztM ⟨1,[],[],0⟩ 5 ⟨#[97]⟩=a25:=by show (⟨1,_,vh zn [] (znP 5 1 0),_⟩:Rs)=_;rw[show vh zn [] (znP 5 1 0)=k25 from zve];rfl
def b25:Rs:=⟨2,[],[],0⟩
def zuK(a:Nat)(j:a<=9):Nrm [⟨a,9⟩]:=qG j (by rw[zw];decide)
def zuN(a:Nat)(j:a<=9):vh zn [] (znF k25 [⟨a,9⟩])=if a<=5 then k25 else []:=by
 have o:=zsP.right;refine znD rfl zic (zn1 o (zuK a j)).right ?_ λi r x hi u=>?_
 .split
  .exact zsP
  .exact zaJ
 .rw[zof o (zuK a j) hi u,zcY];by_cases h:hasK k25 i r x=true
  .have:=zvd h;subst this;split
   .rw[h];simp[zn,mem];omega
   .rw[h,zcY];simp[zn,mem];omega
  .rw[UD]at h;rw[h];split
   .rw[h];simp[zn]
   .rw[zcY];simp[zn]
def zua:ztt b25 a25 [⟨6,9⟩]=b25/\zs0 a25 [] [⟨6,9⟩]=[]:=by refine⟨?_,rfl⟩;show (⟨2,_,vh zn [] (znF k25 [⟨6,9⟩]),0⟩:Rs)=_;rw[zuN 6 a8];rfl
def zub:ztt b25 a25 [⟨0,9⟩]=⟨2,[r25],k25,0⟩/\zs0 a25 [] [⟨0,9⟩]=[r25]:=by refine⟨?_,rfl⟩;show (⟨2,_,vh zn [] (znF k25 [⟨0,9⟩]),0⟩:Rs)=_;rw[zuN 0 a8];rfl
def zt9{D:xT}{w:World}{g lo hi:Nat}{t:TypeId}(h:w.heap[g]?=some (.cells #[.int .u64 lo,.int .u64 hi] t (0,0)))(A:D g 0/\D g 1):Dat D w (.slice (some ⟨g,0,none⟩) 1 1) (rg [⟨lo,hi⟩]):=
 .sl _ 1 2 [Q2 ⟨lo,hi⟩] .sh g 0 (λj=>#[.int .u64 lo,.int .u64 hi].getD j undef) (Zp _) (λh=>by cases h) b8 (λ_=>rfl) (λi p o=>by
  match i,o with
  |0,o=>cases o;rfl
  |i+1,o=>simp at o) (λj B=>by
  rw[wn];match j,B with
  |0,_=>exact⟨A.1,(zW h 0 _ rfl).1,rfl⟩
  |1,_=>exact⟨A.2,(zW h 1 _ rfl).1,rfl⟩) λi q j p u o=>by
  match i,u with
  |0,u=>
    cases u;match j,o with
    |0,o=>cases o;exact .v _
    |1,o=>cases o;exact .v _
  |i+1,u=>simp at u
def zt1{D:xT}{w:World}{a F b bm O H lo:Nat}(U:Ok25 (λ_=>List.range 27) [1,2] [0,5,6,10] [5] 1 a25)(V:Ok25 (λ_=>List.range 27) [1,2] [0,5,6,10] [5] 1 b25)(M:lo=0\/lo=6)(P:Gd D w)(Q:Rpl D O w a F a25)(hb:Rpl D H w b bm b25)(nd:∀o,¬D b o/\¬D bm o)(L:b≠bm)(X:a≠b/\a≠bm/\F≠b/\F≠bm)(ht:H<1000)(Y:b<w.heap.size/\bm<w.heap.size):
 Calls xt 10 #[.pointer (some ⟨b,0,none⟩),.pointer (some ⟨a,0,none⟩),.slice (some ⟨w.heap.size,0,none⟩) 1 1] (w.alloc (.cells #[.int .u64 lo,.int .u64 9] 61)) λe B=>e=.returned (.tuple #[.int .i64 (zs0 a25 [] [⟨lo,9⟩]).length,.nilIface])/\Keep (λk=>k=b\/k=bm) w B/\Gd (Nw D w B) B/\Rpl (Nw D w B) (H+25) B b bm (ztt b25 a25 [⟨lo,9⟩])/\Rpl (Nw D w B) O B a F a25:=by
 obtain⟨j,A⟩:=xm (w.alloc (.cells #[.int .u64 lo,.int .u64 9] 61));have u:Keep qe w j:=by rw[A];exact(Keep.refl _ _).alloc _
 have ab:j.heap.size=w.heap.size+1:=by rw[A];exact tx _ _
 have N:j.heap[w.heap.size]?=some (.cells #[.int .u64 lo,.int .u64 9] 61 (0,0)):=by rw[A];exact tq _ _
 rw[<-A];have I:Gd (Nw D w j) j:=Gd.new (w:=w) (P.keep u λ_ _ _=>id) a8;have G:∀o,¬Nw D w j b o/\¬Nw D w j bm o:=λo=>⟨λh=>h.elim (nd o).1 a8,λh=>h.elim (nd o).2 a8⟩;have J:Rpl (Nw D w j) O j a F a25:=Q.keep u id id λb o h=>⟨.inl h,id⟩;have K:Rpl (Nw D w j) H j b bm b25:=hb.keep u id id λb o h=>⟨.inl h,id⟩;have Z:Nrm [⟨lo,9⟩]:=zuK lo a8;refine(zuP (ic:=1) (ia:=some ⟨w.heap.size,0,none⟩) (items:=[⟨lo,9⟩]) zuB V U a8 K J I (λo=>(G o).1) (λo=>(G o).2) L a8 Z (λx hx=>?_) b6 (zt9 N ⟨.inr ⟨a8,a8⟩,.inr ⟨a8,a8⟩⟩)).mono ?_
 .rcases zhC hx with h|h
  .rcases M with e|e<;>subst e<;>subst h<;>simp
  .subst h;simp
 .rintro e B ⟨rfl,hk,hr⟩;have E:Keep (λk=>k=b\/k=bm) w B:=(u.mono λ_ _ h=>h.elim).trans hk;have ac:=hk.size;have T:∀C o,D C o->¬(C=b\/C=bm):=λC o h e=>e.elim (λe=>(nd o).1 (e▸h)) λe=>(nd o).2 (e▸h);exact⟨rfl,E,Gd.new (w:=w) (P.keep E T) a8,hr.keep (S:=qe) (Keep.refl _ _) id id λC o h=>⟨by
   rcases h with(h|h)|h
   .exact .inl h
   .exact .inr ⟨h.1,a8⟩
   .exact .inr ⟨a8,h.2⟩,id⟩,Q.keep E a8 a8 λC o h=>⟨.inl h,T C o h⟩⟩
def zu5{D:xT}{w:World}(hG:Gd D w):Calls xt 8 #[] w λe G=>e=.returned (.bool true)/\Below w.heap.size w G:=by
 have h0:Ok25 (λ_=>List.range 27) [1,2] [0,5,6,10] [5] 0 ⟨1,[],[],0⟩:=⟨Ke.nil,List.Pairwise.nil,λx hx=>by simp at hx,Zp _,by rw[zw];decide,b6⟩;have h2:Ok25 (λ_=>List.range 27) [1,2] [0,5,6,10] [5] 0 b25:=⟨Ke.nil,List.Pairwise.nil,λx hx=>by simp[b25]at hx,Zp _,by rw[b25,zw];decide,by simp[b25]⟩;have h1:=h0.put zuB (i:=5) (v:=⟨#[97]⟩) b6 b8 a8;rw[zvF]at h1;go_enter func8,ntmps8
 go_wp2_with (first
  |(go_at_call 20;refine(zuI 1 D w).mono ?_;rintro e w1 ⟨rfl,ag,aI,aq⟩)
  |(go_at_call 20;refine(zuI 2 D w1).mono ?_;rintro e u ⟨rfl,N,aM,X⟩))
 have L:Below w.heap.size w u:=ag.trans (N.mono a8);have am:Keep qe w1 u:=Keep.of_below' N (Zp _);have M:Gd D u:=hG.keep (S:=qe) (Keep.of_below' L (Zp _)) λ_ _ _=>id;have J:Rpl D 0 u (w.heap.size+1) w.heap.size ⟨1,[],[],0⟩:=aq.keep am id id λb o h=>⟨h,id⟩;have j:=hG.2;rw[aI]at X;have hp:=zvG (i:=5) (v:=⟨#[97]⟩) zuB h0 a8 (zuB.m 5 b6) J M (λo h=>by have:=j _ _ h;omega) (λo h=>by have:=j _ _ h;omega) a8 a8;rw[zvF]at hp;have HP:qA (Calls xt 14 #[.pointer (some ⟨w.heap.size+1,0,none⟩),.int .u64 5,.string ⟨#[97]⟩] u λe G=>e=.returned (.tuple #[.agg #[.int .u64 5,.int .u64 1,.int .u64 0,.string ⟨#[97]⟩],.nilIface])/\Keep (λk=>k=w.heap.size+1\/k=w.heap.size) u G/\Rpl (Nw D u G) (0+1) G (w.heap.size+1) w.heap.size a25):=qL hp;have aD:=qL X;have aw:=qL L;have H1:=qL h1;have H2:=qL h2;have ay:=qL M;have ax:=qL j;clear aq X ag N am hG M J h0 h1 h2 L j hp
 go_wp2_with (go_at_call 14;refine HP.o.mono ?_;rintro e B ⟨rfl,C,ar⟩)
 obtain⟨wr,F⟩:=xm (B.alloc (.cells #[.int .u64 5,.int .u64 1,.int .u64 0,.string ⟨#[97]⟩] 47));have aJ:wr.heap.size=B.heap.size+1:=by rw[F];exact tx _ _
 have I:Keep qe B wr:=by rw[F];exact(Keep.refl _ _).alloc _
 have av:wr.heap[B.heap.size]?=some (.cells #[.int .u64 5,.int .u64 1,.int .u64 0,.string ⟨#[97]⟩] 47 (0,0)):=by rw[F];exact tq _ _
 rw[<-F];rw[<-aJ];clear F;have s3:=C.size;have j:=ax.o;have E:Keep (λk=>k=w.heap.size+1\/k=w.heap.size) u wr:=C.trans (I.mono λ_ _ h=>h.elim);have P:∀b o,D b o->¬(b=w.heap.size+1\/b=w.heap.size):=λb o h=>by have:=j b o h;omega
 have ad:Gd (Nw D u B) wr:=by have:=Gd.new (w:=w) (w0:=u) (ay.o.keep C P) C.size;exact this.keep I λ_ _ _=>id
 have af:Rpl (Nw D u B) 1 wr (w.heap.size+1) w.heap.size a25:=ar.keep I id id λb o h=>⟨h,id⟩;have ai:Rpl (Nw D u B) 0 wr (w.heap.size+3) (w.heap.size+2) b25:=aD.o.keep E a8 a8 λb o h=>⟨.inl h,P b o h⟩;have T:∀o,¬Nw D u B (w.heap.size+3) o/\¬Nw D u B (w.heap.size+2) o:=λo=>⟨λh=>h.elim (λh=>by have:=j _ _ h;omega) a8,λh=>h.elim (λh=>by have:=j _ _ h;omega) a8⟩;have U:=zt1 H1.o (H2.o.mono a8) (.inr rfl) ad af ai T a8 a8 a8 a8;rw[zua.1,zua.2]at U;have aB:=qL U;have aF:=qL av;have aA:=qL (aw.o.trans ((E.below (n:=w.heap.size) a8 λk hk e=>a8)));clear U ad af ai av I E P ar C j;have K:True:=trivial
 go_wp2_with (go_at_call 10;have _t:=K;refine aB.o.mono ?_;rintro e w4 ⟨rfl,Q,aj,ah,ae⟩;clear K)
 have s4:=Q.size;have ao:∀o,¬Nw (Nw D u B) wr w4 (w.heap.size+3) o/\¬Nw (Nw D u B) wr w4 (w.heap.size+2) o:=λo=>⟨λh=>h.elim (T o).1 a8,λh=>h.elim (T o).2 a8⟩;have V:=zt1 H1.o (H2.o.mono a8) (.inl rfl) aj ae ah ao a8 a8 a8 a8;rw[zub.1,zub.2]at V;have aC:=qL V;have ab:=qL Q;clear V aj ah ae Q
 go_wp2_with (go_at_call 10;refine aC.o.mono ?_;rintro e Y ⟨rfl,H,ak,O,aG⟩)
 have hg:Calls xt 18 #[.pointer (some ⟨w.heap.size+3,0,none⟩),.int .u64 5] Y λe G=>e=.returned (.tuple #[.agg #[.int .u64 5,.int .u64 1,.int .u64 0,.string ⟨#[97]⟩],.bool true])/\Below Y.heap.size Y G:=zwk (i:=5) O (by rw[zw];decide);have Z:=qL hg;have an:∀W,Below Y.heap.size Y W->Calls xt 15 #[.pointer (some ⟨w.heap.size+3,0,none⟩)] W λe G=>∃a c,e=.returned (.slice a 1 c)/\Below W.heap.size W G:=λW hW=>by
  have hk:Keep qe Y W:=Keep.of_below' hW (Zp _);refine(zte (n:=0) (O.keep hk id id λb o h=>⟨h,id⟩) (ak.keep hk λ_ _ _=>id) zsP (by simp[k25,znP]) λf hf=>?_).mono ?_
  .simp only[k25,znP,wH]at hf;subst hf;refine⟨b6,by simp[zl9],λe he=>?_⟩;have:=(zoF (r:=1) (c:=0) (by rw[zw];decide) (by rw[zw];decide)).2.2 e he;omega
  .rintro e G ⟨v,rfl,hb,hd⟩;obtain⟨a,c,rfl⟩:=zsM (k:=k25) hd;exact⟨a,c,rfl,hb⟩
 have az:=qL an;have aE:=qL ((ab.o.trans H).obj aF.o a8);have s5:=H.size;have ac:=qL (aA.o.trans ((ab.o.trans H).below (n:=w.heap.size) a8 λk hk e=>a8));clear O ak aG H hg an
 go_wp2_with (first
  | (go_at_call 18;refine Z.o.mono ?_;rintro e w6 ⟨rfl,A⟩
     have au:=(A.block _ a8).trans aE.o;obtain⟨⟨x0,x1,x2,x3⟩,-⟩:=c4s au;have aK:B.heap.size<w6.heap.size:=(by have:=A.size;omega);have aL:B.heap.size≠w6.heap.size:=a8;clear au)
  |(go_at_call 15;refine(az.o _ (A.alloc A.size _)).mono ?_;rintro e w7 ⟨a7,c7,rfl,aH⟩))
 go_ret;exact⟨rfl,ac.o.trans (((A.alloc A.size _).trans (aH.mono (by have:=A.size;simp;omega))).mono a8)⟩
def sq1:Code->Code
 |.seq a _=>a
 |c=>c
def cT:Code->Code
 |.cond _ a _=>a
 |c=>c
def zs8{t:Array Value}(h:t.size=128):∃u:Nat->Value,t=#[u 0,u 1,u 2,u 3,u 4,u 5,u 6,u 7,u 8,u 9,u 10,u 11,u 12,u 13,u 14,u 15,u 16,u 17,u 18,u 19,u 20,u 21,u 22,u 23,u 24,u 25,u 26,u 27,u 28,u 29,u 30,u 31,u 32,u 33,u 34,u 35,u 36,u 37,u 38,u 39,u 40,u 41,u 42,u 43,u 44,u 45,u 46,u 47,u 48,u 49,u 50,u 51,u 52,u 53,u 54,u 55,u 56,u 57,u 58,u 59,u 60,u 61,u 62,u 63,u 64,u 65,u 66,u 67,u 68,u 69,u 70,u 71,u 72,u 73,u 74,u 75,u 76,u 77,u 78,u 79,u 80,u 81,u 82,u 83,u 84,u 85,u 86,u 87,u 88,u 89,u 90,u 91,u 92,u 93,u 94,u 95,u 96,u 97,u 98,u 99,u 100,u 101,u 102,u 103,u 104,u 105,u 106,u 107,u 108,u 109,u 110,u 111,u 112,u 113,u 114,u 115,u 116,u 117,u 118,u 119,u 120,u 121,u 122,u 123,u 124,u 125,u 126,u 127]:=
 ⟨λi=>t.getD i undef,(show t=((List.range 128).map λi=>t.getD i undef).toArray from Array.ext (by simp[h]) λi j o=>by simp[j]).trans rfl⟩
noncomputable def zuy:Code:=cT (sq2 (sq1 (sq2 (sq2 (xN Tryz.f9)))))
noncomputable def zui:Code:=sq2 zuy
noncomputable def zwh:Code:=sq2 zui
def zvx{f:FuncId}{t:TypeId}{m:String}{v:Value}{s:Tmp}{c:Call}{o:Oper}{a:Act}{w:World}{K:Act->World->Prop}{Q:Exit->Act->World->Prop}(F:Mth xt t m f)(E:∀j w,(callFunc f j).run xt w=.ok (.enter f j) w)(ho:o.op=.call c)(C:c.callee=.invoke (.tmp s) m)(H:a.eval (.tmp s)=.iface t v)(B:c.args=#[])
 (h:Calls xt f #[v] w λe A=>∃u,e=.returned u/\K (a.put o.dst u) A):o.wp xt a w K Q:=by
 have G:(execOp a.eval o).run xt w=.ok (.enter f #[v]) w:=by simp only[execOp,ho,resolve,C,H,B,tH,tJ,tB,invoke];have:=F v #[] w;rw[E]at this;simpa using this
 unfold Oper.wp;rw[G,Tc];exact h.mono λe I h=>by obtain⟨v,rfl,h⟩:=h;exact h
def do5{W:World}{g h:Nat}{x:Rc}{post:Ending->World->Prop}{G:Act->World->Prop}(C:W.heap[g]?=some (.cells #[.int .u64 x.item,.int .u64 x.rep,.int .u64 x.ctr,.string x.val] 47 (0,0)))(E:W.heap[h]?=some (.cells #[.int .u64 x.item,.int .u64 x.rep,.int .u64 x.ctr,.string x.val] 76 (0,0)))(o:post (.returned (.bool true)) W){t:Array Value}(ht:t.size=128)(w:t[7]?=some (.pointer (some ⟨g,0,none⟩)))(A:t[8]?=some (.nilIface))(B:t[9]?=some (.pointer (some ⟨h,0,none⟩)))(j:t[10]?=some (.bool true)):
 Code.wp xt zwh (Exit.then G (bodyPost xt Tryz.f9 post)) ⟨t,[]⟩ W:=by
 obtain⟨⟨H,I,J,K⟩,-⟩:=c4s C;obtain⟨⟨L,M,N,O⟩,-⟩:=c4s E;have F:=qL o;clear C E o;obtain⟨u,rfl⟩:=zs8 ht;replace w:u 7=_:=wE w;replace A:u 8=_:=wE A;replace B:u 9=_:=wE B;replace j:u 10=_:=wE j;rw[w,A,B,j];clear w A B j ht;obtain⟨Q,o⟩:=xm (bodyPost xt Tryz.f9 post);rw[<-o];simp only[zwh,zui,zuy,sq1,sq2,cT,xN,Tryz.f9];subst o
 go_wp2_with fail
 exact F.o
def do4{W:World}{E j g i c:Nat}{x:Rc}{it:Nat}{v:ByteArray}{R:World->World->Prop}{post:Ending->World->Prop}{K0:Act->World->Prop}(hi:i<3)(hg:W.heap[g]?=some (.cells #[.int .u64 x.item,.int .u64 x.rep,.int .u64 x.ctr,.string x.val] 47 (0,0)))(ad:g≠c)
 (H:W.cell? ⟨E,3+i,none⟩=some (.pointer (some ⟨c,0,none⟩))) (hy:W.cell? ⟨j,2,none⟩=some (.int .u64 it)) (hz:W.cell? ⟨j,3,none⟩=some (.string v)) (ab:c<W.heap.size) (ai:E≠c) (aj:j≠c)
 (hP:∀F,Below W.heap.size W F->Calls xt 22 #[.pointer (some ⟨c,0,none⟩),.int .u64 it,.string v] F λe w'=>e=.returned (.tuple #[rcv x,.bool true])/\R F w') (hR:∀A B,R A B->Keep (λk=>k=c) A B)
 (J:∀U I F,Below W.heap.size W U->R U I->Keep (λk=>W.heap.size<=k/\(k<U.heap.size\/I.heap.size<=k)) I F->post (.returned (.bool true)) F) {t:Array Value} (ht:t.size=128) (G:t[2]?=some (.pointer (some ⟨E,0,none⟩))) (X:t[3]?=some (.pointer (some ⟨j,0,none⟩))) (Y:t[5]?=some (.int .i64 i)) (Z:t[7]?=some (.pointer (some ⟨g,0,none⟩))) (h8:t[8]?=some (.nilIface)) :
 Code.wp xt zui (Exit.then K0 (bodyPost xt Tryz.f9 post)) ⟨t,[]⟩ W:=by
 have C:xt.follows .mixedOrders=true:=dL
 have ag:(i:Int)<3:=a8
 have N:=enters_of func22 dL rfl;have ae:=(Yf.1 hg).1;have T:=tr W _ H;have o:=tr W _ hy;have hF:∀x:Wm,Keep (λk=>k=c\/W.heap.size<=k) W.drew x.1->x.1.cell? ⟨E,3+i,none⟩=some (.pointer (some ⟨c,0,none⟩))/\x.1.cell? ⟨j,2,none⟩=some (.int .u64 it)/\x.1.cell? ⟨j,3,none⟩=some (.string v):=λx hk=>
  ⟨hk.cell_some (p:=⟨E,3+i,none⟩) H (by show ¬(E=c\/W.heap.size<=E);simp only at T;omega),hk.cell_some (p:=⟨j,2,none⟩) hy (by show ¬(j=c\/W.heap.size<=j);simp only at o;omega),hk.cell_some (p:=⟨j,3,none⟩) hz (by show ¬(j=c\/W.heap.size<=j);simp only at o;omega)⟩
 have HF:=qL hF;have HG:=qL hg;have HP:=qL hP;have HQ:=qL J;have HR:=qL hR;clear hg hP J H hy hz hF hR T o;obtain⟨u,rfl⟩:=zs8 ht;replace G:u 2=_:=wE G;replace X:u 3=_:=wE X;replace Y:u 5=_:=wE Y;replace Z:u 7=_:=wE Z;replace h8:u 8=_:=wE h8;rw[G,X,Y,Z,h8];clear G X Y Z h8 ht;obtain⟨Q,J⟩:=xm (bodyPost xt Tryz.f9 post);rw[<-J];simp only[zui,zuy,sq1,sq2,cT,xN,Tryz.f9];subst J
 go_wp2_with fail
 rename_i Kx hKx;refine zvo (Sw:=λk=>k=c\/W.heap.size<=k) (mkD 50 (some 9) true) 128 (HX W R #[.int .u64 x.item,.int .u64 x.rep,.int .u64 x.ctr,.string x.val] #[.int .u64 0,.int .u64 0,.int .u64 0,.string ⟨#[]⟩] 76) C dL rfl HX.start ?_;refine xds ?_;refine zt0 _ zt6 rfl (zue (S:=λk=>k=c) (v:=.tuple #[.agg #[.int .u64 x.item,.int .u64 x.rep,.int .u64 x.ctr,.string x.val],.bool true]) rfl rfl rfl (λa x P=>by simp[Pl.Rds,zA,Pl.lk,Op.operands,Call.operands,RdEq]at P;simp[P]) N HP.o HR.o λk h=>⟨.inl h,by rw[h];exact ab⟩) ?_;simp only[Y1,yb];refine xds ?_;refine zt0 _ zwr rfl (zuX rfl λa w=>by go_simp) ?_;simp only[Y1,yb];refine zt0 (λ_ _=>True) (λ_ _ _ _ _=>trivial) rfl (zuY rfl (λa m P=>?_) λk h=>.inr h) ?_
 .simp[Pl.Rds,zA,Pl.lk,Op.operands,Call.operands,RdEq]at P;obtain⟨⟨_,⟨p1,p2⟩,rfl,V⟩,p3,p4⟩:=P;refine⟨V,λw hw=>?_⟩;obtain⟨⟨c0,c1,c2,c3⟩,d0,d1,d2,d3⟩:=c4s hw;refine⟨(((w.setCell ⟨m.2.2,0,none⟩ (.int .u64 x.item)).setCell ⟨m.2.2,1,none⟩ (.int .u64 x.rep)).setCell ⟨m.2.2,2,none⟩ (.int .u64 x.ctr)).setCell ⟨m.2.2,3,none⟩ (.string x.val),by go_simp,?_,?_⟩
  .simpa using zsw (zsw (zsw (zsw hw 0 _) 1 _) 2 _) 3 _
  .exact((((Keep.refl (λk=>k=m.2.2) w).setCell (p:=⟨m.2.2,0,none⟩) (λ_=>rfl) _).setCell (p:=⟨m.2.2,1,none⟩) (λ_=>rfl) _).setCell (p:=⟨m.2.2,2,none⟩) (λ_=>rfl) _).setCell (p:=⟨m.2.2,3,none⟩) (λ_=>rfl) _
 simp only[Y1,yb];refine xds ?_;intro m H hk;simp only[Pl.finG,Y1,yb,tn,WM];simp only[Act.put,wu,wR,wS];intro h0 V;refine⟨trivial,λL=>?_⟩;have G:2∈m.2.1:=L 13 b8 2 rfl rfl;refine hKx _ _ ?_;obtain⟨U,I,M,K,ah,af,ac⟩:=H.post h0;obtain⟨hN,hv⟩:=H.var V;rw[Vm G]at hv;have O:Keep (λk=>W.heap.size<=k/\(k<U.heap.size\/I.heap.size<=k)) I m.1:=af.mono λk _ e=>by rw[e.2];exact⟨hN,ac V⟩
 exact do5 (O.obj ((HR.o _ _ K).obj ((M.block g ae).trans HG.o) ad) λe=>absurd e.1 a8) hv (HQ.o _ _ _ M K O) rfl rfl rfl rfl rfl
def do3{W:World}{C j i b o:Nat}{x:Rc}{it:Nat}{v:ByteArray}{R:World->World->Prop}{post:Ending->World->Prop}{Kx:Act->World->Prop}{Z:Act->World->Prop}(hi:i<3)
 (I:W.cell? ⟨C,i,none⟩=some (.pointer (some ⟨b,0,none⟩))) (hy:W.cell? ⟨j,2,none⟩=some (.int .u64 it)) (hz:W.cell? ⟨j,3,none⟩=some (.string v)) (hb:b<W.heap.size) (hm:o<W.heap.size) (hn:C≠b/\C≠o/\j≠b/\j≠o)
 (hP:∀E,Below W.heap.size W E->Calls xt 14 #[.pointer (some ⟨b,0,none⟩),.int .u64 it,.string v] E λe w'=>e=.returned (.tuple #[rcv x,.nilIface])/\R E w') (hR:∀A B,R A B->Keep (λk=>k=b\/k=o) A B)
 (L:∀T J E g,Below W.heap.size W T->R T J->Keep (λk=>W.heap.size<=k/\(k<T.heap.size\/J.heap.size<=k)) J E->W.heap.size<=g->E.heap[g]?=some (.cells #[.int .u64 x.item,.int .u64 x.rep,.int .u64 x.ctr,.string x.val] 47 (0,0))->∀t:Array Value,t.size=128->t[2]?=some (.pointer (some ⟨C,0,none⟩))->t[3]?=some (.pointer (some ⟨j,0,none⟩))->t[5]?=some (.int .i64 i)->t[7]?=some (.pointer (some ⟨g,0,none⟩))->t[8]?=some (.nilIface)->Code.wp xt zui (Exit.then Z (bodyPost xt Tryz.f9 post)) ⟨t,[]⟩ E) (K:∀a w,Code.wp xt zui (Exit.then Z (bodyPost xt Tryz.f9 post)) a w->Kx a w) {t:Array Value} (ht:t.size=128) (H:t[2]?=some (.pointer (some ⟨C,0,none⟩))) (V:t[3]?=some (.pointer (some ⟨j,0,none⟩))) (X:t[5]?=some (.int .i64 i)) :
 Code.wp xt (sq1 zuy) (Exit.then Kx (Exit.then Z (bodyPost xt Tryz.f9 post))) ⟨t,[]⟩ W:=by
 have G:xt.follows .mixedOrders=true:=dL
 have ag:(i:Int)<3:=a8
 have N:=enters_of func14 dL rfl;have P:=tr W _ I;have F:=tr W _ hy;have hF:∀x:Wm,Keep (λk=>(k=b\/k=o)\/W.heap.size<=k) W.drew x.1->x.1.cell? ⟨C,i,none⟩=some (.pointer (some ⟨b,0,none⟩))/\x.1.cell? ⟨j,2,none⟩=some (.int .u64 it)/\x.1.cell? ⟨j,3,none⟩=some (.string v):=λx hk=>
  ⟨hk.cell_some (p:=⟨C,i,none⟩) I (by show ¬((C=b\/C=o)\/W.heap.size<=C);simp only at P;omega),hk.cell_some (p:=⟨j,2,none⟩) hy (by show ¬((j=b\/j=o)\/W.heap.size<=j);simp only at F;omega),hk.cell_some (p:=⟨j,3,none⟩) hz (by show ¬((j=b\/j=o)\/W.heap.size<=j);simp only at F;omega)⟩
 have HF:=qL hF;have HP:=qL hP;have HQ:=qL L;have HR:=qL hR;clear hP L I hy hz hF hR P F hn;have Y:=qL K;clear K;obtain⟨u,rfl⟩:=zs8 ht;replace H:u 2=_:=wE H;replace V:u 3=_:=wE V;replace X:u 5=_:=wE X;rw[H,V,X];clear H V X ht;obtain⟨Q,L⟩:=xm (bodyPost xt Tryz.f9 post);rw[<-L];simp only[zuy,sq1,sq2,cT,xN,Tryz.f9];subst L;refine zvo (Sw:=λk=>(k=b\/k=o)\/W.heap.size<=k) (mkD 38 (some 7) true) 128 (HX W R #[.int .u64 x.item,.int .u64 x.rep,.int .u64 x.ctr,.string x.val] #[.int .u64 0,.int .u64 0,.int .u64 0,.string ⟨#[]⟩] 47) G dL rfl HX.start ?_;refine xds ?_;refine zt0 _ zt6 rfl (zue (S:=λk=>k=b\/k=o) (v:=.tuple #[.agg #[.int .u64 x.item,.int .u64 x.rep,.int .u64 x.ctr,.string x.val],.nilIface]) rfl rfl rfl (λa x O=>by simp[Pl.Rds,zA,Pl.lk,Op.operands,Call.operands,RdEq]at O;simp[O]) N HP.o HR.o λk h=>⟨.inl h,by rcases h with h|h<;>rw[h]<;>assumption⟩) ?_;simp only[Y1,yb];refine xds ?_;refine zt0 _ zwr rfl (zuX rfl λa w=>by go_simp) ?_;simp only[Y1,yb];refine zt0 (λ_ _=>True) (λ_ _ _ _ _=>trivial) rfl (zuY rfl (λa m O=>?_) λk h=>.inr h) ?_
 .simp[Pl.Rds,zA,Pl.lk,Op.operands,Call.operands,RdEq]at O;obtain⟨⟨_,⟨p1,p2⟩,rfl,U⟩,p3,p4⟩:=O;refine⟨U,λw hw=>?_⟩;obtain⟨⟨c0,c1,c2,c3⟩,d0,d1,d2,d3⟩:=c4s hw;refine⟨(((w.setCell ⟨m.2.2,0,none⟩ (.int .u64 x.item)).setCell ⟨m.2.2,1,none⟩ (.int .u64 x.rep)).setCell ⟨m.2.2,2,none⟩ (.int .u64 x.ctr)).setCell ⟨m.2.2,3,none⟩ (.string x.val),by go_simp,?_,?_⟩
  .simpa using zsw (zsw (zsw (zsw hw 0 _) 1 _) 2 _) 3 _
  .exact((((Keep.refl (λk=>k=m.2.2) w).setCell (p:=⟨m.2.2,0,none⟩) (λ_=>rfl) _).setCell (p:=⟨m.2.2,1,none⟩) (λ_=>rfl) _).setCell (p:=⟨m.2.2,2,none⟩) (λ_=>rfl) _).setCell (p:=⟨m.2.2,3,none⟩) (λ_=>rfl) _
 simp only[Y1,yb];refine xds ?_;intro m I hk;simp only[Pl.finG,Y1,yb,tn,WM];simp only[Act.put,wu,wR,wS];intro h0 U;refine⟨trivial,λM=>?_⟩;have H:2∈m.2.1:=M 13 b8 2 rfl rfl;refine Y.o _ _ ?_;obtain⟨T,J,ac,ab,ah,ae,ad⟩:=I.post h0;obtain⟨hN,hv⟩:=I.var U;rw[Vm H]at hv;have af:Keep (λk=>W.heap.size<=k/\(k<T.heap.size\/J.heap.size<=k)) J m.1:=ae.mono λk _ e=>by rw[e.2];exact⟨hN,ad U⟩
 exact HQ.o _ _ _ _ ac ab af hN hv _ rfl rfl rfl rfl rfl rfl
noncomputable def zuz:Code:=sq2 (sq2 (sq2 (xN Tryz.f9)))
noncomputable def zuj:Code:=sq2 zuz
def do6{W:World}{o C i j b c m0 n:Nat}{vi er:Value}{R:World->World->Prop}{post:Ending->World->Prop}{Kx:Act->World->Prop}(hi:i<3)(hj:j<3)
 (H:W.cell? ⟨o,i,none⟩=some (.pointer (some ⟨b,0,none⟩))) (hy:W.cell? ⟨o,j,none⟩=some (.pointer (some ⟨c,0,none⟩))) (hz:W.cell? ⟨C,4,none⟩=some vi) (hb:b<W.heap.size) (hm:m0<W.heap.size) (hn:o≠b/\o≠m0/\C≠b/\C≠m0)
 (hP:∀G,Below W.heap.size W G->Calls xt 10 #[.pointer (some ⟨b,0,none⟩),.pointer (some ⟨c,0,none⟩),vi] G λe w'=>e=.returned (.tuple #[.int .i64 n,er])/\R G w') (hR:∀A B,R A B->Keep (λk=>k=b\/k=m0) A B)
 (K:∀N I G,Below W.heap.size W N->R N I->Keep (λk=>W.heap.size<=k/\(k<N.heap.size\/I.heap.size<=k)) I G->∀t:Array Value,t.size=128->t[2]?=some (.pointer (some ⟨o,0,none⟩))->t[3]?=some (.pointer (some ⟨C,0,none⟩))->t[5]?=some (.int .i64 i)->t[6]?=some (.int .i64 j)->t[11]?=some (.int .i64 n)->t[12]?=some (er)->Code.wp xt zuj (bodyPost xt Tryz.f9 post) ⟨t,[]⟩ G) (J:∀a w,Code.wp xt zuj (bodyPost xt Tryz.f9 post) a w->Kx a w) {t:Array Value} (ht:t.size=128) (O:t[2]?=some (.pointer (some ⟨o,0,none⟩))) (P:t[3]?=some (.pointer (some ⟨C,0,none⟩))) (T:t[5]?=some (.int .i64 i)) (U:t[6]?=some (.int .i64 j)) :
 Code.wp xt (sq1 zuz) (Exit.then Kx (bodyPost xt Tryz.f9 post)) ⟨t,[]⟩ W:=by
 have F:xt.follows .mixedOrders=true:=dL
 have ae:(i:Int)<3:=a8
 have af:(j:Int)<3:=a8
 have L:=enters_of func10 dL rfl;have E:=tr W _ H;have M:=tr W _ hz;have hF:∀x:Wm,Keep (λk=>(k=b\/k=m0)\/W.heap.size<=k) W.drew x.1->x.1.cell? ⟨o,i,none⟩=some (.pointer (some ⟨b,0,none⟩))/\x.1.cell? ⟨o,j,none⟩=some (.pointer (some ⟨c,0,none⟩))/\x.1.cell? ⟨C,4,none⟩=some vi:=λx hk=>
  ⟨hk.cell_some (p:=⟨o,i,none⟩) H (by show ¬((o=b\/o=m0)\/W.heap.size<=o);simp only at E;omega),hk.cell_some (p:=⟨o,j,none⟩) hy (by show ¬((o=b\/o=m0)\/W.heap.size<=o);simp only at E;omega),hk.cell_some (p:=⟨C,4,none⟩) hz (by show ¬((C=b\/C=m0)\/W.heap.size<=C);simp only at M;omega)⟩
 have HF:=qL hF;have HP:=qL hP;have HQ:=qL K;have HR:=qL hR;clear hP K H hy hz hF hR E M hn;have V:=qL J;clear J;obtain⟨u,rfl⟩:=zs8 ht;replace O:u 2=_:=wE O;replace P:u 3=_:=wE P;replace T:u 5=_:=wE T;replace U:u 6=_:=wE U;rw[O,P,T,U];clear O P T U ht;obtain⟨Q,K⟩:=xm (bodyPost xt Tryz.f9 post);rw[<-K];simp only[zuz,sq1,sq2,cT,xN,Tryz.f9];subst K;refine zvo (Sw:=λk=>(k=b\/k=m0)\/W.heap.size<=k) (mkD 74 none false) 128 (HX W R #[] #[] 0) F dL rfl HX.start ?_;refine xds ?_;refine zt0 _ zt6 rfl (zue (S:=λk=>k=b\/k=m0) (v:=.tuple #[.int .i64 n,er]) rfl rfl rfl (λa x hr=>by simp[Pl.Rds,zA,Pl.lk,Op.operands,Call.operands,RdEq]at hr;simp[hr]) L HP.o HR.o λk h=>⟨.inl h,by rcases h with h|h<;>rw[h]<;>assumption⟩) ?_;simp only[Y1,yb];refine xds ?_;intro m H hk;simp only[Pl.finG,Y1,yb,tn,WM];simp only[Act.put,wu,wR,wS];intro h0;refine⟨trivial,λad=>?_⟩;refine V.o _ _ ?_;obtain⟨N,I,Y,X,ag,ab,Z⟩:=H.post h0;have ac:Keep (λk=>W.heap.size<=k/\(k<N.heap.size\/I.heap.size<=k)) I m.1:=ab.mono λk _ e=>by rw[e.2];exact⟨(H.var e.1).1,Z e.1⟩
 exact HQ.o _ _ _ Y X ac _ rfl rfl rfl rfl rfl rfl rfl
def do7{W:World}{o L i j b c n:Nat}{vi:Value}{k0:Int}{R:World->World->Prop}{post:Ending->World->Prop}(hi:i<3)(hj:j<3)
 (I:W.cell? ⟨o,3+i,none⟩=some (.pointer (some ⟨b,0,none⟩))) (hy:W.cell? ⟨o,3+j,none⟩=some (.pointer (some ⟨c,0,none⟩))) (hz:W.cell? ⟨L,4,none⟩=some vi) (hb:b<W.heap.size) (hn:o≠b/\L≠b)
 (hC:Calls xt 21 #[vi] W λe w'=>e=.returned (.tuple #[.int .i64 0,.int .i64 k0])/\Below W.heap.size W w')
 (hP:∀G,Below W.heap.size W G->Calls xt 25 #[.pointer (some ⟨b,0,none⟩),.pointer (some ⟨c,0,none⟩),vi] G λe w'=>e=.returned (.int .i64 n)/\R G w') (hR:∀A B,R A B->Keep (λk=>k=b) A B)
 (O:∀w5 M G,Below W.heap.size W w5->R w5 M->Keep (λk=>W.heap.size<=k/\(k<w5.heap.size\/M.heap.size<=k)) M G->post (.returned (.bool true)) G) {t:Array Value} (ht:t.size=128) (h2:t[2]?=some (.pointer (some ⟨o,0,none⟩))) (h3:t[3]?=some (.pointer (some ⟨L,0,none⟩))) (h5:t[5]?=some (.int .i64 i)) (h6:t[6]?=some (.int .i64 j)) (C:t[11]?=some (.int .i64 n)) (E:t[12]?=some (.nilIface)) :
 Code.wp xt zuj (bodyPost xt Tryz.f9 post) ⟨t,[]⟩ W:=by
 have K:xt.follows .mixedOrders=true:=dL
 have ae:(i:Int)<3:=a8
 have af:(j:Int)<3:=a8
 have U:=enters_of func25 dL rfl;have J:=tr W _ I;have Z:=tr W _ hz;have hF:∀w,Below W.heap.size W w->∀x:Wm,Keep (λk=>k=b\/w.heap.size<=k) w.drew x.1->x.1.cell? ⟨o,3+i,none⟩=some (.pointer (some ⟨b,0,none⟩))/\x.1.cell? ⟨o,3+j,none⟩=some (.pointer (some ⟨c,0,none⟩))/\x.1.cell? ⟨L,4,none⟩=some vi:=λw h1 x hk=>by have hs:=h1.size;exact⟨hk.cell_some (p:=⟨o,3+i,none⟩) (bc1 h1.drew I) (by show ¬(o=b\/w.heap.size<=o);simp only at J;omega),hk.cell_some (p:=⟨o,3+j,none⟩) (bc1 h1.drew hy) (by show ¬(o=b\/w.heap.size<=o);simp only at J;omega),hk.cell_some (p:=⟨L,4,none⟩) (bc1 h1.drew hz) (by show ¬(L=b\/w.heap.size<=L);simp only at Z;omega)⟩
 have ab:=qL hF;have HP:=qL hP;have HQ:=qL O;have HR:=qL hR;have HC:=qL hC;clear hP O I hy hF hR J Z hn hC;obtain⟨u,rfl⟩:=zs8 ht;replace h2:u 2=_:=wE h2;replace h3:u 3=_:=wE h3;replace h5:u 5=_:=wE h5;replace h6:u 6=_:=wE h6;replace C:u 11=_:=wE C;replace E:u 12=_:=wE E;rw[h2,h3,h5,h6,C,E];clear h2 h3 h5 h6 C E ht;obtain⟨Q,O⟩:=xm (bodyPost xt Tryz.f9 post);rw[<-O];simp only[zuj,zuz,sq1,sq2,cT,xN,Tryz.f9];subst O
 go_wp2_with (go_at_call 21;refine HC.o.mono ?_;rintro e w ⟨rfl,F⟩)
 rename_i Kx hKx;have HF:=qL (ab.o w F);have H:=F.size;refine zvo (Sw:=λk=>k=b\/w.heap.size<=k) (mkD 125 none false) 128 (HX w R #[] #[] 0) K dL rfl HX.start ?_;refine xds ?_;refine zws _ zt6 rfl (ztS rfl rfl) (zue (S:=λk=>k=b) (v:=.int .i64 n) rfl rfl rfl (λa x hr=>by simp[Pl.Rds,zA,Pl.lk,Op.operands,Call.operands,RdEq]at hr;simp[hr]) U (λG ac=>HP.o G (F.trans (ac.mono H))) HR.o λk h=>⟨.inl h,by rw[h];omega⟩) ?_;simp only[Y1,yb];refine xds ?_;intro m I hk;simp only[Pl.finG,Y1,yb,tn,WM];simp only[Act.put,wu,wR,wS];intro h0;refine⟨trivial,λad=>?_⟩;refine hKx _ _ ?_;obtain⟨w5,M,T,P,ag,X,V⟩:=I.post h0;have Y:Keep (λk=>W.heap.size<=k/\(k<w5.heap.size\/M.heap.size<=k)) M m.1:=X.mono λk _ e=>by rw[e.2];exact⟨V0 H (I.var e.1).1,V e.1⟩
 have N:=qL (HQ.o _ _ _ (F.trans (T.mono H)) P Y);clear I X V Y T P HP HR HQ
 go_wp2_with fail
 exact N.o
def do8{W:World}{S:Nat}{P:Value}{e0 k0:Int}{s2:ByteArray}{post:Ending->World->Prop}(h0:e0≠0)(hs:s2.size<=1000)
 (hz:W.cell? ⟨S,4,none⟩=some P)
 (L:Calls xt 21 #[P] W λe E=>e=.returned (.tuple #[.int .i64 e0,.int .i64 k0])/\Below W.heap.size W E)
 (M:∀j,Below W.heap.size W j->Calls xt 19 #[.iface 145 (.agg #[.string sRp,.iface 115 (.agg #[.int .i64 e0,.int .i64 k0])])] j λe E=>e=.returned (.int .i64 e0)/\Below j.heap.size j E)
 (K:∀j,Below W.heap.size W j->Calls xt 23 #[.iface 145 (.agg #[.string sRp,.iface 115 (.agg #[.int .i64 e0,.int .i64 k0])])] j λe E=>e=.returned (.int .i64 k0)/\Below j.heap.size j E)
 (O:∀j,Below W.heap.size W j->Calls xt 237 #[.agg #[.string sRp,.iface 115 (.agg #[.int .i64 e0,.int .i64 k0])]] j λe E=>e=.returned (.string (⟨#[114,101,112,108,105,99,97,58,32]⟩++s2))/\Below j.heap.size j E)
 (N:∀j,Below W.heap.size W j->Calls xt 24 #[.int .i64 e0] j λe E=>e=.returned (.string s2)/\Below j.heap.size j E)
 (H:∀j,Below W.heap.size W j->post (.returned (.bool true)) j) {t:Array Value} (ht:t.size=128) (J:t[3]?=some (.pointer (some ⟨S,0,none⟩))) (B:t[11]?=some (.int .i64 0)) (C:t[12]?=some (.iface 145 (.agg #[.string sRp,.iface 115 (.agg #[.int .i64 e0,.int .i64 k0])]))) :
 Code.wp xt zuj (bodyPost xt Tryz.f9 post) ⟨t,[]⟩ W:=by
 have Z:=qL H;have U:=qL L;have V:=qL M;have T:=qL K;have Y:=qL O;have X:=qL N;have ab:¬9223372036854775807<9+s2.size:=a8
 have I:=enters_of func237 dL rfl;clear H L M K O N;obtain⟨u,rfl⟩:=zs8 ht;replace J:u 3=_:=wE J;replace B:u 11=_:=wE B;replace C:u 12=_:=wE C;rw[J,B,C];clear J B C ht;obtain⟨Q,H⟩:=xm (bodyPost xt Tryz.f9 post);rw[<-H];simp only[zuj,zuz,sq1,sq2,cT,xN,Tryz.f9];subst H
 go_wp2_with (first
  |(go_at_call 21;refine U.o.mono ?_;rintro e w1 ⟨rfl,F⟩)
  |(go_at_call 19;refine(V.o _ F).mono ?_;rintro e w2 ⟨rfl,o⟩;replace o:=F.trans (o.mono F.size))
  |(go_at_call 23;refine(T.o _ o).mono ?_;rintro e w3 ⟨rfl,w⟩;replace w:=o.trans (w.mono o.size)))
 refine zvx zn8 I rfl rfl rfl rfl ?_;refine(Y.o _ w).mono ?_;rintro e w4 ⟨rfl,A⟩;refine⟨_,rfl,?_⟩;replace A:=w.trans (A.mono w.size)
 go_wp2_with (go_at_call 24;refine(X.o _ A).mono ?_;rintro e w5 ⟨rfl,G⟩;replace G:=A.trans (G.mono A.size))
 exact Z.o _ G
def Keep.step{S:Nat->Prop}{W w A B:World}(j:Below W.heap.size W w)(o:Keep S w A)(u:Keep (λk=>W.heap.size<=k/\(k<w.heap.size\/A.heap.size<=k)) A B):Keep S W B:=by have C:=j.size;have E:=o.size;exact⟨u.os.trans (o.os.trans j.os),u.tape.trans (o.tape.trans j.tape),u.output.trans (o.output.trans j.output),V0 C (V0 E u.size),λk hk hs=>(u.block k a8 (λe=>a8)).trans ((o.block k a8 hs).trans (j.block k hk))⟩
def Play.lt{D:xT}{t:Nat}{w:World}{B M F:Nat->Nat}{S:Nat->Rs}(h:Play D t w B M F S){i:Nat}(hi:i<3):B i<w.heap.size/\M i<w.heap.size/\F i<w.heap.size:=by obtain⟨_,_,j,o,_⟩:=h.a i hi;exact⟨(Yf.1 j).1,o.lt,(h.f i hi).lt⟩
def Play.upd{D D':xT}{t K i:Nat}{w J:World}{B M F:Nat->Nat}{S:Nat->Rs}{s:Rs}(h:Play D t w B M F S)(hi:i<3)(ht:t<=K)(hk:Keep (λk=>k=B i\/k=M i\/k=F i) w J)(L:∀b o,D b o->D' b o)(E:∀b o,D' b o->D b o\/w.heap.size<=b)(N:Rpl D' K J (B i) (M i) s)(hF:Rpf D' J (F i) s):Play D' K J B M F (ztC S i s):=by
 refine⟨λj C=>?_,λj C=>?_,h.bb,h.mm,h.ff,h.bm,h.bf,h.mf,λj C o=>?_⟩
 .unfold ztC;split
  .rename_i e;rw[e];exact N
  .rename_i e;exact((h.a j C).keep hk (by rintro(u|u|u);exact e (h.bb _ _ C hi u);exact h.bm _ _ C hi u;exact h.bf _ _ C hi u) (by rintro(u|u|u);exact h.bm _ _ hi C u.symm;exact e (h.mm _ _ C hi u);exact h.mf _ _ C hi u) λb o A=>⟨L b o A,by
    obtain⟨G,H,I⟩:=h.nd i hi o;rintro(rfl|rfl|rfl)
    .exact G A
    .exact H A
    .exact I A⟩).mono ht
 .unfold ztC;split
  .rename_i e;rw[e];exact hF
  .rename_i e;exact(h.f j C).keep hk (by rintro(u|u|u);exact h.bf _ _ hi C u.symm;exact h.mf _ _ hi C u.symm;exact e (h.ff _ _ C hi u)) λb o A=>⟨L b o A,by
    obtain⟨G,H,I⟩:=h.nd i hi o;rintro(rfl|rfl|rfl)
    .exact G A
    .exact H A
    .exact I A⟩
 .obtain⟨G,H,I⟩:=h.nd j C o;obtain⟨O,P,Q⟩:=h.lt C;exact⟨λA=>(E _ _ A).elim G a8,λA=>(E _ _ A).elim H a8,λA=>(E _ _ A).elim I a8⟩
def Play.same{D D':xT}{t I:Nat}{w G:World}{B M F:Nat->Nat}{S:Nat->Rs}(h:Play D t w B M F S)(ht:t<=I)(hk:Below w.heap.size w G)(H:∀b o,D b o->D' b o)(A:∀b o,D' b o->D b o\/w.heap.size<=b):Play D' I G B M F S:=by have E:Keep qe w G:=Keep.of_below' hk (Zp _);refine⟨λj C=>((h.a j C).keep E id id λb o u=>⟨H b o u,id⟩).mono ht,λj C=>(h.f j C).keep E id λb o u=>⟨H b o u,id⟩,h.bb,h.mm,h.ff,h.bm,h.bf,h.mf,λj C o=>?_⟩;obtain⟨J,K,L⟩:=h.nd j C o;obtain⟨N,O,P⟩:=h.lt C;exact⟨λu=>(A _ _ u).elim J a8,λu=>(A _ _ u).elim K a8,λu=>(A _ _ u).elim L a8⟩
def zux{D:xT}{w:World}{v x y:Value}(h:Dat D w v (.tup [.v x,.v y])):v=.tuple #[x,y]:=by
 cases h with
 | tup vs cs hs h=>
   have d0:=(h 0 _ rfl).v_inv;have j:=(h 1 _ rfl).v_inv;obtain⟨l⟩:=vs;match l,hs with
   |[p,q],_=>simp at d0 j;rw[d0,j]
def opv(o:Opn)(ia:Option Addr)(j:Nat):Array Value:=#[.int .i64 o.who,.int .i64 o.from_,.int .u64 o.item,.string o.val,.slice ia o.items.length j]
def zsN(B F:Nat->Nat){i:Nat}(hi:i<3):(plv B F)[i]?=some (.pointer (some ⟨B i,0,none⟩))/\(plv B F)[3+i]?=some (.pointer (some ⟨F i,0,none⟩)):=by
 match i,hi with
 |0,_=>exact⟨rfl,rfl⟩
 |1,_=>exact⟨rfl,rfl⟩
 |2,_=>exact⟨rfl,rfl⟩
def zwH{C:Qk}{R E I:List Nat}{n t:Nat}{D:xT}{w:World}{B M F:Nat->Nat}{S:Nat->Rs}{o:Opn}{ia:Option Addr}{ic:Nat}(e:Env25 C R E I)(ac:OkS C R E I n S)(hn:n<=25)(ht:t<800000)(O:Play D t w B M F S)(hG:Gd D w)(ho:OpE E I o)(d:Dat D w (.slice ia o.items.length ic) (rg o.items)):
 Calls xt 9 #[.agg (plv B F),.agg (opv o ia ic)] w λe w'=>e=.returned (.bool true)/\Keep (λk=>k=B (zsV o.who)\/k=M (zsV o.who)\/k=F (zsV o.who)) w w'/\Play (Nw D w w') (t+25) w' B M F (zsY S o):=by
 obtain⟨w1,ad⟩:=xm ((w.alloc (.cells (plv B F) 30)).alloc (.cells (opv o ia ic) 38));have aG:Below w.heap.size w w1:=by rw[ad];exact((tv _ w).alloc (Zp _) _).alloc b6 _
 have aT:w1.heap.size=w.heap.size+2:=by rw[ad];simp
 have aP:w1.heap[w.heap.size]?=some (.cells (plv B F) 30 (0,0)):=by rw[ad];exact Tu _ _ _
 have an:w1.heap[w.heap.size+1]?=some (.cells (opv o ia ic) 38 (0,0)):=by rw[ad];exact TC _ _ _
 have y0:w1.cell? ⟨w.heap.size+1,0,none⟩=some (.int .i64 o.who):=(zW an 0 _ rfl).1;have y1:w1.cell? ⟨w.heap.size+1,1,none⟩=some (.int .i64 o.from_):=(zW an 1 _ rfl).1;have y4:w1.cell? ⟨w.heap.size+1,4,none⟩=some (.slice ia o.items.length ic):=(zW an 4 _ rfl).1;have aO:(o.who%18446744073709551616)%3=((zsV o.who:Nat):Int):=by unfold zsV;omega
 have aK:(o.from_%18446744073709551616)%3=((zsV o.from_:Nat):Int):=by unfold zsV;omega
 have HX:=qL aP;have HY:=qL an;have aD:=qL aG;have aF:=qL aO;have aE:=qL aK;clear aP an aG aO aK;dsimp only[plv,opv]at ad⊢;go_enter func9,ntmps9
 go_wp2_with fail
 rw[<-ad];clear ad;go_region;rw[aF.o,aE.o];obtain⟨i,ag⟩:=xm (zsV o.who);obtain⟨j,aB⟩:=xm (zsV o.from_);have hi:i<3:=by rw[ag];exact zs5 _
 have hj:j<3:=by rw[aB];exact zs5 _
 rw[<-ag,<-aB];have hW:Below w.heap.size w w1.drew:=aD.o.drew;obtain⟨W,aj⟩:=xm (w1.drew);rw[<-aj]at hW⊢;have bh:W.heap.size=w.heap.size+2:=by rw[aj];exact aT
 have aQ:W.heap[w.heap.size]?=some (.cells (plv B F) 30 (0,0)):=by rw[aj];exact HX.o
 have aC:W.heap[w.heap.size+1]?=some (.cells (opv o ia ic) 38 (0,0)):=by rw[aj];exact HY.o
 obtain⟨b1,b2,b3⟩:=O.lt hi;obtain⟨c1,c2,c3⟩:=O.lt hj;obtain⟨n1,n2,n3⟩:(∀o,¬D (B i) o)/\(∀o,¬D (M i) o)/\∀o,¬D (F i) o:=⟨λo=>(O.nd i hi o).1,λo=>(O.nd i hi o).2.1,λo=>(O.nd i hi o).2.2⟩;have aJ:=O.bm i i hi hi;have aI:=O.bf i i hi hi;have aM:=O.mf i i hi hi;have aH:∀A,Below W.heap.size W A->(∀k,k<3->Rpl D t A (B k) (M k) (S k)/\Rpf D A (F k) (S k))/\Gd D A/\Dat D A (.slice ia o.items.length ic) (rg o.items):=λA H=>by have hk:Keep qe w A:=(Keep.of_below' hW (Zp _)).trans (Keep.of_below' H (Zp _));exact⟨λk ah=>⟨(O.a k ah).keep hk id id λb o h=>⟨h,id⟩,(O.f k ah).keep hk id λb o h=>⟨h,id⟩⟩,hG.keep hk λ_ _ _=>id,d.mono (λ_ _ h=>h) λb o x hd hx=>hk.cell_some hx id⟩
 have y4:W.cell? ⟨w.heap.size+1,4,none⟩=some (.slice ia o.items.length ic):=(zW aC 4 _ rfl).1;have HK:=qL (And.intro O (And.intro hG (And.intro d (And.intro ac (And.intro ho e)))));have P:=qL aH;have af:=qL aQ;have aq:=qL aC;have ae:=qL hW;clear y0 y1 O hG d ac ho e aH aQ aC hW aj HX HY aD aF aE;by_cases h0:o.items.length=0
 .go_wp2_with fail
  rename_i Kx hKx;have ao:=qL hKx;clear hKx;obtain⟨O,hG,d,ac,ho,e⟩:=HK.o;have am:zsY S o=ztC S i (ztM (S i) o.item o.val):=(by rw[ag];exact Vm h0);have hs:Ok25 C R E I n (S i):=ac i hi;refine do3 (x:=ztL (S i) o.item o.val) (R:=λA N=>Keep (λk=>k=B i\/k=M i) A N/\Rpl (Nw D A N) (t+1) N (B i) (M i) (ztM (S i) o.item o.val)) hi (zW af.o i _ (zsN B F hi).1).1 (zW aq.o 2 _ rfl).1 (zW aq.o 3 _ rfl).1 a8 a8 a8 (λA H=>(zvG e hs hn (e.m _ ho.2.2.2.1) ((P.o A H).1 i hi).1 (P.o A H).2.1 n1 n2 aJ a8).mono (by rintro e w' ⟨rfl,h1,h2⟩;exact⟨rfl,h1,h2⟩)) (λA N h=>h.1) ?_ ao.o rfl rfl rfl rfl;intro w5 w6 Q g Z U V bg hg t ht h2 h3 h5 h7 h8;have J:Keep (λk=>k=B i\/k=M i) W Q:=Keep.step Z U.1 V;have aU:=J.size;have G:∀A,Below Q.heap.size Q A->Rpf D A (F i) (S i)/\Gd D A:=λA H=>by have hk:Keep (λk=>k=B i\/k=M i) w A:=((Keep.of_below' ae.o (Zp _)).trans J).trans (Keep.of_below' H (Zp _));have hd:∀b o,D b o->¬(b=B i\/b=M i):=λb o h e=>e.elim (λe=>n1 o (e▸h)) λe=>n2 o (e▸h);exact⟨(O.f i hi).keep hk a8 λb o h=>⟨h,hd b o h⟩,hG.keep hk hd⟩
  refine do4 (x:=ztL (S i) o.item o.val) (R:=λA N=>Keep (λk=>k=F i) A N/\Rpf (Nw D A N) N (F i) (ztM (S i) o.item o.val)) hi hg a8 (J.cell_some (zW af.o (3+i) _ (zsN B F hi).2).1 (by show ¬(w.heap.size=B i\/w.heap.size=M i);omega)) (J.cell_some (zW aq.o 2 _ rfl).1 (by show ¬(w.heap.size+1=B i\/w.heap.size+1=M i);omega)) (J.cell_some (zW aq.o 3 _ rfl).1 (by show ¬(w.heap.size+1=B i\/w.heap.size+1=M i);omega)) a8 a8 a8 (λA H=>(zuS e hs hn ho.2.2.2.1 (G A H).1 (G A H).2 n3).mono (by rintro e w' ⟨rfl,h1,h2⟩;exact⟨rfl,h1,h2⟩)) (λA N h=>h.1) ?_ ht h2 h3 h5 h7 h8;intro ba bc T X K L;have ab:Keep (λk=>k=F i) Q T:=Keep.step X K.1 L;have Y:Keep (λk=>k=B i\/k=M i\/k=F i) w T:=((Keep.of_below' ae.o (Zp _)).trans (J.mono λk _ h=>h.elim .inl λh=>.inr (.inl h))).trans (ab.mono λk _ h=>.inr (.inr h));have s5:=Z.size;have s6:=U.1.size;have s7:=V.size;have aX:=X.size;have aY:=K.1.size;have aZ:=L.size;have s8:=ab.size;have ak:∀b o,D b o->b<w.heap.size:=hG.2;refine⟨rfl,ag▸Y,?_⟩;rw[am];refine O.upd hi a8 Y (λb o h=>.inl h) (λb o h=>h.imp id UT) ?_ ?_
  .refine((U.2.keep (D':=Nw D w5 w6) V a8 a8 λb o h=>⟨h,λe=>?_⟩).keep (D':=Nw D w T) ab aI aM λb o h=>⟨?_,λe=>?_⟩).mono a8
   .rcases h with h|h
    .have:=ak b o h;omega
    .omega
   .exact h.imp id λh=>⟨a8,a8⟩
   .rcases h with h|h
    .exact n3 o (e▸h)
    .omega
  .refine K.2.keep L a8 λb o h=>⟨h.imp id λh=>⟨a8,a8⟩,λe=>?_⟩;rcases h with h|h
   .have:=ak b o h;omega
   .omega
 .have be:¬((o.items.length:Int)=0):=a8
  go_wp2_with fail
  rename_i Kx hKx;have ao:=qL hKx;clear hKx;obtain⟨O,hG,d,ac,ho,e⟩:=HK.o;have hs:Ok25 C R E I n (S i):=ac i hi;have hf:Ok25 C R E I n (S j):=ac j hj;have ak:∀b o,D b o->b<w.heap.size:=hG.2;have aL:o.items.length<=10:=ho.2.2.1;have av:∀A,Gd D A->Dat D A (.slice ia o.items.length ic) (rg o.items)->Calls xt 21 #[.slice ia o.items.length ic] A λe w'=>e=.returned (.tuple #[.int .i64 (Zl o.items).1,.int .i64 (Zl o.items).2])/\Below A.heap.size A w':=λA H dA=>by
   refine(jP (XO o.items a8 ho.1) H.1 H.2 rfl λk p hp=>?_).mono ?_
   .match k,hp with
    |0,hp=>cases hp;exact dA
    |k+1,hp=>simp at hp
   .rintro e w' ⟨u,rfl,hb,hd⟩;rw[zux hd];exact⟨rfl,hb⟩
  have aR:=(zW af.o i _ (zsN B F hi).1).1;have aS:=(zW af.o j _ (zsN B F hj).1).1;have aV:=(zW af.o (3+i) _ (zsN B F hi).2).1;have aW:=(zW af.o (3+j) _ (zsN B F hj).2).1;have az:∀b o,D b o->¬(b=B i\/b=M i):=λb o h e=>e.elim (λe=>n1 o (e▸h)) λe=>n2 o (e▸h);by_cases hc:(Zl o.items).1=0
  .obtain⟨aN,hE⟩:=ho.ed hc;have am:zsY S o=ztC S i (ztt (S i) (S j) o.items):=(by unfold zsY;rw[Vq h0,Vm hc,ag,aB]);refine do6 (n:=(zs0 (S j) (S i).known o.items).length) (er:=.nilIface) (R:=λA N=>Keep (λk=>k=B i\/k=M i) A N/\Rpl (Nw D A N) (t+25) N (B i) (M i) (ztt (S i) (S j) o.items)) hi hj aR aS y4 a8 a8 a8 (λA H=>(zuP e hs hf a8 ((P.o A H).1 i hi).1 ((P.o A H).1 j hj).1 (P.o A H).2.1 n1 n2 aJ a8 aN hE aL (P.o A H).2.2).mono (by rintro e w' ⟨rfl,h1,h2⟩;exact⟨rfl,h1,h2⟩)) (λA N h=>h.1) ?_ ao.o rfl rfl rfl rfl rfl;intro w5 w6 Q Z U V t ht h2 h3 h5 h6 aw ax;have J:Keep (λk=>k=B i\/k=M i) W Q:=Keep.step Z U.1 V;have aU:=J.size;have G:∀A,Below Q.heap.size Q A->(∀k,k<3->Rpf D A (F k) (S k))/\Gd D A/\Dat D A (.slice ia o.items.length ic) (rg o.items):=λA H=>(by have hk:Keep (λk=>k=B i\/k=M i) w A:=((Keep.of_below' ae.o (Zp _)).trans J).trans (Keep.of_below' H (Zp _));exact⟨λk ah=>(O.f k ah).keep hk (by rintro(e|e);exact O.bf _ _ hi ah e.symm;exact O.mf _ _ hi ah e.symm) λb o h=>⟨h,az b o h⟩,hG.keep hk az,d.mono (λ_ _ h=>h) λb o x hd hx=>hk.cell_some hx (az b o hd)⟩)
   have au:=av Q (G Q (tv _ _)).2.1 (G Q (tv _ _)).2.2;rw[hc]at au;have ay:∀k,k=w.heap.size\/k=w.heap.size+1->¬(k=B i\/k=M i):=λk hk=>a8;refine do7 (k0:=(Zl o.items).2) (R:=λA N=>Keep (λk=>k=F i) A N/\Rpf (Nw D A N) N (F i) (ztt (S i) (S j) o.items)) hi hj (J.cell_some aV (ay _ (.inl rfl))) (J.cell_some aW (ay _ (.inl rfl))) (J.cell_some y4 (ay _ (.inr rfl))) a8 a8 au (λA H=>(zuo e hs hf a8 ((G A H).1 i hi) ((G A H).1 j hj) (λe=>by rw[O.ff _ _ hj hi e]) (G A H).2.1 n3 aN hE aL (G A H).2.2).mono (by rintro e w' ⟨rfl,h1,h2⟩;exact⟨rfl,h1,h2⟩)) (λA N h=>h.1) ?_ ht h2 h3 h5 h6 aw ax;intro ba bc T X K L;have ab:Keep (λk=>k=F i) Q T:=Keep.step X K.1 L;have Y:Keep (λk=>k=B i\/k=M i\/k=F i) w T:=((Keep.of_below' ae.o (Zp _)).trans (J.mono λk _ h=>h.elim .inl λh=>.inr (.inl h))).trans (ab.mono λk _ h=>.inr (.inr h));have s5:=Z.size;have s6:=U.1.size;have s7:=V.size;have aX:=X.size;have aY:=K.1.size;have aZ:=L.size;have s8:=ab.size;refine⟨rfl,ag▸Y,?_⟩;rw[am];refine O.upd hi a8 Y (λb o h=>.inl h) (λb o h=>h.imp id UT) ?_ ?_
   .refine(U.2.keep (D':=Nw D w5 w6) V a8 a8 λb o h=>⟨h,λe=>?_⟩).keep (D':=Nw D w T) ab aI aM λb o h=>⟨?_,λe=>?_⟩
    .rcases h with h|h
     .have:=ak b o h;omega
     .omega
    .exact h.imp id λh=>⟨a8,a8⟩
    .rcases h with h|h
     .exact n3 o (e▸h)
     .omega
   .refine K.2.keep L a8 λb o h=>⟨h.imp id λh=>⟨a8,a8⟩,λe=>?_⟩;rcases h with h|h
    .have:=ak b o h;omega
    .omega
  .have am:zsY S o=S:=(by unfold zsY;rw[Vq h0,Vq hc]);have ai:=zth o.items none 0 hc;replace ai:(Zl o.items).1=2\/(Zl o.items).1=3:=ai;refine do6 (m0:=M i) (n:=0) (er:=erV (Zl o.items)) (R:=λA N=>Below A.heap.size A N) hi hj aR aS y4 a8 a8 a8 (λA H=>(zuO e hs ((P.o A H).1 i hi).1 (P.o A H).2.1 ho.1 hc a8 (P.o A H).2.2).mono (by rintro e w' ⟨rfl,h1⟩;exact⟨rfl,h1⟩)) (λA N h=>Keep.of_below' h (Zp _)) ?_ ao.o rfl rfl rfl rfl rfl;intro w5 w6 Q Z U V t ht h2 h3 h5 h6 aw ax;have J:Keep qe W Q:=Keep.step Z (Keep.of_below' U (Zp _)) V;have G:∀A,Below Q.heap.size Q A->Gd D A/\Dat D A (.slice ia o.items.length ic) (rg o.items):=λA H=>(by have hk:Keep qe w A:=((Keep.of_below' ae.o (Zp _)).trans J).trans (Keep.of_below' H (Zp _));exact⟨hG.keep hk λ_ _ _=>id,d.mono (λ_ _ h=>h) λb o x hd hx=>hk.cell_some hx id⟩);have au:=av Q (G Q (tv _ _)).1 (G Q (tv _ _)).2;have aA:∀A,Dat D A (.agg #[.string sRp,.iface 115 (.agg #[.int .i64 (Zl o.items).1,.int .i64 (Zl o.items).2])]) (.agg [.v (.string sRp),jS (Zl o.items).1 (Zl o.items).2]):=λA=>(by rw[zmb hc];exact znT (.v _) (.ifc _ _ _ (znT (.v _) (.v _) rfl rfl)) rfl rfl);have ar:∀{u:Value}{p:PV}{A:World},Dat D A u p->∀(k:Nat) q,[p][k]?=some q->Dat D A (#[u].getD k undef) q:=λh k q hq=>by
    match k,hq with
    |0,hq=>cases hq;exact h
    |k+1,hq=>simp at hq
   refine do8 (e0:=((Zl o.items).1:Int)) (k0:=(Zl o.items).2) (s2:=zn4 (Zl o.items).1) (by rcases ai with h|h<;>rw[h]<;>decide) (by rw[zoJ];omega) (J.cell_some y4 id) au (λA H=>zsI (zpW sRp (Zl o.items) hc) (G A H).1 rfl (ar (.ifc _ _ _ (aA A)))) (λA H=>zsI (zrc sRp (Zl o.items) hc) (G A H).1 rfl (ar (.ifc _ _ _ (aA A)))) (λA H=>?_) (λA H=>zsI (zoT (Zl o.items).1 (by rcases ai with h|h<;>rw[h]<;>decide)) (G A H).1 rfl (ar (.v _))) ?_ ht h3 aw ax
   .have:=zsI (zom sRp (Zl o.items) b8 hc (by rcases ai with h|h<;>rw[h]<;>decide)) (G A H).1 rfl (ar (aA A));rw[show sRp++zoq=(⟨#[114,101,112,108,105,99,97,58,32]⟩:ByteArray) from by kernel_rfl]at this;exact this
   .intro T hb;have Y:Keep qe w T:=((Keep.of_below' ae.o (Zp _)).trans J).trans (Keep.of_below' hb (Zp _));refine⟨rfl,Y.mono λ_ _ h=>h.elim,?_⟩;rw[am];exact O.same a8 (Y.below (Zp _) λ_ _ h=>h) (λb o h=>.inl h) (λb o h=>h.imp id UT)
def Ke.sz{C:Qk}{R E I:List Nat}{k:List Fg}(h:Ke C R E k)(e:Env25 C R E I):k.length<=1000000/\∀f∈k,f.items.length<=1000000/\f.vec.length<=1000000/\∀y∈f.vec,y.holes.length<=1000000:=by
 have w:=h.l;have A:=h.m;have B:=e.e;refine⟨a8,λf j=>⟨by have:=yv j;omega,?_,λy o=>by have:=(h.s f j).2.2 y o;omega⟩⟩;have hi:=h.ik f j;have u:=Ji (f.vec.map En.rep) R (uw.2 hi.right.2) λy o=>by obtain⟨z,hz,rfl⟩:=wD.1 o;exact hi.rep z hz
 have:=e.ok.2;rw[wB]at u;omega
def SlR(D:xT)(j:World)(l:List Rc)(u:Value)(W:World):Prop:=∃a c,u=.slice a l.length c/\Dat (Nw D j W) W (.slice a l.length c) (lp l)
def SlR.stab{D:xT}{j:World}{l:List Rc}(u:Value)(A B:World)(h:SlR D j l u A)(hk:Keep qe A B):SlR D j l u B:=by obtain⟨a,c,e,h⟩:=h;exact⟨a,c,e,Nw.dat h hk⟩
def SlI(j:World)(u:Value)(W:World):Prop:=∃g,u=.slice (some ⟨g,0,none⟩) 1 1/\j.heap.size<=g/\W.heap[g]?=some (.cells #[.int .u64 0,.int .u64 18446744073709551615] 61 (0,0))
def SlI.stab{j:World}(u:Value)(A B:World)(h:SlI j u A)(hk:Keep qe A B):SlI j u B:=by obtain⟨g,e,o,w⟩:=h;exact⟨g,e,o,hk.obj w id⟩
def zuv{l:List Rc}(h:∀x∈l,x.item<zk):(l.filter λx=>mem [⟨0,18446744073709551615⟩] x.item)=l:=List.filter_eq_self.2 λx j=>by have:=h x j;rw[zw]at this;simp[mem];omega
def zva{C:Qk}{R E I:List Nat}{n t:Nat}{D:xT}{w:World}{B M F:Nat->Nat}{S:Nat->Rs}(e:Env25 C R E I)(V:OkS C R E I n S)(hn:n<=26)(hP:Play D t w B M F S)(hG:Gd D w):
 Calls xt 16 #[.agg (plv B F)] w λe P=>e=.returned (.bool true)/\Below w.heap.size w P:=by
 obtain⟨w1,O⟩:=xm (w.alloc (.cells (plv B F) 30));have an:Below w.heap.size w w1:=by rw[O];exact(tv _ w).alloc (Zp _) _
 have aH:w1.heap.size=w.heap.size+1:=by rw[O];simp
 have ay:w1.heap[w.heap.size]?=some (.cells (plv B F) 30 (0,0)):=by rw[O];exact tq _ _
 have Q:=qL (And.intro hP (And.intro hG (And.intro V e)));have HX:=qL ay;have ai:=qL an;clear ay an hP hG V e;dsimp only[plv]at O⊢;go_enter func16,ntmps16
 go_wp2_with fail
 rw[<-O];clear O;have aF:xt.follows .mixedOrders=true:=dL
 go_loopg [4] 3 (λg x wr=>∃j,j<=3/\g=3-j/\x=.int .i64 j/\Below w1.heap.size w1 wr)
 case atStart=>exact⟨0,X3 _,rfl,rfl,tv _ _⟩
 case round=>
  obtain⟨j,hj,rfl,rfl,G⟩:=hrel;by_cases N:j<3
  .have aG:(j:Int)<3:=a8;obtain⟨wq,aE⟩:∃wq,wq=wr:=⟨wr,rfl⟩;subst aE;obtain⟨hP,hG,V,e⟩:=Q.o;have hs:Ok25 C R E I n (S j):=V j N;have aD:=G.size;have L:∀W,Below wq.heap.size wq W->Rpl D t W (B j) (M j) (S j)/\Rpf D W (F j) (S j)/\Gd D W:=λW A=>(by have hk:Keep qe w W:=((Keep.of_below' ai.o (Zp _)).trans (Keep.of_below' G (Zp _))).trans (Keep.of_below' A (Zp _));exact⟨(hP.a j N).keep hk id id λb o h=>⟨h,id⟩,(hP.f j N).keep hk id λb o h=>⟨h,id⟩,hG.keep hk λ_ _ _=>id⟩);have ah:=(G.block w.heap.size a8).trans HX.o;obtain⟨ra,rc,ka,kc,f1,f2,f3⟩:=(L wq (tv _ _)).2.1;have q0:wq.cell? ⟨w.heap.size,j,none⟩=some (.pointer (some ⟨B j,0,none⟩)):=(zW ah j _ (zsN B F N).1).1;have q1:wq.cell? ⟨w.heap.size,3+j,none⟩=some (.pointer (some ⟨F j,0,none⟩)):=(zW ah (3+j) _ (zsN B F N).2).1;have q2:wq.cell? ⟨F j,1,none⟩=some (.slice ra (S j).recs.length rc):=(zW f1 1 _ rfl).1;have q3:wq.cell? ⟨F j,2,none⟩=some (.slice ka (S j).known.length kc):=(zW f1 2 _ rfl).1;have af:∀W,Below wq.heap.size wq W->Dat (Nw D wq W) W (.slice ra (S j).recs.length rc) (lp (S j).recs)/\Dat (Nw D wq W) W (.slice ka (S j).known.length kc) (kp (S j).known):=λW A=>(by have hk:Keep qe wq W:=Keep.of_below' A (Zp _);exact⟨f2.mono (λ_ _ h=>.inl h) λb o x hd hx=>hk.cell_some hx id,f3.mono (λ_ _ h=>.inl h) λb o x hd hx=>hk.cell_some hx id⟩)
   have ag:∀W,Below wq.heap.size wq W->Gd (Nw D wq W) W:=λW A=>Gd.new (w:=wq) (L W A).2.2 A.size;have aC:=hs.len e;have ac:∀W,Below wq.heap.size wq W->∀g,wq.heap.size<=g->W.heap[g]?=some (.cells #[.int .u64 0,.int .u64 18446744073709551615] 61 (0,0))->Calls xt 12 #[.pointer (some ⟨B j,0,none⟩),.slice (some ⟨g,0,none⟩) 1 1] W λe P=>Below W.heap.size W P/\∃u,e=.returned u/\SlR D wq (S j).recs u P:=λW A g hg hx=>by
    have ar:=(Yf.1 hx).1;have hR:Rpl (Nw D wq W) t W (B j) (M j) (S j):=(L W A).1.keep (S:=qe) (Keep.refl _ _) id id λb o h=>⟨.inl h,id⟩;refine(zum (ia:=some ⟨g,0,none⟩) (ic:=1) (items:=[⟨0,18446744073709551615⟩]) e hs hR (ag W A) (λs hs=>?_) b6 (zt9 hx ⟨.inr ⟨hg,ar⟩,.inr ⟨hg,ar⟩⟩)).mono ?_
    .simp only[wH]at hs;subst hs;rw[zw];exact⟨b8,b8⟩
    .rw[zuv λx hx=>(e.m _ (hs.x x hx).1).1];rintro e P ⟨a,c,rfl,hb,hd⟩;refine⟨hb,_,rfl,a,c,rfl,hd.mono (λb o h=>?_) λ_ _ _ _ h=>h⟩;have h1:=hb.size;have h2:=A.size;rcases h with(h|h)|h
     .exact .inl h
     .exact .inr ⟨h.1,a8⟩
     .exact .inr ⟨a8,h.2⟩
   have ax:∀W,Below wq.heap.size wq W->∀u,SlR D wq (S j).recs u W->Calls xt 38 #[u,.slice ra (S j).recs.length rc] W λe P=>e=.returned (.bool true)/\Below W.heap.size W P:=λW A u Z=>(by obtain⟨a,c,rfl,hd⟩:=Z;exact zvr a8 hd (af W A).1);have av:∀W,Below wq.heap.size wq W->Calls xt 15 #[.pointer (some ⟨B j,0,none⟩)] W λe P=>Below W.heap.size W P/\∃u,e=.returned u/\SlK D wq (S j).known u P:=λW A=>(by refine(zte (n:=0) (L W A).1 (L W A).2.2 hs.k.can (hs.k.sz e).1 (hs.k.sz e).2).mono ?_;rintro e P ⟨v,rfl,hb,hd⟩;obtain⟨a,c,rfl⟩:=zsM hd;refine⟨hb,_,rfl,a,c,rfl,hd.mono (λb o h=>h.imp id λh=>⟨V0 A.size h.1,h.2⟩) λ_ _ _ _ h=>h⟩);have aw:∀W,Below wq.heap.size wq W->∀u,SlK D wq (S j).known u W->Calls xt 39 #[u,.slice ka (S j).known.length kc] W λe P=>e=.returned (.bool true)/\Below W.heap.size W P:=λW A u Z=>(by obtain⟨a,c,rfl,hd⟩:=Z;have:=zsI (zfq (S j).known (S j).known (hs.k.kn.z (by have:=e.e;omega))) (ag W A) rfl (zuw hd (af W A).2);rw[uF rfl]at this;exact this)
   have ak:=qL ac;have am:=qL ax;have az:=qL av;have aj:=qL aw;have ae:=qL G;obtain⟨rl,ad⟩:=xm ((S j).recs.length);obtain⟨kl,ab⟩:=xm ((S j).known.length);rw[<-ad]at q2 am;rw[<-ab]at q3 aj;have aq:∀X Y:World,(Below wq.heap.size wq X/\X.cell? ⟨w.heap.size,j,none⟩=some (.pointer (some ⟨B j,0,none⟩))/\X.cell? ⟨w.heap.size,3+j,none⟩=some (.pointer (some ⟨F j,0,none⟩))/\X.cell? ⟨F j,1,none⟩=some (.slice ra rl rc)/\X.cell? ⟨F j,2,none⟩=some (.slice ka kl kc))->Below X.heap.size X Y->(Below wq.heap.size wq Y/\Y.cell? ⟨w.heap.size,j,none⟩=some (.pointer (some ⟨B j,0,none⟩))/\Y.cell? ⟨w.heap.size,3+j,none⟩=some (.pointer (some ⟨F j,0,none⟩))/\Y.cell? ⟨F j,1,none⟩=some (.slice ra rl rc)/\Y.cell? ⟨F j,2,none⟩=some (.slice ka kl kc)):=λX Y h hb=>⟨h.1.trans (hb.mono h.1.size),bc1 hb h.2.1,bc1 hb h.2.2.1,bc1 hb h.2.2.2.1,bc1 hb h.2.2.2.2⟩;have U:=qL aq;clear aq;have aA:Below wq.heap.size wq wq.drew:=(tv _ _).drew;clear G ac ax av aw L ag af f1 f2 f3 ah hs hP hG V e aC ad ab Q HX
   go_wp2_with fail
   refine Kg (Sw:=qe) 32 40 (λw9=>Below wq.heap.size wq w9/\w9.cell? ⟨w.heap.size,j,none⟩=some (.pointer (some ⟨B j,0,none⟩))/\w9.cell? ⟨w.heap.size,3+j,none⟩=some (.pointer (some ⟨F j,0,none⟩))/\w9.cell? ⟨F j,1,none⟩=some (.slice ra rl rc)/\w9.cell? ⟨F j,2,none⟩=some (.slice ka kl kc)) dL dL rfl ⟨aA,q0,q1,q2,q3⟩ ?_;simp only[wP,Wb];refine Jz ?_;refine V7 (SlI wq) SlI.stab rfl ?_ ?_
   .intro a5 w5 J hk T K H;have Q:=qL H;clear H;simp[Rds,zA,lk,Op.operands,Call.operands,RdEq]at T;go_simp;have au:∀o,Below w5.heap.size w5 (w5.alloc o):=λo=>(tv _ _).alloc (Zp _) o;exact Q.o _ _ (Keep.of_below' (au _) (Zp _)) (U.o _ _ J (au _)) ⟨_,rfl,J.1.size,tq _ _⟩
   simp only[Y1,yb];refine Jz ?_;refine V7 (SlR D wq (S j).recs) SlR.stab rfl ?_ ?_
   .intro a5 w5 J hk T K H;have Q:=qL H;clear H;simp[Rds,zA,lk,Op.operands,Call.operands,RdEq]at T;obtain⟨⟨e1,e2⟩,u,⟨e3,e4⟩,g,rfl,hg,hx⟩:=T;go_simp;refine(ak.o w5 J.1 g hg hx).mono ?_;rintro e w6 ⟨hb,u,rfl,Z⟩;exact Q.o _ _ (Keep.of_below' hb (Zp _)) (U.o _ _ J hb) Z
   simp only[Y1,yb];refine Jz ?_;refine V7 (λu _=>u=.bool true) (yj _) rfl ?_ ?_
   .intro a5 w5 J hk T K H;have Q:=qL H;clear H;simp[Rds,zA,lk,Op.operands,Call.operands,RdEq]at T;obtain⟨⟨u,⟨e1,e2⟩,Z⟩,e3,e4⟩:=T;go_simp;refine(am.o w5 J.1 u Z).mono ?_;rintro e w6 ⟨rfl,hb⟩;exact Q.o _ _ (Keep.of_below' hb (Zp _)) (U.o _ _ J hb) rfl
   simp only[Y1,yb];refine Jz ?_;refine zhg (SlK D wq (S j).known) SlK.stab rfl (zG rfl rfl) ?_ ?_
   .intro a5 w5 J hk T K H;have Q:=qL H;clear H;simp[Rds,zA,lk,Op.operands,Call.operands,RdEq]at T;go_simp;refine(az.o w5 J.1).mono ?_;rintro e w6 ⟨hb,u,rfl,Z⟩;exact Q.o _ _ (Keep.of_below' hb (Zp _)) (U.o _ _ J hb) Z
   simp only[Y1,yb];refine Jz ?_;refine zhg (λu _=>u=.bool true) (yj _) rfl (zG rfl rfl) ?_ ?_
   .intro a5 w5 J hk T K H;have Q:=qL H;clear H;simp[Rds,zA,lk,Op.operands,Call.operands,RdEq]at T;obtain⟨⟨u,⟨e1,e2⟩,Z⟩,e3,e4⟩:=T;go_simp;refine(aj.o w5 J.1 u Z).mono ?_;rintro e w6 ⟨rfl,hb⟩;exact Q.o _ _ (Keep.of_below' hb (Zp _)) (U.o _ _ J hb) rfl
   simp only[Y1,yb];refine Jz ?_;intro w2 ao aB;simp only[finG,WM,Y1,yb,wM,Wh,WO];simp only[Act.put,wu,wR,wS];rintro _ _ _ _ _ _;have HF:=qL (ae.o.trans (ao.1.mono aD));clear ao aB
   go_wp2_with fail
   go_roundg (3-(j+1));case measure=>omega
   case rel=>exact⟨j+1,N,rfl,rfl,HF.o⟩
  .obtain rfl:j=3:=a8;have ae:=qL G;clear G
   go_wp2_with fail
   go_ret;exact⟨rfl,ai.o.trans (ae.o.mono a8)⟩
def Play.sub{D j:xT}{t A:Nat}{w:World}{B M F:Nat->Nat}{S:Nat->Rs}(h:Play D t w B M F S)(ht:t<=A)(u:∀b o,D b o->j b o)(nd:∀i,i<3->∀o,¬j (B i) o/\¬j (M i) o/\¬j (F i) o):Play j A w B M F S:=
 ⟨λi hi=>((h.a i hi).keep (S:=qe) (Keep.refl _ _) id id λb o h=>⟨u b o h,id⟩).mono ht,λi hi=>(h.f i hi).keep (S:=qe) (Keep.refl _ _) id λb o h=>⟨u b o h,id⟩,h.bb,h.mm,h.ff,h.bm,h.bf,h.mf,nd⟩
def PB(B M F:Nat->Nat)(k:Nat):Prop:=∃i,i<3/\(k=B i\/k=M i\/k=F i)
structure PlI(C:Qk)(R E I:List Nat)(D:xT)(w2:World)(B M F:Nat->Nat)(j:Nat)(S:Nat->Rs)(wr:World):Prop where
 p:Play (Nw D w2 wr) (25*j) wr B M F S
 ok:OkS C R E I j S
 k:Keep (PB B M F) w2 wr
def PlI.step{C:Qk}{R E I:List Nat}{D:xT}{u wr:World}{B M F:Nat->Nat}{j:Nat}{S:Nat->Rs}{o:Opn}{ia:Option Addr}{Q:Nat}(h:PlI C R E I D u B M F j S wr)(e:Env25 C R E I)(hj:j<25)(ho:OpE E I o)(T:Gd D u)(N:∀i,i<3->B i<u.heap.size/\M i<u.heap.size/\F i<u.heap.size)(G:∀i,i<3->∀o,¬D (B i) o/\¬D (M i) o/\¬D (F i) o)(d:Dat D u (.slice ia o.items.length Q) (rg o.items))(obj:Obj):
 Calls xt 9 #[.agg (plv B F),.agg (opv o ia Q)] (wr.alloc obj) λe P=>e=.returned (.bool true)/\PlI C R E I D u B M F (j+1) (zsY S o) P:=by
 have A:Keep (PB B M F) u (wr.alloc obj):=h.k.alloc _;have H:∀b o,D b o->¬PB B M F b:=λb o J hb=>by
  obtain⟨i,hi,rfl|rfl|rfl⟩:=hb
  .exact(G i hi o).1 J
  .exact(G i hi o).2.1 J
  .exact(G i hi o).2.2 J
 have K:Gd (Nw D u (wr.alloc obj)) (wr.alloc obj):=Gd.new (w:=u) (T.keep A H) A.size;have O:Play (Nw D u (wr.alloc obj)) (25*j) (wr.alloc obj) B M F S:=h.p.same (Zp _) ((tv _ _).alloc (Zp _) _) (λb o h=>h.imp id λh=>⟨h.1,a9⟩) λb o h=>by
  rcases h with h|h
  .exact .inl (.inl h)
  .by_cases hb:b<wr.heap.size
   .exact .inl (.inr ⟨h.1,hb⟩)
   .exact .inr a8
 refine(zwH e h.ok a8 a8 O K ho (d.mono (λ_ _ h=>.inl h) λb o x J V=>A.cell_some V (H b o J))).mono ?_;rintro e' P ⟨rfl,hk,U⟩;have L:Keep (PB B M F) u P:=A.trans (hk.mono λk _ e=>⟨_,zs5 _,e⟩);have s1:=A.size;have s2:=hk.size;refine⟨rfl,U.sub a8 (λb o h=>?_) λi hi o=>?_,h.ok.step e ho a8,L⟩
 .rcases h with(h|h)|h
  .exact .inl h
  .exact .inr ⟨h.1,a8⟩
  .exact .inr ⟨a8,h.2⟩
 .obtain⟨X,Y,Z⟩:=G i hi o;obtain⟨l1,l2,l3⟩:=N i hi;exact⟨λh=>h.elim X a8,λh=>h.elim Y a8,λh=>h.elim Z a8⟩
def PlI.below{C:Qk}{R E I:List Nat}{D:xT}{w wr u:World}{B M F:Nat->Nat}{j:Nat}{S:Nat->Rs}(h:PlI C R E I D w B M F j S wr)(hb:Below wr.heap.size wr u):PlI C R E I D w B M F j S u:=by
 have A:=hb.size;have G:=h.k.size;refine⟨h.p.same (Zp _) hb (λb o h=>h.imp id λh=>⟨h.1,a8⟩) λb o h=>?_,h.ok,h.k.trans (Keep.of_below' hb (Zp _))⟩;rcases h with h|h
 .exact .inl (.inl h)
 .by_cases hb:b<wr.heap.size
  .exact .inl (.inr ⟨h.1,hb⟩)
  .exact .inr a8
def PlI.gd{C:Qk}{R E I:List Nat}{D:xT}{A wr:World}{B M F:Nat->Nat}{j:Nat}{S:Nat->Rs}(h:PlI C R E I D A B M F j S wr)(H:Gd D A)(u:∀i,i<3->∀o,¬D (B i) o/\¬D (M i) o/\¬D (F i) o):Gd (Nw D A wr) wr:=
 Gd.new (w:=A) (H.keep h.k λb o G hb=>by
  obtain⟨i,hi,rfl|rfl|rfl⟩:=hb
  .exact(u i hi o).1 G
  .exact(u i hi o).2.1 G
  .exact(u i hi o).2.2 G) h.k.size
def zwI{t b:Nat}{w:World}{l:List Rc}(h:MR t b w l):Calls xt 34 #[.map (some b)] w λe A=>e=.returned (.map (some w.heap.size))/\Below w.heap.size w A/\A.heap.size=w.heap.size+1/\MR t w.heap.size A l:=by
 obtain⟨D,G,B⟩:=h;obtain⟨u,j,hb,F,hs,C⟩:=G;have o:Below w.heap.size w (w.alloc (.map u j))/\(w.alloc (.map u j)).heap.size=w.heap.size+1/\MR t w.heap.size (w.alloc (.map u j)) l:=⟨(tv _ w).alloc (Zp _) _,tx _ _,D,⟨u,j,(MapKept.heap_alloc w _).1,F,hs,C⟩,B⟩;have E:=qL o;have H:=λw=>run_eql_map_nil_sl (P:=xt) w 82 _ _ (some b) underlying82
 clear B F hs C o;go_enter func34,ntmps34
 go_wp2;rw[tM func70 dL dL dL (e:=Extern.MapsClone.clone) dL,run_maps_clone_sl w 82 hb];simp only[Result.andThen];rw[Oper.upon_value]
 go_wp2;rw[run_typeAssert_map_sl _ 82 _ _ _ _ underlying82];simp only[Result.andThen];rw[Oper.upon_value]
 go_wp2;go_ret;exact⟨rfl,E.o⟩
def Dat.lay{D:xT}{w:World}{x:Value}{p:PV}(h:Dat D w x p):Dat (λb o=>D b o/\∃y,w.cell? ⟨b,o,none⟩=some y) w x p:=by
 induction h with
 |v x=>exact .v x
 |und x=>exact .und x
 |agg vs cs hs h1 _ ih=>exact .agg vs cs hs h1 ih
 |tup vs cs hs _ ih=>exact .tup vs cs hs ih
 |fn f va vb fs cs h1 h2 _ _ ih1 ih2=>exact .fn f va vb fs cs h1 h2 ih1 ih2
 |ifc t x p _ ih=>exact .ifc t x p ih
 |sl a cap sz es o b off u hc hz hm ha hsz hd _ ih=>exact .sl a cap sz es o b off u hc hz hm ha hsz (λj A=>⟨⟨(hd j A).1,_,(hd j A).2.1⟩,(hd j A).2⟩) ih
 |cp b off cs o u hd _ ih=>exact .cp b off cs o u (λj A=>⟨⟨(hd j A).1,_,(hd j A).2.1⟩,(hd j A).2⟩) ih
def MR.nocell{t b:Nat}{w:World}{l:List Rc}(h:MR t b w l)(o:Nat):w.cell? ⟨b,o,none⟩=none:=by obtain⟨D,⟨u,j,hb,_⟩,_⟩:=h;simp[World.cell?,hb]
def CMp(t N:Nat)(l:List Rc)(u:Value)(x:Wm):Prop:=∃h,u=.map (some h)/\N<=h/\MR t h x.1 l
def CKn(N:Nat)(k:List Fg)(u:Value)(x:Wm):Prop:=∃a c,u=.slice a k.length c/\Dat (λb _=>N<=b/\b<x.1.heap.size) x.1 (.slice a k.length c) (kp k)
def CMp.stab{t N g:Nat}{l:List Rc}(o:g<N)(u:Value)(x y:Wm)(h:CMp t N l u x)(hk:(zsK (λk=>k=g)).kp x y):CMp t N l u y:=by obtain⟨b,e,hb,j⟩:=h;exact⟨b,e,hb,j.keep (hk.1.block b j.lt a8)⟩
def CKn.stab{N g:Nat}{k:List Fg}(A:g<N)(u:Value)(x y:Wm)(h:CKn N k u x)(hk:(zsK (λk=>k=g)).kp x y):CKn N k u y:=by obtain⟨a,c,e,j⟩:=h;exact⟨a,c,e,j.mono (λb o h=>⟨h.1,vw h.2 hk.1.size⟩) λb o x j w=>hk.1.cell_some w (by show ¬b=g;omega)⟩
structure HCl(t N g:Nat)(i n:Nat)(l:List Rc)(k:List Fg)(w0:World)(x:Wm):Prop where
 kp:Keep (λk=>k=g) w0 x.1
 c:∃v1 v2,x.1.heap[g]?=some (.cells #[.int .u64 i,v1,v2,.int .u64 n,.bool false] 84 (0,0))/\(0∈x.2.1->CMp t N l v1 x)/\(1∈x.2.1->CKn N k v2 x)
def HCl.quiet{t N g i n:Nat}{l:List Rc}{k:List Fg}{w0 W:World}{x:Wm}(h:HCl t N g i n l k w0 x)(j:g<N)(hb:Keep qe x.1 W):HCl t N g i n l k w0 (W,x.2):=by obtain⟨A,B,o,u,w⟩:=h.c;have hk:(zsK (λk=>k=g)).kp x (W,x.2):=⟨hb.mono λ_ _ h=>h.elim,λ_ h=>h,λ_=>rfl⟩;exact⟨h.kp.trans (hb.mono λ_ _ h=>h.elim),A,B,hb.obj o id,λe=>CMp.stab j _ _ _ (u e) hk,λe=>CKn.stab j _ _ _ (w e) hk⟩
def HCl.st{t N g i n j:Nat}{l:List Rc}{k:List Fg}{w0:World}{x:Wm}{u:Value}(h:HCl t N g i n l k w0 x)(o:g<N)(E:(j=0/\CMp t N l u x)\/(j=1/\CKn N k u x)):
 (zsK (λk=>k=g)).kp x (x.1.setCell ⟨g,j+1,none⟩ u,j::x.2.1,x.2.2)/\HCl t N g i n l k w0 (x.1.setCell ⟨g,j+1,none⟩ u,j::x.2.1,x.2.2):=by
 have hk:(zsK (λk=>k=g)).kp x (x.1.setCell ⟨g,j+1,none⟩ u,j::x.2.1,x.2.2):=⟨(Keep.refl (λk=>k=g) x.1).setCell (p:=⟨g,j+1,none⟩) (λ_=>rfl) u,λk h=>Wj _ h,λ_=>rfl⟩;obtain⟨F,G,A,B,C⟩:=h.c;refine⟨hk,h.kp.trans hk.1,?_⟩;rcases E with⟨rfl,w⟩|⟨rfl,w⟩
 .exact⟨u,G,by simpa using zsw A 1 u,λ_=>CMp.stab o _ _ _ w hk,λe=>CKn.stab o _ _ _ (C ((V3.1 e).resolve_left b8)) hk⟩
 .exact⟨F,u,by simpa using zsw A 2 u,λe=>CMp.stab o _ _ _ (B ((V3.1 e).resolve_left b8)) hk,λ_=>CKn.stab o _ _ _ w hk⟩
def mkC(o:Oper):Option Nat:=match o.dst with
 |some _=>none
 | none=>match o.op with
   |.store t _ _=>if t = 82 then some 0 else some 1
   |_=>none
def zwO{D:xT}{t b m:Nat}{w:World}{s:Rs}(hR:Rpl D t w b m s)(hG:Gd D w)(hb:CanK s.known)(hl:s.known.length<=1000000)(hz:∀f∈s.known,f.items.length<=1000000/\f.vec.length<=1000000/\∀e∈f.vec,e.holes.length<=1000000):
 Calls xt 13 #[.pointer (some ⟨b,0,none⟩)] w λe L=>∃g h D',e=.returned (.pointer (some ⟨g,0,none⟩))/\Below w.heap.size w L/\w.heap.size<=g/\w.heap.size<=h/\g≠h/\(∀b o,D' b o->w.heap.size<=b/\b<L.heap.size/\b≠g/\b≠h)/\Rpl D' t L g h s:=by
 obtain⟨ka,kc,B,h2,h3⟩:=hR;have au:=(Yf.1 B).1;have ao:=h2.lt;have c0:w.cell? ⟨b,0,none⟩=some (.int .u64 s.id):=(zW B 0 _ rfl).1;have I:w.cell? ⟨b,1,none⟩=some (.map (some m)):=(zW B 1 _ rfl).1;have c2:w.cell? ⟨b,2,none⟩=some (.slice ka s.known.length kc):=(zW B 2 _ rfl).1;have c3:w.cell? ⟨b,3,none⟩=some (.int .u64 s.next):=(zW B 3 _ rfl).1;have c4:w.cell? ⟨b,4,none⟩=some (.bool false):=(zW B 4 _ rfl).1;have ag:∀W,Keep (λk=>k=w.heap.size) w W->Calls xt 35 #[.slice ka s.known.length kc] W λe L=>∃u,e=.returned u/\Below W.heap.size W L/\KO W.heap.size L u s.known:=λW hW=>
  zrM s.known (h3.mono (D':=D) (λ_ _ h=>h) λb o x J A=>hW.cell_some A (by show ¬b=w.heap.size;have:=hG.2 b o J;omega)) (λb o h=>vw (hG.2 b o h) hW.size) (λf hf=>⟨(hb.right f hf).1.lt,(hb.gi.ok f hf).1.bd⟩) hl hz
 have af:∀W,Keep (λk=>k=w.heap.size) w W->Calls xt 34 #[.map (some m)] W λe L=>e=.returned (.map (some W.heap.size))/\Below W.heap.size W L/\L.heap.size=W.heap.size+1/\MR t W.heap.size L s.recs:=λW hW=>zwI (h2.keep (hW.block m ao a8));have ab:=qL ag;have am:=qL af;obtain⟨kl,V⟩:=xm (s.known.length);obtain⟨si,X⟩:∃q,q=s.id:=⟨_,rfl⟩;obtain⟨sn,Y⟩:∃q,q=s.next:=⟨_,rfl⟩;rw[<-V]at ab c2;rw[<-X]at c0;rw[<-Y]at c3;have aj:=qL (And.intro V (And.intro X Y));have Z:xt.follows .mixedOrders=true:=dL
 clear B h2 h3 ag af hG hb hl hz V X Y;go_enter func13,ntmps13
 go_wp2_with fail
 rename_i Kx hKx;have ak:=qL hKx;clear hKx;obtain⟨P,H⟩:=xm (w.alloc (.cells #[.int .u64 si,.map (some m),.slice ka kl kc,.int .u64 sn,.bool false] 84));have U:Keep (λk=>k=w.heap.size) w P:=by rw[H];exact(Keep.refl _ _).alloc _
 have av:P.heap.size=w.heap.size+1:=by rw[H];exact tx _ _
 have ah:P.heap[w.heap.size]?=some (.cells #[.int .u64 si,.map (some m),.slice ka kl kc,.int .u64 sn,.bool false] 84 (0,0)):=by rw[H];exact tq _ _
 rw[<-H];clear H;have hN:w.heap.size<w.heap.size+1:=UA _;have hF:∀x:Wm,Keep (λk=>k=w.heap.size) P.drew x.1->x.1.cell? ⟨b,1,none⟩=some (.map (some m))/\x.1.cell? ⟨b,2,none⟩=some (.slice ka kl kc):=λx hk=>
  have ac:Keep (λk=>k=w.heap.size) w x.1:=U.trans ((Keep.of_below' (tv _ _).drew (Zp _)).trans hk)
  ⟨ac.cell_some I (by show ¬b=w.heap.size;omega),ac.cell_some c2 (by show ¬b=w.heap.size;omega)⟩
 have HF:=qL hF;have ai:=qL U;clear c0 I c2 c3 c4 hF U;refine zvo (Sw:=λk=>k=w.heap.size) mkC 21 (HCl t (w.heap.size+1) w.heap.size si sn s.recs s.known P.drew) Z dL rfl ⟨Keep.refl _ _,_,_,ah,(λh=>by cases h),λh=>by cases h⟩ ?_;have ae:∀x:Wm,HCl t (w.heap.size+1) w.heap.size si sn s.recs s.known P.drew x->Keep (λk=>k=w.heap.size) w x.1:=λx A=>ai.o.trans ((Keep.of_below' (tv _ _).drew (Zp _)).trans A.kp);have M:=qL ae;clear ae ah;refine xds ?_;refine zt0 (CMp t (w.heap.size+1) s.recs) (CMp.stab hN) rfl ?_ ?_
 .intro a x A hk N K C;have Q:=qL C;clear C;show Oper.wp _ _ _ _ _ _;simp[Pl.Rds,zA,Pl.lk,Op.operands,Call.operands,RdEq]at N;go_simp;refine(am.o x.1 (M.o x A)).mono ?_;rintro e w5 ⟨rfl,T,aw,an⟩;have F:Keep qe x.1 w5:=Keep.of_below' T (Zp _);have h6:=(M.o x A).size;have h7:=(Yf.1 A.c.choose_spec.choose_spec.1).1;exact Q.o _ (w5,x.2) ⟨F.mono λ_ _ h=>h.elim,λ_ h=>h,λ_=>rfl⟩ (A.quiet hN F) ⟨_,rfl,h7,an⟩
 simp only[Y1,yb];refine xds ?_;refine zt0 (CKn (w.heap.size+1) s.known) (CKn.stab hN) rfl ?_ ?_
 .intro a x A hk N K C;have Q:=qL C;clear C;show Oper.wp _ _ _ _ _ _;simp[Pl.Rds,zA,Pl.lk,Op.operands,Call.operands,RdEq]at N;go_simp;refine(ab.o x.1 (M.o x A)).mono ?_;rintro e w5 ⟨u,rfl,T,ad⟩;have F:Keep qe x.1 w5:=Keep.of_below' T (Zp _);have h7:=(Yf.1 A.c.choose_spec.choose_spec.1).1;have J:=KO.dat (D:=λb _=>w.heap.size+1<=b/\b<w5.heap.size) ad λb o B h2=>⟨a8,h2⟩;obtain⟨S,I,rfl,_⟩:=RwF.shape ad;exact Q.o _ (w5,x.2) ⟨F.mono λ_ _ h=>h.elim,λ_ h=>h,λ_=>rfl⟩ (A.quiet hN F) ⟨S,I,rfl,J⟩
 simp only[Y1,yb];refine xds ?_;refine zt0 (λ_ _=>True) (λ_ _ _ _ _=>trivial) rfl ?_ ?_
 .intro a x A hk N K C;have Q:=qL C;clear C;show 0∉x.2.1->∃g:Nat,Oper.wp _ _ _ _ _ _;intro h0;refine⟨x.2.2,?_⟩;simp[Pl.Rds,zA,Pl.lk,Op.operands,Call.operands,RdEq]at N;obtain⟨⟨p1,p2⟩,u,⟨p3,p4⟩,h,rfl,hh,hm⟩:=N;obtain⟨v1,v2,O,q1,q2⟩:=A.c;have d0:x.1.cell? ⟨w.heap.size,1,none⟩=some v1:=(zW O 1 _ rfl).1;have d1:x.1.frozen? ⟨w.heap.size,1,none⟩=false:=(zW O 1 _ rfl).2;go_simp;have G:=A.st (j:=0) (u:=.map (some h)) hN (.inl ⟨rfl,h,rfl,hh,hm⟩);exact Q.o undef _ G.1 G.2 trivial
 simp only[Y1,yb];refine xds ?_;refine zt0 (λ_ _=>True) (λ_ _ _ _ _=>trivial) rfl ?_ ?_
 .intro a x A hk N K C;have Q:=qL C;clear C;show 1∉x.2.1->∃g:Nat,Oper.wp _ _ _ _ _ _;intro h0;refine⟨x.2.2,?_⟩;simp[Pl.Rds,zA,Pl.lk,Op.operands,Call.operands,RdEq]at N;obtain⟨⟨p1,p2⟩,u,⟨p3,p4⟩,S,I,rfl,J⟩:=N;obtain⟨v1,v2,O,q1,q2⟩:=A.c;have d0:x.1.cell? ⟨w.heap.size,2,none⟩=some v2:=(zW O 2 _ rfl).1;have d1:x.1.frozen? ⟨w.heap.size,2,none⟩=false:=(zW O 2 _ rfl).2;go_simp;have G:=A.st (j:=1) (u:=.slice S s.known.length I) hN (.inr ⟨rfl,S,I,rfl,J⟩);exact Q.o undef _ G.1 G.2 trivial
 simp only[Y1,yb];intro x A hk;simp only[Pl.finG,Y1,yb,tn,WM];simp only[Act.put,wu,wR,wS];intro u1 aq u2 ar;refine⟨trivial,λE=>?_⟩;have h0:0∈x.2.1:=E 11 b8 0 rfl rfl;have B:1∈x.2.1:=E 13 b8 1 rfl rfl;refine ak.o _ _ ?_;obtain⟨S,I,rfl,_⟩:=ar;obtain⟨h,rfl,_⟩:=aq;have HX:=qL (And.intro A (And.intro h0 B));clear E hk A h0 B
 go_wp2_with fail
 go_ret;obtain⟨A,h0,B⟩:=HX.o;obtain⟨v1,v2,O,q1,q2⟩:=A.c;obtain⟨h,rfl,hh,hm⟩:=q1 h0;obtain⟨S,I,rfl,J⟩:=q2 B;obtain⟨e1,e2,e3⟩:=aj.o;rw[e2,e3]at O;exact⟨_,h,_,rfl,(M.o x A).below (Zp _) λq hq h=>a8,Zp _,a8,a8,λb o J=>⟨a8,J.1.2,a8,λe=>by
  obtain⟨_,y,hy⟩:=J;rw[e,hm.nocell o]at hy;cases hy⟩,S,I,O,hm,J.lay⟩
def nlV:Value:=.iface 66 (.int .i64 1)
def zw0(i:Nat)(v:ByteArray)(w:World):Calls xt 14 #[.pointer none,.int .u64 (i:Nat),.string v] w λe j=>e=.returned (.tuple #[zR,nlV])/\Below w.heap.size w j:=by
 go_enter func14,ntmps14
 go_wp2_with fail
 refine tA (zs4 (cs:=#[.int .u64 0,.int .u64 0,.int .u64 0,.string ⟨#[]⟩]) rfl rfl (tq _ _) underlying47 dL) rfl ?_;exact⟨rfl,(tv _ w).alloc (Zp _) _⟩
def zwZ(i:Nat)(w:World):Calls xt 18 #[.pointer none,.int .u64 (i:Nat)] w λe j=>e=.returned (.tuple #[zR,.bool false])/\Below w.heap.size w j:=by
 go_enter func18,ntmps18
 go_wp2_with fail
 refine tA (zs4 (cs:=#[.int .u64 0,.int .u64 0,.int .u64 0,.string ⟨#[]⟩]) rfl rfl (tq _ _) underlying47 dL) rfl ?_;exact⟨rfl,(tv _ w).alloc (Zp _) _⟩
def zvK(w:World):Calls xt 17 #[.pointer none,.slice none 0 0,.slice none 0 0] w λe j=>e=.returned (.tuple #[.slice none 0 0,nlV])/\Below w.heap.size w j:=by
 go_enter func17,ntmps17
 go_wp2_with fail
 refine tA (t9 rfl _ _ _) rfl ?_;exact⟨rfl,((tv _ w).alloc (Zp _) _).alloc b6 _⟩
def zwK(a:Option Addr)(w:World):Calls xt 10 #[.pointer none,.pointer a,.slice none 0 0] w λe j=>e=.returned (.tuple #[.int .i64 0,nlV])/\Below w.heap.size w j:=by
 go_enter func10,ntmps10
 go_wp2_with fail
 refine tA (t9 rfl _ _ _) rfl ?_;exact⟨rfl,tv _ _⟩
def zwu(a:Addr)(w:World):Calls xt 10 #[.pointer (some a),.pointer none,.slice none 0 0] w λe j=>e=.returned (.tuple #[.int .i64 0,nlV])/\Below w.heap.size w j:=by
 go_enter func10,ntmps10
 go_wp2_with fail
 refine tA (t9 rfl _ _ _) rfl ?_;exact⟨rfl,tv _ _⟩
def zvU(w:World):Calls xt 12 #[.pointer none,.slice none 0 0] w λe j=>e=.returned (.slice none 0 0)/\Below w.heap.size w j:=by
 go_enter func12,ntmps12
 go_wp2_with fail
 go_ret;exact⟨rfl,(tv _ w).alloc (Zp _) _⟩
def zwt(w:World):Calls xt 15 #[.pointer none] w λe j=>e=.returned (.slice none 0 0)/\Below w.heap.size w j:=by
 go_enter func15,ntmps15
 go_wp2_with fail
 go_ret;exact⟨rfl,tv _ _⟩
def zwn(w:World):Calls xt 13 #[.pointer none] w λe j=>e=.returned (.pointer none)/\Below w.heap.size w j:=by
 go_enter func13,ntmps13
 go_wp2_with fail
 go_ret;exact⟨rfl,tv _ _⟩
def zwE{l:List Opn}{i:Nat}(h:ztR l=true)(hb:∀o∈l,BdO o):Env25 (λ_=>List.range 27) [0,10,20] (edO l++[i,i+1]) (l.map Opn.item)/\∀o∈l,OpE (edO l++[i,i+1]) (l.map Opn.item) o:=by
 obtain⟨e,A⟩:=zu9 h hb;have F:=zt4 l λo ho=>((ztG h).2 o ho).2;have G:=(ztG h).1;refine⟨⟨e.ok,e.c,by simp[edO],by rw[wi];simp only[ww,Wt];omega,e.i,λi hi=>?_⟩,λo ho=>?_⟩
 .obtain⟨j,u,w⟩:=e.m i hi;exact⟨j,u0 _ u,λh=>u0 _ (w h)⟩
 .obtain⟨j,u,w,C,E⟩:=A o ho;exact⟨j,u,w,C,λx B=>u0 _ (E x B)⟩
def zwm{C:Qk}{R E I:List Nat}{D:xT}{w2 wr:World}{B M F:Nat->Nat}{j i:Nat}{S:Nat->Rs}{v:ByteArray}(h:PlI C R E I D w2 B M F j S wr)(e:Env25 C R E I)(hj:j<=25)(hi:i<zk/\i∈E/\(i+1<zk->i+1∈E))(hG:Gd D w2)(ag:∀i,i<3->∀o,¬D (B i) o/\¬D (M i) o/\¬D (F i) o):
 Calls xt 13 #[.pointer (some ⟨B 1,0,none⟩)] wr λe A=>∃g,e=.returned (.pointer (some ⟨g,0,none⟩))/\Below wr.heap.size wr A /\
  Calls xt 14 #[.pointer (some ⟨g,0,none⟩),.int .u64 (i:Nat),.string v] A λe Q=>e=.returned (.tuple #[rcv (ztL (S 1) i v),.nilIface])/\Below wr.heap.size wr Q /\
   ∀W,Below Q.heap.size Q W->Calls xt 15 #[.pointer (some ⟨g,0,none⟩)] W λe w5=>∃a n c,e=.returned (.slice a n c)/\n<=c/\c<=2 ^ 63-1/\Below W.heap.size W w5/\MuF (W.heap.size<=·) w5 (.slice a n c):=by
 have K:=h.ok 1 b8;have G:=h.gd hG ag;refine(zwO (h.p.a 1 b8) G K.k.can (K.k.sz e).1 (K.k.sz e).2).mono ?_;rintro e3 A ⟨g,q,D',rfl,H,hg,hq,ah,U,L⟩;refine⟨g,rfl,H,?_⟩;have af:Keep qe wr A:=Keep.of_below' H (Zp _);have T:=H.size;have ai:g<A.heap.size:=(Yf.1 L.choose_spec.choose_spec.1).1;have aj:q<A.heap.size:=L.choose_spec.choose_spec.2.1.lt;have V:Gd (λb o=>Nw D w2 wr b o\/D' b o) A:=⟨(G.keep af λ_ _ _=>id).1.mono (λ_ _ h=>.inl h) λ_ _ _ _ h=>h,λb o J=>J.elim (λh=>vw (G.2 b o h) T) λh=>(U b o h).2.1⟩;have X:Rpl (λb o=>Nw D w2 wr b o\/D' b o) (25*j) A g q (S 1):=L.keep (S:=qe) (Keep.refl _ _) id id λb o h=>⟨.inr h,id⟩;have P:∀z,wr.heap.size<=z->(z=g\/z=q)->∀o,¬(Nw D w2 wr z o\/D' z o):=λz hz he o J=>by
  rcases J with J|J
  .have:=G.2 _ _ J;omega
  .have:=U _ _ J;omega
 refine(zvG (v:=v) e K hj hi X V (P g hg (.inl rfl)) (P q hq (.inr rfl)) ah a8).mono ?_;rintro e4 Q ⟨rfl,N,ac⟩;have ad:Below wr.heap.size wr Q:=H.trans (N.below T λk hk e=>a8);refine⟨rfl,ad,λW hW=>?_⟩;have ab:=Gd.new (w:=A) (w0:=A) (V.keep N λb o J e=>P b a8 a8 o J) N.size;have Z:Keep qe Q W:=Keep.of_below' hW (Zp _);have O:Ke C R E (ztM (S 1) i v).known:=K.k.do rfl (ztd e hi K.i.1 K.i.2 (by have:=K.ctr i;omega)) e.ok e.z;refine(zwa (ac.keep Z id id λb o h=>⟨h,id⟩) (ab.keep Z λ_ _ _=>id) O.can (O.sz e).1 (O.sz e).2).mono ?_;rintro e5 w5 ⟨u,rfl,ae,Y⟩;obtain⟨a,c,rfl,h1,h2,_⟩:=RwF.shape Y;exact⟨a,_,c,rfl,h1,h2,ae,KO.mu Y⟩
def zvW{C:Qk}{R E I:List Nat}{D:xT}{H wr:World}{B M F:Nat->Nat}{j i:Nat}{S:Nat->Rs}{v:ByteArray}(h:PlI C R E I D H B M F j S wr)(e:Env25 C R E I)(L:j<=25)(hi:i<zk/\i∈E/\(i+1<zk->i+1∈E))(J:Gd D H)(A:∀i,i<3->∀o,¬D (B i) o/\¬D (M i) o/\¬D (F i) o):
 ∀W,Below wr.heap.size wr W->(Calls xt 16 #[.agg (plv B F)] W λe w=>e=.returned (.bool true)/\Below W.heap.size W w) /\
  Calls xt 14 #[.pointer (some ⟨B 1,0,none⟩),.int .u64 (i:Nat),.string v] W λe w=>e=.returned (.tuple #[rcv (ztL (S 1) i v),.nilIface])/\Keep (PB B M F) W w:=λW K=>by
 have u:=h.below K;have G:=u.gd J A;have N:=h.ok 1 b8;refine⟨zva e u.ok a8 u.p G,(zvG (v:=v) e N L hi (u.p.a 1 b8) G (λo=>(u.p.nd 1 b8 o).1) (λo=>(u.p.nd 1 b8 o).2.1) (u.p.bm 1 1 b8 b8) a8).mono ?_⟩;rintro O w ⟨rfl,hk,_⟩;exact⟨rfl,hk.mono λk _ h=>⟨1,b8,h.imp id .inl⟩⟩
end
end Go.Proofs.YtmpnbdhadjfbhaaGreatDoor
