import Derived.Test.YtjdjjlkifdimkaaGreatDoorB25
set_option maxHeartbeats 16000000
set_option linter.all false
set_option maxRecDepth 100000
namespace Go.Proofs.YtjdjjlkifdimkaaGreatDoor
open Go.Proofs.Tryz
open Go.Proofs.Tryz renaming prog->xT
section
open Go.RowKit
attribute [-go_sem] z7
def k25:List Fg:=znP 5 1 0
def r25:Rc:=⟨5,1,0,⟨#[97]⟩⟩
def zsP:CanK k25:=by
 have u:(1:Nat)<zk:=by rw[zw];decide
 have o:(0:Nat)<zk:=by rw[zw];decide
 refine⟨⟨λf j=>?_,by simp[k25,znP]⟩,by simp[k25,znP,xh]⟩;simp only[k25,znP,wK]at j;subst j;exact⟨zkS u o,by simp[zl9],by simp[Nrm,NF,zw],b8⟩
def zvd{i r x:Nat}(h:hasK k25 i r x=true):i=5:=by obtain⟨f,j,o,_⟩:=(zfo zsP.right).1 h;simp only[k25,znP,wK]at j;subst j;simp[mem]at o;omega
def zve:vh zn [] k25=k25:=znD rfl zic zsP.right zsP λi r x _ _=>by rw[zcY];simp[zn]
def zuB:Env25 (λ_=>List.range 27) [1,2] [0,5,6,10] [5]:=
 ⟨⟨λr=>b8,b8⟩,λr x j=>b7,b8,b8,b8,λi hi=>by
   simp only[wK]at hi;subst hi;exact⟨by rw[zw];decide,b8,λ_=>b8⟩⟩
def a25:Rs:=⟨1,[r25],k25,1⟩
def zvF:ztM ⟨1,[],[],0⟩ 5 ⟨#[97]⟩=a25:=by show (⟨1,_,vh zn [] (znP 5 1 0),_⟩:Rs)=_;rw[show vh zn [] (znP 5 1 0)=k25 from zve];rfl
def b25:Rs:=⟨2,[],[],0⟩
def zuK(a:Nat)(j:a<=9):Nrm [⟨a,9⟩]:=qG j (by rw[zw];decide)
def zuN(a:Nat)(j:a<=9):vh zn [] (znF k25 [⟨a,9⟩])=if a<=5 then k25 else []:=by
 have o:=zsP.right;refine znD rfl zic (zn1 o (zuK a j)).right ?_ λi r x hi u=>?_
 .split
  .exact zsP
  .exact zaJ
 .rw[zof o (zuK a j) hi u,zcY];by_cases h:hasK k25 i r x=true
  .have:=zvd h;subst this;split
   .rw[h];simp[zn,mem];omega
   .rw[h,zcY];simp[zn,mem];omega
  .rw[UI]at h;rw[h];split
   .rw[h];simp[zn]
   .rw[zcY];simp[zn]
def zua:ztt b25 a25 [⟨6,9⟩]=b25/\zs0 a25 [] [⟨6,9⟩]=[]:=by refine⟨?_,rfl⟩;show (⟨2,_,vh zn [] (znF k25 [⟨6,9⟩]),0⟩:Rs)=_;rw[zuN 6 b6];rfl
def zub:ztt b25 a25 [⟨0,9⟩]=⟨2,[r25],k25,0⟩/\zs0 a25 [] [⟨0,9⟩]=[r25]:=by refine⟨?_,rfl⟩;show (⟨2,_,vh zn [] (znF k25 [⟨0,9⟩]),0⟩:Rs)=_;rw[zuN 0 b6];rfl
def zt9{D:Qk}{w:World}{g lo hi:Nat}{t:TypeId}(h:w.heap[g]?=some (.cells #[.int .u64 lo,.int .u64 hi] t (0,0)))(y:D g 0/\D g 1):Dat D w (.slice (some ⟨g,0,none⟩) 1 1) (rg [⟨lo,hi⟩]):=
 .sl _ 1 2 [Q2 ⟨lo,hi⟩] .sh g 0 (λj=>#[.int .u64 lo,.int .u64 hi].getD j undef) (Zp _) (λh=>by cases h) dE (λ_=>rfl) (λi p o=>by
  match i,o with
  |0,o=>cases o;rfl
  |i+1,o=>simp at o) (λj A=>by
  rw[wy];match j,A with
  |0,_=>exact⟨y.1,(zW h 0 _ rfl).1,rfl⟩
  |1,_=>exact⟨y.2,(zW h 1 _ rfl).1,rfl⟩) λi q j p u o=>by
  match i,u with
  |0,u=>
    cases u;match j,o with
    |0,o=>cases o;exact .v _
    |1,o=>cases o;exact .v _
  |i+1,u=>simp at u
def zt1{D:Qk}{w:World}{a E b bm N G lo:Nat}(T:Ok25 (λ_=>List.range 27) [1,2] [0,5,6,10] [5] 1 a25)(U:Ok25 (λ_=>List.range 27) [1,2] [0,5,6,10] [5] 1 b25)(L:lo=0\/lo=6)(O:Gd D w)(P:Rpl D N w a E a25)(hb:Rpl D G w b bm b25)(nd:∀o,¬D b o/\¬D bm o)(K:b≠bm)(V:a≠b/\a≠bm/\E≠b/\E≠bm)(ht:G<1000)(X:b<w.heap.size/\bm<w.heap.size):
 Calls xT 11 #[.pointer (some ⟨b,0,none⟩),.pointer (some ⟨a,0,none⟩),.slice (some ⟨w.heap.size,0,none⟩) 1 1] (w.alloc (.cells #[.int .u64 lo,.int .u64 9] 64)) λe A=>e=.returned (.tuple #[.int .i64 (zs0 a25 [] [⟨lo,9⟩]).length,.nilIface])/\Keep (λk=>k=b\/k=bm) w A/\Gd (Nw D w A) A/\Rpl (Nw D w A) (G+25) A b bm (ztt b25 a25 [⟨lo,9⟩])/\Rpl (Nw D w A) N A a E a25:=by
 obtain⟨j,y⟩:=xm (w.alloc (.cells #[.int .u64 lo,.int .u64 9] 64));have u:Keep qe w j:=by rw[y];exact(Keep.refl _ _).alloc _
 have ab:j.heap.size=w.heap.size+1:=by rw[y];exact tE _ _
 have M:j.heap[w.heap.size]?=some (.cells #[.int .u64 lo,.int .u64 9] 64 (0,0)):=by rw[y];exact tx _ _
 rw[<-y];have H:Gd (Nw D w j) j:=Gd.new (w:=w) (O.keep u λ_ _ _=>id) b6;have F:∀o,¬Nw D w j b o/\¬Nw D w j bm o:=λo=>⟨λh=>h.elim (nd o).1 b6,λh=>h.elim (nd o).2 b6⟩;have I:Rpl (Nw D w j) N j a E a25:=P.keep u id id λb o h=>⟨.inl h,id⟩;have J:Rpl (Nw D w j) G j b bm b25:=hb.keep u id id λb o h=>⟨.inl h,id⟩;have Y:Nrm [⟨lo,9⟩]:=zuK lo b6;refine(zuP (ic:=1) (ia:=some ⟨w.heap.size,0,none⟩) (items:=[⟨lo,9⟩]) zuB U T b6 J I H (λo=>(F o).1) (λo=>(F o).2) K b6 Y (λx hx=>?_) b8 (zt9 M ⟨.inr ⟨b6,b6⟩,.inr ⟨b6,b6⟩⟩)).mono ?_
 .rcases zhC hx with h|h
  .rcases L with e|e<;>subst e<;>subst h<;>simp
  .subst h;simp
 .rintro e A ⟨rfl,hk,Z⟩;have C:Keep (λk=>k=b\/k=bm) w A:=(u.mono λ_ _ h=>h.elim).trans hk;have ac:=hk.size;have Q:∀B o,D B o->¬(B=b\/B=bm):=λB o h e=>e.elim (λe=>(nd o).1 (e▸h)) λe=>(nd o).2 (e▸h);exact⟨rfl,C,Gd.new (w:=w) (O.keep C Q) b6,Z.keep (S:=qe) (Keep.refl _ _) id id λB o h=>⟨by
   rcases h with(h|h)|h
   .exact .inl h
   .exact .inr ⟨h.1,b6⟩
   .exact .inr ⟨b6,h.2⟩,id⟩,P.keep C b6 b6 λB o h=>⟨.inl h,Q B o h⟩⟩
def zu5{D:Qk}{w:World}(hG:Gd D w):Calls xT 8 #[] w λe G=>e=.returned (.bool true)/\Below w.heap.size w G:=by
 have h0:Ok25 (λ_=>List.range 27) [1,2] [0,5,6,10] [5] 0 ⟨1,[],[],0⟩:=⟨Ke.nil,List.Pairwise.nil,λx hx=>by simp at hx,Zp _,by rw[zw];decide,b8⟩;have h2:Ok25 (λ_=>List.range 27) [1,2] [0,5,6,10] [5] 0 b25:=⟨Ke.nil,List.Pairwise.nil,λx hx=>by simp[b25]at hx,Zp _,by rw[b25,zw];decide,by simp[b25]⟩;have h1:=h0.put zuB (i:=5) (v:=⟨#[97]⟩) b8 dE b6;rw[zvF]at h1;go_enter func8,ntmps8
 go_wp2_with (first
  |(go_at_call 20;refine(zuI 1 D w).mono ?_;rintro e w1 ⟨rfl,ah,aI,ar⟩)
  |(go_at_call 20;refine(zuI 2 D w1).mono ?_;rintro e y ⟨rfl,N,aM,X⟩))
 have L:Below w.heap.size w y:=ah.trans (N.mono b6);have an:Keep qe w1 y:=Keep.of_below' N (Zp _);have M:Gd D y:=hG.keep (S:=qe) (Keep.of_below' L (Zp _)) λ_ _ _=>id;have J:Rpl D 0 y (w.heap.size+1) w.heap.size ⟨1,[],[],0⟩:=ar.keep an id id λb o h=>⟨h,id⟩;have j:=hG.2;rw[aI]at X;have hp:=zvG (i:=5) (v:=⟨#[97]⟩) zuB h0 b6 b8 J M (λo h=>by have:=j _ _ h;omega) (λo h=>by have:=j _ _ h;omega) b6 b6;rw[zvF]at hp;have HP:qA (Calls xT 22 #[.pointer (some ⟨w.heap.size+1,0,none⟩),.int .u64 5,.string ⟨#[97]⟩] y λe G=>e=.returned (.tuple #[.agg #[.int .u64 5,.int .u64 1,.int .u64 0,.string ⟨#[97]⟩],.nilIface])/\Keep (λk=>k=w.heap.size+1\/k=w.heap.size) y G/\Rpl (Nw D y G) (0+1) G (w.heap.size+1) w.heap.size a25):=qL hp;have aD:=qL X;have aw:=qL L;have H1:=qL h1;have H2:=qL h2;have ay:=qL M;have ax:=qL j;clear ar X ah N an hG M J h0 h1 h2 L j hp
 go_wp2_with (go_at_call 22;refine HP.o.mono ?_;rintro e u ⟨rfl,B,au⟩)
 obtain⟨wr,E⟩:=xm (u.alloc (.cells #[.int .u64 5,.int .u64 1,.int .u64 0,.string ⟨#[97]⟩] 66));have aJ:wr.heap.size=u.heap.size+1:=by rw[E];exact tE _ _
 have I:Keep qe u wr:=by rw[E];exact(Keep.refl _ _).alloc _
 have av:wr.heap[u.heap.size]?=some (.cells #[.int .u64 5,.int .u64 1,.int .u64 0,.string ⟨#[97]⟩] 66 (0,0)):=by rw[E];exact tx _ _
 rw[<-E];rw[<-aJ];clear E;have s3:=B.size;have j:=ax.o;have C:Keep (λk=>k=w.heap.size+1\/k=w.heap.size) y wr:=B.trans (I.mono λ_ _ h=>h.elim);have P:∀b o,D b o->¬(b=w.heap.size+1\/b=w.heap.size):=λb o h=>by have:=j b o h;omega
 have ae:Gd (Nw D y u) wr:=by have:=Gd.new (w:=w) (w0:=y) (ay.o.keep B P) B.size;exact this.keep I λ_ _ _=>id
 have ag:Rpl (Nw D y u) 1 wr (w.heap.size+1) w.heap.size a25:=au.keep I id id λb o h=>⟨h,id⟩;have aj:Rpl (Nw D y u) 0 wr (w.heap.size+3) (w.heap.size+2) b25:=aD.o.keep C b6 b6 λb o h=>⟨.inl h,P b o h⟩;have T:∀o,¬Nw D y u (w.heap.size+3) o/\¬Nw D y u (w.heap.size+2) o:=λo=>⟨λh=>h.elim (λh=>by have:=j _ _ h;omega) b6,λh=>h.elim (λh=>by have:=j _ _ h;omega) b6⟩;have U:=zt1 H1.o (H2.o.mono b6) (.inr rfl) ae ag aj T b6 b6 b6 b6;rw[zua.1,zua.2]at U;have aB:=qL U;have aF:=qL av;have aA:=qL (aw.o.trans ((C.below (n:=w.heap.size) b6 λk hk e=>b6)));clear U ae ag aj av I C P au B j;have K:True:=trivial
 go_wp2_with (go_at_call 11;have _t:=K;refine aB.o.mono ?_;rintro e w4 ⟨rfl,Q,ak,ai,af⟩;clear K)
 have s4:=Q.size;have aq:∀o,¬Nw (Nw D y u) wr w4 (w.heap.size+3) o/\¬Nw (Nw D y u) wr w4 (w.heap.size+2) o:=λo=>⟨λh=>h.elim (T o).1 b6,λh=>h.elim (T o).2 b6⟩;have V:=zt1 H1.o (H2.o.mono b6) (.inl rfl) ak af ai aq b6 b6 b6 b6;rw[zub.1,zub.2]at V;have aC:=qL V;have ac:=qL Q;clear V ak ai af Q
 go_wp2_with (go_at_call 11;refine aC.o.mono ?_;rintro e Y ⟨rfl,H,am,O,aG⟩)
 have hg:Calls xT 19 #[.pointer (some ⟨w.heap.size+3,0,none⟩),.int .u64 5] Y λe G=>e=.returned (.tuple #[.agg #[.int .u64 5,.int .u64 1,.int .u64 0,.string ⟨#[97]⟩],.bool true])/\Below Y.heap.size Y G:=zwk (i:=5) O (by rw[zw];decide);have ab:=qL hg;have ao:∀W,Below Y.heap.size Y W->Calls xT 10 #[.pointer (some ⟨w.heap.size+3,0,none⟩)] W λe G=>∃a c,e=.returned (.slice a 1 c)/\Below W.heap.size W G:=λW hW=>by
  have hk:Keep qe Y W:=Keep.of_below' hW (Zp _);refine(zte (n:=0) (O.keep hk id id λb o h=>⟨h,id⟩) (am.keep hk λ_ _ _=>id) zsP (by simp[k25,znP]) λf hf=>?_).mono ?_
  .simp only[k25,znP,wK]at hf;subst hf;refine⟨b8,by simp[zl9],λe he=>?_⟩;have:=(zoF (r:=1) (c:=0) (by rw[zw];decide) (by rw[zw];decide)).2.2 e he;omega
  .rintro e G ⟨v,rfl,hb,hd⟩;obtain⟨a,c,rfl⟩:=zsM (k:=k25) hd;exact⟨a,c,rfl,hb⟩
 have az:=qL ao;have aE:=qL ((ac.o.trans H).obj aF.o b6);have s5:=H.size;have ad:=qL (aA.o.trans ((ac.o.trans H).below (n:=w.heap.size) b6 λk hk e=>b6));clear O am aG H hg ao
 go_wp2_with (first
  | (go_at_call 19;refine ab.o.mono ?_;rintro e Z ⟨rfl,A⟩
     have F:=(A.block _ b6).trans aE.o;have x0:Z.cell? ⟨u.heap.size,0,none⟩=some (.int .u64 5):=(zW F 0 _ rfl).1;have x1:Z.cell? ⟨u.heap.size,1,none⟩=some (.int .u64 1):=(zW F 1 _ rfl).1;have x2:Z.cell? ⟨u.heap.size,2,none⟩=some (.int .u64 0):=(zW F 2 _ rfl).1;have x3:Z.cell? ⟨u.heap.size,3,none⟩=some (.string ⟨#[97]⟩):=(zW F 3 _ rfl).1;have aK:u.heap.size<Z.heap.size:=(by have:=A.size;omega);have aL:u.heap.size≠Z.heap.size:=b6;clear F)
  |(go_at_call 10;refine(az.o _ (A.alloc A.size _)).mono ?_;rintro e w7 ⟨a7,c7,rfl,aH⟩))
 go_ret;exact⟨rfl,ad.o.trans (((A.alloc A.size _).trans (aH.mono (by have:=A.size;simp;omega))).mono b6)⟩
def sq1:Code->Code
 |.seq a _=>a
 |c=>c
def cT:Code->Code
 |.cond _ a _=>a
 |c=>c
def zs8{t:Array Value}(h:t.size=128):∃u:Nat->Value,t=#[u 0,u 1,u 2,u 3,u 4,u 5,u 6,u 7,u 8,u 9,u 10,u 11,u 12,u 13,u 14,u 15,u 16,u 17,u 18,u 19,u 20,u 21,u 22,u 23,u 24,u 25,u 26,u 27,u 28,u 29,u 30,u 31,u 32,u 33,u 34,u 35,u 36,u 37,u 38,u 39,u 40,u 41,u 42,u 43,u 44,u 45,u 46,u 47,u 48,u 49,u 50,u 51,u 52,u 53,u 54,u 55,u 56,u 57,u 58,u 59,u 60,u 61,u 62,u 63,u 64,u 65,u 66,u 67,u 68,u 69,u 70,u 71,u 72,u 73,u 74,u 75,u 76,u 77,u 78,u 79,u 80,u 81,u 82,u 83,u 84,u 85,u 86,u 87,u 88,u 89,u 90,u 91,u 92,u 93,u 94,u 95,u 96,u 97,u 98,u 99,u 100,u 101,u 102,u 103,u 104,u 105,u 106,u 107,u 108,u 109,u 110,u 111,u 112,u 113,u 114,u 115,u 116,u 117,u 118,u 119,u 120,u 121,u 122,u 123,u 124,u 125,u 126,u 127]:=
 ⟨λi=>t.getD i undef,(show t=((List.range 128).map λi=>t.getD i undef).toArray from Array.ext (by simp[h]) λi j o=>by simp[j]).trans rfl⟩
noncomputable def zuy:Code:=cT (sq2 (sq1 (sq2 (sq2 (xN Tryz.f9)))))
noncomputable def zui:Code:=sq2 zuy
noncomputable def zwh:Code:=sq2 zui
def zvx{f:FuncId}{t:TypeId}{m:String}{v:Value}{s:Tmp}{c:Call}{o:Oper}{a:Act}{w:World}{K:Act->World->Prop}{Q:Exit->Act->World->Prop}(E:Mth xT t m f)(C:∀j w,(callFunc f j).run xT w=.ok (.enter f j) w)(ho:o.op=.call c)(B:c.callee=.invoke (.tmp s) m)(G:a.eval (.tmp s)=.iface t v)(A:c.args=#[])
 (h:Calls xT f #[v] w λe y=>∃u,e=.returned u/\K (a.put o.dst u) y):o.wp xT a w K Q:=by
 have F:(execOp a.eval o).run xT w=.ok (.enter f #[v]) w:=by simp only[execOp,ho,resolve,B,G,A,tM,tP,tH,invoke];have:=E v #[] w;rw[C]at this;simpa using this
 unfold Oper.wp;rw[F,Tf];exact h.mono λe H h=>by obtain⟨v,rfl,h⟩:=h;exact h
def do5{W:World}{g h:Nat}{x:Rc}{post:Ending->World->Prop}{F:Act->World->Prop}(w:W.heap[g]?=some (.cells #[.int .u64 x.item,.int .u64 x.rep,.int .u64 x.ctr,.string x.val] 66 (0,0)))(y:W.heap[h]?=some (.cells #[.int .u64 x.item,.int .u64 x.rep,.int .u64 x.ctr,.string x.val] 80 (0,0)))(o:post (.returned (.bool true)) W){t:Array Value}(ht:t.size=128)(A:t[7]?=some (.pointer (some ⟨g,0,none⟩)))(B:t[8]?=some (.nilIface))(C:t[9]?=some (.pointer (some ⟨h,0,none⟩)))(j:t[10]?=some (.bool true)):
 Code.wp xT zwh (Exit.then F (bodyPost xT Tryz.f9 post)) ⟨t,[]⟩ W:=by
 have G:W.cell? ⟨g,0,none⟩=some (.int .u64 x.item):=(zW w 0 _ rfl).1;have H:W.cell? ⟨g,1,none⟩=some (.int .u64 x.rep):=(zW w 1 _ rfl).1;have I:W.cell? ⟨g,2,none⟩=some (.int .u64 x.ctr):=(zW w 2 _ rfl).1;have J:W.cell? ⟨g,3,none⟩=some (.string x.val):=(zW w 3 _ rfl).1;have K:W.cell? ⟨h,0,none⟩=some (.int .u64 x.item):=(zW y 0 _ rfl).1;have L:W.cell? ⟨h,1,none⟩=some (.int .u64 x.rep):=(zW y 1 _ rfl).1;have M:W.cell? ⟨h,2,none⟩=some (.int .u64 x.ctr):=(zW y 2 _ rfl).1;have N:W.cell? ⟨h,3,none⟩=some (.string x.val):=(zW y 3 _ rfl).1;have E:=qL o;clear w y o;obtain⟨u,rfl⟩:=zs8 ht;replace A:u 7=_:=wH A;replace B:u 8=_:=wH B;replace C:u 9=_:=wH C;replace j:u 10=_:=wH j;rw[A,B,C,j];clear A B C j ht;obtain⟨Q,o⟩:=xm (bodyPost xT Tryz.f9 post);rw[<-o];simp only[zwh,zui,zuy,sq1,sq2,cT,xN,Tryz.f9];subst o
 go_wp2_with fail
 exact E.o
def do4{W:World}{F o g i c:Nat}{x:Rc}{it:Nat}{v:ByteArray}{R:World->World->Prop}{post:Ending->World->Prop}{K0:Act->World->Prop}(hi:i<3)(hg:W.heap[g]?=some (.cells #[.int .u64 x.item,.int .u64 x.rep,.int .u64 x.ctr,.string x.val] 66 (0,0)))(ad:g≠c)
 (H:W.cell? ⟨F,3+i,none⟩=some (.pointer (some ⟨c,0,none⟩))) (hy:W.cell? ⟨o,2,none⟩=some (.int .u64 it)) (hz:W.cell? ⟨o,3,none⟩=some (.string v)) (ab:c<W.heap.size) (ai:F≠c) (aj:o≠c)
 (hP:∀W',Below W.heap.size W W'->Calls xT 23 #[.pointer (some ⟨c,0,none⟩),.int .u64 it,.string v] W' λe w'=>e=.returned (.tuple #[rcv x,.bool true])/\R W' w') (hR:∀A B,R A B->Keep (λk=>k=c) A B)
 (J:∀T I W',Below W.heap.size W T->R T I->Keep (λk=>W.heap.size<=k/\(k<T.heap.size\/I.heap.size<=k)) I W'->post (.returned (.bool true)) W') {t:Array Value} (ht:t.size=128) (G:t[2]?=some (.pointer (some ⟨F,0,none⟩))) (V:t[3]?=some (.pointer (some ⟨o,0,none⟩))) (X:t[5]?=some (.int .i64 i)) (Y:t[7]?=some (.pointer (some ⟨g,0,none⟩))) (Z:t[8]?=some (.nilIface)) :
 Code.wp xT zui (Exit.then K0 (bodyPost xT Tryz.f9 post)) ⟨t,[]⟩ W:=by
 have E:xT.follows .mixedOrders=true:=dN
 have ag:(i:Int)<3:=b6
 have N:=enters_of func23 dN rfl;have ae:=(Y1.1 hg).1;have P:=tz W _ H;have C:=tz W _ hy;have hF:∀x:Wm,Keep (λk=>k=c\/W.heap.size<=k) W.drew x.1->x.1.cell? ⟨F,3+i,none⟩=some (.pointer (some ⟨c,0,none⟩))/\x.1.cell? ⟨o,2,none⟩=some (.int .u64 it)/\x.1.cell? ⟨o,3,none⟩=some (.string v):=λx hk=>
  ⟨hk.cell_some (p:=⟨F,3+i,none⟩) H (by show ¬(F=c\/W.heap.size<=F);simp only at P;omega),hk.cell_some (p:=⟨o,2,none⟩) hy (by show ¬(o=c\/W.heap.size<=o);simp only at C;omega),hk.cell_some (p:=⟨o,3,none⟩) hz (by show ¬(o=c\/W.heap.size<=o);simp only at C;omega)⟩
 have HF:=qL hF;have HG:=qL hg;have HP:=qL hP;have HQ:=qL J;have HR:=qL hR;clear hg hP J H hy hz hF hR P C;obtain⟨u,rfl⟩:=zs8 ht;replace G:u 2=_:=wH G;replace V:u 3=_:=wH V;replace X:u 5=_:=wH X;replace Y:u 7=_:=wH Y;replace Z:u 8=_:=wH Z;rw[G,V,X,Y,Z];clear G V X Y Z ht;obtain⟨Q,J⟩:=xm (bodyPost xT Tryz.f9 post);rw[<-J];simp only[zui,zuy,sq1,sq2,cT,xN,Tryz.f9];subst J
 go_wp2_with fail
 rename_i Kx hKx;refine zvo (Sw:=λk=>k=c\/W.heap.size<=k) (mkD 50 (some 9) true) 128 (HX W R #[.int .u64 x.item,.int .u64 x.rep,.int .u64 x.ctr,.string x.val] #[.int .u64 0,.int .u64 0,.int .u64 0,.string ⟨#[]⟩] 80) E dN rfl HX.start ?_;repeat (refine ztp ?_ rfl rfl (λa m hk j=>?_) ?_;rotate_left;(obtain⟨q0,q1,q2⟩:=HF.o m hk;simp[Pl.Rds,zA,Pl.lk,Op.operands,Call.operands,RdEq]at j;(first|replace j:=exM j|replace j:=And.intro j.1 (exM j.2)|skip);go_simp;with_reducible rfl);simp only[XV,Yf])
 refine zt0 _ zt6 rfl (zue (S:=λk=>k=c) (v:=.tuple #[.agg #[.int .u64 x.item,.int .u64 x.rep,.int .u64 x.ctr,.string x.val],.bool true]) rfl rfl rfl (λa x j=>by simp[Pl.Rds,zA,Pl.lk,Op.operands,Call.operands,RdEq]at j;simp[j]) N HP.o HR.o λk h=>⟨.inl h,by rw[h];exact ab⟩) ?_;simp only[XV,Yf];repeat (refine ztp ?_ rfl rfl (λa m hk j=>?_) ?_;rotate_left;(obtain⟨q0,q1,q2⟩:=HF.o m hk;simp[Pl.Rds,zA,Pl.lk,Op.operands,Call.operands,RdEq]at j;(first|replace j:=exM j|replace j:=And.intro j.1 (exM j.2)|skip);go_simp;with_reducible rfl);simp only[XV,Yf])
 refine zt0 _ zwr rfl (zuX rfl λa w=>by go_simp) ?_;simp only[XV,Yf];refine zt0 (λ_ _=>True) (λ_ _ _ _ _=>trivial) rfl (zuY rfl (λa m j=>?_) λk h=>.inr h) ?_
 .simp[Pl.Rds,zA,Pl.lk,Op.operands,Call.operands,RdEq]at j;obtain⟨⟨_,⟨p1,p2⟩,rfl,U⟩,p3,p4⟩:=j;refine⟨U,λw y=>?_⟩;have c0:w.cell? ⟨m.2.2,0,none⟩=some (.int .u64 0):=(zW y 0 _ rfl).1;have c1:w.cell? ⟨m.2.2,1,none⟩=some (.int .u64 0):=(zW y 1 _ rfl).1;have c2:w.cell? ⟨m.2.2,2,none⟩=some (.int .u64 0):=(zW y 2 _ rfl).1;have c3:w.cell? ⟨m.2.2,3,none⟩=some (.string ⟨#[]⟩):=(zW y 3 _ rfl).1;have d0:w.frozen? ⟨m.2.2,0,none⟩=false:=(zW y 0 _ rfl).2;have d1:w.frozen? ⟨m.2.2,1,none⟩=false:=(zW y 1 _ rfl).2;have d2:w.frozen? ⟨m.2.2,2,none⟩=false:=(zW y 2 _ rfl).2;have d3:w.frozen? ⟨m.2.2,3,none⟩=false:=(zW y 3 _ rfl).2;refine⟨(((w.setCell ⟨m.2.2,0,none⟩ (.int .u64 x.item)).setCell ⟨m.2.2,1,none⟩ (.int .u64 x.rep)).setCell ⟨m.2.2,2,none⟩ (.int .u64 x.ctr)).setCell ⟨m.2.2,3,none⟩ (.string x.val),by go_simp,?_,?_⟩
  .simpa using zsw (zsw (zsw (zsw y 0 _) 1 _) 2 _) 3 _
  .exact((((Keep.refl (λk=>k=m.2.2) w).setCell (p:=⟨m.2.2,0,none⟩) (λ_=>rfl) _).setCell (p:=⟨m.2.2,1,none⟩) (λ_=>rfl) _).setCell (p:=⟨m.2.2,2,none⟩) (λ_=>rfl) _).setCell (p:=⟨m.2.2,3,none⟩) (λ_=>rfl) _
 simp only[XV,Yf];repeat (refine ztp ?_ rfl rfl (λa m hk j=>?_) ?_;rotate_left;(obtain⟨q0,q1,q2⟩:=HF.o m hk;simp[Pl.Rds,zA,Pl.lk,Op.operands,Call.operands,RdEq]at j;(first|replace j:=exM j|replace j:=And.intro j.1 (exM j.2)|skip);go_simp;with_reducible rfl);simp only[XV,Yf])
 intro m H hk;simp only[Pl.finG,XV,Yf,and_imp,WZ];simp only[Act.put,wF,wW,wX];intro h0 U;refine⟨trivial,λL=>?_⟩;have G:2∈m.2.1:=L 13 dE 2 rfl rfl;refine hKx _ _ ?_;obtain⟨T,I,M,K,ah,af,ac⟩:=H.post h0;obtain⟨hN,hv⟩:=H.var U;rw[VS G]at hv;have O:Keep (λk=>W.heap.size<=k/\(k<T.heap.size\/I.heap.size<=k)) I m.1:=af.mono λk _ e=>by rw[e.2];exact⟨hN,ac U⟩
 exact do5 (O.obj ((HR.o _ _ K).obj ((M.block g ae).trans HG.o) ad) λe=>absurd e.1 b6) hv (HQ.o _ _ _ M K O) rfl rfl rfl rfl rfl
def do3{W:World}{C o i b y:Nat}{x:Rc}{it:Nat}{v:ByteArray}{R:World->World->Prop}{post:Ending->World->Prop}{Kx:Act->World->Prop}{Z:Act->World->Prop}(hi:i<3)
 (I:W.cell? ⟨C,i,none⟩=some (.pointer (some ⟨b,0,none⟩))) (hy:W.cell? ⟨o,2,none⟩=some (.int .u64 it)) (hz:W.cell? ⟨o,3,none⟩=some (.string v)) (hb:b<W.heap.size) (hm:y<W.heap.size) (hn:C≠b/\C≠y/\o≠b/\o≠y)
 (hP:∀W',Below W.heap.size W W'->Calls xT 22 #[.pointer (some ⟨b,0,none⟩),.int .u64 it,.string v] W' λe w'=>e=.returned (.tuple #[rcv x,.nilIface])/\R W' w') (hR:∀A B,R A B->Keep (λk=>k=b\/k=y) A B)
 (L:∀P J W' g,Below W.heap.size W P->R P J->Keep (λk=>W.heap.size<=k/\(k<P.heap.size\/J.heap.size<=k)) J W'->W.heap.size<=g->W'.heap[g]?=some (.cells #[.int .u64 x.item,.int .u64 x.rep,.int .u64 x.ctr,.string x.val] 66 (0,0))->∀t:Array Value,t.size=128->t[2]?=some (.pointer (some ⟨C,0,none⟩))->t[3]?=some (.pointer (some ⟨o,0,none⟩))->t[5]?=some (.int .i64 i)->t[7]?=some (.pointer (some ⟨g,0,none⟩))->t[8]?=some (.nilIface)->Code.wp xT zui (Exit.then Z (bodyPost xT Tryz.f9 post)) ⟨t,[]⟩ W') (K:∀a w,Code.wp xT zui (Exit.then Z (bodyPost xT Tryz.f9 post)) a w->Kx a w) {t:Array Value} (ht:t.size=128) (H:t[2]?=some (.pointer (some ⟨C,0,none⟩))) (U:t[3]?=some (.pointer (some ⟨o,0,none⟩))) (V:t[5]?=some (.int .i64 i)) :
 Code.wp xT (sq1 zuy) (Exit.then Kx (Exit.then Z (bodyPost xT Tryz.f9 post))) ⟨t,[]⟩ W:=by
 have G:xT.follows .mixedOrders=true:=dN
 have ag:(i:Int)<3:=b6
 have N:=enters_of func22 dN rfl;have O:=tz W _ I;have F:=tz W _ hy;have hF:∀x:Wm,Keep (λk=>(k=b\/k=y)\/W.heap.size<=k) W.drew x.1->x.1.cell? ⟨C,i,none⟩=some (.pointer (some ⟨b,0,none⟩))/\x.1.cell? ⟨o,2,none⟩=some (.int .u64 it)/\x.1.cell? ⟨o,3,none⟩=some (.string v):=λx hk=>
  ⟨hk.cell_some (p:=⟨C,i,none⟩) I (by show ¬((C=b\/C=y)\/W.heap.size<=C);simp only at O;omega),hk.cell_some (p:=⟨o,2,none⟩) hy (by show ¬((o=b\/o=y)\/W.heap.size<=o);simp only at F;omega),hk.cell_some (p:=⟨o,3,none⟩) hz (by show ¬((o=b\/o=y)\/W.heap.size<=o);simp only at F;omega)⟩
 have X:=qL hF;have HP:=qL hP;have HQ:=qL L;have HR:=qL hR;clear hP L I hy hz hF hR O F hn;have Y:=qL K;clear K;obtain⟨u,rfl⟩:=zs8 ht;replace H:u 2=_:=wH H;replace U:u 3=_:=wH U;replace V:u 5=_:=wH V;rw[H,U,V];clear H U V ht;obtain⟨Q,L⟩:=xm (bodyPost xT Tryz.f9 post);rw[<-L];simp only[zuy,sq1,sq2,cT,xN,Tryz.f9];subst L;refine zvo (Sw:=λk=>(k=b\/k=y)\/W.heap.size<=k) (mkD 38 (some 7) true) 128 (HX W R #[.int .u64 x.item,.int .u64 x.rep,.int .u64 x.ctr,.string x.val] #[.int .u64 0,.int .u64 0,.int .u64 0,.string ⟨#[]⟩] 66) G dN rfl HX.start ?_;repeat (refine ztp ?_ rfl rfl (λa m hk j=>?_) ?_;rotate_left;(obtain⟨q0,q1,q2⟩:=X.o m hk;simp[Pl.Rds,zA,Pl.lk,Op.operands,Call.operands,RdEq]at j;(first|replace j:=exM j|replace j:=And.intro j.1 (exM j.2)|skip);go_simp;with_reducible rfl);simp only[XV,Yf])
 refine zt0 _ zt6 rfl (zue (S:=λk=>k=b\/k=y) (v:=.tuple #[.agg #[.int .u64 x.item,.int .u64 x.rep,.int .u64 x.ctr,.string x.val],.nilIface]) rfl rfl rfl (λa x j=>by simp[Pl.Rds,zA,Pl.lk,Op.operands,Call.operands,RdEq]at j;simp[j]) N HP.o HR.o λk h=>⟨.inl h,by rcases h with h|h<;>rw[h]<;>assumption⟩) ?_;simp only[XV,Yf];repeat (refine ztp ?_ rfl rfl (λa m hk j=>?_) ?_;rotate_left;(obtain⟨q0,q1,q2⟩:=X.o m hk;simp[Pl.Rds,zA,Pl.lk,Op.operands,Call.operands,RdEq]at j;(first|replace j:=exM j|replace j:=And.intro j.1 (exM j.2)|skip);go_simp;with_reducible rfl);simp only[XV,Yf])
 refine zt0 _ zwr rfl (zuX rfl λa w=>by go_simp) ?_;simp only[XV,Yf];refine zt0 (λ_ _=>True) (λ_ _ _ _ _=>trivial) rfl (zuY rfl (λa m j=>?_) λk h=>.inr h) ?_
 .simp[Pl.Rds,zA,Pl.lk,Op.operands,Call.operands,RdEq]at j;obtain⟨⟨_,⟨p1,p2⟩,rfl,T⟩,p3,p4⟩:=j;refine⟨T,λw E=>?_⟩;have c0:w.cell? ⟨m.2.2,0,none⟩=some (.int .u64 0):=(zW E 0 _ rfl).1;have c1:w.cell? ⟨m.2.2,1,none⟩=some (.int .u64 0):=(zW E 1 _ rfl).1;have c2:w.cell? ⟨m.2.2,2,none⟩=some (.int .u64 0):=(zW E 2 _ rfl).1;have c3:w.cell? ⟨m.2.2,3,none⟩=some (.string ⟨#[]⟩):=(zW E 3 _ rfl).1;have d0:w.frozen? ⟨m.2.2,0,none⟩=false:=(zW E 0 _ rfl).2;have d1:w.frozen? ⟨m.2.2,1,none⟩=false:=(zW E 1 _ rfl).2;have d2:w.frozen? ⟨m.2.2,2,none⟩=false:=(zW E 2 _ rfl).2;have d3:w.frozen? ⟨m.2.2,3,none⟩=false:=(zW E 3 _ rfl).2;refine⟨(((w.setCell ⟨m.2.2,0,none⟩ (.int .u64 x.item)).setCell ⟨m.2.2,1,none⟩ (.int .u64 x.rep)).setCell ⟨m.2.2,2,none⟩ (.int .u64 x.ctr)).setCell ⟨m.2.2,3,none⟩ (.string x.val),by go_simp,?_,?_⟩
  .simpa using zsw (zsw (zsw (zsw E 0 _) 1 _) 2 _) 3 _
  .exact((((Keep.refl (λk=>k=m.2.2) w).setCell (p:=⟨m.2.2,0,none⟩) (λ_=>rfl) _).setCell (p:=⟨m.2.2,1,none⟩) (λ_=>rfl) _).setCell (p:=⟨m.2.2,2,none⟩) (λ_=>rfl) _).setCell (p:=⟨m.2.2,3,none⟩) (λ_=>rfl) _
 simp only[XV,Yf];repeat (refine ztp ?_ rfl rfl (λa m hk j=>?_) ?_;rotate_left;(obtain⟨q0,q1,q2⟩:=X.o m hk;simp[Pl.Rds,zA,Pl.lk,Op.operands,Call.operands,RdEq]at j;(first|replace j:=exM j|replace j:=And.intro j.1 (exM j.2)|skip);go_simp;with_reducible rfl);simp only[XV,Yf])
 intro m I hk;simp only[Pl.finG,XV,Yf,and_imp,WZ];simp only[Act.put,wF,wW,wX];intro h0 T;refine⟨trivial,λM=>?_⟩;have H:2∈m.2.1:=M 13 dE 2 rfl rfl;refine Y.o _ _ ?_;obtain⟨P,J,ac,ab,ah,ae,ad⟩:=I.post h0;obtain⟨hN,hv⟩:=I.var T;rw[VS H]at hv;have af:Keep (λk=>W.heap.size<=k/\(k<P.heap.size\/J.heap.size<=k)) J m.1:=ae.mono λk _ e=>by rw[e.2];exact⟨hN,ad T⟩
 exact HQ.o _ _ _ _ ac ab af hN hv _ rfl rfl rfl rfl rfl rfl
noncomputable def zuz:Code:=sq2 (sq2 (sq2 (xN Tryz.f9)))
noncomputable def zuj:Code:=sq2 zuz
def do6{W:World}{y C i j b c m0 n:Nat}{vi er:Value}{R:World->World->Prop}{post:Ending->World->Prop}{Kx:Act->World->Prop}(hi:i<3)(hj:j<3)
 (G:W.cell? ⟨y,i,none⟩=some (.pointer (some ⟨b,0,none⟩))) (hy:W.cell? ⟨y,j,none⟩=some (.pointer (some ⟨c,0,none⟩))) (hz:W.cell? ⟨C,4,none⟩=some vi) (hb:b<W.heap.size) (hm:m0<W.heap.size) (hn:y≠b/\y≠m0/\C≠b/\C≠m0)
 (hP:∀W',Below W.heap.size W W'->Calls xT 11 #[.pointer (some ⟨b,0,none⟩),.pointer (some ⟨c,0,none⟩),vi] W' λe w'=>e=.returned (.tuple #[.int .i64 n,er])/\R W' w') (hR:∀A B,R A B->Keep (λk=>k=b\/k=m0) A B)
 (J:∀M H W',Below W.heap.size W M->R M H->Keep (λk=>W.heap.size<=k/\(k<M.heap.size\/H.heap.size<=k)) H W'->∀t:Array Value,t.size=128->t[2]?=some (.pointer (some ⟨y,0,none⟩))->t[3]?=some (.pointer (some ⟨C,0,none⟩))->t[5]?=some (.int .i64 i)->t[6]?=some (.int .i64 j)->t[11]?=some (.int .i64 n)->t[12]?=some (er)->Code.wp xT zuj (bodyPost xT Tryz.f9 post) ⟨t,[]⟩ W') (I:∀a w,Code.wp xT zuj (bodyPost xT Tryz.f9 post) a w->Kx a w) {t:Array Value} (ht:t.size=128) (N:t[2]?=some (.pointer (some ⟨y,0,none⟩))) (O:t[3]?=some (.pointer (some ⟨C,0,none⟩))) (P:t[5]?=some (.int .i64 i)) (T:t[6]?=some (.int .i64 j)) :
 Code.wp xT (sq1 zuz) (Exit.then Kx (bodyPost xT Tryz.f9 post)) ⟨t,[]⟩ W:=by
 have F:xT.follows .mixedOrders=true:=dN
 have ad:(i:Int)<3:=b6
 have ae:(j:Int)<3:=b6
 have K:=enters_of func11 dN rfl;have E:=tz W _ G;have L:=tz W _ hz;have hF:∀x:Wm,Keep (λk=>(k=b\/k=m0)\/W.heap.size<=k) W.drew x.1->x.1.cell? ⟨y,i,none⟩=some (.pointer (some ⟨b,0,none⟩))/\x.1.cell? ⟨y,j,none⟩=some (.pointer (some ⟨c,0,none⟩))/\x.1.cell? ⟨C,4,none⟩=some vi:=λx hk=>
  ⟨hk.cell_some (p:=⟨y,i,none⟩) G (by show ¬((y=b\/y=m0)\/W.heap.size<=y);simp only at E;omega),hk.cell_some (p:=⟨y,j,none⟩) hy (by show ¬((y=b\/y=m0)\/W.heap.size<=y);simp only at E;omega),hk.cell_some (p:=⟨C,4,none⟩) hz (by show ¬((C=b\/C=m0)\/W.heap.size<=C);simp only at L;omega)⟩
 have HF:=qL hF;have HP:=qL hP;have HQ:=qL J;have HR:=qL hR;clear hP J G hy hz hF hR E L hn;have U:=qL I;clear I;obtain⟨u,rfl⟩:=zs8 ht;replace N:u 2=_:=wH N;replace O:u 3=_:=wH O;replace P:u 5=_:=wH P;replace T:u 6=_:=wH T;rw[N,O,P,T];clear N O P T ht;obtain⟨Q,J⟩:=xm (bodyPost xT Tryz.f9 post);rw[<-J];simp only[zuz,sq1,sq2,cT,xN,Tryz.f9];subst J;refine zvo (Sw:=λk=>(k=b\/k=m0)\/W.heap.size<=k) (mkD 74 none false) 128 (HX W R #[] #[] 0) F dN rfl HX.start ?_;repeat (refine ztp ?_ rfl rfl (λa m hk o=>?_) ?_;rotate_left;(obtain⟨q0,q1,q2⟩:=HF.o m hk;simp[Pl.Rds,zA,Pl.lk,Op.operands,Call.operands,RdEq]at o;(first|replace o:=exM o|replace o:=And.intro o.1 (exM o.2)|skip);go_simp;with_reducible rfl);simp only[XV,Yf])
 refine zt0 _ zt6 rfl (zue (S:=λk=>k=b\/k=m0) (v:=.tuple #[.int .i64 n,er]) rfl rfl rfl (λa x o=>by simp[Pl.Rds,zA,Pl.lk,Op.operands,Call.operands,RdEq]at o;simp[o]) K HP.o HR.o λk h=>⟨.inl h,by rcases h with h|h<;>rw[h]<;>assumption⟩) ?_;simp only[XV,Yf];repeat (refine ztp ?_ rfl rfl (λa m hk o=>?_) ?_;rotate_left;(obtain⟨q0,q1,q2⟩:=HF.o m hk;simp[Pl.Rds,zA,Pl.lk,Op.operands,Call.operands,RdEq]at o;(first|replace o:=exM o|replace o:=And.intro o.1 (exM o.2)|skip);go_simp;with_reducible rfl);simp only[XV,Yf])
 intro m G hk;simp only[Pl.finG,XV,Yf,and_imp,WZ];simp only[Act.put,wF,wW,wX];intro h0;refine⟨trivial,λac=>?_⟩;refine U.o _ _ ?_;obtain⟨M,H,X,V,af,Z,Y⟩:=G.post h0;have ab:Keep (λk=>W.heap.size<=k/\(k<M.heap.size\/H.heap.size<=k)) H m.1:=Z.mono λk _ e=>by rw[e.2];exact⟨(G.var e.1).1,Y e.1⟩
 exact HQ.o _ _ _ X V ab _ rfl rfl rfl rfl rfl rfl rfl
def do7{W:World}{w K i j b c n:Nat}{vi:Value}{k0:Int}{R:World->World->Prop}{post:Ending->World->Prop}(hi:i<3)(hj:j<3)
 (H:W.cell? ⟨w,3+i,none⟩=some (.pointer (some ⟨b,0,none⟩))) (hy:W.cell? ⟨w,3+j,none⟩=some (.pointer (some ⟨c,0,none⟩))) (hz:W.cell? ⟨K,4,none⟩=some vi) (hb:b<W.heap.size) (hn:w≠b/\K≠b)
 (hC:Calls xT 21 #[vi] W λe w'=>e=.returned (.tuple #[.int .i64 0,.int .i64 k0])/\Below W.heap.size W w')
 (hP:∀W',Below W.heap.size W W'->Calls xT 27 #[.pointer (some ⟨b,0,none⟩),.pointer (some ⟨c,0,none⟩),vi] W' λe w'=>e=.returned (.int .i64 n)/\R W' w') (hR:∀A B,R A B->Keep (λk=>k=b) A B)
 (N:∀Z L W',Below W.heap.size W Z->R Z L->Keep (λk=>W.heap.size<=k/\(k<Z.heap.size\/L.heap.size<=k)) L W'->post (.returned (.bool true)) W') {t:Array Value} (ht:t.size=128) (h2:t[2]?=some (.pointer (some ⟨w,0,none⟩))) (h3:t[3]?=some (.pointer (some ⟨K,0,none⟩))) (h5:t[5]?=some (.int .i64 i)) (h6:t[6]?=some (.int .i64 j)) (C:t[11]?=some (.int .i64 n)) (E:t[12]?=some (.nilIface)) :
 Code.wp xT zuj (bodyPost xT Tryz.f9 post) ⟨t,[]⟩ W:=by
 have J:xT.follows .mixedOrders=true:=dN
 have ae:(i:Int)<3:=b6
 have af:(j:Int)<3:=b6
 have T:=enters_of func27 dN rfl;have I:=tz W _ H;have Y:=tz W _ hz;have hF:∀y,Below W.heap.size W y->∀x:Wm,Keep (λk=>k=b\/y.heap.size<=k) y.drew x.1->x.1.cell? ⟨w,3+i,none⟩=some (.pointer (some ⟨b,0,none⟩))/\x.1.cell? ⟨w,3+j,none⟩=some (.pointer (some ⟨c,0,none⟩))/\x.1.cell? ⟨K,4,none⟩=some vi:=λy h1 x hk=>by have hs:=h1.size;exact⟨hk.cell_some (p:=⟨w,3+i,none⟩) (bc1 h1.drew H) (by show ¬(w=b\/y.heap.size<=w);simp only at I;omega),hk.cell_some (p:=⟨w,3+j,none⟩) (bc1 h1.drew hy) (by show ¬(w=b\/y.heap.size<=w);simp only at I;omega),hk.cell_some (p:=⟨K,4,none⟩) (bc1 h1.drew hz) (by show ¬(K=b\/y.heap.size<=K);simp only at Y;omega)⟩
 have ab:=qL hF;have HP:=qL hP;have HQ:=qL N;have HR:=qL hR;have HC:=qL hC;clear hP N H hy hF hR I Y hn hC;obtain⟨u,rfl⟩:=zs8 ht;replace h2:u 2=_:=wH h2;replace h3:u 3=_:=wH h3;replace h5:u 5=_:=wH h5;replace h6:u 6=_:=wH h6;replace C:u 11=_:=wH C;replace E:u 12=_:=wH E;rw[h2,h3,h5,h6,C,E];clear h2 h3 h5 h6 C E ht;obtain⟨Q,N⟩:=xm (bodyPost xT Tryz.f9 post);rw[<-N];simp only[zuj,zuz,sq1,sq2,cT,xN,Tryz.f9];subst N
 go_wp2_with (go_at_call 21;refine HC.o.mono ?_;rintro e y ⟨rfl,F⟩)
 rename_i Kx hKx;have HF:=qL (ab.o y F);have G:=F.size;refine zvo (Sw:=λk=>k=b\/y.heap.size<=k) (mkD 125 none false) 128 (HX y R #[] #[] 0) J dN rfl HX.start ?_;repeat (first|(refine ztp ?_ rfl rfl (λa m hk o=>?_) ?_;rotate_left;obtain⟨q0,q1,q2⟩:=HF.o m hk;(simp[Pl.Rds,zA,Pl.lk,Op.operands,Call.operands,RdEq]at o;(first|replace o:=exM o|replace o:=And.intro o.1 (exM o.2)|skip);go_simp;with_reducible rfl);simp only[XV,Yf])|(refine zvI ?_ rfl rfl (ztS rfl rfl) (λa m hk o=>?_) ?_;rotate_left;obtain⟨q0,q1,q2⟩:=HF.o m hk;(simp[Pl.Rds,zA,Pl.lk,Op.operands,Call.operands,RdEq]at o;(first|replace o:=exM o|replace o:=And.intro o.1 (exM o.2)|skip);go_simp;with_reducible rfl);simp only[XV,Yf]))
 refine zws _ zt6 rfl (ztS rfl rfl) (zue (S:=λk=>k=b) (v:=.int .i64 n) rfl rfl rfl (λa x o=>by simp[Pl.Rds,zA,Pl.lk,Op.operands,Call.operands,RdEq]at o;simp[o]) T (λW' ac=>HP.o W' (F.trans (ac.mono G))) HR.o λk h=>⟨.inl h,by rw[h];omega⟩) ?_;simp only[XV,Yf];repeat (first|(refine ztp ?_ rfl rfl (λa m hk o=>?_) ?_;rotate_left;obtain⟨q0,q1,q2⟩:=HF.o m hk;(simp[Pl.Rds,zA,Pl.lk,Op.operands,Call.operands,RdEq]at o;(first|replace o:=exM o|replace o:=And.intro o.1 (exM o.2)|skip);go_simp;with_reducible rfl);simp only[XV,Yf])|(refine zvI ?_ rfl rfl (ztS rfl rfl) (λa m hk o=>?_) ?_;rotate_left;obtain⟨q0,q1,q2⟩:=HF.o m hk;(simp[Pl.Rds,zA,Pl.lk,Op.operands,Call.operands,RdEq]at o;(first|replace o:=exM o|replace o:=And.intro o.1 (exM o.2)|skip);go_simp;with_reducible rfl);simp only[XV,Yf]))
 intro m H hk;simp only[Pl.finG,XV,Yf,and_imp,WZ];simp only[Act.put,wF,wW,wX];intro h0;refine⟨trivial,λad=>?_⟩;refine hKx _ _ ?_;obtain⟨Z,L,P,O,ag,V,U⟩:=H.post h0;have X:Keep (λk=>W.heap.size<=k/\(k<Z.heap.size\/L.heap.size<=k)) L m.1:=V.mono λk _ e=>by rw[e.2];exact⟨V3 G (H.var e.1).1,U e.1⟩
 have M:=qL (HQ.o _ _ _ (F.trans (P.mono G)) O X);clear H V U X P O HP HR HQ
 go_wp2_with fail
 exact M.o
def do8{W:World}{O:Nat}{N:Value}{e0 k0:Int}{s2:ByteArray}{post:Ending->World->Prop}(Z:e0≠0)(hs:s2.size<=1000)
 (hz:W.cell? ⟨O,4,none⟩=some N)
 (J:Calls xT 21 #[N] W λe B=>e=.returned (.tuple #[.int .i64 e0,.int .i64 k0])/\Below W.heap.size W B)
 (K:∀W',Below W.heap.size W W'->Calls xT 24 #[.iface 141 (.agg #[.string sRp,.iface 123 (.agg #[.int .i64 e0,.int .i64 k0])])] W' λe B=>e=.returned (.int .i64 e0)/\Below W'.heap.size W' B)
 (I:∀W',Below W.heap.size W W'->Calls xT 25 #[.iface 141 (.agg #[.string sRp,.iface 123 (.agg #[.int .i64 e0,.int .i64 k0])])] W' λe B=>e=.returned (.int .i64 k0)/\Below W'.heap.size W' B)
 (M:∀W',Below W.heap.size W W'->Calls xT 250 #[.agg #[.string sRp,.iface 123 (.agg #[.int .i64 e0,.int .i64 k0])]] W' λe B=>e=.returned (.string (⟨#[114,101,112,108,105,99,97,58,32]⟩++s2))/\Below W'.heap.size W' B)
 (L:∀W',Below W.heap.size W W'->Calls xT 26 #[.int .i64 e0] W' λe B=>e=.returned (.string s2)/\Below W'.heap.size W' B)
 (F:∀W',Below W.heap.size W W'->post (.returned (.bool true)) W') {t:Array Value} (ht:t.size=128) (H:t[3]?=some (.pointer (some ⟨O,0,none⟩))) (y:t[11]?=some (.int .i64 0)) (A:t[12]?=some (.iface 141 (.agg #[.string sRp,.iface 123 (.agg #[.int .i64 e0,.int .i64 k0])]))) :
 Code.wp xT zuj (bodyPost xT Tryz.f9 post) ⟨t,[]⟩ W:=by
 have X:=qL F;have S:=qL J;have T:=qL K;have P:=qL I;have V:=qL M;have U:=qL L;have Y:¬9223372036854775807<9+s2.size:=b6
 have G:=enters_of func250 dN rfl;clear F J K I M L;obtain⟨u,rfl⟩:=zs8 ht;replace H:u 3=_:=wH H;replace y:u 11=_:=wH y;replace A:u 12=_:=wH A;rw[H,y,A];clear H y A ht;obtain⟨Q,F⟩:=xm (bodyPost xT Tryz.f9 post);rw[<-F];simp only[zuj,zuz,sq1,sq2,cT,xN,Tryz.f9];subst F
 go_wp2_with (first
  |(go_at_call 21;refine S.o.mono ?_;rintro e w1 ⟨rfl,C⟩)
  |(go_at_call 24;refine(T.o _ C).mono ?_;rintro e w2 ⟨rfl,j⟩;replace j:=C.trans (j.mono C.size))
  |(go_at_call 25;refine(P.o _ j).mono ?_;rintro e w3 ⟨rfl,o⟩;replace o:=j.trans (o.mono j.size)))
 refine zvx zn8 G rfl rfl rfl rfl ?_;refine(V.o _ o).mono ?_;rintro e w4 ⟨rfl,w⟩;refine⟨_,rfl,?_⟩;replace w:=o.trans (w.mono o.size)
 go_wp2_with (go_at_call 26;refine(U.o _ w).mono ?_;rintro e w5 ⟨rfl,E⟩;replace E:=w.trans (E.mono w.size))
 exact X.o _ E
def Keep.step{S:Nat->Prop}{W w y W':World}(j:Below W.heap.size W w)(o:Keep S w y)(u:Keep (λk=>W.heap.size<=k/\(k<w.heap.size\/y.heap.size<=k)) y W'):Keep S W W':=by have s1:=j.size;have A:=o.size;exact⟨u.os.trans (o.os.trans j.os),u.tape.trans (o.tape.trans j.tape),u.output.trans (o.output.trans j.output),V3 s1 (V3 A u.size),λk hk hs=>(u.block k b6 (λe=>b6)).trans ((o.block k b6 hs).trans (j.block k hk))⟩
def Play.lt{D:Qk}{t:Nat}{w:World}{B M F:Nat->Nat}{S:Nat->Rs}(h:Play D t w B M F S){i:Nat}(hi:i<3):B i<w.heap.size/\M i<w.heap.size/\F i<w.heap.size:=by obtain⟨_,_,j,o,_⟩:=h.a i hi;exact⟨(Y1.1 j).1,o.lt,(h.f i hi).lt⟩
def Play.upd{D D':Qk}{t J i:Nat}{w I:World}{B M F:Nat->Nat}{S:Nat->Rs}{s:Rs}(h:Play D t w B M F S)(hi:i<3)(ht:t<=J)(hk:Keep (λk=>k=B i\/k=M i\/k=F i) w I)(K:∀b o,D b o->D' b o)(C:∀b o,D' b o->D b o\/w.heap.size<=b)(L:Rpl D' J I (B i) (M i) s)(hF:Rpf D' I (F i) s):Play D' J I B M F (ztC S i s):=by
 refine⟨λj A=>?_,λj A=>?_,h.bb,h.mm,h.ff,h.bm,h.bf,h.mf,λj A o=>?_⟩
 .unfold ztC;split
  .rename_i e;rw[e];exact L
  .rename_i e;exact((h.a j A).keep hk (by rintro(u|u|u);exact e (h.bb _ _ A hi u);exact h.bm _ _ A hi u;exact h.bf _ _ A hi u) (by rintro(u|u|u);exact h.bm _ _ hi A u.symm;exact e (h.mm _ _ A hi u);exact h.mf _ _ A hi u) λb o y=>⟨K b o y,by
    obtain⟨E,G,H⟩:=h.nd i hi o;rintro(rfl|rfl|rfl)
    .exact E y
    .exact G y
    .exact H y⟩).mono ht
 .unfold ztC;split
  .rename_i e;rw[e];exact hF
  .rename_i e;exact(h.f j A).keep hk (by rintro(u|u|u);exact h.bf _ _ hi A u.symm;exact h.mf _ _ hi A u.symm;exact e (h.ff _ _ A hi u)) λb o y=>⟨K b o y,by
    obtain⟨E,G,H⟩:=h.nd i hi o;rintro(rfl|rfl|rfl)
    .exact E y
    .exact G y
    .exact H y⟩
 .obtain⟨E,G,H⟩:=h.nd j A o;obtain⟨N,O,P⟩:=h.lt A;exact⟨λy=>(C _ _ y).elim E b6,λy=>(C _ _ y).elim G b6,λy=>(C _ _ y).elim H b6⟩
def Play.same{D D':Qk}{t H:Nat}{w E:World}{B M F:Nat->Nat}{S:Nat->Rs}(h:Play D t w B M F S)(ht:t<=H)(hk:Below w.heap.size w E)(G:∀b o,D b o->D' b o)(y:∀b o,D' b o->D b o\/w.heap.size<=b):Play D' H E B M F S:=by have C:Keep qe w E:=Keep.of_below' hk (Zp _);refine⟨λj A=>((h.a j A).keep C id id λb o u=>⟨G b o u,id⟩).mono ht,λj A=>(h.f j A).keep C id λb o u=>⟨G b o u,id⟩,h.bb,h.mm,h.ff,h.bm,h.bf,h.mf,λj A o=>?_⟩;obtain⟨I,J,K⟩:=h.nd j A o;obtain⟨L,N,O⟩:=h.lt A;exact⟨λu=>(y _ _ u).elim I b6,λu=>(y _ _ u).elim J b6,λu=>(y _ _ u).elim K b6⟩
def zux{D:Qk}{w:World}{v x y:Value}(h:Dat D w v (.tup [.v x,.v y])):v=.tuple #[x,y]:=by
 cases h with
 | tup vs cs hs h=>
   have d0:=(h 0 _ rfl).v_inv;have j:=(h 1 _ rfl).v_inv;obtain⟨l⟩:=vs;match l,hs with
   |[p,q],_=>simp at d0 j;rw[d0,j]
def opv(o:Opn)(ia:Option Addr)(ic:Nat):Array Value:=#[.int .i64 o.who,.int .i64 o.from_,.int .u64 o.item,.string o.val,.slice ia o.items.length ic]
def zsN(B F:Nat->Nat){i:Nat}(hi:i<3):(plv B F)[i]?=some (.pointer (some ⟨B i,0,none⟩))/\(plv B F)[3+i]?=some (.pointer (some ⟨F i,0,none⟩)):=by
 match i,hi with
 |0,_=>exact⟨rfl,rfl⟩
 |1,_=>exact⟨rfl,rfl⟩
 |2,_=>exact⟨rfl,rfl⟩
def zwH{C:Q9}{R E I:List Nat}{n t:Nat}{D:Qk}{w:World}{B M F:Nat->Nat}{S:Nat->Rs}{o:Opn}{ia:Option Addr}{ic:Nat}(e:Env25 C R E I)(Z:OkS C R E I n S)(hn:n<=25)(ht:t<800000)(N:Play D t w B M F S)(hG:Gd D w)(ho:OpE E I o)(d:Dat D w (.slice ia o.items.length ic) (rg o.items)):
 Calls xT 9 #[.agg (plv B F),.agg (opv o ia ic)] w λe w'=>e=.returned (.bool true)/\Keep (λk=>k=B (zsV o.who)\/k=M (zsV o.who)\/k=F (zsV o.who)) w w'/\Play (Nw D w w') (t+25) w' B M F (zsY S o):=by
 obtain⟨w1,ab⟩:=xm ((w.alloc (.cells (plv B F) 30)).alloc (.cells (opv o ia ic) 38));have aE:Below w.heap.size w w1:=by rw[ab];exact((tB _ w).alloc (Zp _) _).alloc b8 _
 have aR:w1.heap.size=w.heap.size+2:=by rw[ab];simp
 have aN:w1.heap[w.heap.size]?=some (.cells (plv B F) 30 (0,0)):=by rw[ab];exact Ty _ _ _
 have ak:w1.heap[w.heap.size+1]?=some (.cells (opv o ia ic) 38 (0,0)):=by rw[ab];exact Tx _ _ _
 have y0:w1.cell? ⟨w.heap.size+1,0,none⟩=some (.int .i64 o.who):=(zW ak 0 _ rfl).1;have y1:w1.cell? ⟨w.heap.size+1,1,none⟩=some (.int .i64 o.from_):=(zW ak 1 _ rfl).1;have y4:w1.cell? ⟨w.heap.size+1,4,none⟩=some (.slice ia o.items.length ic):=(zW ak 4 _ rfl).1;have aM:(o.who%18446744073709551616)%3=((zsV o.who:Nat):Int):=by unfold zsV;omega
 have aI:(o.from_%18446744073709551616)%3=((zsV o.from_:Nat):Int):=by unfold zsV;omega
 have HX:=qL aN;have HY:=qL ak;have aB:=qL aE;have aD:=qL aM;have aC:=qL aI;clear aN ak aE aM aI;dsimp only[plv,opv]at ab⊢;go_enter func9,ntmps9
 go_wp2_with fail
 rw[<-ab];clear ab;go_region;rw[aD.o,aC.o];obtain⟨i,ae⟩:=xm (zsV o.who);obtain⟨j,az⟩:=xm (zsV o.from_);have hi:i<3:=by rw[ae];exact zs5 _
 have hj:j<3:=by rw[az];exact zs5 _
 rw[<-ae,<-az];have hW:Below w.heap.size w w1.drew:=aB.o.drew;obtain⟨W,ah⟩:=xm (w1.drew);rw[<-ah]at hW⊢;have be:W.heap.size=w.heap.size+2:=by rw[ah];exact aR
 have aO:W.heap[w.heap.size]?=some (.cells (plv B F) 30 (0,0)):=by rw[ah];exact HX.o
 have aA:W.heap[w.heap.size+1]?=some (.cells (opv o ia ic) 38 (0,0)):=by rw[ah];exact HY.o
 obtain⟨b1,b2,b3⟩:=N.lt hi;obtain⟨c1,c2,c3⟩:=N.lt hj;obtain⟨n1,n2,n3⟩:(∀o,¬D (B i) o)/\(∀o,¬D (M i) o)/\∀o,¬D (F i) o:=⟨λo=>(N.nd i hi o).1,λo=>(N.nd i hi o).2.1,λo=>(N.nd i hi o).2.2⟩;have aH:=N.bm i i hi hi;have aG:=N.bf i i hi hi;have aK:=N.mf i i hi hi;have aF:∀A,Below W.heap.size W A->(∀k,k<3->Rpl D t A (B k) (M k) (S k)/\Rpf D A (F k) (S k))/\Gd D A/\Dat D A (.slice ia o.items.length ic) (rg o.items):=λA G=>by have hk:Keep qe w A:=(Keep.of_below' hW (Zp _)).trans (Keep.of_below' G (Zp _));exact⟨λk af=>⟨(N.a k af).keep hk id id λb o h=>⟨h,id⟩,(N.f k af).keep hk id λb o h=>⟨h,id⟩⟩,hG.keep hk λ_ _ _=>id,d.mono (λ_ _ h=>h) λb o x hd hx=>hk.cell_some hx id⟩
 have y4:W.cell? ⟨w.heap.size+1,4,none⟩=some (.slice ia o.items.length ic):=(zW aA 4 _ rfl).1;have HK:=qL (And.intro N (And.intro hG (And.intro d (And.intro Z (And.intro ho e)))));have O:=qL aF;have ad:=qL aO;have an:=qL aA;have ac:=qL hW;clear y0 y1 N hG d Z ho e aF aO aA hW ah HX HY aB aD aC;by_cases h0:o.items.length=0
 .go_wp2_with fail
  rename_i Kx hKx;have am:=qL hKx;clear hKx;obtain⟨N,hG,d,Z,ho,e⟩:=HK.o;have aj:zsY S o=ztC S i (ztM (S i) o.item o.val):=(by rw[ae];exact VS h0);have hs:Ok25 C R E I n (S i):=Z i hi;refine do3 (x:=ztL (S i) o.item o.val) (R:=λA L=>Keep (λk=>k=B i\/k=M i) A L/\Rpl (Nw D A L) (t+1) L (B i) (M i) (ztM (S i) o.item o.val)) hi (zW ad.o i _ (zsN B F hi).1).1 (zW an.o 2 _ rfl).1 (zW an.o 3 _ rfl).1 b6 b6 b6 (λA G=>(zvG e hs hn ho.2.2.2.1 ((O.o A G).1 i hi).1 (O.o A G).2.1 n1 n2 aH b6).mono (by rintro e w' ⟨rfl,h1,h2⟩;exact⟨rfl,h1,h2⟩)) (λA L h=>h.1) ?_ am.o rfl rfl rfl rfl;intro w5 w6 W' g X Q T bc hg t ht h2 h3 h5 h7 h8;have H:Keep (λk=>k=B i\/k=M i) W W':=Keep.step X Q.1 T;have aS:=H.size;have y:∀A,Below W'.heap.size W' A->Rpf D A (F i) (S i)/\Gd D A:=λA G=>by have hk:Keep (λk=>k=B i\/k=M i) w A:=((Keep.of_below' ac.o (Zp _)).trans H).trans (Keep.of_below' G (Zp _));have hd:∀b o,D b o->¬(b=B i\/b=M i):=λb o h e=>e.elim (λe=>n1 o (e▸h)) λe=>n2 o (e▸h);exact⟨(N.f i hi).keep hk b6 λb o h=>⟨h,hd b o h⟩,hG.keep hk hd⟩
  refine do4 (x:=ztL (S i) o.item o.val) (R:=λA L=>Keep (λk=>k=F i) A L/\Rpf (Nw D A L) L (F i) (ztM (S i) o.item o.val)) hi hg b6 (H.cell_some (zW ad.o (3+i) _ (zsN B F hi).2).1 (by show ¬(w.heap.size=B i\/w.heap.size=M i);omega)) (H.cell_some (zW an.o 2 _ rfl).1 (by show ¬(w.heap.size+1=B i\/w.heap.size+1=M i);omega)) (H.cell_some (zW an.o 3 _ rfl).1 (by show ¬(w.heap.size+1=B i\/w.heap.size+1=M i);omega)) b6 b6 b6 (λA G=>(zuS e hs hn ho.2.2.2.1 (y A G).1 (y A G).2 n3).mono (by rintro e w' ⟨rfl,h1,h2⟩;exact⟨rfl,h1,h2⟩)) (λA L h=>h.1) ?_ ht h2 h3 h5 h7 h8;intro aY aZ P U J K;have Y:Keep (λk=>k=F i) W' P:=Keep.step U J.1 K;have V:Keep (λk=>k=B i\/k=M i\/k=F i) w P:=((Keep.of_below' ac.o (Zp _)).trans (H.mono λk _ h=>h.elim .inl λh=>.inr (.inl h))).trans (Y.mono λk _ h=>.inr (.inr h));have s5:=X.size;have s6:=Q.1.size;have s7:=T.size;have aV:=U.size;have aW:=J.1.size;have aX:=K.size;have s8:=Y.size;have ai:∀b o,D b o->b<w.heap.size:=hG.2;refine⟨rfl,ae▸V,?_⟩;rw[aj];refine N.upd hi b6 V (λb o h=>.inl h) (λb o h=>h.imp id UY) ?_ ?_
  .refine((Q.2.keep (D':=Nw D w5 w6) T b6 b6 λb o h=>⟨h,λe=>?_⟩).keep (D':=Nw D w P) Y aG aK λb o h=>⟨?_,λe=>?_⟩).mono b6
   .rcases h with h|h
    .have:=ai b o h;omega
    .omega
   .exact h.imp id λh=>⟨b6,b6⟩
   .rcases h with h|h
    .exact n3 o (e▸h)
    .omega
  .refine J.2.keep K b6 λb o h=>⟨h.imp id λh=>⟨b6,b6⟩,λe=>?_⟩;rcases h with h|h
   .have:=ai b o h;omega
   .omega
 .have ba:¬((o.items.length:Int)=0):=b6
  go_wp2_with fail
  rename_i Kx hKx;have am:=qL hKx;clear hKx;obtain⟨N,hG,d,Z,ho,e⟩:=HK.o;have hs:Ok25 C R E I n (S i):=Z i hi;have hf:Ok25 C R E I n (S j):=Z j hj;have ai:∀b o,D b o->b<w.heap.size:=hG.2;have aJ:o.items.length<=10:=ho.2.2.1;have ar:∀A,Gd D A->Dat D A (.slice ia o.items.length ic) (rg o.items)->Calls xT 21 #[.slice ia o.items.length ic] A λe w'=>e=.returned (.tuple #[.int .i64 (Zl o.items).1,.int .i64 (Zl o.items).2])/\Below A.heap.size A w':=λA G dA=>by
   refine(jP (XO o.items b6 ho.1) G.1 G.2 rfl λk p hp=>?_).mono ?_
   .match k,hp with
    |0,hp=>cases hp;exact dA
    |k+1,hp=>simp at hp
   .rintro e w' ⟨u,rfl,hb,hd⟩;rw[zux hd];exact⟨rfl,hb⟩
  have aP:=(zW ad.o i _ (zsN B F hi).1).1;have aQ:=(zW ad.o j _ (zsN B F hj).1).1;have aT:=(zW ad.o (3+i) _ (zsN B F hi).2).1;have aU:=(zW ad.o (3+j) _ (zsN B F hj).2).1;have ax:∀b o,D b o->¬(b=B i\/b=M i):=λb o h e=>e.elim (λe=>n1 o (e▸h)) λe=>n2 o (e▸h);by_cases hc:(Zl o.items).1=0
  .obtain⟨aL,hE⟩:=ho.ed hc;have aj:zsY S o=ztC S i (ztt (S i) (S j) o.items):=(by unfold zsY;rw[V2 h0,VS hc,ae,az]);refine do6 (n:=(zs0 (S j) (S i).known o.items).length) (er:=.nilIface) (R:=λA L=>Keep (λk=>k=B i\/k=M i) A L/\Rpl (Nw D A L) (t+25) L (B i) (M i) (ztt (S i) (S j) o.items)) hi hj aP aQ y4 b6 b6 b6 (λA G=>(zuP e hs hf b6 ((O.o A G).1 i hi).1 ((O.o A G).1 j hj).1 (O.o A G).2.1 n1 n2 aH b6 aL hE aJ (O.o A G).2.2).mono (by rintro e w' ⟨rfl,h1,h2⟩;exact⟨rfl,h1,h2⟩)) (λA L h=>h.1) ?_ am.o rfl rfl rfl rfl rfl;intro w5 w6 W' X Q T t ht h2 h3 h5 h6 au av;have H:Keep (λk=>k=B i\/k=M i) W W':=Keep.step X Q.1 T;have aS:=H.size;have y:∀A,Below W'.heap.size W' A->(∀k,k<3->Rpf D A (F k) (S k))/\Gd D A/\Dat D A (.slice ia o.items.length ic) (rg o.items):=λA G=>(by have hk:Keep (λk=>k=B i\/k=M i) w A:=((Keep.of_below' ac.o (Zp _)).trans H).trans (Keep.of_below' G (Zp _));exact⟨λk af=>(N.f k af).keep hk (by rintro(e|e);exact N.bf _ _ hi af e.symm;exact N.mf _ _ hi af e.symm) λb o h=>⟨h,ax b o h⟩,hG.keep hk ax,d.mono (λ_ _ h=>h) λb o x hd hx=>hk.cell_some hx (ax b o hd)⟩)
   have aq:=ar W' (y W' (tB _ _)).2.1 (y W' (tB _ _)).2.2;rw[hc]at aq;have aw:∀k,k=w.heap.size\/k=w.heap.size+1->¬(k=B i\/k=M i):=λk hk=>b6;refine do7 (k0:=(Zl o.items).2) (R:=λA L=>Keep (λk=>k=F i) A L/\Rpf (Nw D A L) L (F i) (ztt (S i) (S j) o.items)) hi hj (H.cell_some aT (aw _ (.inl rfl))) (H.cell_some aU (aw _ (.inl rfl))) (H.cell_some y4 (aw _ (.inr rfl))) b6 b6 aq (λA G=>(zuo e hs hf b6 ((y A G).1 i hi) ((y A G).1 j hj) (λe=>by rw[N.ff _ _ hj hi e]) (y A G).2.1 n3 aL hE aJ (y A G).2.2).mono (by rintro e w' ⟨rfl,h1,h2⟩;exact⟨rfl,h1,h2⟩)) (λA L h=>h.1) ?_ ht h2 h3 h5 h6 au av;intro aY aZ P U J K;have Y:Keep (λk=>k=F i) W' P:=Keep.step U J.1 K;have V:Keep (λk=>k=B i\/k=M i\/k=F i) w P:=((Keep.of_below' ac.o (Zp _)).trans (H.mono λk _ h=>h.elim .inl λh=>.inr (.inl h))).trans (Y.mono λk _ h=>.inr (.inr h));have s5:=X.size;have s6:=Q.1.size;have s7:=T.size;have aV:=U.size;have aW:=J.1.size;have aX:=K.size;have s8:=Y.size;refine⟨rfl,ae▸V,?_⟩;rw[aj];refine N.upd hi b6 V (λb o h=>.inl h) (λb o h=>h.imp id UY) ?_ ?_
   .refine(Q.2.keep (D':=Nw D w5 w6) T b6 b6 λb o h=>⟨h,λe=>?_⟩).keep (D':=Nw D w P) Y aG aK λb o h=>⟨?_,λe=>?_⟩
    .rcases h with h|h
     .have:=ai b o h;omega
     .omega
    .exact h.imp id λh=>⟨b6,b6⟩
    .rcases h with h|h
     .exact n3 o (e▸h)
     .omega
   .refine J.2.keep K b6 λb o h=>⟨h.imp id λh=>⟨b6,b6⟩,λe=>?_⟩;rcases h with h|h
    .have:=ai b o h;omega
    .omega
  .have aj:zsY S o=S:=(by unfold zsY;rw[V2 h0,V2 hc]);have ag:=zth o.items none 0 hc;replace ag:(Zl o.items).1=2\/(Zl o.items).1=3:=ag;refine do6 (m0:=M i) (n:=0) (er:=erV (Zl o.items)) (R:=λA L=>Below A.heap.size A L) hi hj aP aQ y4 b6 b6 b6 (λA G=>(zuO e hs ((O.o A G).1 i hi).1 (O.o A G).2.1 ho.1 hc b6 (O.o A G).2.2).mono (by rintro e w' ⟨rfl,h1⟩;exact⟨rfl,h1⟩)) (λA L h=>Keep.of_below' h (Zp _)) ?_ am.o rfl rfl rfl rfl rfl;intro w5 w6 W' X Q T t ht h2 h3 h5 h6 au av;have H:Keep qe W W':=Keep.step X (Keep.of_below' Q (Zp _)) T;have y:∀A,Below W'.heap.size W' A->Gd D A/\Dat D A (.slice ia o.items.length ic) (rg o.items):=λA G=>(by have hk:Keep qe w A:=((Keep.of_below' ac.o (Zp _)).trans H).trans (Keep.of_below' G (Zp _));exact⟨hG.keep hk λ_ _ _=>id,d.mono (λ_ _ h=>h) λb o x hd hx=>hk.cell_some hx id⟩);have aq:=ar W' (y W' (tB _ _)).1 (y W' (tB _ _)).2;have ay:∀A,Dat D A (.agg #[.string sRp,.iface 123 (.agg #[.int .i64 (Zl o.items).1,.int .i64 (Zl o.items).2])]) (.agg [.v (.string sRp),jS (Zl o.items).1 (Zl o.items).2]):=λA=>(by rw[zmb hc];exact znT (.v _) (.ifc _ _ _ (znT (.v _) (.v _) rfl rfl)) rfl rfl);have ao:∀{u:Value}{p:PV}{A:World},Dat D A u p->∀(k:Nat) q,[p][k]?=some q->Dat D A (#[u].getD k undef) q:=λh k q hq=>by
    match k,hq with
    |0,hq=>cases hq;exact h
    |k+1,hq=>simp at hq
   refine do8 (e0:=((Zl o.items).1:Int)) (k0:=(Zl o.items).2) (s2:=zn4 (Zl o.items).1) (by rcases ag with h|h<;>rw[h]<;>decide) (by rw[zoJ];omega) (H.cell_some y4 id) aq (λA G=>zsI (zpW sRp (Zl o.items) hc) (y A G).1 rfl (ao (.ifc _ _ _ (ay A)))) (λA G=>zsI (zrc sRp (Zl o.items) hc) (y A G).1 rfl (ao (.ifc _ _ _ (ay A)))) (λA G=>?_) (λA G=>zsI (zoT (Zl o.items).1 (by rcases ag with h|h<;>rw[h]<;>decide)) (y A G).1 rfl (ao (.v _))) ?_ ht h3 au av
   .have:=zsI (zom sRp (Zl o.items) dE hc (by rcases ag with h|h<;>rw[h]<;>decide)) (y A G).1 rfl (ao (ay A));rw[show sRp++zoq=(⟨#[114,101,112,108,105,99,97,58,32]⟩:ByteArray) from by kernel_rfl]at this;exact this
   .intro P hb;have V:Keep qe w P:=((Keep.of_below' ac.o (Zp _)).trans H).trans (Keep.of_below' hb (Zp _));refine⟨rfl,V.mono λ_ _ h=>h.elim,?_⟩;rw[aj];exact N.same b6 (V.below (Zp _) λ_ _ h=>h) (λb o h=>.inl h) (λb o h=>h.imp id UY)
def Ke.sz{C:Q9}{R E I:List Nat}{k:List Fg}(h:Ke C R E k)(e:Env25 C R E I):k.length<=1000000/\∀f∈k,f.items.length<=1000000/\f.vec.length<=1000000/\∀y∈f.vec,y.holes.length<=1000000:=by
 have w:=h.l;have A:=h.m;have B:=e.e;refine⟨b6,λf j=>⟨by have:=yv j;omega,?_,λy o=>by have:=(h.s f j).2.2 y o;omega⟩⟩;have hi:=h.ik f j;have u:=Ji (f.vec.map En.rep) R (uD.2 hi.right.2) λy o=>by obtain⟨z,hz,rfl⟩:=wG.1 o;exact hi.rep z hz
 have:=e.ok.2;rw[wB]at u;omega
def Play.sub{D j:Qk}{t y:Nat}{w:World}{B M F:Nat->Nat}{S:Nat->Rs}(h:Play D t w B M F S)(ht:t<=y)(u:∀b o,D b o->j b o)(nd:∀i,i<3->∀o,¬j (B i) o/\¬j (M i) o/\¬j (F i) o):Play j y w B M F S:=
 ⟨λi hi=>((h.a i hi).keep (S:=qe) (Keep.refl _ _) id id λb o h=>⟨u b o h,id⟩).mono ht,λi hi=>(h.f i hi).keep (S:=qe) (Keep.refl _ _) id λb o h=>⟨u b o h,id⟩,h.bb,h.mm,h.ff,h.bm,h.bf,h.mf,nd⟩
def PB(B M F:Nat->Nat)(k:Nat):Prop:=∃i,i<3/\(k=B i\/k=M i\/k=F i)
structure PlI(C:Q9)(R E I:List Nat)(D:Qk)(w2:World)(B M F:Nat->Nat)(j:Nat)(S:Nat->Rs)(wr:World):Prop where
 p:Play (Nw D w2 wr) (25*j) wr B M F S
 ok:OkS C R E I j S
 k:Keep (PB B M F) w2 wr
def PlI.step{C:Q9}{R E I:List Nat}{D:Qk}{u wr:World}{B M F:Nat->Nat}{j:Nat}{S:Nat->Rs}{o:Opn}{ia:Option Addr}{ic:Nat}(h:PlI C R E I D u B M F j S wr)(e:Env25 C R E I)(Z:j<25)(ho:OpE E I o)(P:Gd D u)(L:∀i,i<3->B i<u.heap.size/\M i<u.heap.size/\F i<u.heap.size)(A:∀i,i<3->∀o,¬D (B i) o/\¬D (M i) o/\¬D (F i) o)(d:Dat D u (.slice ia o.items.length ic) (rg o.items))(obj:Obj):
 Calls xT 9 #[.agg (plv B F),.agg (opv o ia ic)] (wr.alloc obj) λe O=>e=.returned (.bool true)/\PlI C R E I D u B M F (j+1) (zsY S o) O:=by
 have y:Keep (PB B M F) u (wr.alloc obj):=h.k.alloc _;have G:∀b o,D b o->¬PB B M F b:=λb o H hb=>by
  obtain⟨i,hi,rfl|rfl|rfl⟩:=hb
  .exact(A i hi o).1 H
  .exact(A i hi o).2.1 H
  .exact(A i hi o).2.2 H
 have J:Gd (Nw D u (wr.alloc obj)) (wr.alloc obj):=Gd.new (w:=u) (P.keep y G) y.size;have N:Play (Nw D u (wr.alloc obj)) (25*j) (wr.alloc obj) B M F S:=h.p.same (Zp _) ((tB _ _).alloc (Zp _) _) (λb o h=>h.imp id λh=>⟨h.1,b7⟩) λb o h=>by
  rcases h with h|h
  .exact .inl (.inl h)
  .by_cases hb:b<wr.heap.size
   .exact .inl (.inr ⟨h.1,hb⟩)
   .exact .inr b6
 refine(zwH e h.ok b6 b6 N J ho (d.mono (λ_ _ h=>.inl h) λb o x H T=>y.cell_some T (G b o H))).mono ?_;rintro Y O ⟨rfl,hk,Q⟩;have K:Keep (PB B M F) u O:=y.trans (hk.mono λk _ e=>⟨_,zs5 _,e⟩);have s1:=y.size;have s2:=hk.size;refine⟨rfl,Q.sub b6 (λb o h=>?_) λi hi o=>?_,h.ok.step e ho b6,K⟩
 .rcases h with(h|h)|h
  .exact .inl h
  .exact .inr ⟨h.1,b6⟩
  .exact .inr ⟨b6,h.2⟩
 .obtain⟨U,V,X⟩:=A i hi o;obtain⟨l1,l2,l3⟩:=L i hi;exact⟨λh=>h.elim U b6,λh=>h.elim V b6,λh=>h.elim X b6⟩
def PlI.gd{C:Q9}{R E I:List Nat}{D:Qk}{y wr:World}{B M F:Nat->Nat}{j:Nat}{S:Nat->Rs}(h:PlI C R E I D y B M F j S wr)(G:Gd D y)(u:∀i,i<3->∀o,¬D (B i) o/\¬D (M i) o/\¬D (F i) o):Gd (Nw D y wr) wr:=
 Gd.new (w:=y) (G.keep h.k λb o A hb=>by
  obtain⟨i,hi,rfl|rfl|rfl⟩:=hb
  .exact(u i hi o).1 A
  .exact(u i hi o).2.1 A
  .exact(u i hi o).2.2 A) h.k.size
def zud{D:Qk}{A:World}{v:Value}{p:PV}(h:Dat D A v p):∀(k:Nat) q,[p][k]?=some q->Dat D A (#[v].getD k undef) q:=λk q j=>by
 match k,j with
 |0,j=>cases j;exact h
 |k+1,j=>simp at j
def zwd{D:Qk}{w:World}{v:Value}{l:List Iv}(h:Dat D w v (rg l)):l.length<=9223372036854775807:=by
 unfold rg at h;generalize j:l.map Q2=es at h;have y:es.length=l.length:=by rw[<-j];simp
 cases h with
 |sl a cap sz es o b off u hc hz hm ha hsz hd hx=>unfold maxLen at hm;omega
def zvV{l:List Opn}{items:List Iv}(h:ztR l=true)(hb:∀o∈l,BdO o)(hi:items.length<=10):Env25 (λ_=>List.range 27) [0,10,20,999] (edO l++z6 items) (l.map Opn.item)/\∀o∈l,OpE (edO l++z6 items) (l.map Opn.item) o:=by
 obtain⟨e,y⟩:=zu9 h hb;have E:=zt4 l λo ho=>((ztG h).2 o ho).2;have F:=(ztG h).1;have G:=vq items;refine⟨⟨⟨λr=>b8,b8⟩,e.c,by simp[edO],by rw[wu];omega,e.i,λi hi=>?_⟩,λo ho=>?_⟩
 .obtain⟨j,u,w⟩:=e.m i hi;exact⟨j,Ug _ u,λh=>Ug _ (w h)⟩
 .obtain⟨j,u,w,B,C⟩:=y o ho;exact⟨j,u,w,B,λx A=>Ug _ (C x A)⟩
def zvC{C:Q9}{R E I:List Nat}{n t O a c:Nat}{D:Qk}{w:World}{B M F:Nat->Nat}{S:Nat->Rs}{A f:Rs}{b m:Nat}{items:List Iv}{ia:Option Addr}{ic:Nat}(e:Env25 C R E I)(P:Ok25 C R E I n A)(X:Ok25 C R E I n f)(hn:n<=26)(J:Rpl D t w b m A)(hF:Rpl D O w a c f)(N:Gd D w)(G:∀o,¬D b o)(H:∀o,¬D m o)(K:b≠m)(ht:t<900000)(hi:Nrm items)(Q:∀x,Ed items x->x∈E)(L:items.length<=10)(d:Dat D w (.slice ia items.length ic) (rg items))(T:a≠b/\a≠m)(U:c≠b/\c≠m):
 Calls xT 11 #[.pointer (some ⟨b,0,none⟩),.pointer (some ⟨a,0,none⟩),.slice ia items.length ic] w λe j=>e=.returned (.tuple #[.int .i64 (zs0 f A.known items).length,.nilIface])/\Keep (λk=>k=b\/k=m) w j/\Gd (Nw D w j) j/\Rpl (Nw D w j) (t+25) j b m (ztt A f items)/\Rpl (Nw D w j) O j a c f/\Dat (Nw D w j) j (.slice ia items.length ic) (rg items)/\(∀o,¬Nw D w j b o)/\(∀o,¬Nw D w j m o):=by
 have Z:b<w.heap.size:=(Y1.1 J.choose_spec.choose_spec.1).1;have ab:m<w.heap.size:=J.choose_spec.choose_spec.2.1.lt;have Y:a<w.heap.size:=(Y1.1 hF.choose_spec.choose_spec.1).1;refine(zuP e P X hn J hF N G H K ht hi Q L d).mono ?_;rintro e j ⟨rfl,hk,hr⟩;have y:∀u o,D u o->¬(u=b\/u=m):=λu o h=>by
  rintro(rfl|rfl)
  .exact G _ h
  .exact H _ h
 refine⟨rfl,hk,Gd.new (w:=w) (N.keep hk y) hk.size,hr,hF.keep hk b6 b6 λu o h=>⟨.inl h,y u o h⟩,d.mono (λ_ _ h=>.inl h) λu o x V hx=>hk.cell_some hx (y u o V),λo h=>h.elim (G o) b6,λo h=>h.elim (H o) b6⟩
def Nw.nest{D:Qk}{w A j B:World}(u:w.heap.size<=j.heap.size)(y:A.heap.size<=B.heap.size){b o:Nat}(h:Nw (Nw D w A) j B b o):Nw D w B b o:=by
 rcases h with(h|h)|h
 .exact .inl h
 .exact .inr ⟨h.1,b6⟩
 .exact .inr ⟨b6,h.2⟩
def Nw.np{D:Qk}{t:Nat}{w W:World}{B M F:Nat->Nat}{S:Nat->Rs}(j:Play D t w B M F S){b o:Nat}(h:Nw D w W b o):¬PB B M F b:=by
 rintro⟨i,hi,u⟩;obtain⟨y,A,C⟩:=j.nd i hi o;obtain⟨E,G,H⟩:=j.lt hi;rcases h with h|h
 .rcases u with rfl|rfl|rfl
  .exact y h
  .exact A h
  .exact C h
 .omega
def SlK.keepP{D:Qk}{t:Nat}{w:World}{B M F:Nat->Nat}{S:Nat->Rs}(y:Play D t w B M F S){k:List Fg}{u:Value}{A j:World}(h:SlK D w k u A)(hk:Keep (PB B M F) A j):SlK D w k u j:=by obtain⟨a,c,e,h⟩:=h;exact⟨a,c,e,h.mono (λb o h=>h.imp id λh=>⟨h.1,Vq h.2 hk.size⟩) λb o x C E=>hk.cell_some E (Nw.np y C)⟩
def zuH{C:Q9}{R E I:List Nat}{n t b m:Nat}{D:Qk}{w W:World}{s:Rs}(e:Env25 C R E I)(h:Ok25 C R E I n s)(B:Rpl (Nw D w W) t W b m s)(A:Gd (Nw D w W) W)(hs:w.heap.size<=W.heap.size):
 Calls xT 10 #[.pointer (some ⟨b,0,none⟩)] W λe j=>Below W.heap.size W j/\∃u,e=.returned u/\SlK D w s.known u j:=by
 refine(zte (n:=0) B A h.k.can (h.k.sz e).1 (h.k.sz e).2).mono ?_;rintro e j ⟨v,rfl,hb,y⟩;obtain⟨a,c,rfl⟩:=zsM y;exact⟨hb,_,rfl,a,c,rfl,y.mono (λb o h=>Nw.nest hs hb.size h) λ_ _ _ _ h=>h⟩
structure Stg(D:Qk)(w:World)(B M:Nat->Nat)(s0 s1:Rs)(t:Nat)(v:Value)(items:List Iv)(W:World):Prop where
 g:Gd (Nw D w W) W
 a:Rpl (Nw D w W) t W (B 0) (M 0) s0
 b:Rpl (Nw D w W) t W (B 1) (M 1) s1
 d:Dat (Nw D w W) W v (rg items)
 sz:w.heap.size<=W.heap.size
section
variable {C:Q9}{R E I:List Nat}{n t t1:Nat}{D:Qk}{w W W':World}{B M F:Nat->Nat}{S:Nat->Rs}{s0 s1:Rs}{items:List Iv}{ia:Option Addr}{ic:Nat}{v:Value}
def Nw.up(h:W.heap.size<=W'.heap.size){b o:Nat}(u:Nw D w W b o):Nw D w W' b o:=u.imp id λj=>⟨j.1,Vq j.2 h⟩
def Stg.below(h:Stg D w B M s0 s1 t v items W)(hb:Below W.heap.size W W'):Stg D w B M s0 s1 t v items W':=by
 have hk:Keep qe W W':=Keep.of_below' hb (Zp _);have u:∀b o,Nw D w W b o->Nw D w W' b o/\¬qe b:=λb o j=>⟨Nw.up hb.size j,id⟩;have y:=h.sz;refine⟨?_,h.a.keep hk id id u,h.b.keep hk id id u,h.d.mono (λb o h=>(u b o h).1) λb o x j A=>hk.cell_some A id,V3 y hb.size⟩;have:=h.g.keep hk λ_ _ _=>id;exact⟨this.1.mono (λb o h=>(u b o h).1) λ_ _ _ _ h=>h,λb o j=>by
  rcases j with j|j
  .exact this.2 b o (.inl j)
  .exact j.2⟩
def Stg.pull(h:Stg D w B M s0 s1 t1 (.slice ia items.length ic) items W)(u:Play D t w B M F S)(e:Env25 C R E I)(P:Ok25 C R E I n s0)(Q:Ok25 C R E I n s1)(U:n<=26)(ht:t1<900000)(hi:Nrm items)(T:∀x,Ed items x->x∈E)(H:items.length<=10):
 Calls xT 11 #[.pointer (some ⟨B 0,0,none⟩),.pointer (some ⟨B 1,0,none⟩),.slice ia items.length ic] W λe W'=>e=.returned (.tuple #[.int .i64 (zs0 s1 s0.known items).length,.nilIface])/\Keep (PB B M F) W W'/\Stg D w B M (ztt s0 s1 items) s1 (t1+25) (.slice ia items.length ic) items W':=by
 have K:B 1≠B 0:=λh=>by have:=u.bb 1 0 dE dE h;omega
 have L:M 1≠M 0:=λh=>by have:=u.mm 1 0 dE dE h;omega
 have b10:=u.bm 1 0 dE dE;have G:=u.bm 0 1 dE dE;have A:=u.bm 0 0 dE dE;have N:=h.sz;refine(zvC (B:=B) (M:=M) (F:=F) (S:=S) e P Q U h.a h.b h.g (λo j=>Nw.np u j ⟨0,dE,.inl rfl⟩) (λo j=>Nw.np u j ⟨0,dE,.inr (.inl rfl)⟩) A ht hi T H h.d ⟨K,b10⟩ ⟨Um G,L⟩).mono ?_;rintro e W' ⟨rfl,hk,O,ra,rb,d,_,_⟩;have J:=hk.size;have y:∀b o,Nw (Nw D w W) W W' b o->Nw D w W' b o/\¬qe b:=λb o j=>⟨Nw.nest N J j,id⟩;refine⟨rfl,hk.mono λk _ h=>⟨0,dE,h.imp id .inl⟩,⟨⟨O.1.mono (λb o h=>(y b o h).1) λ_ _ _ _ h=>h,λb o j=>?_⟩,ra.keep (S:=qe) (Keep.refl _ _) id id y,(rb.keep (S:=qe) (Keep.refl _ _) id id y).mono b6,d.mono (λb o h=>(y b o h).1) λ_ _ _ _ h=>h,b6⟩⟩;rcases j with j|j
 .exact O.2 b o (.inl (.inl j))
 .exact j.2
def zwz(e:Env25 C R E I)(hs:Ok25 C R E I n (S 1))(hn:n<=26)(X:999∈R)(J:Rpl (Nw D w W) t1 W (B 1) (M 1) (S 1))(T:Gd (Nw D w W) W)(ay:w.heap.size<=W.heap.size)(hi:Nrm items)(G:∀x,Ed items x->x∈E)(N:items.length<=10)(d:Dat (Nw D w W) W (.slice ia items.length ic) (rg items)):
 Calls xT 15 #[.agg (plv B F),.int .i64 1,.slice ia items.length ic] W λe w'=>Below W.heap.size W w'/\∃u,e=.returned u/\SlK D w (vh zn [] (znF (S 1).known items)) u w':=by
 obtain⟨V,j⟩:=xm (W.alloc (.cells (plv B F) 30));have Y:Below W.heap.size W V:=by rw[j];exact(tB _ _).alloc (Zp _) _
 have ar:V.heap.size=W.heap.size+1:=by rw[j];exact tE _ _
 have af:V.heap[W.heap.size]?=some (.cells (plv B F) 30 (0,0)):=by rw[j];exact tx _ _
 have av:B 1<W.heap.size:=(Y1.1 J.choose_spec.choose_spec.1).1;have aw:M 1<W.heap.size:=J.choose_spec.choose_spec.2.1.lt;have HK:=qL (And.intro e (And.intro hs (And.intro J (And.intro T (And.intro hi (And.intro G d))))));have ai:=qL Y;have ao:=qL af;obtain⟨xn,Q⟩:=xm (items.length);have H:=qL Q;rw[<-Q]at N⊢;clear e hs J T hi G d Y af Q;dsimp only[plv]at j⊢;go_enter func15,ntmps15
 go_wp2_with (go_at_call 20;rw[<-j];refine(zuI 999 (λ_ _=>False) V).mono ?_;rintro e w1 ⟨rfl,K,ax,ae⟩
              have z1:w1.cell? ⟨W.heap.size,1,none⟩=some (.pointer (some ⟨B 1,0,none⟩)):=bc0 K (zW ao.o 1 _ rfl).1)
 obtain⟨e,hs,J,T,hi,G,d⟩:=HK.o;have y:Below W.heap.size W w1:=ai.o.trans (K.mono b6);have A:Keep qe W w1:=Keep.of_below' y (Zp _);have hM:=zw;have X:Ok25 C R E I n ⟨999,[],[],0⟩:=⟨Ke.nil,List.Pairwise.nil,λx hx=>by simp at hx,vj _,by dsimp only;omega,X⟩;have L:=T.2;have P:=zvC (B:=B) (M:=M) (F:=F) (S:=S) (t:=0) (ic:=ic) (ia:=ia) e X hs hn (ae.keep (D':=Nw D w W) (S:=qe) (Keep.refl _ _) id id λ_ _ h=>h.elim) (J.keep A id id λb o h=>⟨h,id⟩) (T.keep A λ_ _ _=>id) (λo U=>by have:=L _ _ U;omega) (λo U=>by have:=L _ _ U;omega) b6 b6 hi G (by rw[<-H.o];exact N) (d.mono (λ_ _ h=>h) λb o x U hx=>A.cell_some hx id) ⟨b6,b6⟩ ⟨b6,b6⟩;rw[<-H.o,ar]at P;have an:=qL P;have aj:=qL y;have ak:=qL X;have aq:=y.size;clear P y A X e hs J T hi G d K ae L j
 go_wp2_with (go_at_call 11;refine an.o.mono ?_;rintro e w2 ⟨rfl,O,Z,ag,_⟩)
 obtain⟨e,hs,_,_,hi,G,_⟩:=HK.o;have ac:=O.size;have ad:=zuH (D:=Nw D w W) (w:=w1) e (ak.o.pull hs e hi G (by rw[<-H.o];exact N)) ag Z ac;have am:=qL ad;have ah:=qL (aj.o.trans (O.below (n:=W.heap.size) aq λq hq h=>b6));clear ad O Z ag e hs hi G
 go_wp2_with (go_at_call 10;refine am.o.mono ?_;rintro e w3 ⟨ab,u,rfl,hu⟩)
 go_ret;obtain⟨a,c,rfl,U⟩:=hu;have au:=ab.size;exact⟨ah.o.trans (ab.mono b6),_,rfl,a,c,rfl,U.mono (λb o h=>Nw.nest b6 b6 h) λ_ _ _ _ h=>h⟩
def Stg.zero(j:Play D t w B M F S)(o:Gd D w)(d:Dat D w v (rg items)):Stg D w B M (S 0) (S 1) t v items w:=
 ⟨Gd.new (w:=w) o (Zp _),(j.a 0 dE).keep (S:=qe) (Keep.refl _ _) id id λ_ _ h=>⟨.inl h,id⟩,(j.a 1 dE).keep (S:=qe) (Keep.refl _ _) id id λ_ _ h=>⟨.inl h,id⟩,d.mono (λ_ _ h=>.inl h) λ_ _ _ _ h=>h,Zp _⟩
def zv7(N:Play D t w B M F S)(e:Env25 C R E I)(ok:OkS C R E I n S)(T:n<=26)(ht:t<800000)(hi:Nrm items)(P:∀x,Ed items x->x∈E)(H:items.length<=10)(j:Stg D w B M (S 0) (S 1) t (.slice ia items.length ic) items w):
 Calls xT 10 #[.pointer (some ⟨B 1,0,none⟩)] w λe L=>∃(y:Option Addr) (A:Nat),e=.returned (.slice y (S 1).known.length A) /\
  Calls xT 11 #[.pointer (some ⟨B 0,0,none⟩),.pointer (some ⟨B 1,0,none⟩),.slice ia items.length ic] L λe G=>(∃q:Nat,e=.returned (.tuple #[.int .i64 q,.nilIface]))/\Keep (PB B M F) w G/\Stg D w B M (ztt (S 0) (S 1) items) (S 1) (t+25) (.slice ia items.length ic) items G/\SlK D w (S 1).known (.slice y (S 1).known.length A) G:=by
 have U:=ok 0 dE;have O:=ok 1 dE;refine(zuH e O j.b j.g j.sz).mono ?_;rintro e1 L ⟨o,X,rfl,y,A,rfl,Q⟩;have J:Keep qe w L:=Keep.of_below' o (Zp _);refine⟨y,A,rfl,?_⟩;refine((j.below o).pull N e U O T b6 hi P H).mono ?_;rintro V G ⟨rfl,u,K⟩;exact⟨⟨_,rfl⟩,(J.mono λ_ _ h=>h.elim).trans u,K,SlK.keepP N ⟨_,_,rfl,Q⟩ u⟩
def zv8(hP:Play D t w B M F S)(e:Env25 C R E I)(pi:PyI S)(ok:OkS C R E I n S)(hn:n<=26)(h9:999∈R)(ht:t1<800000)(hi:Nrm items)(V:∀x,Ed items x->x∈E)(j:items.length<=10)(y:Stg D w B M (ztt (S 0) (S 1) items) (S 1) t1 (.slice ia items.length ic) items W){N:Value}(hp:SlK D w (S 1).known N W):
 Calls xT 10 #[.pointer (some ⟨B 0,0,none⟩)] W λe w3=>Below W.heap.size W w3/\∃u3,e=.returned u3 /\
  Calls xT 12 #[.pointer (some ⟨B 1,0,none⟩),u3,.slice ia items.length ic] w3 λe w4=>Below w3.heap.size w3 w4/\(∃a c,e=.returned (.tuple #[.slice a 0 c,.nilIface])) /\
  Calls xT 11 #[.pointer (some ⟨B 0,0,none⟩),.pointer (some ⟨B 1,0,none⟩),.slice ia items.length ic] w4 λe w5=>e=.returned (.tuple #[.int .i64 0,.nilIface])/\Keep (PB B M F) w4 w5 /\
  Calls xT 10 #[.pointer (some ⟨B 1,0,none⟩)] w5 λe w6=>Below w5.heap.size w5 w6/\∃u6,e=.returned u6 /\
  Calls xT 13 #[N,u6] w6 λe w7=>e=.returned (.bool true)/\Below w6.heap.size w6 w7 /\
  Calls xT 15 #[.agg (plv B F),.int .i64 1,.slice ia items.length ic] w7 λe w8=>Below w7.heap.size w7 w8/\∃u8,e=.returned u8 /\
  Calls xT 10 #[.pointer (some ⟨B 0,0,none⟩)] w8 λe w9=>Below w8.heap.size w8 w9/\∃u9,e=.returned u9 /\
  Calls xT 14 #[u8,u9] w9 λe ai=>e=.returned (.tuple #[.bool true,.nilIface])/\Below w9.heap.size w9 ai:=by
 have o0:=ok 0 dE;have L:=ok 1 dE;have U:=o0.pull L e hi V j;have af:=U.pull L e hi V j;have ab:=zv4 pi e hn ok hi;have ac:OkS C R E I n (ztC S 0 (ztt (S 0) (S 1) items)):=ok.upd (Zp _) U;have K:=zwg e ac hi;rw[zsH,zs6 _ dE]at K;have nb:∀{A B':World},Below A.heap.size A B'->Keep qe A B':=λh=>Keep.of_below' h (Zp _);refine(zuH e U y.a y.g y.sz).mono ?_;rintro e3 w3 ⟨O,u3,rfl,am⟩;have G:=y.below O;have p3:=SlK.stab _ _ _ hp (nb O);obtain⟨a3,c3,rfl,d3⟩:=am;refine⟨O,_,rfl,?_⟩;refine(zul e L hn G.b G.g U.k.r (U.k.zz e) d3 hi b6 G.d).mono ?_;rintro e4 w4 ⟨a,c,rfl,P,_⟩;rw[ab];have ar:=G.below P;have p4:=SlK.stab _ _ _ p3 (nb P);refine⟨P,⟨a,c,rfl⟩,?_⟩;refine(ar.pull hP e U L hn b6 hi V j).mono ?_;rintro e5 w5 ⟨rfl,Z,H⟩;have p5:=p4.keepP hP Z;refine⟨by rw[ab];rfl,Z,?_⟩;refine(zuH e L H.b H.g H.sz).mono ?_;rintro e6 w6 ⟨Q,u6,rfl,an⟩;have ag:=H.below Q;have p6:=SlK.stab _ _ _ p5 (nb Q);refine⟨Q,_,rfl,?_⟩;obtain⟨pa,pc,rfl,pd⟩:=p6;obtain⟨a6,c6,rfl,d6⟩:=an;have ae:=zsI (zfq (S 1).known (S 1).known (L.k.zz e)) ag.g rfl (zuw pd d6);rw[uC rfl]at ae;refine ae.mono ?_;rintro e7 w7 ⟨rfl,X⟩;have o:=ag.below X;refine⟨rfl,X,?_⟩;refine(zwz (S:=S) e L hn h9 o.b o.g o.sz hi V j o.d).mono ?_;rintro e8 w8 ⟨Y,u8,rfl,ao⟩;have J:=o.below Y;refine⟨Y,_,rfl,?_⟩;refine(zuH e af J.a J.g J.sz).mono ?_;rintro e9 w9 ⟨T,u9,rfl,aq⟩;have ah:=J.below T;have p9:=SlK.stab _ _ _ ao (nb T);refine⟨T,_,rfl,?_⟩;obtain⟨a8,c8,rfl,d8⟩:=p9;obtain⟨a9,c9,rfl,d9⟩:=aq;have ak:=(zsR L.k e hi V j).1;have aj:Ke C R E (vh zn [] (znF (S 1).known items)):=Ke.nil.do rfl ak e.ok e.z;have ad:=Zw _ _ aj.kn af.k.kn e.ok (by have:=e.e;omega);rw[uC K]at ad;refine(jP ad ah.g.1 ah.g.2 rfl (zuw d8 d9)).mono ?_;rintro au ai ⟨u,rfl,hb,hd⟩;rw[zux hd]
 exact⟨rfl,hb⟩
end
end
end Go.Proofs.YtjdjjlkifdimkaaGreatDoor
