import Derived.Test.YtmpnbdhadjfbhaaGreatDoorB26
set_option maxHeartbeats 16000000
set_option linter.all false
set_option maxRecDepth 100000
namespace Go.Proofs.YtmpnbdhadjfbhaaGreatDoor
open Go.Proofs.Tryz
open Go.Proofs.Tryz renaming prog->xT
section
open Go.RowKit
attribute [-go_sem] z7
structure Play(D:Qk)(t:Nat)(w:World)(B M F:Nat->Nat)(S:Nat->Rs):Prop where
 a:∀i,i<3->Rpl D t w (B i) (M i) (S i)
 f:∀i,i<3->Rpf D w (F i) (S i)
 bb:∀i j,i<3->j<3->B i=B j->i=j
 mm:∀i j,i<3->j<3->M i=M j->i=j
 ff:∀i j,i<3->j<3->F i=F j->i=j
 bm:∀i j,i<3->j<3->B i≠M j
 bf:∀i j,i<3->j<3->B i≠F j
 mf:∀i j,i<3->j<3->M i≠F j
 nd:∀i,i<3->∀o,¬D (B i) o/\¬D (M i) o/\¬D (F i) o
def plv(B F:Nat->Nat):Array Value:=#[.pointer (some ⟨B 0,0,none⟩),.pointer (some ⟨B 1,0,none⟩),.pointer (some ⟨B 2,0,none⟩),.pointer (some ⟨F 0,0,none⟩),.pointer (some ⟨F 1,0,none⟩),.pointer (some ⟨F 2,0,none⟩)]
def zvq{D:Qk}{w:World}{b id:Nat}(h:w.heap[b]?=some (.cells #[.int .u64 id,.slice none 0 0,.slice none 0 0,.int .u64 0,.bool false] 72 (0,0))):Rpf D w b ⟨id,[],[],0⟩:=
 ⟨none,0,none,0,h,.sl none 0 1 [] .sh 0 0 (λ_=>undef) (Zp _) (λh=>by cases h) b8 (λh=>absurd rfl h) (λi e h=>by simp at h) (λj h=>by simp at h) (λi e j p h=>by simp at h),.sl none 0 1 [] .sh 0 0 (λ_=>undef) (Zp _) (λh=>by cases h) b8 (λh=>absurd rfl h) (λi e h=>by simp at h) (λj h=>by simp at h) (λi e j p h=>by simp at h)⟩
def Bg(w W:World)(i:Nat):Prop:=Rpl (λ_ _=>False) 0 W (w.heap.size+3+3*i) (w.heap.size+2+3*i) ⟨10*i,[],[],0⟩/\Rpf (λ_ _=>False) W (w.heap.size+4+3*i) ⟨10*i,[],[],0⟩
def Bg.keep{S:Nat->Prop}{w W o:World}{i:Nat}(h:Bg w W i)(hk:Keep S W o)(j:∀k,S k->k<=w.heap.size+1):Bg w o i:=
 ⟨h.1.keep hk (λe=>by have:=j _ e;omega) (λe=>by have:=j _ e;omega) λ_ _ h=>False.elim h,h.2.keep hk (λe=>by have:=j _ e;omega) λ_ _ h=>False.elim h⟩
def plj(N j:Nat):Array Value:=#[.pointer (if 0<j then some ⟨N+3,0,none⟩ else none),.pointer (if 1<j then some ⟨N+6,0,none⟩ else none),.pointer (if 2<j then some ⟨N+9,0,none⟩ else none),.pointer (if 0<j then some ⟨N+4,0,none⟩ else none),.pointer (if 1<j then some ⟨N+7,0,none⟩ else none),.pointer (if 2<j then some ⟨N+10,0,none⟩ else none)]
def zuM(N:Nat){j:Nat}(o:j<3):((plj N j).setIfInBounds j (.pointer (some ⟨N+2+3*j+1,0,none⟩))).setIfInBounds (3+j) (.pointer (some ⟨N+2+3*j+2,0,none⟩))=plj N (j+1):=by
 match j,o with
 |0,_=>rfl
 |1,_=>rfl
 |2,_=>rfl
def zt2(w:World):Calls xT 5 #[] w λe w'=>∃B M F,e=.returned (.tuple #[.agg (plv B F),.bool true])/\Below w.heap.size w w'/\Play (λ_ _=>False) 0 w' B M F (λi=>⟨10*i,[],[],0⟩)/\∀i,i<3->w.heap.size<=B i/\w.heap.size<=M i/\w.heap.size<=F i:=by
 go_enter func5,ntmps5
 go_wp2_with fail
 obtain⟨N,u⟩:=xm (w.heap.size);rw[<-u];have K:=qL u;clear u;go_loopg [4] 3 (λg x wr=>∃j,j<=3/\g=3-j/\x=.int .i64 j/\Below N w wr/\wr.heap.size=N+2+3*j/\wr.heap[N]?=some (.cells (plj N 0) 30 (0,0))/\wr.heap[N+1]?=some (.cells (plj N j) 30 (0,0))/\∀i,i<j->Bg w wr i);case atStart=>have u:=K.o;subst u;exact⟨0,X4 _,rfl,rfl,((tr _ w).alloc (Zp _) _).alloc b6 _,b6,Tp _ _ _,Tz _ _ _,λi hi=>absurd hi (Uh _)⟩
 case round=>
  obtain⟨j,hj,rfl,rfl,hb,hs,hz,A,G⟩:=hrel;by_cases C:j<3
  .have ac:((10:Int)*j)%18446744073709551616=((10*j:Nat):Int):=a8;have ab:(j:Int)<3:=a8;have E:(plj N j)[j]?=some (.pointer none)/\(plj N j)[3+j]?=some (.pointer none):=by
    match j,C with
    |0,_=>exact⟨rfl,rfl⟩
    |1,_=>exact⟨rfl,rfl⟩
    |2,_=>exact⟨rfl,rfl⟩
   have L:=qL (And.intro hs (And.intro hb (And.intro hz (And.intro A G))));obtain⟨Y,f0⟩:=zW A j _ E.1;obtain⟨Z,f3⟩:=zW A (3+j) _ E.2;obtain⟨wq,V⟩:∃wq,wq=wr:=⟨wr,rfl⟩;subst V;have ad:¬3+j=j:=a8;have ae:¬j=3+j:=a8;clear hs hb hz A G E
   go_wp2_with (go_at_call 20;refine(zuI (10*j) (λ_ _=>False) wq).mono ?_;rintro e v ⟨rfl,hb,hs,I⟩
                have t0:v.cell? ⟨N+1,j,none⟩=some (.pointer none):=bc0 hb Y;have t3:v.cell? ⟨N+1,3+j,none⟩=some (.pointer none):=bc0 hb Z;have y0:v.frozen? ⟨N+1,j,none⟩=false:=(TD (hb.block _ (tp _ _ Y))).trans f0;have y3:v.frozen? ⟨N+1,3+j,none⟩=false:=(TD (hb.block _ (tp _ _ Z))).trans f3;have Q:N+1<v.heap.size:=tp _ _ t0;have af:N+1≠v.heap.size:=Up Q;have HB:=qL (And.intro hb (And.intro hs I));clear hb hs I)
   have u:=K.o;obtain⟨hb,hs,I⟩:=HB.o;obtain⟨ws,wb,wz,wp,wg⟩:=L.o;have hk:∀(o:Obj)(x y:Value),Keep (λk=>k=N+1) v (((v.setCell ⟨N+1,j,none⟩ x).setCell ⟨N+1,3+j,none⟩ y).alloc o):=λo x y=>(Keep.setCell (S:=λk=>k=N+1) (Keep.setCell (S:=λk=>k=N+1) (Keep.refl _ v) (p:=⟨N+1,j,none⟩) (λ_=>rfl) x) (p:=⟨N+1,3+j,none⟩) (λ_=>rfl) y).alloc o;have T:=(hb.block (N+1) a8).trans wp;have U:=(hb.block N a8).trans wz;have J:v.heap.size=N+2+3*j+2:=a8;rw[J,ws];go_roundg (3-(j+1));case measure=>omega
   case rel=>
    refine⟨j+1,C,rfl,b6,(wb.trans (hb.mono a8)).trans ((hk _ _ _).below a8 λq hq=>a8),a9,(hk _ _ _).obj U a8,?_,λi hi=>?_⟩
    .have:=zsw (zsw T j (.pointer (some ⟨N+2+3*j+1,0,none⟩))) (3+j) (.pointer (some ⟨N+2+3*j+2,0,none⟩));rw[zuM N C]at this;exact(tu _ _ _ a9).trans this
    .by_cases P:i<j
     .exact(wg i P).keep (S:=λk=>k=N+1) ((Keep.of_below' hb (Zp _)).trans (hk _ _ _)) λk e=>a8
     .obtain rfl:i=j:=a8;refine⟨?_,zvq ?_⟩
      .rw[ws]at I;rw[<-u,show N+3+3*i=N+2+3*i+1 by omega];exact I.keep (hk _ _ _) a8 a8 λ_ _ h=>False.elim h
      .have:=tn ((v.setCell ⟨N+1,i,none⟩ (.pointer (some ⟨N+2+3*i+1,0,none⟩))).setCell ⟨N+1,3+i,none⟩ (.pointer (some ⟨N+2+3*i+2,0,none⟩))) (.cells #[.int .u64 (10*i:Nat),.slice none 0 0,.slice none 0 0,.int .u64 0,.bool false] 72);simp only[World.size_setCell,J]at this;rw[<-u,show N+4+3*i=N+2+3*i+2 by omega];exact this
  .obtain rfl:j=3:=a8;obtain⟨p0,q0⟩:=zW A 0 (.pointer (some ⟨N+3,0,none⟩)) rfl;obtain⟨x0,y0⟩:=zW hz 0 (.pointer none) rfl;obtain⟨p1,q1⟩:=zW A 1 (.pointer (some ⟨N+6,0,none⟩)) rfl;obtain⟨x1,y1⟩:=zW hz 1 (.pointer none) rfl;obtain⟨p2,q2⟩:=zW A 2 (.pointer (some ⟨N+9,0,none⟩)) rfl;obtain⟨x2,y2⟩:=zW hz 2 (.pointer none) rfl;obtain⟨p3,q3⟩:=zW A 3 (.pointer (some ⟨N+4,0,none⟩)) rfl;obtain⟨x3,y3⟩:=zW hz 3 (.pointer none) rfl;obtain⟨p4,q4⟩:=zW A 4 (.pointer (some ⟨N+7,0,none⟩)) rfl;obtain⟨x4,y4⟩:=zW hz 4 (.pointer none) rfl;obtain⟨p5,q5⟩:=zW A 5 (.pointer (some ⟨N+10,0,none⟩)) rfl;obtain⟨x5,y5⟩:=zW hz 5 (.pointer none) rfl;have L:=qL (And.intro hs (And.intro hb (And.intro hz G)));clear hs hb hz A G
   go_wp2_with fail
   obtain⟨hs,hb,hz,G⟩:=L.o;have u:=K.o;obtain⟨X,O⟩:=xm (((((((wr.setCell ⟨N,0,none⟩ (.pointer (some ⟨N+3,0,none⟩))).setCell ⟨N,1,none⟩ (.pointer (some ⟨N+6,0,none⟩))).setCell ⟨N,2,none⟩ (.pointer (some ⟨N+9,0,none⟩))).setCell ⟨N,3,none⟩ (.pointer (some ⟨N+4,0,none⟩))).setCell ⟨N,4,none⟩ (.pointer (some ⟨N+7,0,none⟩))).setCell ⟨N,5,none⟩ (.pointer (some ⟨N+10,0,none⟩))));have hk:Keep (λk=>k=N) wr X:=(by rw[O];exact Keep.setCell (S:=λk=>k=N) (Keep.setCell (S:=λk=>k=N) (Keep.setCell (S:=λk=>k=N) (Keep.setCell (S:=λk=>k=N) (Keep.setCell (S:=λk=>k=N) (Keep.setCell (S:=λk=>k=N) (Keep.refl _ wr) (p:=⟨N,0,none⟩) (λ_=>rfl) _) (p:=⟨N,1,none⟩) (λ_=>rfl) _) (p:=⟨N,2,none⟩) (λ_=>rfl) _) (p:=⟨N,3,none⟩) (λ_=>rfl) _) (p:=⟨N,4,none⟩) (λ_=>rfl) _) (p:=⟨N,5,none⟩) (λ_=>rfl) _);have hx:X.heap[N]?=some (.cells #[.pointer (some ⟨N+3,0,none⟩),.pointer (some ⟨N+6,0,none⟩),.pointer (some ⟨N+9,0,none⟩),.pointer (some ⟨N+4,0,none⟩),.pointer (some ⟨N+7,0,none⟩),.pointer (some ⟨N+10,0,none⟩)] 30 (0,0)):=(by rw[O];exact zsw (zsw (zsw (zsw (zsw (zsw (hz) 0 _) 1 _) 2 _) 3 _) 4 _) 5 _);rw[<-O];refine tz (zs4 rfl rfl hx underlying30 dK) rfl ?_;have H:∀i,i<3->Bg w X i:=λi hi=>(G i hi).keep hk λk e=>a8;refine⟨λi=>w.heap.size+3+3*i,λi=>w.heap.size+2+3*i,λi=>w.heap.size+4+3*i,by rw[u];rfl,by rw[<-u];exact hb.trans (hk.below a8 λq hq=>a8),?_,λi hi=>by dsimp only;omega⟩;exact⟨λi hi=>(H i hi).1,λi hi=>(H i hi).2,a8,a8,a8,a8,a8,a8,λi hi o=>⟨id,id,id⟩⟩
def k25:List Fg:=znP 5 1 0
def r25:Rc:=⟨5,1,0,⟨#[97]⟩⟩
def zsP:CanK k25:=by
 have u:(1:Nat)<zk:=by rw[zw];decide
 have o:(0:Nat)<zk:=by rw[zw];decide
 refine⟨⟨λf j=>?_,by simp[k25,znP]⟩,by simp[k25,znP,xh]⟩;simp only[k25,znP,wD]at j;subst j;exact⟨zkS u o,by simp[zl9],by simp[Nrm,NF,zw],b6⟩
def zvd{i r x:Nat}(h:hasK k25 i r x=true):i=5:=by obtain⟨f,j,o,_⟩:=(zfo zsP.right).1 h;simp only[k25,znP,wD]at j;subst j;simp[mem]at o;omega
def zve:vh zn [] k25=k25:=znD rfl zic zsP.right zsP λi r x _ _=>by rw[zcY];simp[zn]
def zuB:Env25 (λ_=>List.range 27) [1,2] [0,5,6,10] [5]:=
 ⟨⟨λr=>b6,b6⟩,λr x j=>a9,b6,b6,b6,λi hi=>by
   simp only[wD]at hi;subst hi;exact⟨by rw[zw];decide,b6,λ_=>b6⟩⟩
def a25:Rs:=⟨1,[r25],k25,1⟩
def zvF:ztM ⟨1,[],[],0⟩ 5 ⟨#[97]⟩=a25:=by show (⟨1,_,vh zn [] (znP 5 1 0),_⟩:Rs)=_;rw[show vh zn [] (znP 5 1 0)=k25 from zve];rfl
def b25:Rs:=⟨2,[],[],0⟩
def zuK(a:Nat)(j:a<=9):Nrm [⟨a,9⟩]:=qG j (by rw[zw];decide)
def zuN(a:Nat)(j:a<=9):vh zn [] (znF k25 [⟨a,9⟩])=if a<=5 then k25 else []:=by
 have o:=zsP.right;refine znD rfl zic (zn1 o (zuK a j)).right ?_ λi r x hi u=>?_
 .split
  .exact zsP
  .exact zaJ
 .rw[zof o (zuK a j) hi u,zcY];by_cases h:hasK k25 i r x=true
  .have:=zvd h;subst this;split
   .rw[h];simp[zn,mem];omega
   .rw[h,zcY];simp[zn,mem];omega
  .rw[um]at h;rw[h];split
   .rw[h];simp[zn]
   .rw[zcY];simp[zn]
def zua:ztt b25 a25 [⟨6,9⟩]=b25/\zs0 a25 [] [⟨6,9⟩]=[]:=by refine⟨?_,rfl⟩;show (⟨2,_,vh zn [] (znF k25 [⟨6,9⟩]),0⟩:Rs)=_;rw[zuN 6 a8];rfl
def zub:ztt b25 a25 [⟨0,9⟩]=⟨2,[r25],k25,0⟩/\zs0 a25 [] [⟨0,9⟩]=[r25]:=by refine⟨?_,rfl⟩;show (⟨2,_,vh zn [] (znF k25 [⟨0,9⟩]),0⟩:Rs)=_;rw[zuN 0 a8];rfl
def zt9{D:Qk}{w:World}{g lo hi:Nat}{t:TypeId}(h:w.heap[g]?=some (.cells #[.int .u64 lo,.int .u64 hi] t (0,0)))(y:D g 0/\D g 1):Dat D w (.slice (some ⟨g,0,none⟩) 1 1) (rg [⟨lo,hi⟩]):=
 .sl _ 1 2 [Q2 ⟨lo,hi⟩] .sh g 0 (λj=>#[.int .u64 lo,.int .u64 hi].getD j undef) (Zp _) (λh=>by cases h) b8 (λ_=>rfl) (λi p o=>by
  match i,o with
  |0,o=>cases o;rfl
  |i+1,o=>simp at o) (λj A=>by
  rw[wn];match j,A with
  |0,_=>exact⟨y.1,(zW h 0 _ rfl).1,rfl⟩
  |1,_=>exact⟨y.2,(zW h 1 _ rfl).1,rfl⟩) λi q j p u o=>by
  match i,u with
  |0,u=>
    cases u;match j,o with
    |0,o=>cases o;exact .v _
    |1,o=>cases o;exact .v _
  |i+1,u=>simp at u
def zt1{D:Qk}{w:World}{a E b bm N G lo:Nat}(T:Ok25 (λ_=>List.range 27) [1,2] [0,5,6,10] [5] 1 a25)(U:Ok25 (λ_=>List.range 27) [1,2] [0,5,6,10] [5] 1 b25)(L:lo=0\/lo=6)(O:Gd D w)(P:Rpl D N w a E a25)(hb:Rpl D G w b bm b25)(nd:∀o,¬D b o/\¬D bm o)(K:b≠bm)(V:a≠b/\a≠bm/\E≠b/\E≠bm)(ht:G<1000)(X:b<w.heap.size/\bm<w.heap.size):
 Calls xT 10 #[.pointer (some ⟨b,0,none⟩),.pointer (some ⟨a,0,none⟩),.slice (some ⟨w.heap.size,0,none⟩) 1 1] (w.alloc (.cells #[.int .u64 lo,.int .u64 9] 61)) λe A=>e=.returned (.tuple #[.int .i64 (zs0 a25 [] [⟨lo,9⟩]).length,.nilIface])/\Keep (λk=>k=b\/k=bm) w A/\Gd (Nw D w A) A/\Rpl (Nw D w A) (G+25) A b bm (ztt b25 a25 [⟨lo,9⟩])/\Rpl (Nw D w A) N A a E a25:=by
 obtain⟨j,y⟩:=xm (w.alloc (.cells #[.int .u64 lo,.int .u64 9] 61));have u:Keep qe w j:=by rw[y];exact(Keep.refl _ _).alloc _
 have ab:j.heap.size=w.heap.size+1:=by rw[y];exact tv _ _
 have M:j.heap[w.heap.size]?=some (.cells #[.int .u64 lo,.int .u64 9] 61 (0,0)):=by rw[y];exact tn _ _
 rw[<-y];have H:Gd (Nw D w j) j:=Gd.new (w:=w) (O.keep u λ_ _ _=>id) a8;have F:∀o,¬Nw D w j b o/\¬Nw D w j bm o:=λo=>⟨λh=>h.elim (nd o).1 a8,λh=>h.elim (nd o).2 a8⟩;have I:Rpl (Nw D w j) N j a E a25:=P.keep u id id λb o h=>⟨.inl h,id⟩;have J:Rpl (Nw D w j) G j b bm b25:=hb.keep u id id λb o h=>⟨.inl h,id⟩;have Y:Nrm [⟨lo,9⟩]:=zuK lo a8;refine(zuP (ic:=1) (ia:=some ⟨w.heap.size,0,none⟩) (items:=[⟨lo,9⟩]) zuB U T a8 J I H (λo=>(F o).1) (λo=>(F o).2) K a8 Y (λx hx=>?_) b6 (zt9 M ⟨.inr ⟨a8,a8⟩,.inr ⟨a8,a8⟩⟩)).mono ?_
 .rcases zhC hx with h|h
  .rcases L with e|e<;>subst e<;>subst h<;>simp
  .subst h;simp
 .rintro e A ⟨rfl,hk,Z⟩;have C:Keep (λk=>k=b\/k=bm) w A:=(u.mono λ_ _ h=>h.elim).trans hk;have ac:=hk.size;have Q:∀B o,D B o->¬(B=b\/B=bm):=λB o h e=>e.elim (λe=>(nd o).1 (e▸h)) λe=>(nd o).2 (e▸h);exact⟨rfl,C,Gd.new (w:=w) (O.keep C Q) a8,Z.keep (S:=qe) (Keep.refl _ _) id id λB o h=>⟨by
   rcases h with(h|h)|h
   .exact .inl h
   .exact .inr ⟨h.1,a8⟩
   .exact .inr ⟨a8,h.2⟩,id⟩,P.keep C a8 a8 λB o h=>⟨.inl h,Q B o h⟩⟩
def zu5{D:Qk}{w:World}(hG:Gd D w):Calls xT 8 #[] w λe G=>e=.returned (.bool true)/\Below w.heap.size w G:=by
 have h0:Ok25 (λ_=>List.range 27) [1,2] [0,5,6,10] [5] 0 ⟨1,[],[],0⟩:=⟨Ke.nil,List.Pairwise.nil,λx hx=>by simp at hx,Zp _,by rw[zw];decide,b6⟩;have h2:Ok25 (λ_=>List.range 27) [1,2] [0,5,6,10] [5] 0 b25:=⟨Ke.nil,List.Pairwise.nil,λx hx=>by simp[b25]at hx,Zp _,by rw[b25,zw];decide,by simp[b25]⟩;have h1:=h0.put zuB (i:=5) (v:=⟨#[97]⟩) b6 b8 a8;rw[zvF]at h1;go_enter func8,ntmps8
 go_wp2_with (first
  |(go_at_call 20;refine(zuI 1 D w).mono ?_;rintro e w1 ⟨rfl,ah,aI,ar⟩)
  |(go_at_call 20;refine(zuI 2 D w1).mono ?_;rintro e y ⟨rfl,N,aM,X⟩))
 have L:Below w.heap.size w y:=ah.trans (N.mono a8);have an:Keep qe w1 y:=Keep.of_below' N (Zp _);have M:Gd D y:=hG.keep (S:=qe) (Keep.of_below' L (Zp _)) λ_ _ _=>id;have J:Rpl D 0 y (w.heap.size+1) w.heap.size ⟨1,[],[],0⟩:=ar.keep an id id λb o h=>⟨h,id⟩;have j:=hG.2;rw[aI]at X;have hp:=zvG (i:=5) (v:=⟨#[97]⟩) zuB h0 a8 b6 J M (λo h=>by have:=j _ _ h;omega) (λo h=>by have:=j _ _ h;omega) a8 a8;rw[zvF]at hp;have HP:qA (Calls xT 14 #[.pointer (some ⟨w.heap.size+1,0,none⟩),.int .u64 5,.string ⟨#[97]⟩] y λe G=>e=.returned (.tuple #[.agg #[.int .u64 5,.int .u64 1,.int .u64 0,.string ⟨#[97]⟩],.nilIface])/\Keep (λk=>k=w.heap.size+1\/k=w.heap.size) y G/\Rpl (Nw D y G) (0+1) G (w.heap.size+1) w.heap.size a25):=qL hp;have aD:=qL X;have aw:=qL L;have H1:=qL h1;have H2:=qL h2;have ay:=qL M;have ax:=qL j;clear ar X ah N an hG M J h0 h1 h2 L j hp
 go_wp2_with (go_at_call 14;refine HP.o.mono ?_;rintro e u ⟨rfl,B,au⟩)
 obtain⟨wr,E⟩:=xm (u.alloc (.cells #[.int .u64 5,.int .u64 1,.int .u64 0,.string ⟨#[97]⟩] 47));have aJ:wr.heap.size=u.heap.size+1:=by rw[E];exact tv _ _
 have I:Keep qe u wr:=by rw[E];exact(Keep.refl _ _).alloc _
 have av:wr.heap[u.heap.size]?=some (.cells #[.int .u64 5,.int .u64 1,.int .u64 0,.string ⟨#[97]⟩] 47 (0,0)):=by rw[E];exact tn _ _
 rw[<-E];rw[<-aJ];clear E;have s3:=B.size;have j:=ax.o;have C:Keep (λk=>k=w.heap.size+1\/k=w.heap.size) y wr:=B.trans (I.mono λ_ _ h=>h.elim);have P:∀b o,D b o->¬(b=w.heap.size+1\/b=w.heap.size):=λb o h=>by have:=j b o h;omega
 have ae:Gd (Nw D y u) wr:=by have:=Gd.new (w:=w) (w0:=y) (ay.o.keep B P) B.size;exact this.keep I λ_ _ _=>id
 have ag:Rpl (Nw D y u) 1 wr (w.heap.size+1) w.heap.size a25:=au.keep I id id λb o h=>⟨h,id⟩;have aj:Rpl (Nw D y u) 0 wr (w.heap.size+3) (w.heap.size+2) b25:=aD.o.keep C a8 a8 λb o h=>⟨.inl h,P b o h⟩;have T:∀o,¬Nw D y u (w.heap.size+3) o/\¬Nw D y u (w.heap.size+2) o:=λo=>⟨λh=>h.elim (λh=>by have:=j _ _ h;omega) a8,λh=>h.elim (λh=>by have:=j _ _ h;omega) a8⟩;have U:=zt1 H1.o (H2.o.mono a8) (.inr rfl) ae ag aj T a8 a8 a8 a8;rw[zua.1,zua.2]at U;have aB:=qL U;have aF:=qL av;have aA:=qL (aw.o.trans ((C.below (n:=w.heap.size) a8 λk hk e=>a8)));clear U ae ag aj av I C P au B j;have K:True:=trivial
 go_wp2_with (go_at_call 10;have _t:=K;refine aB.o.mono ?_;rintro e w4 ⟨rfl,Q,ak,ai,af⟩;clear K)
 have s4:=Q.size;have aq:∀o,¬Nw (Nw D y u) wr w4 (w.heap.size+3) o/\¬Nw (Nw D y u) wr w4 (w.heap.size+2) o:=λo=>⟨λh=>h.elim (T o).1 a8,λh=>h.elim (T o).2 a8⟩;have V:=zt1 H1.o (H2.o.mono a8) (.inl rfl) ak af ai aq a8 a8 a8 a8;rw[zub.1,zub.2]at V;have aC:=qL V;have ac:=qL Q;clear V ak ai af Q
 go_wp2_with (go_at_call 10;refine aC.o.mono ?_;rintro e Y ⟨rfl,H,am,O,aG⟩)
 have hg:Calls xT 18 #[.pointer (some ⟨w.heap.size+3,0,none⟩),.int .u64 5] Y λe G=>e=.returned (.tuple #[.agg #[.int .u64 5,.int .u64 1,.int .u64 0,.string ⟨#[97]⟩],.bool true])/\Below Y.heap.size Y G:=zwk (i:=5) O (by rw[zw];decide);have ab:=qL hg;have ao:∀W,Below Y.heap.size Y W->Calls xT 15 #[.pointer (some ⟨w.heap.size+3,0,none⟩)] W λe G=>∃a c,e=.returned (.slice a 1 c)/\Below W.heap.size W G:=λW hW=>by
  have hk:Keep qe Y W:=Keep.of_below' hW (Zp _);refine(zte (n:=0) (O.keep hk id id λb o h=>⟨h,id⟩) (am.keep hk λ_ _ _=>id) zsP (by simp[k25,znP]) λf hf=>?_).mono ?_
  .simp only[k25,znP,wD]at hf;subst hf;refine⟨b6,by simp[zl9],λe he=>?_⟩;have:=(zoF (r:=1) (c:=0) (by rw[zw];decide) (by rw[zw];decide)).2.2 e he;omega
  .rintro e G ⟨v,rfl,hb,hd⟩;obtain⟨a,c,rfl⟩:=zsM (k:=k25) hd;exact⟨a,c,rfl,hb⟩
 have az:=qL ao;have aE:=qL ((ac.o.trans H).obj aF.o a8);have s5:=H.size;have ad:=qL (aA.o.trans ((ac.o.trans H).below (n:=w.heap.size) a8 λk hk e=>a8));clear O am aG H hg ao
 go_wp2_with (first
  | (go_at_call 18;refine ab.o.mono ?_;rintro e Z ⟨rfl,A⟩
     have F:=(A.block _ a8).trans aE.o;have x0:Z.cell? ⟨u.heap.size,0,none⟩=some (.int .u64 5):=(zW F 0 _ rfl).1;have x1:Z.cell? ⟨u.heap.size,1,none⟩=some (.int .u64 1):=(zW F 1 _ rfl).1;have x2:Z.cell? ⟨u.heap.size,2,none⟩=some (.int .u64 0):=(zW F 2 _ rfl).1;have x3:Z.cell? ⟨u.heap.size,3,none⟩=some (.string ⟨#[97]⟩):=(zW F 3 _ rfl).1;have aK:u.heap.size<Z.heap.size:=(by have:=A.size;omega);have aL:u.heap.size≠Z.heap.size:=a8;clear F)
  |(go_at_call 15;refine(az.o _ (A.alloc A.size _)).mono ?_;rintro e w7 ⟨a7,c7,rfl,aH⟩))
 go_ret;exact⟨rfl,ad.o.trans (((A.alloc A.size _).trans (aH.mono (by have:=A.size;simp;omega))).mono a8)⟩
def sq1:Code->Code
 |.seq a _=>a
 |c=>c
def cT:Code->Code
 |.cond _ a _=>a
 |c=>c
def zs8{t:Array Value}(h:t.size=128):∃u:Nat->Value,t=#[u 0,u 1,u 2,u 3,u 4,u 5,u 6,u 7,u 8,u 9,u 10,u 11,u 12,u 13,u 14,u 15,u 16,u 17,u 18,u 19,u 20,u 21,u 22,u 23,u 24,u 25,u 26,u 27,u 28,u 29,u 30,u 31,u 32,u 33,u 34,u 35,u 36,u 37,u 38,u 39,u 40,u 41,u 42,u 43,u 44,u 45,u 46,u 47,u 48,u 49,u 50,u 51,u 52,u 53,u 54,u 55,u 56,u 57,u 58,u 59,u 60,u 61,u 62,u 63,u 64,u 65,u 66,u 67,u 68,u 69,u 70,u 71,u 72,u 73,u 74,u 75,u 76,u 77,u 78,u 79,u 80,u 81,u 82,u 83,u 84,u 85,u 86,u 87,u 88,u 89,u 90,u 91,u 92,u 93,u 94,u 95,u 96,u 97,u 98,u 99,u 100,u 101,u 102,u 103,u 104,u 105,u 106,u 107,u 108,u 109,u 110,u 111,u 112,u 113,u 114,u 115,u 116,u 117,u 118,u 119,u 120,u 121,u 122,u 123,u 124,u 125,u 126,u 127]:=
 ⟨λi=>t.getD i undef,(show t=((List.range 128).map λi=>t.getD i undef).toArray from Array.ext (by simp[h]) λi j o=>by simp[j]).trans rfl⟩
noncomputable def zuy:Code:=cT (sq2 (sq1 (sq2 (sq2 (xN Tryz.f9)))))
noncomputable def zui:Code:=sq2 zuy
noncomputable def zwh:Code:=sq2 zui
def zvx{f:FuncId}{t:TypeId}{m:String}{v:Value}{s:Tmp}{c:Call}{o:Oper}{a:Act}{w:World}{K:Act->World->Prop}{Q:Exit->Act->World->Prop}(E:Mth xT t m f)(C:∀j w,(callFunc f j).run xT w=.ok (.enter f j) w)(ho:o.op=.call c)(B:c.callee=.invoke (.tmp s) m)(G:a.eval (.tmp s)=.iface t v)(A:c.args=#[])
 (h:Calls xT f #[v] w λe y=>∃u,e=.returned u/\K (a.put o.dst u) y):o.wp xT a w K Q:=by
 have F:(execOp a.eval o).run xT w=.ok (.enter f #[v]) w:=by simp only[execOp,ho,resolve,B,G,A,tE,tH,tx,invoke];have:=E v #[] w;rw[C]at this;simpa using this
 unfold Oper.wp;rw[F,t8];exact h.mono λe H h=>by obtain⟨v,rfl,h⟩:=h;exact h
def do5{W:World}{g h:Nat}{x:Rc}{post:Ending->World->Prop}{F:Act->World->Prop}(w:W.heap[g]?=some (.cells #[.int .u64 x.item,.int .u64 x.rep,.int .u64 x.ctr,.string x.val] 47 (0,0)))(y:W.heap[h]?=some (.cells #[.int .u64 x.item,.int .u64 x.rep,.int .u64 x.ctr,.string x.val] 76 (0,0)))(o:post (.returned (.bool true)) W){t:Array Value}(ht:t.size=128)(A:t[7]?=some (.pointer (some ⟨g,0,none⟩)))(B:t[8]?=some (.nilIface))(C:t[9]?=some (.pointer (some ⟨h,0,none⟩)))(j:t[10]?=some (.bool true)):
 Code.wp xT zwh (Exit.then F (bodyPost xT Tryz.f9 post)) ⟨t,[]⟩ W:=by
 have G:W.cell? ⟨g,0,none⟩=some (.int .u64 x.item):=(zW w 0 _ rfl).1;have H:W.cell? ⟨g,1,none⟩=some (.int .u64 x.rep):=(zW w 1 _ rfl).1;have I:W.cell? ⟨g,2,none⟩=some (.int .u64 x.ctr):=(zW w 2 _ rfl).1;have J:W.cell? ⟨g,3,none⟩=some (.string x.val):=(zW w 3 _ rfl).1;have K:W.cell? ⟨h,0,none⟩=some (.int .u64 x.item):=(zW y 0 _ rfl).1;have L:W.cell? ⟨h,1,none⟩=some (.int .u64 x.rep):=(zW y 1 _ rfl).1;have M:W.cell? ⟨h,2,none⟩=some (.int .u64 x.ctr):=(zW y 2 _ rfl).1;have N:W.cell? ⟨h,3,none⟩=some (.string x.val):=(zW y 3 _ rfl).1;have E:=qL o;clear w y o;obtain⟨u,rfl⟩:=zs8 ht;replace A:u 7=_:=wA A;replace B:u 8=_:=wA B;replace C:u 9=_:=wA C;replace j:u 10=_:=wA j;rw[A,B,C,j];clear A B C j ht;obtain⟨Q,o⟩:=xm (bodyPost xT Tryz.f9 post);rw[<-o];simp only[zwh,zui,zuy,sq1,sq2,cT,xN,Tryz.f9];subst o
 go_wp2_with fail
 exact E.o
def do4{W:World}{F o g i c:Nat}{x:Rc}{it:Nat}{v:ByteArray}{R:World->World->Prop}{post:Ending->World->Prop}{K0:Act->World->Prop}(hi:i<3)(hg:W.heap[g]?=some (.cells #[.int .u64 x.item,.int .u64 x.rep,.int .u64 x.ctr,.string x.val] 47 (0,0)))(ad:g≠c)
 (I:W.cell? ⟨F,3+i,none⟩=some (.pointer (some ⟨c,0,none⟩))) (hy:W.cell? ⟨o,2,none⟩=some (.int .u64 it)) (hz:W.cell? ⟨o,3,none⟩=some (.string v)) (ab:c<W.heap.size) (ai:F≠c) (aj:o≠c)
 (hP:∀G,Below W.heap.size W G->Calls xT 22 #[.pointer (some ⟨c,0,none⟩),.int .u64 it,.string v] G λe w'=>e=.returned (.tuple #[rcv x,.bool true])/\R G w') (hR:∀A B,R A B->Keep (λk=>k=c) A B)
 (K:∀U J G,Below W.heap.size W U->R U J->Keep (λk=>W.heap.size<=k/\(k<U.heap.size\/J.heap.size<=k)) J G->post (.returned (.bool true)) G) {t:Array Value} (ht:t.size=128) (H:t[2]?=some (.pointer (some ⟨F,0,none⟩))) (X:t[3]?=some (.pointer (some ⟨o,0,none⟩))) (Y:t[5]?=some (.int .i64 i)) (Z:t[7]?=some (.pointer (some ⟨g,0,none⟩))) (h8:t[8]?=some (.nilIface)) :
 Code.wp xT zui (Exit.then K0 (bodyPost xT Tryz.f9 post)) ⟨t,[]⟩ W:=by
 have E:xT.follows .mixedOrders=true:=dK
 have ag:(i:Int)<3:=a8
 have O:=enters_of func22 dK rfl;have ae:=(XV.1 hg).1;have T:=tp W _ I;have C:=tp W _ hy;have hF:∀x:Wm,Keep (λk=>k=c\/W.heap.size<=k) W.drew x.1->x.1.cell? ⟨F,3+i,none⟩=some (.pointer (some ⟨c,0,none⟩))/\x.1.cell? ⟨o,2,none⟩=some (.int .u64 it)/\x.1.cell? ⟨o,3,none⟩=some (.string v):=λx hk=>
  ⟨hk.cell_some (p:=⟨F,3+i,none⟩) I (by show ¬(F=c\/W.heap.size<=F);simp only at T;omega),hk.cell_some (p:=⟨o,2,none⟩) hy (by show ¬(o=c\/W.heap.size<=o);simp only at C;omega),hk.cell_some (p:=⟨o,3,none⟩) hz (by show ¬(o=c\/W.heap.size<=o);simp only at C;omega)⟩
 have HF:=qL hF;have HG:=qL hg;have HP:=qL hP;have HQ:=qL K;have HR:=qL hR;clear hg hP K I hy hz hF hR T C;obtain⟨u,rfl⟩:=zs8 ht;replace H:u 2=_:=wA H;replace X:u 3=_:=wA X;replace Y:u 5=_:=wA Y;replace Z:u 7=_:=wA Z;replace h8:u 8=_:=wA h8;rw[H,X,Y,Z,h8];clear H X Y Z h8 ht;obtain⟨Q,K⟩:=xm (bodyPost xT Tryz.f9 post);rw[<-K];simp only[zui,zuy,sq1,sq2,cT,xN,Tryz.f9];subst K
 go_wp2_with fail
 rename_i Kx hKx;refine zvo (Sw:=λk=>k=c\/W.heap.size<=k) (mkD 50 (some 9) true) 128 (HX W R #[.int .u64 x.item,.int .u64 x.rep,.int .u64 x.ctr,.string x.val] #[.int .u64 0,.int .u64 0,.int .u64 0,.string ⟨#[]⟩] 76) E dK rfl HX.start ?_;repeat (refine ztp ?_ rfl rfl (λa m hk j=>?_) ?_;rotate_left;(obtain⟨q0,q1,q2⟩:=HF.o m hk;simp[Pl.Rds,zA,Pl.lk,Op.operands,Call.operands,RdEq]at j;(first|replace j:=exM j|replace j:=And.intro j.1 (exM j.2)|skip);go_simp;with_reducible rfl);simp only[Yf,yb])
 refine zt0 _ zt6 rfl (zue (S:=λk=>k=c) (v:=.tuple #[.agg #[.int .u64 x.item,.int .u64 x.rep,.int .u64 x.ctr,.string x.val],.bool true]) rfl rfl rfl (λa x j=>by simp[Pl.Rds,zA,Pl.lk,Op.operands,Call.operands,RdEq]at j;simp[j]) O HP.o HR.o λk h=>⟨.inl h,by rw[h];exact ab⟩) ?_;simp only[Yf,yb];repeat (refine ztp ?_ rfl rfl (λa m hk j=>?_) ?_;rotate_left;(obtain⟨q0,q1,q2⟩:=HF.o m hk;simp[Pl.Rds,zA,Pl.lk,Op.operands,Call.operands,RdEq]at j;(first|replace j:=exM j|replace j:=And.intro j.1 (exM j.2)|skip);go_simp;with_reducible rfl);simp only[Yf,yb])
 refine zt0 _ zwr rfl (zuX rfl λa w=>by go_simp) ?_;simp only[Yf,yb];refine zt0 (λ_ _=>True) (λ_ _ _ _ _=>trivial) rfl (zuY rfl (λa m j=>?_) λk h=>.inr h) ?_
 .simp[Pl.Rds,zA,Pl.lk,Op.operands,Call.operands,RdEq]at j;obtain⟨⟨_,⟨p1,p2⟩,rfl,V⟩,p3,p4⟩:=j;refine⟨V,λw y=>?_⟩;have c0:w.cell? ⟨m.2.2,0,none⟩=some (.int .u64 0):=(zW y 0 _ rfl).1;have c1:w.cell? ⟨m.2.2,1,none⟩=some (.int .u64 0):=(zW y 1 _ rfl).1;have c2:w.cell? ⟨m.2.2,2,none⟩=some (.int .u64 0):=(zW y 2 _ rfl).1;have c3:w.cell? ⟨m.2.2,3,none⟩=some (.string ⟨#[]⟩):=(zW y 3 _ rfl).1;have d0:w.frozen? ⟨m.2.2,0,none⟩=false:=(zW y 0 _ rfl).2;have d1:w.frozen? ⟨m.2.2,1,none⟩=false:=(zW y 1 _ rfl).2;have d2:w.frozen? ⟨m.2.2,2,none⟩=false:=(zW y 2 _ rfl).2;have d3:w.frozen? ⟨m.2.2,3,none⟩=false:=(zW y 3 _ rfl).2;refine⟨(((w.setCell ⟨m.2.2,0,none⟩ (.int .u64 x.item)).setCell ⟨m.2.2,1,none⟩ (.int .u64 x.rep)).setCell ⟨m.2.2,2,none⟩ (.int .u64 x.ctr)).setCell ⟨m.2.2,3,none⟩ (.string x.val),by go_simp,?_,?_⟩
  .simpa using zsw (zsw (zsw (zsw y 0 _) 1 _) 2 _) 3 _
  .exact((((Keep.refl (λk=>k=m.2.2) w).setCell (p:=⟨m.2.2,0,none⟩) (λ_=>rfl) _).setCell (p:=⟨m.2.2,1,none⟩) (λ_=>rfl) _).setCell (p:=⟨m.2.2,2,none⟩) (λ_=>rfl) _).setCell (p:=⟨m.2.2,3,none⟩) (λ_=>rfl) _
 simp only[Yf,yb];repeat (refine ztp ?_ rfl rfl (λa m hk j=>?_) ?_;rotate_left;(obtain⟨q0,q1,q2⟩:=HF.o m hk;simp[Pl.Rds,zA,Pl.lk,Op.operands,Call.operands,RdEq]at j;(first|replace j:=exM j|replace j:=And.intro j.1 (exM j.2)|skip);go_simp;with_reducible rfl);simp only[Yf,yb])
 intro m I hk;simp only[Pl.finG,Yf,yb,and_imp,WQ];simp only[Act.put,wy,wR,wS];intro h0 V;refine⟨trivial,λM=>?_⟩;have H:2∈m.2.1:=M 13 b8 2 rfl rfl;refine hKx _ _ ?_;obtain⟨U,J,N,L,ah,af,ac⟩:=I.post h0;obtain⟨hN,hv⟩:=I.var V;rw[vD H]at hv;have P:Keep (λk=>W.heap.size<=k/\(k<U.heap.size\/J.heap.size<=k)) J m.1:=af.mono λk _ e=>by rw[e.2];exact⟨hN,ac V⟩
 exact do5 (P.obj ((HR.o _ _ L).obj ((N.block g ae).trans HG.o) ad) λe=>absurd e.1 a8) hv (HQ.o _ _ _ N L P) rfl rfl rfl rfl rfl
def do3{W:World}{C o i b y:Nat}{x:Rc}{it:Nat}{v:ByteArray}{R:World->World->Prop}{post:Ending->World->Prop}{Kx:Act->World->Prop}{K0:Act->World->Prop}(hi:i<3)
 (J:W.cell? ⟨C,i,none⟩=some (.pointer (some ⟨b,0,none⟩))) (hy:W.cell? ⟨o,2,none⟩=some (.int .u64 it)) (hz:W.cell? ⟨o,3,none⟩=some (.string v)) (hb:b<W.heap.size) (hm:y<W.heap.size) (hn:C≠b/\C≠y/\o≠b/\o≠y)
 (hP:∀F,Below W.heap.size W F->Calls xT 14 #[.pointer (some ⟨b,0,none⟩),.int .u64 it,.string v] F λe w'=>e=.returned (.tuple #[rcv x,.nilIface])/\R F w') (hR:∀A B,R A B->Keep (λk=>k=b\/k=y) A B)
 (M:∀T K F g,Below W.heap.size W T->R T K->Keep (λk=>W.heap.size<=k/\(k<T.heap.size\/K.heap.size<=k)) K F->W.heap.size<=g->F.heap[g]?=some (.cells #[.int .u64 x.item,.int .u64 x.rep,.int .u64 x.ctr,.string x.val] 47 (0,0))->∀t:Array Value,t.size=128->t[2]?=some (.pointer (some ⟨C,0,none⟩))->t[3]?=some (.pointer (some ⟨o,0,none⟩))->t[5]?=some (.int .i64 i)->t[7]?=some (.pointer (some ⟨g,0,none⟩))->t[8]?=some (.nilIface)->Code.wp xT zui (Exit.then K0 (bodyPost xT Tryz.f9 post)) ⟨t,[]⟩ F) (L:∀a w,Code.wp xT zui (Exit.then K0 (bodyPost xT Tryz.f9 post)) a w->Kx a w) {t:Array Value} (ht:t.size=128) (I:t[2]?=some (.pointer (some ⟨C,0,none⟩))) (V:t[3]?=some (.pointer (some ⟨o,0,none⟩))) (X:t[5]?=some (.int .i64 i)) :
 Code.wp xT (sq1 zuy) (Exit.then Kx (Exit.then K0 (bodyPost xT Tryz.f9 post))) ⟨t,[]⟩ W:=by
 have H:xT.follows .mixedOrders=true:=dK
 have ag:(i:Int)<3:=a8
 have O:=enters_of func14 dK rfl;have P:=tp W _ J;have G:=tp W _ hy;have hF:∀x:Wm,Keep (λk=>(k=b\/k=y)\/W.heap.size<=k) W.drew x.1->x.1.cell? ⟨C,i,none⟩=some (.pointer (some ⟨b,0,none⟩))/\x.1.cell? ⟨o,2,none⟩=some (.int .u64 it)/\x.1.cell? ⟨o,3,none⟩=some (.string v):=λx hk=>
  ⟨hk.cell_some (p:=⟨C,i,none⟩) J (by show ¬((C=b\/C=y)\/W.heap.size<=C);simp only at P;omega),hk.cell_some (p:=⟨o,2,none⟩) hy (by show ¬((o=b\/o=y)\/W.heap.size<=o);simp only at G;omega),hk.cell_some (p:=⟨o,3,none⟩) hz (by show ¬((o=b\/o=y)\/W.heap.size<=o);simp only at G;omega)⟩
 have Y:=qL hF;have HP:=qL hP;have HQ:=qL M;have HR:=qL hR;clear hP M J hy hz hF hR P G hn;have Z:=qL L;clear L;obtain⟨u,rfl⟩:=zs8 ht;replace I:u 2=_:=wA I;replace V:u 3=_:=wA V;replace X:u 5=_:=wA X;rw[I,V,X];clear I V X ht;obtain⟨Q,M⟩:=xm (bodyPost xT Tryz.f9 post);rw[<-M];simp only[zuy,sq1,sq2,cT,xN,Tryz.f9];subst M;refine zvo (Sw:=λk=>(k=b\/k=y)\/W.heap.size<=k) (mkD 38 (some 7) true) 128 (HX W R #[.int .u64 x.item,.int .u64 x.rep,.int .u64 x.ctr,.string x.val] #[.int .u64 0,.int .u64 0,.int .u64 0,.string ⟨#[]⟩] 47) H dK rfl HX.start ?_;repeat (refine ztp ?_ rfl rfl (λa m hk j=>?_) ?_;rotate_left;(obtain⟨q0,q1,q2⟩:=Y.o m hk;simp[Pl.Rds,zA,Pl.lk,Op.operands,Call.operands,RdEq]at j;(first|replace j:=exM j|replace j:=And.intro j.1 (exM j.2)|skip);go_simp;with_reducible rfl);simp only[Yf,yb])
 refine zt0 _ zt6 rfl (zue (S:=λk=>k=b\/k=y) (v:=.tuple #[.agg #[.int .u64 x.item,.int .u64 x.rep,.int .u64 x.ctr,.string x.val],.nilIface]) rfl rfl rfl (λa x j=>by simp[Pl.Rds,zA,Pl.lk,Op.operands,Call.operands,RdEq]at j;simp[j]) O HP.o HR.o λk h=>⟨.inl h,by rcases h with h|h<;>rw[h]<;>assumption⟩) ?_;simp only[Yf,yb];repeat (refine ztp ?_ rfl rfl (λa m hk j=>?_) ?_;rotate_left;(obtain⟨q0,q1,q2⟩:=Y.o m hk;simp[Pl.Rds,zA,Pl.lk,Op.operands,Call.operands,RdEq]at j;(first|replace j:=exM j|replace j:=And.intro j.1 (exM j.2)|skip);go_simp;with_reducible rfl);simp only[Yf,yb])
 refine zt0 _ zwr rfl (zuX rfl λa w=>by go_simp) ?_;simp only[Yf,yb];refine zt0 (λ_ _=>True) (λ_ _ _ _ _=>trivial) rfl (zuY rfl (λa m j=>?_) λk h=>.inr h) ?_
 .simp[Pl.Rds,zA,Pl.lk,Op.operands,Call.operands,RdEq]at j;obtain⟨⟨_,⟨p1,p2⟩,rfl,U⟩,p3,p4⟩:=j;refine⟨U,λw E=>?_⟩;have c0:w.cell? ⟨m.2.2,0,none⟩=some (.int .u64 0):=(zW E 0 _ rfl).1;have c1:w.cell? ⟨m.2.2,1,none⟩=some (.int .u64 0):=(zW E 1 _ rfl).1;have c2:w.cell? ⟨m.2.2,2,none⟩=some (.int .u64 0):=(zW E 2 _ rfl).1;have c3:w.cell? ⟨m.2.2,3,none⟩=some (.string ⟨#[]⟩):=(zW E 3 _ rfl).1;have d0:w.frozen? ⟨m.2.2,0,none⟩=false:=(zW E 0 _ rfl).2;have d1:w.frozen? ⟨m.2.2,1,none⟩=false:=(zW E 1 _ rfl).2;have d2:w.frozen? ⟨m.2.2,2,none⟩=false:=(zW E 2 _ rfl).2;have d3:w.frozen? ⟨m.2.2,3,none⟩=false:=(zW E 3 _ rfl).2;refine⟨(((w.setCell ⟨m.2.2,0,none⟩ (.int .u64 x.item)).setCell ⟨m.2.2,1,none⟩ (.int .u64 x.rep)).setCell ⟨m.2.2,2,none⟩ (.int .u64 x.ctr)).setCell ⟨m.2.2,3,none⟩ (.string x.val),by go_simp,?_,?_⟩
  .simpa using zsw (zsw (zsw (zsw E 0 _) 1 _) 2 _) 3 _
  .exact((((Keep.refl (λk=>k=m.2.2) w).setCell (p:=⟨m.2.2,0,none⟩) (λ_=>rfl) _).setCell (p:=⟨m.2.2,1,none⟩) (λ_=>rfl) _).setCell (p:=⟨m.2.2,2,none⟩) (λ_=>rfl) _).setCell (p:=⟨m.2.2,3,none⟩) (λ_=>rfl) _
 simp only[Yf,yb];repeat (refine ztp ?_ rfl rfl (λa m hk j=>?_) ?_;rotate_left;(obtain⟨q0,q1,q2⟩:=Y.o m hk;simp[Pl.Rds,zA,Pl.lk,Op.operands,Call.operands,RdEq]at j;(first|replace j:=exM j|replace j:=And.intro j.1 (exM j.2)|skip);go_simp;with_reducible rfl);simp only[Yf,yb])
 intro m J hk;simp only[Pl.finG,Yf,yb,and_imp,WQ];simp only[Act.put,wy,wR,wS];intro h0 U;refine⟨trivial,λN=>?_⟩;have I:2∈m.2.1:=N 13 b8 2 rfl rfl;refine Z.o _ _ ?_;obtain⟨T,K,ac,ab,ah,ae,ad⟩:=J.post h0;obtain⟨hN,hv⟩:=J.var U;rw[vD I]at hv;have af:Keep (λk=>W.heap.size<=k/\(k<T.heap.size\/K.heap.size<=k)) K m.1:=ae.mono λk _ e=>by rw[e.2];exact⟨hN,ad U⟩
 exact HQ.o _ _ _ _ ac ab af hN hv _ rfl rfl rfl rfl rfl rfl
noncomputable def zuz:Code:=sq2 (sq2 (sq2 (xN Tryz.f9)))
noncomputable def zuj:Code:=sq2 zuz
def do6{W:World}{y C i j b c m0 n:Nat}{vi er:Value}{R:World->World->Prop}{post:Ending->World->Prop}{Kx:Act->World->Prop}(hi:i<3)(hj:j<3)
 (H:W.cell? ⟨y,i,none⟩=some (.pointer (some ⟨b,0,none⟩))) (hy:W.cell? ⟨y,j,none⟩=some (.pointer (some ⟨c,0,none⟩))) (hz:W.cell? ⟨C,4,none⟩=some vi) (hb:b<W.heap.size) (hm:m0<W.heap.size) (hn:y≠b/\y≠m0/\C≠b/\C≠m0)
 (hP:∀G,Below W.heap.size W G->Calls xT 10 #[.pointer (some ⟨b,0,none⟩),.pointer (some ⟨c,0,none⟩),vi] G λe w'=>e=.returned (.tuple #[.int .i64 n,er])/\R G w') (hR:∀A B,R A B->Keep (λk=>k=b\/k=m0) A B)
 (K:∀N I G,Below W.heap.size W N->R N I->Keep (λk=>W.heap.size<=k/\(k<N.heap.size\/I.heap.size<=k)) I G->∀t:Array Value,t.size=128->t[2]?=some (.pointer (some ⟨y,0,none⟩))->t[3]?=some (.pointer (some ⟨C,0,none⟩))->t[5]?=some (.int .i64 i)->t[6]?=some (.int .i64 j)->t[11]?=some (.int .i64 n)->t[12]?=some (er)->Code.wp xT zuj (bodyPost xT Tryz.f9 post) ⟨t,[]⟩ G) (J:∀a w,Code.wp xT zuj (bodyPost xT Tryz.f9 post) a w->Kx a w) {t:Array Value} (ht:t.size=128) (O:t[2]?=some (.pointer (some ⟨y,0,none⟩))) (P:t[3]?=some (.pointer (some ⟨C,0,none⟩))) (T:t[5]?=some (.int .i64 i)) (U:t[6]?=some (.int .i64 j)) :
 Code.wp xT (sq1 zuz) (Exit.then Kx (bodyPost xT Tryz.f9 post)) ⟨t,[]⟩ W:=by
 have F:xT.follows .mixedOrders=true:=dK
 have ae:(i:Int)<3:=a8
 have af:(j:Int)<3:=a8
 have L:=enters_of func10 dK rfl;have E:=tp W _ H;have M:=tp W _ hz;have hF:∀x:Wm,Keep (λk=>(k=b\/k=m0)\/W.heap.size<=k) W.drew x.1->x.1.cell? ⟨y,i,none⟩=some (.pointer (some ⟨b,0,none⟩))/\x.1.cell? ⟨y,j,none⟩=some (.pointer (some ⟨c,0,none⟩))/\x.1.cell? ⟨C,4,none⟩=some vi:=λx hk=>
  ⟨hk.cell_some (p:=⟨y,i,none⟩) H (by show ¬((y=b\/y=m0)\/W.heap.size<=y);simp only at E;omega),hk.cell_some (p:=⟨y,j,none⟩) hy (by show ¬((y=b\/y=m0)\/W.heap.size<=y);simp only at E;omega),hk.cell_some (p:=⟨C,4,none⟩) hz (by show ¬((C=b\/C=m0)\/W.heap.size<=C);simp only at M;omega)⟩
 have HF:=qL hF;have HP:=qL hP;have HQ:=qL K;have HR:=qL hR;clear hP K H hy hz hF hR E M hn;have V:=qL J;clear J;obtain⟨u,rfl⟩:=zs8 ht;replace O:u 2=_:=wA O;replace P:u 3=_:=wA P;replace T:u 5=_:=wA T;replace U:u 6=_:=wA U;rw[O,P,T,U];clear O P T U ht;obtain⟨Q,K⟩:=xm (bodyPost xT Tryz.f9 post);rw[<-K];simp only[zuz,sq1,sq2,cT,xN,Tryz.f9];subst K;refine zvo (Sw:=λk=>(k=b\/k=m0)\/W.heap.size<=k) (mkD 74 none false) 128 (HX W R #[] #[] 0) F dK rfl HX.start ?_;repeat (refine ztp ?_ rfl rfl (λa m hk o=>?_) ?_;rotate_left;(obtain⟨q0,q1,q2⟩:=HF.o m hk;simp[Pl.Rds,zA,Pl.lk,Op.operands,Call.operands,RdEq]at o;(first|replace o:=exM o|replace o:=And.intro o.1 (exM o.2)|skip);go_simp;with_reducible rfl);simp only[Yf,yb])
 refine zt0 _ zt6 rfl (zue (S:=λk=>k=b\/k=m0) (v:=.tuple #[.int .i64 n,er]) rfl rfl rfl (λa x o=>by simp[Pl.Rds,zA,Pl.lk,Op.operands,Call.operands,RdEq]at o;simp[o]) L HP.o HR.o λk h=>⟨.inl h,by rcases h with h|h<;>rw[h]<;>assumption⟩) ?_;simp only[Yf,yb];repeat (refine ztp ?_ rfl rfl (λa m hk o=>?_) ?_;rotate_left;(obtain⟨q0,q1,q2⟩:=HF.o m hk;simp[Pl.Rds,zA,Pl.lk,Op.operands,Call.operands,RdEq]at o;(first|replace o:=exM o|replace o:=And.intro o.1 (exM o.2)|skip);go_simp;with_reducible rfl);simp only[Yf,yb])
 intro m H hk;simp only[Pl.finG,Yf,yb,and_imp,WQ];simp only[Act.put,wy,wR,wS];intro h0;refine⟨trivial,λad=>?_⟩;refine V.o _ _ ?_;obtain⟨N,I,Y,X,ag,ab,Z⟩:=H.post h0;have ac:Keep (λk=>W.heap.size<=k/\(k<N.heap.size\/I.heap.size<=k)) I m.1:=ab.mono λk _ e=>by rw[e.2];exact⟨(H.var e.1).1,Z e.1⟩
 exact HQ.o _ _ _ Y X ac _ rfl rfl rfl rfl rfl rfl rfl
def do7{W:World}{w L i j b c n:Nat}{vi:Value}{k0:Int}{R:World->World->Prop}{post:Ending->World->Prop}(hi:i<3)(hj:j<3)
 (I:W.cell? ⟨w,3+i,none⟩=some (.pointer (some ⟨b,0,none⟩))) (hy:W.cell? ⟨w,3+j,none⟩=some (.pointer (some ⟨c,0,none⟩))) (hz:W.cell? ⟨L,4,none⟩=some vi) (hb:b<W.heap.size) (hn:w≠b/\L≠b)
 (hC:Calls xT 21 #[vi] W λe w'=>e=.returned (.tuple #[.int .i64 0,.int .i64 k0])/\Below W.heap.size W w')
 (hP:∀G,Below W.heap.size W G->Calls xT 25 #[.pointer (some ⟨b,0,none⟩),.pointer (some ⟨c,0,none⟩),vi] G λe w'=>e=.returned (.int .i64 n)/\R G w') (hR:∀A B,R A B->Keep (λk=>k=b) A B)
 (O:∀w5 M G,Below W.heap.size W w5->R w5 M->Keep (λk=>W.heap.size<=k/\(k<w5.heap.size\/M.heap.size<=k)) M G->post (.returned (.bool true)) G) {t:Array Value} (ht:t.size=128) (h2:t[2]?=some (.pointer (some ⟨w,0,none⟩))) (h3:t[3]?=some (.pointer (some ⟨L,0,none⟩))) (h5:t[5]?=some (.int .i64 i)) (h6:t[6]?=some (.int .i64 j)) (C:t[11]?=some (.int .i64 n)) (E:t[12]?=some (.nilIface)) :
 Code.wp xT zuj (bodyPost xT Tryz.f9 post) ⟨t,[]⟩ W:=by
 have K:xT.follows .mixedOrders=true:=dK
 have ae:(i:Int)<3:=a8
 have af:(j:Int)<3:=a8
 have U:=enters_of func25 dK rfl;have J:=tp W _ I;have Z:=tp W _ hz;have hF:∀y,Below W.heap.size W y->∀x:Wm,Keep (λk=>k=b\/y.heap.size<=k) y.drew x.1->x.1.cell? ⟨w,3+i,none⟩=some (.pointer (some ⟨b,0,none⟩))/\x.1.cell? ⟨w,3+j,none⟩=some (.pointer (some ⟨c,0,none⟩))/\x.1.cell? ⟨L,4,none⟩=some vi:=λy h1 x hk=>by have hs:=h1.size;exact⟨hk.cell_some (p:=⟨w,3+i,none⟩) (bc1 h1.drew I) (by show ¬(w=b\/y.heap.size<=w);simp only at J;omega),hk.cell_some (p:=⟨w,3+j,none⟩) (bc1 h1.drew hy) (by show ¬(w=b\/y.heap.size<=w);simp only at J;omega),hk.cell_some (p:=⟨L,4,none⟩) (bc1 h1.drew hz) (by show ¬(L=b\/y.heap.size<=L);simp only at Z;omega)⟩
 have ab:=qL hF;have HP:=qL hP;have HQ:=qL O;have HR:=qL hR;have HC:=qL hC;clear hP O I hy hF hR J Z hn hC;obtain⟨u,rfl⟩:=zs8 ht;replace h2:u 2=_:=wA h2;replace h3:u 3=_:=wA h3;replace h5:u 5=_:=wA h5;replace h6:u 6=_:=wA h6;replace C:u 11=_:=wA C;replace E:u 12=_:=wA E;rw[h2,h3,h5,h6,C,E];clear h2 h3 h5 h6 C E ht;obtain⟨Q,O⟩:=xm (bodyPost xT Tryz.f9 post);rw[<-O];simp only[zuj,zuz,sq1,sq2,cT,xN,Tryz.f9];subst O
 go_wp2_with (go_at_call 21;refine HC.o.mono ?_;rintro e y ⟨rfl,F⟩)
 rename_i Kx hKx;have HF:=qL (ab.o y F);have H:=F.size;refine zvo (Sw:=λk=>k=b\/y.heap.size<=k) (mkD 125 none false) 128 (HX y R #[] #[] 0) K dK rfl HX.start ?_;repeat (first|(refine ztp ?_ rfl rfl (λa m hk o=>?_) ?_;rotate_left;obtain⟨q0,q1,q2⟩:=HF.o m hk;(simp[Pl.Rds,zA,Pl.lk,Op.operands,Call.operands,RdEq]at o;(first|replace o:=exM o|replace o:=And.intro o.1 (exM o.2)|skip);go_simp;with_reducible rfl);simp only[Yf,yb])|(refine zvI ?_ rfl rfl (ztS rfl rfl) (λa m hk o=>?_) ?_;rotate_left;obtain⟨q0,q1,q2⟩:=HF.o m hk;(simp[Pl.Rds,zA,Pl.lk,Op.operands,Call.operands,RdEq]at o;(first|replace o:=exM o|replace o:=And.intro o.1 (exM o.2)|skip);go_simp;with_reducible rfl);simp only[Yf,yb]))
 refine zws _ zt6 rfl (ztS rfl rfl) (zue (S:=λk=>k=b) (v:=.int .i64 n) rfl rfl rfl (λa x o=>by simp[Pl.Rds,zA,Pl.lk,Op.operands,Call.operands,RdEq]at o;simp[o]) U (λG ac=>HP.o G (F.trans (ac.mono H))) HR.o λk h=>⟨.inl h,by rw[h];omega⟩) ?_;simp only[Yf,yb];repeat (first|(refine ztp ?_ rfl rfl (λa m hk o=>?_) ?_;rotate_left;obtain⟨q0,q1,q2⟩:=HF.o m hk;(simp[Pl.Rds,zA,Pl.lk,Op.operands,Call.operands,RdEq]at o;(first|replace o:=exM o|replace o:=And.intro o.1 (exM o.2)|skip);go_simp;with_reducible rfl);simp only[Yf,yb])|(refine zvI ?_ rfl rfl (ztS rfl rfl) (λa m hk o=>?_) ?_;rotate_left;obtain⟨q0,q1,q2⟩:=HF.o m hk;(simp[Pl.Rds,zA,Pl.lk,Op.operands,Call.operands,RdEq]at o;(first|replace o:=exM o|replace o:=And.intro o.1 (exM o.2)|skip);go_simp;with_reducible rfl);simp only[Yf,yb]))
 intro m I hk;simp only[Pl.finG,Yf,yb,and_imp,WQ];simp only[Act.put,wy,wR,wS];intro h0;refine⟨trivial,λad=>?_⟩;refine hKx _ _ ?_;obtain⟨w5,M,T,P,ag,X,V⟩:=I.post h0;have Y:Keep (λk=>W.heap.size<=k/\(k<w5.heap.size\/M.heap.size<=k)) M m.1:=X.mono λk _ e=>by rw[e.2];exact⟨V1 H (I.var e.1).1,V e.1⟩
 have N:=qL (HQ.o _ _ _ (F.trans (T.mono H)) P Y);clear I X V Y T P HP HR HQ
 go_wp2_with fail
 exact N.o
def do8{W:World}{P:Nat}{O:Value}{e0 k0:Int}{s2:ByteArray}{post:Ending->World->Prop}(h0:e0≠0)(hs:s2.size<=1000)
 (hz:W.cell? ⟨P,4,none⟩=some O)
 (K:Calls xT 21 #[O] W λe C=>e=.returned (.tuple #[.int .i64 e0,.int .i64 k0])/\Below W.heap.size W C)
 (L:∀j,Below W.heap.size W j->Calls xT 19 #[.iface 145 (.agg #[.string sRp,.iface 115 (.agg #[.int .i64 e0,.int .i64 k0])])] j λe C=>e=.returned (.int .i64 e0)/\Below j.heap.size j C)
 (J:∀j,Below W.heap.size W j->Calls xT 23 #[.iface 145 (.agg #[.string sRp,.iface 115 (.agg #[.int .i64 e0,.int .i64 k0])])] j λe C=>e=.returned (.int .i64 k0)/\Below j.heap.size j C)
 (N:∀j,Below W.heap.size W j->Calls xT 237 #[.agg #[.string sRp,.iface 115 (.agg #[.int .i64 e0,.int .i64 k0])]] j λe C=>e=.returned (.string (⟨#[114,101,112,108,105,99,97,58,32]⟩++s2))/\Below j.heap.size j C)
 (M:∀j,Below W.heap.size W j->Calls xT 24 #[.int .i64 e0] j λe C=>e=.returned (.string s2)/\Below j.heap.size j C)
 (G:∀j,Below W.heap.size W j->post (.returned (.bool true)) j) {t:Array Value} (ht:t.size=128) (I:t[3]?=some (.pointer (some ⟨P,0,none⟩))) (A:t[11]?=some (.int .i64 0)) (B:t[12]?=some (.iface 145 (.agg #[.string sRp,.iface 115 (.agg #[.int .i64 e0,.int .i64 k0])]))) :
 Code.wp xT zuj (bodyPost xT Tryz.f9 post) ⟨t,[]⟩ W:=by
 have Y:=qL G;have T:=qL K;have U:=qL L;have S:=qL J;have X:=qL N;have V:=qL M;have Z:¬9223372036854775807<9+s2.size:=a8
 have H:=enters_of func237 dK rfl;clear G K L J N M;obtain⟨u,rfl⟩:=zs8 ht;replace I:u 3=_:=wA I;replace A:u 11=_:=wA A;replace B:u 12=_:=wA B;rw[I,A,B];clear I A B ht;obtain⟨Q,G⟩:=xm (bodyPost xT Tryz.f9 post);rw[<-G];simp only[zuj,zuz,sq1,sq2,cT,xN,Tryz.f9];subst G
 go_wp2_with (first
  |(go_at_call 21;refine T.o.mono ?_;rintro e w1 ⟨rfl,E⟩)
  |(go_at_call 19;refine(U.o _ E).mono ?_;rintro e w2 ⟨rfl,o⟩;replace o:=E.trans (o.mono E.size))
  |(go_at_call 23;refine(S.o _ o).mono ?_;rintro e w3 ⟨rfl,w⟩;replace w:=o.trans (w.mono o.size)))
 refine zvx zn8 H rfl rfl rfl rfl ?_;refine(X.o _ w).mono ?_;rintro e w4 ⟨rfl,y⟩;refine⟨_,rfl,?_⟩;replace y:=w.trans (y.mono w.size)
 go_wp2_with (go_at_call 24;refine(V.o _ y).mono ?_;rintro e w5 ⟨rfl,F⟩;replace F:=y.trans (F.mono y.size))
 exact Y.o _ F
def Keep.step{S:Nat->Prop}{W w y A:World}(j:Below W.heap.size W w)(o:Keep S w y)(u:Keep (λk=>W.heap.size<=k/\(k<w.heap.size\/y.heap.size<=k)) y A):Keep S W A:=by have B:=j.size;have C:=o.size;exact⟨u.os.trans (o.os.trans j.os),u.tape.trans (o.tape.trans j.tape),u.output.trans (o.output.trans j.output),V1 B (V1 C u.size),λk hk hs=>(u.block k a8 (λe=>a8)).trans ((o.block k a8 hs).trans (j.block k hk))⟩
def Play.lt{D:Qk}{t:Nat}{w:World}{B M F:Nat->Nat}{S:Nat->Rs}(h:Play D t w B M F S){i:Nat}(hi:i<3):B i<w.heap.size/\M i<w.heap.size/\F i<w.heap.size:=by obtain⟨_,_,j,o,_⟩:=h.a i hi;exact⟨(XV.1 j).1,o.lt,(h.f i hi).lt⟩
def Play.upd{D D':Qk}{t J i:Nat}{w I:World}{B M F:Nat->Nat}{S:Nat->Rs}{s:Rs}(h:Play D t w B M F S)(hi:i<3)(ht:t<=J)(hk:Keep (λk=>k=B i\/k=M i\/k=F i) w I)(K:∀b o,D b o->D' b o)(C:∀b o,D' b o->D b o\/w.heap.size<=b)(L:Rpl D' J I (B i) (M i) s)(hF:Rpf D' I (F i) s):Play D' J I B M F (ztC S i s):=by
 refine⟨λj A=>?_,λj A=>?_,h.bb,h.mm,h.ff,h.bm,h.bf,h.mf,λj A o=>?_⟩
 .unfold ztC;split
  .rename_i e;rw[e];exact L
  .rename_i e;exact((h.a j A).keep hk (by rintro(u|u|u);exact e (h.bb _ _ A hi u);exact h.bm _ _ A hi u;exact h.bf _ _ A hi u) (by rintro(u|u|u);exact h.bm _ _ hi A u.symm;exact e (h.mm _ _ A hi u);exact h.mf _ _ A hi u) λb o y=>⟨K b o y,by
    obtain⟨E,G,H⟩:=h.nd i hi o;rintro(rfl|rfl|rfl)
    .exact E y
    .exact G y
    .exact H y⟩).mono ht
 .unfold ztC;split
  .rename_i e;rw[e];exact hF
  .rename_i e;exact(h.f j A).keep hk (by rintro(u|u|u);exact h.bf _ _ hi A u.symm;exact h.mf _ _ hi A u.symm;exact e (h.ff _ _ A hi u)) λb o y=>⟨K b o y,by
    obtain⟨E,G,H⟩:=h.nd i hi o;rintro(rfl|rfl|rfl)
    .exact E y
    .exact G y
    .exact H y⟩
 .obtain⟨E,G,H⟩:=h.nd j A o;obtain⟨N,O,P⟩:=h.lt A;exact⟨λy=>(C _ _ y).elim E a8,λy=>(C _ _ y).elim G a8,λy=>(C _ _ y).elim H a8⟩
def Play.same{D D':Qk}{t H:Nat}{w E:World}{B M F:Nat->Nat}{S:Nat->Rs}(h:Play D t w B M F S)(ht:t<=H)(hk:Below w.heap.size w E)(G:∀b o,D b o->D' b o)(y:∀b o,D' b o->D b o\/w.heap.size<=b):Play D' H E B M F S:=by have C:Keep qe w E:=Keep.of_below' hk (Zp _);refine⟨λj A=>((h.a j A).keep C id id λb o u=>⟨G b o u,id⟩).mono ht,λj A=>(h.f j A).keep C id λb o u=>⟨G b o u,id⟩,h.bb,h.mm,h.ff,h.bm,h.bf,h.mf,λj A o=>?_⟩;obtain⟨I,J,K⟩:=h.nd j A o;obtain⟨L,N,O⟩:=h.lt A;exact⟨λu=>(y _ _ u).elim I a8,λu=>(y _ _ u).elim J a8,λu=>(y _ _ u).elim K a8⟩
def zux{D:Qk}{w:World}{v x y:Value}(h:Dat D w v (.tup [.v x,.v y])):v=.tuple #[x,y]:=by
 cases h with
 | tup vs cs hs h=>
   have d0:=(h 0 _ rfl).v_inv;have j:=(h 1 _ rfl).v_inv;obtain⟨l⟩:=vs;match l,hs with
   |[p,q],_=>simp at d0 j;rw[d0,j]
def opv(o:Opn)(ia:Option Addr)(j:Nat):Array Value:=#[.int .i64 o.who,.int .i64 o.from_,.int .u64 o.item,.string o.val,.slice ia o.items.length j]
def zsN(B F:Nat->Nat){i:Nat}(hi:i<3):(plv B F)[i]?=some (.pointer (some ⟨B i,0,none⟩))/\(plv B F)[3+i]?=some (.pointer (some ⟨F i,0,none⟩)):=by
 match i,hi with
 |0,_=>exact⟨rfl,rfl⟩
 |1,_=>exact⟨rfl,rfl⟩
 |2,_=>exact⟨rfl,rfl⟩
def zwH{C:Q9}{R E I:List Nat}{n t:Nat}{D:Qk}{w:World}{B M F:Nat->Nat}{S:Nat->Rs}{o:Opn}{ia:Option Addr}{ic:Nat}(e:Env25 C R E I)(ab:OkS C R E I n S)(hn:n<=25)(ht:t<800000)(N:Play D t w B M F S)(hG:Gd D w)(ho:OpE E I o)(d:Dat D w (.slice ia o.items.length ic) (rg o.items)):
 Calls xT 9 #[.agg (plv B F),.agg (opv o ia ic)] w λe w'=>e=.returned (.bool true)/\Keep (λk=>k=B (zsV o.who)\/k=M (zsV o.who)\/k=F (zsV o.who)) w w'/\Play (Nw D w w') (t+25) w' B M F (zsY S o):=by
 obtain⟨w1,ac⟩:=xm ((w.alloc (.cells (plv B F) 30)).alloc (.cells (opv o ia ic) 38));have aF:Below w.heap.size w w1:=by rw[ac];exact((tr _ w).alloc (Zp _) _).alloc b6 _
 have aS:w1.heap.size=w.heap.size+2:=by rw[ac];simp
 have aO:w1.heap[w.heap.size]?=some (.cells (plv B F) 30 (0,0)):=by rw[ac];exact Tp _ _ _
 have am:w1.heap[w.heap.size+1]?=some (.cells (opv o ia ic) 38 (0,0)):=by rw[ac];exact Tz _ _ _
 have y0:w1.cell? ⟨w.heap.size+1,0,none⟩=some (.int .i64 o.who):=(zW am 0 _ rfl).1;have y1:w1.cell? ⟨w.heap.size+1,1,none⟩=some (.int .i64 o.from_):=(zW am 1 _ rfl).1;have y4:w1.cell? ⟨w.heap.size+1,4,none⟩=some (.slice ia o.items.length ic):=(zW am 4 _ rfl).1;have aN:(o.who%18446744073709551616)%3=((zsV o.who:Nat):Int):=by unfold zsV;omega
 have aJ:(o.from_%18446744073709551616)%3=((zsV o.from_:Nat):Int):=by unfold zsV;omega
 have HX:=qL aO;have HY:=qL am;have aC:=qL aF;have aE:=qL aN;have aD:=qL aJ;clear aO am aF aN aJ;dsimp only[plv,opv]at ac⊢;go_enter func9,ntmps9
 go_wp2_with fail
 rw[<-ac];clear ac;go_region;rw[aE.o,aD.o];obtain⟨i,af⟩:=xm (zsV o.who);obtain⟨j,aA⟩:=xm (zsV o.from_);have hi:i<3:=by rw[af];exact zs5 _
 have hj:j<3:=by rw[aA];exact zs5 _
 rw[<-af,<-aA];have hW:Below w.heap.size w w1.drew:=aC.o.drew;obtain⟨W,ai⟩:=xm (w1.drew);rw[<-ai]at hW⊢;have bg:W.heap.size=w.heap.size+2:=by rw[ai];exact aS
 have aP:W.heap[w.heap.size]?=some (.cells (plv B F) 30 (0,0)):=by rw[ai];exact HX.o
 have aB:W.heap[w.heap.size+1]?=some (.cells (opv o ia ic) 38 (0,0)):=by rw[ai];exact HY.o
 obtain⟨b1,b2,b3⟩:=N.lt hi;obtain⟨c1,c2,c3⟩:=N.lt hj;obtain⟨n1,n2,n3⟩:(∀o,¬D (B i) o)/\(∀o,¬D (M i) o)/\∀o,¬D (F i) o:=⟨λo=>(N.nd i hi o).1,λo=>(N.nd i hi o).2.1,λo=>(N.nd i hi o).2.2⟩;have aI:=N.bm i i hi hi;have aH:=N.bf i i hi hi;have aL:=N.mf i i hi hi;have aG:∀A,Below W.heap.size W A->(∀k,k<3->Rpl D t A (B k) (M k) (S k)/\Rpf D A (F k) (S k))/\Gd D A/\Dat D A (.slice ia o.items.length ic) (rg o.items):=λA G=>by have hk:Keep qe w A:=(Keep.of_below' hW (Zp _)).trans (Keep.of_below' G (Zp _));exact⟨λk ag=>⟨(N.a k ag).keep hk id id λb o h=>⟨h,id⟩,(N.f k ag).keep hk id λb o h=>⟨h,id⟩⟩,hG.keep hk λ_ _ _=>id,d.mono (λ_ _ h=>h) λb o x hd hx=>hk.cell_some hx id⟩
 have y4:W.cell? ⟨w.heap.size+1,4,none⟩=some (.slice ia o.items.length ic):=(zW aB 4 _ rfl).1;have HK:=qL (And.intro N (And.intro hG (And.intro d (And.intro ab (And.intro ho e)))));have O:=qL aG;have ae:=qL aP;have ao:=qL aB;have ad:=qL hW;clear y0 y1 N hG d ab ho e aG aP aB hW ai HX HY aC aE aD;by_cases h0:o.items.length=0
 .go_wp2_with fail
  rename_i Kx hKx;have an:=qL hKx;clear hKx;obtain⟨N,hG,d,ab,ho,e⟩:=HK.o;have ak:zsY S o=ztC S i (ztM (S i) o.item o.val):=(by rw[af];exact vD h0);have hs:Ok25 C R E I n (S i):=ab i hi;refine do3 (x:=ztL (S i) o.item o.val) (R:=λA L=>Keep (λk=>k=B i\/k=M i) A L/\Rpl (Nw D A L) (t+1) L (B i) (M i) (ztM (S i) o.item o.val)) hi (zW ae.o i _ (zsN B F hi).1).1 (zW ao.o 2 _ rfl).1 (zW ao.o 3 _ rfl).1 a8 a8 a8 (λA G=>(zvG e hs hn ho.2.2.2.1 ((O.o A G).1 i hi).1 (O.o A G).2.1 n1 n2 aI a8).mono (by rintro e w' ⟨rfl,h1,h2⟩;exact⟨rfl,h1,h2⟩)) (λA L h=>h.1) ?_ an.o rfl rfl rfl rfl;intro w5 w6 P g Y T U be hg t ht h2 h3 h5 h7 h8;have H:Keep (λk=>k=B i\/k=M i) W P:=Keep.step Y T.1 U;have aT:=H.size;have y:∀A,Below P.heap.size P A->Rpf D A (F i) (S i)/\Gd D A:=λA G=>by have hk:Keep (λk=>k=B i\/k=M i) w A:=((Keep.of_below' ad.o (Zp _)).trans H).trans (Keep.of_below' G (Zp _));have hd:∀b o,D b o->¬(b=B i\/b=M i):=λb o h e=>e.elim (λe=>n1 o (e▸h)) λe=>n2 o (e▸h);exact⟨(N.f i hi).keep hk a8 λb o h=>⟨h,hd b o h⟩,hG.keep hk hd⟩
  refine do4 (x:=ztL (S i) o.item o.val) (R:=λA L=>Keep (λk=>k=F i) A L/\Rpf (Nw D A L) L (F i) (ztM (S i) o.item o.val)) hi hg a8 (H.cell_some (zW ae.o (3+i) _ (zsN B F hi).2).1 (by show ¬(w.heap.size=B i\/w.heap.size=M i);omega)) (H.cell_some (zW ao.o 2 _ rfl).1 (by show ¬(w.heap.size+1=B i\/w.heap.size+1=M i);omega)) (H.cell_some (zW ao.o 3 _ rfl).1 (by show ¬(w.heap.size+1=B i\/w.heap.size+1=M i);omega)) a8 a8 a8 (λA G=>(zuS e hs hn ho.2.2.2.1 (y A G).1 (y A G).2 n3).mono (by rintro e w' ⟨rfl,h1,h2⟩;exact⟨rfl,h1,h2⟩)) (λA L h=>h.1) ?_ ht h2 h3 h5 h7 h8;intro aZ ba Q V J K;have Z:Keep (λk=>k=F i) P Q:=Keep.step V J.1 K;have X:Keep (λk=>k=B i\/k=M i\/k=F i) w Q:=((Keep.of_below' ad.o (Zp _)).trans (H.mono λk _ h=>h.elim .inl λh=>.inr (.inl h))).trans (Z.mono λk _ h=>.inr (.inr h));have s5:=Y.size;have s6:=T.1.size;have s7:=U.size;have aW:=V.size;have aX:=J.1.size;have aY:=K.size;have s8:=Z.size;have aj:∀b o,D b o->b<w.heap.size:=hG.2;refine⟨rfl,af▸X,?_⟩;rw[ak];refine N.upd hi a8 X (λb o h=>.inl h) (λb o h=>h.imp id UQ) ?_ ?_
  .refine((T.2.keep (D':=Nw D w5 w6) U a8 a8 λb o h=>⟨h,λe=>?_⟩).keep (D':=Nw D w Q) Z aH aL λb o h=>⟨?_,λe=>?_⟩).mono a8
   .rcases h with h|h
    .have:=aj b o h;omega
    .omega
   .exact h.imp id λh=>⟨a8,a8⟩
   .rcases h with h|h
    .exact n3 o (e▸h)
    .omega
  .refine J.2.keep K a8 λb o h=>⟨h.imp id λh=>⟨a8,a8⟩,λe=>?_⟩;rcases h with h|h
   .have:=aj b o h;omega
   .omega
 .have bc:¬((o.items.length:Int)=0):=a8
  go_wp2_with fail
  rename_i Kx hKx;have an:=qL hKx;clear hKx;obtain⟨N,hG,d,ab,ho,e⟩:=HK.o;have hs:Ok25 C R E I n (S i):=ab i hi;have hf:Ok25 C R E I n (S j):=ab j hj;have aj:∀b o,D b o->b<w.heap.size:=hG.2;have aK:o.items.length<=10:=ho.2.2.1;have au:∀A,Gd D A->Dat D A (.slice ia o.items.length ic) (rg o.items)->Calls xT 21 #[.slice ia o.items.length ic] A λe w'=>e=.returned (.tuple #[.int .i64 (Zl o.items).1,.int .i64 (Zl o.items).2])/\Below A.heap.size A w':=λA G dA=>by
   refine(jP (XO o.items a8 ho.1) G.1 G.2 rfl λk p hp=>?_).mono ?_
   .match k,hp with
    |0,hp=>cases hp;exact dA
    |k+1,hp=>simp at hp
   .rintro e w' ⟨u,rfl,hb,hd⟩;rw[zux hd];exact⟨rfl,hb⟩
  have aQ:=(zW ae.o i _ (zsN B F hi).1).1;have aR:=(zW ae.o j _ (zsN B F hj).1).1;have aU:=(zW ae.o (3+i) _ (zsN B F hi).2).1;have aV:=(zW ae.o (3+j) _ (zsN B F hj).2).1;have ay:∀b o,D b o->¬(b=B i\/b=M i):=λb o h e=>e.elim (λe=>n1 o (e▸h)) λe=>n2 o (e▸h);by_cases hc:(Zl o.items).1=0
  .obtain⟨aM,hE⟩:=ho.ed hc;have ak:zsY S o=ztC S i (ztt (S i) (S j) o.items):=(by unfold zsY;rw[Vq h0,vD hc,af,aA]);refine do6 (n:=(zs0 (S j) (S i).known o.items).length) (er:=.nilIface) (R:=λA L=>Keep (λk=>k=B i\/k=M i) A L/\Rpl (Nw D A L) (t+25) L (B i) (M i) (ztt (S i) (S j) o.items)) hi hj aQ aR y4 a8 a8 a8 (λA G=>(zuP e hs hf a8 ((O.o A G).1 i hi).1 ((O.o A G).1 j hj).1 (O.o A G).2.1 n1 n2 aI a8 aM hE aK (O.o A G).2.2).mono (by rintro e w' ⟨rfl,h1,h2⟩;exact⟨rfl,h1,h2⟩)) (λA L h=>h.1) ?_ an.o rfl rfl rfl rfl rfl;intro w5 w6 P Y T U t ht h2 h3 h5 h6 av aw;have H:Keep (λk=>k=B i\/k=M i) W P:=Keep.step Y T.1 U;have aT:=H.size;have y:∀A,Below P.heap.size P A->(∀k,k<3->Rpf D A (F k) (S k))/\Gd D A/\Dat D A (.slice ia o.items.length ic) (rg o.items):=λA G=>(by have hk:Keep (λk=>k=B i\/k=M i) w A:=((Keep.of_below' ad.o (Zp _)).trans H).trans (Keep.of_below' G (Zp _));exact⟨λk ag=>(N.f k ag).keep hk (by rintro(e|e);exact N.bf _ _ hi ag e.symm;exact N.mf _ _ hi ag e.symm) λb o h=>⟨h,ay b o h⟩,hG.keep hk ay,d.mono (λ_ _ h=>h) λb o x hd hx=>hk.cell_some hx (ay b o hd)⟩)
   have ar:=au P (y P (tr _ _)).2.1 (y P (tr _ _)).2.2;rw[hc]at ar;have ax:∀k,k=w.heap.size\/k=w.heap.size+1->¬(k=B i\/k=M i):=λk hk=>a8;refine do7 (k0:=(Zl o.items).2) (R:=λA L=>Keep (λk=>k=F i) A L/\Rpf (Nw D A L) L (F i) (ztt (S i) (S j) o.items)) hi hj (H.cell_some aU (ax _ (.inl rfl))) (H.cell_some aV (ax _ (.inl rfl))) (H.cell_some y4 (ax _ (.inr rfl))) a8 a8 ar (λA G=>(zuo e hs hf a8 ((y A G).1 i hi) ((y A G).1 j hj) (λe=>by rw[N.ff _ _ hj hi e]) (y A G).2.1 n3 aM hE aK (y A G).2.2).mono (by rintro e w' ⟨rfl,h1,h2⟩;exact⟨rfl,h1,h2⟩)) (λA L h=>h.1) ?_ ht h2 h3 h5 h6 av aw;intro aZ ba Q V J K;have Z:Keep (λk=>k=F i) P Q:=Keep.step V J.1 K;have X:Keep (λk=>k=B i\/k=M i\/k=F i) w Q:=((Keep.of_below' ad.o (Zp _)).trans (H.mono λk _ h=>h.elim .inl λh=>.inr (.inl h))).trans (Z.mono λk _ h=>.inr (.inr h));have s5:=Y.size;have s6:=T.1.size;have s7:=U.size;have aW:=V.size;have aX:=J.1.size;have aY:=K.size;have s8:=Z.size;refine⟨rfl,af▸X,?_⟩;rw[ak];refine N.upd hi a8 X (λb o h=>.inl h) (λb o h=>h.imp id UQ) ?_ ?_
   .refine(T.2.keep (D':=Nw D w5 w6) U a8 a8 λb o h=>⟨h,λe=>?_⟩).keep (D':=Nw D w Q) Z aH aL λb o h=>⟨?_,λe=>?_⟩
    .rcases h with h|h
     .have:=aj b o h;omega
     .omega
    .exact h.imp id λh=>⟨a8,a8⟩
    .rcases h with h|h
     .exact n3 o (e▸h)
     .omega
   .refine J.2.keep K a8 λb o h=>⟨h.imp id λh=>⟨a8,a8⟩,λe=>?_⟩;rcases h with h|h
    .have:=aj b o h;omega
    .omega
  .have ak:zsY S o=S:=(by unfold zsY;rw[Vq h0,Vq hc]);have ah:=zth o.items none 0 hc;replace ah:(Zl o.items).1=2\/(Zl o.items).1=3:=ah;refine do6 (m0:=M i) (n:=0) (er:=erV (Zl o.items)) (R:=λA L=>Below A.heap.size A L) hi hj aQ aR y4 a8 a8 a8 (λA G=>(zuO e hs ((O.o A G).1 i hi).1 (O.o A G).2.1 ho.1 hc a8 (O.o A G).2.2).mono (by rintro e w' ⟨rfl,h1⟩;exact⟨rfl,h1⟩)) (λA L h=>Keep.of_below' h (Zp _)) ?_ an.o rfl rfl rfl rfl rfl;intro w5 w6 P Y T U t ht h2 h3 h5 h6 av aw;have H:Keep qe W P:=Keep.step Y (Keep.of_below' T (Zp _)) U;have y:∀A,Below P.heap.size P A->Gd D A/\Dat D A (.slice ia o.items.length ic) (rg o.items):=λA G=>(by have hk:Keep qe w A:=((Keep.of_below' ad.o (Zp _)).trans H).trans (Keep.of_below' G (Zp _));exact⟨hG.keep hk λ_ _ _=>id,d.mono (λ_ _ h=>h) λb o x hd hx=>hk.cell_some hx id⟩);have ar:=au P (y P (tr _ _)).1 (y P (tr _ _)).2;have az:∀A,Dat D A (.agg #[.string sRp,.iface 115 (.agg #[.int .i64 (Zl o.items).1,.int .i64 (Zl o.items).2])]) (.agg [.v (.string sRp),jS (Zl o.items).1 (Zl o.items).2]):=λA=>(by rw[zmb hc];exact znT (.v _) (.ifc _ _ _ (znT (.v _) (.v _) rfl rfl)) rfl rfl);have aq:∀{u:Value}{p:PV}{A:World},Dat D A u p->∀(k:Nat) q,[p][k]?=some q->Dat D A (#[u].getD k undef) q:=λh k q hq=>by
    match k,hq with
    |0,hq=>cases hq;exact h
    |k+1,hq=>simp at hq
   refine do8 (e0:=((Zl o.items).1:Int)) (k0:=(Zl o.items).2) (s2:=zn4 (Zl o.items).1) (by rcases ah with h|h<;>rw[h]<;>decide) (by rw[zoJ];omega) (H.cell_some y4 id) ar (λA G=>zsI (zpW sRp (Zl o.items) hc) (y A G).1 rfl (aq (.ifc _ _ _ (az A)))) (λA G=>zsI (zrc sRp (Zl o.items) hc) (y A G).1 rfl (aq (.ifc _ _ _ (az A)))) (λA G=>?_) (λA G=>zsI (zoT (Zl o.items).1 (by rcases ah with h|h<;>rw[h]<;>decide)) (y A G).1 rfl (aq (.v _))) ?_ ht h3 av aw
   .have:=zsI (zom sRp (Zl o.items) b8 hc (by rcases ah with h|h<;>rw[h]<;>decide)) (y A G).1 rfl (aq (az A));rw[show sRp++zoq=(⟨#[114,101,112,108,105,99,97,58,32]⟩:ByteArray) from by kernel_rfl]at this;exact this
   .intro Q hb;have X:Keep qe w Q:=((Keep.of_below' ad.o (Zp _)).trans H).trans (Keep.of_below' hb (Zp _));refine⟨rfl,X.mono λ_ _ h=>h.elim,?_⟩;rw[ak];exact N.same a8 (X.below (Zp _) λ_ _ h=>h) (λb o h=>.inl h) (λb o h=>h.imp id UQ)
def Play.sub{D j:Qk}{t y:Nat}{w:World}{B M F:Nat->Nat}{S:Nat->Rs}(h:Play D t w B M F S)(ht:t<=y)(u:∀b o,D b o->j b o)(nd:∀i,i<3->∀o,¬j (B i) o/\¬j (M i) o/\¬j (F i) o):Play j y w B M F S:=
 ⟨λi hi=>((h.a i hi).keep (S:=qe) (Keep.refl _ _) id id λb o h=>⟨u b o h,id⟩).mono ht,λi hi=>(h.f i hi).keep (S:=qe) (Keep.refl _ _) id λb o h=>⟨u b o h,id⟩,h.bb,h.mm,h.ff,h.bm,h.bf,h.mf,nd⟩
def PB(B M F:Nat->Nat)(k:Nat):Prop:=∃i,i<3/\(k=B i\/k=M i\/k=F i)
structure PlI(C:Q9)(R E I:List Nat)(D:Qk)(w2:World)(B M F:Nat->Nat)(j:Nat)(S:Nat->Rs)(wr:World):Prop where
 p:Play (Nw D w2 wr) (25*j) wr B M F S
 ok:OkS C R E I j S
 k:Keep (PB B M F) w2 wr
def PlI.step{C:Q9}{R E I:List Nat}{D:Qk}{u wr:World}{B M F:Nat->Nat}{j:Nat}{S:Nat->Rs}{o:Opn}{ia:Option Addr}{P:Nat}(h:PlI C R E I D u B M F j S wr)(e:Env25 C R E I)(hj:j<25)(ho:OpE E I o)(Q:Gd D u)(L:∀i,i<3->B i<u.heap.size/\M i<u.heap.size/\F i<u.heap.size)(A:∀i,i<3->∀o,¬D (B i) o/\¬D (M i) o/\¬D (F i) o)(d:Dat D u (.slice ia o.items.length P) (rg o.items))(obj:Obj):
 Calls xT 9 #[.agg (plv B F),.agg (opv o ia P)] (wr.alloc obj) λe O=>e=.returned (.bool true)/\PlI C R E I D u B M F (j+1) (zsY S o) O:=by
 have y:Keep (PB B M F) u (wr.alloc obj):=h.k.alloc _;have G:∀b o,D b o->¬PB B M F b:=λb o H hb=>by
  obtain⟨i,hi,rfl|rfl|rfl⟩:=hb
  .exact(A i hi o).1 H
  .exact(A i hi o).2.1 H
  .exact(A i hi o).2.2 H
 have J:Gd (Nw D u (wr.alloc obj)) (wr.alloc obj):=Gd.new (w:=u) (Q.keep y G) y.size;have N:Play (Nw D u (wr.alloc obj)) (25*j) (wr.alloc obj) B M F S:=h.p.same (Zp _) ((tr _ _).alloc (Zp _) _) (λb o h=>h.imp id λh=>⟨h.1,a9⟩) λb o h=>by
  rcases h with h|h
  .exact .inl (.inl h)
  .by_cases hb:b<wr.heap.size
   .exact .inl (.inr ⟨h.1,hb⟩)
   .exact .inr a8
 refine(zwH e h.ok a8 a8 N J ho (d.mono (λ_ _ h=>.inl h) λb o x H U=>y.cell_some U (G b o H))).mono ?_;rintro Z O ⟨rfl,hk,T⟩;have K:Keep (PB B M F) u O:=y.trans (hk.mono λk _ e=>⟨_,zs5 _,e⟩);have s1:=y.size;have s2:=hk.size;refine⟨rfl,T.sub a8 (λb o h=>?_) λi hi o=>?_,h.ok.step e ho a8,K⟩
 .rcases h with(h|h)|h
  .exact .inl h
  .exact .inr ⟨h.1,a8⟩
  .exact .inr ⟨a8,h.2⟩
 .obtain⟨V,X,Y⟩:=A i hi o;obtain⟨l1,l2,l3⟩:=L i hi;exact⟨λh=>h.elim V a8,λh=>h.elim X a8,λh=>h.elim Y a8⟩
def PlI.gd{C:Q9}{R E I:List Nat}{D:Qk}{y wr:World}{B M F:Nat->Nat}{j:Nat}{S:Nat->Rs}(h:PlI C R E I D y B M F j S wr)(G:Gd D y)(u:∀i,i<3->∀o,¬D (B i) o/\¬D (M i) o/\¬D (F i) o):Gd (Nw D y wr) wr:=
 Gd.new (w:=y) (G.keep h.k λb o A hb=>by
  obtain⟨i,hi,rfl|rfl|rfl⟩:=hb
  .exact(u i hi o).1 A
  .exact(u i hi o).2.1 A
  .exact(u i hi o).2.2 A) h.k.size
def DT(w:World)(v:Value)(l:List Rc):Prop:=∃a c,v=.slice a l.length c/\Dat (λ_ _=>True) w v (lp l)
def DT.of{D:Qk}{w:World}{v:Value}{l:List Rc}(h:Dat D w v (lp l)):DT w v l:=by obtain⟨a,c,rfl,_⟩:=zsZ h;exact⟨a,c,rfl,h.mono (λ_ _ _=>trivial) λ_ _ _ _ h=>h⟩
def DT.below{w j:World}{v:Value}{l:List Rc}(h:DT w v l)(hb:Below w.heap.size w j):DT j v l:=by obtain⟨a,c,rfl,h⟩:=h;exact⟨a,c,rfl,h.mono (λ_ _ h=>h) λb o x _ u=>bc1 hb u⟩
def zud{D:Qk}{A:World}{v:Value}{p:PV}(h:Dat D A v p):∀(k:Nat) q,[p][k]?=some q->Dat D A (#[v].getD k undef) q:=λk q j=>by
 match k,j with
 |0,j=>cases j;exact h
 |k+1,j=>simp at j
def zwd{D:Qk}{w:World}{v:Value}{l:List Iv}(h:Dat D w v (rg l)):l.length<=9223372036854775807:=by
 unfold rg at h;generalize j:l.map Q2=es at h;have y:es.length=l.length:=by rw[<-j];simp
 cases h with
 |sl a cap sz es o b off u hc hz hm ha hsz hd hx=>unfold maxLen at hm;omega
def zw7{w:World}{u v:Value}{l:List Rc}(K:DT w u l)(L:DT w v l)(hl:l.length<=1000000):Calls xT 11 #[u,v] w λe w'=>e=.returned (.bool true)/\Below w.heap.size w w':=by
 obtain⟨Q,c1,rfl,K⟩:=K;obtain⟨S,c2,rfl,L⟩:=L;obtain⟨b1,d1,e1,l1,m1,Y⟩:=zsZ K;obtain⟨b2,d2,e2,l2,m2,Z⟩:=zsZ L;obtain⟨rfl,rfl⟩:Q=b1/\c1=d1:=dJ e1
 obtain⟨rfl,rfl⟩:S=b2/\c2=d2:=dJ e2
 obtain⟨n,U⟩:=xm (l.length);have G:∀W,Below w.heap.size w W->∀j,j<n->∃(x:Rc) (o C y E:Nat),Q=some ⟨o,C,none⟩/\S=some ⟨y,E,none⟩/\∀i u,(rcs x)[i]?=some u->W.cell? ⟨o,C+j*4+i,none⟩=some u/\W.cell? ⟨y,E+j*4+i,none⟩=some u:=λW T j hj=>by have H:j<l.length:=a8;have J:l≠[]:=(by rintro rfl;simp at H);obtain⟨o,C,V,k1⟩:=Y J;obtain⟨y,E,X,k2⟩:=Z J;refine⟨l[j],o,C,y,E,V,X,λi u M=>?_⟩;have P:i<4:=(by have:=(Zw.1 M).1;simpa[rcs]using this);rw[<-zsD H P]at M;rw[Wt,Wt];exact⟨bc1 T (k1 _ _ M).2,bc1 T (k2 _ _ M).2⟩
 have O:=qL G;rw[<-U]at hl l1 l2⊢;clear G Y Z K L U e1 e2;go_enter func11,ntmps11
 go_wp2_with fail
 go_loopg [13] n (λg x wr=>∃j,j<=n/\g=n-j/\x=.int .i64 j/\Below w.heap.size w wr)
 case atStart=>exact⟨0,X4 _,rfl,rfl,tr _ _⟩
 case round=>
  obtain⟨j,hj,rfl,rfl,A⟩:=hrel;have F:=qL A;by_cases I:j<n
  .obtain⟨x,o,C,y,E,rfl,rfl,B⟩:=O.o wr A j I;have p0:wr.cell? ⟨o,C+j*4,none⟩=some (.int .u64 x.item):=(B 0 _ rfl).1;have p1:wr.cell? ⟨o,C+j*4+1,none⟩=some (.int .u64 x.rep):=(B 1 _ rfl).1;have p2:wr.cell? ⟨o,C+j*4+2,none⟩=some (.int .u64 x.ctr):=(B 2 _ rfl).1;have p3:wr.cell? ⟨o,C+j*4+3,none⟩=some (.string x.val):=(B 3 _ rfl).1;have q0:wr.cell? ⟨y,E+j*4,none⟩=some (.int .u64 x.item):=(B 0 _ rfl).2;have V:wr.cell? ⟨y,E+j*4+1,none⟩=some (.int .u64 x.rep):=(B 1 _ rfl).2;have X:wr.cell? ⟨y,E+j*4+2,none⟩=some (.int .u64 x.ctr):=(B 2 _ rfl).2;have q3:wr.cell? ⟨y,E+j*4+3,none⟩=some (.string x.val):=(B 3 _ rfl).2;clear A B
   go_wp2_with fail
   go_region;have N:=qL F.o.drew
   go_wp2_with fail
   go_roundg (n-(j+1));case measure=>omega
   case rel=>exact⟨j+1,I,rfl,rfl,N.o⟩
  .clear A
   go_wp2_with fail
   go_ret;exact⟨rfl,F.o⟩
end
end Go.Proofs.YtmpnbdhadjfbhaaGreatDoor
