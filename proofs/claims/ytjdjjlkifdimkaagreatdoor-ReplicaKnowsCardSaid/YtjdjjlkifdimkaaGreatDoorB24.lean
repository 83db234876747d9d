import Derived.Test.YtjdjjlkifdimkaaGreatDoorB23
set_option maxHeartbeats 16000000
set_option linter.all false
set_option maxRecDepth 100000
namespace Go.Proofs.YtjdjjlkifdimkaaGreatDoor
open Go.RowKit
open Go.Proofs.Tryz
open Go.Proofs.Tryz renaming prog->xt
section
attribute [-go_sem] z7
def zsI{f:FuncId}{y:List PV}{x:Value}(C:Cn xt f y (.v x)){D:xT}{w:World}{vs:Array Value}(A:Gd D w)(o:vs.size=y.length)(j:∀(i:Nat) p,y[i]?=some p->Dat D w (vs.getD i undef) p):Calls xt f vs w λe B=>e=.returned x/\Below w.heap.size w B:=by refine(jP C A.1 A.2 o j).mono ?_;rintro e B ⟨u,rfl,hb,j⟩;rw[(Rel.dat (ρ:=λ_=>0) (nb:=0) j).v_inv];exact⟨rfl,hb⟩
def ztx{D:xT}{w:World}{b:Nat}{v:Value}{p:PV}{t:TypeId}(h:w.heap[b]?=some (.cells #[v] t (0,0)))(y:D b 0)(u:v.oneCell'=true)(A:Dat D w v p):Dat D w (.pointer (some ⟨b,0,none⟩)) (.cp [p] 0):=
 .cp b 0 [p] 0 (λ_=>v) (λj B=>by
  obtain rfl:j=0:=(dL B);exact⟨y,(zW h 0 _ rfl).1,u⟩) λj q o=>by
  match j,o with
  |0,o=>cases o;exact A
def zum{C:Qk}{R E I:List Nat}{n t b m:Nat}{D:xT}{w:World}{s:Rs}{items:List Iv}{ia:Option Addr}{ic:Nat}(e:Env25 C R E I)(h:Ok25 C R E I n s)(Y:Rpl D t w b m s)(X:Gd D w)(hi:∀s∈items,s.lo<=s.hi/\s.hi<zk)(ab:items.length<=1000000)(d:Dat D w (.slice ia items.length ic) (rg items)):
 Calls xt 17 #[.pointer (some ⟨b,0,none⟩),.slice ia items.length ic] w λe V=>∃a c,e=.returned (.slice a (s.recs.filter λx=>mem items x.item).length c)/\Below w.heap.size w V/\Dat (Nw D w V) V (.slice a (s.recs.filter λx=>mem items x.item).length c) (lp (s.recs.filter λx=>mem items x.item)):=by
 obtain⟨y,u⟩:=xm (w.alloc (.cells #[.slice ia items.length ic] 24));have A:Below w.heap.size w y:=by rw[u];exact(tq _ w).alloc (Zp _) _
 have ac:y.heap.size=w.heap.size+1:=by rw[u];exact tu _ _
 have N:y.heap[w.heap.size]?=some (.cells #[.slice ia items.length ic] 24 (0,0)):=by rw[u];exact tl w _
 have B:Keep qe w y:=Keep.of_below' A (Zp _);have H:Rpl D t y b m s:=Y.keep B id id λb o h=>⟨h,id⟩;have L:=ztO (q:=λx=>mem items x.item) (f := 43) (cap:=#[.pointer (some ⟨w.heap.size,0,none⟩)]) H h.a (by have:=h.len e;omega) (λx M=>(e.m _ (h.x x M).1).1) (enters_of func43 dM rfl) λx M W S=>by
  have J:Keep qe w W:=B.trans (Keep.of_below' S (Zp _));have G:Gd (Nw D w y) W:=(by have Q:=X.keep J λ_ _ _=>id;refine⟨Q.1.mono (λ_ _ h=>.inl h) λ_ _ _ _ h=>h,λb o h=>h.elim (Q.2 b o) λh=>vw h.2 S.size⟩);have U:Dat (Nw D w y) W (.slice ia items.length ic) (rg items):=d.mono (λ_ _ h=>.inl h) λb o x hd M=>J.cell_some M id;refine cn_bool (ztW items x hi (e.m _ (h.x x M).1).1 a9) G.1 G.2 rfl λj p F=>?_;match j,F with
  |0,F=>cases F;exact ztb x
  |1,F=>cases F;exact ztx ((S.block _ a9).trans N) (.inr ⟨Zp _,a9⟩) rfl U
  |j+2,F=>simp at F
 have P:=qL L;have O:=qL A;clear L H N A Y X d B;go_enter func17,ntmps17
 go_wp2_with (go_at_call 36;rw[<-u];refine P.o.mono ?_;rintro e w2 ⟨v,rfl,T,K⟩;obtain⟨a2,c2,rfl⟩:=K.val)
 go_ret;exact⟨_,_,rfl,O.o.trans (T.mono a9),K.dat λb o Q Z=>.inr ⟨a9,Z⟩⟩
def bc0{w o:World}{a:Addr}{v:Value}(h:Below w.heap.size w o)(j:w.cell? a=some v):o.cell? a=some v:=(tk (h.block _ (tn w a j))).trans j
def zt3{D:xT}{w:World}{v:Value}{c k:Int}(h:Dat D w v (.ifc 123 (.agg [.v (.int .i64 c),.v (.int .i64 k)]))):v=.iface 123 (.agg #[.int .i64 c,.int .i64 k]):=by
 cases h with
 | ifc t x p h=>
   cases h with
   | agg vs cs hs h1 h=>
     have j:=(Rel.dat (ρ:=λ_=>0) (nb:=0) (h 0 _ rfl)).v_inv;have o:=(Rel.dat (ρ:=λ_=>0) (nb:=0) (h 1 _ rfl)).v_inv;obtain⟨l⟩:=vs;match l,hs with
     |[p,q],_=>simp at j o;rw[j,o]
def Ke.zz{C:Qk}{R E I:List Nat}{k:List Fg}(h:Ke C R E k)(e:Env25 C R E I):QW k:=h.kn.z (by have:=e.e;omega)
def ztv{k:List Fg}(o:RightK k)(hz:QW k):Cn xt 32 [kp k] (.v .nilIface):=by have j:BdK k:=BdK.of o hz;have:=Vh k j hz;rw[yk ((ZN j).2 o)]at this;exact this
def OwnL.base{e:TypeId}{b j:Nat}{w:World}{v:Value}{l:List Rc}(h:OwnL e b w v l)(hb:j<=b):OwnL e j w v l:=⟨h.1,h.2.imp id λ⟨g,cap,cur,q1,q2,q3⟩=>⟨g,cap,cur,q1,VS hb q2,q3⟩⟩
def zul{C:Qk}{R E I:List Nat}{n t b m:Nat}{D:xT}{w:World}{s:Rs}{k:List Fg}{items:List Iv}{ka ia:Option Addr}{T S:Nat}(e:Env25 C R E I)(h:Ok25 C R E I n s)(hn:n<=26)(hR:Rpl D t w b m s)(hG:Gd D w)(hr:RightK k)(hz:QW k)(dk:Dat D w (.slice ka k.length T) (kp k))(hi:Nrm items)(ah:items.length<=1000)(d:Dat D w (.slice ia items.length S) (rg items)):
 Calls xt 12 #[.pointer (some ⟨b,0,none⟩),.slice ka k.length T,.slice ia items.length S] w λe U=>∃a c,e=.returned (.tuple #[.slice a (zs0 s k items).length c,.nilIface])/\Below w.heap.size w U/\OwnL 66 w.heap.size U (.slice a (zs0 s k items).length c) (zs0 s k items):=by
 obtain⟨y,G⟩:=xm ((w.alloc (.cells #[.slice ka k.length T] 41)).alloc (.cells #[.slice ia items.length S] 24));have M:Below w.heap.size w y:=by rw[G];exact((tq _ w).alloc (Zp _) _).alloc b7 _
 have ai:y.heap.size=w.heap.size+2:=by rw[G];simp
 have Q:y.heap[w.heap.size]?=some (.cells #[.slice ka k.length T] 41 (0,0)):=by rw[G];exact To _ _ _
 have K:y.heap[w.heap.size+1]?=some (.cells #[.slice ia items.length S] 24 (0,0)):=by rw[G];exact Ty _ _ _
 have A:∀W,Below y.heap.size y W->Gd (Nw D w y) W/\Dat (Nw D w y) W (.slice ka k.length T) (kp k)/\Dat (Nw D w y) W (.slice ia items.length S) (rg items)/\Rpl D t W b m s:=λW H=>by have J:Keep qe w W:=(Keep.of_below' M (Zp _)).trans (Keep.of_below' H (Zp _));have h1:=hG.keep J λ_ _ _=>id;exact⟨⟨h1.1.mono (λ_ _ h=>.inl h) λ_ _ _ _ h=>h,λb o h=>h.elim (h1.2 b o) λh=>vw h.2 H.size⟩,dk.mono (λ_ _ h=>.inl h) λb o x hd P=>J.cell_some P id,d.mono (λ_ _ h=>.inl h) λb o x hd P=>J.cell_some P id,hR.keep J id id λb o h=>⟨h,id⟩⟩
 have hM:=zw;have V:=λW H=>zsI (ztv hr hz) (A W H).1 (vs:=#[.slice ka k.length T]) rfl λj p u=>by
  match j,u with
  |0,u=>cases u;exact(A W H).2.1
  |j+1,u=>simp at u
 have Y:=λW H=>zsI (zpJ items hi a9) (A W H).1 (vs:=#[.slice ia items.length S]) rfl λj p u=>by
  match j,u with
  |0,u=>cases u;exact(A W H).2.2.1
  |j+1,u=>simp at u
 have Z:∀L,Below y.heap.size y L->Calls xt 36 #[.pointer (some ⟨b,0,none⟩),.func (.func 37) #[] #[.pointer (some ⟨w.heap.size+1,0,none⟩),.pointer (some ⟨w.heap.size,0,none⟩)]] L λe U=>∃v,e=.returned v/\Below L.heap.size L U/\OwnL 66 L.heap.size U v (zs0 s k items):=λL O=>
  ztO (q:=λx=>mem items x.item && !hasK k x.item x.rep x.ctr) (A L O).2.2.2 h.a (by have:=h.len e;omega) (λx P=>(e.m _ (h.x x P).1).1) (enters_of func37 dM rfl) λx P W H=>by
   have N:=O.trans (H.mono O.size);obtain⟨g1,g2,g3,_⟩:=A W N;refine cn_bool (ztT k items x hi a9 hr (by have:=h.x x P;omega) hz) g1.1 g1.2 rfl λj p u=>?_;match j,u with
   |0,u=>cases u;exact ztb x
   |1,u=>cases u;exact ztx ((N.block _ a9).trans K) (.inr ⟨a9,a9⟩) rfl g3
   |2,u=>cases u;exact ztx ((N.block _ a9).trans Q) (.inr ⟨a9,a9⟩) rfl g2
   |j+3,u=>simp at u
 have c0:y.cell? ⟨w.heap.size,0,none⟩=some (.slice ka k.length T):=(zW Q 0 _ rfl).1;have c1:y.cell? ⟨w.heap.size+1,0,none⟩=some (.slice ia items.length S):=(zW K 0 _ rfl).1;have HX:=qL K;have ac:=qL V;have ad:=qL Y;have ae:=qL Z;have ab:=qL M;clear A V Y Z Q K M hR hG dk d h hr hz;go_enter func12,ntmps12
 go_wp2_with (first
  |(go_at_call 32;rw[<-G];refine(ac.o y (tq _ _)).mono ?_;rintro e w2 ⟨rfl,F⟩;have d0:=bc0 F c0;have d1:=bc0 F c1)
  |(go_at_call 34;refine(ad.o _ F).mono ?_;rintro e w3 ⟨rfl,af⟩;have B:=F.trans (af.mono F.size);have d3:=bc0 B c0;have d4:=bc0 B c1)
  |(go_at_call 35;refine(As.Is_nil _ _).mono ?_;rintro e U ⟨rfl,rfl⟩)
  |(go_at_call 36;refine(ae.o _ B).mono ?_;rintro e w5 ⟨v,rfl,ag,X⟩;obtain⟨a5,c5,rfl⟩:=X.val))
 refine tx (Tn rfl _ _ _) rfl ?_;exact⟨_,_,rfl,ab.o.trans ((B.mono a9).trans (ag.mono (by have:=B.size;omega))),X.base (by have:=B.size;omega)⟩
def zvu{c d:Prop}[Decidable c][Decidable d]{x:Nat×Int}{i:Int}(ih:x.1≠0->x.1=2\/x.1=3)(h:(if c then (if d then x else (3,i)) else (2,i)).1≠0):(if c then (if d then x else (3,i)) else (2,i)).1=2\/(if c then (if d then x else (3,i)) else (2,i)).1=3:=by
 by_cases j:c
 .rw[vj j]at h⊢;by_cases o:d
  .rw[vj o]at h⊢;exact ih h
  .rw[vD o];exact .inr rfl
 .rw[vD j];exact .inl rfl
def zth:∀(l:List Iv)(p:Option Iv)(i:Nat),(QZ p l i).1≠0->(QZ p l i).1=2\/(QZ p l i).1=3
 |[],p,i,h=>absurd (by simp[QZ]) h
 |s::l,p,i,h=>zvu (zth l (some s) (i+1)) h
def zvL{f:FuncId}{y:List PV}{c k:Int}(C:Cn xt f y (.ifc 123 (.agg [.v (.int .i64 c),.v (.int .i64 k)]))){D:xT}{w:World}{vs:Array Value}(A:Gd D w)(o:vs.size=y.length)(j:∀(i:Nat) p,y[i]?=some p->Dat D w (vs.getD i undef) p):Calls xt f vs w λe B=>e=.returned (.iface 123 (.agg #[.int .i64 c,.int .i64 k]))/\Below w.heap.size w B:=by refine(jP C A.1 A.2 o j).mono ?_;rintro e B ⟨u,rfl,hb,j⟩;rw[zt3 j];exact⟨rfl,hb⟩
def sRp:ByteArray:=⟨#[114,101,112,108,105,99,97]⟩
def erV(x:Nat×Int):Value:=.iface 141 (.agg #[.string sRp,.iface 123 (.agg #[.int .i64 x.1,.int .i64 x.2])])
def zu7{D:xT}{w:World}{v:Value}{x:Nat×Int}(u:x.1≠0)(h:Dat D w v (zou sRp x)):v=erV x:=by
 unfold zou at h;rw[zmb u]at h;cases h with
 | ifc t x p h=>
   cases h with
   | agg vs cs hs h1 h=>
     have j:=(Rel.dat (ρ:=λ_=>0) (nb:=0) (h 0 _ rfl)).v_inv;have o:=zt3 (h 1 _ rfl);obtain⟨l⟩:=vs;match l,hs with
     |[p,q],_=>simp at j o;rw[j,o];rfl
def ztI{D:xT}{w:World}{b:Nat}{k:List Fg}{items:List Iv}{ka ia:Option Addr}{Q P:Nat}(hG:Gd D w)(hr:RightK k)(hz:QW k)(dk:Dat D w (.slice ka k.length Q) (kp k))(hi:∀s∈items,s.lo<zk/\s.hi<zk)(U:(Zl items).1≠0)(ag:items.length<=1000000)(d:Dat D w (.slice ia items.length P) (rg items)):
 Calls xt 12 #[.pointer (some ⟨b,0,none⟩),.slice ka k.length Q,.slice ia items.length P] w λe Z=>e=.returned (.tuple #[.slice none 0 0,erV (Zl items)])/\Below w.heap.size w Z:=by
 obtain⟨C,F⟩:=xm ((w.alloc (.cells #[.slice ka k.length Q] 41)).alloc (.cells #[.slice ia items.length P] 24));have J:Below w.heap.size w C:=by rw[F];exact((tq _ w).alloc (Zp _) _).alloc b7 _
 have ah:C.heap.size=w.heap.size+2:=by rw[F];simp
 have X:C.heap[w.heap.size]?=some (.cells #[.slice ka k.length Q] 41 (0,0)):=by rw[F];exact To _ _ _
 have Y:C.heap[w.heap.size+1]?=some (.cells #[.slice ia items.length P] 24 (0,0)):=by rw[F];exact Ty _ _ _
 have A:∀W,Below C.heap.size C W->Gd D W/\Dat D W (.slice ka k.length Q) (kp k)/\Dat D W (.slice ia items.length P) (rg items):=λW G=>by have K:Keep qe w W:=(Keep.of_below' J (Zp _)).trans (Keep.of_below' G (Zp _));exact⟨hG.keep K λ_ _ _=>id,dk.mono (λ_ _ h=>h) λb o x hd I=>K.cell_some I id,d.mono (λ_ _ h=>h) λb o x hd I=>K.cell_some I id⟩
 have V:=λW G=>zsI (ztv hr hz) (A W G).1 (vs:=#[.slice ka k.length Q]) rfl λj p y=>by
  match j,y with
  |0,y=>cases y;exact(A W G).2.1
  |j+1,y=>simp at y
 have L:=rcheck_c items hi a9 (.inr (KL 2));have N:=zqK sRp (Zl items) U;rw[zmb U]at L N;have M:=λW G=>zvL L (A W G).1 (vs:=#[.slice ia items.length P]) rfl λj p y=>by
  match j,y with
  |0,y=>cases y;exact(A W G).2.2
  |j+1,y=>simp at y
 have O:∀W,Below C.heap.size C W->Calls xt 33 #[.string sRp,.iface 123 (.agg #[.int .i64 (Zl items).1,.int .i64 (Zl items).2])] W λe Z=>e=.returned (erV (Zl items))/\Below W.heap.size W Z:=λW G=>by
  refine(jP N (A W G).1.1 (A W G).1.2 rfl λj p y=>?_).mono ?_
  .match j,y with
   |0,y=>cases y;exact .v _
   |1,y=>cases y;exact .ifc _ _ _ (znT (.v _) (.v _) rfl rfl)
   |j+2,y=>simp at y
  .rintro e Z ⟨u,rfl,hb,hd⟩;rw[zu7 U hd];exact⟨rfl,hb⟩
 have c0:C.cell? ⟨w.heap.size,0,none⟩=some (.slice ka k.length Q):=(zW X 0 _ rfl).1;have c1:C.cell? ⟨w.heap.size+1,0,none⟩=some (.slice ia items.length P):=(zW Y 0 _ rfl).1;have H:=zth items none 0 U;obtain⟨x,I⟩:=xm (Zl items);rw[<-I]at M O;rw[<-I];replace H:x.1=2\/x.1=3:=by rw[I];exact H
 have ac:=qL V;have S:=qL M;have T:=qL O;have ab:=qL J;clear A V M O X Y J hG dk d hr hz L N hi U I;obtain⟨c,p⟩:=x;dsimp only at H S T;rcases H with rfl|rfl;all_goals
  go_enter func12,ntmps12
  go_wp2_with (first
   |(go_at_call 32;rw[<-F];refine(ac.o C (tq _ _)).mono ?_;rintro e w2 ⟨rfl,E⟩;have d0:=bc0 E c0;have d1:=bc0 E c1)
   |(go_at_call 34;refine(S.o _ E).mono ?_;rintro e w3 ⟨rfl,ad⟩;have B:=E.trans (ad.mono E.size))
   |(go_at_call 35;refine(As.Is_FN _ _ _ _).mono ?_;rintro e Z ⟨rfl,ae⟩;replace B:=B.trans (ae.mono B.size))
   |(go_at_call 33;refine(T.o _ B).mono ?_;rintro e w6 ⟨rfl,af⟩))
  refine tx (Tn rfl _ _ _) rfl ?_;exact⟨rfl,ab.o.trans ((B.mono a9).trans (af.mono (by have:=B.size;omega)))⟩
end
section
def zsV(x:Int):Nat:=((x%18446744073709551616)%3).toNat
def zs5(x:Int):zsV x<3:=by unfold zsV;omega
def ztC(S:Nat->Rs)(i:Nat)(s:Rs):Nat->Rs:=λk=>if k=i then s else S k
noncomputable def zsY (S:Nat->Rs) (o:Opn):Nat->Rs:=
 if o.items.length=0 then ztC S (zsV o.who) (ztM (S (zsV o.who)) o.item o.val)
 else if (Zl o.items).1=0 then ztC S (zsV o.who) (ztt (S (zsV o.who)) (S (zsV o.from_)) o.items) else S
def S0:Nat->Rs:=λi=>⟨10*i,[],[],0⟩
def OkS(C:Qk)(R E I:List Nat)(n:Nat)(S:Nat->Rs):Prop:=∀i,i<3->Ok25 C R E I n (S i)
def OpE(E I:List Nat)(o:Opn):Prop:=(∀s∈o.items,s.lo<zk/\s.hi<zk)/\o.val.size<=100/\o.items.length<=10/\o.item∈I/\∀x∈z6 o.items,x∈E
section
variable {C:Qk}{R E I:List Nat}{n:Nat}{S:Nat->Rs}{o:Opn}
def OpE.ed(h:OpE E I o)(u:(Zl o.items).1=0):Nrm o.items/\∀x,Ed o.items x->x∈E:=by have j:Nrm o.items:=(YT λs hs=>(h.1 s hs).2).1 u;refine⟨j,λx w=>?_⟩;exact h.2.2.2.2 x (Y3 (j.ivs2) w)
def OkS.mono{m:Nat}(h:OkS C R E I n S)(j:n<=m):OkS C R E I m S:=λi hi=>(h i hi).mono j
def OkS.upd{m:Nat}{j:Nat}{s:Rs}(h:OkS C R E I n S)(o:n<=m)(hs:Ok25 C R E I m s):OkS C R E I m (ztC S j s):=λi hi=>by
 unfold ztC;split
 .exact hs
 .exact(h i hi).mono o
def OkS.step(h:OkS C R E I n S)(e:Env25 C R E I)(ho:OpE E I o)(w:n<=25):OkS C R E I (n+1) (zsY S o):=by
 have j:=h _ (zs5 o.who);have u:=h _ (zs5 o.from_);unfold zsY;split
 .exact h.upd a9 (j.put e ho.2.2.2.1 ho.2.1 w)
 .split
  .rename_i hc;exact h.upd a9 ((j.pull u e (ho.ed hc).1 (ho.ed hc).2 ho.2.2.1).mono a9)
  .exact h.mono a9
end
def zwf{C:Qk}{R E I:List Nat}(j:∀i,i<3->10*i∈R):OkS C R E I 0 S0:=λi hi=>
 ⟨Ke.nil,List.Pairwise.nil,λx o=>by simp[S0]at o,Zp _,by unfold S0;have:=zw;dsimp only;omega,j i hi⟩
def edO(l:List Opn):List Nat:=0::l.flatMap λo=>o.item::(o.item+1)::z6 o.items
def zt4:∀(l:List Opn),(∀o∈l,o.items.length<=10)->(edO l).length<=1+l.length*22
 |[],_=>by simp[edO]
 |o::l,h=>by have j:=zt4 l λx u=>h x (by simp[u]);have w:=h o b7;have y:=vq o.items;simp only[edO,wn,We,wi]at j⊢;omega
def ztG{l:List Opn}(h:ztR l=true):l.length<=25/\∀o∈l,o.val.size<=100/\o.items.length<=10:=by simp[ztR]at h;exact h
def zu9{l:List Opn}(h:ztR l=true)(hb:∀o∈l,BdO o):Env25 (λ_=>List.range 27) [0,10,20] (edO l) (l.map Opn.item)/\∀o∈l,OpE (edO l) (l.map Opn.item) o:=by obtain⟨y,w⟩:=ztG h;have A:=zt4 l λo ho=>(w o ho).2;have j:∀o∈l,∀x∈o.item::(o.item+1)::z6 o.items,x∈edO l:=λo ho x u=>Wl _ (up.2 ⟨o,ho,u⟩);refine⟨⟨⟨λr=>b7,b7⟩,λr x u=>b6,by simp[edO],a9,dL y,λi hi=>?_⟩,λo ho=>⟨(hb o ho).2.2.2.1,(w o ho).1,(w o ho).2,List.mem_map_of_mem ho,λx u=>j o ho x (by simp[u])⟩⟩;obtain⟨o,ho,rfl⟩:=wy.1 hi;exact⟨(hb o ho).2.1,j o ho _ b7,λ_=>j o ho _ b7⟩
def mrg:Option Rc->Option Rc->Option Rc
 |none,o=>o
 |some y,none=>some y
 |some y,some x=>if zs7 y x=true then some y else some x
def leR(c r:Nat)(y:Rc):Prop:=c<y.ctr\/(c=y.ctr/\r<=y.rep)
def zuE{x y:Rc}:zs7 x y=true↔¬leR x.ctr x.rep y:=by unfold zs7 leR;simp;omega
def ztg{l:List Rc}(h:zr8 l)(p:Rc->Bool)(i:Nat):zrZ (l.filter p) i=(zrZ l i).filter p:=by
 induction l with
 |nil=>rfl
 | cons y l ih=>
   obtain⟨j,o⟩:=V2.1 h;rw[uu,zrf];by_cases e:y.item=i
   .have u:zrZ (l.filter p) i=none:=ztk λz hz=>(by have:=j z (Wq.1 hz).1;omega);rw[vj e];split
    .rename_i hp;rw[zrf,vj e];simp[Option.filter,hp]
    .rename_i hp;rw[u];simp[Option.filter,hp]
   .rw[vD e,<-ih o];split
    .rw[zrf,vD e]
    .rfl
def zvN{l:List Rc}(h:zr8 l)(y:Rc)(i:Nat):zrZ (zse l y) i=if y.item=i then mrg (some y) (zrZ l i) else zrZ l i:=by
 unfold zse;by_cases e:y.item=i
 .rw[vj e,e];cases hg:zrZ l i with
  |none=>dsimp only[mrg];rw[zsb i h,vj e]
  | some x=>
    dsimp only[mrg];split
    .rw[zsb i h,vj e]
    .exact hg
 .rw[vD e];split
  .split
   .rw[zsb i h,vD e]
   .rfl
  .rw[zsb i h,vD e]
def zuZ:∀{m l:List Rc}(_:zr8 m)(_:zr8 l)(i:Nat),zrZ (m.foldl zse l) i=mrg (zrZ m i) (zrZ l i)
 |[],l,_,_,i=>rfl
 | y::m,l,hm,hl,i=>by
   obtain⟨j,o⟩:=V2.1 hm;rw[WH,zuZ o (zsy hl) i,zvN hl,zrf];by_cases e:y.item=i
   .rw[vj e,vj e,ztk λz hz=>by have:=j z hz;omega];rfl
   .rw[vD e,vD e]
structure PyI(S:Nat->Rs):Prop where
 i1:∀a,a<3->∀x∈(S a).recs,hasK (S a).known x.item x.rep x.ctr=true
 i2:∀a,a<3->∀i r c,i<zk->c<zk->hasK (S a).known i r c=true->∃x,zrZ (S a).recs i=some x/\leR c r x
 i3:∀a b,a<3->b<3->∀x∈(S a).recs,∀y∈(S b).recs,x.item=y.item->x.rep=y.rep->x.ctr=y.ctr->x=y
 i4:∀a b,a<3->b<3->∀x∈(S a).recs,x.rep=(S b).id->x.ctr<(S b).next
 nm:∀a,a<3->(S a).id=10*a
def PyI.zero:PyI S0:=⟨λ_ _ x j=>by simp[S0]at j,λa _ i r c _ _ h=>by simp[S0,zcY]at h,λ_ _ _ _ x j=>by simp[S0]at j,λ_ _ _ _ x j=>by simp[S0]at j,λ_ _=>rfl⟩
section
variable {C:Qk}{R E I:List Nat}{n:Nat}{S:Nat->Rs}
def zvR{s f:Rs}{items:List Iv}(j:zr8 f.recs)(i:Nat):zrZ (zs0 f s.known items) i=(zrZ f.recs i).filter λx=>mem items x.item && !hasK s.known x.item x.rep x.ctr:=ztg j _ i
def zvO{f:Rs}{k:List Fg}{items:List Iv}(j:zr8 f.recs):zr8 (zs0 f k items):=List.Pairwise.filter _ j
def zu6{s f:Rs}{items:List Iv}(e:Env25 C R E I)(hs:Ok25 C R E I n s)(u:Ok25 C R E I n f)(hi:Nrm items){i r c:Nat}(j:i<zk)(o:c<zk):hasK (ztt s f items).known i r c=(hasK s.known i r c || (mem items i && hasK f.known i r c)):=by show hasK (vh zn s.known (znF f.known items)) i r c=_;rw[zcZ rfl hs.k.r (zn1 u.k.r hi).right j o,zof u.k.r hi j o];rfl
def zu4{s f:Rs}{items:List Iv}(hs:zr8 s.recs)(j:zr8 f.recs)(i:Nat):zrZ (ztt s f items).recs i=mrg ((zrZ f.recs i).filter λx=>mem items x.item && !hasK s.known x.item x.rep x.ctr) (zrZ s.recs i):=by rw[<-zvR j];exact zuZ (zvO j) hs i
def zsH(a:Nat)(s:Rs):ztC S a s a=s:=vj rfl
def zs6{a b:Nat}(s:Rs)(h:b≠a):ztC S a s b=S b:=vD h
def zty{c r:Nat}{x y:Rc}(h:leR c r x)(j:leR x.ctr x.rep y):leR c r y:=by unfold leR at *;omega
def ztn(e:Env25 C R E I)(u:n<=26){s:Rs}(h:Ok25 C R E I n s){x:Rc}(o:x∈s.recs):x.item<zk/\x.ctr<zk:=by have j:=h.x x o;have:=zw;exact⟨(e.m _ j.1).1,a9⟩
def zu2{x y:Rc}(h:¬zs7 y x=true):leR y.ctr y.rep x:=by rw[zuE]at h;exact Classical.not_not.1 h
def zv1{x y:Rc}(h:zs7 y x=true):leR x.ctr x.rep y:=by rw[zuE]at h;unfold leR at *;omega
def PyI.pull(h:PyI S)(e:Env25 C R E I)(hn:n<=26)(ok:OkS C R E I n S){a b:Nat}(U:a<3)(hb:b<3){items:List Iv}(hi:Nrm items):PyI (ztC S a (ztt (S a) (S b) items)):=by
 have V:=ok a U;have X:=ok b hb;have Z:∀x∈(ztt (S a) (S b) items).recs,(x∈(S b).recs/\mem items x.item=true)\/x∈(S a).recs:=λx u=>by refine((zsa (m:=zs0 (S b) (S a).known items) V.a).2 x u).imp (λh=>?_) id;obtain⟨F,B⟩:=Wq.1 h;simp at B;exact⟨F,B.1⟩
 have hk:∀i r c,i<zk->c<zk->hasK (ztt (S a) (S b) items).known i r c=(hasK (S a).known i r c || (mem items i && hasK (S b).known i r c)):=λi r c F B=>zu6 e V X hi F B;have Y:∀i,zrZ (ztt (S a) (S b) items).recs i=mrg ((zrZ (S b).recs i).filter λx=>mem items x.item && !hasK (S a).known x.item x.rep x.ctr) (zrZ (S a).recs i):=λi=>zu4 V.a X.a i;have L:(ztt (S a) (S b) items).id=(S a).id/\(ztt (S a) (S b) items).next=(S a).next:=⟨rfl,rfl⟩;generalize ztt (S a) (S b) items=T at Z hk Y L;have hu:∀k,k<3->∀x∈(ztC S a T k).recs,∃j,j<3/\x∈(S j).recs:=λk o x u=>by
  by_cases e:k=a
  .rw[e,zsH]at u;rcases Z x u with h|h
   .exact⟨b,hb,h.1⟩
   .exact⟨a,U,h⟩
  .rw[zs6 _ e]at u;exact⟨k,o,u⟩
 have J:∀k,(ztC S a T k).id=(S k).id/\(ztC S a T k).next=(S k).next:=λk=>by
  by_cases e:k=a
  .rw[e,zsH];exact L
  .rw[zs6 _ e];exact⟨rfl,rfl⟩
 -- a record of a stays,or a later one stands in its place
 have N:∀i x,zrZ (S a).recs i=some x->∃y,zrZ T.recs i=some y/\leR x.ctr x.rep y:=λi x u=>by
  rw[Y,u];cases (zrZ (S b).recs i).filter λx=>mem items x.item && !hasK (S a).known x.item x.rep x.ctr with
  |none=>exact⟨x,rfl,.inr ⟨rfl,Zp _⟩⟩
  | some y=>
    dsimp only[mrg];split
    .rename_i hl;exact⟨y,rfl,zv1 hl⟩
    .exact⟨x,rfl,.inr ⟨rfl,Zp _⟩⟩
 refine⟨λk o x u=>?_,λk o i r c F B G=>?_,λk l o H x u y hy=>?_,λk l o H x u hr=>?_,λk o=>?_⟩
 .by_cases K:k=a
  .rw[K,zsH]at u⊢;rcases Z x u with⟨w,A⟩|w
   .obtain⟨l1,l2⟩:=ztn e hn X w;rw[hk _ _ _ l1 l2,h.i1 b hb x w,A];simp
   .obtain⟨l1,l2⟩:=ztn e hn V w;rw[hk _ _ _ l1 l2,h.i1 a U x w];rfl
  .rw[zs6 _ K]at u⊢;exact h.i1 k o x u
 .by_cases K:k=a
  .rw[K,zsH]at G⊢;rw[hk _ _ _ F B]at G;have M:∀r c,c<zk->hasK (S a).known i r c=true->∃x,zrZ T.recs i=some x/\leR c r x:=λr c B O=>by obtain⟨x,w,A⟩:=h.i2 a U i r c F B O;obtain⟨y,P,Q⟩:=N i x w;exact⟨y,P,zty A Q⟩
   by_cases O:hasK (S a).known i r c=true
   .exact M r c B O
   ·rw [W5]at O;rw[O]at G;simp at G;obtain⟨x,w,A⟩:=h.i2 b hb i r c F B G.2;obtain⟨m1,m2⟩:=zsB w;by_cases u:hasK (S a).known i x.rep x.ctr=true
    .obtain⟨y,P,Q⟩:=M _ _ (ztn e hn X m1).2 u;exact⟨y,P,zty A Q⟩
    .rw[W5]at u;rw[Y,w];have hf:(Option.some x).filter (λx=>mem items x.item && !hasK (S a).known x.item x.rep x.ctr)=some x:=(by simp[Option.filter,m2,G.1,u]);rw[hf];cases hga:zrZ (S a).recs i with
     |none=>exact⟨x,rfl,A⟩
     | some y=>
       dsimp only[mrg];split
       .exact⟨x,rfl,A⟩
       .rename_i hl;exact⟨y,rfl,zty A (zu2 hl)⟩
  .rw[zs6 _ K]at G⊢;exact h.i2 k o i r c F B G
 .obtain⟨k',w,A⟩:=hu k o x u;obtain⟨l',P,Q⟩:=hu l H y hy;exact h.i3 k' l' w P x A y Q
 .obtain⟨k',w,A⟩:=hu k o x u;rw[(J l).1]at hr;rw[(J l).2];exact h.i4 k' l w H x A hr
 .rw[(J k).1];exact h.nm k o
def zvS{i r c:Nat}(hi:i<zk)(y:r<zk)(w:c<zk){i' r' c':Nat}:hasK (znP i r c) i' r' c'=true↔i'=i/\r'=r/\c'=c:=by
 rw[km];have e:∀x,mem (zT (zl9 r c) x) c'=true↔x=r/\c'=c:=λx=>by
  rw[zoE y w];by_cases e:r=x
  .rw[vj e];simp[mem];omega
  .rw[vD e];simp[mem];omega
 constructor
 .rintro⟨f,j,o,u⟩;simp only[znP,wD]at j;subst j;have:=(e r').1 u;simp[mem]at o;omega
 .rintro⟨rfl,rfl,rfl⟩;exact⟨_,by simp[znP];rfl,by simp[mem],(e _).2 ⟨rfl,rfl⟩⟩
def PyI.put(h:PyI S)(e:Env25 C R E I)(hn:n<=25)(ok:OkS C R E I n S){a:Nat}(J:a<3){i:Nat}{v:ByteArray}(hi:i∈I):PyI (ztC S a (ztM (S a) i v)):=by
 have hM:=zw;have O:=ok a J;have ac:=(e.m i hi).1;have ae:=O.ctr i;have Z:(S a).next<=zsq (S a) i:=by
  unfold zsq;split
  .split<;>omega
  .omega
 have ab:∀x,zrZ (S a).recs i=some x->x.ctr<zsq (S a) i:=λx u=>by
  unfold zsq;rw[u];dsimp only;split<;>omega
 obtain⟨c,V⟩:=xm (zsq (S a) i);rw[<-V]at ae Z ab;have G:(ztM (S a) i v).recs=zr4 (S a).recs ⟨i,(S a).id,c,v⟩:=by rw[V];rfl
 have hk:∀B P F,B<zk->F<zk->hasK (ztM (S a) i v).known B P F=(hasK (S a).known B P F || hasK (znP i (S a).id c) B P F):=λB P F Q U=>by rw[V];show hasK (vh zn _ _) B P F=_;rw[zcZ rfl O.k.r (ztd e hi O.i.1 O.i.2 (by rw[<-V];omega)).r Q U];rfl
 have K:(ztM (S a) i v).id=(S a).id/\(ztM (S a) i v).next=c+1:=⟨rfl,by rw[V];rfl⟩;generalize ztM (S a) i v=T at G hk K;clear V;have H:=λB P F=>zvS (c:=c) (i':=B) (r':=P) (c':=F) ac O.i.1 a9;have hg:∀k,zrZ T.recs k=if i=k then some ⟨i,(S a).id,c,v⟩ else zrZ (S a).recs k:=λk=>by rw[G,zsb k O.a]
 have X:∀k,k<3->∀x∈(ztC S a T k).recs,x=⟨i,(S a).id,c,v⟩\/x∈(S k).recs:=λk j x u=>by
  by_cases e:k=a
  .rw[e,zsH,G]at u;rw[e];exact zr3 u
  .rw[zs6 _ e]at u;exact .inr u
 have ad:∀k,(ztC S a T k).id=(S k).id:=λk=>by
  by_cases e:k=a
  .rw[e,zsH];exact K.1
  .rw[zs6 _ e]
 have L:∀k,k<3->∀y∈(S k).recs,y.rep=(S a).id->y.ctr<c:=λk j y hy M=>vw (h.i4 k a j J y hy M) Z;refine⟨λk j x u=>?_,λk j B r F Q U A=>?_,λk l j w x u y hy q1 q2 q3=>?_,λk l j w x u M=>?_,λk j=>?_⟩
 .by_cases Y:k=a
  .rw[Y]at u⊢;have o:=X a J x u;rw[zsH];rcases o with rfl|o
   .rw[hk _ _ _ ac (by dsimp only;omega),(H _ _ _).2 ⟨rfl,rfl,rfl⟩];simp
   .obtain⟨l1,l2⟩:=ztn e a9 O o;rw[hk _ _ _ l1 l2,h.i1 a J x o];rfl
  .rw[zs6 _ Y]at u⊢;exact h.i1 k j x u
 .by_cases Y:k=a
  .rw[Y,zsH]at A⊢;rw[hk _ _ _ Q U,WA]at A;rw[hg];by_cases ei:i=B
   .rw[vj ei];refine⟨_,rfl,?_⟩;rcases A with A|A
    .obtain⟨x,q1,q2⟩:=h.i2 a J B r F Q U A;rw[<-ei]at q1;have:=ab x q1;unfold leR at *;dsimp only;omega
    .obtain⟨_,rfl,rfl⟩:=(H _ _ _).1 A;exact .inr ⟨rfl,Zp _⟩
   .rw[vD ei];rcases A with A|A
    .exact h.i2 a J B r F Q U A
    .exact absurd ((H _ _ _).1 A).1.symm ei
  .rw[zs6 _ Y]at A⊢;exact h.i2 k j B r F Q U A
 .rcases X k j x u with rfl|o
  .rcases X l w y hy with rfl|N
   .rfl
   .have:=L l w y N q2.symm;dsimp only at q3;omega
  .rcases X l w y hy with rfl|N
   .have:=L k j x o q2;dsimp only at q3;omega
   .exact h.i3 k l j w x o y N q1 q2 q3
 .rw[ad]at M;by_cases el:l=a
  .rw[el]at M⊢;rw[zsH,K.2];rcases X k j x u with rfl|o
   .exact Uw _
   .have:=L k j x o M;omega
  .rw[zs6 _ el];rcases X k j x u with rfl|o
   .have e1:=h.nm l w;have e2:=h.nm a J;dsimp only at M;omega
   .exact h.i4 k l j w x o M
 .rw[ad];exact h.nm k j
def PyI.step(h:PyI S)(e:Env25 C R E I)(j:n<=25)(ok:OkS C R E I n S){o:Opn}(ho:OpE E I o):PyI (zsY S o):=by
 unfold zsY;split
 .exact h.put e j ok (zs5 _) ho.2.2.2.1
 .split
  .rename_i hc;exact h.pull e a9 ok (zs5 _) (zs5 _) (ho.ed hc).1
  .exact h
end
end
section
attribute [-go_sem] z7
def zs1:∀(l:List Rc),(l.flatMap rcs).length=l.length*4
 |[]=>rfl
 |x::l=>by rw[We,wi,zs1 l];simp[rcs];omega
def zsZ{D:xT}{w:World}{v:Value}{l:List Rc}(h:Dat D w v (lp l)):
 ∃a c,v=.slice a l.length c/\l.length<=c/\c<=maxLen/\(l≠[]->∃g A,a=some ⟨g,A,none⟩/\∀i u,(l.flatMap rcs)[i]?=some u->D g (A+i)/\w.cell? ⟨g,A+i,none⟩=some u):=by
 unfold lp at h;generalize L:l.map rcc=es at h;cases h with
 | sl a cap sz es o b A u hc hz hm ha hsz hd hx=>
   have M:es.length=l.length:=(by rw[<-L];simp);have g:∀i (h:i<l.length),es[i]?=some (rcc l[i]):=λi h=>(by rw[<-L];exact xo h);refine⟨a,cap,by rw[M],a9,hm,λI=>?_⟩;have F:0<l.length:=wU.2 I;obtain rfl:4=sz:=hsz 0 _ (g 0 F);have H:es≠[]:=(by intro e;subst e;simp at M;omega);refine⟨b,A,ha H,λi v B=>?_⟩;have E:=zs1 l;have hi:=(Zw.1 B).1;rw[E]at hi;have J:i/4<l.length:=a9;have e1:i=i/4*4+i%4:=a9;have K:i%4<4:=a9;rw[e1,zsD J K]at B;have C:=hd i a9;rw[e1]at C⊢;refine⟨C.1,?_⟩;rw[C.2.1];have y:∀j p,j=i%4->(rcc l[i/4])[j]?=some (.v p)->u (i/4*4+j)=p:=λj p _ N=>(hx _ _ _ _ (g _ J) N).v_inv;match G:i%4,K with
   |0,_=>rw[G]at B y;rw[y 0 _ rfl rfl];exact B
   |1,_=>rw[G]at B y;rw[y 1 _ rfl rfl];exact B
   |2,_=>rw[G]at B y;rw[y 2 _ rfl rfl];exact B
   |3,_=>rw[G]at B y;rw[y 3 _ rfl rfl];exact B
def ztV{D:xT}{w:World}{v:Value}{l:List Opn}(h:Dat D w v (opp l)):
 ∃a c,v=.slice a l.length c/\l.length<=c/\∀j (A:j<l.length),∃g y ia B,a=some ⟨g,y,none⟩/\D g y/\w.cell? ⟨g,y+j*5,none⟩=some (.int .i64 l[j].who)/\w.cell? ⟨g,y+(j*5+1),none⟩=some (.int .i64 l[j].from_)/\w.cell? ⟨g,y+(j*5+2),none⟩=some (.int .u64 l[j].item) /\
  w.cell? ⟨g,y+(j*5+3),none⟩=some (.string l[j].val)/\w.cell? ⟨g,y+(j*5+4),none⟩=some (.slice ia l[j].items.length B)/\Dat D w (.slice ia l[j].items.length B) (rg l[j].items):=by
 unfold opp at h;generalize F:l.map opc=es at h;cases h with
 |sl a cap sz es o b y u hc hz hm ha hsz hd hx=>have G:es.length=l.length:=(by rw[<-F];simp);have g:∀i (h:i<l.length),es[i]?=some (opc l[i]):=λi h=>(by rw[<-F];exact xo h);refine⟨a,cap,by rw[G],a9,λj A=>?_⟩;obtain rfl:5=sz:=hsz 0 _ (g 0 a9);have E:es≠[]:=(by intro e;subst e;simp at G;omega);have d0:=(hx _ _ 0 _ (g j A) rfl).v_inv;have M:=(hx _ _ 1 _ (g j A) rfl).v_inv;have N:=(hx _ _ 2 _ (g j A) rfl).v_inv;have O:=(hx _ _ 3 _ (g j A) rfl).v_inv;have C:Dat D w (u (j*5+4)) (rg l[j].items):=hx _ _ 4 _ (g j A) rfl;have H:=(hd (j*5+0) a9).2.1;have I:=(hd (j*5+1) a9).2.1;have J:=(hd (j*5+2) a9).2.1;have K:=(hd (j*5+3) a9).2.1;have L:=(hd (j*5+4) a9).2.1;rw[d0]at H;rw[M]at I;rw[N]at J;rw[O]at K;obtain⟨ia,B,e4⟩:=zK C;rw[e4]at L C;exact⟨b,y,ia,B,ha E,by simpa using (hd 0 a9).1,H,I,J,K,L,C⟩
def zup{e:TypeId}{z:Value}{size y:Nat}(G:(xt.info? e).map (λi=>(i.zero,i.size,i.bytes))=some (some z,size,y))(hzs:z.cells.size=size)(N:0<size)(L:y<=40)(w:World)(t T:TypeId)(ht:xt.underlying t=some (.slice e))(base:Nat)(v:Value)(n:Nat)(U:List Value)(A:w.ownsRow base e size v n U)(I:Option Addr)(m c:Nat)(o:List Value)(hl:o.length=m*size)
 (C:(m=0/\I=none)\/∃a,I=some a/\∀j u,o[j]?=some u->w.cell? (a.add j)=some u) (Z:∀u∈o,u.oneCell'=true) (K:n+m<=17179869) (B:base<=w.heap.size) :
 ∃E H,(Builtin.append_ #[t,t] T #[v,.slice I m c]).run xt w=.ok E H/\H.ownsRow base e size E (n+m) (U++o)/\w.grownBy H v.ownBlock/\(E.ownBlock=v.ownBlock\/E.ownBlock=some w.heap.size):=by
 obtain⟨V,F,O,Q,S⟩:=tN G;rcases C with⟨rfl,rfl⟩|⟨a,rfl,hn⟩
 .obtain rfl:o=[]:=wV.1 a9;obtain⟨J,cp,rfl,M⟩:∃J cp,v=.slice J n cp/\n<=cp:=by
   rcases A.2 with⟨rfl,rfl⟩|⟨g,X,Y,rfl,_,_,h,_⟩
   .exact⟨none,0,rfl,Zp _⟩
   .exact⟨_,_,rfl,h⟩
  exact⟨_,w,ve w t T _ V ht F J n cp c M,dL A,jW _ _,.inl rfl⟩
 .obtain⟨E,H,r1,r2,r3,_,r5⟩:=Te (P:=xt) w base t T e V _ size y ht F O Q S hzs N v n U A a m c o hl hn Z dF (VS (UM (VS K (Zp 17179869)) L) a9) B;exact⟨E,H,r1,r2,r3,r5⟩
def zvQ:(xt.info? 80).map (λi=>(i.zero,i.size,i.bytes))=some (some zR,4,40):=dM
def ztc{G:Array Oper}{o:Oper}{a:Act}{w:World}{K:Act->World->Prop}{Q:Exit->Act->World->Prop}{E:Prop}(s x:Operand)(t:TypeId)(L:o.guard=none)
 (ho:o.op=.call { callee:=.builtin .append,args:=#[s,x],argTypes:=#[t,t] }) (ht:xt.underlying t=some (.slice 80)) (base:Nat) (v:Value) (n:Nat) (M:List Value) (hs:a.eval s=v) (F:w.ownsRow base 80 4 v n M)
 (I:Option Addr) (m c:Nat) (y:List Value) (X:a.eval x=.slice I m c) (T:y.length=m*4) (B:(m=0/\I=none)\/∃a,I=some a/\∀j u,y[j]?=some u->w.cell? (a.add j)=some u) (N:∀u∈y,u.oneCell'=true) (J:n+m<=17179869) (A:base<=w.heap.size)
 (h:∀C H,H.ownsRow base 80 4 C (n+m) (M++y)->w.grownBy H v.ownBlock->(C.ownBlock=v.ownBlock\/C.ownBlock=some w.heap.size)->K (a.put o.dst C) H):if Region.wanted o (yielded G a.tmps)=true then Oper.wp xt o a w K Q else E:=by
 have V:Region.wanted o (yielded G a.tmps)=true:=by simp[Region.wanted,L]
 rw[vj V];obtain⟨C,H,U,O,P,S⟩:=zup zvQ rfl b9 (Zp _) w t o.type ht base v n M F I m c y T B N J A;unfold Oper.wp execOp;simp only[ho,resolve,invoke,builtin,tC,tG,tw,uh,Wx,W6,hs,X,U];exact h C H O P S
def zvY{w:World}{base A:Nat}(j:base<=A)(h:w.heap[A]?=some (.cells #[] 80 (0,0))):w.ownsRow base 80 4 (.slice (some ⟨A,0,none⟩) 0 0) 0 []:=⟨rfl,.inr ⟨A,0,#[],rfl,j,h,Zp _,X4 _,rfl,rfl⟩⟩
def bc1{w o:World}{a:Addr}{v:Value}(h:Below w.heap.size w o)(j:w.cell? a=some v):o.cell? a=some v:=(tk (h.block _ (tn w a j))).trans j
def zvj{w:World}{base size n:Nat}{e:TypeId}{v:Value}{u:List Value}(h:w.ownsRow base e size v n u):∃a n c,v=.slice a n c:=by
 rcases h.2 with⟨h,_⟩|⟨g,j,o,h,_⟩
 .exact⟨none,0,0,h⟩
 .exact⟨_,_,_,h⟩
def ztq:∀(l:List Rc)(q:Nat),(l.drop q).flatMap rcs=(l.flatMap rcs).drop (q*4)
 |l,0=>b7
 |[],q+1=>b7
 |x::l,q+1=>by rw[wM,ztq l q,We,show (q+1)*4=(rcs x).length+q*4 by simp[rcs];omega,List.drop_length_add_append]
def ztr:∀(l:List Rc)(q:Nat),(l.take q).flatMap rcs=(l.flatMap rcs).take (q*4)
 |l,0=>b7
 |[],q+1=>b7
 |x::l,q+1=>by rw[wO,We,ztr l q,We,show (q+1)*4=(rcs x).length+q*4 by simp[rcs];omega,List.take_length_add_append]
def ztU{w:World}{o:Nat}{vt:TypeId}{l:List Value}(h:w.heap[o]?=some (.cells l.toArray vt (0,0))):∀j u,l[j]?=some u->w.cell? ((⟨o,0,none⟩:Addr).add j)=some u:=λj u y=>by rw[zh,wk];exact(zW h j u (dL y)).1
def ztl:∀{l:List Rc}{x:Rc}{k:Nat}(hk:k<=l.length),(∀j (h:j<l.length),j<k->l[j].item<x.item)->(∀h:k<l.length,¬l[k].item<x.item)->zr4 l x=l.take k++([x]++if h:k<l.length then (if l[k].item=x.item then l.drop (k+1) else l.drop k) else [])
 |[],x,k,hk,_,_=>by obtain rfl:k=0:=(dL hk);rfl
 | y::l,x,0,_,_,h2=>by
   have:=h2 b7;simp only[uA]at this;rw[zr4,vD this];by_cases e:y.item=x.item<;>simp[e]
 |y::l,x,k+1,hk,h1,h2=>by have o:=h1 0 b7 a9;simp only[uA]at o;rw[zr4,vj o,ztl (l:=l) (x:=x) (k:=k) (dL hk) (λj u w=>h1 (j+1) (dL u) a9) (λh=>h2 (dL h))];simp
def smO(o:Opn):Bool:=decide (o.val.size<=100) && decide (o.items.length<=10)
def zwj{D:xT}{w:World}{l:List Opn}{ia:Option Addr}{ic:Nat}(hd:Dat D w (.slice ia l.length ic) (opp l))(ac:l.length<=9223372036854775807)(O:∀o∈l,o.val.size<=maxLen/\o.items.length<=9223372036854775807):
 Calls xt 6 #[.slice ia l.length ic] w λe w'=>e=.returned (.bool (ztR l))/\Below w.heap.size w w':=by
 obtain⟨a,c,ev,hc,B⟩:=ztV hd;obtain⟨rfl,rfl⟩:ia=a/\ic=c:=dL ev
 obtain⟨n,Q⟩:=xm (l.length);have M:∀W,Below w.heap.size w W->∀j,j<n->∃o∈l,o=l.getD j default/\∃g u S T,ia=some ⟨g,u,none⟩/\W.cell? ⟨g,u+j*5,none⟩=some (.int .i64 o.who)/\W.cell? ⟨g,u+j*5+1,none⟩=some (.int .i64 o.from_)/\W.cell? ⟨g,u+j*5+2,none⟩=some (.int .u64 o.item) /\
  W.cell? ⟨g,u+j*5+3,none⟩=some (.string o.val)/\W.cell? ⟨g,u+j*5+4,none⟩=some (.slice S o.items.length T):=λW L j hj=>by
  have A:j<l.length:=a9;obtain⟨g,u,S,T,h1,_,h2,h3,h4,h5,h6,_⟩:=B j A;refine⟨l[j],Yf A,by rw[Q9,Zv A];rfl,g,u,S,T,h1,bc0 L h2,?_,?_,?_,?_⟩
  .rw[Wy];exact bc0 L h3
  .rw[Wy];exact bc0 L h4
  .rw[Wy];exact bc0 L h5
  .rw[Wy];exact bc0 L h6
 have N:ztR l=(decide (n<=25) && l.all smO):=by rw[Q];rfl
 have V:=qL N;have U:=qL M;have X:=qL O;have HN:=qL Q;rw[<-Q]at hc ac⊢;clear N M O B hd Q ev;go_enter func6,ntmps6
 by_cases ad:25<n
 .have K:(25:Int)<n:=a9
  go_wp2;go_ret;refine⟨?_,tq _ _⟩;rw[V.o,Wn a9];rfl
 .have K:¬(25:Int)<n:=a9
  go_wp2_with fail
  go_loopg [10] n (λg x wr=>∃j,j<=n/\g=n-j/\x=.int .i64 j/\Below w.heap.size w wr/\(l.take j).all smO=true)
  case atStart=>exact⟨0,X4 _,rfl,rfl,tq _ _,rfl⟩
  case round=>
   obtain⟨j,hj,rfl,rfl,H,F⟩:=hrel;have y:=qL H;have C:=qL F;by_cases I:j<n
   .obtain⟨o,ho,P,g,u,S,T,rfl,c0,c1,c2,c3,c4⟩:=U.o wr H j I;have ab:=X.o o ho;have Y:=qL P;have HO:=qL ho;unfold maxLen at ab;clear H F P ho;have G:smO o=false->ztR l=false:=λh=>by
     rw[V.o];have:l.all smO=false:=by rw[List.all_eq_false];exact⟨o,HO.o,by rw[h];decide⟩
     rw[this,Bool.and_false]
    have E:=qL G;clear G;by_cases h1:100<o.val.size
    .have J:(100:Int)<o.val.size:=a9
     go_wp2_with fail
     go_ret;exact⟨by rw[E.o (by unfold smO;rw[Wn a9];rfl)];rfl,y.o.alloc y.o.size _⟩
    .by_cases h2:10<o.items.length
     .have J:¬(100:Int)<o.val.size:=a9;have Z:(10:Int)<o.items.length:=a9
      go_wp2_with fail
      go_ret;exact⟨by rw[E.o (by unfold smO;rw[Wn (p:=o.items.length<=10) a9,Bool.and_false])];rfl,y.o.alloc y.o.size _⟩
     .have J:¬(100:Int)<o.val.size:=a9;have Z:¬(10:Int)<o.items.length:=a9
      go_wp2_with fail
      go_roundg (n-(j+1));case measure=>omega
      case rel=>refine⟨j+1,I,rfl,rfl,y.o.alloc y.o.size _,?_⟩;have A:j<l.length:=(by rw[<-HN.o];exact I);have e:l[j]=o:=(by rw[Y.o,Q9,Zv A];rfl);rw[X3 A,List.all_append,C.o,e];simp[smO];omega
   .obtain rfl:j=n:=a9
    go_wp2_with fail
    go_ret;refine⟨?_,y.o⟩;have h:=C.o;rw[wj (by rw[HN.o];exact Zp _)]at h;rw[V.o,h,ux a9];rfl
end
def zqB(z:Value)(n:Nat):(madeCells #[z,z] (n*2)).toList=List.replicate (n*2) z:=by
 apply Un;intro j;by_cases u:j<n*2
 .have o:j%2=0\/j%2=1:=a9;rcases o with o|o<;>simp[madeCells,u,o]
 .simp[madeCells,u]
def OutG.zeros{C:xT}{mb base g n:Nat}{w:World}(ho:w.ownsRow base 50 2 (.slice (some ⟨g,0,none⟩) n n) n (List.replicate (n*2) (.slice none 0 0))):OutG C mb base w (.slice (some ⟨g,0,none⟩) n n) (List.replicate n ⟨[],[]⟩):=by
 refine⟨List.replicate (n*2) (.slice none 0 0),⟨by rw[U6];exact ho,b7,λu o=>by rw[List.eq_of_mem_replicate o];rfl⟩,λi hi=>?_⟩;have j:i<n:=dL hi
 refine⟨.slice none 0 0,.slice none 0 0,by rw[UW,vj a9],by rw[UW,vj a9],?_,?_⟩
 .rw[U1];exact zog
 .rw[U1];exact zog
def OutG.setW{C:xT}{G base g:Nat}{w:World}{y:Nat}{o:List Fg}{l:List En}{a0:Value}{i n:Nat}(T:o.length=n)(h:OutG C G base w (.slice (some ⟨g,0,none⟩) n y) o)(hi:i<o.length)(M:Dat (DX C G w (.slice (some ⟨g,0,none⟩) n y)) w a0 (vp l))(N:0<y):
 OutG C G base (w.setCell ⟨g,i*2+1,none⟩ a0) (.slice (some ⟨g,0,none⟩) n y) (o.take i++⟨o[i].items,l⟩::o.drop (i+1)):=by
 subst T;obtain⟨X,H,P⟩:=h;have A:(o.take i++(⟨o[i].items,l⟩:Fg)::o.drop (i+1)).length=o.length:=b6
 obtain⟨V,Y⟩:=H.1.stored (i*2+1) a0;have I:(Value.slice (some ⟨g,0,none⟩) o.length y).ownBlock=some g:=by
  cases y with
  |zero=>omega
  |succ c=>rfl
 have B:∀{x:Value}{p:PV},Dat (DX C G w (.slice (some ⟨g,0,none⟩) o.length y)) w x p->Dat (DX C G (w.setCell ⟨g,i*2+1,none⟩ a0) (.slice (some ⟨g,0,none⟩) o.length y)) (w.setCell ⟨g,i*2+1,none⟩ a0) x p:=λh=>
  DX.keep h b7 λk hk K=>tv _ _ _ _ λe=>K (by rw[I];exact ub some e.symm)
 refine⟨X.set (i*2+1) a0,⟨by rw[A];exact V,by rw[A,Ug];exact H.2.1,λu L=>?_⟩,λj O=>?_⟩
 .rcases Uc L with L|rfl
  .exact H.2.2 u L
  .exact zeu M
 .have J:j<o.length:=(by rw[A]at O;exact O);obtain⟨a,b,c,d,e,k⟩:=P j J;have U:=H.2.1;by_cases F:j=i
  .subst F;have E:(o.take j++(⟨o[j].items,l⟩:Fg)::o.drop (j+1))[j]=⟨o[j].items,l⟩:=by rw[Wu (by rw[Wb];exact UE _ _)];simp[WY (uB hi)]
   rw[E];refine⟨a,a0,?_,?_,B e,B M⟩
   .rw[wT a9];exact c
   .rw[WM a9]
  .have E:(o.take i++(⟨o[i].items,l⟩:Fg)::o.drop (i+1))[j]=o[j]:=by
    rcases Nat.lt_or_gt_of_ne F with S|Q
    .rw[uw b6,uI]
    .rw[Wu b6];obtain⟨m,rfl⟩:∃m,j=i+1+m:=⟨j-(i+1),a9⟩;simp only[Wb,WY (uB hi),show i+1+m-i=m+1 by omega,WN,Ur]
   rw[E];refine⟨a,b,?_,?_,B e,B k⟩
   .rw[wT a9];exact c
   .rw[wT a9];exact d
def OutG.put{C:xT}{A base g n:Nat}{w:World}{j:Nat}{o:List Fg}{f:Fg}{B E:Value}{i:Nat}(M:o.length=n)(h:OutG C A base w (.slice (some ⟨g,0,none⟩) n j) o)(hi:i<n)(L:Dat (DX C A w (.slice (some ⟨g,0,none⟩) n j)) w B (rg f.items))(hb:Dat (DX C A w (.slice (some ⟨g,0,none⟩) n j)) w E (vp f.vec))(u:0<j):
 OutG C A base ((w.setCell ⟨g,i*2,none⟩ B).setCell ⟨g,i*2+1,none⟩ E) (.slice (some ⟨g,0,none⟩) n j) (o.take i++f::o.drop (i+1)):=by
 subst M;have G:(Value.slice (some ⟨g,0,none⟩) o.length j).ownBlock=some g:=by
  cases j with
  |zero=>omega
  |succ c=>rfl
 have F:Dat (DX C A (w.setCell ⟨g,i*2,none⟩ B) (.slice (some ⟨g,0,none⟩) o.length j)) (w.setCell ⟨g,i*2,none⟩ B) E (vp f.vec):=
  DX.keep hb b7 λk hk H=>tv _ _ _ _ λe=>H (by rw[G];exact ub some e.symm)
 have K:=h.set hi L u;have y:(o.take i++(⟨f.items,o[i].vec⟩:Fg)::o.drop (i+1)).length=o.length:=b6
 have I:=OutG.setW (i:=i) (l:=f.vec) (a0:=E) y K (by rw[y];exact hi) F u;have ht:(o.take i).length=i:=b6
 have e1:(o.take i++(⟨f.items,o[i].vec⟩:Fg)::o.drop (i+1)).take i=o.take i:=by rw[Wo a9,wj a9]
 have e2:(o.take i++(⟨f.items,o[i].vec⟩:Fg)::o.drop (i+1)).drop (i+1)=o.drop (i+1):=by rw[Uz,ht,wE a9,show i+1-i=1 by omega];rfl
 have J:(o.take i++(⟨f.items,o[i].vec⟩:Fg)::o.drop (i+1))[i]'(by rw[y];exact hi)=⟨f.items,o[i].vec⟩:=by rw[Wu a9];simp[ht]
 rw[e1,e2,J]at I;exact I
def zoL(k:List Fg)(items:List Iv)(j:Nat):List Fg:=(zl5 k items).take j++List.replicate (k.length-j) ⟨[],[]⟩
def zqq{k:List Fg}{items:List Iv}{j:Nat}(o:j<=k.length):(zoL k items j).length=k.length:=by have:(zl5 k items).length=k.length:=wt _;unfold zoL;rw[wi,Wb,U6];omega
def zp6(k:List Fg)(items:List Iv):zoL k items 0=List.replicate k.length ⟨[],[]⟩:=rfl
def zqp(k:List Fg)(items:List Iv):zoL k items k.length=zl5 k items:=by have:(zl5 k items).length=k.length:=wt _;unfold zoL;rw[wj a9,UK];simp
def zp5{k:List Fg}{items:List Iv}{j:Nat}(u:j<k.length):zoL k items (j+1)=(zoL k items j).take j++⟨qy fMeet k[j].items items,k[j].vec⟩::(zoL k items j).drop (j+1):=by
 have w:(zl5 k items).length=k.length:=wt _;have ht:((zl5 k items).take j).length=j:=by rw[Wb];omega
 have o:(zl5 k items)[j]'a9=⟨qy fMeet k[j].items items,k[j].vec⟩:=UA _;unfold zoL;rw[X3 a9,o,wQ,Wo a9,wj (l:=(zl5 k items).take j) a9];congr 1;rw[Uz,wE a9,ht,List.drop_replicate,show k.length-j-(j+1-j)=k.length-(j+1) by omega];rfl
section
attribute [-go_sem] z7 zae zaf Vr
def zqr{C:xT}{w0 w:World}{l:List Iv}{v:Value}(J:Nrm l)(I:l.length<=1152921504606846976)(H:Dat C w0 v (rg l))(B:∀b o,C b o->b<w0.heap.size)(G:GL C w0)(hb:Below w0.heap.size w0 w):
 Calls xt 34 #[v] w λe F=>e=.returned .nilIface/\Below w.heap.size w F:=by
 have E:∀b o x,C b o->w0.cell? ⟨b,o,none⟩=some x->w.cell? ⟨b,o,none⟩=some x:=λb o x h K=>(tk (a:=⟨b,o,none⟩) (hb.block b (B b o h))).trans K;refine(jP (D:=C) (zpJ l J I) (G.mono (λ_ _ h=>h) E) (λb o h=>vw (B b o h) hb.size) rfl (λi p j=>?_)).mono ?_
 .match i,j with
  |0,j=>cases j;exact H.mono (λ_ _ h=>h) E
  |i+1,j=>simp at j
 .rintro e F ⟨u,rfl,y,A⟩;have e:=(Rel.dat (ρ:=λ_=>0) (nb:=0) A).v_inv;rw[e];exact⟨rfl,y⟩
def zoa{B:Qk}{R:List Nat}{n m:Nat}(k:List Fg)(items:List Iv)(hk:Kn B R n k)(hi:Nrm items)(cm:items.length<=400000)(y:Kn B R m (zl5 k items))(ok:OkX B R)(hn:n<=400000)(hm:m<=40000):Cn xt 29 [kp k,rg items] (.tup [kp (znF k items),.v .nilIface]):=by
 refine yZ rfl (enters_of func29 dM rfl) λD w vs hG hD bq U=>?_;have d0:Dat D w (vs.getD 0 undef) (kp k):=U 0 _ rfl;have T:Dat D w (vs.getD 1 undef) (rg items):=U 1 _ rfl;obtain⟨v0,ac⟩:=xm (vs.getD 0 undef);obtain⟨v1,ad⟩:=xm (vs.getD 1 undef);rw[<-ac]at d0;rw[<-ad]at T;obtain rfl:vs=#[v0,v1]:=by
  obtain⟨l⟩:=vs;match l,bq with
  |[p,q],_=>simp at ac ad;rw[ac,ad]
 clear ac ad bq U;obtain⟨aa,ca,fs,rfl,bP,J,bg⟩:=kX d0 hD;obtain⟨ai,ci,rfl⟩:=zK T;have cn:=hk.l;have bL:=J.1;have aY:=J.2.1;unfold maxLen at aY;rw[bP]at bL;have bA:=qL (λW (M:Below w.heap.size w W)=>KH hk.r (hk.z a9) d0 hD hG M);have bB:=qL (λW (M:Below w.heap.size w W)=>zqr hi a9 T hD hG M);have aS:=qL J;have aQ:=qL bg;have aP:=qL T;have aR:=qL hG;have A:=qL hD;have HK:=qL hk;have HP:=qL y;have bH:=qL hi;obtain⟨i0,bh,br,bt,bu⟩:=tN Z9;have HI:=qL (And.intro bh (And.intro br (And.intro bt bu)));clear d0 T J bg hG hD hk hi y bh br bt bu;have ao:True:=trivial;have aq:True:=trivial;have ar:True:=trivial;have bW:xt.follows .mixedOrders=true:=dM
 go_enter_defers func29,ntmps29
 go_wp2_with (first
  | (go_at_call 32;have _t:=ao;refine(bA.o _ ((tq _ _).alloc (Zp _) _)).mono ?_;rintro e w1 ⟨rfl,aA⟩
     have aL:Boxed w1 w.heap.size 44 .nilIface:=(aA.block _ b7).trans (tl w _);have ay:=qL aL;have V:=qL (((tq _ w).alloc (Zp _) _).trans (aA.mono b7));have bQ:=aL.lt;clear aA aL ao)
  |(go_at_call 67;refine(zdp _ _).mono ?_;rintro e Q ⟨⟨u,rfl⟩,rfl⟩)
  | (go_at_call 34;have _t:=aq;refine(bB.o _ V.o).mono ?_;rintro e S ⟨rfl,aB⟩
     have aM:Boxed S w.heap.size 44 .nilIface:=(aB.block _ ay.o.lt).trans ay.o;have aT:=qL aM;have aw:=qL (V.o.trans (aB.mono V.o.size));have bp:=aM.lt;clear aB aM aq)
  |(at_make;have _t:=ar;refine wpList_make_full _ rfl _ _ 41 rfl (w.heap.size+1) 50 i0 _ 2 underlying41 HI.o.1 HI.o.2.1 HI.o.2.2.1 .i64 .i64 _ _ k.length rfl rfl rfl rfl (by rw[HI.o.2.2.2];omega) dF a9 ?_;intro w3 aK aH;rw[show (Value.agg #[.slice none 0 0,.slice none 0 0]).cells=#[.slice none 0 0,.slice none 0 0] from rfl,zqB]at aK;have ax:=qL (OutG.zeros (C:=D) (mb:=w.heap.size) aK);have aN:=qL (aw.o.grown aH aw.o.size λj hj=>by cases hj);have az:=qL (aT.o.kept aH b7);have bR:=az.o.lt;clear aK aH ar;dsimp only[Act.put])
  |go_in)
 have bO:=bp;generalize Q.heap.size=gb at ax bO⊢;go_loopg [20] k.length (λg x wr=>∃j,j<=k.length/\g=k.length-j/\x=.int .i64 j/\Boxed wr w.heap.size 44 .nilIface/\OutG D w.heap.size (w.heap.size+1) wr (.slice (some ⟨gb,0,none⟩) k.length k.length) (zoL k items j)/\Below w.heap.size w wr);case atStart=>exact⟨0,X4 _,rfl,rfl,az.o,by rw[zp6];exact ax.o,aN.o⟩
 case round=>
  obtain⟨j,hj,rfl,rfl,aE,am,aW⟩:=hrel;have aO:=qL aE;have I:=qL am;have G:=qL aW;have bn:=aE.lt;clear aE am aW ax az aN aT ay V aw bR bp bQ;by_cases ab:j<k.length
  .have O:j<fs.length:=a9;obtain⟨bb,bw,rfl,aV,aj⟩:=aS.o.2.2 (by intro e;subst e;simp at O);obtain⟨c0,c1⟩:=aj j O;obtain⟨d0,T⟩:=aQ.o j O;replace c0:=(G.o.cell (p:=⟨bb,bw+j*2,none⟩) aV).trans c0;replace c1:=(G.o.cell (p:=⟨bb,bw+j*2+1,none⟩) aV).trans c1;have aG:=Yf ab;have bN:=HK.o.r _ aG;have cj:k[j].items.length<=400000:=(by have:=yv aG;have:=HK.o.m;omega);have bJ:=qL (zp5 (items:=items) ab);generalize k[j]=f at *;generalize fs[j]=q at *;obtain⟨af,cf,e0⟩:=zK d0;obtain⟨av,cv,e1⟩:=xL T;rw[e0]at c0 d0;rw[e1]at c1 T;have bl:=I.o.owns;have ck:gb<wr.heap.size:=by
    cases hk0:k.length with
    |zero=>omega
    |succ c=>exact(bl gb (by rw[hk0];rfl)).2
   obtain⟨L,P⟩:=xm (wr.alloc (.cells #[.slice af f.items.length cf,.slice av f.vec.length cv] 50));have ag:L.heap[wr.heap.size]?=some (.cells #[.slice af f.items.length cf,.slice av f.vec.length cv] 50 (0,0)):=(by rw[P];exact tl wr _);have aD:Below wr.heap.size wr L:=(by rw[P];exact(tq _ wr).alloc (Zp _) _);have bT:L.heap.size=wr.heap.size+1:=(by rw[P];simp);have bj:∀W,Below L.heap.size L W->Calls xt 68 #[.slice af f.items.length cf,.slice ai items.length ci] W λe Q=>∃E F,e=.returned (.slice E (qy fMeet f.items items).length F)/\Below W.heap.size W Q/\Dat (DX D w.heap.size Q (.slice (some ⟨gb,0,none⟩) k.length k.length)) Q (.slice E (qy fMeet f.items items).length F) (rg (qy fMeet f.items items)):=λW M=>by
    have Z:Below w.heap.size w W:=G.o.trans ((aD.mono a9).trans (M.mono a9));have hw:∀b o x,D b o->w.cell? ⟨b,o,none⟩=some x->W.cell? ⟨b,o,none⟩=some x:=λb o x h hx=>(tk (a:=⟨b,o,none⟩) (Z.block b (A.o b o h))).trans hx;refine(jP (D:=D) (zif f.items items bN.1 bH.o a9) (aR.o.mono (λ_ _ h=>h) hw) (λb o h=>vw (A.o b o h) Z.size) rfl (λi p y=>?_)).mono ?_
    .match i,y with
     |0,y=>cases y;exact d0.mono (λ_ _ h=>h) hw
     |1,y=>cases y;exact aP.o.mono (λ_ _ h=>h) hw
     |i+2,y=>simp at y
    .rintro e Q ⟨v,rfl,hb,U⟩;obtain⟨E,F,rfl⟩:=zK U;have bS:=M.size;refine⟨E,F,rfl,hb,U.mono (λb o h=>⟨h.imp id λh=>⟨a9,h.2⟩,λe=>?_⟩) λ_ _ _ _ h=>h⟩;have ch:b=gb:=by
      cases hk0:k.length with
      |zero=>omega
      |succ c=>rw[hk0]at e;cases e;rfl
     rcases h with h|h
     .have:=A.o b o h;omega
     .omega
   have bG:=qL bj;have bY:=qL ag;have X:=qL aD;have g0:=(zW ag 0 _ rfl).1;have g1:=(zW ag 1 _ rfl).1;have bD:=qL T;clear d0 T aj aG e0 e1 bj ag aD
   go_wp2_with fail
   rw[<-P];have aX:Below L.heap.size L L.drew:=(tq _ _).drew;clear P;refine Kg (Sw:=qe) 9 38 (λw9=>Below L.heap.size L w9/\w9.cell? ⟨wr.heap.size,0,none⟩=some (.slice af f.items.length cf)/\w9.cell? ⟨wr.heap.size,1,none⟩=some (.slice av f.vec.length cv)) dM dM rfl ⟨aX,g0,g1⟩ ?_;simp only[wO,wY];refine Jz ?_;refine V7 (λu w9=>∃E F,u=.slice E (qy fMeet f.items items).length F/\Dat (DX D w.heap.size w9 (.slice (some ⟨gb,0,none⟩) k.length k.length)) w9 u (rg (qy fMeet f.items items))) (λu wa L h hk=>by obtain⟨E,F,e,h⟩:=h;exact⟨E,F,e,DX.keep h hk.size λk N _=>hk.block k N id⟩) rfl ?_ ?_
   .intro a2 S hc hk hr K hK;have HK:=qL hK;clear hK;simp[Rds,zA,lk,Op.operands,Call.operands,RdEq]at hr;go_simp;refine(bG.o _ hc.1).mono ?_;rintro e w3 ⟨E,F,rfl,hb,U⟩;have aJ:Keep qe _ w3:=Keep.of_below' hb (Zp _);exact HK.o _ _ aJ ⟨hc.1.trans (hb.mono hc.1.size),aJ.cell_some hc.2.1 id,aJ.cell_some hc.2.2 id⟩ ⟨E,F,rfl,U⟩
   simp only[Y1,yb];refine Jz ?_;refine V7 (λu w9=>∃E F,u=.agg #[.slice E (qy fMeet f.items items).length F,.slice av f.vec.length cv]/\Dat (DX D w.heap.size w9 (.slice (some ⟨gb,0,none⟩) k.length k.length)) w9 (.slice E (qy fMeet f.items items).length F) (rg (qy fMeet f.items items))) (λu wa L h hk=>by obtain⟨E,F,e,h⟩:=h;exact⟨E,F,e,DX.keep h hk.size λk N _=>hk.block k N id⟩) rfl ?_ ?_
   .intro a2 S hc hk hr K hK;have HK:=qL hK;clear hK;simp[Rds,zA,lk,Op.operands,Call.operands,RdEq]at hr;obtain⟨⟨_,⟨e1,e2⟩,⟨E,F,rfl⟩,ho⟩,e3,e4⟩:=hr;go_simp;exact HK.o _ _ (Keep.refl _ _) hc ⟨E,F,rfl,ho⟩
   simp only[Y1,yb];intro S aF N;simp only[finG,WQ,Y1,yb,wM,Wh,WR];simp only[Act.put,ww,wR,wS];rintro _ ⟨_,_,rfl,_⟩ _ ⟨E,F,rfl,hu⟩;have HU:=qL hu;have Y:=qL aF.1;have bX:=aF.1.size;have H:=I.o.keep (w':=S) a9 λb hb=>(Y.o.block b a9).trans (X.o.block b hb);have ak:=zqq (items:=items) hj;have bF:=qL ak;have bI:=qL H;obtain⟨xs,ah,be⟩:=id H;obtain⟨xa,xb,ea,eb,-,-⟩:=be j a9;obtain⟨g,aU,cc,ev,-,-,aI,-,-,-,-⟩:=ah.cases.resolve_left (λh=>a9);obtain⟨rfl,-,rfl⟩:gb=g/\k.length=(zoL k items j).length/\k.length=aU:=(dL ev);have bZ:S.cell? ⟨gb,j*2,none⟩=some xa:=by have:=tH ah.1 (g:=gb) rfl (j*2) xa ea;rw[zh,wk]at this;exact this
   have cb:S.cell? ⟨gb,j*2+1,none⟩=some xb:=(by have:=tH ah.1 (g:=gb) rfl (j*2+1) xb eb;rw[zh,wk]at this;exact this);have ce:S.frozen? ⟨gb,j*2,none⟩=false:=(by simp[World.frozen?,aI]);have cg:S.frozen? ⟨gb,j*2+1,none⟩=false:=(by simp[World.frozen?,aI]);clear hu aF N aX H ah be ea eb ev aI g0 g1 c0 c1 ak
   go_wp2_with fail
   have bM:Dat (DX D w.heap.size S (.slice (some ⟨gb,0,none⟩) k.length k.length)) S (.slice av f.vec.length cv) (vp f.vec):=bD.o.mono (λb o h=>⟨.inl h,λe=>by have:=(bl b e).1;have:=A.o b o h;omega⟩) λb o x h hx=>(tk (a:=⟨b,o,none⟩) ((Y.o.block b (by have:=A.o b o h;omega)).trans ((X.o.block b (by have:=A.o b o h;omega)).trans (G.o.block b (A.o b o h))))).trans hx;have an:=OutG.put (f:=⟨qy fMeet f.items items,f.vec⟩) bF.o bI.o ab HU.o bM a9;rw[<-bJ.o]at an;go_roundg (k.length-(j+1));case measure=>omega
   case rel=>
    refine⟨j+1,ab,rfl,b7,?_,an,?_⟩
    .exact(tv _ _ _ _ (by show w.heap.size≠gb;omega)).trans ((tv _ _ _ _ (by show w.heap.size≠gb;omega)).trans ((Y.o.block _ a9).trans ((X.o.block _ bn).trans aO.o)))
    .exact tW (tW (G.o.trans ((X.o.mono a9).trans (Y.o.mono a9))) (by show w.heap.size<=gb;omega) _) (by show w.heap.size<=gb;omega) _
  .obtain rfl:j=k.length:=a9;have aZ:∀W,Below wr.heap.size wr W->Calls xt 69 #[.slice (some ⟨gb,0,none⟩) k.length k.length] W λe Q=>∃u,e=.returned u/\Below W.heap.size W Q/\Dat (DL D w.heap.size Q) Q u (kp (znF k items)):=λW M=>by
    have bc:=I.o.dat (Uw _);rw[zqp]at bc;have Z:Below w.heap.size w W:=G.o.trans (M.mono a9);have bi:∀b o,DL D w.heap.size wr b o->b<wr.heap.size:=λb o h=>h.elim (λh=>by have:=A.o b o h;omega) W9;refine(jP (D:=DL D w.heap.size wr) (zds (zl5 k items) HP.o ok hm) (aR.o.mono (λ_ _ h=>.inl h) λb o x h hx=>(tk (a:=⟨b,o,none⟩) (Z.block b (A.o b o h))).trans hx) (λb o h=>vw (bi b o h) M.size) rfl (λi p y=>?_)).mono ?_
    .match i,y with
     |0,y=>cases y;exact bc.mono (λ_ _ h=>h) λb o x h hx=>(tk (a:=⟨b,o,none⟩) (M.block b (bi b o h))).trans hx
     |i+1,y=>simp at y
    .rintro e Q ⟨u,rfl,hb,U⟩;have bS:=M.size;have bT:=hb.size;refine⟨u,rfl,hb,U.mono (λb o h=>?_) λ_ _ _ _ h=>h⟩;rcases h with(h|h)|h
     .exact .inl h
     .exact .inr ⟨h.1,a9⟩
     .exact .inr ⟨a9,h.2⟩
   have bC:=qL aZ;clear aZ aQ I aP HP
   go_wp2_with (first
    | (go_at_call 69;refine(bC.o _ (tq _ _)).mono ?_;rintro e w5 ⟨u5,rfl,aC,ba⟩
       have ae:Boxed w5 w.heap.size 44 .nilIface:=(aC.block _ bn).trans aO.o;have c5:=ae.cell;have f5:=ae.frozen;have bK:=qL ae;have bz:=qL (G.o.trans (aC.mono a9));have bE:=qL ba;clear aC ae ba)
    |go_in)
   refine leaves_cons (f := 66) (args:=#[.pointer (some ⟨w.heap.size,0,none⟩)]) b7 (by simp[go_sem]) ?_;refine(JI ⟨w.heap.size,0,none⟩ _).mono ?_;rintro e u' co ⟨rfl,rfl,rfl⟩;have bU:=(bK.o.set .nilIface).cell;simp[Leaves,settle,results,Tryz.results29,go_sem,bU];refine⟨bz.o.setCell (Zp _) _,.tup _ _ rfl λj p y=>?_⟩;match j,y with
   |0,y=>
     cases y;exact bE.o.mono (λb o h=>h.imp id λh=>⟨uB h.1,dL h.2⟩) λb o x h hx=>(tk (a:=⟨b,o,none⟩) (tv _ _ _ _ (by
      show b≠w.heap.size;rcases h with h|h
      .have:=A.o b o h;omega
      .omega))).trans hx
   |1,y=>cases y;exact .v _
   |j+2,y=>simp at y
end
section
attribute [-go_sem] z7
def zuV{P:Program}{f:FuncId}{t:Tmp}{p:Value}{xs:List Operand}{c:Call}{o:Oper}{a:Act}{w:World}{K:Act->World->Prop}{Q:Exit->Act->World->Prop}(ho:o.op=.call c)(A:c.callee=.value (.tmp t))(E:a.eval (.tmp t)=.func (.func f) #[p] #[])(y:c.args.toList=xs)
 (B:∀j w,(callFunc f j).run P w=.ok (.enter f j) w)
 (h:Calls P f (p::xs.map a.eval).toArray w λe u=>match e with|.returned v=>K (a.put o.dst v) u|.panicked chain=>Q (.panic chain) a u|.outgrown=>LetsOut Q):o.wp P a w K Q:=by
 have C:(execOp a.eval o).run P w=.ok (.enter f (p::xs.map a.eval).toArray) w:=by have e:c.args.map a.eval=(xs.map a.eval).toArray:=WD.1 (by rw[WS,y]);simp only[execOp,ho,resolve,A,e,E,Deferred.ofValue,tC,tG,tw,invoke];rw[show (#[p]++(xs.map a.eval).toArray++#[]:Array Value)=(p::xs.map a.eval).toArray from by simp];exact B _ _
 unfold Oper.wp;rw[C,t9];exact h.mono (λe F h=>by cases e<;>exact h)
def zuw{D:xT}{w:World}{u v:Value}{p q:PV}(y:Dat D w u p)(A:Dat D w v q):∀(i:Nat) r,[p,q][i]?=some r->Dat D w (#[u,v].getD i undef) r:=λj r o=>by
 match j,o with
 |0,o=>cases o;exact y
 |1,o=>cases o;exact A
 |j+2,o=>simp at o
def zvZ{C:Qk}{R E I:List Nat}{D:xT}{w:World}{x y:Value}{k:List Fg}{items:List Iv}(e:Env25 C R E I)(hk:Ke C R E k)(hi:Nrm items)(B:∀x,Ed items x->x∈E)(G:items.length<=10)(u:Gd D w)(d:Dat D w x (kp k))(A:Dat D w y (rg items)):
 Calls xt 29 #[x,y] w λe o=>∃a j,e=.returned (.tuple #[.slice a (znF k items).length j,.nilIface])/\Below w.heap.size w o/\Dat (Nw D w o) o (.slice a (znF k items).length j) (kp (znF k items)):=by
 refine(jP (zoa k items hk.kn hi a9 (zsR hk e hi B G).2 e.ok (by have:=e.e;omega) a9) u.1 u.2 rfl (zuw d A)).mono ?_;rintro e o ⟨v,rfl,hb,F⟩;obtain⟨a,j,rfl,h⟩:=zti F;exact⟨a,j,rfl,hb,h⟩
def zvw{C:Qk}{R E I:List Nat}{D:xT}{w:World}{x y:Value}{a b:List Fg}(e:Env25 C R E I)(B:Ke C R E a)(hb:Ke C R E b)(u:Gd D w)(d:Dat D w x (kp a))(A:Dat D w y (kp b)):
 Calls xt 30 #[x,y] w λe o=>∃p j,e=.returned (.tuple #[.slice p (vh zn a b).length j,.nilIface])/\Below w.heap.size w o/\Dat (Nw D w o) o (.slice p (vh zn a b).length j) (kp (vh zn a b)):=by
 refine(jP (knowUnion_c a b B.kn hb.kn e.ok (by have:=e.e;omega)) u.1 u.2 rfl (zuw d A)).mono ?_;rintro e o ⟨v,rfl,hb,F⟩;obtain⟨a,j,rfl,h⟩:=zti F;exact⟨a,j,rfl,hb,h⟩
def zuO{C:Qk}{R E I:List Nat}{D:xT}{n t b m c:Nat}{w:World}{s:Rs}{items:List Iv}{ia:Option Addr}{H:Nat}(e:Env25 C R E I)(h:Ok25 C R E I n s)(K:Rpl D t w b m s)(B:Gd D w)(hi:∀s∈items,s.lo<zk/\s.hi<zk)(F:(Zl items).1≠0)(u:items.length<=1000000)(d:Dat D w (.slice ia items.length H) (rg items)):
 Calls xt 11 #[.pointer (some ⟨b,0,none⟩),.pointer (some ⟨c,0,none⟩),.slice ia items.length H] w λe M=>e=.returned (.tuple #[.int .i64 0,erV (Zl items)])/\Below w.heap.size w M:=by
 obtain⟨ka,L,y,J,A⟩:=K;have N:w.cell? ⟨b,2,none⟩=some (.slice ka s.known.length L):=(zW y 2 _ rfl).1;have j:=qL (ztI (b:=c) B h.k.r (h.k.zz e) A hi F u d);obtain⟨x,G⟩:=xm (Zl items);rw[<-G]at j⊢;obtain⟨P,Q⟩:=x;unfold erV at j⊢;clear y J A h B hi F d G;go_enter func11,ntmps11
 go_wp2_with (go_at_call 12;refine j.o.mono ?_;rintro e O ⟨rfl,o⟩)
 refine tx (Tn rfl _ _ _) rfl ?_;exact⟨rfl,o⟩
def zuP{C:Qk}{R E I:List Nat}{n t t' b m c m':Nat}{D:xT}{w:World}{s f:Rs}{items:List Iv}{ia:Option Addr}{ic:Nat}(e:Env25 C R E I)(h:Ok25 C R E I n s)(hf:Ok25 C R E I n f)(hn:n<=26)(hR:Rpl D t w b m s)(hF:Rpl D t' w c m' f)(hG:Gd D w)(be:∀o,¬D b o)(an:∀o,¬D m o)(ag:b≠m)(ht:t<900000)(hi:Nrm items)(hE:∀x,Ed items x->x∈E)(aE:items.length<=10)(d:Dat D w (.slice ia items.length ic) (rg items)):
 Calls xt 11 #[.pointer (some ⟨b,0,none⟩),.pointer (some ⟨c,0,none⟩),.slice ia items.length ic] w λe Z=>e=.returned (.tuple #[.int .i64 (zs0 f s.known items).length,.nilIface])/\Keep (λk=>k=b\/k=m) w Z/\Rpl (Nw D w Z) (t+25) Z b m (ztt s f items):=by
 have hM:=zw;obtain⟨ka,kc,h1,h2,h3⟩:=hR;obtain⟨fa,fc,f1,f2,f3⟩:=id hF;have bg:=(XE.1 h1).1;have bi:=(XE.1 f1).1;have bp:=h2.lt;have O:=qL (zul e hf hn hF hG h.k.r (h.k.zz e) h3 hi a9 d);have F:∀{W:World}{x:Value}{p:PV},Below w.heap.size w W->Dat D w x p->Dat D W x p:=λH L=>L.mono (λ_ _ h=>h) λb o x L N=>(tk (a:=⟨b,o,none⟩) (H.block b (hG.2 b o L))).trans N;have aj:∀{W:World},Below w.heap.size w W->Gd D W:=λH=>hG.keep (Keep.of_below' (S:=qe) H (Zp _)) λ_ _ _=>id;have V:=λW (H:Below w.heap.size w W)=>zvZ (w:=W) e hf.k hi hE aE (aj H) (F H f3) (F H d);have aG:Ke C R E (znF f.known items):=(zsR hf.k e hi hE aE).1;have M:∀W W':World,Below w.heap.size w W->Below W.heap.size W W'->∀v,Dat (Nw D W W') W' v (kp (znF f.known items))->Calls xt 30 #[.slice ka s.known.length kc,v] W' λe Z=>∃p c',e=.returned (.tuple #[.slice p (vh zn s.known (znF f.known items)).length c',.nilIface])/\Below W'.heap.size W' Z/\Dat (Nw D w Z) Z (.slice p (vh zn s.known (znF f.known items)).length c') (kp (vh zn s.known (znF f.known items))):=λW W' H ad v hv=>by
  have az:=H.trans (ad.mono H.size);refine(zvw e h.k aG (Gd.new (w:=W) (w0:=W) (aj az) ad.size) ((F az h3).mono (λ_ _ h=>.inl h) λ_ _ _ _ h=>h) hv).mono ?_;rintro e Z ⟨p,c',rfl,hb,L⟩;have bq:=H.size;have bF:=ad.size;have bG:=hb.size;exact⟨p,c',rfl,hb,L.mono (λb o h=>by
   rcases h with(h|h)|h
   .exact .inl h
   .exact .inr ⟨a9,a9⟩
   .exact .inr ⟨a9,h.2⟩) λ_ _ _ _ h=>h⟩
 have aN:(zs0 f s.known items).length<=25:=VS (WC _ _) (hf.len e);have ar:∀x∈zs0 f s.known items,x.item<zk:=λx N=>(e.m _ (hf.x x (Wq.1 N).1).1).1;obtain⟨B,aq⟩:=xm (zs0 f s.known items);obtain⟨kr,y⟩:=xm (vh zn s.known (znF f.known items));have aM:ztt s f items=⟨s.id,B.foldl zse s.recs,kr,s.next⟩:=by rw[aq,y];rfl
 rw[<-aq]at O aN ar⊢;rw[<-y]at M;have aY:=qL aM;obtain⟨bI,Y⟩:∃q,q=znF f.known items:=⟨_,rfl⟩;rw[<-Y]at V M;obtain⟨l,hl⟩:=xm (B.length);obtain⟨kl,U⟩:=xm (s.known.length);obtain⟨fl,ai⟩:=xm (f.known.length);rw[<-hl]at O aN⊢;rw[<-U]at O M;rw[<-ai]at V;have b2:w.cell? ⟨b,2,none⟩=some (.slice ka kl kc):=by rw[U];exact(zW h1 2 _ rfl).1
 have b1:w.cell? ⟨b,1,none⟩=some (.map (some m)):=(zW h1 1 _ rfl).1;have q2:w.cell? ⟨c,2,none⟩=some (.slice fa fl fc):=by rw[ai];exact(zW f1 2 _ rfl).1
 have aZ:=qL V;have bc:=qL M;have ba:=qL ar;have H1:=qL h1;have aX:=qL h2;have HG:=qL hG;have HA:=qL h.a;have HL:=qL hl;have bA:=qL U;have bE:∀(fn:Fn)(first P:Array Value)(w:World),(Instr.makeFunc fn first P).run xt w=.ok (.func fn first P) w:=λ_ _ _ _=>rfl;clear h1 h2 h3 f1 f2 f3 F aj V M ar aM aq y Y hl U ai h hf hF hG d hi hE aG;go_enter func11,ntmps11
 go_wp2_with (first
  | (go_at_call 12;refine O.o.mono ?_;rintro e w1 ⟨a1,c1,rfl,A,aL⟩
     have bJ:=(tk (a:=⟨c,2,none⟩) (A.block c bi)).trans q2;have ax:=qL aL;clear aL)
  | (go_at_call 29;refine(aZ.o _ A).mono ?_;rintro e w2 ⟨a2,k2,rfl,K,aB⟩
     have Q:=A.trans (K.mono A.size);have bB:=(tk (a:=⟨b,2,none⟩) (Q.block b bg)).trans b2;have aQ:=qL aB;clear aB)
  | (go_at_call 30;refine(bc.o _ _ A K _ aQ.o).mono ?_;rintro e w3 ⟨a3,k3,rfl,ae,aC⟩
     have aR:=qL aC;clear aC))
 have ay:=Q.trans (ae.mono Q.size);have J:Below w1.heap.size w1 w3:=K.trans (ae.mono K.size);have ab:=qL ay;have av:=qL J;have bq:=A.size;have bz:=J.size;have aD:∀j,j<B.length->(B.take (j+1)).foldl zse s.recs=zse ((B.take j).foldl zse s.recs) (B.getD j zRc):=λj hj=>by rw[X3 hj,WL,WH,List.foldl_nil,Q9,Zv hj];rfl
 have aS:=qL aD;clear ay J aD A K ae Q;go_loopg [63] l (λg x wr=>∃j,j<=l/\g=l-j/\x=.int .i64 j/\Keep (λk=>k=m) w3 wr/\MR (t+j) m wr ((B.take j).foldl zse s.recs));case atStart=>exact⟨0,X4 _,rfl,rfl,Keep.refl _ _,aX.o.keep (ab.o.block m bp)⟩
 case round=>
  obtain⟨j,hj,rfl,rfl,y,ao⟩:=hrel;have aw:=qL y;have ac:=qL ao;have bH:=y.size;by_cases aH:j<l
  .have G:j<B.length:=(by rw[<-HL.o];exact aH);obtain⟨x,N⟩:=xm (B.getD j zRc);have au:x=B[j]:=(by rw[N,Q9,Zv G];rfl);have bt:x.item<zk:=(by rw[au];exact ba.o _ (Yf G));have ah:=aS.o j G;rw[<-N]at ah;have aA:zr8 ((B.take j).foldl zse s.recs):=(zsa HA.o).1;obtain⟨g,rfl,hg,bD,cg⟩:∃g,a1=some ⟨g,0,none⟩/\g<w3.heap.size/\g≠m/\∀i u,(rcs x)[i]?=some u->wr.cell? ⟨g,j*4+i,none⟩=some u:=by
    rcases ax.o.2 with⟨_,h0⟩|⟨g,P,bC,h,hg,hc,bu,_,_,_⟩
    .omega
    .obtain⟨rfl,_,rfl⟩:a1=some ⟨g,0,none⟩/\l=B.length/\c1=P:=(dL h);have bj:=(XE.1 hc).1;refine⟨g,rfl,a9,a9,λi u hu=>?_⟩;have bl:i<4:=(by have:=(Zw.1 hu).1;simpa[rcs]using this);have:=tH ax.o (g:=g) (by cases c1 with|zero=>omega|succ c=>rfl) (j*4+i) u (by rw[zsD G bl,<-au];exact hu);rw[zh,wk]at this;exact y.cell_some ((tk (a:=⟨g,j*4+i,none⟩) (av.o.block g bj)).trans this) (by show ¬g=m;omega)
   have g0:wr.cell? ⟨g,j*4,none⟩=some (.int .u64 x.item):=cg 0 _ rfl;have g1:wr.cell? ⟨g,j*4+1,none⟩=some (.int .u64 x.rep):=cg 1 _ rfl;have g2:wr.cell? ⟨g,j*4+2,none⟩=some (.int .u64 x.ctr):=cg 2 _ rfl;have g3:wr.cell? ⟨g,j*4+3,none⟩=some (.string x.val):=cg 3 _ rfl;have aT:=qL ah;have aO:=qL aA;clear ah N au y ao cg aA;obtain⟨wz,br⟩:∃wz,wz=wr:=⟨wr,rfl⟩;subst br
   go_wp2_with fail
   obtain⟨wa,X⟩:=xm (wz.alloc (.cells #[.int .u64 x.item,.int .u64 x.rep,.int .u64 x.ctr,.string x.val] 66));rw[<-X];have ak:Keep (λk=>k=m) w3 wa:=(by rw[X];exact aw.o.alloc _);have af:Keep (λk=>k=m) w wa:=(Keep.of_below' ab.o (Zp _)).trans ak;have aJ:MR (t+j) m wa ((B.take j).foldl zse s.recs):=(by rw[X];exact ac.o.keep (tr _ _ _ ac.o.lt));clear X;refine zuV (t:=67) (xs:=[.tmp 68]) rfl rfl rfl rfl (enters_of func31 dM rfl) ?_;refine(zv2 (D:=D) (b:=b) (HG.o.keep af λb o h e=>an o (e▸h)) (af.cell_some b1 ag) aJ aO.o a9 bt an).mono ?_;rintro e w5 ⟨⟨u,rfl⟩,aI,aF⟩;dsimp only;have aW:=qL aI;have aU:=qL (ak.trans aF);clear aI aF ak af aJ
   go_wp2_with fail
   go_roundg (l-(j+1));case measure=>omega
   case rel=>exact⟨j+1,aH,rfl,b7,aU.o,by rw[aT.o];exact aW.o⟩
  .obtain rfl:j=l:=a9;have am:Keep (λk=>k=m) w wr:=(Keep.of_below' ab.o (Zp _)).trans y;have T:wr.heap[b]?=some (.cells #[.int .u64 s.id,.map (some m),.slice ka s.known.length kc,.int .u64 s.next,.bool false] 91 (0,0)):=am.obj H1.o ag;have z2:wr.cell? ⟨b,2,none⟩=some (.slice ka s.known.length kc):=(zW T 2 _ rfl).1;have y2:wr.frozen? ⟨b,2,none⟩=false:=(zW T 2 _ rfl).2;have aP:=qL T;have aV:=qL am;clear T y ao am
   go_wp2_with fail
   refine tx (Tn rfl _ _ _) rfl ?_;have bh:=aP.o;have bn:Keep (λk=>k=b\/k=m) w (wr.setCell ⟨b,2,none⟩ (.slice a3 kr.length k3)):=(aV.o.mono λk _ h=>.inr h).setCell (p:=⟨b,2,none⟩) (λ_=>.inl rfl) _;refine⟨rfl,bn,?_⟩;rw[aY.o];have hm:=ac.o;rw[wj (by rw[HL.o];exact Zp _)]at hm;refine⟨a3,k3,zsw bh 2 _,(hm.keep (tv _ _ _ _ (Uk ag))).mono a9,aR.o.mono (λb o h=>h.imp id λh=>⟨h.1,b6⟩) λb' o x L N=>?_⟩;have bw:=tn w3 ⟨b',o,none⟩ N;have aK:b'≠b/\b'≠m:=by
    rcases L with L|L
    .exact⟨λe=>be o (e▸L),λe=>an o (e▸L)⟩
    .exact⟨a9,a9⟩
   exact(tk (a:=⟨b',o,none⟩) (tv _ _ _ _ aK.1)).trans (aw.o.cell_some N aK.2)
def sq2:Code->Code
 |.seq _ b=>b
 |c=>c
noncomputable def zuU:Code:=sq2 (sq2 (sq2 (sq2 (sq2 (xN Tryz.f55)))))
def zwS{o:World}{b L k n V M c2:Nat}{ra C:Option Addr}{v0 v2 v3 v4:Value}{t2:TypeId}{x:Rc}{xs1 xs2:List Value}{post:Ending->World->Prop}(E:o.heap[b]?=some (.cells #[v0,.slice ra n V,v2,v3,v4] t2 (0,0)))(A:o.heap[L]?=some (.cells #[.int .u64 x.item,.int .u64 x.rep,.int .u64 x.ctr,.string x.val] 80 (0,0)))(hk:k<=n)(hn:n<=V)(hl:n<=1000000)(hm:M<=1000000)
 (ad:xs1.length=k*4) (ae:xs2.length=M*4) (U:∀u∈xs1,u.oneCell'=true) (K:∀u∈xs2,u.oneCell'=true)
 (S:∀W:World,Below o.heap.size o W->(k=0/\ra=none)\/∃N,ra=some N/\∀j u,xs1[j]?=some u->W.cell? (N.add j)=some u)
 (T:∀W:World,Below o.heap.size o W->(M=0/\C=none)\/∃N,C=some N/\∀j u,xs2[j]?=some u->W.cell? (N.add j)=some u)
 (O:∀tm v W,W.ownsRow o.heap.size 80 4 v (0+k+1+M) ([]++xs1++rcs x++xs2)->Below o.heap.size o W->bodyPost xt Tryz.f55 post .normal ⟨tm,[]⟩ (W.setCell ⟨b,1,none⟩ v)) (u1 u2 u6 u7 u8 u9 u10 u11 ag ah ai aj ak am an ao aq ar au av aw ax ay az aA aB aC aD aE aF aG aH aI aJ aK aL aM aN aO aP aQ aR aS aT aU aV aW aX aY aZ ba bc be bg bh bi bj bl bn bp:Value) :
 Code.wp xt zuU (bodyPost xt Tryz.f55 post) ⟨#[.pointer (some ⟨b,0,none⟩),u1,u2,.pointer (some ⟨L,0,none⟩),.int .i64 k,.slice C M c2,u6,u7,u8,u9,u10,u11,ag,ah,ai,aj,ak,am,an,ao,aq,ar,au,av,aw,ax,ay,az,aA,aB,aC,aD,aE,aF,aG,aH,aI,aJ,aK,aL,aM,aN,aO,aP,aQ,aR,aS,aT,aU,aV,aW,aX,aY,aZ,ba,bc,be,bg,bh,bi,bj,bl,bn,bp],[]⟩ o:=by
 have af:xt.follows .mixedOrders=true:=dM
 have z1:o.cell? ⟨b,1,none⟩=some (.slice ra n V):=(zW E 1 _ rfl).1;have e0:o.cell? ⟨L,0,none⟩=some (.int .u64 x.item):=(zW A 0 _ rfl).1;have e1:o.cell? ⟨L,1,none⟩=some (.int .u64 x.rep):=(zW A 1 _ rfl).1;have e2:o.cell? ⟨L,2,none⟩=some (.int .u64 x.ctr):=(zW A 2 _ rfl).1;have e3:o.cell? ⟨L,3,none⟩=some (.string x.val):=(zW A 3 _ rfl).1;have bw:b<o.heap.size:=(XE.1 E).1;have bz:L<o.heap.size:=(XE.1 A).1;have bC:k<=V:=a9
 have Z:=qL E;have ab:=qL S;have ac:=qL T;have HQ:=qL O;have J:∀u∈rcs x,u.oneCell'=true:=λu hu=>zs3 (l:=[x]) u (dL hu);clear E A S T O;obtain⟨Q,O⟩:=xm (bodyPost xt Tryz.f55 post);rw[<-O];simp only[zuU,sq2,xN,Tryz.f55];subst O;go_region_law_o (first
  | (refine ztc (.tmp 49) (.tmp 55) 72 rfl rfl underlying72 o.heap.size (.slice (some ⟨_,0,none⟩) 0 0) 0 [] rfl (zvY a9 (by first|exact tl _ _|exact tl o _|exact yw _ _ _|exact yx _ _ _|exact yw o _ _|exact yx o _ _)) _ k _ xs1 rfl ad (ab.o _ (by first|exact YR _ _|exact XM _ _ _)) U a9 dG ?_
     intro bG X y w bt;have b1:Below o.heap.size o X:=by first|exact(YR o _).grown w dG (λj F=>by simp[Value.ownBlock]at F;omega)|exact(XM o _ _).grown w dG (λj F=>by simp[Value.ownBlock]at F;omega)
     have f0:=bc1 b1 e0;have f1:=bc1 b1 e1;have f2:=bc1 b1 e2;have f3:=bc1 b1 e3)
  | (refine ztc (.tmp 56) (.tmp 58) 72 rfl rfl underlying72 o.heap.size _ (0+k) ([]++xs1) rfl (by first|exact y|exact y.alloc _) _ 1 _ (rcs x) rfl rfl (.inr ⟨_,rfl,ztU (vt := 80) (by first|exact tl X _|exact(w.block _ dG dH).trans (yw o _ _)|exact(w.block _ dG dH).trans (yx o _ _))⟩) J a9 (by have:=w.size;simp at this⊢<;>omega) ?_
     intro bH br H G bu;have b2:Below o.heap.size o br:=by first|exact b1.grown G b1.size (λj F=>(y.lt j F).1)|exact(b1.alloc b1.size _).grown G (by have:=b1.size;simp<;>omega) (λj F=>(y.lt j F).1))
  | (refine ztc (.tmp 59) (.tmp 60) 72 rfl rfl underlying72 o.heap.size _ (0+k+1) ([]++xs1++rcs x) rfl H C M c2 xs2 rfl ae (ac.o _ b2) K a9 b2.size ?_
     intro bq Y I P B;obtain⟨bA,bE,bD,rfl⟩:∃a n c,bq=.slice a n c:=zvj I;have b3:=b2.grown P b2.size λj F=>(H.lt j F).1;have B:=(b3.block b a9).trans Z.o;have bB:Y.cell? ⟨b,1,none⟩=some (.slice ra n V):=(zW B 1 _ rfl).1;have bF:Y.frozen? ⟨b,1,none⟩=false:=(zW B 1 _ rfl).2))
 all_goals exact HQ.o _ _ _ I b3
end
end Go.Proofs.YtjdjjlkifdimkaaGreatDoor
