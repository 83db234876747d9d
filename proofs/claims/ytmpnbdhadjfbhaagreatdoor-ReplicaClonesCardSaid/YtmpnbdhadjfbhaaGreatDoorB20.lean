import Derived.Test.YtmpnbdhadjfbhaaGreatDoorB19
set_option maxHeartbeats 16000000
set_option linter.all false
set_option maxRecDepth 100000
namespace Go.Proofs.YtmpnbdhadjfbhaaGreatDoor
def dG{p:Prop}(h:p:=by simp [Value.ownBlock]<;>omega):p:=h
open Go.Proofs.Tryz
open Go.Proofs.Tryz renaming prog->xt
section
open Go.RowKit Go.Maps
attribute [-go_sem] z7
def zim{D:xT}{w:World}{v:Value}{l:List Nat}(h:Dat D w v (ns l)):∃H A,v=.slice H l.length A/\l.length<=A/\A<=maxLen/\(l≠[]->∃b B,H=some ⟨b,B,none⟩/\∀j (K:j<l.length),D b (B+j)/\w.cell? ⟨b,B+j,none⟩=some (.int .u64 (l[j]:Nat))):=by
 unfold ns at h;generalize J:l.map yN=es at h;cases h with
 |sl a A sz es o b B u hc hz hm ha hsz hd hx=>have L:es.length=l.length:=(by rw[<-J];simp);refine⟨a,A,by rw[L],a8,hm,λG=>?_⟩;have C:0<l.length:=wX.2 G;have g:∀i (h:i<l.length),es[i]?=some (yN l[i]):=λi h=>(by rw[<-J];exact xo h);obtain rfl:1=sz:=hsz 0 _ (g 0 C);have F:es≠[]:=(by intro e;subst e;simp at L;omega);refine⟨b,B,ha F,λj K=>?_⟩;have M:=(hx j _ 0 _ (g j K) rfl).v_inv;obtain⟨I,E,_⟩:=hd (j*1+0) a8;rw[M]at E;simp only[Uk,ug]at I E;exact⟨I,E⟩
def ve{P:Program}(w:World)(t u e:TypeId)(i:TypeInfo)(ht:P.underlying t=some (.slice e))(hi:P.info? e=some i)(j:Option Addr)(n cp c:Nat)(o:n<=cp):
 (Builtin.append_ #[t,t] u #[.slice j n cp,.slice none 0 c]).run P w=.ok (.slice j n cp) w:=by
 cases j<;>simp[Builtin.append_,tI ht,sizeOf,typeInfo,hi,Builtin.lenOf,Builtin.firstCells,o,storeCells]
def zbE(w:World)(t N:TypeId)(ht:xt.underlying t=some (.slice 36))(base:Nat)(v:Value)(n:Nat)(O:List Value)(A:w.ownsRow base 36 1 v n O)(H:Option Addr)(m c:Nat)(o:List Value)(Q:o.length=m)
 (C:(m=0/\H=none)\/∃a,H=some a/\∀j u,o[j]?=some u->w.cell? (a.add j)=some u) (V:∀u∈o,u.oneCell'=true) (X:n+m<=17179869184) (B:base<=w.heap.size) :
 ∃E G,(Builtin.append_ #[t,t] N #[v,.slice H m c]).run xt w=.ok E G/\G.ownsRow base 36 1 E (n+m) (O++o)/\w.grownBy G v.ownBlock/\(E.ownBlock=v.ownBlock\/E.ownBlock=some w.heap.size):=by
 obtain⟨S,F,K,L,M⟩:=tR Vf;rcases C with⟨rfl,rfl⟩|⟨a,rfl,Y⟩
 .obtain rfl:o=[]:=wY.1 Q;obtain⟨I,cp,rfl,J⟩:∃I cp,v=.slice I n cp/\n<=cp:=by
   rcases A.2 with⟨rfl,rfl⟩|⟨g,T,U,rfl,_,_,h,_⟩
   .exact⟨none,0,rfl,Zp _⟩
   .exact⟨_,_,rfl,h⟩
  exact⟨_,w,ve w t N _ S ht F I n cp c J,dK A,jW _ _,.inl rfl⟩
 .obtain⟨E,G,Z,r2,r3,_,r5⟩:=Tk (P:=xt) w base t N 36 S _ 1 8 ht F K L M rfl b8 v n O A a m c o (dK Q) Y V c8 a8 B;exact⟨E,G,Z,r2,r3,r5⟩
def xK{H:Array Oper}{o:Oper}{a:Act}{w:World}{K:Act->World->Prop}{Q:Exit->Act->World->Prop}{E:Prop}(s x:Operand)(t:TypeId)(M:o.guard=none)
 (ho:o.op=.call { callee:=.builtin .append,args:=#[s,x],argTypes:=#[t,t] }) (ht:xt.underlying t=some (.slice 36)) (base:Nat) (v:Value) (n:Nat) (N:List Value) (hs:a.eval s=v) (G:w.ownsRow base 36 1 v n N)
 (J:Option Addr) (m c:Nat) (A:List Value) (Y:a.eval x=.slice J m c) (U:A.length=m) (C:(m=0/\J=none)\/∃a,J=some a/\∀j u,A[j]?=some u->w.cell? (a.add j)=some u) (O:∀u∈A,u.oneCell'=true) (L:n+m<=17179869184) (B:base<=w.heap.size)
 (h:∀F I,I.ownsRow base 36 1 F (n+m) (N++A)->w.grownBy I v.ownBlock->(F.ownBlock=v.ownBlock\/F.ownBlock=some w.heap.size)->K (a.put o.dst F) I):if Region.wanted o (yielded H a.tmps)=true then Oper.wp xt o a w K Q else E:=by
 have X:Region.wanted o (yielded H a.tmps)=true:=by simp[Region.wanted,M]
 rw[Vm X];obtain⟨F,I,V,P,S,T⟩:=zbE w t o.type ht base v n N G J m c A U C O L B;unfold Oper.wp execOp;simp only[ho,resolve,invoke,builtin,tH,tJ,tB,ui,WA,ub,hs,Y,V];exact h F I P S T
def zdy{w:World}{base A:Nat}(j:base<=A)(h:w.heap[A]?=some (.cells #[] 36 (0,0))):w.ownsRow base 36 1 (.slice (some ⟨A,0,none⟩) 0 0) 0 []:=⟨rfl,.inr ⟨A,0,#[],rfl,j,h,Zp _,X3 _,rfl,rfl⟩⟩
def yw(w:World)(o j:Obj):((w.alloc o).alloc j).heap[w.heap.size]?=some o:=(tw _ _ _ b6).trans (tq w o)
def yx(w:World)(o j:Obj):((w.alloc o).alloc j).heap[w.heap.size+1]?=some j:=by
 have:=tq (w.alloc o) j
 rwa[tx]at this
def YR(w:World)(o:Obj):Below w.heap.size w (w.drew.alloc o):=⟨rfl,rfl,rfl,b6,λk hk=>tw w.drew _ _ hk⟩
def XM(w:World)(o j:Obj):Below w.heap.size w ((w.drew.alloc o).alloc j):=(YR w o).alloc b6 _
def zbw(C:xT)(N:List Nat)(x:Nat)(va:Value)(w:World)(hl:(srt N).length<=4194304)(hd:Dat C w va (ns (srt N)))(hC:∀b o,C b o->b<w.heap.size):
 Calls xt 131 #[va,.int .u64 (x:Nat)] w λe w'=>∃v,e=.returned v/\Below w.heap.size w w'/\Dat (λb o=>C b o\/(w.heap.size<=b/\b<w'.heap.size)) w' v (ns (srt (N++[x]))):=by
 obtain⟨l,ac⟩:=xm (srt N);have HD:=qL hd;rw[<-ac]at hl hd;have F:=qL ac;obtain⟨Y,O,rfl,aI,aD,au⟩:=zim hd;have ai:=qL au;clear hd ac au;unfold maxLen at aD;go_enter func131,ntmps131
 go_wp2_with fail
 go_loopg [5] l.length (λg y wr=>wr=w/\∃k,k<=l.length/\g=l.length-k/\y=.int .i64 k/\∀j,(h:j<l.length)->j<k->l[j]<x)
 case atStart=>exact⟨rfl,0,X3 _,rfl,rfl,λj _ h=>absurd h a8⟩
 case round=>
  obtain⟨rfl,k,hk,rfl,rfl,B⟩:=hrel;have HJ:=qL B;clear B;by_cases S:k<l.length
  .obtain⟨b,G,rfl,H⟩:=ai.o (λe=>by rw[e]at S;simp at S);have ar:=(H k S).2;obtain⟨y,Z⟩:=xm (l[k]);rw[<-Z]at ar;have HY:=qL Z;have aj:=qL H;clear Z H;by_cases h2:y<x
   .go_wp2_with fail
    go_roundg (l.length-(k+1));case measure=>omega
    case rel=>
     refine⟨rfl,k+1,S,rfl,b6,λj aE aJ=>?_⟩;rcases wL j k with h3|h3
     .exact HJ.o j aE h3
     .obtain rfl:j=k:=a8;rw[<-HY.o];exact h2
   .by_cases h3:y=x
    .go_wp2_with fail
     refine tA (tL rfl _ _ _) rfl ?_;have av:x∈srt N:=(by rw[<-F.o,<-h3,HY.o];exact XE S);rw[zaw av];exact⟨_,rfl,tv _ _,HD.o.mono (λ_ _ h=>.inl h) λ_ _ _ _ h=>h⟩
    .go_wp2_with fail
     have af:xt.follows .mixedOrders=true:=dL;have V:∀u∈(l.take k).map uV,u.oneCell'=true:=QN;have ae:∀u∈(l.drop k).map uV,u.oneCell'=true:=QN;have M:∀u∈[uV x],u.oneCell'=true:=λu hu=>(by simp at hu;subst hu;rfl);have L:∀W:World,Below wr.heap.size wr W->∀j (B:j<l.length),W.cell? ⟨b,G+j,none⟩=some (uV l[j]):=λW hB j B=>(tp (a:=⟨b,G+j,none⟩) (hB.block b (hC _ _ (aj.o j B).1))).trans (aj.o j B).2;have aw:∀W:World,Below wr.heap.size wr W->(k=0/\(some (⟨b,G,none⟩:Addr))=none)\/∃a,some (⟨b,G,none⟩:Addr)=some a/\∀j u,((l.take k).map uV)[j]?=some u->W.cell? (a.add j)=some u:=λW hB=>.inr ⟨_,rfl,λj u h=>by
      rw[wh]at h;obtain⟨y,Z,rfl⟩:=ZZ.1 h;obtain⟨B,rfl⟩:=Zw.1 Z;rw[zh,uX];exact L W hB j (by simp at B;omega)⟩
     have ax:∀W:World,Below wr.heap.size wr W->(l.length-k=0/\(some (⟨b,G+k,none⟩:Addr))=none)\/∃a,some (⟨b,G+k,none⟩:Addr)=some a/\∀j u,((l.drop k).map uV)[j]?=some u->W.cell? (a.add j)=some u:=λW hB=>.inr ⟨_,rfl,λj u h=>by
      rw[wh]at h;obtain⟨y,Z,rfl⟩:=ZZ.1 h;obtain⟨B,rfl⟩:=Zw.1 Z;rw[zh,Uu,show G+k+j=G+(k+j) by omega];exact L W hB (k+j) (by simp at B;omega)⟩
     have az:=qL aw;have aA:=qL ax;have ar:¬(O=k):=a8;have aK:k<=O:=a8;have aL:k<=l.length:=a8;have I:∀v w,w.ownsRow wr.heap.size 36 1 v (k+1+(l.length-k)) ((l.take k).map uV++([uV x]++(l.drop k).map uV))->OwnN wr.heap.size w v (srt (N++[x])):=λv w h=>by
      have hi:=kJ (xs:=N) (x:=x) (at_:=k) (by rw[<-F.o];omega) (λj h5 h6=>by
       have h7:l[k]<=(srt N)[j]:=by
        rcases uE h6 with h8|h8
        .subst h8;simp only[F.o];exact Zp _
        .have:=jJ (yi N) h5 h8;simp only[F.o];omega
       have:=HY.o;omega) (by
       rcases Wl k with h5|h5
       .exact .inl h5
       .refine .inr ⟨by rw[<-F.o];omega,?_⟩;have h6:=HJ.o (k-1) a8 a8;simpa only[F.o]using h6)
      rw[hi,<-F.o];unfold OwnN;have e:(l.take k++x::l.drop k).length=k+1+(l.length-k):=a9;rw[e];show w.ownsRow wr.heap.size 36 1 v _ (List.map uV _);rw[WK,WA];exact h
     have P:=qL I;clear I aw ax L;go_region_law_o (first
      | (refine xK (.tmp 33) (.tmp 36) 128 rfl rfl underlying128 wr.heap.size (.slice (some ⟨_,0,none⟩) 0 0) 0 [] rfl (zdy a8 (by first|exact tq _ _|exact tq wr _|exact yw _ _ _|exact yx _ _ _|exact yw wr _ _|exact yx wr _ _)) _ k _ ((l.take k).map uV) rfl dF (az.o _ (by first|exact YR _ _|exact XM _ _ _)) V a8 dF ?_
         intro aF X E A an;have b1:Below wr.heap.size wr X:=by first|exact(YR wr _).grown A dF (λj B=>by simp[Value.ownBlock]at B;omega)|exact(XM wr _ _).grown A dF (λj B=>by simp[Value.ownBlock]at B;omega))
      | (refine xK (.tmp 37) (.tmp 39) 128 rfl rfl underlying128 wr.heap.size _ (0+k) ([]++(l.take k).map uV) rfl (by first|exact E|exact E.alloc _) _ 1 _ [uV x] rfl rfl (.inr ⟨_,rfl,vH (vt := 36) (by first|exact tq X _|exact(A.block _ dF dG).trans (yw wr _ _)|exact(A.block _ dF dG).trans (yx wr _ _))⟩) M a8 (by have:=A.size;simp at this⊢<;>omega) ?_
         intro aG ah K J ao;have b2:Below wr.heap.size wr ah:=by first|exact b1.grown J b1.size (λj B=>(E.lt j B).1)|exact(b1.alloc b1.size _).grown J (by have:=b1.size;simp<;>omega) (λj B=>(E.lt j B).1))
      | (refine xK (.tmp 40) (.tmp 43) 128 rfl rfl underlying128 wr.heap.size _ (0+k+1) ([]++(l.take k).map uV++[uV x]) rfl K _ (l.length-k) _ ((l.drop k).map uV) rfl dF (aA.o _ b2) ae a8 b2.size ?_
         intro ag aH U Q aq;have b3:=b2.grown Q b2.size λj B=>(K.lt j B).1))
     all_goals (go_wp2;all_goals (refine tA (tL rfl _ _ _) rfl ?_;exact⟨ag,rfl,b3,vL (base:=wr.heap.size) (P.o _ _ (dK U)) λb o h1 h2=>.inr ⟨h1,h2⟩⟩))
  .obtain rfl:k=l.length:=a8
   go_wp2_with fail
   have af:xt.follows .mixedOrders=true:=dL;obtain⟨ak,ab,am⟩:∃ak ab,(ak,ab)=(if O=l.length then Y else Option.map (λx=>x.add l.length) Y,O-l.length):=⟨_,_,rfl⟩;have aM:l.length+1<=17179869184:=a8;have V:∀u∈l.map uV,u.oneCell'=true:=QN;have M:∀u∈[uV x],u.oneCell'=true:=λu hu=>(by simp at hu;subst hu;rfl);have ay:∀W:World,Below wr.heap.size wr W->(l.length=0/\Y=none)\/∃a,Y=some a/\∀j u,(l.map uV)[j]?=some u->W.cell? (a.add j)=some u:=λW hB=>by
    by_cases h0:l=[]
    .subst h0;cases Y with
     |none=>exact .inl ⟨rfl,rfl⟩
     |some a=>exact .inr ⟨a,rfl,λj u h=>by simp at h⟩
    .obtain⟨b,G,rfl,hc⟩:=ai.o h0;refine .inr ⟨_,rfl,λj u h=>?_⟩;rw[wh]at h;obtain⟨y,Z,rfl⟩:=ZZ.1 h;obtain⟨B,rfl⟩:=Zw.1 Z;rw[zh];exact(tp (a:=⟨b,G+j,none⟩) (hB.block b (hC _ _ (hc j B).1))).trans (hc j B).2
   have T:(0=0/\(if O=l.length then Y else Option.map (λx=>x.add l.length) Y)=none)\/∃a,(if O=l.length then Y else Option.map (λx=>x.add l.length) Y)=some a:=by
    cases Y<;>simp;split<;>simp
   have aB:=qL ay;have aC:=qL T;clear ay T am;have I:∀v w,w.ownsRow wr.heap.size 36 1 v (l.length+1) (l.map uV++[uV x])->OwnN wr.heap.size w v (srt (N++[x])):=λv w h=>by
    have hi:=kJ (xs:=N) (x:=x) (at_:=(srt N).length) (Zp _) (λj h1 h2=>a8) (by
     rcases Wl (srt N).length with h5|h5
     .exact .inl h5
     .refine .inr ⟨a8,?_⟩;have h6:=HJ.o ((srt N).length-1) (by rw[F.o];omega) (by rw[F.o];omega);simpa only[F.o]using h6)
    rw[hi,<-F.o,Wr,uO];unfold OwnN;rw[wi,uT];show w.ownsRow wr.heap.size 36 1 v _ (List.map uV _);rw[WK];exact h
   have P:=qL I;clear I;go_region_law_o (first
    | (refine xK (.tmp 33) (.tmp 36) 128 rfl rfl underlying128 wr.heap.size (.slice (some ⟨_,0,none⟩) 0 0) 0 [] rfl (zdy a8 (by first|exact tq _ _|exact tq wr _|exact yw _ _ _|exact yx _ _ _|exact yw wr _ _|exact yx wr _ _)) _ l.length _ (l.map uV) rfl dF (aB.o _ (by first|exact YR _ _|exact XM _ _ _)) V a8 dF ?_
       intro aF X E A an;have b1:Below wr.heap.size wr X:=by first|exact(YR wr _).grown A dF (λj B=>by simp[Value.ownBlock]at B;omega)|exact(XM wr _ _).grown A dF (λj B=>by simp[Value.ownBlock]at B;omega))
    | (refine xK (.tmp 37) (.tmp 39) 128 rfl rfl underlying128 wr.heap.size _ (0+l.length) ([]++l.map uV) rfl (by first|exact E|exact E.alloc _) _ 1 _ [uV x] rfl rfl (.inr ⟨_,rfl,vH (vt := 36) (by first|exact tq X _|exact(A.block _ dF dG).trans (yw wr _ _)|exact(A.block _ dF dG).trans (yx wr _ _))⟩) M a8 (by have:=A.size;simp at this⊢<;>omega) ?_
       intro aG ah K J ao;have b2:Below wr.heap.size wr ah:=by first|exact b1.grown J b1.size (λj B=>(E.lt j B).1)|exact(b1.alloc b1.size _).grown J (by have:=b1.size;simp<;>omega) (λj B=>(E.lt j B).1))
    | (refine xK (.tmp 40) (.tmp 43) 128 rfl rfl underlying128 wr.heap.size _ (0+l.length+1) ([]++l.map uV++[uV x]) rfl K _ 0 _ ([]) rfl dF (by rcases aC.o with h|⟨a,h⟩;exact .inl h;exact .inr ⟨a,h,λj u B=>by simp at B⟩) b6 a8 b2.size ?_
       intro ag aH U Q aq;have b3:=b2.grown Q b2.size λj B=>(K.lt j B).1))
   all_goals (go_wp2;all_goals (refine tA (tL rfl _ _ _) rfl ?_;exact⟨ag,rfl,b3,vL (base:=wr.heap.size) (P.o _ _ (dK U)) λb o h1 h2=>.inr ⟨h1,h2⟩⟩))
end
section
open Go.RowKit Go.Lib
attribute [-go_sem] z7
def Z9:(xt.info? 59).map (λi=>(i.zero,i.size,i.bytes))=some (some (.agg #[.slice none 0 0,.slice none 0 0]),2,48):=dL
def OwnC(base:Nat)(w:World)(v:Value)(n:Nat)(j:List Value):Prop:=w.ownsRow base 59 2 v n j/\j.length=n*2/\∀u∈j,u.oneCell'=true
def OwnC.cases{base:Nat}{w:World}{v:Value}{n:Nat}{B:List Value}(h:OwnC base w v n B):(v=.slice none 0 0/\n=0/\B=[]) \/
 ∃g j o,v=.slice (some ⟨g,0,none⟩) n j/\base<=g/\g<w.heap.size/\w.heap[g]?=some (.cells o 59 (0,0))/\n<=j/\j<=maxLen/\o.size=j*2/\o.toList.take (n*2)=B:=by
 rcases h.1.2 with⟨u,A⟩|⟨g,j,o,u,A,C,E,F,G,H⟩
 .subst A;exact .inl ⟨u,rfl,wY.1 (by rw[h.2.1])⟩
 .exact .inr ⟨g,j,o,u,A,(Yf.1 C).1,C,E,F,G,H⟩
def vI{w:World}{B:Nat}{vt:TypeId}{p q:Value}(A:w.heap[B]?=some (.cells #[p,q] vt (0,0))):∀j u,[p,q][j]?=some u->w.cell? ((⟨B,0,none⟩:Addr).add j)=some u:=λj u o=>by
 match j,o with
 |0,o=>cases o;simp[World.cell?,Addr.add,A]
 |1,o=>cases o;simp[World.cell?,Addr.add,A]
 |j+2,o=>simp at o
def yF{p q:Value}(o:p.oneCell'=true)(w:q.oneCell'=true):∀u∈[p,q],u.oneCell'=true:=λu j=>by
 simp at j;rcases j with rfl|rfl
 .exact o
 .exact w
def run_copy_k{P:Program}(w:World)(I Q S A:TypeId)(b o u E:Nat)(a:Addr)(B G sz:Nat)(C:List Value)
 (O:P.underlying I=some (.slice A)) (hs:(P.info? A).map (·.size)=some sz) (N:C.length=Nat.min B u*sz)
 (F:∀j v,C[j]?=some v->w.cell? (a.add j)=some v) (K:∀j,j<C.length->(w.cell? ⟨b,o+j,none⟩).isSome=true) (L:∀j,j<C.length->w.frozen? ⟨b,o+j,none⟩=false) (J:∀v∈C,v.oneCell'=true) :
 (Builtin.copy_ #[I,Q] S #[.slice (some ⟨b,o,none⟩) u E,.slice (some a) B G]).run P w=.ok (goInt (Nat.min B u)) (w.setCells b o C):=by
 have M:=run_loadCells_list (P:=P) w a C F;have H:=run_storeCells_cells (P:=P) b o C 0 w (dK K) (dK L) J;cases hq:P.info? A with
 |none=>simp[hq]at hs
 |some i=>have hi:i.size=sz:=(by simpa[hq]using hs);simp[Builtin.copy_,tI O,Builtin.lenOf,Builtin.firstCells,sizeOf,typeInfo,hq,hi,<-N,M,H]
def zaF{P:Program}{t j o e e2:TypeId}{b:Option Addr}{n c:Nat}{x:Value}{w:World}(u:P.underlying t=some (.slice e))(A:P.underlying j=some (.slice e2)):(Builtin.append_ #[t,j] o #[.slice b n c,x]).run P w=(Builtin.append_ #[t,t] o #[.slice b n c,x]).run P w:=by simp[Builtin.append_,tI u,tI A]
def yR{P:Program}{w:World}{J:Array Oper}{rest:List Oper}{o:Oper}{a:Act}{Q:Exit->Act->World->Prop}(S:o.guard=none)(s x:Operand)(t Y e2:TypeId)
 (ho:o.op=.call { callee:=.builtin .append,args:=#[s,x],argTypes:=#[t,Y] }) (U:P.underlying Y=some (.slice e2))
 (base:Nat) (e:TypeId) (i:TypeInfo) (z:Value) (size B:Nat) (ht:P.underlying t=some (.slice e)) (hi:P.info? e=some i) (hz:i.zero=some z)
 (H:i.size=size) (O:i.bytes=B) (hzs:z.cells.size=size) (T:0<size)
 (v:Value) (n:Nat) (V:List Value) (hs:a.eval s=v) (E:w.ownsRow base e size v n V)
 (M:Addr) (m c:Nat) (A:List Value) (hx:a.eval x=.slice (some M) m c) (hl:A.length=m*size) (G:∀j u,A[j]?=some u->w.cell? (M.add j)=some u) (Z:∀u∈A,u.oneCell'=true)
 (N:n+m<=maxLen) (C:(n+m)*B<=140737488355328) (F:base<=w.heap.size)
 (h:∀I L,L.ownsRow base e size I (n+m) (V++A)->w.grownBy L v.ownBlock->(I.ownBlock=v.ownBlock\/I.ownBlock=some w.heap.size)->wpList P J Q rest (a.put o.dst I) L) :
 wpList P J Q (o::rest) a w:=by
 refine TX S λK hK=>?_;obtain⟨I,L,X,h2,h3,_,h5⟩:=Tk (P:=P) w base t o.type e i z size B ht hi hz H O hzs T v n V E M m c A hl G Z N C F;obtain⟨b0,n0,c0,rfl⟩:∃b n c,v=.slice b n c:=by rcases E.2 with⟨h,_⟩|⟨_,_,_,h,_⟩<;>exact⟨_,_,_,h⟩
 rw[<-zaF ht U]at X;unfold Oper.wp execOp;simp only[ho,resolve,invoke,builtin,tH,tJ,tB,ui,WA,ub,hs,hx,X];exact hK _ _ (h I L h2 h3 h5)
def zc2(base L:Nat)(vt:TypeId)(w:World)(v:Value)(n:Nat)(M:List Value)(p q:Value)(hp:p.oneCell'=true)(hq:q.oneCell'=true)(j:OwnC base w v n M)(S:w.heap[L]?=some (.cells #[p,q] vt (0,0)))(hl:n<=1073741824)(A:base<=w.heap.size):
 Calls xt 174 #[v,.int .i64 (n:Nat),.slice (some ⟨L,0,none⟩) 1 1] w λe C=>∃o,e=.returned o/\OwnC base C o (n+1) (M++[p,q])/\w.grownBy C v.ownBlock/\(o.ownBlock=v.ownBlock\/o.ownBlock=some w.heap.size):=by
 obtain⟨X,G,I,J,K⟩:=tR Z9;have V:=vI S;have B:=yF hp hq;have fin:∀o C,C.ownsRow base 59 2 o (n+1) (M++[p,q])->OwnC base C o (n+1) (M++[p,q]):=λo C h=>⟨h,by have:=j.2.1;simp;omega,λu H=>by
  rcases wF.1 H with H|H
  .exact j.2.2 u H
  .exact B u H⟩
 have T:=qL j.1;rcases j.cases with⟨rfl,rfl,rfl⟩|⟨g,N,Y,rfl,Z,ab,ac,ad,O,P,Q⟩
 .clear j;go_enter func174,ntmps174
  go_wp2_with (at_builtin;refine yR rfl _ _ 54 53 59 rfl underlying53 base 59 X (.agg #[.slice none 0 0,.slice none 0 0]) 2 48 underlying54 G I J K rfl b8 _ _ _ rfl T.o ⟨L,0,none⟩ 1 1 [p,q] rfl rfl V B (by simp[maxLen]) b6 A ?_;intro o C ho F E)
  go_ret;exact⟨o,rfl,fin o C ho,F,E⟩
 .unfold maxLen at O;have U:N<=9223372036854775807:=a8;clear j Q P;go_enter func174,ntmps174
  go_wp2_with (at_builtin;refine yR rfl _ _ 54 53 59 rfl underlying53 base 59 X (.agg #[.slice none 0 0,.slice none 0 0]) 2 48 underlying54 G I J K rfl b8 _ _ _ rfl T.o ⟨L,0,none⟩ 1 1 [p,q] rfl rfl V B c8 a8 A ?_;intro o C ho F E)
  all_goals (go_ret;exact⟨o,rfl,fin o C ho,F,E⟩)
def zS:Value:=.slice none 0 0
def zgF(n:Nat):(Builtin.zeroCells (Value.agg #[.slice none 0 0,.slice none 0 0]).cells n).toList=List.replicate (n*2) zS:=by
 apply List.ext_getElem
 .simp[Builtin.zeroCells,Value.cells]
 .intro i j o;rcases UQ i with h|h<;>simp[Builtin.zeroCells,Value.cells,h,zS]
def za6{xs ms:List Value}{u:Value}{i:Nat}(hi:i<=xs.length):kF (kF (xs.take i++List.replicate (xs.length+ms.length-i) u) i ms) (i+ms.length) (xs.drop i)=xs.take i++ms++xs.drop i:=by
 have j:(xs.take i).length=i:=a9
 have e1:=kG (xs.take i) (List.replicate ms.length u) (List.replicate (xs.length-i) u) ms b6 j.symm;have e2:=kG (xs.take i++ms) (List.replicate (xs.length-i) u) [] (xs.drop i) b6 (i:=i+ms.length) a9;rw[show xs.length+ms.length-i=ms.length+(xs.length-i) by omega,<-List.replicate_append_replicate,<-wU,e1];simpa using e2
def za7{xs ms us:List Value}{i:Nat}(hi:i<=xs.length)(o:us.length=ms.length):kF (kF (xs++us) (i+ms.length) (xs.drop i)) i ms=xs.take i++ms++xs.drop i:=by
 rw[jt (xs.drop i) _ _ a9];have j:i+ms.length+(xs.drop i).length=(xs++us).length:=a9
 rw[j,uO,Wc];rw[jt ms _ _ a9];have ht:((xs++us).take (i+ms.length)).length=i+ms.length:=a9
 rw[Ws (by rw[ht];omega),List.take_take,W8 a8,Ws hi];rw[UB,ht,UP,Wh,U2 a8,Y1]
def X6{base:Nat}{w:World}{v:Value}{n i:Nat}{o A:List Value}(hi:i<=n)(F:o.length=n*2)(E:A.length=2)(B:∀u∈o,u.oneCell'=true)(C:∀u∈A,u.oneCell'=true)
 (h:w.ownsRow base 59 2 v (n+1) (o.take (i*2)++A++o.drop (i*2))):OwnC base w v (n+1) (o.take (i*2)++A++o.drop (i*2)):=
 ⟨h,a9,λu j=>by
  rcases wF.1 j with j|j
  .rcases wF.1 j with j|j
   .exact B u (WH j)
   .exact C u j
  .exact B u (Wv j)⟩
def zc3(base P:Nat)(vt:TypeId)(w:World)(g o n:Nat)(A:List Value)(p q:Value)(i:Nat)(hp:p.oneCell'=true)(hq:q.oneCell'=true)(hi:i<n)(C:OwnC base w (.slice (some ⟨g,0,none⟩) n o) n A)(ab:o<n+1)(ah:w.heap[P]?=some (.cells #[p,q] vt (0,0)))(hl:n<=1073741824)(Z:base<=w.heap.size):
 Calls xt 174 #[.slice (some ⟨g,0,none⟩) n o,.int .i64 (i:Nat),.slice (some ⟨P,0,none⟩) 1 1] w λe w'=>∃v',e=.returned v'/\OwnC base w' v' (n+1) (A.take (i*2)++[p,q]++A.drop (i*2))/\w.grownBy w' none/\v'.ownBlock=some w.heap.size:=by
 obtain⟨i0,ao,aD,hzs,av⟩:=tR Z9;have K:A.length=n*2:=C.2.1;have I:=C.2.2;have au:=vI ah;have aC:P<w.heap.size:=(Yf.1 ah).1;have aA:g<w.heap.size:=(C.1.lt g rfl).2;have aM:n<=o:=by
  rcases C.cases with⟨h,_⟩|⟨g',aF,_,h,_,_,_,h4,_⟩
  .cases h
  .cases h;omega
 have hg:∀j v,A[j]?=some v->w.cell? ⟨g,j,none⟩=some v:=λj v F=>by have:=tK C.1 (g:=g) rfl j v F;rw[zh,wn]at this;exact this
 have ar:(n:Int)+1-(i:Int)=((n+1-i:Nat):Int):=a8
 have ac:i+(n+1-i)=n+1:=a8
 have O:(Builtin.firstCells i0.size i (.slice (some ⟨g,0,none⟩) i o)).run xt w.drew=.ok (A.take (i*2)).toArray w.drew:=by
  rw[hzs];refine TO w.drew 2 i ⟨g,0,none⟩ i o (A.take (i*2)) (by rw[We];omega) (λj v F=>?_);rw[wt]at F;split at F
  .have:=hg j v F;rw[zh,wn];exact this
  .cases F
 have af:∀J,(Builtin.append_ #[54,3] J #[.slice (some ⟨g,0,none⟩) i o,.int .i64 ((n:Int)+1-(i:Int))]).run xt w =
  .ok (.slice (some ⟨w.heap.size,0,none⟩) (n+1) (grownCap w (n+1) o 59)) (w.drew.alloc (.cells ((A.take (i*2)).toArray++Builtin.zeroCells (Value.agg #[.slice none 0 0,.slice none 0 0]).cells (n+1-i)++Builtin.zeroCells (Value.agg #[.slice none 0 0,.slice none 0 0]).cells (grownCap w (n+1) o 59 - (n+1))) 59)):=λJ=>by
  have h:=TS w 54 3 J 59 i0 _ .i64 .i64 underlying54 underlying3 ao aD (some ⟨g,0,none⟩) i o (A.take (i*2)) O (n+1-i) a8 a8 a8 a8 (by rw[av];omega) (by rw[av,ac];exact T4 ab a8);rw[ac]at h;rw[ar];exact h
 obtain⟨G,hG⟩:∃G,G=grownCap w (n+1) o 59 := ⟨_,rfl⟩;have ay:n+1<=G:=by rw[hG];exact TL w _ _ _
 have ai:G<=maxLen:=by rw[hG];exact TD w _ _ _ c8
 obtain⟨R,hR⟩:∃R:Array Value,R=(A.take (i*2)).toArray++Builtin.zeroCells (Value.agg #[.slice none 0 0,.slice none 0 0]).cells (n+1-i)++Builtin.zeroCells (Value.agg #[.slice none 0 0,.slice none 0 0]).cells (G-(n+1)):=⟨_,rfl⟩;rw[<-hG,<-hR]at af;have aB:(A.take (i*2)).length=i*2:=by rw[We];omega
 have X:R.toList=(A.take (i*2)++List.replicate (A.length+[p,q].length-i*2) zS)++List.replicate ((G-(n+1))*2) zS:=by rw[hR];simp only[WY,zgF,K];congr 3;simp;omega
 have az:R.size=G*2:=by have:R.toList.length=G*2:=(by rw[X];simp;omega);simpa using this
 obtain⟨B,E⟩:=xm (w.drew.alloc (.cells R 59));have o1:B.ownsRow base 59 2 (.slice (some ⟨w.heap.size,0,none⟩) (n+1) G) (n+1) (A.take (i*2)++List.replicate (A.length+[p,q].length-i*2) zS):=by
  refine⟨a9,.inr ⟨w.heap.size,G,R,rfl,Z,?_,ay,ai,a8,?_⟩⟩
  .rw[E];exact tq w.drew _
  .rw[X,Ws a9,wm a9]
 obtain⟨o2,U⟩:=z9 [p,q] (i*2) _ _ o1;obtain⟨o3,g3⟩:=z9 (A.drop (i*2)) (i*2+2) ((B.setCells w.heap.size (i*2) [p,q]).drew) _ o2;have eg:=za6 (xs:=A) (ms:=[p,q]) (u:=zS) (i:=i*2) a8;rw[show i*2+[p,q].length=i*2+2 from rfl]at eg;rw[eg]at o3;have T:w.grownBy B none:=by rw[E];exact⟨rfl,rfl,rfl,b6,λk hk _=>tw w.drew _ _ hk⟩
 have S:(i+1)*2=i*2+2:=a8
 have M:w.grownBy (((B.setCells w.heap.size (i*2) [p,q]).drew).setCells w.heap.size (i*2+2) (A.drop (i*2))) none:=by refine⟨g3.os.trans (U.os.trans T.os),g3.tape.trans (U.tape.trans T.tape),g3.output.trans (U.output.trans T.output),V0 T.size (V0 U.size g3.size),λk hk _=>?_⟩;have aq:k<B.heap.size:=vw hk T.size;have L:some k≠some w.heap.size:=λe=>(by cases e;omega);rw[g3.block k (vw aq U.size) L];show (B.setCells w.heap.size (i*2) [p,q]).heap[k]?=_;rw[U.block k aq L,T.block k hk b6]
 have OF:=qL (X6 a8 K rfl I (yF hp hq) o3);have GA:=qL M;clear o3 M o1 o2;rw[<-E]at af;have hN:∀j,j<n*2+2->(B.cell? ⟨w.heap.size,j,none⟩).isSome=true:=λj F=>by rw[E,tY (w:=w.drew) R _ w.heap.size j rfl,Wg a8];rfl
 have V:∀j,B.frozen? ⟨w.heap.size,j,none⟩=false:=λj=>by rw[E];exact TZ (w:=w.drew) R _ w.heap.size j rfl
 have aj:∀j v,w.cell? ⟨g,j,none⟩=some v->B.cell? ⟨g,j,none⟩=some v:=λj v h=>by rw[E,Ts (w:=w.drew) _ g j aA];exact h
 have ak:∀j v,w.cell? ⟨P,j,none⟩=some v->B.cell? ⟨P,j,none⟩=some v:=λj v h=>by rw[E,Ts (w:=w.drew) _ P j aC];exact h
 have ag:(xt.info? 59).map (·.size)=some 2:=by rw[ao];simp[hzs]
 have ad:Nat.min 1 (n+1-i)=1:=by simp only[Um];split<;>omega
 have ae:Nat.min (n-i) (n-i)=n-i:=Nat.min_self _;have an:(A.drop (i*2)).length=(n-i)*2:=by rw[ud,K];omega
 have am:∀(W:World),(∀y,W.cell? y=B.cell? y)->(∀y,W.frozen? y=B.frozen? y)->∀J Q,(Builtin.copy_ #[54,53] J #[.slice (some ⟨w.heap.size,i*2,none⟩) (n+1-i) Q,.slice (some ⟨P,0,none⟩) 1 1]).run xt W=.ok (goInt 1) (W.setCells w.heap.size (i*2) [p,q]):=λW H Y J Q=>by
  have h:=run_copy_k W 54 53 J 59 w.heap.size (i*2) (n+1-i) Q ⟨P,0,none⟩ 1 1 2 [p,q] underlying54 ag (by rw[ad];rfl)
   (λj v F=>by have:=au j v F;rw[zh]at this;rw[H,zh];exact ak _ v this)
   (λj F=>by rw[H];simp at F;exact hN _ a8) (λj F=>by rw[Y];exact V _) (yF hp hq)
  rw[ad]at h;exact h
 have L:g≠w.heap.size:=a8
 have N:∀(W:World),(∀y,W.cell? y=(B.setCells w.heap.size (i*2) [p,q]).cell? y)->(∀y,W.frozen? y=(B.setCells w.heap.size (i*2) [p,q]).frozen? y)->∀J Q sc,(Builtin.copy_ #[54,54] J #[.slice (some ⟨w.heap.size,(i+1)*2,none⟩) (n-i) Q,.slice (some ⟨g,i*2,none⟩) (n-i) sc]).run xt W=.ok (goInt ((n-i:Nat):Int)) (W.setCells w.heap.size (i*2+2) (A.drop (i*2))):=λW H Y J Q sc=>by
  have h:=run_copy_k W 54 54 J 59 w.heap.size ((i+1)*2) (n-i) Q ⟨g,i*2,none⟩ (n-i) sc 2 (A.drop (i*2)) underlying54 ag (by rw[an,ae])
   (λj v F=>by
     rw[H,zh,Tm _ _ _ _ _ (λh _=>absurd h L)];exact aj _ v (hg (i*2+j) v (by rwa[Wn]at F)))
   (λj F=>by rw[H];exact isSome_setCells _ _ _ _ (λt ht=>hN _ (by simp at ht;omega)) _ (hN _ a8))
   (λj F=>by rw[Y,Tt];exact V _) (λv hv=>I v (Wv hv))
  rw[ae,S]at h;rw[S];exact h
 have aw:∀y,((B.setCells w.heap.size (i*2) [p,q]).drew).cell? y=(B.setCells w.heap.size (i*2) [p,q]).cell? y:=λy=>rfl;have ax:∀y,((B.setCells w.heap.size (i*2) [p,q]).drew).frozen? y=(B.setCells w.heap.size (i*2) [p,q]).frozen? y:=λy=>rfl;have aP:¬((i:Int)=(n:Int)):=a8
 have aQ:(o:Int)<(n:Int)+1:=a8
 unfold maxLen at ai;have aH:¬(G=i):=a8
 have aG:¬(G=i+1):=a8
 have aK:¬(o=i):=a8
 have aO:IntKind.i64.wrap ((i:Int)+1)=(i:Int)+1:=by rw[TA];omega
 have aI:(0:Int)<=(i:Int)+1:=a8
 have aL:i<=n:=a8
 have aN:((i:Int)+1).toNat=i+1:=a8
 have aJ:(i:Int)<=(n:Int):=a8
 clear ar ac O hG X hR az C hg hN V aj ak I K au ah aB an T U g3 E S ad ae ag;go_enter func174,ntmps174
 go_wp2_with (first
  |(at_builtin;refine Lib.wpList_append_run _ rfl _ _ _ _ rfl _ _ rfl rfl _ _ (af _) ?_)
  |(at_builtin;refine wpList_copy_runI _ rfl _ _ 54 53 rfl _ _ rfl rfl (am _ (λ_=>rfl) (λ_=>rfl) _ _) ?_)
  |(at_builtin;refine wpList_copy_runI _ rfl _ _ 54 54 rfl _ _ rfl rfl (N _ (λ_=>rfl) (λ_=>rfl) _ _ _) ?_))
 have aE:xt.follows .mixedOrders=true:=dL
 go_region_law_o (refine step_copy_runI rfl _ _ 54 54 rfl (.slice (some ⟨w.heap.size,(i+1)*2,none⟩) (n-i) (G-(i+1))) (.slice (some ⟨g,i*2,none⟩) (n-i) (o-i)) dJ dJ (N _ aw ax _ (G-(i+1)) (o-i)) ?_)
 go_wp2;refine tA (tL rfl _ _ _) rfl ?_;exact⟨_,rfl,OF.o,GA.o,rfl⟩
def JK(base K:Nat)(vt:TypeId)(w:World)(g o n:Nat)(C:List Value)(p q:Value)(i:Nat)(hp:p.oneCell'=true)(hq:q.oneCell'=true)(hi:i<n)(B:OwnC base w (.slice (some ⟨g,0,none⟩) n o) n C)(Y:n+1<=o)(J:w.heap[K]?=some (.cells #[p,q] vt (0,0)))(aj:K≠g)(hl:n<=1073741824):
 Calls xt 174 #[.slice (some ⟨g,0,none⟩) n o,.int .i64 (i:Nat),.slice (some ⟨K,0,none⟩) 1 1] w λe w'=>∃v',e=.returned v'/\OwnC base w' v' (n+1) (C.take (i*2)++[p,q]++C.drop (i*2))/\w.grownBy w' (some g)/\v'.ownBlock=some g:=by
 obtain⟨i0,aw,aH,hzs,aJ⟩:=tR Z9;have L:C.length=n*2:=B.2.1;have I:=B.2.2;have ak:=vI J;obtain⟨A,au,H,N,S,ao⟩:∃A,base<=g/\w.heap[g]?=some (.cells A 59 (0,0))/\o<=maxLen/\A.size=o*2/\A.toList.take (n*2)=C:=by
  rcases B.cases with⟨h,_⟩|⟨g',az,A,h,h1,_,h3,_,h5,h6,h7⟩
  .cases h
  .cases h;exact⟨A,h1,h3,h5,h6,h7⟩
 obtain⟨us,ac⟩:=xm ((A.toList.drop (n*2)).take 2);have ab:us.length=[p,q].length:=by rw[ac];simp;omega
 have o0:w.drew.ownsRow base 59 2 (.slice (some ⟨g,0,none⟩) (n+1) o) (n+1) (C++us):=by refine⟨by rw[wi,ab,L];simp;omega,.inr ⟨g,o,A,rfl,au,H,Y,N,a8,?_⟩⟩;rw[show (n+1)*2=n*2+2 by omega,List.take_add,ao,ac]
 obtain⟨o1,g1⟩:=z9 (C.drop (i*2)) (i*2+2) _ _ o0;obtain⟨o2,g2⟩:=z9 [p,q] (i*2) _ _ o1;have eg:=za7 (xs:=C) (ms:=[p,q]) (us:=us) (i:=i*2) a8 ab;rw[show i*2+[p,q].length=i*2+2 from rfl]at eg;rw[eg]at o2;have g0:w.grownBy w.drew (some g):=⟨rfl,rfl,rfl,Zp _,λ_ _ _=>rfl⟩;have OF:=qL (X6 a8 L rfl I (yF hp hq) o2);have GA:=qL (yn g0 (yn g1 g2));have u:∀j,j<o*2->(w.cell? ⟨g,j,none⟩).isSome=true:=λj E=>by simp[World.cell?,H,S,E]
 have U:∀j,w.frozen? ⟨g,j,none⟩=false:=λj=>by simp[World.frozen?,H]
 have hg:∀j v,C[j]?=some v->w.cell? ⟨g,j,none⟩=some v:=λj v E=>by have:=tK B.1 (g:=g) rfl j v E;rw[zh,wn]at this;exact this
 have am:w.shape? K=some (vt,2):=by simp[World.shape?,J]
 have an:w.shape? g=some (59,o*2):=by simp[World.shape?,H,S]
 have ah:w.frozen? ⟨K,0,none⟩=false:=by simp[World.frozen?,J]
 have ai:w.frozen? ⟨K,2,none⟩=false:=by simp[World.frozen?,J]
 have Z:(xt.info? 59).map (·.size)=some 2:=by rw[aw];simp[hzs]
 have ax:∀lb cb,(callFunc 198 #[.slice (some ⟨K,0,none⟩) 1 1,.slice (some ⟨g,(i+1)*2,none⟩) lb cb]).run xt w=.ok (.value (.bool false)) w:=λlb cb=>by
  rw[tM func198 dL dL dL (e:=Extern.SlicesOverlaps.overlaps #[53,53] #[4]) dL,
   T0 w 53 4 59 underlying53 2 (λw=>dL) ⟨K,0,none⟩ ⟨g,(i+1)*2,none⟩ 1 1 lb cb aj vt 59 2 (o*2) am an a8 ah ai]
  rfl
 have T:(C.drop (i*2)).length=(n-i)*2:=by rw[ud,L];omega
 have V:Nat.min (n+1-i) (n-i)=n-i:=by simp only[Um];split<;>omega
 have X:Nat.min 1 (n+1-i)=1:=by simp only[Um];split<;>omega
 have Q:(i+1)*2=i*2+2:=a8
 have G:∀M P sc,(Builtin.copy_ #[54,54] M #[.slice (some ⟨g,(i+1)*2,none⟩) (n-i) P,.slice (some ⟨g,i*2,none⟩) (n+1-i) sc]).run xt w.drew=.ok (goInt ((n-i:Nat):Int)) (w.drew.setCells g (i*2+2) (C.drop (i*2))):=λM P sc=>by
  have h:=run_copy_k w.drew 54 54 M 59 g ((i+1)*2) (n-i) P ⟨g,i*2,none⟩ (n+1-i) sc 2 (C.drop (i*2)) underlying54 Z (by rw[T,V])
   (λj v E=>by rw[zh];exact hg (i*2+j) v (by rwa[Wn]at E))
   (λj E=>u _ a8) (λj E=>U _) (λv hv=>I v (Wv hv))
  rw[V,Q]at h;rw[Q];exact h
 obtain⟨W1,F⟩:=xm (w.drew.setCells g (i*2+2) (C.drop (i*2)));have O:∀k,k<o*2->(W1.cell? ⟨g,k,none⟩).isSome=true:=λk hk=>by rw[F];exact isSome_setCells g (C.drop (i*2)) (i*2+2) w.drew (λj E=>u _ (by rw[T]at E;omega)) k (u k hk)
 have ag:∀(W:World),(∀y,W.cell? y=W1.cell? y)->(∀y,W.frozen? y=W1.frozen? y)->∀M P,(Builtin.copy_ #[54,53] M #[.slice (some ⟨g,i*2,none⟩) (n+1-i) P,.slice (some ⟨K,0,none⟩) 1 1]).run xt W=.ok (goInt 1) (W.setCells g (i*2) [p,q]):=λW af ar M P=>by
  have h:=run_copy_k W 54 53 M 59 g (i*2) (n+1-i) P ⟨K,0,none⟩ 1 1 2 [p,q] underlying54 Z (by rw[X];rfl)
   (λj v E=>by
     rw[af,F,Tm g _ _ _ _ (λh _=>absurd h (by rw[zh];exact aj))];exact ak j v E)
   (λj E=>by rw[af];simp at E;exact O _ a8) (λj E=>by rw[ar,F,Tt];exact U _) (yF hp hq)
  rw[X]at h;exact h
 rw[<-F]at G;have aq:=qL F;have aI:¬((i:Int)=(n:Int)):=a8
 unfold maxLen at N;have aG:IntKind.i64.wrap ((i:Int)+1)=(i:Int)+1:=by rw[TA];omega
 have aA:(0:Int)<=(i:Int)+1:=a8
 have aE:i<=n:=a8
 have aF:((i:Int)+1).toNat=i+1:=a8
 have aB:¬(o=i+1):=a8
 have aC:(i:Int)<=(n:Int)+1:=a8
 have aD:¬(o=i):=a8
 clear o0 o1 o2 g0 g1 g2 eg B u U hg am an ah ai O F T I ak L J H S ao ac ab V X Q Z;go_enter func174,ntmps174
 have av:=λM=>G M (o-(i+1)) (o-i);have ay:xt.follows .mixedOrders=true:=dL
 go_wp2_with (simp only[ax])
 go_region_law_o (refine step_copy_runI rfl _ _ 54 54 rfl _ _ dJ dJ (G _ _ _) ?_)
 go_wp2_with (first|(at_builtin;refine wpList_copy_runI _ rfl _ _ 54 53 rfl _ _ rfl rfl (ag _ (λ_=>rfl) (λ_=>rfl) _ _) ?_))
 have ae:=OF.o;have ad:=GA.o;rw[<-aq.o]at ae ad;refine tA (tL rfl _ _ _) rfl ?_;exact⟨_,rfl,ae,ad,rfl⟩
def Q1(base F:Nat)(H:TypeId)(w:World)(v:Value)(n:Nat)(E:List Value)(p q:Value)(i:Nat)(N:p.oneCell'=true)(O:q.oneCell'=true)(hi:i<=n)(j:OwnC base w v n E)(C:w.heap[F]?=some (.cells #[p,q] H (0,0)))(M:v.ownBlock≠some F)(L:n<=1073741824)(o:base<=w.heap.size):
 Calls xt 174 #[v,.int .i64 (i:Nat),.slice (some ⟨F,0,none⟩) 1 1] w λe I=>∃u,e=.returned u/\OwnC base I u (n+1) (E.take (i*2)++[p,q]++E.drop (i*2))/\w.grownBy I v.ownBlock/\(u.ownBlock=v.ownBlock\/u.ownBlock=some w.heap.size):=by
 have S:=j.2.1;by_cases T:i=n
 .subst T;rw[wm a8,wA a8,Wc];exact zc2 base F H w v i E p q N O j C L o
 .have G:i<n:=a8;rcases j.cases with⟨_,U,_⟩|⟨g,A,P,rfl,_⟩
  .omega
  .by_cases Q:A<n+1
   .refine(zc3 base F H w g A n E p q i N O G j Q C L o).mono ?_;rintro e I ⟨u,rfl,J,B,K⟩;exact⟨u,rfl,J,⟨B.os,B.tape,B.output,B.size,λk hk _=>B.block k hk b6⟩,.inr K⟩
   .refine(JK base F H w g A n E p q i N O G j a8 C (λe=>M (by rw[e];rfl)) L).mono ?_;rintro e I ⟨u,rfl,J,B,K⟩;exact⟨u,rfl,J,B,.inl K⟩
end
section
def Ji:∀(r j:List Nat),YN r->(∀y∈r,y∈j)->r.length<=j.length:=by
 intro r;induction r with
 |nil=>intro j _ _;exact X3 _
 | cons x r ih=>
   intro j h u;have o:=wj.1 h;have:=ih (j.erase x) o.2 λy A=>by have B:=o.1 y A;exact(W6 a8).2 (u y (by simp[A]))
   have w:x∈j:=u x b6;rw[WI w]at this;have:=uj w;simp;omega
def Ed(l:List Iv)(x:Nat):Prop:=x<zk/\mem l x≠(if x=0 then false else mem l (x-1))
def NF.lo_prev:∀{l:List Iv}{n:Nat},NF n l->∀s∈l,s.lo≠0->mem l (s.lo-1)=false
 |[],_,_,s,hs,_=>by cases hs
 | t::l,n,h,s,hs,h0=>by
   obtain⟨o,u,w,j⟩:=h;rcases V3.1 hs with rfl|hs
   .rw[mem_cons,j.mem_lt a8,WE (show ¬s.lo<=s.lo-1 by omega)];rfl
   .have:=j.lo_ge s hs;rw[mem_cons,NF.lo_prev j s hs h0,WE (show ¬s.lo-1<=t.hi by omega)];simp
def NF.asc:∀{l:List Iv}{n:Nat},NF n l->YN (l.map Iv.lo)
 |[],_,_=>List.Pairwise.nil
 |t::l,n,h=>by refine wj.2 ⟨λy j=>?_,NF.asc h.2.2.2⟩;obtain⟨s,hs,rfl⟩:=wD.1 j;have:=h.2.2.2.lo_ge s hs;have:=h.2.1;omega
def zjS{l:List Iv}(h:Nrm l){s:Iv}(hs:s∈l):Ed l s.lo:=by
 have j:=NF.lo_ge h s hs;have o:mem l s.lo=true:=qf.2 ⟨s,hs,Zp _,j.2.1⟩;refine⟨a8,?_⟩;rw[o];split
 .simp
 .rename_i h0;rw[NF.lo_prev h s hs h0];simp
def zcK{l:List Iv}{C:List Nat}(h:Nrm l)(j:∀x,Ed l x->x∈C):l.length<=C.length:=by
 have:=Ji (l.map Iv.lo) C (NF.asc h) λy o=>by obtain⟨s,hs,rfl⟩:=wD.1 o;exact j _ (zjS h hs)
 simpa using this
def Y3{l:List Iv}(h:∀s∈l,s.lo<=s.hi/\s.hi<zk){x:Nat}(o:Ed l x):x∈z6 l:=by
 refine wV λj=>o.2 ?_;split
 .rename_i h0;subst h0;cases hm:mem l 0 with
  |false=>rfl
  |true=>obtain⟨s,hs,w,A⟩:=qf.1 hm;exact absurd (show 0∈z6 l from um.2 ⟨s,hs,V3.2 (.inl a8)⟩) j
 .exact Qh h (x:=x-1) (y:=x) a8 o.1 λc u=>by have:c≠x:=λe=>j (e▸u);omega
def Nrm.ivs2{l:List Iv}(h:Nrm l):∀s∈l,s.lo<=s.hi/\s.hi<zk:=λs hs=>(NF.lo_ge h s hs).2
def zcM{f:Q9}(B:f false false=false){a b:List Iv}(A:Nrm a)(hb:Nrm b){x:Nat}(h:Ed (qy f a b) x):Ed a x\/Ed b x:=by
 obtain⟨o,j⟩:=h;by_cases u:mem a x=(if x=0 then false else mem a (x-1))
 .by_cases w:mem b x=(if x=0 then false else mem b (x-1))
  .refine absurd ?_ j;rw[qj A hb o,u,w];split
   .exact B
   .rw[qj A hb a8]
  .exact .inr ⟨o,w⟩
 .exact .inl ⟨o,u⟩
def zcL{x:Nat}:¬Ed [] x:=λh=>h.2 b6
def zhC{m n x:Nat}(h:Ed [⟨m,n⟩] x):x=m\/x=n+1:=by
 obtain⟨_,h⟩:=h;rw[jl,jl]at h;by_cases e1:x=m
 .exact .inl e1
 .by_cases e2:x=n+1
  .exact .inr e2
  .refine absurd ?_ h;split
   .rename_i h0;rw[WE (show ¬m<=x by omega)];rfl
   .rw[WD];simp only[VS,wG];omega
def EdV(C:Qk)(v:List En):Prop:=∀r x,Ed (zT v r) x->x∈C r
structure IV(C:Qk)(R:List Nat)(v:List En):Prop where
 right:zsC v
 ed:EdV C v
 rep:∀e∈v,e.rep∈R
structure WV(C:Qk)(R:List Nat)(v:List En):Prop where
 can:CanV v
 ed:EdV C v
 rep:∀e∈v,e.rep∈R
variable {C C':Qk}{R R':List Nat}{v a b:List En}
def WV.iv(h:WV C R v):IV C R v:=⟨h.can.right,h.ed,h.rep⟩
def WV.nil:WV C R []:=⟨⟨λe h=>(by cases h),List.Pairwise.nil⟩,λr x h=>absurd h (by rw[knV_nil];exact zcL),λe h=>(by cases h)⟩
def IV.mono(h:IV C R v)(j:∀r x,x∈C r->x∈C' r)(o:∀x∈R,x∈R'):IV C' R' v:=⟨h.right,λr x w=>j _ _ (h.ed r x w),λe u=>o _ (h.rep e u)⟩
def IV.lat{f:Q9}(w:f false false=false)(o:IV C R a)(hb:IV C R b):WV C R (ks f a b):=by
 refine⟨Xe f o.right hb.right,λr x A=>?_,λe B=>?_⟩
 .rw[JR w o.right hb.right]at A;rcases zcM w (qi o.right r) (qi hb.right r) A with h|h
  .exact o.ed r x h
  .exact hb.ed r x h
 .have:=qr.1 (zdd e B);rcases wF.1 this with h|h
  .obtain⟨u,j,h⟩:=wD.1 h;rw[<-h];exact o.rep u j
  .obtain⟨u,j,h⟩:=wD.1 h;rw[<-h];exact hb.rep u j
def IV.canVec(h:IV C R v):WV C R (zi v):=by refine⟨jN h.right,λr x A=>h.ed r x (by rwa[ja h.right]at A),λe w=>?_⟩;obtain⟨o,j,u⟩:=uh.1 w;rw[(v9 u).2.2];exact h.rep o j
def QY{e:En}(h:YP e){L:List Nat}(B:∀x,Ed (kn e) x->x∈L):e.holes.length<=L.length+2:=by
 have u:=ZM h;have w:=(jO h).1;have j:=qT h.1;rw[qD w]at u;have A:e.holes=qy zm [⟨0,QV (kn e)⟩] (kn e):=by have:=WR (λp=>p.1.holes) u;exact this.symm
 have ht:=(x9 j w).2;have o:=qG (X3 (QV (kn e))) ht;rw[A];have:=zcK (C:=0::(QV (kn e)+1)::L) (qH (f:=zm) o j) λx E=>by
  rcases zcM fM0 o j E with h|h
  .rcases zhC h with h|h<;>simp[h]
  .simp[B x h]
 simpa using this
def zb5(h:v.Pairwise λa b=>a.rep<b.rep):YN (zM v):=by unfold YN zM;rw[uw];exact h
def WV.bv(h:WV C R v){n m:Nat}(o:∀r,(C r).length<=n)(A:R.length<=m):BV m (n+2) v:=by
 refine⟨h.can.right,?_,λe j=>?_⟩
 .have:=Ji (zM v) R (zb5 h.can.2) λy w=>(by obtain⟨e,j,rfl⟩:=wD.1 w;exact h.rep e j);simp only[zM,wB]at this;omega
 .have:=QY (h.can.1 e j) (L:=C e.rep) λx u=>h.ed e.rep x (by rw[kq h.can.2 j];exact u);have:=o e.rep;omega
def IV.of(h:zsC v):IV (λr=>z6 (zT v r)) (zM v) v:=⟨h,λr x o=>Y3 (qi h r).ivs2 o,λe j=>wD.2 ⟨e,j,rfl⟩⟩
end
section
open Go.RowKit
def CanV.bd{v:List En}(h:CanV v):∀e∈v,ZL e:=λe j=>Jg (h.1 e j).1
structure Fg where
 items:List Iv
 vec:List En
deriving DecidableEq
instance : Inhabited Fg:=⟨⟨[],[]⟩⟩
def Fg.ext'{f g:Fg}(j:f.items=g.items)(o:f.vec=g.vec):f=g:=by cases f;cases g;simp_all
def fc(f:Fg):List PV:=[rg f.items,vp f.vec]
def fp(f:Fg):PV:=.agg (fc f)
def kp(k:List Fg):PV:=.sl (k.map fc) .sh
attribute [go_sem] kp fp fc
def ZS(f:Fg):Prop:=Nrm f.items/\zsC f.vec
def RightK(k:List Fg):Prop:=∀f∈k,ZS f
def BdF(f:Fg):Prop:=BdR f.items/\(∀e∈f.vec,ZL e)/\f.items.length<=9223372036854775807/\f.vec.length<=9223372036854775807
def BdK(k:List Fg):Prop:=(∀f∈k,BdF f)/\k.length<=9223372036854775807
def vx(k:List Fg):Bool:=k.all (λf=>decide (f.items.length<=20) && JF f.vec) && decide (k.length<=12)
def hkK:Nat->List Fg->Nat×Int
 |_,[]=>(0,-1)
 |i,f::r=>if (Zl f.items).1≠0 then ((Zl f.items).1,(i:Int)) else if (jx f.vec).1≠0 then ((jx f.vec).1,(i:Int)) else hkK (i+1) r
def ckK(k:List Fg):Nat×Int:=hkK 0 k
def Vd:∀(i:Nat)(k:List Fg),(hkK i k).1=0↔∀f∈k,(Zl f.items).1=0/\(jx f.vec).1=0
 |_,[]=>by simp[hkK]
 | i,f::r=>by
   have ih:=Vd (i+1) r;unfold hkK;by_cases o:(Zl f.items).1≠0
   .rw[Vm o];exact⟨λh=>absurd h o,λh=>(h f b6).1⟩
   .rw[Vq o];by_cases u:(jx f.vec).1≠0
    .rw[Vm u];exact⟨λh=>absurd h u,λh=>(h f b6).2⟩
    .rw[Vq u,ih];constructor
     .intro h g j;rcases V3.1 j with rfl|j
      .exact⟨a8,a8⟩
      .exact h g j
     .intro h g j;exact h g (by simp[j])
def ZN{k:List Fg}(hb:BdK k):(ckK k).1=0↔RightK k:=by
 unfold ckK;rw[Vd];constructor
 .intro h f o;obtain⟨u,w⟩:=h f o;have j:=hb.1 f o;exact⟨(YT λs hs=>(j.1 s hs).2).1 u,(XP j.2.1).1 w⟩
 .intro h f o;have j:=hb.1 f o;exact⟨(YT λs hs=>(j.1 s hs).2).2 (h f o).1,(XP j.2.1).2 (h f o).2⟩
def withF(i:Nat):Nat->List Fg->List (Nat×Fg)
 |_,[]=>[]
 |n,f::r=>if mem f.items i=true then (n,f)::withF i (n+1) r else withF i (n+1) r
def QR(i:Nat)(f:Fg):∀(n:Nat)(l:List Fg),withF i n (l++[f])=withF i n l++(if mem f.items i=true then [(n+l.length,f)] else [])
 |n,[]=>by simp[withF]
 | n,g::l=>by
   have ih:=QR i f (n+1) l;have e:n+1+l.length=n+(l.length+1):=a8;rw[yb,withF,withF,ih,ww,e];split<;>simp
def j9{k:List Fg}{j:Nat}(i:Nat)(h:j<k.length):withF i 0 (k.take (j+1))=withF i 0 (k.take j)++(if mem k[j].items i=true then [(j,k[j])] else []):=by rw[X4 h,QR,We,W8 a8,wn]
def jv{i:Nat}{p:Nat×Fg}:∀{n:Nat}{l:List Fg},p∈withF i n l->p.2∈l/\mem p.2.items i=true/\n<=p.1/\p.1<n+l.length
 |n,[],h=>by cases h
 | n,f::l,h=>by
   unfold withF at h;split at h
   .rename_i hf;rcases V3.1 h with rfl|h
    .exact⟨b6,hf,Zp _,b6⟩
    .obtain⟨j,o,u,w⟩:=jv h;exact⟨by simp[j],o,a8,a9⟩
   .obtain⟨j,o,u,w⟩:=jv h;exact⟨by simp[j],o,a8,a9⟩
def Zg(i:Nat):∀(n:Nat)(l:List Fg),(withF i n l).length<=l.length
 |_,[]=>Zp _
 | n,f::l=>by
   have:=Zg i (n+1) l;unfold withF;split<;>simp<;>omega
def YL{i:Nat}{q:Fg->Bool}:∀(n:Nat)(l:List Fg),(withF i n l).any (λp=>q p.2)=l.any λf=>mem f.items i && q f
 |_,[]=>rfl
 | n,f::l=>by
   have ih:=YL (i:=i) (q:=q) (n+1) l;unfold withF;rw[ut,<-ih];cases h:mem f.items i<;>simp
def zU(k:List Fg)(i:Nat):List Nat:=(withF i 0 k).map Prod.fst
def JX{k:List Fg}{j:Nat}(i:Nat)(h:j<k.length):zU (k.take (j+1)) i=zU (k.take j) i++(if mem k[j].items i=true then [j] else []):=by
 unfold zU;rw[j9 i h,WK];split<;>rfl
def zbk(k:List Fg)(i:Nat):(zU k i).length<=k.length:=by unfold zU;rw[wB];exact Zg _ _ _
def hasK(k:List Fg)(i r c:Nat):Bool:=k.any λf=>mem f.items i && mem (zT f.vec r) c
def jh(k:List Fg)(i r c:Nat):(withF i 0 k).any (λp=>mem (zT p.2.vec r) c)=hasK k i r c:=YL (q:=λf=>mem (zT f.vec r) c) 0 k
noncomputable def qc (k:List Fg) (i:Nat):List En:=(withF i 0 k).foldl (λo p=>ks zn o p.2.vec) []
def zbT(i:Nat):qc [] i=[]:=rfl
def Ku{k:List Fg}{j:Nat}(i:Nat)(h:j<k.length):qc (k.take (j+1)) i=if mem k[j].items i=true then ks zn (qc (k.take j) i) k[j].vec else qc (k.take j) i:=by
 unfold qc;rw[j9 i h,W5];split<;>rfl
def RightK.take{k:List Fg}(h:RightK k)(j:Nat):RightK (k.take j):=λf o=>h f (WH o)
def CK(k:List Fg)(r:Nat):List Nat:=k.flatMap λf=>z6 (zT f.vec r)
def RK(k:List Fg):List Nat:=k.flatMap λf=>zM f.vec
def CI(k:List Fg):List Nat:=k.flatMap λf=>z6 f.items
def IV.frag{k:List Fg}(h:RightK k){f:Fg}(j:f∈k):IV (CK k) (RK k) f.vec:=
 (IV.of (h f j).2).mono (λr x o=>um.2 ⟨f,j,o⟩) λx o=>um.2 ⟨f,j,o⟩
def IK(C:Qk)(R:List Nat)(k:List Fg):Prop:=∀f∈k,IV C R f.vec
def RightK.ik{k:List Fg}(h:RightK k):IK (CK k) (RK k) k:=λf j=>IV.frag h j
def IK.take{C:Qk}{R:List Nat}{k:List Fg}(h:IK C R k)(j:Nat):IK C R (k.take j):=λf o=>h f (WH o)
def zgT{C:Qk}{R:List Nat}:∀(l:List (Nat×Fg))(o:List En),(∀p∈l,IV C R p.2.vec)->WV C R o->WV C R (l.foldl (λo p=>ks zn o p.2.vec) o) /\
 ∀r c,c<zk->mem (zT (l.foldl (λo p=>ks zn o p.2.vec) o) r) c=(mem (zT o r) c || l.any λp=>mem (zT p.2.vec r) c)
 |[],o,_,ho=>⟨ho,λr c _=>b6⟩
 |p::l,o,hl,ho=>by have j:=hl p b6;obtain⟨w,A⟩:=zgT l (ks zn o p.2.vec) (λq B=>hl q (by simp[B])) (ho.iv.lat fU0 j);refine⟨w,λr c u=>?_⟩;rw[WU,A r c u,JR fU0 ho.can.right j.right,qj (qi ho.can.right r) (qi j.right r) u,ut];simp only[zn,UF]
def IK.at{C:Qk}{R:List Nat}{k:List Fg}(h:IK C R k)(i:Nat):WV C R (qc k i)/\∀r c,c<zk->mem (zT (qc k i) r) c=hasK k i r c:=by obtain⟨j,o⟩:=zgT (withF i 0 k) [] (λp w=>h _ (jv w).1) WV.nil;refine⟨j,λr c u=>?_⟩;rw[<-jh];have:=o r c u;rw[knV_nil,Xf,uA]at this;exact this
def OkC(C:Qk)(R:List Nat):Prop:=(∀r,(C r).length<=9000)/\R.length<=1048576
def OutG(C:xT)(mb base:Nat)(w:World)(v:Value)(o:List Fg):Prop:=
 ∃j,OwnC base w v o.length j/\∀i (h:i<o.length),∃a b,j[i*2]?=some a/\j[i*2+1]?=some b/\Dat (DX C mb w v) w a (rg o[i].items)/\Dat (DX C mb w v) w b (vp o[i].vec)
def OutG.start(C:xT)(j base:Nat)(w:World):OutG C j base w (.slice none 0 0) []:=⟨[],⟨tV _ _ _ _,rfl,b6⟩,λi h=>absurd h b6⟩
def OutG.owns{C:xT}{u base:Nat}{w:World}{v:Value}{o:List Fg}(h:OutG C u base w v o):∀k,v.ownBlock=some k->base<=k/\k<w.heap.size:=by obtain⟨A,j,_⟩:=h;exact j.1.lt
def OutG.shape{C:xT}{H base:Nat}{w:World}{v:Value}{o:List Fg}(h:OutG C H base w v o):∃u j,v=.slice u o.length j/\o.length<=j/\j<=maxLen:=by
 obtain⟨I,E,_⟩:=h;rcases E.cases with⟨rfl,B,_⟩|⟨g,j,A,rfl,_,_,_,F,G,_⟩
 .exact⟨none,0,by rw[B],a8,b8⟩
 .exact⟨_,j,rfl,F,G⟩
def OwnC.keep{base:Nat}{w w':World}{v:Value}{n:Nat}{xs:List Value}(h:OwnC base w v n xs)(hb:∀k,v.ownBlock=some k->w'.heap[k]?=w.heap[k]?):OwnC base w' v n xs:=by
 refine⟨⟨h.1.1,?_⟩,h.2⟩;rcases h.1.2 with h|⟨g,j,o,e,A,u,r⟩
 .exact .inl h
 .exact .inr ⟨g,j,o,e,A,(hb g (by rw[e];rfl)).trans u,r⟩
def OutG.keep{C:xT}{u base:Nat}{w w':World}{v:Value}{o:List Fg}(h:OutG C u base w v o)(hs:w.heap.size<=w'.heap.size)(hb:∀k,k<w.heap.size->w'.heap[k]?=w.heap[k]?):OutG C u base w' v o:=by obtain⟨xs,j,A⟩:=h;refine⟨xs,j.keep λk hk=>hb k (j.1.lt k hk).2,λi hi=>?_⟩;obtain⟨a,b,c,d,e,f⟩:=A i hi;exact⟨a,b,c,d,DX.keep e hs λk hk _=>hb k hk,DX.keep f hs λk hk _=>hb k hk⟩
def DX.grown{C:xT}{u:Nat}{w B:World}{v A x:Value}{p:PV}(h:Dat (DX C u w v) w x p)(G:∀b o,C b o->b<u)(H:u<w.heap.size)(E:w.grownBy B v.ownBlock)(j:A.ownBlock=v.ownBlock\/A.ownBlock=some w.heap.size):Dat (DX C u B A) B x p:=
 h.mono (λb o h=>⟨h.1.imp id λh=>⟨h.1,vw h.2 E.size⟩,λe=>by
  rcases j with j|j
  .exact h.2 (j.symm.trans e)
  .rw[j]at e;cases e;rcases h.1 with h|h
   .have:=G _ _ h;omega
   .omega⟩) λb o x h F=>(tp (a:=⟨b,o,none⟩) (E.block b (tr w ⟨b,o,none⟩ F) λe=>h.2 e.symm)).trans F
def zeu{D:xT}{w:World}{v:Value}{l:List En}(h:Dat D w v (vp l)):v.oneCell'=true:=by have o:Dat D w v (.sl (l.map ec) .sh):=h;obtain⟨A,j,sz,b,u,f,e1,_⟩:=(Rel.dat (ρ:=λ_=>0) (nb:=0) o).inv_sl;rw[e1];rfl
def OutG.insK{C:xT}{E base:Nat}{w H:World}{v J:Value}{o:List Fg}{f:Fg}{F:List Value}{p q:Value}{i:Nat}(hi:i<=o.length)(Q:F.length=o.length*2)
 (K:∀i (h:i<o.length),∃a b,F[i*2]?=some a/\F[i*2+1]?=some b/\Dat (DX C E w v) w a (rg o[i].items)/\Dat (DX C E w v) w b (vp o[i].vec))
 (O:Dat (DX C E w v) w p (rg f.items)) (P:Dat (DX C E w v) w q (vp f.vec)) (u:∀{x:Value}{p:PV},Dat (DX C E w v) w x p->Dat (DX C E H J) H x p)
 (ho:OwnC base H J (o.length+1) (F.take (i*2)++[p,q]++F.drop (i*2))):OutG C E base H J (o.take i++f::o.drop i):=by
 have B:(o.take i++f::o.drop i).length=o.length+1:=a9
 have ht:(F.take (i*2)).length=i*2:=a9
 refine⟨_,by rw[B];exact ho,λj M=>?_⟩;rw[B]at M;rcases WN j i with N|I|L
 .obtain⟨a,b,c,d,e,k⟩:=K j a8;have A:(o.take i++f::o.drop i)[j]=o[j]'a8:=(by rw[ur a9,uX]);rw[A];refine⟨a,b,?_,?_,u e,u k⟩
  .rw[wU,V2 a8,wt,Vm a8];exact c
  .rw[wU,V2 a8,wt,Vm a8];exact d
 .subst I;have A:(o.take j++f::o.drop j)[j]=f:=by rw[Wy (by rw[We];exact UJ _ _)];simp[W8 hi]
  rw[A];refine⟨p,q,?_,?_,u O,u P⟩
  .rw[wU,V1 a8,ht,UP];rfl
  .rw[wU,V1 a8,ht,show j*2+1-j*2=1 by omega];rfl
 .obtain⟨a,b,c,d,e,k⟩:=K (j-1) a8;have A:(o.take i++f::o.drop i)[j]=o[j-1]'a8:=(by rw[Wy a9];obtain⟨m,rfl⟩:∃m,j=i+1+m:=⟨j-(i+1),a8⟩;simp only[We,W8 hi,show i+1+m-i=m+1 by omega,WQ,Uu,show i+1+m-1=i+m by omega]);rw[A];have G:(F.take (i*2)++[p,q]).length=i*2+2:=a9;refine⟨a,b,?_,?_,u e,u k⟩
  .rw[V1 a8,G,Wn,show i*2+(j*2-(i*2+2))=(j-1)*2 by omega];exact c
  .rw[V1 a8,G,Wn,show i*2+(j*2+1-(i*2+2))=(j-1)*2+1 by omega];exact d
def OutG.ins{C:xT}{j base:Nat}{w F:World}{v A:Value}{o:List Fg}{f:Fg}{u:List Value}{p q:Value}{i:Nat}(hi:i<=o.length)(J:u.length=o.length*2)
 (G:∀i (h:i<o.length),∃a b,u[i*2]?=some a/\u[i*2+1]?=some b/\Dat (DX C j w v) w a (rg o[i].items)/\Dat (DX C j w v) w b (vp o[i].vec))
 (K:Dat (DX C j w v) w p (rg f.items)) (L:Dat (DX C j w v) w q (vp f.vec)) (H:∀b o,C b o->b<j) (B:j<w.heap.size)
 (ho:OwnC base F A (o.length+1) (u.take (i*2)++[p,q]++u.drop (i*2))) (I:w.grownBy F v.ownBlock) (E:A.ownBlock=v.ownBlock\/A.ownBlock=some w.heap.size):OutG C j base F A (o.take i++f::o.drop i):=
 OutG.insK hi J G K L (λh=>DX.grown h H B I E) ho
def DX.new{C:xT}{B:Nat}{w u:World}{v E x:Value}{p:PV}(h:Dat (DX C B w v) w x p)(F:∀b o,C b o->b<w.heap.size)(hb:Below w.heap.size w u)(j:∀k,E.ownBlock=some k->w.heap.size<=k):Dat (DX C B u E) u x p:=
 h.mono (λb o h=>⟨h.1.imp id λh=>⟨h.1,vw h.2 hb.size⟩,λe=>by
  have:=j b e;rcases h.1 with h|h
  .have:=F _ _ h;omega
  .omega⟩) λb o x _ A=>(tp (a:=⟨b,o,none⟩) (hb.block b (tr w ⟨b,o,none⟩ A))).trans A
def OutG.set{C:xT}{I base g:Nat}{w:World}{A:Nat}{o:List Fg}{l:List Iv}{F:Value}{i:Nat}(h:OutG C I base w (.slice (some ⟨g,0,none⟩) o.length A) o)(hi:i<o.length)(O:Dat (DX C I w (.slice (some ⟨g,0,none⟩) o.length A)) w F (rg l))(P:0<A):
 OutG C I base (w.setCell ⟨g,i*2,none⟩ F) (.slice (some ⟨g,0,none⟩) o.length A) (o.take i++⟨l,o[i].vec⟩::o.drop (i+1)):=by
 obtain⟨Y,J,S⟩:=h;have B:(o.take i++(⟨l,o[i].vec⟩:Fg)::o.drop (i+1)).length=o.length:=a9
 obtain⟨X,Z⟩:=J.1.stored (i*2) F;have K:(Value.slice (some ⟨g,0,none⟩) o.length A).ownBlock=some g:=by
  cases A with
  |zero=>omega
  |succ c=>rfl
 have E:∀{x:Value}{p:PV},Dat (DX C I w (.slice (some ⟨g,0,none⟩) o.length A)) w x p->Dat (DX C I (w.setCell ⟨g,i*2,none⟩ F) (.slice (some ⟨g,0,none⟩) o.length A)) (w.setCell ⟨g,i*2,none⟩ F) x p:=λh=>
  DX.keep h b6 λk hk M=>tz _ _ _ _ λe=>M (by rw[K];exact WR some e.symm)
 refine⟨Y.set (i*2) F,⟨by rw[B];exact X,by rw[B,Ui];exact J.2.1,λu N=>?_⟩,λj Q=>?_⟩
 .rcases Ud N with N|rfl
  .exact J.2.2 u N
  .exact Ki O
 .have L:j<o.length:=(by rw[B]at Q;exact Q);obtain⟨a,b,c,d,e,k⟩:=S j L;have V:=J.2.1;by_cases H:j=i
  .subst H;have G:(o.take j++(⟨l,o[j].vec⟩:Fg)::o.drop (j+1))[j]=⟨l,o[j].vec⟩:=by rw[Wy (by rw[We];exact UJ _ _)];simp[W8 (uz hi)]
   rw[G];refine⟨F,b,?_,?_,E O,E k⟩
   .rw[WP a8]
   .rw[wW a8];exact d
  .have G:(o.take i++(⟨l,o[i].vec⟩:Fg)::o.drop (i+1))[j]=o[j]:=by
    rcases Nat.lt_or_gt_of_ne H with U|T
    .rw[ur a9,uX]
    .rw[Wy a9];obtain⟨m,rfl⟩:∃m,j=i+1+m:=⟨j-(i+1),a8⟩;simp only[We,W8 (uz hi),show i+1+m-i=m+1 by omega,WQ,Uu]
   rw[G];refine⟨a,b,?_,?_,E e,E k⟩
   .rw[wW a8];exact c
   .rw[wW a8];exact d
def OutG.setV{C:xT}{E base g:Nat}{w:World}{A:Nat}{o:List Fg}{a0:Value}{i n:Nat}(O:o.length=n)(h:OutG C E base w (.slice (some ⟨g,0,none⟩) n A) o)(hi:i<o.length)(K:Dat (DX C E w (.slice (some ⟨g,0,none⟩) n A)) w a0 (vp o[i].vec))(L:0<A):
 OutG C E base (w.setCell ⟨g,i*2+1,none⟩ a0) (.slice (some ⟨g,0,none⟩) n A) o:=by
 subst O;obtain⟨S,F,M⟩:=h;obtain⟨Q,T⟩:=F.1.stored (i*2+1) a0;have G:(Value.slice (some ⟨g,0,none⟩) o.length A).ownBlock=some g:=by
  cases A with
  |zero=>omega
  |succ c=>rfl
 have B:∀{x:Value}{p:PV},Dat (DX C E w (.slice (some ⟨g,0,none⟩) o.length A)) w x p->Dat (DX C E (w.setCell ⟨g,i*2+1,none⟩ a0) (.slice (some ⟨g,0,none⟩) o.length A)) (w.setCell ⟨g,i*2+1,none⟩ a0) x p:=λh=>
  DX.keep h b6 λk hk I=>tz _ _ _ _ λe=>I (by rw[G];exact WR some e.symm)
 refine⟨S.set (i*2+1) a0,⟨Q,by rw[Ui];exact F.2.1,λu J=>?_⟩,λj N=>?_⟩
 .rcases Ud J with J|rfl
  .exact F.2.2 u J
  .exact zeu K
 .obtain⟨a,b,c,d,e,k⟩:=M j N;have P:=F.2.1;by_cases H:j=i
  .subst H;refine⟨a,a0,?_,?_,B e,B K⟩
   .rw[wW a8];exact c
   .rw[WP a8]
  .refine⟨a,b,?_,?_,B e,B k⟩
   .rw[wW a8];exact c
   .rw[wW a8];exact d
def OutG.dat{C:xT}{I base:Nat}{w:World}{v:Value}{o:List Fg}(h:OutG C I base w v o)(hb:I<base):Dat (DL C I w) w v (kp o):=by
 obtain⟨L,M,P⟩:=h;rcases M.1.2 with⟨rfl,O⟩|⟨g,J,N,rfl,Y,S,X,V,hs,ht⟩
 .obtain rfl:=wY.1 O;exact .sl none 0 2 [] .sh 0 0 (λ_=>undef) b6 (λh=>by cases h) b8 (λh=>absurd rfl h) (λi e h=>by simp at h) (λj h=>by simp at h) (λi e j p h=>by simp at h)
 .have K:=(Yf.1 S).1;have G:∀j x,L[j]?=some x->w.cell? ⟨g,j,none⟩=some x:=λj x B=>(by have:=M.1.cells (g:=g) rfl j x B;rw[zh,wn]at this;exact this);have u:∀i (h:i<o.length) j p,(fc o[i])[j]?=some p->∃x,L[i*2+j]?=some x/\Dat (DL C I w) w x p/\x.oneCell'=true:=λi h j p E=>by
   obtain⟨a,b,c,d,e,k⟩:=P i h;match j,E with
   |0,E=>cases E;exact⟨_,c,e.mono (λ_ _ h=>h.1) λ_ _ _ _ h=>h,Ki e⟩
   |1,E=>cases E;exact⟨_,d,k.mono (λ_ _ h=>h.1) λ_ _ _ _ h=>h,zeu k⟩
   |j+2,E=>simp[fc]at E
  have F:∀(i:Nat)(e:List PV),(o.map fc)[i]?=some e->∃h:i<o.length,e=fc o[i]:=λi e H=>(by rw[wh]at H;obtain⟨x,B,rfl⟩:=ZZ.1 H;obtain⟨h,rfl⟩:=Zw.1 B;exact⟨h,rfl⟩);have A:(o.map fc).length=o.length:=wB _;unfold kp;rw[<-A];refine .sl (some ⟨g,0,none⟩) J 2 (o.map fc) .sh g 0 (λj=>(L[j]?).getD undef) (by rw[A];exact X) (λh=>by cases h) V (λ_=>rfl) (λi e H=>?_) (λj U=>?_) (λi e j p H E=>?_)
  .obtain⟨h,rfl⟩:=F i e H;rfl
  .rw[A]at U;have hi:j/2<o.length:=a8;have Q:j%2<(fc o[j/2]).length:=U3 _ b8;obtain⟨x,B,_,ho⟩:=u (j/2) hi (j%2) ((fc o[j/2])[j%2]) (Zv Q);rw[show j/2*2+j%2=j by omega]at B;rw[wn];refine⟨.inr ⟨a8,K⟩,?_,?_⟩
   .rw[B];exact G j x B
   .rw[B];exact ho
  .obtain⟨h,rfl⟩:=F i e H;obtain⟨x,B,T,_⟩:=u i h j p E;rw[B];exact T
def OutG.box{C:xT}{u base rb:Nat}{w:World}{v x:Value}{o:List Fg}(h:OutG C u base w v o)(hb:rb<u)(F:rb<base)(E:∀b o,C b o->b≠rb):OutG C u base (w.setCell ⟨rb,0,none⟩ x) v o:=by
 have j:∀{y:Value}{p:PV},Dat (DX C u w v) w y p->Dat (DX C u (w.setCell ⟨rb,0,none⟩ x) v) (w.setCell ⟨rb,0,none⟩ x) y p:=λh=>
  h.mono (λb o h=>⟨h.1.imp id λh=>⟨h.1,dK h.2⟩,h.2⟩) λb o y h G=>(tp (a:=⟨b,o,none⟩) (tz _ _ _ _ (by
   show b≠rb;rcases h.1 with h|h
   .exact E _ _ h
   .omega))).trans G
 obtain⟨H,A,B⟩:=h;refine⟨H,A.keep λk hk=>tz _ _ _ _ (by have:=(A.1.lt k hk).1;show k≠rb;omega),λi hi=>?_⟩;obtain⟨a,b,c,d,e,f⟩:=B i hi;exact⟨a,b,c,d,j e,j f⟩
def qX(k:List Fg)(x y:Nat):Bool:=k.all λf=>mem f.items x == mem f.items y
def qo{k:List Fg}{x y:Nat}:qX k x y=true↔∀f∈k,mem f.items x=mem f.items y:=by simp[qX]
def j8{x y:Nat}:∀{k:List Fg}{n:Nat},(∀f∈k,mem f.items x=mem f.items y)->withF x n k=withF y n k
 |[],_,_=>rfl
 |f::k,n,h=>by rw[withF,withF,j8 (k:=k) λg j=>h g (by simp[j]),h f b6]
def Zh{x y:Nat}:∀{k:List Fg}{n:Nat},(withF x n k).map Prod.fst=(withF y n k).map Prod.fst->∀f∈k,mem f.items x=mem f.items y
 |[],_,_,f,j=>by cases j
 | g::k,n,h,f,j=>by
   have no:∀z,n∉(withF z (n+1) k).map Prod.fst:=λz hz=>(by obtain⟨p,o,e⟩:=wD.1 hz;have:=(jv o).2.2.1;omega);rw[withF,withF]at h;cases hx:mem g.items x<;>cases hy:mem g.items y<;>rw[hx,hy]at h<;>simp only[UM,U0,uC,WA]at h
   .rcases V3.1 j with rfl|j
    .rw[hx,hy]
    .exact Zh h f j
   .exact absurd (h▸WJ) (no x)
   .exact absurd (h▸WJ) (no y)
   .rcases V3.1 j with rfl|j
    .rw[hx,hy]
    .exact Zh (List.cons.inj h).2 f j
def Vp{k:List Fg}{x y:Nat}:zU k x=zU k y↔qX k x y=true:=by rw[qo];exact⟨λh=>Zh h,λh=>by unfold zU;rw[j8 h]⟩
def Yt{k:List Fg}{x y:Nat}(h:qX k x y=true)(r c:Nat):hasK k x r c=hasK k y r c:=by rw[<-jh,<-jh,j8 (qo.1 h)]
def km{k:List Fg}{i r c:Nat}:hasK k i r c=true↔∃f∈k,mem f.items i=true/\mem (zT f.vec r) c=true:=by simp[hasK]
noncomputable def zq (k:List Fg):List Nat:=(zH (k.map Fg.items)).filter λx=>decide (x=0) || !qX k (x-1) x
def xc(k:List Fg):YN (zq k):=(x8 _).filter _
def vZ{k:List Fg}(h:RightK k){x:Nat}:x∈zq k↔x<zk/\(x=0\/qX k (x-1) x=false):=by
 unfold zq;rw[WB];constructor
 .rintro⟨u,o⟩;refine⟨Ze (λl E s hs=>?_) x u,dK o⟩;obtain⟨f,j,rfl⟩:=wD.1 E;have:=NF.lo_ge (h f j).1 s hs;omega
 .rintro⟨u,o⟩;refine⟨?_,dK o⟩;unfold zH;rw[qr];unfold yU;rcases Wl x with A|A
  .simp[A]
  .have B:=o.resolve_left a8;refine V3.2 (.inr ?_);have:∃f∈k,mem f.items (x-1)≠mem f.items x:=wV λF=>(by have:qX k (x-1) x=true:=qo.2 λf j=>wV λC=>F ⟨f,j,C⟩;rw[B]at this;cases this);obtain⟨f,j,w⟩:=this;exact um.2 ⟨f.items,wD.2 ⟨f,j,rfl⟩,Y3 (h f j).1.ivs2 ⟨u,by rw[Vq a8];exact λe=>w e.symm⟩⟩
def XC{k:List Fg}(h:RightK k):0∈zq k:=(vZ h).2 ⟨xM,.inl rfl⟩
def vY(k:List Fg):(zq k).length<=1+(CI k).length:=by
 have j:(zq k).length<=(zH (k.map Fg.items)).length:=WF _ _;have o:(zH (k.map Fg.items)).length<=(yU (k.map Fg.items)).length:=ju _;have u:(yU (k.map Fg.items)).length=1+(CI k).length:=by unfold yU CI;rw[ww,Ua];omega
 omega
def vN:List Nat->List Iv
 |[]=>[]
 |[x]=>[⟨x,zk-1⟩]
 |x::y::r=>⟨x,y-1⟩::vN (y::r)
def vO:∀l:List Nat,(vN l).length=l.length
 |[]=>rfl
 |[_]=>rfl
 |x::y::r=>by rw[vN,ww,vO (y::r)];rfl
def Vx:∀(l:List Nat)(i:Nat)(h:i<l.length),(vN l)[i]'(by rw[vO];exact h)=⟨l[i],if h:i+1<l.length then l[i+1]-1 else zk-1⟩
 |[x],0,_=>by simp[vN]
 |x::y::r,0,_=>by simp[vN]
 |x::y::r,i+1,h=>by have:=Vx (y::r) i (dK h);simp only[vN,WQ];rw[this];simp
def YD:∀{l:List Nat},YN l->(∀x∈l,x<zk)->(∀s∈vN l,s.lo<=s.hi/\s.hi<zk/\s.lo∈l)/\(vN l).Pairwise (λs t=>s.hi<t.lo)/\(∀s∈vN l,∀y∈l,s.lo<y->s.hi<y)/\∀i x r,l=x::r->x<=i->i<zk->∃s∈vN l,s.lo<=i/\i<=s.hi
 |[],_,_=>⟨λs h=>(by cases h),List.Pairwise.nil,λs h=>(by cases h),λi x r h=>by cases h⟩
 | [x],_,hl=>by
   have M:=hl x b6;refine⟨λs h=>?_,by simp[vN],λs h y B j=>?_,λi y r h u C=>?_⟩
   .simp only[vN,wH]at h;subst h;exact⟨by simp only;omega,by simp only;omega,b6⟩
   .simp only[vN,wH]at h B;subst h B;simp at j
   .cases h;exact⟨⟨x,zk-1⟩,by simp[vN],u,by simp only;omega⟩
 | x::y::r,ha,hl=>by
   have A:=wj.1 ha;have G:=A.1 y b6;have B:=hl y b6;obtain⟨u,C,E,F⟩:=YD A.2 λz hz=>hl z (by simp[hz]);have o:∀z∈y::r,y<=z:=λz hz=>by
    rcases V3.1 hz with rfl|hz
    .exact Zp _
    .exact uz ((wj.1 A.2).1 z hz)
   rw[vN];refine⟨λs h=>?_,wj.2 ⟨λt ht=>?_,C⟩,λs h z hz j=>?_,λi O N h H I=>?_⟩
   .rcases V3.1 h with rfl|h
    .exact⟨by simp only;omega,by simp only;omega,b6⟩
    .obtain⟨J,K,L⟩:=u s h;exact⟨J,K,by rw[V3];exact .inr L⟩
   .have:=o _ (u t ht).2.2;simp only;omega
   .rcases V3.1 h with e|w
    .subst e;rcases V3.1 hz with e|hz
     .subst e;simp at j
     .have:=o z hz;simp only;omega
    .rcases V3.1 hz with e|hz
     .subst e;have:=o _ (u s w).2.2;omega
     .exact E s w z hz j
   .cases h;rcases wL i y with hi|hi
    .exact⟨⟨x,y-1⟩,b6,H,by simp only;omega⟩
    .obtain⟨s,hs,q⟩:=F i y r rfl hi I;exact⟨s,by simp[hs],q⟩
noncomputable def cutsK (k:List Fg):List Iv:=vN (zq k)
noncomputable def zu (k:List Fg):List Iv:=(cutsK k).filter λs=>decide (0<(zU k s.lo).length)
section
variable {k:List Fg}(h:RightK k)
include h
theorem x7:∀x∈zq k,x<zk:=λx j=>((vZ h).1 j).1
theorem xO:(∀s∈cutsK k,s.lo<=s.hi/\s.hi<zk/\s.lo∈zq k)/\(cutsK k).Pairwise (λs t=>s.hi<t.lo)/\(∀s∈cutsK k,∀y∈zq k,s.lo<y->s.hi<y)/\∀i,i<zk->∃s∈cutsK k,s.lo<=i/\i<=s.hi:=by
 obtain⟨u,w,A,B⟩:=YD (xc k) (x7 h);refine⟨u,w,A,λi hi=>?_⟩;have j:=XC h;cases hs:zq k with
 |nil=>rw[hs]at j;cases j
 | cons x r=>
   have:x=0:=by
    rw[hs]at j;rcases V3.1 j with e|e
    .exact e.symm
    .have o:=xc k;rw[hs]at o;have:=(wj.1 o).1 0 e;omega
   exact B i x r hs a8 hi
theorem jR{s:Iv}(hs:s∈cutsK k):∀{x:Nat},s.lo<=x->x<=s.hi->qX k s.lo x=true:=by
 obtain⟨w,_,A,_⟩:=xO h;intro x;induction x with
 |zero=>intro j _;rw[show s.lo=0 by omega];exact qo.2 λf _=>rfl
 | succ x ih=>
   intro j E;rcases uE j with e|o
   .rw[e];exact qo.2 λf _=>rfl
   .have B:=ih a8 a8;have C:qX k x (x+1)=true:=by
     cases h7:qX k x (x+1)with
     |true=>rfl
     |false=>have:=A s hs (x+1) ((vZ h).2 ⟨by have:=(w s hs).2.1;omega,.inr (by rw[Nat.add_sub_cancel];exact h7)⟩) o;omega
    exact qo.2 λf u=>(qo.1 B f u).trans (qo.1 C f u)
theorem Xj{i:Nat}(hi:i<zk)(u:0<(zU k i).length):∃s∈zu k,s.lo<=i/\i<=s.hi:=by obtain⟨s,hs,j,o⟩:=(xO h).2.2.2 i hi;refine⟨s,WB.2 ⟨hs,?_⟩,j,o⟩;rw[wG,Vp.2 (jR h hs j o)];exact u
theorem yt:(∀s∈zu k,s.lo<=s.hi/\s.hi<zk/\s∈cutsK k/\0<(zU k s.lo).length)/\(zu k).Pairwise (λs t=>s.hi<t.lo):=by refine⟨λs hs=>?_,(xO h).2.1.filter _⟩;obtain⟨j,o⟩:=WB.1 hs;obtain⟨u,w,_⟩:=(xO h).1 s j;exact⟨u,w,j,dK o⟩
end
def xW(k:List Fg):(zu k).length<=1+(CI k).length:=by have j:(zu k).length<=(cutsK k).length:=WF _ _;have o:(cutsK k).length=(zq k).length:=vO _;have:=vY k;omega
noncomputable def jq (k:List Fg):List Fg:=(zu k).map λs=>⟨[s],qc k s.lo⟩
def ZB{k:List Fg}{f:Fg}(j:f∈jq k):∃s∈zu k,f=⟨[s],qc k s.lo⟩:=by obtain⟨s,hs,e⟩:=wD.1 j;exact⟨s,hs,e.symm⟩
def zfJ{s:Iv}{x:Nat}:mem [s] x=true↔s.lo<=x/\x<=s.hi:=by simp[mem]
def xh(k:List Fg):Prop:=k.Pairwise λf g=>∀x,x<zk->¬(mem f.items x=true/\mem g.items x=true)
def IK.refine{C:Qk}{R:List Nat}{k:List Fg}(hk:IK C R k):∀f∈jq k,WV C R f.vec:=λf j=>by obtain⟨s,_,rfl⟩:=ZB j;exact(hk.at s.lo).1
def Yb{k:List Fg}(h:RightK k):RightK (jq k):=λf u=>by obtain⟨s,hs,rfl⟩:=ZB u;obtain⟨j,o,_⟩:=(yt h).1 s hs;exact⟨qG j o,(h.ik.at s.lo).1.can.right⟩
def zeD{k:List Fg}(h:RightK k):xh (jq k):=by unfold xh jq;rw[uw];refine(yt h).2.imp λhst x _ ⟨h1,h2⟩=>?_;have:=zfJ.1 h1;have:=zfJ.1 h2;omega
def JJ{k:List Fg}(h:RightK k){V:Nat->List En}{P:Nat->Nat->Nat->Bool}(B:∀x r c,x<zk->c<zk->mem (zT (V x) r) c=P x r c)(hs:∀x y r c,qX k x y=true->P x r c=P y r c)(F:∀x r c,zU k x=[]->P x r c=false)
 {i r c:Nat} (hi:i<zk) (C:c<zk):hasK ((zu k).map λs=>⟨[s],V s.lo⟩) i r c=P i r c:=by
 rw[WD,km];constructor
 .rintro⟨f,G,u,o⟩;obtain⟨s,j,rfl⟩:=wD.1 G;obtain⟨I,J,w,_⟩:=(yt h).1 s j;have A:=zfJ.1 u;rw[B s.lo r c a8 C,hs _ _ _ _ (jR h w A.1 A.2)]at o;exact o
 .intro E;have H:0<(zU k i).length:=Nat.pos_of_ne_zero λe=>by have:=F i r c (wY.1 e);rw[E]at this;cases this
  obtain⟨s,j,u,o⟩:=Xj h hi H;obtain⟨I,J,w,_⟩:=(yt h).1 s j;refine⟨_,wD.2 ⟨s,j,rfl⟩,zfJ.2 ⟨u,o⟩,?_⟩;rw[B s.lo r c a8 C,hs _ _ _ _ (jR h w u o)];exact E
def zc0{k:List Fg}{x:Nat}(r c:Nat)(h:zU k x=[]):hasK k x r c=false:=by rw[<-jh];unfold zU at h;rw[List.map_eq_nil_iff.1 h];rfl
def zfp{k:List Fg}(h:RightK k){i r c:Nat}(hi:i<zk)(j:c<zk):hasK (jq k) i r c=hasK k i r c:=
 JJ h (V:=qc k) (P:=hasK k) (λx r c _ j=>(h.ik.at x).2 r c j) (λ_ _ r c h=>Yt h r c) (λ_ r c h=>zc0 r c h) hi j
end
end Go.Proofs.YtmpnbdhadjfbhaaGreatDoor
