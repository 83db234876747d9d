import Derived.Test.YtjdjjlkifdimkaaGreatDoorB18
set_option maxHeartbeats 16000000
set_option linter.all false
set_option maxRecDepth 100000
namespace Go.Proofs.YtjdjjlkifdimkaaGreatDoor
def dJ{p:Prop}(h:p:=by simp [Value.ownBlock]<;>omega):p:=h
open Go.Proofs.Tryz
open Go.Proofs.Tryz renaming prog->xT
section
open Go.RowKit Go.Maps
attribute [-go_sem] z7
def zim{D:Qk}{w:World}{v:Value}{l:List Nat}(h:Dat D w v (ns l)):∃G y,v=.slice G l.length y/\l.length<=y/\y<=maxLen/\(l≠[]->∃b A,G=some ⟨b,A,none⟩/\∀j (J:j<l.length),D b (A+j)/\w.cell? ⟨b,A+j,none⟩=some (.int .u64 (l[j]:Nat))):=by
 unfold ns at h;generalize I:l.map yN=es at h;cases h with
 |sl a y sz es o b A u hc hz hm ha hsz hd hx=>have K:es.length=l.length:=(by rw[<-I];simp);refine⟨a,y,by rw[K],b6,hm,λF=>?_⟩;have B:0<l.length:=Wb.2 F;have g:∀i (h:i<l.length),es[i]?=some (yN l[i]):=λi h=>(by rw[<-I];exact xo h);obtain rfl:1=sz:=hsz 0 _ (g 0 B);have E:es≠[]:=(by intro e;subst e;simp at K;omega);refine⟨b,A,ha E,λj J=>?_⟩;have L:=(hx j _ 0 _ (g j J) rfl).v_inv;obtain⟨H,C,_⟩:=hd (j*1+0) b6;rw[L]at C;simp only[Up,uj]at H C;exact⟨H,C⟩
def ve{P:Program}(w:World)(t u e:TypeId)(i:TypeInfo)(ht:P.underlying t=some (.slice e))(hi:P.info? e=some i)(j:Option Addr)(n cp c:Nat)(o:n<=cp):
 (Builtin.append_ #[t,t] u #[.slice j n cp,.slice none 0 c]).run P w=.ok (.slice j n cp) w:=by
 cases j<;>simp[Builtin.append_,tN ht,sizeOf,typeInfo,hi,Builtin.lenOf,Builtin.firstCells,o,storeCells]
def zbE(w:World)(t M:TypeId)(ht:xT.underlying t=some (.slice 36))(base:Nat)(v:Value)(n:Nat)(N:List Value)(y:w.ownsRow base 36 1 v n N)(G:Option Addr)(m c:Nat)(o:List Value)(O:o.length=m)
 (B:(m=0/\G=none)\/∃a,G=some a/\∀j u,o[j]?=some u->w.cell? (a.add j)=some u) (U:∀u∈o,u.oneCell'=true) (V:n+m<=17179869184) (A:base<=w.heap.size) :
 ∃C F,(Builtin.append_ #[t,t] M #[v,.slice G m c]).run xT w=.ok C F/\F.ownsRow base 36 1 C (n+m) (N++o)/\w.grownBy F v.ownBlock/\(C.ownBlock=v.ownBlock\/C.ownBlock=some w.heap.size):=by
 obtain⟨Q,E,J,K,L⟩:=tV Vf;rcases B with⟨rfl,rfl⟩|⟨a,rfl,X⟩
 .obtain rfl:o=[]:=Wc.1 O;obtain⟨H,cp,rfl,I⟩:∃H cp,v=.slice H n cp/\n<=cp:=by
   rcases y.2 with⟨rfl,rfl⟩|⟨g,S,T,rfl,_,_,h,_⟩
   .exact⟨none,0,rfl,Zp _⟩
   .exact⟨_,_,rfl,h⟩
  exact⟨_,w,ve w t M _ Q ht E H n cp c I,dM y,jW _ _,.inl rfl⟩
 .obtain⟨C,F,Y,Z,r3,_,r5⟩:=Tm (P:=xT) w base t M 36 Q _ 1 8 ht E J K L rfl dE v n N y a m c o (dM O) X U dG b6 A;exact⟨C,F,Y,Z,r3,r5⟩
def xK{G:Array Oper}{o:Oper}{a:Act}{w:World}{K:Act->World->Prop}{Q:Exit->Act->World->Prop}{E:Prop}(s x:Operand)(t:TypeId)(L:o.guard=none)
 (ho:o.op=.call { callee:=.builtin .append,args:=#[s,x],argTypes:=#[t,t] }) (ht:xT.underlying t=some (.slice 36)) (base:Nat) (v:Value) (n:Nat) (M:List Value) (hs:a.eval s=v) (F:w.ownsRow base 36 1 v n M)
 (I:Option Addr) (m c:Nat) (y:List Value) (X:a.eval x=.slice I m c) (T:y.length=m) (B:(m=0/\I=none)\/∃a,I=some a/\∀j u,y[j]?=some u->w.cell? (a.add j)=some u) (N:∀u∈y,u.oneCell'=true) (J:n+m<=17179869184) (A:base<=w.heap.size)
 (h:∀C H,H.ownsRow base 36 1 C (n+m) (M++y)->w.grownBy H v.ownBlock->(C.ownBlock=v.ownBlock\/C.ownBlock=some w.heap.size)->K (a.put o.dst C) H):if Region.wanted o (yielded G a.tmps)=true then Oper.wp xT o a w K Q else E:=by
 have V:Region.wanted o (yielded G a.tmps)=true:=by simp[Region.wanted,L]
 rw[VS V];obtain⟨C,H,U,O,P,S⟩:=zbE w t o.type ht base v n M F I m c y T B N J A;unfold Oper.wp execOp;simp only[ho,resolve,invoke,builtin,tM,tP,tH,ul,WC,uf,hs,X,U];exact h C H O P S
def zdy{w:World}{base A:Nat}(j:base<=A)(h:w.heap[A]?=some (.cells #[] 36 (0,0))):w.ownsRow base 36 1 (.slice (some ⟨A,0,none⟩) 0 0) 0 []:=⟨rfl,.inr ⟨A,0,#[],rfl,j,h,Zp _,vj _,rfl,rfl⟩⟩
def yw(w:World)(o j:Obj):((w.alloc o).alloc j).heap[w.heap.size]?=some o:=(tC _ _ _ b8).trans (tx w o)
def yx(w:World)(o j:Obj):((w.alloc o).alloc j).heap[w.heap.size+1]?=some j:=by
 have:=tx (w.alloc o) j
 rwa[tE]at this
def YR(w:World)(o:Obj):Below w.heap.size w (w.drew.alloc o):=⟨rfl,rfl,rfl,b8,λk hk=>tC w.drew _ _ hk⟩
def XM(w:World)(o j:Obj):Below w.heap.size w ((w.drew.alloc o).alloc j):=(YR w o).alloc b8 _
def zbw(C:Qk)(N:List Nat)(x:Nat)(va:Value)(w:World)(hl:(srt N).length<=4194304)(hd:Dat C w va (ns (srt N)))(hC:∀b o,C b o->b<w.heap.size):
 Calls xT 142 #[va,.int .u64 (x:Nat)] w λe w'=>∃v,e=.returned v/\Below w.heap.size w w'/\Dat (λb o=>C b o\/(w.heap.size<=b/\b<w'.heap.size)) w' v (ns (srt (N++[x]))):=by
 obtain⟨l,ac⟩:=xm (srt N);have HD:=qL hd;rw[<-ac]at hl hd;have F:=qL ac;obtain⟨Y,O,rfl,aI,aD,au⟩:=zim hd;have ai:=qL au;clear hd ac au;unfold maxLen at aD;go_enter func142,ntmps142
 go_wp2_with fail
 go_loopg [5] l.length (λg y wr=>wr=w/\∃k,k<=l.length/\g=l.length-k/\y=.int .i64 k/\∀j,(h:j<l.length)->j<k->l[j]<x)
 case atStart=>exact⟨rfl,0,vj _,rfl,rfl,λj _ h=>absurd h b6⟩
 case round=>
  obtain⟨rfl,k,hk,rfl,rfl,B⟩:=hrel;have HJ:=qL B;clear B;by_cases S:k<l.length
  .obtain⟨b,G,rfl,H⟩:=ai.o (λe=>by rw[e]at S;simp at S);have ar:=(H k S).2;obtain⟨y,Z⟩:=xm (l[k]);rw[<-Z]at ar;have HY:=qL Z;have aj:=qL H;clear Z H;by_cases h2:y<x
   .go_wp2_with fail
    go_roundg (l.length-(k+1));case measure=>omega
    case rel=>
     refine⟨rfl,k+1,S,rfl,b8,λj aE aJ=>?_⟩;rcases wO j k with h3|h3
     .exact HJ.o j aE h3
     .obtain rfl:j=k:=b6;rw[<-HY.o];exact h2
   .by_cases h3:y=x
    .go_wp2_with fail
     refine tI (tR rfl _ _ _) rfl ?_;have av:x∈srt N:=(by rw[<-F.o,<-h3,HY.o];exact X3 S);rw[zaw av];exact⟨_,rfl,tB _ _,HD.o.mono (λ_ _ h=>.inl h) λ_ _ _ _ h=>h⟩
    .go_wp2_with fail
     have af:xT.follows .mixedOrders=true:=dN;have V:∀u∈(l.take k).map uV,u.oneCell'=true:=QN;have ae:∀u∈(l.drop k).map uV,u.oneCell'=true:=QN;have M:∀u∈[uV x],u.oneCell'=true:=λu hu=>(by simp at hu;subst hu;rfl);have L:∀W:World,Below wr.heap.size wr W->∀j (B:j<l.length),W.cell? ⟨b,G+j,none⟩=some (uV l[j]):=λW hB j B=>(tw (a:=⟨b,G+j,none⟩) (hB.block b (hC _ _ (aj.o j B).1))).trans (aj.o j B).2;have aw:∀W:World,Below wr.heap.size wr W->(k=0/\(some (⟨b,G,none⟩:Addr))=none)\/∃a,some (⟨b,G,none⟩:Addr)=some a/\∀j u,((l.take k).map uV)[j]?=some u->W.cell? (a.add j)=some u:=λW hB=>.inr ⟨_,rfl,λj u h=>by
      rw[wn]at h;obtain⟨y,Z,rfl⟩:=Z3.1 h;obtain⟨B,rfl⟩:=ZZ.1 Z;rw[zh,Ud];exact L W hB j (by simp at B;omega)⟩
     have ax:∀W:World,Below wr.heap.size wr W->(l.length-k=0/\(some (⟨b,G+k,none⟩:Addr))=none)\/∃a,some (⟨b,G+k,none⟩:Addr)=some a/\∀j u,((l.drop k).map uV)[j]?=some u->W.cell? (a.add j)=some u:=λW hB=>.inr ⟨_,rfl,λj u h=>by
      rw[wn]at h;obtain⟨y,Z,rfl⟩:=Z3.1 h;obtain⟨B,rfl⟩:=ZZ.1 Z;rw[zh,Uy,show G+k+j=G+(k+j) by omega];exact L W hB (k+j) (by simp at B;omega)⟩
     have az:=qL aw;have aA:=qL ax;have ar:¬(O=k):=b6;have aK:k<=O:=b6;have aL:k<=l.length:=b6;have I:∀v w,w.ownsRow wr.heap.size 36 1 v (k+1+(l.length-k)) ((l.take k).map uV++([uV x]++(l.drop k).map uV))->OwnN wr.heap.size w v (srt (N++[x])):=λv w h=>by
      have hi:=kJ (xs:=N) (x:=x) (at_:=k) (by rw[<-F.o];omega) (λj h5 h6=>by
       have h7:l[k]<=(srt N)[j]:=by
        rcases uK h6 with h8|h8
        .subst h8;simp only[F.o];exact Zp _
        .have:=jJ (yi N) h5 h8;simp only[F.o];omega
       have:=HY.o;omega) (by
       rcases WG k with h5|h5
       .exact .inl h5
       .refine .inr ⟨by rw[<-F.o];omega,?_⟩;have h6:=HJ.o (k-1) b6 b6;simpa only[F.o]using h6)
      rw[hi,<-F.o];unfold OwnN;have e:(l.take k++x::l.drop k).length=k+1+(l.length-k):=b7;rw[e];show w.ownsRow wr.heap.size 36 1 v _ (List.map uV _);rw[WP,WC];exact h
     have P:=qL I;clear I aw ax L;go_region_law_o (first
      | (refine xK (.tmp 33) (.tmp 36) 147 rfl rfl underlying147 wr.heap.size (.slice (some ⟨_,0,none⟩) 0 0) 0 [] rfl (zdy b6 (by first|exact tx _ _|exact tx wr _|exact yw _ _ _|exact yx _ _ _|exact yw wr _ _|exact yx wr _ _)) _ k _ ((l.take k).map uV) rfl dH (az.o _ (by first|exact YR _ _|exact XM _ _ _)) V b6 dH ?_
         intro aF X E A an;have b1:Below wr.heap.size wr X:=by first|exact(YR wr _).grown A dH (λj B=>by simp[Value.ownBlock]at B;omega)|exact(XM wr _ _).grown A dH (λj B=>by simp[Value.ownBlock]at B;omega))
      | (refine xK (.tmp 37) (.tmp 39) 147 rfl rfl underlying147 wr.heap.size _ (0+k) ([]++(l.take k).map uV) rfl (by first|exact E|exact E.alloc _) _ 1 _ [uV x] rfl rfl (.inr ⟨_,rfl,vH (vt := 36) (by first|exact tx X _|exact(A.block _ dH dJ).trans (yw wr _ _)|exact(A.block _ dH dJ).trans (yx wr _ _))⟩) M b6 (by have:=A.size;simp at this⊢<;>omega) ?_
         intro aG ah K J ao;have b2:Below wr.heap.size wr ah:=by first|exact b1.grown J b1.size (λj B=>(E.lt j B).1)|exact(b1.alloc b1.size _).grown J (by have:=b1.size;simp<;>omega) (λj B=>(E.lt j B).1))
      | (refine xK (.tmp 40) (.tmp 43) 147 rfl rfl underlying147 wr.heap.size _ (0+k+1) ([]++(l.take k).map uV++[uV x]) rfl K _ (l.length-k) _ ((l.drop k).map uV) rfl dH (aA.o _ b2) ae b6 b2.size ?_
         intro ag aH U Q aq;have b3:=b2.grown Q b2.size λj B=>(K.lt j B).1))
     all_goals (go_wp2;all_goals (refine tI (tR rfl _ _ _) rfl ?_;exact⟨ag,rfl,b3,vL (base:=wr.heap.size) (P.o _ _ (dM U)) λb o h1 h2=>.inr ⟨h1,h2⟩⟩))
  .obtain rfl:k=l.length:=b6
   go_wp2_with fail
   have af:xT.follows .mixedOrders=true:=dN;obtain⟨ak,ab,am⟩:∃ak ab,(ak,ab)=(if O=l.length then Y else Option.map (λx=>x.add l.length) Y,O-l.length):=⟨_,_,rfl⟩;have aM:l.length+1<=17179869184:=b6;have V:∀u∈l.map uV,u.oneCell'=true:=QN;have M:∀u∈[uV x],u.oneCell'=true:=λu hu=>(by simp at hu;subst hu;rfl);have ay:∀W:World,Below wr.heap.size wr W->(l.length=0/\Y=none)\/∃a,Y=some a/\∀j u,(l.map uV)[j]?=some u->W.cell? (a.add j)=some u:=λW hB=>by
    by_cases h0:l=[]
    .subst h0;cases Y with
     |none=>exact .inl ⟨rfl,rfl⟩
     |some a=>exact .inr ⟨a,rfl,λj u h=>by simp at h⟩
    .obtain⟨b,G,rfl,hc⟩:=ai.o h0;refine .inr ⟨_,rfl,λj u h=>?_⟩;rw[wn]at h;obtain⟨y,Z,rfl⟩:=Z3.1 h;obtain⟨B,rfl⟩:=ZZ.1 Z;rw[zh];exact(tw (a:=⟨b,G+j,none⟩) (hB.block b (hC _ _ (hc j B).1))).trans (hc j B).2
   have T:(0=0/\(if O=l.length then Y else Option.map (λx=>x.add l.length) Y)=none)\/∃a,(if O=l.length then Y else Option.map (λx=>x.add l.length) Y)=some a:=by
    cases Y<;>simp;split<;>simp
   have aB:=qL ay;have aC:=qL T;clear ay T am;have I:∀v w,w.ownsRow wr.heap.size 36 1 v (l.length+1) (l.map uV++[uV x])->OwnN wr.heap.size w v (srt (N++[x])):=λv w h=>by
    have hi:=kJ (xs:=N) (x:=x) (at_:=(srt N).length) (Zp _) (λj h1 h2=>b6) (by
     rcases WG (srt N).length with h5|h5
     .exact .inl h5
     .refine .inr ⟨b6,?_⟩;have h6:=HJ.o ((srt N).length-1) (by rw[F.o];omega) (by rw[F.o];omega);simpa only[F.o]using h6)
    rw[hi,<-F.o,Wt,uU];unfold OwnN;rw[wu,Ua];show w.ownsRow wr.heap.size 36 1 v _ (List.map uV _);rw[WP];exact h
   have P:=qL I;clear I;go_region_law_o (first
    | (refine xK (.tmp 33) (.tmp 36) 147 rfl rfl underlying147 wr.heap.size (.slice (some ⟨_,0,none⟩) 0 0) 0 [] rfl (zdy b6 (by first|exact tx _ _|exact tx wr _|exact yw _ _ _|exact yx _ _ _|exact yw wr _ _|exact yx wr _ _)) _ l.length _ (l.map uV) rfl dH (aB.o _ (by first|exact YR _ _|exact XM _ _ _)) V b6 dH ?_
       intro aF X E A an;have b1:Below wr.heap.size wr X:=by first|exact(YR wr _).grown A dH (λj B=>by simp[Value.ownBlock]at B;omega)|exact(XM wr _ _).grown A dH (λj B=>by simp[Value.ownBlock]at B;omega))
    | (refine xK (.tmp 37) (.tmp 39) 147 rfl rfl underlying147 wr.heap.size _ (0+l.length) ([]++l.map uV) rfl (by first|exact E|exact E.alloc _) _ 1 _ [uV x] rfl rfl (.inr ⟨_,rfl,vH (vt := 36) (by first|exact tx X _|exact(A.block _ dH dJ).trans (yw wr _ _)|exact(A.block _ dH dJ).trans (yx wr _ _))⟩) M b6 (by have:=A.size;simp at this⊢<;>omega) ?_
       intro aG ah K J ao;have b2:Below wr.heap.size wr ah:=by first|exact b1.grown J b1.size (λj B=>(E.lt j B).1)|exact(b1.alloc b1.size _).grown J (by have:=b1.size;simp<;>omega) (λj B=>(E.lt j B).1))
    | (refine xK (.tmp 40) (.tmp 43) 147 rfl rfl underlying147 wr.heap.size _ (0+l.length+1) ([]++l.map uV++[uV x]) rfl K _ 0 _ ([]) rfl dH (by rcases aC.o with h|⟨a,h⟩;exact .inl h;exact .inr ⟨a,h,λj u B=>by simp at B⟩) b8 b6 b2.size ?_
       intro ag aH U Q aq;have b3:=b2.grown Q b2.size λj B=>(K.lt j B).1))
   all_goals (go_wp2;all_goals (refine tI (tR rfl _ _ _) rfl ?_;exact⟨ag,rfl,b3,vL (base:=wr.heap.size) (P.o _ _ (dM U)) λb o h1 h2=>.inr ⟨h1,h2⟩⟩))
end
section
open Go.RowKit Go.Lib
attribute [-go_sem] z7
def Z9:(xT.info? 50).map (λi=>(i.zero,i.size,i.bytes))=some (some (.agg #[.slice none 0 0,.slice none 0 0]),2,48):=dN
def OwnC(base:Nat)(w:World)(v:Value)(n:Nat)(j:List Value):Prop:=w.ownsRow base 50 2 v n j/\j.length=n*2/\∀u∈j,u.oneCell'=true
def OwnC.cases{base:Nat}{w:World}{v:Value}{n:Nat}{A:List Value}(h:OwnC base w v n A):(v=.slice none 0 0/\n=0/\A=[]) \/
 ∃g j o,v=.slice (some ⟨g,0,none⟩) n j/\base<=g/\g<w.heap.size/\w.heap[g]?=some (.cells o 50 (0,0))/\n<=j/\j<=maxLen/\o.size=j*2/\o.toList.take (n*2)=A:=by
 rcases h.1.2 with⟨u,y⟩|⟨g,j,o,u,y,B,C,E,F,G⟩
 .subst y;exact .inl ⟨u,rfl,Wc.1 (by rw[h.2.1])⟩
 .exact .inr ⟨g,j,o,u,y,(Y1.1 B).1,B,C,E,F,G⟩
def vI{w:World}{A:Nat}{vt:TypeId}{p q:Value}(y:w.heap[A]?=some (.cells #[p,q] vt (0,0))):∀j u,[p,q][j]?=some u->w.cell? ((⟨A,0,none⟩:Addr).add j)=some u:=λj u o=>by
 match j,o with
 |0,o=>cases o;simp[World.cell?,Addr.add,y]
 |1,o=>cases o;simp[World.cell?,Addr.add,y]
 |j+2,o=>simp at o
def yF{p q:Value}(o:p.oneCell'=true)(w:q.oneCell'=true):∀u∈[p,q],u.oneCell'=true:=λu j=>by
 simp at j;rcases j with rfl|rfl
 .exact o
 .exact w
def run_copy_k{P:Program}(w:World)(H O Q y:TypeId)(b o u C:Nat)(a:Addr)(A F sz:Nat)(B:List Value)
 (N:P.underlying H=some (.slice y)) (hs:(P.info? y).map (·.size)=some sz) (M:B.length=Nat.min A u*sz)
 (E:∀j v,B[j]?=some v->w.cell? (a.add j)=some v) (J:∀j,j<B.length->(w.cell? ⟨b,o+j,none⟩).isSome=true) (K:∀j,j<B.length->w.frozen? ⟨b,o+j,none⟩=false) (I:∀v∈B,v.oneCell'=true) :
 (Builtin.copy_ #[H,O] Q #[.slice (some ⟨b,o,none⟩) u C,.slice (some a) A F]).run P w=.ok (goInt (Nat.min A u)) (w.setCells b o B):=by
 have L:=run_loadCells_list (P:=P) w a B E;have G:=run_storeCells_cells (P:=P) b o B 0 w (dM J) (dM K) I;cases hq:P.info? y with
 |none=>simp[hq]at hs
 |some i=>have hi:i.size=sz:=(by simpa[hq]using hs);simp[Builtin.copy_,tN N,Builtin.lenOf,Builtin.firstCells,sizeOf,typeInfo,hq,hi,<-M,L,G]
def zaF{P:Program}{t j o e e2:TypeId}{b:Option Addr}{n c:Nat}{x:Value}{w:World}(u:P.underlying t=some (.slice e))(y:P.underlying j=some (.slice e2)):(Builtin.append_ #[t,j] o #[.slice b n c,x]).run P w=(Builtin.append_ #[t,t] o #[.slice b n c,x]).run P w:=by simp[Builtin.append_,tN u,tN y]
def yR{P:Program}{w:World}{I:Array Oper}{rest:List Oper}{o:Oper}{a:Act}{Q:Exit->Act->World->Prop}(O:o.guard=none)(s x:Operand)(t X e2:TypeId)
 (ho:o.op=.call { callee:=.builtin .append,args:=#[s,x],argTypes:=#[t,X] }) (T:P.underlying X=some (.slice e2))
 (base:Nat) (e:TypeId) (i:TypeInfo) (z:Value) (size A:Nat) (ht:P.underlying t=some (.slice e)) (hi:P.info? e=some i) (hz:i.zero=some z)
 (G:i.size=size) (N:i.bytes=A) (hzs:z.cells.size=size) (S:0<size)
 (v:Value) (n:Nat) (U:List Value) (hs:a.eval s=v) (C:w.ownsRow base e size v n U)
 (L:Addr) (m c:Nat) (y:List Value) (hx:a.eval x=.slice (some L) m c) (hl:y.length=m*size) (F:∀j u,y[j]?=some u->w.cell? (L.add j)=some u) (Y:∀u∈y,u.oneCell'=true)
 (M:n+m<=maxLen) (B:(n+m)*A<=140737488355328) (E:base<=w.heap.size)
 (h:∀H J,J.ownsRow base e size H (n+m) (U++y)->w.grownBy J v.ownBlock->(H.ownBlock=v.ownBlock\/H.ownBlock=some w.heap.size)->wpList P I Q rest (a.put o.dst H) J) :
 wpList P I Q (o::rest) a w:=by
 refine T1 O λK hK=>?_;obtain⟨H,J,V,Z,h3,_,h5⟩:=Tm (P:=P) w base t o.type e i z size A ht hi hz G N hzs S v n U C L m c y hl F Y M B E;obtain⟨b0,n0,c0,rfl⟩:∃b n c,v=.slice b n c:=by rcases C.2 with⟨h,_⟩|⟨_,_,_,h,_⟩<;>exact⟨_,_,_,h⟩
 rw[<-zaF ht T]at V;unfold Oper.wp execOp;simp only[ho,resolve,invoke,builtin,tM,tP,tH,ul,WC,uf,hs,hx,V];exact hK _ _ (h H J Z h3 h5)
def zc2(base K:Nat)(vt:TypeId)(w:World)(v:Value)(n:Nat)(L:List Value)(p q:Value)(hp:p.oneCell'=true)(hq:q.oneCell'=true)(j:OwnC base w v n L)(Q:w.heap[K]?=some (.cells #[p,q] vt (0,0)))(hl:n<=1073741824)(y:base<=w.heap.size):
 Calls xT 188 #[v,.int .i64 (n:Nat),.slice (some ⟨K,0,none⟩) 1 1] w λe B=>∃o,e=.returned o/\OwnC base B o (n+1) (L++[p,q])/\w.grownBy B v.ownBlock/\(o.ownBlock=v.ownBlock\/o.ownBlock=some w.heap.size):=by
 obtain⟨V,F,H,I,J⟩:=tV Z9;have U:=vI Q;have A:=yF hp hq;have fin:∀o B,B.ownsRow base 50 2 o (n+1) (L++[p,q])->OwnC base B o (n+1) (L++[p,q]):=λo B h=>⟨h,by have:=j.2.1;simp;omega,λu G=>by
  rcases wI.1 G with G|G
  .exact j.2.2 u G
  .exact A u G⟩
 have S:=qL j.1;rcases j.cases with⟨rfl,rfl,rfl⟩|⟨g,M,X,rfl,Y,Z,ab,ac,N,O,P⟩
 .clear j;go_enter func188,ntmps188
  go_wp2_with (at_builtin;refine yR rfl _ _ 41 40 50 rfl underlying40 base 50 V (.agg #[.slice none 0 0,.slice none 0 0]) 2 48 underlying41 F H I J rfl dE _ _ _ rfl S.o ⟨K,0,none⟩ 1 1 [p,q] rfl rfl U A (by simp[maxLen]) b8 y ?_;intro o B ho E C)
  go_ret;exact⟨o,rfl,fin o B ho,E,C⟩
 .unfold maxLen at N;have T:M<=9223372036854775807:=b6;clear j P O;go_enter func188,ntmps188
  go_wp2_with (at_builtin;refine yR rfl _ _ 41 40 50 rfl underlying40 base 50 V (.agg #[.slice none 0 0,.slice none 0 0]) 2 48 underlying41 F H I J rfl dE _ _ _ rfl S.o ⟨K,0,none⟩ 1 1 [p,q] rfl rfl U A dG b6 y ?_;intro o B ho E C)
  all_goals (go_ret;exact⟨o,rfl,fin o B ho,E,C⟩)
def zS:Value:=.slice none 0 0
def zgF(n:Nat):(Builtin.zeroCells (Value.agg #[.slice none 0 0,.slice none 0 0]).cells n).toList=List.replicate (n*2) zS:=by
 apply List.ext_getElem
 .simp[Builtin.zeroCells,Value.cells]
 .intro i j o;rcases UV i with h|h<;>simp[Builtin.zeroCells,Value.cells,h,zS]
def za6{xs ms:List Value}{u:Value}{i:Nat}(hi:i<=xs.length):kF (kF (xs.take i++List.replicate (xs.length+ms.length-i) u) i ms) (i+ms.length) (xs.drop i)=xs.take i++ms++xs.drop i:=by
 have j:(xs.take i).length=i:=b7
 have e1:=kG (xs.take i) (List.replicate ms.length u) (List.replicate (xs.length-i) u) ms b8 j.symm;have e2:=kG (xs.take i++ms) (List.replicate (xs.length-i) u) [] (xs.drop i) b8 (i:=i+ms.length) b7;rw[show xs.length+ms.length-i=ms.length+(xs.length-i) by omega,<-List.replicate_append_replicate,<-wV,e1];simpa using e2
def za7{xs ms us:List Value}{i:Nat}(hi:i<=xs.length)(o:us.length=ms.length):kF (kF (xs++us) (i+ms.length) (xs.drop i)) i ms=xs.take i++ms++xs.drop i:=by
 rw[jt (xs.drop i) _ _ b7];have j:i+ms.length+(xs.drop i).length=(xs++us).length:=b7
 rw[j,uU,We];rw[jt ms _ _ b7];have ht:((xs++us).take (i+ms.length)).length=i+ms.length:=b7
 rw[Wu (by rw[ht];omega),List.take_take,ud b6,Wu hi];rw[UG,ht,UU,Wo,U7 b6,XV]
def X6{base:Nat}{w:World}{v:Value}{n i:Nat}{o y:List Value}(hi:i<=n)(E:o.length=n*2)(C:y.length=2)(A:∀u∈o,u.oneCell'=true)(B:∀u∈y,u.oneCell'=true)
 (h:w.ownsRow base 50 2 v (n+1) (o.take (i*2)++y++o.drop (i*2))):OwnC base w v (n+1) (o.take (i*2)++y++o.drop (i*2)):=
 ⟨h,b7,λu j=>by
  rcases wI.1 j with j|j
  .rcases wI.1 j with j|j
   .exact A u (WJ j)
   .exact B u j
  .exact A u (Wx j)⟩
def zc3(base P:Nat)(vt:TypeId)(w:World)(g o n:Nat)(A:List Value)(p q:Value)(i:Nat)(hp:p.oneCell'=true)(hq:q.oneCell'=true)(hi:i<n)(C:OwnC base w (.slice (some ⟨g,0,none⟩) n o) n A)(ab:o<n+1)(ah:w.heap[P]?=some (.cells #[p,q] vt (0,0)))(hl:n<=1073741824)(Z:base<=w.heap.size):
 Calls xT 188 #[.slice (some ⟨g,0,none⟩) n o,.int .i64 (i:Nat),.slice (some ⟨P,0,none⟩) 1 1] w λe w'=>∃v',e=.returned v'/\OwnC base w' v' (n+1) (A.take (i*2)++[p,q]++A.drop (i*2))/\w.grownBy w' none/\v'.ownBlock=some w.heap.size:=by
 obtain⟨i0,ao,aD,hzs,av⟩:=tV Z9;have K:A.length=n*2:=C.2.1;have I:=C.2.2;have au:=vI ah;have aC:P<w.heap.size:=(Y1.1 ah).1;have aA:g<w.heap.size:=(C.1.lt g rfl).2;have aM:n<=o:=by
  rcases C.cases with⟨h,_⟩|⟨g',aF,_,h,_,_,_,h4,_⟩
  .cases h
  .cases h;omega
 have hg:∀j v,A[j]?=some v->w.cell? ⟨g,j,none⟩=some v:=λj v F=>by have:=tQ C.1 (g:=g) rfl j v F;rw[zh,wy]at this;exact this
 have ar:(n:Int)+1-(i:Int)=((n+1-i:Nat):Int):=b6
 have ac:i+(n+1-i)=n+1:=b6
 have O:(Builtin.firstCells i0.size i (.slice (some ⟨g,0,none⟩) i o)).run xT w.drew=.ok (A.take (i*2)).toArray w.drew:=by
  rw[hzs];refine TS w.drew 2 i ⟨g,0,none⟩ i o (A.take (i*2)) (by rw[Wi];omega) (λj v F=>?_);rw[wA]at F;split at F
  .have:=hg j v F;rw[zh,wy];exact this
  .cases F
 have af:∀J,(Builtin.append_ #[41,3] J #[.slice (some ⟨g,0,none⟩) i o,.int .i64 ((n:Int)+1-(i:Int))]).run xT w =
  .ok (.slice (some ⟨w.heap.size,0,none⟩) (n+1) (grownCap w (n+1) o 50)) (w.drew.alloc (.cells ((A.take (i*2)).toArray++Builtin.zeroCells (Value.agg #[.slice none 0 0,.slice none 0 0]).cells (n+1-i)++Builtin.zeroCells (Value.agg #[.slice none 0 0,.slice none 0 0]).cells (grownCap w (n+1) o 50 - (n+1))) 50)):=λJ=>by
  have h:=TW w 41 3 J 50 i0 _ .i64 .i64 underlying41 underlying3 ao aD (some ⟨g,0,none⟩) i o (A.take (i*2)) O (n+1-i) b6 b6 b6 b6 (by rw[av];omega) (by rw[av,ac];exact T8 ab b6);rw[ac]at h;rw[ar];exact h
 obtain⟨G,hG⟩:∃G,G=grownCap w (n+1) o 50 := ⟨_,rfl⟩;have ay:n+1<=G:=by rw[hG];exact TP w _ _ _
 have ai:G<=maxLen:=by rw[hG];exact TH w _ _ _ dG
 obtain⟨R,hR⟩:∃R:Array Value,R=(A.take (i*2)).toArray++Builtin.zeroCells (Value.agg #[.slice none 0 0,.slice none 0 0]).cells (n+1-i)++Builtin.zeroCells (Value.agg #[.slice none 0 0,.slice none 0 0]).cells (G-(n+1)):=⟨_,rfl⟩;rw[<-hG,<-hR]at af;have aB:(A.take (i*2)).length=i*2:=by rw[Wi];omega
 have X:R.toList=(A.take (i*2)++List.replicate (A.length+[p,q].length-i*2) zS)++List.replicate ((G-(n+1))*2) zS:=by rw[hR];simp only[W6,zgF,K];congr 3;simp;omega
 have az:R.size=G*2:=by have:R.toList.length=G*2:=(by rw[X];simp;omega);simpa using this
 obtain⟨B,E⟩:=xm (w.drew.alloc (.cells R 50));have o1:B.ownsRow base 50 2 (.slice (some ⟨w.heap.size,0,none⟩) (n+1) G) (n+1) (A.take (i*2)++List.replicate (A.length+[p,q].length-i*2) zS):=by
  refine⟨b7,.inr ⟨w.heap.size,G,R,rfl,Z,?_,ay,ai,b6,?_⟩⟩
  .rw[E];exact tx w.drew _
  .rw[X,Wu b7,ww b7]
 obtain⟨o2,U⟩:=z9 [p,q] (i*2) _ _ o1;obtain⟨o3,g3⟩:=z9 (A.drop (i*2)) (i*2+2) ((B.setCells w.heap.size (i*2) [p,q]).drew) _ o2;have eg:=za6 (xs:=A) (ms:=[p,q]) (u:=zS) (i:=i*2) b6;rw[show i*2+[p,q].length=i*2+2 from rfl]at eg;rw[eg]at o3;have T:w.grownBy B none:=by rw[E];exact⟨rfl,rfl,rfl,b8,λk hk _=>tC w.drew _ _ hk⟩
 have S:(i+1)*2=i*2+2:=b6
 have M:w.grownBy (((B.setCells w.heap.size (i*2) [p,q]).drew).setCells w.heap.size (i*2+2) (A.drop (i*2))) none:=by refine⟨g3.os.trans (U.os.trans T.os),g3.tape.trans (U.tape.trans T.tape),g3.output.trans (U.output.trans T.output),V3 T.size (V3 U.size g3.size),λk hk _=>?_⟩;have aq:k<B.heap.size:=Vq hk T.size;have L:some k≠some w.heap.size:=λe=>(by cases e;omega);rw[g3.block k (Vq aq U.size) L];show (B.setCells w.heap.size (i*2) [p,q]).heap[k]?=_;rw[U.block k aq L,T.block k hk b8]
 have OF:=qL (X6 b6 K rfl I (yF hp hq) o3);have GA:=qL M;clear o3 M o1 o2;rw[<-E]at af;have hN:∀j,j<n*2+2->(B.cell? ⟨w.heap.size,j,none⟩).isSome=true:=λj F=>by rw[E,Ta (w:=w.drew) R _ w.heap.size j rfl,Wj b6];rfl
 have V:∀j,B.frozen? ⟨w.heap.size,j,none⟩=false:=λj=>by rw[E];exact T3 (w:=w.drew) R _ w.heap.size j rfl
 have aj:∀j v,w.cell? ⟨g,j,none⟩=some v->B.cell? ⟨g,j,none⟩=some v:=λj v h=>by rw[E,Tu (w:=w.drew) _ g j aA];exact h
 have ak:∀j v,w.cell? ⟨P,j,none⟩=some v->B.cell? ⟨P,j,none⟩=some v:=λj v h=>by rw[E,Tu (w:=w.drew) _ P j aC];exact h
 have ag:(xT.info? 50).map (·.size)=some 2:=by rw[ao];simp[hzs]
 have ad:Nat.min 1 (n+1-i)=1:=by simp only[Ur];split<;>omega
 have ae:Nat.min (n-i) (n-i)=n-i:=Nat.min_self _;have an:(A.drop (i*2)).length=(n-i)*2:=by rw[ug,K];omega
 have am:∀(W:World),(∀y,W.cell? y=B.cell? y)->(∀y,W.frozen? y=B.frozen? y)->∀J Q,(Builtin.copy_ #[41,40] J #[.slice (some ⟨w.heap.size,i*2,none⟩) (n+1-i) Q,.slice (some ⟨P,0,none⟩) 1 1]).run xT W=.ok (goInt 1) (W.setCells w.heap.size (i*2) [p,q]):=λW H Y J Q=>by
  have h:=run_copy_k W 41 40 J 50 w.heap.size (i*2) (n+1-i) Q ⟨P,0,none⟩ 1 1 2 [p,q] underlying41 ag (by rw[ad];rfl)
   (λj v F=>by have:=au j v F;rw[zh]at this;rw[H,zh];exact ak _ v this)
   (λj F=>by rw[H];simp at F;exact hN _ b6) (λj F=>by rw[Y];exact V _) (yF hp hq)
  rw[ad]at h;exact h
 have L:g≠w.heap.size:=b6
 have N:∀(W:World),(∀y,W.cell? y=(B.setCells w.heap.size (i*2) [p,q]).cell? y)->(∀y,W.frozen? y=(B.setCells w.heap.size (i*2) [p,q]).frozen? y)->∀J Q sc,(Builtin.copy_ #[41,41] J #[.slice (some ⟨w.heap.size,(i+1)*2,none⟩) (n-i) Q,.slice (some ⟨g,i*2,none⟩) (n-i) sc]).run xT W=.ok (goInt ((n-i:Nat):Int)) (W.setCells w.heap.size (i*2+2) (A.drop (i*2))):=λW H Y J Q sc=>by
  have h:=run_copy_k W 41 41 J 50 w.heap.size ((i+1)*2) (n-i) Q ⟨g,i*2,none⟩ (n-i) sc 2 (A.drop (i*2)) underlying41 ag (by rw[an,ae])
   (λj v F=>by
     rw[H,zh,To _ _ _ _ _ (λh _=>absurd h L)];exact aj _ v (hg (i*2+j) v (by rwa[Wp]at F)))
   (λj F=>by rw[H];exact isSome_setCells _ _ _ _ (λt ht=>hN _ (by simp at ht;omega)) _ (hN _ b6))
   (λj F=>by rw[Y,Tv];exact V _) (λv hv=>I v (Wx hv))
  rw[ae,S]at h;rw[S];exact h
 have aw:∀y,((B.setCells w.heap.size (i*2) [p,q]).drew).cell? y=(B.setCells w.heap.size (i*2) [p,q]).cell? y:=λy=>rfl;have ax:∀y,((B.setCells w.heap.size (i*2) [p,q]).drew).frozen? y=(B.setCells w.heap.size (i*2) [p,q]).frozen? y:=λy=>rfl;have aP:¬((i:Int)=(n:Int)):=b6
 have aQ:(o:Int)<(n:Int)+1:=b6
 unfold maxLen at ai;have aH:¬(G=i):=b6
 have aG:¬(G=i+1):=b6
 have aK:¬(o=i):=b6
 have aO:IntKind.i64.wrap ((i:Int)+1)=(i:Int)+1:=by rw[TE];omega
 have aI:(0:Int)<=(i:Int)+1:=b6
 have aL:i<=n:=b6
 have aN:((i:Int)+1).toNat=i+1:=b6
 have aJ:(i:Int)<=(n:Int):=b6
 clear ar ac O hG X hR az C hg hN V aj ak I K au ah aB an T U g3 E S ad ae ag;go_enter func188,ntmps188
 go_wp2_with (first
  |(at_builtin;refine Lib.wpList_append_run _ rfl _ _ _ _ rfl _ _ rfl rfl _ _ (af _) ?_)
  |(at_builtin;refine wpList_copy_runI _ rfl _ _ 41 40 rfl _ _ rfl rfl (am _ (λ_=>rfl) (λ_=>rfl) _ _) ?_)
  |(at_builtin;refine wpList_copy_runI _ rfl _ _ 41 41 rfl _ _ rfl rfl (N _ (λ_=>rfl) (λ_=>rfl) _ _ _) ?_))
 have aE:xT.follows .mixedOrders=true:=dN
 go_region_law_o (refine step_copy_runI rfl _ _ 41 41 rfl (.slice (some ⟨w.heap.size,(i+1)*2,none⟩) (n-i) (G-(i+1))) (.slice (some ⟨g,i*2,none⟩) (n-i) (o-i)) dL dL (N _ aw ax _ (G-(i+1)) (o-i)) ?_)
 go_wp2;refine tI (tR rfl _ _ _) rfl ?_;exact⟨_,rfl,OF.o,GA.o,rfl⟩
def JK(base K:Nat)(vt:TypeId)(w:World)(g o n:Nat)(C:List Value)(p q:Value)(i:Nat)(hp:p.oneCell'=true)(hq:q.oneCell'=true)(hi:i<n)(B:OwnC base w (.slice (some ⟨g,0,none⟩) n o) n C)(Y:n+1<=o)(J:w.heap[K]?=some (.cells #[p,q] vt (0,0)))(aj:K≠g)(hl:n<=1073741824):
 Calls xT 188 #[.slice (some ⟨g,0,none⟩) n o,.int .i64 (i:Nat),.slice (some ⟨K,0,none⟩) 1 1] w λe w'=>∃v',e=.returned v'/\OwnC base w' v' (n+1) (C.take (i*2)++[p,q]++C.drop (i*2))/\w.grownBy w' (some g)/\v'.ownBlock=some g:=by
 obtain⟨i0,aw,aH,hzs,aJ⟩:=tV Z9;have L:C.length=n*2:=B.2.1;have I:=B.2.2;have ak:=vI J;obtain⟨A,au,H,N,S,ao⟩:∃A,base<=g/\w.heap[g]?=some (.cells A 50 (0,0))/\o<=maxLen/\A.size=o*2/\A.toList.take (n*2)=C:=by
  rcases B.cases with⟨h,_⟩|⟨g',az,A,h,h1,_,h3,_,h5,h6,h7⟩
  .cases h
  .cases h;exact⟨A,h1,h3,h5,h6,h7⟩
 obtain⟨us,ac⟩:=xm ((A.toList.drop (n*2)).take 2);have ab:us.length=[p,q].length:=by rw[ac];simp;omega
 have o0:w.drew.ownsRow base 50 2 (.slice (some ⟨g,0,none⟩) (n+1) o) (n+1) (C++us):=by refine⟨by rw[wu,ab,L];simp;omega,.inr ⟨g,o,A,rfl,au,H,Y,N,b6,?_⟩⟩;rw[show (n+1)*2=n*2+2 by omega,List.take_add,ao,ac]
 obtain⟨o1,g1⟩:=z9 (C.drop (i*2)) (i*2+2) _ _ o0;obtain⟨o2,g2⟩:=z9 [p,q] (i*2) _ _ o1;have eg:=za7 (xs:=C) (ms:=[p,q]) (us:=us) (i:=i*2) b6 ab;rw[show i*2+[p,q].length=i*2+2 from rfl]at eg;rw[eg]at o2;have g0:w.grownBy w.drew (some g):=⟨rfl,rfl,rfl,Zp _,λ_ _ _=>rfl⟩;have OF:=qL (X6 b6 L rfl I (yF hp hq) o2);have GA:=qL (yn g0 (yn g1 g2));have u:∀j,j<o*2->(w.cell? ⟨g,j,none⟩).isSome=true:=λj E=>by simp[World.cell?,H,S,E]
 have U:∀j,w.frozen? ⟨g,j,none⟩=false:=λj=>by simp[World.frozen?,H]
 have hg:∀j v,C[j]?=some v->w.cell? ⟨g,j,none⟩=some v:=λj v E=>by have:=tQ B.1 (g:=g) rfl j v E;rw[zh,wy]at this;exact this
 have am:w.shape? K=some (vt,2):=by simp[World.shape?,J]
 have an:w.shape? g=some (50,o*2):=by simp[World.shape?,H,S]
 have ah:w.frozen? ⟨K,0,none⟩=false:=by simp[World.frozen?,J]
 have ai:w.frozen? ⟨K,2,none⟩=false:=by simp[World.frozen?,J]
 have Z:(xT.info? 50).map (·.size)=some 2:=by rw[aw];simp[hzs]
 have ax:∀lb cb,(callFunc 212 #[.slice (some ⟨K,0,none⟩) 1 1,.slice (some ⟨g,(i+1)*2,none⟩) lb cb]).run xT w=.ok (.value (.bool false)) w:=λlb cb=>by
  rw[tT func212 dN dN dN (e:=Extern.SlicesOverlaps.overlaps #[40,40] #[4]) dN,
   T4 w 40 4 50 underlying40 2 (λw=>dN) ⟨K,0,none⟩ ⟨g,(i+1)*2,none⟩ 1 1 lb cb aj vt 50 2 (o*2) am an b6 ah ai]
  rfl
 have T:(C.drop (i*2)).length=(n-i)*2:=by rw[ug,L];omega
 have V:Nat.min (n+1-i) (n-i)=n-i:=by simp only[Ur];split<;>omega
 have X:Nat.min 1 (n+1-i)=1:=by simp only[Ur];split<;>omega
 have Q:(i+1)*2=i*2+2:=b6
 have G:∀M P sc,(Builtin.copy_ #[41,41] M #[.slice (some ⟨g,(i+1)*2,none⟩) (n-i) P,.slice (some ⟨g,i*2,none⟩) (n+1-i) sc]).run xT w.drew=.ok (goInt ((n-i:Nat):Int)) (w.drew.setCells g (i*2+2) (C.drop (i*2))):=λM P sc=>by
  have h:=run_copy_k w.drew 41 41 M 50 g ((i+1)*2) (n-i) P ⟨g,i*2,none⟩ (n+1-i) sc 2 (C.drop (i*2)) underlying41 Z (by rw[T,V])
   (λj v E=>by rw[zh];exact hg (i*2+j) v (by rwa[Wp]at E))
   (λj E=>u _ b6) (λj E=>U _) (λv hv=>I v (Wx hv))
  rw[V,Q]at h;rw[Q];exact h
 obtain⟨W1,F⟩:=xm (w.drew.setCells g (i*2+2) (C.drop (i*2)));have O:∀k,k<o*2->(W1.cell? ⟨g,k,none⟩).isSome=true:=λk hk=>by rw[F];exact isSome_setCells g (C.drop (i*2)) (i*2+2) w.drew (λj E=>u _ (by rw[T]at E;omega)) k (u k hk)
 have ag:∀(W:World),(∀y,W.cell? y=W1.cell? y)->(∀y,W.frozen? y=W1.frozen? y)->∀M P,(Builtin.copy_ #[41,40] M #[.slice (some ⟨g,i*2,none⟩) (n+1-i) P,.slice (some ⟨K,0,none⟩) 1 1]).run xT W=.ok (goInt 1) (W.setCells g (i*2) [p,q]):=λW af ar M P=>by
  have h:=run_copy_k W 41 40 M 50 g (i*2) (n+1-i) P ⟨K,0,none⟩ 1 1 2 [p,q] underlying41 Z (by rw[X];rfl)
   (λj v E=>by
     rw[af,F,To g _ _ _ _ (λh _=>absurd h (by rw[zh];exact aj))];exact ak j v E)
   (λj E=>by rw[af];simp at E;exact O _ b6) (λj E=>by rw[ar,F,Tv];exact U _) (yF hp hq)
  rw[X]at h;exact h
 rw[<-F]at G;have aq:=qL F;have aI:¬((i:Int)=(n:Int)):=b6
 unfold maxLen at N;have aG:IntKind.i64.wrap ((i:Int)+1)=(i:Int)+1:=by rw[TE];omega
 have aA:(0:Int)<=(i:Int)+1:=b6
 have aE:i<=n:=b6
 have aF:((i:Int)+1).toNat=i+1:=b6
 have aB:¬(o=i+1):=b6
 have aC:(i:Int)<=(n:Int)+1:=b6
 have aD:¬(o=i):=b6
 clear o0 o1 o2 g0 g1 g2 eg B u U hg am an ah ai O F T I ak L J H S ao ac ab V X Q Z;go_enter func188,ntmps188
 have av:=λM=>G M (o-(i+1)) (o-i);have ay:xT.follows .mixedOrders=true:=dN
 go_wp2_with (simp only[ax])
 go_region_law_o (refine step_copy_runI rfl _ _ 41 41 rfl _ _ dL dL (G _ _ _) ?_)
 go_wp2_with (first|(at_builtin;refine wpList_copy_runI _ rfl _ _ 41 40 rfl _ _ rfl rfl (ag _ (λ_=>rfl) (λ_=>rfl) _ _) ?_))
 have ae:=OF.o;have ad:=GA.o;rw[<-aq.o]at ae ad;refine tI (tR rfl _ _ _) rfl ?_;exact⟨_,rfl,ae,ad,rfl⟩
def Q1(base E:Nat)(G:TypeId)(w:World)(v:Value)(n:Nat)(C:List Value)(p q:Value)(i:Nat)(M:p.oneCell'=true)(N:q.oneCell'=true)(hi:i<=n)(j:OwnC base w v n C)(B:w.heap[E]?=some (.cells #[p,q] G (0,0)))(L:v.ownBlock≠some E)(K:n<=1073741824)(o:base<=w.heap.size):
 Calls xT 188 #[v,.int .i64 (i:Nat),.slice (some ⟨E,0,none⟩) 1 1] w λe H=>∃u,e=.returned u/\OwnC base H u (n+1) (C.take (i*2)++[p,q]++C.drop (i*2))/\w.grownBy H v.ownBlock/\(u.ownBlock=v.ownBlock\/u.ownBlock=some w.heap.size):=by
 have Q:=j.2.1;by_cases S:i=n
 .subst S;rw[ww b6,wE b6,We];exact zc2 base E G w v i C p q M N j B K o
 .have F:i<n:=b6;rcases j.cases with⟨_,T,_⟩|⟨g,y,O,rfl,_⟩
  .omega
  .by_cases P:y<n+1
   .refine(zc3 base E G w g y n C p q i M N F j P B K o).mono ?_;rintro e H ⟨u,rfl,I,A,J⟩;exact⟨u,rfl,I,⟨A.os,A.tape,A.output,A.size,λk hk _=>A.block k hk b8⟩,.inr J⟩
   .refine(JK base E G w g y n C p q i M N F j b6 B (λe=>L (by rw[e];rfl)) K).mono ?_;rintro e H ⟨u,rfl,I,A,J⟩;exact⟨u,rfl,I,A,.inl J⟩
end
section
def Ji:∀(r j:List Nat),YN r->(∀y∈r,y∈j)->r.length<=j.length:=by
 intro r;induction r with
 |nil=>intro j _ _;exact vj _
 | cons x r ih=>
   intro j h u;have o:=wk.1 h;have:=ih (j.erase x) o.2 λy A=>by have B:=o.1 y A;exact(W9 b6).2 (u y (by simp[A]))
   have w:x∈j:=u x b8;rw[WK w]at this;have:=um w;simp;omega
def Ed(l:List Iv)(x:Nat):Prop:=x<zk/\mem l x≠(if x=0 then false else mem l (x-1))
def NF.lo_prev:∀{l:List Iv}{n:Nat},NF n l->∀s∈l,s.lo≠0->mem l (s.lo-1)=false
 |[],_,_,s,hs,_=>by cases hs
 | t::l,n,h,s,hs,h0=>by
   obtain⟨o,u,w,j⟩:=h;rcases wm.1 hs with rfl|hs
   .rw[mem_cons,j.mem_lt b6,WF (show ¬s.lo<=s.lo-1 by omega)];rfl
   .have:=j.lo_ge s hs;rw[mem_cons,NF.lo_prev j s hs h0,WF (show ¬s.lo-1<=t.hi by omega)];simp
def NF.asc:∀{l:List Iv}{n:Nat},NF n l->YN (l.map Iv.lo)
 |[],_,_=>List.Pairwise.nil
 |t::l,n,h=>by refine wk.2 ⟨λy j=>?_,NF.asc h.2.2.2⟩;obtain⟨s,hs,rfl⟩:=wG.1 j;have:=h.2.2.2.lo_ge s hs;have:=h.2.1;omega
def zjS{l:List Iv}(h:Nrm l){s:Iv}(hs:s∈l):Ed l s.lo:=by
 have j:=NF.lo_ge h s hs;have o:mem l s.lo=true:=qf.2 ⟨s,hs,Zp _,j.2.1⟩;refine⟨b6,?_⟩;rw[o];split
 .simp
 .rename_i h0;rw[NF.lo_prev h s hs h0];simp
def zcK{l:List Iv}{C:List Nat}(h:Nrm l)(j:∀x,Ed l x->x∈C):l.length<=C.length:=by
 have:=Ji (l.map Iv.lo) C (NF.asc h) λy o=>by obtain⟨s,hs,rfl⟩:=wG.1 o;exact j _ (zjS h hs)
 simpa using this
def Y3{l:List Iv}(h:∀s∈l,s.lo<=s.hi/\s.hi<zk){x:Nat}(o:Ed l x):x∈z6 l:=by
 refine wY λj=>o.2 ?_;split
 .rename_i h0;subst h0;cases hm:mem l 0 with
  |false=>rfl
  |true=>obtain⟨s,hs,w,A⟩:=qf.1 hm;exact absurd (show 0∈z6 l from uu.2 ⟨s,hs,wm.2 (.inl b6)⟩) j
 .exact Qh h (x:=x-1) (y:=x) b6 o.1 λc u=>by have:c≠x:=λe=>j (e▸u);omega
def Nrm.ivs2{l:List Iv}(h:Nrm l):∀s∈l,s.lo<=s.hi/\s.hi<zk:=λs hs=>(NF.lo_ge h s hs).2
def zcM{f:XE}(A:f false false=false){a b:List Iv}(y:Nrm a)(hb:Nrm b){x:Nat}(h:Ed (qy f a b) x):Ed a x\/Ed b x:=by
 obtain⟨o,j⟩:=h;by_cases u:mem a x=(if x=0 then false else mem a (x-1))
 .by_cases w:mem b x=(if x=0 then false else mem b (x-1))
  .refine absurd ?_ j;rw[qj y hb o,u,w];split
   .exact A
   .rw[qj y hb b6]
  .exact .inr ⟨o,w⟩
 .exact .inl ⟨o,u⟩
def zcL{x:Nat}:¬Ed [] x:=λh=>h.2 b8
def zhC{m n x:Nat}(h:Ed [⟨m,n⟩] x):x=m\/x=n+1:=by
 obtain⟨_,h⟩:=h;rw[jl,jl]at h;by_cases e1:x=m
 .exact .inl e1
 .by_cases e2:x=n+1
  .exact .inr e2
  .refine absurd ?_ h;split
   .rename_i h0;rw[WF (show ¬m<=x by omega)];rfl
   .rw[WO];simp only[wh,wJ];omega
def EdV(C:Q9)(v:List En):Prop:=∀r x,Ed (zT v r) x->x∈C r
structure IV(C:Q9)(R:List Nat)(v:List En):Prop where
 right:zsC v
 ed:EdV C v
 rep:∀e∈v,e.rep∈R
structure WV(C:Q9)(R:List Nat)(v:List En):Prop where
 can:CanV v
 ed:EdV C v
 rep:∀e∈v,e.rep∈R
variable {C C':Q9}{R R':List Nat}{v a b:List En}
def WV.iv(h:WV C R v):IV C R v:=⟨h.can.right,h.ed,h.rep⟩
def WV.nil:WV C R []:=⟨⟨λe h=>(by cases h),List.Pairwise.nil⟩,λr x h=>absurd h (by rw[knV_nil];exact zcL),λe h=>(by cases h)⟩
def IV.mono(h:IV C R v)(j:∀r x,x∈C r->x∈C' r)(o:∀x∈R,x∈R'):IV C' R' v:=⟨h.right,λr x w=>j _ _ (h.ed r x w),λe u=>o _ (h.rep e u)⟩
def IV.lat{f:XE}(w:f false false=false)(o:IV C R a)(hb:IV C R b):WV C R (ks f a b):=by
 refine⟨Xe f o.right hb.right,λr x y=>?_,λe A=>?_⟩
 .rw[JR w o.right hb.right]at y;rcases zcM w (qi o.right r) (qi hb.right r) y with h|h
  .exact o.ed r x h
  .exact hb.ed r x h
 .have:=qr.1 (zdd e A);rcases wI.1 this with h|h
  .obtain⟨u,j,h⟩:=wG.1 h;rw[<-h];exact o.rep u j
  .obtain⟨u,j,h⟩:=wG.1 h;rw[<-h];exact hb.rep u j
def IV.canVec(h:IV C R v):WV C R (zi v):=by refine⟨jN h.right,λr x y=>h.ed r x (by rwa[ja h.right]at y),λe w=>?_⟩;obtain⟨o,j,u⟩:=uk.1 w;rw[(v9 u).2.2];exact h.rep o j
def QY{e:En}(h:YP e){L:List Nat}(A:∀x,Ed (kn e) x->x∈L):e.holes.length<=L.length+2:=by
 have u:=ZM h;have w:=(jO h).1;have j:=qT h.1;rw[qD w]at u;have y:e.holes=qy zm [⟨0,QV (kn e)⟩] (kn e):=by have:=WU (λp=>p.1.holes) u;exact this.symm
 have ht:=(x9 j w).2;have o:=qG (vj (QV (kn e))) ht;rw[y];have:=zcK (C:=0::(QV (kn e)+1)::L) (qH (f:=zm) o j) λx B=>by
  rcases zcM fM0 o j B with h|h
  .rcases zhC h with h|h<;>simp[h]
  .simp[A x h]
 simpa using this
def zb5(h:v.Pairwise λa b=>a.rep<b.rep):YN (zM v):=by unfold YN zM;rw[uD];exact h
def WV.bv(h:WV C R v){n m:Nat}(o:∀r,(C r).length<=n)(A:R.length<=m):BV m (n+2) v:=by
 refine⟨h.can.right,?_,λe j=>?_⟩
 .have:=Ji (zM v) R (zb5 h.can.2) λy w=>(by obtain⟨e,j,rfl⟩:=wG.1 w;exact h.rep e j);simp only[zM,wB]at this;omega
 .have:=QY (h.can.1 e j) (L:=C e.rep) λx u=>h.ed e.rep x (by rw[kq h.can.2 j];exact u);have:=o e.rep;omega
def IV.of(h:zsC v):IV (λr=>z6 (zT v r)) (zM v) v:=⟨h,λr x o=>Y3 (qi h r).ivs2 o,λe j=>wG.2 ⟨e,j,rfl⟩⟩
end
section
open Go.RowKit
def CanV.bd{v:List En}(h:CanV v):∀e∈v,ZL e:=λe j=>Jg (h.1 e j).1
structure Fg where
 items:List Iv
 vec:List En
deriving DecidableEq
instance : Inhabited Fg:=⟨⟨[],[]⟩⟩
def Fg.ext'{f g:Fg}(j:f.items=g.items)(o:f.vec=g.vec):f=g:=by cases f;cases g;simp_all
def fc(f:Fg):List PV:=[rg f.items,vp f.vec]
def fp(f:Fg):PV:=.agg (fc f)
def kp(k:List Fg):PV:=.sl (k.map fc) .sh
attribute [go_sem] kp fp fc
def ZS(f:Fg):Prop:=Nrm f.items/\zsC f.vec
def RightK(k:List Fg):Prop:=∀f∈k,ZS f
def BdF(f:Fg):Prop:=BdR f.items/\(∀e∈f.vec,ZL e)/\f.items.length<=9223372036854775807/\f.vec.length<=9223372036854775807
def BdK(k:List Fg):Prop:=(∀f∈k,BdF f)/\k.length<=9223372036854775807
def vx(k:List Fg):Bool:=k.all (λf=>decide (f.items.length<=20) && JF f.vec) && decide (k.length<=12)
def hkK:Nat->List Fg->Nat×Int
 |_,[]=>(0,-1)
 |i,f::r=>if (Zl f.items).1≠0 then ((Zl f.items).1,(i:Int)) else if (jx f.vec).1≠0 then ((jx f.vec).1,(i:Int)) else hkK (i+1) r
def ckK(k:List Fg):Nat×Int:=hkK 0 k
def Vd:∀(i:Nat)(k:List Fg),(hkK i k).1=0↔∀f∈k,(Zl f.items).1=0/\(jx f.vec).1=0
 |_,[]=>by simp[hkK]
 | i,f::r=>by
   have ih:=Vd (i+1) r;unfold hkK;by_cases o:(Zl f.items).1≠0
   .rw[VS o];exact⟨λh=>absurd h o,λh=>(h f b8).1⟩
   .rw[V2 o];by_cases u:(jx f.vec).1≠0
    .rw[VS u];exact⟨λh=>absurd h u,λh=>(h f b8).2⟩
    .rw[V2 u,ih];constructor
     .intro h g j;rcases wm.1 j with rfl|j
      .exact⟨b6,b6⟩
      .exact h g j
     .intro h g j;exact h g (by simp[j])
def ZN{k:List Fg}(hb:BdK k):(ckK k).1=0↔RightK k:=by
 unfold ckK;rw[Vd];constructor
 .intro h f o;obtain⟨u,w⟩:=h f o;have j:=hb.1 f o;exact⟨(YT λs hs=>(j.1 s hs).2).1 u,(XP j.2.1).1 w⟩
 .intro h f o;have j:=hb.1 f o;exact⟨(YT λs hs=>(j.1 s hs).2).2 (h f o).1,(XP j.2.1).2 (h f o).2⟩
def withF(i:Nat):Nat->List Fg->List (Nat×Fg)
 |_,[]=>[]
 |n,f::r=>if mem f.items i=true then (n,f)::withF i (n+1) r else withF i (n+1) r
def QR(i:Nat)(f:Fg):∀(n:Nat)(l:List Fg),withF i n (l++[f])=withF i n l++(if mem f.items i=true then [(n+l.length,f)] else [])
 |n,[]=>by simp[withF]
 | n,g::l=>by
   have ih:=QR i f (n+1) l;have e:n+1+l.length=n+(l.length+1):=b6;rw[Yf,withF,withF,ih,wD,e];split<;>simp
def j9{k:List Fg}{j:Nat}(i:Nat)(h:j<k.length):withF i 0 (k.take (j+1))=withF i 0 (k.take j)++(if mem k[j].items i=true then [(j,k[j])] else []):=by rw[vw h,QR,Wi,ud b6,wy]
def jv{i:Nat}{p:Nat×Fg}:∀{n:Nat}{l:List Fg},p∈withF i n l->p.2∈l/\mem p.2.items i=true/\n<=p.1/\p.1<n+l.length
 |n,[],h=>by cases h
 | n,f::l,h=>by
   unfold withF at h;split at h
   .rename_i hf;rcases wm.1 h with rfl|h
    .exact⟨b8,hf,Zp _,b8⟩
    .obtain⟨j,o,u,w⟩:=jv h;exact⟨by simp[j],o,b6,b7⟩
   .obtain⟨j,o,u,w⟩:=jv h;exact⟨by simp[j],o,b6,b7⟩
def Zg(i:Nat):∀(n:Nat)(l:List Fg),(withF i n l).length<=l.length
 |_,[]=>Zp _
 | n,f::l=>by
   have:=Zg i (n+1) l;unfold withF;split<;>simp<;>omega
def YL{i:Nat}{q:Fg->Bool}:∀(n:Nat)(l:List Fg),(withF i n l).any (λp=>q p.2)=l.any λf=>mem f.items i && q f
 |_,[]=>rfl
 | n,f::l=>by
   have ih:=YL (i:=i) (q:=q) (n+1) l;unfold withF;rw[uP,<-ih];cases h:mem f.items i<;>simp
def zU(k:List Fg)(i:Nat):List Nat:=(withF i 0 k).map Prod.fst
def JX{k:List Fg}{j:Nat}(i:Nat)(h:j<k.length):zU (k.take (j+1)) i=zU (k.take j) i++(if mem k[j].items i=true then [j] else []):=by
 unfold zU;rw[j9 i h,WP];split<;>rfl
def zbk(k:List Fg)(i:Nat):(zU k i).length<=k.length:=by unfold zU;rw[wB];exact Zg _ _ _
def hasK(k:List Fg)(i r c:Nat):Bool:=k.any λf=>mem f.items i && mem (zT f.vec r) c
def jh(k:List Fg)(i r c:Nat):(withF i 0 k).any (λp=>mem (zT p.2.vec r) c)=hasK k i r c:=YL (q:=λf=>mem (zT f.vec r) c) 0 k
noncomputable def qc (k:List Fg) (i:Nat):List En:=(withF i 0 k).foldl (λo p=>ks zn o p.2.vec) []
def zbT(i:Nat):qc [] i=[]:=rfl
def Ku{k:List Fg}{j:Nat}(i:Nat)(h:j<k.length):qc (k.take (j+1)) i=if mem k[j].items i=true then ks zn (qc (k.take j) i) k[j].vec else qc (k.take j) i:=by
 unfold qc;rw[j9 i h,W8];split<;>rfl
def RightK.take{k:List Fg}(h:RightK k)(j:Nat):RightK (k.take j):=λf o=>h f (WJ o)
def CK(k:List Fg)(r:Nat):List Nat:=k.flatMap λf=>z6 (zT f.vec r)
def RK(k:List Fg):List Nat:=k.flatMap λf=>zM f.vec
def CI(k:List Fg):List Nat:=k.flatMap λf=>z6 f.items
def IV.frag{k:List Fg}(h:RightK k){f:Fg}(j:f∈k):IV (CK k) (RK k) f.vec:=
 (IV.of (h f j).2).mono (λr x o=>uu.2 ⟨f,j,o⟩) λx o=>uu.2 ⟨f,j,o⟩
def IK(C:Q9)(R:List Nat)(k:List Fg):Prop:=∀f∈k,IV C R f.vec
def RightK.ik{k:List Fg}(h:RightK k):IK (CK k) (RK k) k:=λf j=>IV.frag h j
def IK.take{C:Q9}{R:List Nat}{k:List Fg}(h:IK C R k)(j:Nat):IK C R (k.take j):=λf o=>h f (WJ o)
def zgT{C:Q9}{R:List Nat}:∀(l:List (Nat×Fg))(o:List En),(∀p∈l,IV C R p.2.vec)->WV C R o->WV C R (l.foldl (λo p=>ks zn o p.2.vec) o) /\
 ∀r c,c<zk->mem (zT (l.foldl (λo p=>ks zn o p.2.vec) o) r) c=(mem (zT o r) c || l.any λp=>mem (zT p.2.vec r) c)
 |[],o,_,ho=>⟨ho,λr c _=>b8⟩
 |p::l,o,hl,ho=>by have j:=hl p b8;obtain⟨w,y⟩:=zgT l (ks zn o p.2.vec) (λq A=>hl q (by simp[A])) (ho.iv.lat fU0 j);refine⟨w,λr c u=>?_⟩;rw[WN,y r c u,JR fU0 ho.can.right j.right,qj (qi ho.can.right r) (qi j.right r) u,uP];simp only[zn,UK]
def IK.at{C:Q9}{R:List Nat}{k:List Fg}(h:IK C R k)(i:Nat):WV C R (qc k i)/\∀r c,c<zk->mem (zT (qc k i) r) c=hasK k i r c:=by obtain⟨j,o⟩:=zgT (withF i 0 k) [] (λp w=>h _ (jv w).1) WV.nil;refine⟨j,λr c u=>?_⟩;rw[<-jh];have:=o r c u;rw[knV_nil,Xf,uH]at this;exact this
def OkC(C:Q9)(R:List Nat):Prop:=(∀r,(C r).length<=9000)/\R.length<=1048576
def OutG(C:Qk)(mb base:Nat)(w:World)(v:Value)(o:List Fg):Prop:=
 ∃j,OwnC base w v o.length j/\∀i (h:i<o.length),∃a b,j[i*2]?=some a/\j[i*2+1]?=some b/\Dat (DX C mb w v) w a (rg o[i].items)/\Dat (DX C mb w v) w b (vp o[i].vec)
def OutG.start(C:Qk)(j base:Nat)(w:World):OutG C j base w (.slice none 0 0) []:=⟨[],⟨tX _ _ _ _,rfl,b8⟩,λi h=>absurd h b8⟩
def OutG.owns{C:Qk}{u base:Nat}{w:World}{v:Value}{o:List Fg}(h:OutG C u base w v o):∀k,v.ownBlock=some k->base<=k/\k<w.heap.size:=by obtain⟨y,j,_⟩:=h;exact j.1.lt
def OutG.shape{C:Qk}{G base:Nat}{w:World}{v:Value}{o:List Fg}(h:OutG C G base w v o):∃u j,v=.slice u o.length j/\o.length<=j/\j<=maxLen:=by
 obtain⟨H,B,_⟩:=h;rcases B.cases with⟨rfl,A,_⟩|⟨g,j,y,rfl,_,_,_,E,F,_⟩
 .exact⟨none,0,by rw[A],b6,dE⟩
 .exact⟨_,j,rfl,E,F⟩
def OwnC.keep{base:Nat}{w w':World}{v:Value}{n:Nat}{xs:List Value}(h:OwnC base w v n xs)(hb:∀k,v.ownBlock=some k->w'.heap[k]?=w.heap[k]?):OwnC base w' v n xs:=by
 refine⟨⟨h.1.1,?_⟩,h.2⟩;rcases h.1.2 with h|⟨g,j,o,e,y,u,r⟩
 .exact .inl h
 .exact .inr ⟨g,j,o,e,y,(hb g (by rw[e];rfl)).trans u,r⟩
def OutG.keep{C:Qk}{u base:Nat}{w w':World}{v:Value}{o:List Fg}(h:OutG C u base w v o)(hs:w.heap.size<=w'.heap.size)(hb:∀k,k<w.heap.size->w'.heap[k]?=w.heap[k]?):OutG C u base w' v o:=by obtain⟨xs,j,y⟩:=h;refine⟨xs,j.keep λk hk=>hb k (j.1.lt k hk).2,λi hi=>?_⟩;obtain⟨a,b,c,d,e,f⟩:=y i hi;exact⟨a,b,c,d,DX.keep e hs λk hk _=>hb k hk,DX.keep f hs λk hk _=>hb k hk⟩
def DX.grown{C:Qk}{u:Nat}{w A:World}{v y x:Value}{p:PV}(h:Dat (DX C u w v) w x p)(F:∀b o,C b o->b<u)(G:u<w.heap.size)(B:w.grownBy A v.ownBlock)(j:y.ownBlock=v.ownBlock\/y.ownBlock=some w.heap.size):Dat (DX C u A y) A x p:=
 h.mono (λb o h=>⟨h.1.imp id λh=>⟨h.1,Vq h.2 B.size⟩,λe=>by
  rcases j with j|j
  .exact h.2 (j.symm.trans e)
  .rw[j]at e;cases e;rcases h.1 with h|h
   .have:=F _ _ h;omega
   .omega⟩) λb o x h E=>(tw (a:=⟨b,o,none⟩) (B.block b (tz w ⟨b,o,none⟩ E) λe=>h.2 e.symm)).trans E
def zeu{D:Qk}{w:World}{v:Value}{l:List En}(h:Dat D w v (vp l)):v.oneCell'=true:=by have o:Dat D w v (.sl (l.map ec) .sh):=h;obtain⟨y,j,sz,b,u,f,e1,_⟩:=(Rel.dat (ρ:=λ_=>0) (nb:=0) o).inv_sl;rw[e1];rfl
def OutG.insK{C:Qk}{B base:Nat}{w G:World}{v I:Value}{o:List Fg}{f:Fg}{E:List Value}{p q:Value}{i:Nat}(hi:i<=o.length)(P:E.length=o.length*2)
 (J:∀i (h:i<o.length),∃a b,E[i*2]?=some a/\E[i*2+1]?=some b/\Dat (DX C B w v) w a (rg o[i].items)/\Dat (DX C B w v) w b (vp o[i].vec))
 (N:Dat (DX C B w v) w p (rg f.items)) (O:Dat (DX C B w v) w q (vp f.vec)) (u:∀{x:Value}{p:PV},Dat (DX C B w v) w x p->Dat (DX C B G I) G x p)
 (ho:OwnC base G I (o.length+1) (E.take (i*2)++[p,q]++E.drop (i*2))):OutG C B base G I (o.take i++f::o.drop i):=by
 have A:(o.take i++f::o.drop i).length=o.length+1:=b7
 have ht:(E.take (i*2)).length=i*2:=b7
 refine⟨_,by rw[A];exact ho,λj L=>?_⟩;rw[A]at L;rcases WR j i with M|H|K
 .obtain⟨a,b,c,d,e,k⟩:=J j b6;have y:(o.take i++f::o.drop i)[j]=o[j]'b6:=(by rw[uz b7,Ud]);rw[y];refine⟨a,b,?_,?_,u e,u k⟩
  .rw[wV,wj b6,wA,VS b6];exact c
  .rw[wV,wj b6,wA,VS b6];exact d
 .subst H;have y:(o.take j++f::o.drop j)[j]=f:=by rw[Wz (by rw[Wi];exact UO _ _)];simp[ud hi]
  rw[y];refine⟨p,q,?_,?_,u N,u O⟩
  .rw[wV,wi b6,ht,UU];rfl
  .rw[wV,wi b6,ht,show j*2+1-j*2=1 by omega];rfl
 .obtain⟨a,b,c,d,e,k⟩:=J (j-1) b6;have y:(o.take i++f::o.drop i)[j]=o[j-1]'b6:=(by rw[Wz b7];obtain⟨m,rfl⟩:∃m,j=i+1+m:=⟨j-(i+1),b6⟩;simp only[Wi,ud hi,show i+1+m-i=m+1 by omega,WT,Uy,show i+1+m-1=i+m by omega]);rw[y];have F:(E.take (i*2)++[p,q]).length=i*2+2:=b7;refine⟨a,b,?_,?_,u e,u k⟩
  .rw[wi b6,F,Wp,show i*2+(j*2-(i*2+2))=(j-1)*2 by omega];exact c
  .rw[wi b6,F,Wp,show i*2+(j*2+1-(i*2+2))=(j-1)*2+1 by omega];exact d
def OutG.ins{C:Qk}{j base:Nat}{w E:World}{v y:Value}{o:List Fg}{f:Fg}{u:List Value}{p q:Value}{i:Nat}(hi:i<=o.length)(I:u.length=o.length*2)
 (F:∀i (h:i<o.length),∃a b,u[i*2]?=some a/\u[i*2+1]?=some b/\Dat (DX C j w v) w a (rg o[i].items)/\Dat (DX C j w v) w b (vp o[i].vec))
 (J:Dat (DX C j w v) w p (rg f.items)) (K:Dat (DX C j w v) w q (vp f.vec)) (G:∀b o,C b o->b<j) (A:j<w.heap.size)
 (ho:OwnC base E y (o.length+1) (u.take (i*2)++[p,q]++u.drop (i*2))) (H:w.grownBy E v.ownBlock) (B:y.ownBlock=v.ownBlock\/y.ownBlock=some w.heap.size):OutG C j base E y (o.take i++f::o.drop i):=
 OutG.insK hi I F J K (λh=>DX.grown h G A H B) ho
def DX.new{C:Qk}{A:Nat}{w u:World}{v B x:Value}{p:PV}(h:Dat (DX C A w v) w x p)(E:∀b o,C b o->b<w.heap.size)(hb:Below w.heap.size w u)(j:∀k,B.ownBlock=some k->w.heap.size<=k):Dat (DX C A u B) u x p:=
 h.mono (λb o h=>⟨h.1.imp id λh=>⟨h.1,Vq h.2 hb.size⟩,λe=>by
  have:=j b e;rcases h.1 with h|h
  .have:=E _ _ h;omega
  .omega⟩) λb o x _ y=>(tw (a:=⟨b,o,none⟩) (hb.block b (tz w ⟨b,o,none⟩ y))).trans y
def OutG.set{C:Qk}{H base g:Nat}{w:World}{y:Nat}{o:List Fg}{l:List Iv}{E:Value}{i:Nat}(h:OutG C H base w (.slice (some ⟨g,0,none⟩) o.length y) o)(hi:i<o.length)(N:Dat (DX C H w (.slice (some ⟨g,0,none⟩) o.length y)) w E (rg l))(O:0<y):
 OutG C H base (w.setCell ⟨g,i*2,none⟩ E) (.slice (some ⟨g,0,none⟩) o.length y) (o.take i++⟨l,o[i].vec⟩::o.drop (i+1)):=by
 obtain⟨X,I,Q⟩:=h;have A:(o.take i++(⟨l,o[i].vec⟩:Fg)::o.drop (i+1)).length=o.length:=b7
 obtain⟨V,Y⟩:=I.1.stored (i*2) E;have J:(Value.slice (some ⟨g,0,none⟩) o.length y).ownBlock=some g:=by
  cases y with
  |zero=>omega
  |succ c=>rfl
 have B:∀{x:Value}{p:PV},Dat (DX C H w (.slice (some ⟨g,0,none⟩) o.length y)) w x p->Dat (DX C H (w.setCell ⟨g,i*2,none⟩ E) (.slice (some ⟨g,0,none⟩) o.length y)) (w.setCell ⟨g,i*2,none⟩ E) x p:=λh=>
  DX.keep h b8 λk hk L=>tG _ _ _ _ λe=>L (by rw[J];exact WU some e.symm)
 refine⟨X.set (i*2) E,⟨by rw[A];exact V,by rw[A,Uo];exact I.2.1,λu M=>?_⟩,λj P=>?_⟩
 .rcases Uj M with M|rfl
  .exact I.2.2 u M
  .exact Ki N
 .have K:j<o.length:=(by rw[A]at P;exact P);obtain⟨a,b,c,d,e,k⟩:=Q j K;have U:=I.2.1;by_cases G:j=i
  .subst G;have F:(o.take j++(⟨l,o[j].vec⟩:Fg)::o.drop (j+1))[j]=⟨l,o[j].vec⟩:=by rw[Wz (by rw[Wi];exact UO _ _)];simp[ud (uG hi)]
   rw[F];refine⟨E,b,?_,?_,B N,B k⟩
   .rw[WS b6]
   .rw[wZ b6];exact d
  .have F:(o.take i++(⟨l,o[i].vec⟩:Fg)::o.drop (i+1))[j]=o[j]:=by
    rcases Nat.lt_or_gt_of_ne G with T|S
    .rw[uz b7,Ud]
    .rw[Wz b7];obtain⟨m,rfl⟩:∃m,j=i+1+m:=⟨j-(i+1),b6⟩;simp only[Wi,ud (uG hi),show i+1+m-i=m+1 by omega,WT,Uy]
   rw[F];refine⟨a,b,?_,?_,B e,B k⟩
   .rw[wZ b6];exact c
   .rw[wZ b6];exact d
def OutG.setV{C:Qk}{B base g:Nat}{w:World}{y:Nat}{o:List Fg}{a0:Value}{i n:Nat}(N:o.length=n)(h:OutG C B base w (.slice (some ⟨g,0,none⟩) n y) o)(hi:i<o.length)(J:Dat (DX C B w (.slice (some ⟨g,0,none⟩) n y)) w a0 (vp o[i].vec))(K:0<y):
 OutG C B base (w.setCell ⟨g,i*2+1,none⟩ a0) (.slice (some ⟨g,0,none⟩) n y) o:=by
 subst N;obtain⟨Q,E,L⟩:=h;obtain⟨P,S⟩:=E.1.stored (i*2+1) a0;have F:(Value.slice (some ⟨g,0,none⟩) o.length y).ownBlock=some g:=by
  cases y with
  |zero=>omega
  |succ c=>rfl
 have A:∀{x:Value}{p:PV},Dat (DX C B w (.slice (some ⟨g,0,none⟩) o.length y)) w x p->Dat (DX C B (w.setCell ⟨g,i*2+1,none⟩ a0) (.slice (some ⟨g,0,none⟩) o.length y)) (w.setCell ⟨g,i*2+1,none⟩ a0) x p:=λh=>
  DX.keep h b8 λk hk H=>tG _ _ _ _ λe=>H (by rw[F];exact WU some e.symm)
 refine⟨Q.set (i*2+1) a0,⟨P,by rw[Uo];exact E.2.1,λu I=>?_⟩,λj M=>?_⟩
 .rcases Uj I with I|rfl
  .exact E.2.2 u I
  .exact zeu J
 .obtain⟨a,b,c,d,e,k⟩:=L j M;have O:=E.2.1;by_cases G:j=i
  .subst G;refine⟨a,a0,?_,?_,A e,A J⟩
   .rw[wZ b6];exact c
   .rw[WS b6]
  .refine⟨a,b,?_,?_,A e,A k⟩
   .rw[wZ b6];exact c
   .rw[wZ b6];exact d
def OutG.dat{C:Qk}{H base:Nat}{w:World}{v:Value}{o:List Fg}(h:OutG C H base w v o)(hb:H<base):Dat (DL C H w) w v (kp o):=by
 obtain⟨K,L,O⟩:=h;rcases L.1.2 with⟨rfl,N⟩|⟨g,I,M,rfl,X,Q,V,U,hs,ht⟩
 .obtain rfl:=Wc.1 N;exact .sl none 0 2 [] .sh 0 0 (λ_=>undef) b8 (λh=>by cases h) dE (λh=>absurd rfl h) (λi e h=>by simp at h) (λj h=>by simp at h) (λi e j p h=>by simp at h)
 .have J:=(Y1.1 Q).1;have F:∀j x,K[j]?=some x->w.cell? ⟨g,j,none⟩=some x:=λj x A=>(by have:=L.1.cells (g:=g) rfl j x A;rw[zh,wy]at this;exact this);have u:∀i (h:i<o.length) j p,(fc o[i])[j]?=some p->∃x,K[i*2+j]?=some x/\Dat (DL C H w) w x p/\x.oneCell'=true:=λi h j p B=>by
   obtain⟨a,b,c,d,e,k⟩:=O i h;match j,B with
   |0,B=>cases B;exact⟨_,c,e.mono (λ_ _ h=>h.1) λ_ _ _ _ h=>h,Ki e⟩
   |1,B=>cases B;exact⟨_,d,k.mono (λ_ _ h=>h.1) λ_ _ _ _ h=>h,zeu k⟩
   |j+2,B=>simp[fc]at B
  have E:∀(i:Nat)(e:List PV),(o.map fc)[i]?=some e->∃h:i<o.length,e=fc o[i]:=λi e G=>(by rw[wn]at G;obtain⟨x,A,rfl⟩:=Z3.1 G;obtain⟨h,rfl⟩:=ZZ.1 A;exact⟨h,rfl⟩);have y:(o.map fc).length=o.length:=wB _;unfold kp;rw[<-y];refine .sl (some ⟨g,0,none⟩) I 2 (o.map fc) .sh g 0 (λj=>(K[j]?).getD undef) (by rw[y];exact V) (λh=>by cases h) U (λ_=>rfl) (λi e G=>?_) (λj T=>?_) (λi e j p G B=>?_)
  .obtain⟨h,rfl⟩:=E i e G;rfl
  .rw[y]at T;have hi:j/2<o.length:=b6;have P:j%2<(fc o[j/2]).length:=U8 _ dE;obtain⟨x,A,_,ho⟩:=u (j/2) hi (j%2) ((fc o[j/2])[j%2]) (Zv P);rw[show j/2*2+j%2=j by omega]at A;rw[wy];refine⟨.inr ⟨b6,J⟩,?_,?_⟩
   .rw[A];exact F j x A
   .rw[A];exact ho
  .obtain⟨h,rfl⟩:=E i e G;obtain⟨x,A,S,_⟩:=u i h j p B;rw[A];exact S
def OutG.box{C:Qk}{u base rb:Nat}{w:World}{v x:Value}{o:List Fg}(h:OutG C u base w v o)(hb:rb<u)(F:rb<base)(E:∀b o,C b o->b≠rb):OutG C u base (w.setCell ⟨rb,0,none⟩ x) v o:=by
 have j:∀{y:Value}{p:PV},Dat (DX C u w v) w y p->Dat (DX C u (w.setCell ⟨rb,0,none⟩ x) v) (w.setCell ⟨rb,0,none⟩ x) y p:=λh=>
  h.mono (λb o h=>⟨h.1.imp id λh=>⟨h.1,dM h.2⟩,h.2⟩) λb o y h G=>(tw (a:=⟨b,o,none⟩) (tG _ _ _ _ (by
   show b≠rb;rcases h.1 with h|h
   .exact E _ _ h
   .omega))).trans G
 obtain⟨H,A,B⟩:=h;refine⟨H,A.keep λk hk=>tG _ _ _ _ (by have:=(A.1.lt k hk).1;show k≠rb;omega),λi hi=>?_⟩;obtain⟨a,b,c,d,e,f⟩:=B i hi;exact⟨a,b,c,d,j e,j f⟩
def qX(k:List Fg)(x y:Nat):Bool:=k.all λf=>mem f.items x == mem f.items y
def qo{k:List Fg}{x y:Nat}:qX k x y=true↔∀f∈k,mem f.items x=mem f.items y:=by simp[qX]
def j8{x y:Nat}:∀{k:List Fg}{n:Nat},(∀f∈k,mem f.items x=mem f.items y)->withF x n k=withF y n k
 |[],_,_=>rfl
 |f::k,n,h=>by rw[withF,withF,j8 (k:=k) λg j=>h g (by simp[j]),h f b8]
def Zh{x y:Nat}:∀{k:List Fg}{n:Nat},(withF x n k).map Prod.fst=(withF y n k).map Prod.fst->∀f∈k,mem f.items x=mem f.items y
 |[],_,_,f,j=>by cases j
 | g::k,n,h,f,j=>by
   have no:∀z,n∉(withF z (n+1) k).map Prod.fst:=λz hz=>(by obtain⟨p,o,e⟩:=wG.1 hz;have:=(jv o).2.2.1;omega);rw[withF,withF]at h;cases hx:mem g.items x<;>cases hy:mem g.items y<;>rw[hx,hy]at h<;>simp only[UR,U5,uI,WC]at h
   .rcases wm.1 j with rfl|j
    .rw[hx,hy]
    .exact Zh h f j
   .exact absurd (h▸WL) (no x)
   .exact absurd (h▸WL) (no y)
   .rcases wm.1 j with rfl|j
    .rw[hx,hy]
    .exact Zh (List.cons.inj h).2 f j
def Vp{k:List Fg}{x y:Nat}:zU k x=zU k y↔qX k x y=true:=by rw[qo];exact⟨λh=>Zh h,λh=>by unfold zU;rw[j8 h]⟩
def Yt{k:List Fg}{x y:Nat}(h:qX k x y=true)(r c:Nat):hasK k x r c=hasK k y r c:=by rw[<-jh,<-jh,j8 (qo.1 h)]
def km{k:List Fg}{i r c:Nat}:hasK k i r c=true↔∃f∈k,mem f.items i=true/\mem (zT f.vec r) c=true:=by simp[hasK]
noncomputable def zq (k:List Fg):List Nat:=(zH (k.map Fg.items)).filter λx=>decide (x=0) || !qX k (x-1) x
def startsK_asc(k:List Fg):YN (zq k):=(x8 _).filter _
def vZ{k:List Fg}(h:RightK k){x:Nat}:x∈zq k↔x<zk/\(x=0\/qX k (x-1) x=false):=by
 unfold zq;rw[Wv];constructor
 .rintro⟨u,o⟩;refine⟨Ze (λl C s hs=>?_) x u,dM o⟩;obtain⟨f,j,rfl⟩:=wG.1 C;have:=NF.lo_ge (h f j).1 s hs;omega
 .rintro⟨u,o⟩;refine⟨?_,dM o⟩;unfold zH;rw[qr];unfold yU;rcases WG x with y|y
  .simp[y]
  .have A:=o.resolve_left b6;refine wm.2 (.inr ?_);have:∃f∈k,mem f.items (x-1)≠mem f.items x:=wY λE=>(by have:qX k (x-1) x=true:=qo.2 λf j=>wY λB=>E ⟨f,j,B⟩;rw[A]at this;cases this);obtain⟨f,j,w⟩:=this;exact uu.2 ⟨f.items,wG.2 ⟨f,j,rfl⟩,Y3 (h f j).1.ivs2 ⟨u,by rw[V2 b6];exact λe=>w e.symm⟩⟩
def XC{k:List Fg}(h:RightK k):0∈zq k:=(vZ h).2 ⟨xM,.inl rfl⟩
def vY(k:List Fg):(zq k).length<=1+(CI k).length:=by
 have j:(zq k).length<=(zH (k.map Fg.items)).length:=WH _ _;have o:(zH (k.map Fg.items)).length<=(yU (k.map Fg.items)).length:=ju _;have u:(yU (k.map Fg.items)).length=1+(CI k).length:=by unfold yU CI;rw[wD,Uh];omega
 omega
def vN:List Nat->List Iv
 |[]=>[]
 |[x]=>[⟨x,zk-1⟩]
 |x::y::r=>⟨x,y-1⟩::vN (y::r)
def vO:∀l:List Nat,(vN l).length=l.length
 |[]=>rfl
 |[_]=>rfl
 |x::y::r=>by rw[vN,wD,vO (y::r)];rfl
def Vx:∀(l:List Nat)(i:Nat)(h:i<l.length),(vN l)[i]'(by rw[vO];exact h)=⟨l[i],if h:i+1<l.length then l[i+1]-1 else zk-1⟩
 |[x],0,_=>by simp[vN]
 |x::y::r,0,_=>by simp[vN]
 |x::y::r,i+1,h=>by have:=Vx (y::r) i (dM h);simp only[vN,WT];rw[this];simp
def YD:∀{l:List Nat},YN l->(∀x∈l,x<zk)->(∀s∈vN l,s.lo<=s.hi/\s.hi<zk/\s.lo∈l)/\(vN l).Pairwise (λs t=>s.hi<t.lo)/\(∀s∈vN l,∀y∈l,s.lo<y->s.hi<y)/\∀i x r,l=x::r->x<=i->i<zk->∃s∈vN l,s.lo<=i/\i<=s.hi
 |[],_,_=>⟨λs h=>(by cases h),List.Pairwise.nil,λs h=>(by cases h),λi x r h=>by cases h⟩
 | [x],_,hl=>by
   have M:=hl x b8;refine⟨λs h=>?_,by simp[vN],λs h y B j=>?_,λi y r h u C=>?_⟩
   .simp only[vN,wK]at h;subst h;exact⟨by simp only;omega,by simp only;omega,b8⟩
   .simp only[vN,wK]at h B;subst h B;simp at j
   .cases h;exact⟨⟨x,zk-1⟩,by simp[vN],u,by simp only;omega⟩
 | x::y::r,ha,hl=>by
   have A:=wk.1 ha;have G:=A.1 y b8;have B:=hl y b8;obtain⟨u,C,E,F⟩:=YD A.2 λz hz=>hl z (by simp[hz]);have o:∀z∈y::r,y<=z:=λz hz=>by
    rcases wm.1 hz with rfl|hz
    .exact Zp _
    .exact uG ((wk.1 A.2).1 z hz)
   rw[vN];refine⟨λs h=>?_,wk.2 ⟨λt ht=>?_,C⟩,λs h z hz j=>?_,λi O N h H I=>?_⟩
   .rcases wm.1 h with rfl|h
    .exact⟨by simp only;omega,by simp only;omega,b8⟩
    .obtain⟨J,K,L⟩:=u s h;exact⟨J,K,by rw[wm];exact .inr L⟩
   .have:=o _ (u t ht).2.2;simp only;omega
   .rcases wm.1 h with e|w
    .subst e;rcases wm.1 hz with e|hz
     .subst e;simp at j
     .have:=o z hz;simp only;omega
    .rcases wm.1 hz with e|hz
     .subst e;have:=o _ (u s w).2.2;omega
     .exact E s w z hz j
   .cases h;rcases wO i y with hi|hi
    .exact⟨⟨x,y-1⟩,b8,H,by simp only;omega⟩
    .obtain⟨s,hs,q⟩:=F i y r rfl hi I;exact⟨s,by simp[hs],q⟩
noncomputable def cutsK (k:List Fg):List Iv:=vN (zq k)
noncomputable def zu (k:List Fg):List Iv:=(cutsK k).filter λs=>decide (0<(zU k s.lo).length)
section
variable {k:List Fg}(h:RightK k)
include h
theorem x7:∀x∈zq k,x<zk:=λx j=>((vZ h).1 j).1
theorem xO:(∀s∈cutsK k,s.lo<=s.hi/\s.hi<zk/\s.lo∈zq k)/\(cutsK k).Pairwise (λs t=>s.hi<t.lo)/\(∀s∈cutsK k,∀y∈zq k,s.lo<y->s.hi<y)/\∀i,i<zk->∃s∈cutsK k,s.lo<=i/\i<=s.hi:=by
 obtain⟨u,w,A,B⟩:=YD (startsK_asc k) (x7 h);refine⟨u,w,A,λi hi=>?_⟩;have j:=XC h;cases hs:zq k with
 |nil=>rw[hs]at j;cases j
 | cons x r=>
   have:x=0:=by
    rw[hs]at j;rcases wm.1 j with e|e
    .exact e.symm
    .have o:=startsK_asc k;rw[hs]at o;have:=(wk.1 o).1 0 e;omega
   exact B i x r hs b6 hi
theorem jR{s:Iv}(hs:s∈cutsK k):∀{x:Nat},s.lo<=x->x<=s.hi->qX k s.lo x=true:=by
 obtain⟨w,_,y,_⟩:=xO h;intro x;induction x with
 |zero=>intro j _;rw[show s.lo=0 by omega];exact qo.2 λf _=>rfl
 | succ x ih=>
   intro j C;rcases uK j with e|o
   .rw[e];exact qo.2 λf _=>rfl
   .have A:=ih b6 b6;have B:qX k x (x+1)=true:=by
     cases h7:qX k x (x+1)with
     |true=>rfl
     |false=>have:=y s hs (x+1) ((vZ h).2 ⟨by have:=(w s hs).2.1;omega,.inr (by rw[Nat.add_sub_cancel];exact h7)⟩) o;omega
    exact qo.2 λf u=>(qo.1 A f u).trans (qo.1 B f u)
theorem Xj{i:Nat}(hi:i<zk)(u:0<(zU k i).length):∃s∈zu k,s.lo<=i/\i<=s.hi:=by obtain⟨s,hs,j,o⟩:=(xO h).2.2.2 i hi;refine⟨s,Wv.2 ⟨hs,?_⟩,j,o⟩;rw[wJ,Vp.2 (jR h hs j o)];exact u
theorem yt:(∀s∈zu k,s.lo<=s.hi/\s.hi<zk/\s∈cutsK k/\0<(zU k s.lo).length)/\(zu k).Pairwise (λs t=>s.hi<t.lo):=by refine⟨λs hs=>?_,(xO h).2.1.filter _⟩;obtain⟨j,o⟩:=Wv.1 hs;obtain⟨u,w,_⟩:=(xO h).1 s j;exact⟨u,w,j,dM o⟩
end
def xW(k:List Fg):(zu k).length<=1+(CI k).length:=by have j:(zu k).length<=(cutsK k).length:=WH _ _;have o:(cutsK k).length=(zq k).length:=vO _;have:=vY k;omega
noncomputable def jq (k:List Fg):List Fg:=(zu k).map λs=>⟨[s],qc k s.lo⟩
def ZB{k:List Fg}{f:Fg}(j:f∈jq k):∃s∈zu k,f=⟨[s],qc k s.lo⟩:=by obtain⟨s,hs,e⟩:=wG.1 j;exact⟨s,hs,e.symm⟩
def zfJ{s:Iv}{x:Nat}:mem [s] x=true↔s.lo<=x/\x<=s.hi:=by simp[mem]
def xh(k:List Fg):Prop:=k.Pairwise λf g=>∀x,x<zk->¬(mem f.items x=true/\mem g.items x=true)
def IK.refine{C:Q9}{R:List Nat}{k:List Fg}(hk:IK C R k):∀f∈jq k,WV C R f.vec:=λf j=>by obtain⟨s,_,rfl⟩:=ZB j;exact(hk.at s.lo).1
def Yb{k:List Fg}(h:RightK k):RightK (jq k):=λf u=>by obtain⟨s,hs,rfl⟩:=ZB u;obtain⟨j,o,_⟩:=(yt h).1 s hs;exact⟨qG j o,(h.ik.at s.lo).1.can.right⟩
def zeD{k:List Fg}(h:RightK k):xh (jq k):=by unfold xh jq;rw[uD];refine(yt h).2.imp λhst x _ ⟨h1,h2⟩=>?_;have:=zfJ.1 h1;have:=zfJ.1 h2;omega
def JJ{k:List Fg}(h:RightK k){V:Nat->List En}{P:Nat->Nat->Nat->Bool}(B:∀x r c,x<zk->c<zk->mem (zT (V x) r) c=P x r c)(hs:∀x y r c,qX k x y=true->P x r c=P y r c)(F:∀x r c,zU k x=[]->P x r c=false)
 {i r c:Nat} (hi:i<zk) (C:c<zk):hasK ((zu k).map λs=>⟨[s],V s.lo⟩) i r c=P i r c:=by
 rw[WO,km];constructor
 .rintro⟨f,G,u,o⟩;obtain⟨s,j,rfl⟩:=wG.1 G;obtain⟨I,J,w,_⟩:=(yt h).1 s j;have A:=zfJ.1 u;rw[B s.lo r c b6 C,hs _ _ _ _ (jR h w A.1 A.2)]at o;exact o
 .intro E;have H:0<(zU k i).length:=Nat.pos_of_ne_zero λe=>by have:=F i r c (Wc.1 e);rw[E]at this;cases this
  obtain⟨s,j,u,o⟩:=Xj h hi H;obtain⟨I,J,w,_⟩:=(yt h).1 s j;refine⟨_,wG.2 ⟨s,j,rfl⟩,zfJ.2 ⟨u,o⟩,?_⟩;rw[B s.lo r c b6 C,hs _ _ _ _ (jR h w u o)];exact E
def zc0{k:List Fg}{x:Nat}(r c:Nat)(h:zU k x=[]):hasK k x r c=false:=by rw[<-jh];unfold zU at h;rw[List.map_eq_nil_iff.1 h];rfl
def zfp{k:List Fg}(h:RightK k){i r c:Nat}(hi:i<zk)(j:c<zk):hasK (jq k) i r c=hasK k i r c:=
 JJ h (V:=qc k) (P:=hasK k) (λx r c _ j=>(h.ik.at x).2 r c j) (λ_ _ r c h=>Yt h r c) (λ_ r c h=>zc0 r c h) hi j
end
end Go.Proofs.YtjdjjlkifdimkaaGreatDoor
