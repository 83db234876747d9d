import Derived.Test.YtjdjjlkifdimkaaGreatDoorB18
set_option maxHeartbeats 16000000
set_option linter.all false
set_option maxRecDepth 100000
namespace Go.Proofs.YtjdjjlkifdimkaaGreatDoor
def dH{p:Prop}(h:p:=by simp [Value.ownBlock]<;>omega):p:=h
open Go.RowKit
open Go.Proofs.Tryz
open Go.Proofs.Tryz renaming prog->xt
section
open Go.Maps
attribute [-go_sem] z7
def zim{D:xT}{w:World}{v:Value}{l:List Nat}(h:Dat D w v (ns l)):∃G y,v=.slice G l.length y/\l.length<=y/\y<=maxLen/\(l≠[]->∃b A,G=some ⟨b,A,none⟩/\∀j (J:j<l.length),D b (A+j)/\w.cell? ⟨b,A+j,none⟩=some (.int .u64 (l[j]:Nat))):=by
 unfold ns at h;generalize I:l.map yN=es at h;cases h with
 |sl a y sz es o b A u hc hz hm ha hsz hd hx=>have K:es.length=l.length:=(by rw[<-I];simp);refine⟨a,y,by rw[K],a9,hm,λF=>?_⟩;have B:0<l.length:=wU.2 F;have g:∀i (h:i<l.length),es[i]?=some (yN l[i]):=λi h=>(by rw[<-I];exact xo h);obtain rfl:1=sz:=hsz 0 _ (g 0 B);have E:es≠[]:=(by intro e;subst e;simp at K;omega);refine⟨b,A,ha E,λj J=>?_⟩;have L:=(hx j _ 0 _ (g j J) rfl).v_inv;obtain⟨H,C,_⟩:=hd (j*1+0) a9;rw[L]at C;simp only[Uh,ud]at H C;exact⟨H,C⟩
def ve{P:Program}(w:World)(t u e:TypeId)(i:TypeInfo)(ht:P.underlying t=some (.slice e))(hi:P.info? e=some i)(j:Option Addr)(n cp c:Nat)(o:n<=cp):
 (Builtin.append_ #[t,t] u #[.slice j n cp,.slice none 0 c]).run P w=.ok (.slice j n cp) w:=by
 cases j<;>simp[Builtin.append_,tE ht,sizeOf,typeInfo,hi,Builtin.lenOf,Builtin.firstCells,o,storeCells]
def zbE(w:World)(t M:TypeId)(ht:xt.underlying t=some (.slice 36))(base:Nat)(v:Value)(n:Nat)(N:List Value)(y:w.ownsRow base 36 1 v n N)(G:Option Addr)(m c:Nat)(o:List Value)(O:o.length=m)
 (B:(m=0/\G=none)\/∃a,G=some a/\∀j u,o[j]?=some u->w.cell? (a.add j)=some u) (U:∀u∈o,u.oneCell'=true) (V:n+m<=17179869184) (A:base<=w.heap.size) :
 ∃C F,(Builtin.append_ #[t,t] M #[v,.slice G m c]).run xt w=.ok C F/\F.ownsRow base 36 1 C (n+m) (N++o)/\w.grownBy F v.ownBlock/\(C.ownBlock=v.ownBlock\/C.ownBlock=some w.heap.size):=by
 obtain⟨Q,E,J,K,L⟩:=tN Vf;rcases B with⟨rfl,rfl⟩|⟨a,rfl,X⟩
 .obtain rfl:o=[]:=wV.1 O;obtain⟨H,cp,rfl,I⟩:∃H cp,v=.slice H n cp/\n<=cp:=by
   rcases y.2 with⟨rfl,rfl⟩|⟨g,S,T,rfl,_,_,h,_⟩
   .exact⟨none,0,rfl,Zp _⟩
   .exact⟨_,_,rfl,h⟩
  exact⟨_,w,ve w t M _ Q ht E H n cp c I,dL y,jW _ _,.inl rfl⟩
 .obtain⟨C,F,Y,Z,r3,_,r5⟩:=Te (P:=xt) w base t M 36 Q _ 1 8 ht E J K L rfl b9 v n N y a m c o (dL O) X U dF a9 A;exact⟨C,F,Y,Z,r3,r5⟩
def xK{G:Array Oper}{o:Oper}{a:Act}{w:World}{K:Act->World->Prop}{Q:Exit->Act->World->Prop}{E:Prop}(s x:Operand)(t:TypeId)(L:o.guard=none)
 (ho:o.op=.call { callee:=.builtin .append,args:=#[s,x],argTypes:=#[t,t] }) (ht:xt.underlying t=some (.slice 36)) (base:Nat) (v:Value) (n:Nat) (M:List Value) (hs:a.eval s=v) (F:w.ownsRow base 36 1 v n M)
 (I:Option Addr) (m c:Nat) (y:List Value) (X:a.eval x=.slice I m c) (T:y.length=m) (B:(m=0/\I=none)\/∃a,I=some a/\∀j u,y[j]?=some u->w.cell? (a.add j)=some u) (N:∀u∈y,u.oneCell'=true) (J:n+m<=17179869184) (A:base<=w.heap.size)
 (h:∀C H,H.ownsRow base 36 1 C (n+m) (M++y)->w.grownBy H v.ownBlock->(C.ownBlock=v.ownBlock\/C.ownBlock=some w.heap.size)->K (a.put o.dst C) H):if Region.wanted o (yielded G a.tmps)=true then Oper.wp xt o a w K Q else E:=by
 have V:Region.wanted o (yielded G a.tmps)=true:=by simp[Region.wanted,L]
 rw[vj V];obtain⟨C,H,U,O,P,S⟩:=zbE w t o.type ht base v n M F I m c y T B N J A;unfold Oper.wp execOp;simp only[ho,resolve,invoke,builtin,tC,tG,tw,uh,Wx,W6,hs,X,U];exact h C H O P S
def zdy{w:World}{base A:Nat}(j:base<=A)(h:w.heap[A]?=some (.cells #[] 36 (0,0))):w.ownsRow base 36 1 (.slice (some ⟨A,0,none⟩) 0 0) 0 []:=⟨rfl,.inr ⟨A,0,#[],rfl,j,h,Zp _,X4 _,rfl,rfl⟩⟩
def yw(w:World)(o j:Obj):((w.alloc o).alloc j).heap[w.heap.size]?=some o:=(tr _ _ _ b7).trans (tl w o)
def yx(w:World)(o j:Obj):((w.alloc o).alloc j).heap[w.heap.size+1]?=some j:=by
 have:=tl (w.alloc o) j
 rwa[tu]at this
def YR(w:World)(o:Obj):Below w.heap.size w (w.drew.alloc o):=⟨rfl,rfl,rfl,b7,λk hk=>tr w.drew _ _ hk⟩
def XM(w:World)(o j:Obj):Below w.heap.size w ((w.drew.alloc o).alloc j):=(YR w o).alloc b7 _
def zbw(C:xT)(N:List Nat)(x:Nat)(va:Value)(w:World)(hl:(srt N).length<=4194304)(hd:Dat C w va (ns (srt N)))(hC:∀b o,C b o->b<w.heap.size):
 Calls xt 142 #[va,.int .u64 (x:Nat)] w λe w'=>∃v,e=.returned v/\Below w.heap.size w w'/\Dat (λb o=>C b o\/(w.heap.size<=b/\b<w'.heap.size)) w' v (ns (srt (N++[x]))):=by
 obtain⟨l,ac⟩:=xm (srt N);have HD:=qL hd;rw[<-ac]at hl hd;have F:=qL ac;obtain⟨Y,O,rfl,aI,aD,au⟩:=zim hd;have ai:=qL au;clear hd ac au;unfold maxLen at aD;go_enter func142,ntmps142
 go_wp2_with fail
 go_loopg [5] l.length (λg y wr=>wr=w/\∃k,k<=l.length/\g=l.length-k/\y=.int .i64 k/\∀j,(h:j<l.length)->j<k->l[j]<x)
 case atStart=>exact⟨rfl,0,X4 _,rfl,rfl,λj _ h=>absurd h a9⟩
 case round=>
  obtain⟨rfl,k,hk,rfl,rfl,B⟩:=hrel;have HJ:=qL B;clear B;by_cases S:k<l.length
  .obtain⟨b,G,rfl,H⟩:=ai.o (λe=>by rw[e]at S;simp at S);have ar:=(H k S).2;obtain⟨y,Z⟩:=xm (l[k]);rw[<-Z]at ar;have HY:=qL Z;have aj:=qL H;clear Z H;by_cases h2:y<x
   .go_wp2_with fail
    go_roundg (l.length-(k+1));case measure=>omega
    case rel=>
     refine⟨rfl,k+1,S,rfl,b7,λj aE aJ=>?_⟩;rcases wK j k with h3|h3
     .exact HJ.o j aE h3
     .obtain rfl:j=k:=a9;rw[<-HY.o];exact h2
   .by_cases h3:y=x
    .go_wp2_with fail
     refine tx (tI rfl _ _ _) rfl ?_;have av:x∈srt N:=(by rw[<-F.o,<-h3,HY.o];exact Yf S);rw[zaw av];exact⟨_,rfl,tq _ _,HD.o.mono (λ_ _ h=>.inl h) λ_ _ _ _ h=>h⟩
    .go_wp2_with fail
     have af:xt.follows .mixedOrders=true:=dM;have V:∀u∈(l.take k).map uV,u.oneCell'=true:=QN;have ae:∀u∈(l.drop k).map uV,u.oneCell'=true:=QN;have M:∀u∈[uV x],u.oneCell'=true:=λu hu=>(by simp at hu;subst hu;rfl);have L:∀W:World,Below wr.heap.size wr W->∀j (B:j<l.length),W.cell? ⟨b,G+j,none⟩=some (uV l[j]):=λW hB j B=>(tk (a:=⟨b,G+j,none⟩) (hB.block b (hC _ _ (aj.o j B).1))).trans (aj.o j B).2;have aw:∀W:World,Below wr.heap.size wr W->(k=0/\(some (⟨b,G,none⟩:Addr))=none)\/∃a,some (⟨b,G,none⟩:Addr)=some a/\∀j u,((l.take k).map uV)[j]?=some u->W.cell? (a.add j)=some u:=λW hB=>.inr ⟨_,rfl,λj u h=>by
      rw[wh]at h;obtain⟨y,Z,rfl⟩:=ZZ.1 h;obtain⟨B,rfl⟩:=Zw.1 Z;rw[zh,uI];exact L W hB j (by simp at B;omega)⟩
     have ax:∀W:World,Below wr.heap.size wr W->(l.length-k=0/\(some (⟨b,G+k,none⟩:Addr))=none)\/∃a,some (⟨b,G+k,none⟩:Addr)=some a/\∀j u,((l.drop k).map uV)[j]?=some u->W.cell? (a.add j)=some u:=λW hB=>.inr ⟨_,rfl,λj u h=>by
      rw[wh]at h;obtain⟨y,Z,rfl⟩:=ZZ.1 h;obtain⟨B,rfl⟩:=Zw.1 Z;rw[zh,Ur,show G+k+j=G+(k+j) by omega];exact L W hB (k+j) (by simp at B;omega)⟩
     have az:=qL aw;have aA:=qL ax;have ar:¬(O=k):=a9;have aK:k<=O:=a9;have aL:k<=l.length:=a9;have I:∀v w,w.ownsRow wr.heap.size 36 1 v (k+1+(l.length-k)) ((l.take k).map uV++([uV x]++(l.drop k).map uV))->OwnN wr.heap.size w v (srt (N++[x])):=λv w h=>by
      have hi:=kJ (xs:=N) (x:=x) (at_:=k) (by rw[<-F.o];omega) (λj h5 h6=>by
       have h7:l[k]<=(srt N)[j]:=by
        rcases uE h6 with h8|h8
        .subst h8;simp only[F.o];exact Zp _
        .have:=jJ (yi N) h5 h8;simp only[F.o];omega
       have:=HY.o;omega) (by
       rcases WB k with h5|h5
       .exact .inl h5
       .refine .inr ⟨by rw[<-F.o];omega,?_⟩;have h6:=HJ.o (k-1) a9 a9;simpa only[F.o]using h6)
      rw[hi,<-F.o];unfold OwnN;have e:(l.take k++x::l.drop k).length=k+1+(l.length-k):=b6;rw[e];show w.ownsRow wr.heap.size 36 1 v _ (List.map uV _);rw[WI,Wx];exact h
     have P:=qL I;clear I aw ax L;go_region_law_o (first
      | (refine xK (.tmp 33) (.tmp 36) 147 rfl rfl underlying147 wr.heap.size (.slice (some ⟨_,0,none⟩) 0 0) 0 [] rfl (zdy a9 (by first|exact tl _ _|exact tl wr _|exact yw _ _ _|exact yx _ _ _|exact yw wr _ _|exact yx wr _ _)) _ k _ ((l.take k).map uV) rfl dG (az.o _ (by first|exact YR _ _|exact XM _ _ _)) V a9 dG ?_
         intro aF X E A an;have b1:Below wr.heap.size wr X:=by first|exact(YR wr _).grown A dG (λj B=>by simp[Value.ownBlock]at B;omega)|exact(XM wr _ _).grown A dG (λj B=>by simp[Value.ownBlock]at B;omega))
      | (refine xK (.tmp 37) (.tmp 39) 147 rfl rfl underlying147 wr.heap.size _ (0+k) ([]++(l.take k).map uV) rfl (by first|exact E|exact E.alloc _) _ 1 _ [uV x] rfl rfl (.inr ⟨_,rfl,vH (vt := 36) (by first|exact tl X _|exact(A.block _ dG dH).trans (yw wr _ _)|exact(A.block _ dG dH).trans (yx wr _ _))⟩) M a9 (by have:=A.size;simp at this⊢<;>omega) ?_
         intro aG ah K J ao;have b2:Below wr.heap.size wr ah:=by first|exact b1.grown J b1.size (λj B=>(E.lt j B).1)|exact(b1.alloc b1.size _).grown J (by have:=b1.size;simp<;>omega) (λj B=>(E.lt j B).1))
      | (refine xK (.tmp 40) (.tmp 43) 147 rfl rfl underlying147 wr.heap.size _ (0+k+1) ([]++(l.take k).map uV++[uV x]) rfl K _ (l.length-k) _ ((l.drop k).map uV) rfl dG (aA.o _ b2) ae a9 b2.size ?_
         intro ag aH U Q aq;have b3:=b2.grown Q b2.size λj B=>(K.lt j B).1))
     all_goals (go_wp2;all_goals (refine tx (tI rfl _ _ _) rfl ?_;exact⟨ag,rfl,b3,vL (base:=wr.heap.size) (P.o _ _ (dL U)) λb o h1 h2=>.inr ⟨h1,h2⟩⟩))
  .obtain rfl:k=l.length:=a9
   go_wp2_with fail
   have af:xt.follows .mixedOrders=true:=dM;obtain⟨ak,ab,am⟩:∃ak ab,(ak,ab)=(if O=l.length then Y else Option.map (λx=>x.add l.length) Y,O-l.length):=⟨_,_,rfl⟩;have aM:l.length+1<=17179869184:=a9;have V:∀u∈l.map uV,u.oneCell'=true:=QN;have M:∀u∈[uV x],u.oneCell'=true:=λu hu=>(by simp at hu;subst hu;rfl);have ay:∀W:World,Below wr.heap.size wr W->(l.length=0/\Y=none)\/∃a,Y=some a/\∀j u,(l.map uV)[j]?=some u->W.cell? (a.add j)=some u:=λW hB=>by
    by_cases h0:l=[]
    .subst h0;cases Y with
     |none=>exact .inl ⟨rfl,rfl⟩
     |some a=>exact .inr ⟨a,rfl,λj u h=>by simp at h⟩
    .obtain⟨b,G,rfl,hc⟩:=ai.o h0;refine .inr ⟨_,rfl,λj u h=>?_⟩;rw[wh]at h;obtain⟨y,Z,rfl⟩:=ZZ.1 h;obtain⟨B,rfl⟩:=Zw.1 Z;rw[zh];exact(tk (a:=⟨b,G+j,none⟩) (hB.block b (hC _ _ (hc j B).1))).trans (hc j B).2
   have T:(0=0/\(if O=l.length then Y else Option.map (λx=>x.add l.length) Y)=none)\/∃a,(if O=l.length then Y else Option.map (λx=>x.add l.length) Y)=some a:=by
    cases Y<;>simp;split<;>simp
   have aB:=qL ay;have aC:=qL T;clear ay T am;have I:∀v w,w.ownsRow wr.heap.size 36 1 v (l.length+1) (l.map uV++[uV x])->OwnN wr.heap.size w v (srt (N++[x])):=λv w h=>by
    have hi:=kJ (xs:=N) (x:=x) (at_:=(srt N).length) (Zp _) (λj h1 h2=>a9) (by
     rcases WB (srt N).length with h5|h5
     .exact .inl h5
     .refine .inr ⟨a9,?_⟩;have h6:=HJ.o ((srt N).length-1) (by rw[F.o];omega) (by rw[F.o];omega);simpa only[F.o]using h6)
    rw[hi,<-F.o,Wk,uM];unfold OwnN;rw[wi,uW];show w.ownsRow wr.heap.size 36 1 v _ (List.map uV _);rw[WI];exact h
   have P:=qL I;clear I;go_region_law_o (first
    | (refine xK (.tmp 33) (.tmp 36) 147 rfl rfl underlying147 wr.heap.size (.slice (some ⟨_,0,none⟩) 0 0) 0 [] rfl (zdy a9 (by first|exact tl _ _|exact tl wr _|exact yw _ _ _|exact yx _ _ _|exact yw wr _ _|exact yx wr _ _)) _ l.length _ (l.map uV) rfl dG (aB.o _ (by first|exact YR _ _|exact XM _ _ _)) V a9 dG ?_
       intro aF X E A an;have b1:Below wr.heap.size wr X:=by first|exact(YR wr _).grown A dG (λj B=>by simp[Value.ownBlock]at B;omega)|exact(XM wr _ _).grown A dG (λj B=>by simp[Value.ownBlock]at B;omega))
    | (refine xK (.tmp 37) (.tmp 39) 147 rfl rfl underlying147 wr.heap.size _ (0+l.length) ([]++l.map uV) rfl (by first|exact E|exact E.alloc _) _ 1 _ [uV x] rfl rfl (.inr ⟨_,rfl,vH (vt := 36) (by first|exact tl X _|exact(A.block _ dG dH).trans (yw wr _ _)|exact(A.block _ dG dH).trans (yx wr _ _))⟩) M a9 (by have:=A.size;simp at this⊢<;>omega) ?_
       intro aG ah K J ao;have b2:Below wr.heap.size wr ah:=by first|exact b1.grown J b1.size (λj B=>(E.lt j B).1)|exact(b1.alloc b1.size _).grown J (by have:=b1.size;simp<;>omega) (λj B=>(E.lt j B).1))
    | (refine xK (.tmp 40) (.tmp 43) 147 rfl rfl underlying147 wr.heap.size _ (0+l.length+1) ([]++l.map uV++[uV x]) rfl K _ 0 _ ([]) rfl dG (by rcases aC.o with h|⟨a,h⟩;exact .inl h;exact .inr ⟨a,h,λj u B=>by simp at B⟩) b7 a9 b2.size ?_
       intro ag aH U Q aq;have b3:=b2.grown Q b2.size λj B=>(K.lt j B).1))
   all_goals (go_wp2;all_goals (refine tx (tI rfl _ _ _) rfl ?_;exact⟨ag,rfl,b3,vL (base:=wr.heap.size) (P.o _ _ (dL U)) λb o h1 h2=>.inr ⟨h1,h2⟩⟩))
end
section
def cp2(a b:Nat):PV:=.agg [.v (.int .u64 a),.v (.int .u64 b)]
def cw(n:Nat):PV:=cp2 (n/zk) (n%zk)
attribute [go_sem] cp2 cw
def kD(v:List En)(r:Nat)(j:SmV v):Cn xt 145 [vp v,.v (.int .u64 r)] (rg (zT v r)):=by
 have w:=j.2.1;refine zt func145 2 ?_;refine pw ?_;refine .rd (zbB v r a9) rfl ?_;rcases X2 r v 0 with⟨e1,e2⟩|⟨i,hi,e1,e2⟩
 .rw[e1,qC e2];exact pd
 .have u:=j.2.2 _ (Yf hi);rw[e1,zh8 j.1 hi e2,wk];refine pw ?_;refine .i ?_ ?_<;>intro o<;>first|refine pw ?_|exact pd
  .exact absurd o a9
  .exact .d (Vl v[i] (j.1.1 _ (Yf hi)) a9)
def zoF{r c:Nat}(u:r<zk)(j:c<zk):SmV (zl9 r c):=by have h:=zoD u j;exact⟨h.1,by have:=h.2.1;omega,λe o=>by have:=h.2.2 e o;omega⟩
def zoX(v:List En)(r c:Nat)(u:SmV v)(o:r<zk)(j:c<zk):Cn xt 92 [vp v,.v (.int .u64 r),.v (.int .u64 c)] (vp (ks zn v (zl9 r c))):=by
 have h:=zdc v (zl9 r c) u (zoF o j);refine zt func92 3 ?_;refine pw ?_;refine .c (zjT r [⟨c,c⟩] (zmc j) b7) ?_
 (first|exact .d (h)|exact .q (h))
def vps(j:List (List En)):PV:=.sl (j.map λv=>[vp v]) .sh
attribute [go_sem] vps
def u10:List En:=[⟨1,4,[]⟩,⟨2,3,[]⟩]
def c10:List En:=[⟨3,0,[]⟩]
def zap(j:List Nat)(x:Nat)(A:(srt j).length<=4194304):Cn xt 142 [ns (srt j),.v (.int .u64 x)] (ns (srt (j++[x]))):=by refine yZ rfl (enters_of func142 dM rfl) λD w E C y o u=>?_;rw[zeJ o,(u 1 _ rfl).v_inv];refine(zbw D j x _ w A (u 0 _ rfl) y).mono ?_;rintro e F ⟨v,rfl,hb,B⟩;exact⟨v,rfl,hb,B⟩
def VW{v:List En}{xs:List Nat}{k:Nat}(u:v.length<=1048576)(w:xs.length<=1048576):(srt (xs++zM (v.take k))).length<=4194304:=by have j:=ju (xs++zM (v.take k));have o:(v.take k).length<=1048576:=VS (ta _ _) u;simp only[zM,wi,wt]at j o;simp only[zM];omega
def YH{v:List En}{k:Nat}(h:k<v.length):zM (v.take (k+1))=zM (v.take k)++[v[k].rep]:=by unfold zM;rw[X3 h,WI];rfl
def zcC(a b:List En)(op:Nat)(ho:op<3)(A:SmV a)(hb:SmV b):Cn xt 101 [vp a,vp b,.v (.int .i64 op)] (vp (ks (Qj op) a b)):=by
 have K:=A.2.1;have M:=hb.2.1;have N:Qj op false false=false:=by
  match op,ho with
  |0,_=>rfl
  |1,_=>rfl
  |2,_=>rfl
 refine zhs func101 [] 3 dM rfl (by simp[go_sem,seval]) 14 (.dr [⟨(some 47),none,(.mv (.t 7))⟩,⟨(some 48),none,(.mv (.t 11))⟩,⟨(some 49),none,(.ia (.t 47) (.t 48) 1)⟩,⟨(some 50),none,(.ld (.t 49) false 1)⟩,⟨(some 51),none,(.mv (.t 0))⟩,⟨(some 52),none,(.mv (.t 7))⟩,⟨(some 53),none,(.mv (.t 11))⟩,⟨(some 54),none,(.ia (.t 52) (.t 53) 1)⟩,⟨(some 55),none,(.ld (.t 54) false 1)⟩,⟨(some 56),none,(.ca 145 [(.t 51),(.t 55)])⟩,⟨(some 57),none,(.mv (.t 1))⟩,⟨(some 58),none,(.mv (.t 7))⟩,⟨(some 59),none,(.mv (.t 11))⟩,⟨(some 60),none,(.ia (.t 58) (.t 59) 1)⟩,⟨(some 61),none,(.ld (.t 60) false 1)⟩,⟨(some 62),none,(.ca 145 [(.t 57),(.t 61)])⟩,⟨(some 63),none,(.mv (.t 2))⟩,⟨(some 64),none,(.ca 144 [(.t 56),(.t 62),(.t 63)])⟩,⟨(some 65),none,(.ca 143 [(.t 50),(.t 64)])⟩,⟨(some 46),none,(.mv (.t 65))⟩,⟨(some 66),none,(.ex (.t 46) 0)⟩,⟨(some 67),none,(.ex (.t 46) 1)⟩] [⟨(some 12),none,(.al [(.v (.int .u64 0)),(.v (.int .u64 0)),(.sl [] .sh)])⟩,⟨none,none,(.st (.t 12) (.t 66) 3)⟩,⟨(some 13),none,(.mv (.t 67))⟩]) rfl dM ?_
 conv=>enter [4,6];(unfold xN;simp only[Tryz.f101])
 simp only[pcT,Nat.reduceEqDiff,UV,UJ,reduceIte];repeat (conv in (zgV _ _ _ _ _ _)=>cbv)
 repeat (conv in (zgW _)=>cbv)
 conv=>enter [5,1];cbv
 refine pw ?_;refine pLoop.go (λk=>k<=a.length) (λk=>[(7,ns (srt ([]++zM (a.take k)))),(8,.v (.int .i64 (k:Nat)))]) (λ_=>[]) (λk=>a.length-k) 0 [7,8] ?_ ?_ ?_
 .exact X4 _
 .simp only[wY,zM,W6,wX,XB];exact pd
 ·rintro k hk;refine pw ?_;refine .i ?_ ?_<;>intro h<;>first|refine pw ?_|exact pd
  .refine .c (zap ([]++zM (a.take k)) a[k].rep (VW (xs:=[]) K b7)) ?_;refine⟨k+1,h,a9,?_,rfl⟩;rw[YH h]
  ·rw [show k=a.length by omega,Wk];refine pLoop.go (λk=>k<=b.length) (λk=>[(7,ns (srt (zM a++zM (b.take k)))),(9,.v (.int .i64 (k:Nat)))]) (λ_=>[]) (λk=>b.length-k) 0 [7,9] ?_ ?_ ?_
   .exact X4 _
   .simp only[wY,zM,W6,wX];exact pd
   .rintro k hk;refine pw ?_;refine .i ?_ ?_<;>intro E<;>first|refine pw ?_|exact pd
    .refine .c (zap (zM a++zM (b.take k)) b[k].rep (VW (xs:=zM a) M (by simp[zM];omega))) ?_;refine⟨k+1,E,a9,?_,rfl⟩;rw[YH E,wQ]
    .rw[show k=b.length by omega,Wk];obtain⟨L,y⟩:=xm (srt (zM a++zM b));have H:L.length<=2097152:=by have C:=ju (zM a++zM b);simp only[zM,wi,wt]at C;rw[y];simp only[zM];omega
     have I:∀r∈L,r<zk:=(by rw[y];exact Xr A.1 hb.1);have u:ks (Qj op) a b=L.filterMap (vE (Qj op) a b):=(by rw[y];rfl);rw[<-y,u];clear u y;refine pLoop.go (λk=>k<=L.length) (λk=>[(10,.sl (((L.take k).filterMap (vE (Qj op) a b)).map ec) (.r 72 3)),(11,.v (.int .i64 (k:Nat)))]) (λ_=>[]) (λk=>L.length-k) 0 [10,11,72] ?_ ?_ ?_
     .exact X4 _
     .simp only[wY,UP,W6];exact pd
     .rintro k hk;have G:((L.take k).filterMap (vE (Qj op) a b)).length<=k:=VS (Ue _ _) b6;refine pw ?_;refine .i ?_ ?_<;>intro B<;>first|refine pw ?_|exact pd
      .have ka:=qS A L[k];have kb:=qS hb L[k];have J:(qy (Qj op) (zT a L[k]) (zT b L[k])).length<=80100:=(by have C:=xR (Qj op) (zT a L[k]) (zT b L[k]);omega);have j:=zg1 L[k] (qy (Qj op) (zT a L[k]) (zT b L[k])) (qH ka.1 kb.1) a9;have w:=KZ (f:=Qj op) (a:=a) (b:=b) B;obtain⟨e,ok,F⟩:∃e ok,Qi L[k] (qy (Qj op) (zT a L[k]) (zT b L[k]))=(e,ok):=⟨_,_,rfl⟩;rw[zac F]at w;rw[F]at j;refine .c (kD a L[k] A) ?_;refine .c (kD b L[k] hb) ?_;refine .c (zhw (zT a L[k]) (zT b L[k]) op ka.1 kb.1 ho a9 a9) ?_;cases ok with
       | true=>
         (first|refine .c (j) ?_|refine .o (j) ?_)
         refine⟨k+1,B,a9,?_,rfl⟩;rw[w];simp;rfl
       | false=>
         (first|refine .c (j) ?_|refine .o (j) ?_)
         refine⟨k+1,B,a9,?_,rfl⟩;rw[w];simp
      .rw[show k=L.length by omega,Wk]
def zq7(r c:Nat)(j:c<zk):Cn xt 134 [.v (.int .u64 r),.v (.int .u64 c)] (vp (zl9 r c)):=by refine zt func134 2 ?_;refine pw ?_;refine .c (zg1 r [⟨c,c⟩] (zmc j) b7) ?_;rfl
def WV.smv{C:Qk}{R:List Nat}{v:List En}(h:WV C R v)(ok:OkC C R):SmV v:=(h.bv ok.1 ok.2).mono (Zp _) a9
def kH{D:xT}{w:World}{x:Value}{u:List (List PV)}{o:Ow}(h:Dat D w x (.sl u o)):∃s:Sv,x=sv s/\s.2.1=u.length:=by obtain⟨y,j,sz,b,A,f,e1,_⟩:=(Rel.dat (ρ:=λ_=>0) (nb:=0) h).inv_sl;exact⟨(y,u.length,j),e1,rfl⟩
def kX{D:xT}{O:Nat}{w:World}{v:Value}{k:List Fg}(h:Dat D w v (kp k))(P:∀b o,D b o->b<O):
 ∃a y C,v=.slice a k.length y/\∃E:C.length=k.length,zeF O w a y C/\∀i (h:i<C.length),Dat D w (sv C[i].1) (rg (k[i]'(E▸h)).items)/\Dat D w (sv C[i].2) (vp (k[i]'(E▸h)).vec):=by
 unfold kp at h;generalize N:k.map fc=es at h;cases h with
 | sl a y sz es o b off u hc hz hm ha hsz hd hx=>
   have E:es.length=k.length:=(by rw[<-N];simp);have g:∀i (h:i<k.length),es[i]?=some (fc k[i]):=λi h=>(by rw[<-N];exact xo h);have B:∀i,i<k.length->∃f:Fv,∀h:i<k.length,(sz=2/\u (i*2)=sv f.1/\u (i*2+1)=sv f.2)/\Dat D w (sv f.1) (rg k[i].items)/\Dat D w (sv f.2) (vp k[i].vec):=λi hi=>(by obtain rfl:2=sz:=hsz i _ (g i hi);have d0:Dat D w (u (i*2+0)) (rg k[i].items):=hx i _ 0 _ (g i hi) rfl;have I:Dat D w (u (i*2+1)) (vp k[i].vec):=hx i _ 1 _ (g i hi) rfl;obtain⟨Q,H,_⟩:=kH d0;obtain⟨S,e1,_⟩:=kH I;rw[H]at d0;rw[e1]at I;exact⟨(Q,S),λ_=>⟨⟨rfl,H,e1⟩,d0,I⟩⟩);obtain⟨F,hF⟩:=Go.Deep.choose_lt B;refine⟨a,y,(List.range k.length).map F,by rw[E],b7,⟨b6,hm,λG=>?_⟩,λi hi=>?_⟩
   .have A:0<k.length:=by
     rcases WB k.length with J|J
     .rw[J]at G;simp at G
     .exact J
    obtain⟨⟨rfl,_⟩,_⟩:=hF 0 A A;have K:es≠[]:=(by intro e;subst e;simp at E;omega);refine⟨b,off,ha K,P _ _ (hd 0 a9).1,λi hi=>?_⟩;have j:i<k.length:=(dL hi);obtain⟨⟨_,H,e1⟩,_⟩:=hF i j j;have L:=(hd (i*2) a9).2.1;have M:=(hd (i*2+1) a9).2.1;rw[H]at L;rw[e1]at M;simp only[UA,UQ];exact⟨L,M⟩
   .have j:i<k.length:=(dL hi);simp only[UA,UQ];exact(hF i j j).2
def zez{j:Nat->Bool}{p:Nat×Fv}:∀{l:List Fv}{n:Nat},p∈wl j n l->∃h:p.1-n<l.length,n<=p.1/\p.2=l[p.1-n]/\j p.1=true
 |[],n,h=>by cases h
 | f::l,n,h=>by
   unfold wl at h;have o:p∈wl j (n+1) l->∃h:p.1-n<(f::l).length,n<=p.1/\p.2=(f::l)[p.1-n]/\j p.1=true:=λh=>by obtain⟨y,A,u,w⟩:=zez h;refine⟨b6,a9,?_,w⟩;rw[u];have e:p.1-n=(p.1-(n+1))+1:=a9;simp only[e,WN]
   split at h
   .rename_i hh;rcases V3.1 h with rfl|h
    .exact⟨b7,Zp _,b7,hh⟩
    .exact o h
   .exact o h
def Yp{α:Type}{k:List Fg}{u:List Fv}(y:u.length=k.length)(item:Nat)(step:α->Nat->Fg->α)(o:α):
 (wl (λj=>mem (k.getD j default).items item) 0 u).foldl (λa p=>step a p.1 (k.getD p.1 default)) o=(withF item 0 k).foldl (λa p=>step a p.1 p.2) o:=by
 have w:∀j,j<=k.length->(wl (λj=>mem (k.getD j default).items item) 0 (u.take j)).foldl (λa p=>step a p.1 (k.getD p.1 default)) o=(withF item 0 (k.take j)).foldl (λa p=>step a p.1 p.2) o:=by
  intro j;induction j with
  |zero=>intro _;rfl
  | succ j ih=>
    intro A;rw[XF a9,j9 item a9,WL,WL,ih a9];have e:k.getD j default=k[j]:=(by simp[Q9,Zv (show j<k.length by omega)]);simp only[e];split
    .show step _ j (k.getD j default)=step _ j k[j];rw[e]
    .rfl
 have:=w k.length (Zp _)
 rwa[<-y,Wk,y,Wk]at this
def V8(k:List Fg)(i:Nat):PV:=.fn (.func 89) [] [.cp [kp k] 0,.cp [.v (.int .u64 i)] 0]
attribute [go_sem] V8
def zfB(k:List Fg)(i:Nat):Cn xt 47 [kp k,.v (.int .u64 i)] (V8 k i):=by refine zt func47 2 ?_;exact pd
def zjy(v:List En)(i:Nat)(f:Fg)(o:SmV v)(j:SmV f.vec):Cn xt 156 [vp v,.v (.int .i64 i),fp f] (vp (ks zn v f.vec)):=by refine zt func156 3 ?_;refine pw ?_;exact .d (zdc v f.vec o j)
def InvD{α:Type}(D0:xT)(n:Nat)(pv:α->PV)(P:α->Prop)(W:World)(u:Value)(a:α):Prop:=
 P a/\∃D:Nat->Nat->Prop,GL D W/\(∀b o,D b o->b<W.heap.size/\b≠n/\b≠n+2/\b≠n+3)/\(∀b o,D b o->D0 b o\/n<=b)/\(∀b o,D0 b o->D b o)/\Dat D W u (pv a)
section
variable {α:Type}{D0:xT}{pv:α->PV}{P:α->Prop}{w W A B:World}{u:Value}{a:α}
def InvD.start{y:Value}(A:Dat D0 w y (.sl [] .sh))(B:GL D0 w)(j:∀b o,D0 b o->b<w.heap.size)(hb:Below w.heap.size w W)(C:P a)(F:pv a=.sl [] .sh):InvD D0 w.heap.size pv P W y a:=by
 have u:∀b o x,D0 b o->w.cell? ⟨b,o,none⟩=some x->W.cell? ⟨b,o,none⟩=some x:=λb o x E G=>(hb.cell (p:=⟨b,o,none⟩) (j b o E)).trans G;refine⟨C,D0,B.mono (λ_ _ h=>h) u,λb o h=>?_,λ_ _ h=>.inl h,λ_ _ h=>h,?_⟩
 .have:=j b o h;have:=hb.size;exact⟨a9,a9,a9,a9⟩
 .rw[F];exact A.mono (λ_ _ h=>h) u
def InvD.shape{n:Nat}(h:InvD D0 n pv P W u a)(y:∃j,pv a=.sl j .sh):∃w n c,u=.slice w n c:=by obtain⟨_,D,_,_,_,_,o⟩:=h;obtain⟨j,e⟩:=y;rw[e]at o;obtain⟨s,rfl,_⟩:=kH o;exact⟨_,_,_,rfl⟩
def InvD.keep{n:Nat}(h:InvD D0 n pv P A u a)(hk:Keep (λk=>k=n\/k=n+2\/k=n+3) A B):InvD D0 n pv P B u a:=by
 obtain⟨H,D,C,w,E,F,G⟩:=h;have y:∀b o x,D b o->A.cell? ⟨b,o,none⟩=some x->B.cell? ⟨b,o,none⟩=some x:=λb o x j I=>
  (tk (a:=⟨b,o,none⟩) (hk.block b (w b o j).1 (by have:=w b o j;omega))).trans I
 exact⟨H,D,C.mono (λ_ _ h=>h) y,λb o j=>⟨vw (w b o j).1 hk.size,(w b o j).2⟩,E,F,G.mono (λ_ _ h=>h) y⟩
def zhD{D:xT}{f:Fv}{g:Fg}(o:Dat D w (sv f.1) (rg g.items))(u:Dat D w (sv f.2) (vp g.vec)):Dat D w (.agg #[sv f.1,sv f.2]) (fp g):=by
 refine .agg _ _ rfl (λi hi=>?_) λi p j=>?_
 .match i,hi with
  |0,_=>rfl
  |1,_=>rfl
 .match i,j with
  |0,j=>cases j;exact o
  |1,j=>cases j;exact u
  |i+2,j=>simp[fc]at j
def InvD.step{H:FuncId}{i:Nat}{f:Fv}{g:Fg}{F:α}(h:InvD D0 w.heap.size pv P W u a)(Q:∀b o,D0 b o->b<w.heap.size)(hb:Below w.heap.size w W)(hs:w.heap.size+4<=W.heap.size)(N:Dat D0 w (sv f.1) (rg g.items))(O:Dat D0 w (sv f.2) (vp g.vec))
 (T:Cn xt H [pv a,.v (.int .i64 i),fp g] (pv F)) (S:P F) :
 Calls xt H #[u,.int .i64 (i:Nat),.agg #[sv f.1,sv f.2]] W λe E=>∃K,e=.returned K/\InvD D0 w.heap.size pv P E K F/\Keep (zaB (w.heap.size+4) W) W E:=by
 obtain⟨_,D,I,C,L,J,M⟩:=h;have U:∀b o x,D0 b o->w.cell? ⟨b,o,none⟩=some x->W.cell? ⟨b,o,none⟩=some x:=λb o x B G=>(hb.cell (p:=⟨b,o,none⟩) (Q b o B)).trans G;refine(jP T I (λb o h=>(C b o h).1) rfl (λj p y=>?_)).mono ?_
 .match j,y with
  |0,y=>cases y;exact M
  |1,y=>cases y;exact .v _
  |2,y=>cases y;exact(zhD N O).mono J U
  |j+3,y=>simp at y
 .rintro e E ⟨v,rfl,A,B⟩;refine⟨v,rfl,⟨S,_,I.mono (λ_ _ h=>.inl h) λb o x B G=>(A.cell (p:=⟨b,o,none⟩) (C b o B).1).trans G,λb o h=>?_,λb o h=>?_,λb o h=>.inl (J b o h),B⟩,Keep.of_below' A (Zp _)⟩
  .rcases h with h|h
   .exact⟨vw (C b o h).1 A.size,(C b o h).2⟩
   .exact⟨h.2,a9,a9,a9⟩
  .rcases h with h|h
   .exact L b o h
   .exact .inr a9
def InvD.done(h:InvD D0 w.heap.size pv P W u a):Dat (λb o=>D0 b o\/(w.heap.size<=b/\b<W.heap.size)) W u (pv a):=by obtain⟨_,D,C,j,y,E,A⟩:=h;exact A.mono (λb o h=>(y b o h).imp id λB=>⟨B,(j b o h).1⟩) λ_ _ _ _ h=>h
end
def zcx{D:xT}{w:World}{x:Value}{p:PV}(h:Dat D w x (.cp [p] 0)):∃b o y,x=.pointer (some ⟨b,o,none⟩)/\D b o/\w.cell? ⟨b,o,none⟩=some y/\Dat D w y p:=by obtain⟨b,j,f,e,u,A⟩:=(Rel.dat (ρ:=λ_=>0) (nb:=0) h).inv_cp;have:=u 0 b7;exact⟨b,j,f 0,e,dL this.1,dL this.2.1,A 0 p rfl⟩
def zbU{D:xT}{w:World}{x:Value}{k:List Fg}{i:Nat}(h:Dat D w x (V8 k i)):∃bk ok j oi v,x=.func (.func 89) #[] #[.pointer (some ⟨bk,ok,none⟩),.pointer (some ⟨j,oi,none⟩)]/\D bk ok/\D j oi/\w.cell? ⟨bk,ok,none⟩=some v/\w.cell? ⟨j,oi,none⟩=some (.int .u64 (i:Nat))/\Dat D w v (kp k):=by
 unfold V8 at h;cases h with
 | fn f va vb fs cs h1 h2 h3 h4=>
   rw[Uq.1 h1];obtain⟨l⟩:=vb;match l,h2 with
   |[y,z],_=>obtain⟨bk,ok,v,e1,B,A,E⟩:=zcx (h4 0 _ rfl);obtain⟨j,oi,u,e2,C,o,F⟩:=zcx (h4 1 _ rfl);rw[F.v_inv]at o;simp at e1 e2;subst e1 e2;exact⟨bk,ok,j,oi,v,rfl,B,C,A,o,E⟩
def zfQ{D:xT}{w:World}{x:Value}(h:Dat D w x (.sl [] .sh)):∃j c,x=.slice j 0 c:=by obtain⟨⟨a,n,c⟩,rfl,e⟩:=kH h;simp only[Wp]at e;subst e;exact⟨a,c,rfl⟩
def QW(k:List Fg):Prop:=k.length<=1152921504606846976/\∀f∈k,f.items.length<=1152921504606846976/\f.vec.length<=1152921504606846976/\∀e∈f.vec,e.holes.length<=1152921504606846976
def YM{D:xT}{w:World}{k:List Fg}{i bk ok B oi:Nat}{a:Option Addr}{cap:Nat}{fs:List Fv}(hr:RightK k)(hz:QW k)(hG:GL D w)(J:∀b o,D b o->b<w.heap.size)(V:D bk ok)(X:D B oi)(T:w.cell? ⟨bk,ok,none⟩=some (.slice a k.length cap))(U:w.cell? ⟨B,oi,none⟩=some (.int .u64 (i:Nat)))
 (I:fs.length=k.length) (G:zeF w.heap.size w a cap fs) (L:∀j (h:j<fs.length),Dat D w (sv fs[j].1) (rg (k[j]'(I▸h)).items)/\Dat D w (sv fs[j].2) (vp (k[j]'(I▸h)).vec)) {W:World} (hb:Below w.heap.size w W) :
 v7 xt 89 #[.pointer (some ⟨bk,ok,none⟩),.pointer (some ⟨B,oi,none⟩)] Y4 (λ_=>False) (PtF w.heap.size bk B) (wl (λj=>mem (k.getD j default).items i) 0 fs) W:=by
 have O:∀b o x,D b o->w.cell? ⟨b,o,none⟩=some x->W.cell? ⟨b,o,none⟩=some x:=λb o x A P=>(hb.cell (p:=⟨b,o,none⟩) (J b o A)).trans P;refine zew fs _ a cap bk ok B oi w.heap.size i W ?_ (by rw[I];exact O _ _ _ V T) (O _ _ _ X U) hb.size λw' j C F N=>?_
 .obtain⟨Y,Z,h3⟩:=G;refine⟨Y,Z,λM=>?_⟩;obtain⟨b,y,e1,e2,Q⟩:=h3 M;exact⟨b,y,e1,e2,λj C=>⟨(hb.cell (p:=⟨b,y+j*2,none⟩) e2).trans (Q j C).1,(hb.cell (p:=⟨b,y+j*2+1,none⟩) e2).trans (Q j C).2⟩⟩
 .have H:∀b o x,D b o->w.cell? ⟨b,o,none⟩=some x->w'.cell? ⟨b,o,none⟩=some x:=λb o x A P=>(tk (a:=⟨b,o,none⟩) (F b (J b o A))).trans (O b o x A P);have E:j<k.length:=I▸C;have S:=Yf E;have e:k.getD j default=k[j]:=(by rw[Q9,Zv E];rfl);simp only[e];refine(jP (ziQ k[j].items i (hr _ S).1 (hz.2 _ S).1) (hG.mono (λ_ _ h=>h) H) (λb o h=>vw (J b o h) N) rfl (λt p u=>?_)).mono ?_
  .match t,u with
   |0,u=>cases u;exact(L j C).1.mono (λ_ _ h=>h) H
   |1,u=>cases u;exact .v _
   |t+2,u=>simp at u
  .rintro e W' ⟨v,rfl,K,A⟩;rw[A.v_inv];exact⟨rfl,K⟩
def is(l:List Nat):PV:=.sl (l.map λx=>[.v (.int .i64 (x:Nat))]) .sh
attribute [go_sem] is
def zfl{k:List Fg}{j:Nat}(h:j<k.length):k.getD j default=k[j]:=by rw[Q9,Zv h];rfl
def zf9{α:Type}{pre j:List α}{p:α}(h:pre++[p] <+: j):p∈j:=h.subset b7
def zfk{C:Qk}{R:List Nat}(k:List Fg)(i:Nat)(hk:IK C R k)(ok:OkC C R)(hr:RightK k)(hs:∀f∈k,SmV f.vec)(hz:QW k):
 Cn xt 155 [V8 k i,.sl [] .sh,.fn (.func 156) [] []] (vp (qc k i)):=by
 refine yZ rfl (enters_of func155 dM rfl) λD w vs V y Q K=>?_;obtain⟨bk,ac,Z,oi,v,e0,S,T,c1,c2,L⟩:=zbU (K 0 _ rfl);obtain⟨a,ab,U,rfl,M,H,E⟩:=kX L y;have j:=K 1 _ rfl;obtain⟨I,J,e1⟩:=zfQ j;rw[e1]at j;rw[zjx Q,e0,e1,zcA (K 2 _ rfl)];refine(X8 89 _ bk Z _ w I J (enters_of func89 dM rfl) (λW hb=>YM hr hz V y S T c1 c2 M H E hb) (y _ _ S) (y _ _ T)
  (InvD D w.heap.size vp (WV C R)) (λo p=>ks zn o (k.getD p.1 default).vec) [] (λW hb=>InvD.start j V y hb WV.nil rfl) (λW u a h=>h.shape ⟨_,rfl⟩) (λA B u a h hk=>h.keep hk) λW u pre p G P hb h=>?_).mono ?_
 .obtain⟨N,_,O,_⟩:=zez (zf9 G);have X:p.1<U.length:=(dL N);have F:p.1<k.length:=M▸X;have Y:=Yf F;have q:=E p.1 X;have e:p.2=U[p.1]:=(by rw[O];simp);rw[zfl F,e];exact h.step y hb P q.1 q.2 (zjy _ p.1 k[p.1] (h.1.smv ok) (hs _ Y)) (h.1.iv.lat fU0 (hk _ Y))
 .rintro e w' ⟨u,rfl,hI,hb⟩;have h:=hI.done;rw[Yp M i (λo _ f=>ks zn o f.vec) []]at h;exact⟨u,rfl,hb,h⟩
def zdx{D:xT}{base:Nat}{w:World}{v:Value}{l:List Nat}(h:OwnI base w v l)(G:∀b o,base<=b->b<w.heap.size->D b o):Dat D w v (is l):=by
 unfold is;have u:(l.map λx=>[PV.v (.int .i64 (x:Nat))]).length=l.length:=b7
 rcases id h.2 with⟨rfl,F⟩|⟨g,A,E,rfl,I,J,K,H,_⟩
 .obtain rfl:l=[]:=wV.1 F;exact .sl none 0 1 [] .sh 0 0 (λ_=>undef) b7 (λh=>by cases h) dF (λh=>absurd rfl h) (λi e h=>by simp at h) (λj h=>by simp at h) (λi e j p h=>by simp at h)
 .rw[<-u];refine .sl _ A 1 _ .sh g 0 (λj=>.int .i64 (l.getD j 0:Nat)) (dL K) (λh=>by cases h) H (λ_=>rfl) (λi e h=>?_) (λj C=>?_) (λi e j p B y=>?_)
  .simp only[wh,ZZ]at h;obtain⟨s,_,rfl⟩:=h;rfl
  .simp only[wt,Uh]at C;refine⟨G _ _ I (XE.1 J).1,?_,rfl⟩;rw[wk,h.cellAt _ (dL C)];simp[C]
  .have hi:i<l.length:=(by have:=(Zw.1 B).1;simpa using this);rw[wh,Zv hi]at B;cases B;match j,y with
   |0,y=>cases y;simp[hi];exact .v _
   |j+1,y=>simp at y
def zbj(l:List (Nat×Fv)):∀a:List Nat,l.foldl (λo p=>o++[p.1]) a=a++l.map Prod.fst:=by
 induction l with
 |nil=>intro a;simp
 |cons p l ih=>intro a;rw[WH,ih];simp
def JV(l:List (Nat×Fg)):∀a:List Nat,l.foldl (λo p=>o++[p.1]) a=a++l.map Prod.fst:=by
 induction l with
 |nil=>intro a;simp
 |cons p l ih=>intro a;rw[WH,ih];simp
def zey(j:Nat->Bool):∀(n:Nat)(l:List Fv),(wl j n l).length<=l.length
 |_,[]=>Zp _
 | n,f::l=>by
   have:=zey j (n+1) l;unfold wl;split<;>simp<;>omega
def K9(k:List Fg)(i:Nat)(hr:RightK k)(hz:QW k)(ab:k.length<=1073741824):Cn xt 154 [kp k,.v (.int .u64 i)] (is (zU k i)):=by
 refine yZ rfl (enters_of func154 dM rfl) λD w vs hG S Y N=>?_;obtain⟨a,G,fs,e0,hl,I,K⟩:=kX (N 0 _ rfl) S;rw[zeJ Y,e0,(N 1 _ rfl).v_inv];obtain⟨y,F⟩:=xn ((w.alloc (.cells #[.slice a k.length G] 41)).alloc (.cells #[.int .u64 (i:Nat)] 36));have ad:y.heap.size=w.heap.size+2:=by rw[<-F];simp
 have b1:Below w.heap.size w y:=by rw[<-F];exact((tq _ _).alloc (Zp _) _).alloc b7 _
 have x1:Boxed y w.heap.size 41 (.slice a k.length G):=by rw[<-F];exact(tQ w _ _).alloc _
 have x2:Boxed y (w.heap.size+1) 36 (.int .u64 (i:Nat)):=by rw[<-F];have:=tQ (w.alloc (.cells #[.slice a k.length G] 41)) 36 (.int .u64 (i:Nat));rw[tu]at this;exact this
 have H:∀b o x,D b o->w.cell? ⟨b,o,none⟩=some x->y.cell? ⟨b,o,none⟩=some x:=λb o x N hx=>(b1.cell (p:=⟨b,o,none⟩) (S b o N)).trans hx;obtain⟨E,J⟩:∃E:Nat->Nat->Prop,E=λb o=>D b o\/(w.heap.size<=b/\b<y.heap.size):=⟨_,rfl⟩;have M:∀b o,E b o->b<y.heap.size:=λb o h=>by rw[J]at h;exact h.elim (λh=>by have:=S b o h;omega) W9
 have C:Calls xt 192 #[.func (.func 89) #[] #[.pointer (some ⟨w.heap.size,0,none⟩),.pointer (some ⟨w.heap.size+1,0,none⟩)],.slice none 0 0,.func (.func 193) #[] #[]] y λe T=>∃u,e=.returned u/\OwnI (y.heap.size+4) T u (zU k i)/\Below y.heap.size y T:=by
  refine(X7 89 _ w.heap.size (w.heap.size+1) _ y none 0 (enters_of func89 dM rfl) (λW hb=>YM (D:=E) (a:=a) (cap:=G) (fs:=fs) hr hz (hG.mono (λb o h=>by rw[J];exact .inl h) H) M (by rw[J];exact .inr a9) (by rw[J];exact .inr a9) x1.cell x2.cell hl ?_ (λj O=>⟨(K j O).1.mono (λb o h=>by rw[J];exact .inl h) H,(K j O).2.mono (λb o h=>by rw[J];exact .inl h) H⟩) hb) a9 a9
   (λW u l=>OwnI (y.heap.size+4) W u l) (λo p=>o++[p.1]) [] (λW _=>OwnI.nil _ _) (λW u a h=>h.shape) (λA B u a h hk=>h.keep hk λg hg _=>a9) λW u pre p P ae hb h=>?_).mono ?_
  .obtain⟨Q,U,h3⟩:=I;refine⟨Q,U,λX=>?_⟩;obtain⟨b,L,e1,e2,Z⟩:=h3 X;exact⟨b,L,e1,a9,λj O=>⟨(b1.cell (p:=⟨b,L+j*2,none⟩) e2).trans (Z j O).1,(b1.cell (p:=⟨b,L+j*2+1,none⟩) e2).trans (Z j O).2⟩⟩
  .have ac:pre.length<=k.length:=(by have Q:=P.length_le;have U:=zey (λj=>mem (k.getD j default).items i) 0 fs;simp only[wi,wn,Wp]at Q;omega);refine JY (y.heap.size+4) W u _ p.1 _ _ h a9 ?_;rw[zbj];simp;omega
  .rintro e T ⟨u,rfl,hI,hb⟩;rw[Yp hl i (λo j _=>o++[j]) [],JV,Y1]at hI;exact⟨u,rfl,hI,hb⟩
 have HF:=qL C;have HB:=qL b1;clear C b1 x1 x2 H J M I K N hG S;go_enter func154,ntmps154
 go_wp2_with (first
  |(go_at_call 47;refine(zex _ _ _ _ _).mono ?_;rintro e T ⟨rfl,rfl⟩;rw[F])
  |(go_at_call 192;refine HF.o.mono ?_;rintro e w2 ⟨u,rfl,ho,V⟩;obtain⟨au,nu,cu,rfl⟩:=ho.shape))
 go_ret;exact⟨_,rfl,HB.o.trans (V.mono a9),zdx ho λb o Q U=>.inr a9⟩
def zl6{β:Type}(q:β->Bool):∀(l:List β)(b:Bool),l.foldl (λb x=>b || q x) b=(b || l.any q)
 |[],b=>b7
 |x::l,b=>by rw[WH,zl6 q l,ui,UC]
def zo7{k:List Fg}{o:List Fv}(y:o.length=k.length)(item:Nat)(q:Fg->Bool):
 (wl (λj=>mem (k.getD j default).items item) 0 o).any (λp=>q (k.getD p.1 default))=(withF item 0 k).any λp=>q p.2:=by
 have h:=Yp y item (λb _ f=>b || q f) false;have u:=zl6 (λp:Nat×Fv=>q (k.getD p.1 default)) (wl (λj=>mem (k.getD j default).items item) 0 o) false;have w:=zl6 (λp:Nat×Fg=>q p.2) (withF item 0 k) false;rw[uC]at u w;rw[<-u,<-w];exact h
def zoW(k:List Fg)(i r c:Nat)(hr:RightK k)(hc:c<zk)(hz:QW k):Cn xt 18 [kp k,.v (.int .u64 i),.v (.int .u64 r),.v (.int .u64 c)] (.v (.bool (hasK k i r c))):=by
 refine yZ rfl (enters_of func18 dM rfl) λD w vs hG K Z A=>?_;obtain⟨a,G,S,e0,T,N,M⟩:=kX (A 0 _ rfl) K;have ab:vs=#[.slice a k.length G,.int .u64 (i:Nat),.int .u64 (r:Nat),.int .u64 (c:Nat)]:=by
  have q1:=(A 1 _ rfl).v_inv;have q2:=(A 2 _ rfl).v_inv;have q3:=(A 3 _ rfl).v_inv;obtain⟨l⟩:=vs;match l,Z with
  |[x,y,z,t],_=>simp at e0 q1 q2 q3;rw[e0,q1,q2,q3]
 rw[ab];refine(zn5 a k.length G i r c (wl (λj=>mem (k.getD j default).items i) 0 S) (λp=>mem (zT (k.getD p.1 default).vec r) c) w (λW C ac c3 c4=>?_) λW p E hb=>?_).mono ?_
 .have U:∀b o x,D b o->w.cell? ⟨b,o,none⟩=some x->W.cell? ⟨b,o,none⟩=some x:=λb o x A Q=>(tk (a:=⟨b,o,none⟩) (C b (K b o A))).trans Q;refine zew S _ a G _ 0 _ 0 w.heap.size i W ?_ (by rw[T];exact c3) c4 a9 λw' j F I O=>?_
  .obtain⟨h1,h2,h3⟩:=N;refine⟨h1,h2,λV=>?_⟩;obtain⟨b,J,e1,e2,e3⟩:=h3 V;exact⟨b,J,e1,e2,λj F=>⟨(tk (a:=⟨b,J+j*2,none⟩) (C b e2)).trans (e3 j F).1,(tk (a:=⟨b,J+j*2+1,none⟩) (C b e2)).trans (e3 j F).2⟩⟩
  .have P:∀b o x,D b o->w.cell? ⟨b,o,none⟩=some x->w'.cell? ⟨b,o,none⟩=some x:=λb o x A Q=>(tk (a:=⟨b,o,none⟩) (I b (K b o A))).trans (U b o x A Q);have B:j<k.length:=T▸F;have L:=Yf B;simp only[zfl B];refine(jP (ziQ k[j].items i (hr _ L).1 (hz.2 _ L).1) (hG.mono (λ_ _ h=>h) P) (λb o h=>vw (K b o h) O) rfl (λt p E=>?_)).mono ?_
   .match t,E with
    |0,E=>cases E;exact(M j F).1.mono (λ_ _ h=>h) P
    |1,E=>cases E;exact .v _
    |t+2,E=>simp at E
   .rintro e W' ⟨v,rfl,H,A⟩;rw[A.v_inv];exact⟨rfl,H⟩
 .have U:∀b o x,D b o->w.cell? ⟨b,o,none⟩=some x->W.cell? ⟨b,o,none⟩=some x:=λb o x A Q=>(hb.cell (p:=⟨b,o,none⟩) (K b o A)).trans Q;obtain⟨X,_,Y,_⟩:=zez E;have F:p.1<S.length:=(dL X);have B:p.1<k.length:=T▸F;have L:=Yf B;have e:p.2=S[p.1]:=(by rw[Y];simp);simp only[zfl B,e];refine(jP (zo6 k[p.1].vec r c (hr _ L).2 hc (hz.2 _ L).2.1 (hz.2 _ L).2.2) (hG.mono (λ_ _ h=>h) U) (λb o h=>vw (K b o h) hb.size) rfl (λt p' u=>?_)).mono ?_
  .match t,u with
   |0,u=>cases u;exact(M p.1 F).2.mono (λ_ _ h=>h) U
   |1,u=>cases u;exact .v _
   |2,u=>cases u;exact .v _
   |t+3,u=>simp at u
  .rintro e W' ⟨v,rfl,H,A⟩;rw[A.v_inv];exact⟨rfl,H⟩
 .rintro e w' ⟨rfl,hb⟩;rw[zo7 T i (λf=>mem (zT f.vec r) c),jh];exact⟨_,rfl,hb,.v _⟩
def zgU{C:Qk}{R:List Nat}(k:List Fg)(i:Nat)(hk:IK C R k)(ok:OkC C R)(j:RightK k)(hs:∀f∈k,SmV f.vec)(hz:QW k):Cn xt 112 [kp k,.v (.int .u64 i)] (vp (qc k i)):=by refine zt func112 2 ?_;refine pw ?_;refine .c (zfB k i) ?_;exact .d (zfk k i hk ok j hs hz)
def qX(k:List Fg)(x y:Nat):Bool:=k.all λf=>mem f.items x == mem f.items y
def qo{k:List Fg}{x y:Nat}:qX k x y=true↔∀f∈k,mem f.items x=mem f.items y:=by simp[qX]
def j8{x y:Nat}:∀{k:List Fg}{n:Nat},(∀f∈k,mem f.items x=mem f.items y)->withF x n k=withF y n k
 |[],_,_=>rfl
 |f::k,n,h=>by rw[withF,withF,j8 (k:=k) λg j=>h g (by simp[j]),h f b7]
def Zh{x y:Nat}:∀{k:List Fg}{n:Nat},(withF x n k).map Prod.fst=(withF y n k).map Prod.fst->∀f∈k,mem f.items x=mem f.items y
 |[],_,_,f,j=>by cases j
 | g::k,n,h,f,j=>by
   have no:∀z,n∉(withF z (n+1) k).map Prod.fst:=λz hz=>(by obtain⟨p,o,e⟩:=wy.1 hz;have:=(jv o).2.2.1;omega);rw[withF,withF]at h;cases hx:mem g.items x<;>cases hy:mem g.items y<;>rw[hx,hy]at h<;>simp only[UJ,UV,uD,Wx]at h
   .rcases V3.1 j with rfl|j
    .rw[hx,hy]
    .exact Zh h f j
   .exact absurd (h▸WG) (no x)
   .exact absurd (h▸WG) (no y)
   .rcases V3.1 j with rfl|j
    .rw[hx,hy]
    .exact Zh (List.cons.inj h).2 f j
def Vp{k:List Fg}{x y:Nat}:zU k x=zU k y↔qX k x y=true:=by rw[qo];exact⟨λh=>Zh h,λh=>by unfold zU;rw[j8 h]⟩
def Yt{k:List Fg}{x y:Nat}(h:qX k x y=true)(r c:Nat):hasK k x r c=hasK k y r c:=by rw[<-jh,<-jh,j8 (qo.1 h)]
def km{k:List Fg}{i r c:Nat}:hasK k i r c=true↔∃f∈k,mem f.items i=true/\mem (zT f.vec r) c=true:=by simp[hasK]
noncomputable def zq (k:List Fg):List Nat:=(zH (k.map Fg.items)).filter λx=>decide (x=0) || !qX k (x-1) x
def xc(k:List Fg):YN (zq k):=(x8 _).filter _
def vZ{k:List Fg}(h:RightK k){x:Nat}:x∈zq k↔x<zk/\(x=0\/qX k (x-1) x=false):=by
 unfold zq;rw[Wq];constructor
 .rintro⟨u,o⟩;refine⟨Ze (λl C s hs=>?_) x u,dL o⟩;obtain⟨f,j,rfl⟩:=wy.1 C;have:=NF.lo_ge (h f j).1 s hs;omega
 .rintro⟨u,o⟩;refine⟨?_,dL o⟩;unfold zH;rw[qr];unfold yU;rcases WB x with y|y
  .simp[y]
  .have A:=o.resolve_left a9;refine V3.2 (.inr ?_);have:∃f∈k,mem f.items (x-1)≠mem f.items x:=wP λE=>(by have:qX k (x-1) x=true:=qo.2 λf j=>wP λB=>E ⟨f,j,B⟩;rw[A]at this;cases this);obtain⟨f,j,w⟩:=this;exact up.2 ⟨f.items,wy.2 ⟨f,j,rfl⟩,Y3 (h f j).1.ivs2 ⟨u,by rw[vD a9];exact λe=>w e.symm⟩⟩
def XC{k:List Fg}(h:RightK k):0∈zq k:=(vZ h).2 ⟨xM,.inl rfl⟩
def vY(k:List Fg):(zq k).length<=1+(CI k).length:=by
 have j:(zq k).length<=(zH (k.map Fg.items)).length:=WC _ _;have o:(zH (k.map Fg.items)).length<=(yU (k.map Fg.items)).length:=ju _;have u:(yU (k.map Fg.items)).length=1+(CI k).length:=by unfold yU CI;rw[wn,Ua];omega
 omega
def vN:List Nat->List Iv
 |[]=>[]
 |[x]=>[⟨x,zk-1⟩]
 |x::y::r=>⟨x,y-1⟩::vN (y::r)
def vO:∀l:List Nat,(vN l).length=l.length
 |[]=>rfl
 |[_]=>rfl
 |x::y::r=>by rw[vN,wn,vO (y::r)];rfl
def Vx:∀(l:List Nat)(i:Nat)(h:i<l.length),(vN l)[i]'(by rw[vO];exact h)=⟨l[i],if h:i+1<l.length then l[i+1]-1 else zk-1⟩
 |[x],0,_=>by simp[vN]
 |x::y::r,0,_=>by simp[vN]
 |x::y::r,i+1,h=>by have:=Vx (y::r) i (dL h);simp only[vN,WN];rw[this];simp
def YD:∀{l:List Nat},YN l->(∀x∈l,x<zk)->(∀s∈vN l,s.lo<=s.hi/\s.hi<zk/\s.lo∈l)/\(vN l).Pairwise (λs t=>s.hi<t.lo)/\(∀s∈vN l,∀y∈l,s.lo<y->s.hi<y)/\∀i x r,l=x::r->x<=i->i<zk->∃s∈vN l,s.lo<=i/\i<=s.hi
 |[],_,_=>⟨λs h=>(by cases h),List.Pairwise.nil,λs h=>(by cases h),λi x r h=>by cases h⟩
 | [x],_,hl=>by
   have M:=hl x b7;refine⟨λs h=>?_,by simp[vN],λs h y B j=>?_,λi y r h u C=>?_⟩
   .simp only[vN,wD]at h;subst h;exact⟨by simp only;omega,by simp only;omega,b7⟩
   .simp only[vN,wD]at h B;subst h B;simp at j
   .cases h;exact⟨⟨x,zk-1⟩,by simp[vN],u,by simp only;omega⟩
 | x::y::r,ha,hl=>by
   have A:=V2.1 ha;have G:=A.1 y b7;have B:=hl y b7;obtain⟨u,C,E,F⟩:=YD A.2 λz hz=>hl z (by simp[hz]);have o:∀z∈y::r,y<=z:=λz hz=>by
    rcases V3.1 hz with rfl|hz
    .exact Zp _
    .exact uB ((V2.1 A.2).1 z hz)
   rw[vN];refine⟨λs h=>?_,V2.2 ⟨λt ht=>?_,C⟩,λs h z hz j=>?_,λi O N h H I=>?_⟩
   .rcases V3.1 h with rfl|h
    .exact⟨by simp only;omega,by simp only;omega,b7⟩
    .obtain⟨J,K,L⟩:=u s h;exact⟨J,K,by rw[V3];exact .inr L⟩
   .have:=o _ (u t ht).2.2;simp only;omega
   .rcases V3.1 h with e|w
    .subst e;rcases V3.1 hz with e|hz
     .subst e;simp at j
     .have:=o z hz;simp only;omega
    .rcases V3.1 hz with e|hz
     .subst e;have:=o _ (u s w).2.2;omega
     .exact E s w z hz j
   .cases h;rcases wK i y with hi|hi
    .exact⟨⟨x,y-1⟩,b7,H,by simp only;omega⟩
    .obtain⟨s,hs,q⟩:=F i y r rfl hi I;exact⟨s,by simp[hs],q⟩
noncomputable def cutsK (k:List Fg):List Iv:=vN (zq k)
noncomputable def zu (k:List Fg):List Iv:=(cutsK k).filter λs=>decide (0<(zU k s.lo).length)
section
variable {k:List Fg}(h:RightK k)
include h
theorem x7:∀x∈zq k,x<zk:=λx j=>((vZ h).1 j).1
theorem xO:(∀s∈cutsK k,s.lo<=s.hi/\s.hi<zk/\s.lo∈zq k)/\(cutsK k).Pairwise (λs t=>s.hi<t.lo)/\(∀s∈cutsK k,∀y∈zq k,s.lo<y->s.hi<y)/\∀i,i<zk->∃s∈cutsK k,s.lo<=i/\i<=s.hi:=by
 obtain⟨u,w,A,B⟩:=YD (xc k) (x7 h);refine⟨u,w,A,λi hi=>?_⟩;have j:=XC h;cases hs:zq k with
 |nil=>rw[hs]at j;cases j
 | cons x r=>
   have:x=0:=by
    rw[hs]at j;rcases V3.1 j with e|e
    .exact e.symm
    .have o:=xc k;rw[hs]at o;have:=(V2.1 o).1 0 e;omega
   exact B i x r hs a9 hi
theorem jR{s:Iv}(hs:s∈cutsK k):∀{x:Nat},s.lo<=x->x<=s.hi->qX k s.lo x=true:=by
 obtain⟨w,_,y,_⟩:=xO h;intro x;induction x with
 |zero=>intro j _;rw[show s.lo=0 by omega];exact qo.2 λf _=>rfl
 | succ x ih=>
   intro j C;rcases uE j with e|o
   .rw[e];exact qo.2 λf _=>rfl
   .have A:=ih a9 a9;have B:qX k x (x+1)=true:=by
     cases h7:qX k x (x+1)with
     |true=>rfl
     |false=>have:=y s hs (x+1) ((vZ h).2 ⟨by have:=(w s hs).2.1;omega,.inr (by rw[Nat.add_sub_cancel];exact h7)⟩) o;omega
    exact qo.2 λf u=>(qo.1 A f u).trans (qo.1 B f u)
theorem Xj{i:Nat}(hi:i<zk)(u:0<(zU k i).length):∃s∈zu k,s.lo<=i/\i<=s.hi:=by obtain⟨s,hs,j,o⟩:=(xO h).2.2.2 i hi;refine⟨s,Wq.2 ⟨hs,?_⟩,j,o⟩;rw[wC,Vp.2 (jR h hs j o)];exact u
theorem yt:(∀s∈zu k,s.lo<=s.hi/\s.hi<zk/\s∈cutsK k/\0<(zU k s.lo).length)/\(zu k).Pairwise (λs t=>s.hi<t.lo):=by refine⟨λs hs=>?_,(xO h).2.1.filter _⟩;obtain⟨j,o⟩:=Wq.1 hs;obtain⟨u,w,_⟩:=(xO h).1 s j;exact⟨u,w,j,dL o⟩
end
def xW(k:List Fg):(zu k).length<=1+(CI k).length:=by have j:(zu k).length<=(cutsK k).length:=WC _ _;have o:(cutsK k).length=(zq k).length:=vO _;have:=vY k;omega
noncomputable def jq (k:List Fg):List Fg:=(zu k).map λs=>⟨[s],qc k s.lo⟩
def ZB{k:List Fg}{f:Fg}(j:f∈jq k):∃s∈zu k,f=⟨[s],qc k s.lo⟩:=by obtain⟨s,hs,e⟩:=wy.1 j;exact⟨s,hs,e.symm⟩
def zfJ{s:Iv}{x:Nat}:mem [s] x=true↔s.lo<=x/\x<=s.hi:=by simp[mem]
def xh(k:List Fg):Prop:=k.Pairwise λf g=>∀x,x<zk->¬(mem f.items x=true/\mem g.items x=true)
def IK.refine{C:Qk}{R:List Nat}{k:List Fg}(hk:IK C R k):∀f∈jq k,WV C R f.vec:=λf j=>by obtain⟨s,_,rfl⟩:=ZB j;exact(hk.at s.lo).1
def Yb{k:List Fg}(h:RightK k):RightK (jq k):=λf u=>by obtain⟨s,hs,rfl⟩:=ZB u;obtain⟨j,o,_⟩:=(yt h).1 s hs;exact⟨qG j o,(h.ik.at s.lo).1.can.right⟩
def zeD{k:List Fg}(h:RightK k):xh (jq k):=by unfold xh jq;rw[uz];refine(yt h).2.imp λhst x _ ⟨h1,h2⟩=>?_;have:=zfJ.1 h1;have:=zfJ.1 h2;omega
def JJ{k:List Fg}(h:RightK k){V:Nat->List En}{P:Nat->Nat->Nat->Bool}(B:∀x r c,x<zk->c<zk->mem (zT (V x) r) c=P x r c)(hs:∀x y r c,qX k x y=true->P x r c=P y r c)(F:∀x r c,zU k x=[]->P x r c=false)
 {i r c:Nat} (hi:i<zk) (C:c<zk):hasK ((zu k).map λs=>⟨[s],V s.lo⟩) i r c=P i r c:=by
 rw[Ww,km];constructor
 .rintro⟨f,G,u,o⟩;obtain⟨s,j,rfl⟩:=wy.1 G;obtain⟨I,J,w,_⟩:=(yt h).1 s j;have A:=zfJ.1 u;rw[B s.lo r c a9 C,hs _ _ _ _ (jR h w A.1 A.2)]at o;exact o
 .intro E;have H:0<(zU k i).length:=Nat.pos_of_ne_zero λe=>by have:=F i r c (wV.1 e);rw[E]at this;cases this
  obtain⟨s,j,u,o⟩:=Xj h hi H;obtain⟨I,J,w,_⟩:=(yt h).1 s j;refine⟨_,wy.2 ⟨s,j,rfl⟩,zfJ.2 ⟨u,o⟩,?_⟩;rw[B s.lo r c a9 C,hs _ _ _ _ (jR h w u o)];exact E
def zc0{k:List Fg}{x:Nat}(r c:Nat)(h:zU k x=[]):hasK k x r c=false:=by rw[<-jh];unfold zU at h;rw[List.map_eq_nil_iff.1 h];rfl
def zfp{k:List Fg}(h:RightK k){i r c:Nat}(hi:i<zk)(j:c<zk):hasK (jq k) i r c=hasK k i r c:=
 JJ h (V:=qc k) (P:=hasK k) (λx r c _ j=>(h.ik.at x).2 r c j) (λ_ _ r c h=>Yt h r c) (λ_ r c h=>zc0 r c h) hi j
def ZH(v w:List En):Prop:=zZ (zv v) (zv w)<0
def ku(v:List En):¬ZH v v:=by unfold ZH;rw[(cmpL_zero _ _).2 rfl];decide
def k8{a b c:List En}(j:ZH a b)(o:ZH b c):ZH a c:=by
 unfold ZH at *;have u:=ZW _ _ _ (Int.le_of_lt j) (Int.le_of_lt o);rcases Int.lt_or_eq_of_le u with h|h
 .exact h
 .have e:=Vv ((cmpL_zero _ _).1 h);subst e;have:=ZV (zv a) (zv b);omega
def zfI{a b:List En}(j:¬ZH a b)(o:zZ (zv a) (zv b)≠0):ZH b a:=by unfold ZH at *;have:=ZV (zv a) (zv b);omega
def YU{a b:List En}(h:zZ (zv a) (zv b)=0):a=b:=Vv ((cmpL_zero _ _).1 h)
def qN:List Fg->Fg->List Fg
 |[],f=>[f]
 |g::r,f=>if zZ (zv g.vec) (zv f.vec)<0 then g::qN r f else if zZ (zv g.vec) (zv f.vec)=0 then ⟨qy zn g.items f.items,f.vec⟩::r else f::g::r
def yo(o:List Fg)(f:Fg):List Fg:=if zi f.vec=[]\/f.items=[] then o else qN o ⟨f.items,zi f.vec⟩
def zL(k:List Fg):List Fg:=k.foldl yo []
def OkG(f:Fg):Prop:=CanV f.vec/\f.vec≠[]/\Nrm f.items/\f.items≠[]
structure GrpI(k:List Fg):Prop where
 ok:∀f∈k,OkG f
 srt:k.Pairwise λf g=>ZH f.vec g.vec
def GrpI.nil:GrpI []:=⟨λf h=>(by cases h),List.Pairwise.nil⟩
def GrpI.tail{f:Fg}{k:List Fg}(h:GrpI (f::k)):GrpI k:=⟨λg j=>h.ok g (by simp[j]),(V2.1 h.srt).2⟩
def GrpI.right{k:List Fg}(h:GrpI k):RightK k:=λf j=>⟨(h.ok f j).2.2.1,(h.ok f j).1.right⟩
def JZ{l:List Iv}(h:Nrm l)(j:l≠[]):∃x,x<zk/\mem l x=true:=by
 cases l with
 |nil=>exact absurd rfl j
 |cons s l=>have:=NF.lo_ge h s b7;exact⟨s.lo,a9,qf.2 ⟨s,b7,Zp _,this.2.1⟩⟩
def zig{l:List Iv}{x:Nat}(h:mem l x=true):l≠[]:=λe=>by rw[e]at h;cases h
def Yw:∀{o:List Fg}{f:Fg},GrpI o->OkG f->(∀g∈qN o f,OkG g/\(g.vec=f.vec\/g∈o))/\GrpI (qN o f)/\(∀i r c,i<zk->hasK (qN o f) i r c=(hasK o i r c || (mem f.items i && mem (zT f.vec r) c)))
 |[],f,_,hf=>⟨λg u=>by simp only[qN,wD]at u;subst u;exact⟨hf,.inl rfl⟩,⟨λg u=>by simp only[qN,wD]at u;subst u;exact hf,by simp[qN]⟩,λi r c _=>by simp[qN,hasK]⟩
 | g::o,f,ho,hf=>by
   have u:=ho.ok g b7;have A:=V2.1 ho.srt;unfold qN;by_cases w:zZ (zv g.vec) (zv f.vec)<0
   .rw[vj w];obtain⟨B,G,H⟩:=Yw ho.tail hf;refine⟨λx j=>?_,⟨λx j=>?_,V2.2 ⟨λx j=>?_,G.srt⟩⟩,λi r c hi=>?_⟩
    .rcases V3.1 j with rfl|j
     .exact⟨u,.inr b7⟩
     .exact⟨(B x j).1,(B x j).2.imp id λh=>by simp[h]⟩
    .rcases V3.1 j with rfl|j
     .exact u
     .exact(B x j).1
    .rcases (B x j).2 with e|e
     .rw[e];exact w
     .exact A.1 x e
    .have:=H i r c hi;unfold hasK at this⊢;rw[ui,ui,this,UC]
   .rw[vD w];by_cases y:zZ (zv g.vec) (zv f.vec)=0
    .rw[vj y];have e:g.vec=f.vec:=YU y;have E:OkG ⟨qy zn g.items f.items,f.vec⟩:=by refine⟨hf.1,hf.2.1,qH u.2.2.1 hf.2.2.1,?_⟩;obtain⟨x,j,F⟩:=JZ u.2.2.1 u.2.2.2;refine zig (x:=x) ?_;show mem (qy zn g.items f.items) x=true;rw[qj u.2.2.1 hf.2.2.1 j,F];rfl
     refine⟨λx j=>?_,⟨λx j=>?_,V2.2 ⟨λx j=>?_,A.2⟩⟩,λi r c hi=>?_⟩
     .rcases V3.1 j with rfl|j
      .exact⟨E,.inl rfl⟩
      .exact⟨ho.ok x (by simp[j]),.inr (by simp[j])⟩
     .rcases V3.1 j with rfl|j
      .exact E
      .exact ho.ok x (by simp[j])
     .have:=A.1 x j;rw[e]at this;exact this
     .unfold hasK;rw[ui,ui];simp only;rw[qj u.2.2.1 hf.2.2.1 hi,e];simp only[zn];cases mem g.items i<;>cases mem f.items i<;>cases mem (zT f.vec r) c<;>simp
    .rw[vD y];have C:ZH f.vec g.vec:=zfI w y;refine⟨λx j=>?_,⟨λx j=>?_,V2.2 ⟨λx j=>?_,ho.srt⟩⟩,λi r c hi=>?_⟩
     .rcases V3.1 j with rfl|j
      .exact⟨hf,.inl rfl⟩
      .exact⟨ho.ok x j,.inr j⟩
     .rcases V3.1 j with rfl|j
      .exact hf
      .exact ho.ok x j
     .rcases V3.1 j with rfl|j
      .exact C
      .exact k8 C (A.1 x j)
     .unfold hasK;rw[ui,Bool.or_comm]
def Yi{f:Fg}(h:ZS f)(j:¬(zi f.vec=[]\/f.items=[])):OkG ⟨f.items,zi f.vec⟩:=⟨jN h.2,λe=>j (.inl e),h.1,λe=>j (.inr e)⟩
def Yr{o:List Fg}{f:Fg}(ho:GrpI o)(j:ZS f):GrpI (yo o f)/\∀i r c,i<zk->hasK (yo o f) i r c=(hasK o i r c || (mem f.items i && mem (zT f.vec r) c)):=by
 unfold yo;split
 .rename_i h;refine⟨ho,λi r c _=>?_⟩;rcases h with h|h
  .rw[<-ja j.2,h,knV_nil];simp
  .rw[h];simp
 .rename_i h;obtain⟨_,u,w⟩:=Yw ho (Yi j h);refine⟨u,λi r c hi=>?_⟩;rw[w i r c hi];simp only;rw[ja j.2]
def jV:∀{k:List Fg}{o:List Fg},GrpI o->RightK k->GrpI (k.foldl yo o)/\∀i r c,i<zk->hasK (k.foldl yo o) i r c=(hasK o i r c || hasK k i r c)
 |[],o,ho,_=>⟨ho,λi r c _=>by simp[hasK]⟩
 |f::k,o,ho,hk=>by obtain⟨j,u⟩:=Yr ho (hk f b7);obtain⟨w,y⟩:=jV (k:=k) j λg A=>hk g (by simp[A]);refine⟨w,λi r c hi=>?_⟩;rw[WH,y i r c hi,u i r c hi,UC];rfl
def vB{k:List Fg}(h:RightK k):GrpI (zL k):=(jV GrpI.nil h).1
def za5{k:List Fg}(h:RightK k){i r c:Nat}(hi:i<zk):hasK (zL k) i r c=hasK k i r c:=by have:=(jV GrpI.nil h).2 i r c hi;rw[show hasK [] i r c=false from rfl,uC]at this;exact this
def Qa:∀{o:List Fg}{f:Fg},(∀g∈o,Nrm g.items)->Nrm f.items->xh o->(∀g∈o,∀x,x<zk->¬(mem g.items x=true/\mem f.items x=true)) ->
 xh (qN o f)/\∀g∈qN o f,Nrm g.items/\∀x,x<zk->mem g.items x=true->mem f.items x=true\/∃H∈o,mem H.items x=true
 |[],f,_,hf,_,_=>⟨by simp[qN,xh],λg A=>by simp only[qN,wD]at A;subst A;exact⟨hf,λx _ u=>.inl u⟩⟩
 | g::o,f,ho,hf,ha,hd=>by
   have A:=ho g b7;have B:=V2.1 ha;unfold qN;by_cases F:zZ (zv g.vec) (zv f.vec)<0
   .rw[vj F];obtain⟨I,E⟩:=Qa (λx j=>ho x (by simp[j])) hf B.2 λx j=>hd x (by simp[j]);refine⟨V2.2 ⟨λx j z hz ⟨w,m2⟩=>?_,I⟩,λx j=>?_⟩
    .rcases (E x j).2 z hz m2 with e|⟨y,C,e⟩
     .exact hd g b7 z hz ⟨w,e⟩
     .exact B.1 y C z hz ⟨w,e⟩
    .rcases V3.1 j with rfl|j
     .exact⟨A,λz _ u=>.inr ⟨x,b7,u⟩⟩
     .refine⟨(E x j).1,λz hz u=>((E x j).2 z hz u).imp id ?_⟩;rintro⟨y,C,e⟩;exact⟨y,by simp[C],e⟩
   ·rw [vD F];by_cases G:zZ (zv g.vec) (zv f.vec)=0
    .rw[vj G];refine⟨V2.2 ⟨λx j z hz ⟨w,m2⟩=>?_,B.2⟩,λx j=>?_⟩
     .simp only at w;rw[qj A hf hz]at w;simp only[zn,WA]at w;rcases w with w|w
      .exact B.1 x j z hz ⟨w,m2⟩
      .exact hd x (by simp[j]) z hz ⟨m2,w⟩
     .rcases V3.1 j with rfl|j
      .refine⟨qH A hf,λz hz u=>?_⟩;simp only at u;rw[qj A hf hz]at u;simp only[zn,WA]at u;rcases u with u|u
       .exact .inr ⟨g,b7,u⟩
       .exact .inl u
      .exact⟨ho x (by simp[j]),λz _ u=>.inr ⟨x,by simp[j],u⟩⟩
    .rw[vD G];refine⟨V2.2 ⟨λx j z hz ⟨w,m2⟩=>hd x j z hz ⟨m2,w⟩,ha⟩,λx j=>?_⟩;rcases V3.1 j with rfl|j
     .exact⟨hf,λz _ u=>.inl u⟩
     .exact⟨ho x j,λz _ u=>.inr ⟨x,j,u⟩⟩
def vA:∀{k o:List Fg},(∀g∈o,Nrm g.items)->(∀f∈k,Nrm f.items)->xh o->xh k->(∀g∈o,∀f∈k,∀x,x<zk->¬(mem g.items x=true/\mem f.items x=true))->xh (k.foldl yo o)
 |[],o,_,_,ha,_,_=>ha
 | f::k,o,ho,hk,ha,hak,hd=>by
   have A:=V2.1 hak;rw[WH];unfold yo;split
   .exact vA ho (λg j=>hk g (by simp[j])) ha A.2 λg j w u=>hd g j w (by simp[u])
   .obtain⟨E,B⟩:=Qa (f:=⟨f.items,zi f.vec⟩) ho (hk f b7) ha λg j=>hd g j f b7;refine vA (λg j=>(B g j).1) (λg j=>hk g (by simp[j])) E A.2 λg j w u x hx ⟨m1,m2⟩=>?_;rcases (B g j).2 x hx m1 with e|⟨y,C,e⟩
    .exact A.1 w u x hx ⟨e,m2⟩
    .exact hd y C w (by simp[u]) x hx ⟨e,m2⟩
structure CanK(k:List Fg):Prop where
 gi:GrpI k
 apart:xh k
def za4{k:List Fg}(h:RightK k)(j:xh k):CanK (zL k):=⟨vB h,vA (λg h=>(by cases h)) (λf o=>(h f o).1) List.Pairwise.nil j λg h=>(by cases h)⟩
def CanK.one{k:List Fg}(h:CanK k){f:Fg}(w:f∈k){i:Nat}(hi:i<zk)(j:mem f.items i=true)(r c:Nat):hasK k i r c=mem (zT f.vec r) c:=by
 rw[Ww,km];constructor
 .rintro⟨g,A,y,o⟩;have:f=g:=by
   obtain⟨a,u,rfl⟩:=Wd w;obtain⟨b,hb,rfl⟩:=Wd A;rcases WK a b with e|e|e
   .exact absurd ⟨j,y⟩ (wI.1 h.apart a b u hb e i hi)
   .subst e;rfl
   .exact absurd ⟨y,j⟩ (wI.1 h.apart b a hb u e i hi)
  subst this;exact o
 .intro o;exact⟨f,w,j,o⟩
def CanK.vec{k:List Fg}(h:CanK k){f g:Fg}(u:f∈k)(w:g∈k)(e:f.vec=g.vec):f=g:=by
 obtain⟨a,o,rfl⟩:=Wd u;obtain⟨b,hb,rfl⟩:=Wd w;rcases WK a b with j|j|j
 .have:=wI.1 h.gi.srt a b o hb j;rw[e]at this;exact absurd this (ku _)
 .subst j;rfl
 .have:=wI.1 h.gi.srt b a hb o j;rw[e]at this;exact absurd this (ku _)
def zaK{v:List En}(h:CanV v)(u:v≠[]):∃r c,c<zk/\mem (zT v r) c=true:=by
 cases v with
 |nil=>exact absurd rfl u
 |cons e v=>have j:=h.1 e b7;obtain⟨x,w,o⟩:=JZ (qT j.1) (jO j).1;exact⟨e.rep,x,w,by rw[qm,vj rfl];exact o⟩
def Yh{a b:List Fg}(B:CanK a)(hb:CanK b)(h:∀i r c,i<zk->c<zk->hasK a i r c=hasK b i r c){f:Fg}(E:f∈a):∃g∈b,g.vec=f.vec/\∀x,x<zk->mem f.items x=true->mem g.items x=true:=by
 have ok:=B.gi.ok f E;have u:∀x,x<zk->mem f.items x=true->∃g∈b,g.vec=f.vec/\mem g.items x=true:=λx j A=>by obtain⟨r,c,C,hk⟩:=zaK ok.1 ok.2.1;have H:=B.one E j A r c;rw[hk,h x r c j C]at H;obtain⟨g,o,I,_⟩:=km.1 H;refine⟨g,o,?_,I⟩;have w:=hb.gi.ok g o;refine Zk w.1 ok.1 λr=>Nrm.unique (qi w.1.right r) (qi ok.1.right r) λc C=>?_;rw[<-hb.one o j I r c,<-B.one E j A r c,h x r c j C]
 obtain⟨x,j,A⟩:=JZ ok.2.2.1 ok.2.2.2;obtain⟨g,o,e,_⟩:=u x j A;refine⟨g,o,e,λy K G=>?_⟩;obtain⟨M,F,J,L⟩:=u y K G;rw[hb.vec o F (e.trans J.symm)];exact L
def ZD:∀{a b:List Fg},a.Pairwise (λf g=>ZH f.vec g.vec)->b.Pairwise (λf g=>ZH f.vec g.vec)->(∀f,f∈a↔f∈b)->a=b
 |[],[],_,_,_=>rfl
 |[],y::b,_,_,h=>absurd ((h y).2 b7) b7
 |x::a,[],_,_,h=>absurd ((h x).1 b7) b7
 | x::a,y::b,ha,hb,h=>by
   have j:=V2.1 ha;have o:=V2.1 hb;have A:x=y:=by
    have u:=(h x).1 b7;have w:=(h y).2 b7;simp at u w;rcases u with u|u
    .exact u
    .rcases w with w|w
     .exact w.symm
     .exact absurd (k8 (o.1 x u) (j.1 y w)) (ku _)
   subst A;congr 1;refine ZD j.2 o.2 λz=>?_;have:=h z;simp at this;constructor
   .intro hz;rcases this.1 (.inr hz)with e|e
    .subst e;exact absurd (j.1 z hz) (ku _)
    .exact e
   .intro hz;rcases this.2 (.inr hz)with e|e
    .subst e;exact absurd (o.1 z hz) (ku _)
    .exact e
def XN{a b:List Fg}(j:CanK a)(hb:CanK b)(h:∀i r c,i<zk->c<zk->hasK a i r c=hasK b i r c):a=b:=by
 have o:∀{a b:List Fg},CanK a->CanK b->(∀i r c,i<zk->c<zk->hasK a i r c=hasK b i r c)->∀f∈a,f∈b:=λ{a b} j hb h f hf=>by
  obtain⟨g,y,e,hi⟩:=Yh j hb h hf;obtain⟨u,w,F,A⟩:=Yh hb j (λi r c B C=>(h i r c B C).symm) y;have:u=f:=j.vec w hf (F.trans e);subst this;have:g=u:=Fg.ext' (Nrm.unique (hb.gi.ok g y).2.2.1 (j.gi.ok u hf).2.2.1 λx E=>by
   rw[Ww];exact⟨A x E,hi x E⟩) e
  rw[<-this];exact y
 exact ZD j.gi.srt hb.gi.srt λf=>⟨o j hb h f,o hb j (λi r c B C=>(h i r c B C).symm) f⟩
noncomputable def zbx (k:List Fg):List Fg:=zL (jq k)
noncomputable def yy (f:Q3) (a b:List Fg):List Fg:=(zu (a++b)).map λs=>⟨[s],ks f (qc a s.lo) (qc b s.lo)⟩
noncomputable def vh (f:Q3) (a b:List Fg):List Fg:=zL (yy f a b)
noncomputable def znF (k:List Fg) (items:List Iv):List Fg:=zbx (k.map λf=>⟨qy fMeet f.items items,f.vec⟩)
def zbX{k:List Fg}(h:RightK k):CanK (zbx k):=za4 (Yb h) (zeD h)
def zbW{k:List Fg}(h:RightK k){i r c:Nat}(hi:i<zk)(j:c<zk):hasK (zbx k) i r c=hasK k i r c:=by unfold zbx;rw[za5 (Yb h) hi,zfp h hi j]
def RightK.app{a b:List Fg}(j:RightK a)(hb:RightK b):RightK (a++b):=λf o=>(wA.1 o).elim (j f) (hb f)
def xU{f:Q3}{a b:List Fg}(j:RightK a)(hb:RightK b):RightK (yy f a b):=λg w=>by obtain⟨s,hs,rfl⟩:=wy.1 w;obtain⟨o,u,_⟩:=(yt (j.app hb)).1 s hs;exact⟨qG o u,(Xe f (j.ik.at s.lo).1.can.right (hb.ik.at s.lo).1.can.right).right⟩
def Xh{f:Q3}{a b:List Fg}(j:RightK a)(hb:RightK b):xh (yy f a b):=by unfold xh yy;rw[uz];refine(yt (j.app hb)).2.imp λhst x _ ⟨h1,h2⟩=>?_;have:=zfJ.1 h1;have:=zfJ.1 h2;omega
def ze5{f:Q3}{a b:List Fg}(j:RightK a)(hb:RightK b):CanK (vh f a b):=za4 (xU j hb) (Xh j hb)
def zcZ{f:Q3}(E:f false false=false){a b:List Fg}(B:RightK a)(hb:RightK b){i r c:Nat}(hi:i<zk)(j:c<zk):hasK (vh f a b) i r c=f (hasK a i r c) (hasK b i r c):=by
 unfold vh;rw[za5 (xU B hb) hi];refine JJ (B.app hb) (V:=λx=>ks f (qc a x) (qc b x)) (P:=λx r c=>f (hasK a x r c) (hasK b x r c)) (λx r c _ j=>?_) (λx y r c hs=>?_) (λx r c F=>?_) hi j
 .have w:=B.ik.at x;have A:=hb.ik.at x;rw[JR E w.1.can.right A.1.can.right,qj (qi w.1.can.right r) (qi A.1.can.right r) j,w.2 r c j,A.2 r c j]
 .have o:=qo.1 hs;rw[Yt (k:=a) (qo.2 λg C=>o g (by simp[C])),Yt (k:=b) (qo.2 λg C=>o g (by simp[C]))]
 .have u:=zc0 (k:=a++b) r c F;unfold hasK at u⊢;rw[uR,tb]at u;rw[u.1,u.2,E]
def zof{k:List Fg}{items:List Iv}(h:RightK k)(hi:Nrm items){i r c:Nat}(o:i<zk)(A:c<zk):hasK (znF k items) i r c=(mem items i && hasK k i r c):=by
 have B:RightK (k.map λf=>(⟨qy fMeet f.items items,f.vec⟩:Fg)):=λg y=>by obtain⟨f,j,rfl⟩:=wy.1 y;exact⟨qH (h f j).1 hi,(h f j).2⟩
 unfold znF;rw[zbW B o A,Ww,Vm,km,km];constructor
 .rintro⟨g,y,u,w⟩;obtain⟨f,j,rfl⟩:=wy.1 y;simp only at u w;rw[qj (h f j).1 hi o]at u;simp only[fMeet,Vm]at u;exact⟨u.2,f,j,u.1,w⟩
 .rintro⟨C,f,j,u,w⟩;refine⟨_,wy.2 ⟨f,j,rfl⟩,?_,w⟩;simp only;rw[qj (h f j).1 hi o,C,u];rfl
def CanK.right{k:List Fg}(h:CanK k):RightK k:=h.gi.right
def znD{f:Q3}(w:f false false=false){a b c:List Fg}(j:RightK a)(hb:RightK b)(u:CanK c)(h:∀i r x,i<zk->x<zk->hasK c i r x=f (hasK a i r x) (hasK b i r x)):vh f a b=c:=
 XN (ze5 j hb) u λi r x hi o=>by rw[zcZ w j hb hi o,h i r x hi o]
def zdi{l:List Iv}{x:Nat}(w:mem l x=true)(j:x=0\/mem l (x-1)=false):x∈l.map Iv.lo:=by
 obtain⟨s,hs,u,y⟩:=qf.1 w;refine wy.2 ⟨s,hs,?_⟩;rcases uq u with o|o
 .rcases j with j|j
  .omega
  .have:mem l (x-1)=true:=qf.2 ⟨s,hs,a9,a9⟩;rw[this]at j;cases j
 .exact o
def zbS{a b:List Iv}(u:Nrm a)(hb:Nrm b):(qy zn a b).length<=a.length+b.length:=by
 have w:=qH (f:=zn) u hb;have:=Ji ((qy zn a b).map Iv.lo) (a.map Iv.lo++b.map Iv.lo) (NF.asc w) λy E=>by
  obtain⟨s,hs,rfl⟩:=wy.1 E;have C:=NF.lo_ge w s hs;have j:mem (qy zn a b) s.lo=true:=qf.2 ⟨s,hs,Zp _,C.2.1⟩;have B:s.lo=0\/(mem a (s.lo-1)=false/\mem b (s.lo-1)=false):=by
   by_cases A:s.lo=0
   .exact .inl A
   .have o:=NF.lo_prev w s hs A;rw[qj u hb a9]at o;simp only[zn,tb]at o;exact .inr o
  rw[qj u hb a9]at j;simp only[zn,WA]at j;rcases j with j|j
  .exact List.mem_append_left _ (zdi j (B.imp id UO))
  .exact List.mem_append_right _ (zdi j (B.imp id W9))
 simpa using this
def qE:List Fg->Nat
 |[]=>0
 |f::k=>f.items.length+qE k
def kK:∀(a b:List Fg),qE (a++b)=qE a+qE b
 |[],b=>by simp[qE]
 |f::a,b=>by simp only[yb,qE,kK a b];omega
def yv:∀{k:List Fg}{f:Fg},f∈k->f.items.length<=qE k
 | g::k,f,h=>by
   rcases V3.1 h with rfl|h
   .simp only[qE];omega
   .have:=yv h;simp only[qE];omega
def YO:∀k:List Fg,(CI k).length<=2*qE k
 |[]=>by simp[CI,qE]
 |f::k=>by have j:=YO k;have o:=vq f.items;have:CI (f::k)=z6 f.items++CI k:=rfl;rw[this,wi,qE];omega
def Zf(V:Iv->List En):∀l:List Iv,qE (l.map λs=>⟨[s],V s⟩)=l.length
 |[]=>rfl
 |s::l=>by rw[Wx,qE,Zf V l];simp;omega
def Vg:∀{o:List Fg}{f:Fg},(∀g∈o,Nrm g.items)->Nrm f.items->qE (qN o f)<=qE o+f.items.length/\(qN o f).length<=o.length+1/\∀g∈qN o f,g.vec=f.vec\/∃h∈o,g.vec=h.vec
 |[],f,_,_=>⟨by simp[qN,qE],by simp[qN],λg u=>by simp only[qN,wD]at u;subst u;exact .inl rfl⟩
 | g::o,f,ho,hf=>by
   have B:=Vg (o:=o) (f:=f) (λx j=>ho x (by simp[j])) hf;have u:=ho g b7;have C:=zbS u hf;unfold qN;by_cases w:zZ (zv g.vec) (zv f.vec)<0
   .rw[vj w];refine⟨by simp only[qE];omega,by simp only[wn];omega,λx j=>?_⟩;rcases V3.1 j with rfl|j
    .exact .inr ⟨_,b7,rfl⟩
    .exact(B.2.2 x j).imp id λ⟨y,hy,e⟩=>⟨y,by simp[hy],e⟩
   .rw[vD w];by_cases A:zZ (zv g.vec) (zv f.vec)=0
    .rw[vj A];refine⟨by simp only[qE];omega,b7,λx j=>?_⟩;rcases V3.1 j with rfl|j
     .exact .inl rfl
     .exact .inr ⟨x,by simp[j],rfl⟩
    .rw[vD A];refine⟨by simp only[qE];omega,b7,λx j=>?_⟩;rcases V3.1 j with rfl|j
     .exact .inl rfl
     .exact .inr ⟨x,j,rfl⟩
def Yq:∀{k o:List Fg},GrpI o->RightK k->qE (k.foldl yo o)<=qE o+qE k/\(k.foldl yo o).length<=o.length+k.length/\∀g∈k.foldl yo o,(∃f∈k,g.vec=zi f.vec)\/∃h∈o,g.vec=h.vec
 |[],o,_,_=>⟨b7,b7,λg j=>.inr ⟨g,j,rfl⟩⟩
 | f::k,o,ho,hk=>by
   have w:=hk f b7;have A:=Yq (k:=k) (o:=yo o f) (Yr ho w).1 λg j=>hk g (by simp[j]);rw[WH];have B:qE (yo o f)<=qE o+f.items.length/\(yo o f).length<=o.length+1/\∀g∈yo o f,g.vec=zi f.vec\/∃h∈o,g.vec=h.vec:=by
    unfold yo;split
    .exact⟨a9,a9,λg j=>.inr ⟨g,j,rfl⟩⟩
    .exact Vg (λg j=>(ho.ok g j).2.2.1) w.1
   refine⟨by simp only[qE];omega,by simp only[wn];omega,λg j=>?_⟩;rcases A.2.2 g j with⟨x,u,e⟩|⟨x,u,e⟩
   .exact .inl ⟨x,by simp[u],e⟩
   .rcases B.2.2 x u with e2|⟨y,C,e2⟩
    .exact .inl ⟨f,b7,e.trans e2⟩
    .exact .inr ⟨y,C,e.trans e2⟩
def jU{k:List Fg}(h:RightK k):qE (zL k)<=qE k/\(zL k).length<=k.length/\∀g∈zL k,∃f∈k,g.vec=zi f.vec:=by
 have:=Yq (o:=[]) GrpI.nil h;refine⟨by simpa[qE,zL]using this.1,by simpa[zL]using this.2.1,λg j=>?_⟩;rcases this.2.2 g j with h|⟨x,u,_⟩
 .exact h
 .cases u
def Zo{k:List Fg}{j:Nat}(h:j<k.length):zL (k.take (j+1))=yo (zL (k.take j)) k[j]:=by unfold zL;rw[X3 h,WL];rfl
def zfS{v:List En}{h:Nat}(w:∀e∈v,e.holes.length<=h):(zv v).length<=1+v.length*(3+2*h):=by
 have:∀{v:List En},(∀e∈v,e.holes.length<=h)->(v.flatMap zC).length<=v.length*(3+2*h):=by
  intro v;induction v with
  |nil=>intro _;simp
  |cons e v ih=>intro j;have y:=ih λf u=>j f (by simp[u]);have A:=j e b7;have o:(v.length+1)*(3+2*h)=v.length*(3+2*h)+(3+2*h):=Nat.succ_mul _ _;simp only[We,wi,zC,wn,xx,o];omega
 have:=this w;unfold zv;simp only[wn];omega
def WV.nlen{C:Qk}{R:List Nat}{v:List En}(h:WV C R v)(u:∀r,(C r).length<=9000)(w:R.length<=20000):(zv v).length<=1073741824:=by obtain⟨_,j,o⟩:=h.bv u w;have y:=zfS o;have A:v.length*(3+2*(9000+2))<=20000*(3+2*(9000+2)):=Wr _ j;omega
def zaJ:CanK []:=⟨GrpI.nil,List.Pairwise.nil⟩
def zcY(i r c:Nat):hasK [] i r c=false:=rfl
def zqm{a b:List Iv}(j:Nrm a)(hb:Nrm b):(qy fMeet a b).length<=2*(a.length+b.length):=by have o:=zcK (C:=z6 a++z6 b) (qH (f:=fMeet) j hb) λx u=>(zcM rfl j hb u).elim (λh=>wA.2 (.inl (Y3 j.ivs2 h))) (λh=>wA.2 (.inr (Y3 hb.ivs2 h)));have w:=vq a;have y:=vq b;rw[wi]at o;omega
def zl5(k:List Fg)(items:List Iv):List Fg:=k.map λf=>⟨qy fMeet f.items items,f.vec⟩
def znX{k:List Fg}{items:List Iv}(h:RightK k)(hi:Nrm items):RightK (zl5 k items):=λg o=>by obtain⟨f,j,rfl⟩:=wy.1 o;exact⟨qH (h f j).1 hi,(h f j).2⟩
def zoG{items:List Iv}(hi:Nrm items):∀{k:List Fg},RightK k->qE (zl5 k items)<=2*qE k+2*(k.length*items.length)
 |[],_=>X4 _
 |f::k,h=>by have o:=zoG hi (k:=k) λg j=>h g (by simp[j]);have u:=zqm (h f b7).1 hi;have e:zl5 (f::k) items=⟨qy fMeet f.items items,f.vec⟩::zl5 k items:=rfl;rw[e];simp only[qE,wn,WX,Nat.one_mul];omega
def zn1{k:List Fg}{items:List Iv}(h:RightK k)(hi:Nrm items):CanK (znF k items):=zbX (znX h hi)
def zoe(k:List Fg)(j:Nat):List Iv:=(k.take j).foldl (λo f=>qy zn o f.items) []
def zoZ{k:List Fg}{j:Nat}(h:j<k.length):zoe k (j+1)=qy zn (zoe k j) k[j].items:=by unfold zoe;rw[X3 h,WL];rfl
def zon{k:List Fg}(h:RightK k):∀j,j<=k.length->Nrm (zoe k j)/\(zoe k j).length<=qE (k.take j)/\∀x,x<zk->(mem (zoe k j) x=true↔∃f∈k.take j,mem f.items x=true)
 |0,_=>⟨trivial,X4 _,λx _=>by simp[zoe,mem]⟩
 | j+1,hj=>by
   obtain⟨w,B,A⟩:=zon h j a9;have o:=(h k[j] (Yf _)).1;rw[zoZ hj];refine⟨qH w o,?_,λx y=>?_⟩
   .have:=zbS w o;rw[X3 hj,kK];simp only[qE];omega
   .rw[qj w o y,X3 hj];simp only[zn,WA,A x y,wA,wD];constructor
    .rintro(⟨f,o,u⟩|u)
     .exact⟨f,.inl o,u⟩
     .exact⟨_,.inr rfl,u⟩
    .rintro⟨f,o|rfl,u⟩
     .exact .inl ⟨f,o,u⟩
     .exact .inr u
def zp9(k:List Fg)(j:Nat):qE (k.take j)<=qE k:=by have:=kK (k.take j) (k.drop j);rw[wZ]at this;omega
def zpE{k:List Fg}(h:CanK k){j:Nat}(F:j<k.length):qy fMeet k[j].items (zoe k j)=[]:=by
 obtain⟨B,_,E⟩:=zon h.right j a9;have C:=(h.right k[j] (Yf _)).1;refine wP λG=>?_;obtain⟨x,A,u⟩:=JZ (qH C B) G;rw[qj C B A]at u;simp only[fMeet,Vm]at u;obtain⟨f,w,o⟩:=(E x A).1 u.2;obtain⟨i,hi,rfl⟩:=Wd w;have y:i<j:=by simp at hi;omega
 rw[uI]at o;exact wI.1 h.apart i j a9 F y x A ⟨o,u.1⟩
def zqy{k:List Fg}(h:CanK k){j:Nat}(u:0<j)(o:j<k.length):zZ (zv k[j-1].vec) (zv k[j].vec)<0:=
 wI.1 h.gi.srt (j-1) j a9 o a9
abbrev Tr:=Nat×Nat×Nat
def leT(t u:Tr):Prop:=t.1<u.1\/(t.1=u.1/\(t.2.1<u.2.1\/(t.2.1=u.2.1/\t.2.2<=u.2.2)))
structure IsLeast(k:List Fg)(t:Tr):Prop where
 b1:t.1<zk
 b2:t.2.2<zk
 has:hasK k t.1 t.2.1 t.2.2=true
 le:∀i r c,i<zk->c<zk->hasK k i r c=true->leT t (i,r,c)
def zfo{k:List Fg}(h:RightK k){i r c:Nat}:hasK k i r c=true↔∃f∈k,mem f.items i=true/\∃e∈f.vec,e.rep=r/\mem (kn e) c=true:=by
 rw[km];refine exists_congr λf=>uT λA=>uT λ_=>?_;have y:=(h f A).2;constructor
 .intro j;by_cases u:∀e∈f.vec,e.rep≠r
  .rw[qC u]at j;cases j
  .simp only[Classical.not_forall,Classical.not_not]at u;obtain⟨e,o,w⟩:=u;refine⟨e,o,w,?_⟩;rw[<-w,kq y.2 o]at j;exact j
 .rintro⟨e,o,rfl,j⟩;rw[kq y.2 o];exact j
end
end Go.Proofs.YtjdjjlkifdimkaaGreatDoor
