import Derived.Test.YtjdjjlkifdimkaaGreatDoorB24
set_option maxHeartbeats 16000000
set_option linter.all false
set_option maxRecDepth 100000
namespace Go.Proofs.YtjdjjlkifdimkaaGreatDoor
open Go.Proofs.Tryz
open Go.Proofs.Tryz renaming prog->xt
section
open Go.RowKit
attribute [-go_sem] z7
def Rpf(D:xT)(w:World)(b:Nat)(s:Rs):Prop:=
 ∃ra o ka j,w.heap[b]?=some (.cells #[.int .u64 s.id,.slice ra s.recs.length o,.slice ka s.known.length j,.int .u64 s.next,.bool false] 74 (0,0))/\Dat D w (.slice ra s.recs.length o) (lp s.recs)/\Dat D w (.slice ka s.known.length j) (kp s.known)
def Rpf.keep{D D':xT}{S:Nat->Prop}{b:Nat}{w w':World}{s:Rs}(h:Rpf D w b s)(hk:Keep S w w')(hb:¬S b)(j:∀b o,D b o->D' b o/\¬S b):Rpf D' w' b s:=by obtain⟨ra,G,ka,F,y,A,B⟩:=h;have u:∀{x:Value}{p:PV},Dat D w x p->Dat D' w' x p:=λh=>h.mono (λb o h=>(j b o h).1) λb o x C E=>hk.cell_some E (j b o C).2;exact⟨ra,G,ka,F,hk.obj y hb,u A,u B⟩
def ztK{D:xT}{w:World}{b:Nat}{s:Rs}{x:Rc}(hR:Rpf D w b s)(hG:Gd D w)(bJ:∀o,¬D b o)(hl:s.recs.length<=1000000):
 Calls xt 55 #[.pointer (some ⟨b,0,none⟩),rcv x] w λe w'=>(∃u,e=.returned u)/\Keep (λk=>k=b) w w'/\Rpf (Nw D w w') w' b ⟨s.id,zr4 s.recs x,s.known,s.next⟩:=by
 obtain⟨ra,rc,ka,kc,h1,h2,h3⟩:=hR;obtain⟨bR,bS,bD,bn,cf,aX⟩:=zsZ h2;obtain⟨rfl,rfl⟩:ra=bR/\rc=bS:=dL bD
 have bt:=(XE.1 h1).1;obtain⟨G,aY⟩:=xm (w.alloc (.cells #[.int .u64 x.item,.int .u64 x.rep,.int .u64 x.ctr,.string x.val] 80));have bi:Below w.heap.size w G:=by rw[aY];exact(tq _ w).alloc (Zp _) _
 have cg:G.heap.size=w.heap.size+1:=by rw[aY];exact tu _ _
 have bq:G.heap[w.heap.size]?=some (.cells #[.int .u64 x.item,.int .u64 x.rep,.int .u64 x.ctr,.string x.val] 80 (0,0)):=by rw[aY];exact tl w _
 obtain⟨l,bA⟩:=xm (s.recs);rw[<-bA]at hl bn aX h1 h2⊢;obtain⟨n,hn⟩:=xm (l.length);have bc:=(bi.block b bt).trans h1;rw[<-hn]at bc;have x0:G.cell? ⟨w.heap.size,0,none⟩=some (.int .u64 x.item):=(zW bq 0 _ rfl).1;have c1:G.cell? ⟨b,1,none⟩=some (.slice ra n rc):=(zW bc 1 _ rfl).1;have be:=qL aX;have H1:=qL h1;have H2:=qL h2;have H3:=qL h3;have HG:=qL hG;have bh:=qL bi;have bI:=qL bq;have HN:=qL hn;have bG:=qL bc;rw[<-hn]at hl bn;clear aX h1 h2 h3 hG bi bq hn bc bD bA;dsimp only[rcv];go_enter func55,ntmps55
 go_wp2_with fail
 rw [<-aY];clear aY;rename_i Kx hKx;have hX:∀(k:Nat)(u1 u2 u5 u6 u7 u8 u9 u10 u11 N O P Q T U V X Y Z ab ac ad ae af ag ah ai aj ak am an ao aq ar au av aw ax ay az aA aB aC aD aE aF aG aH aI aJ aK aL aM aN aO aP aQ aR aS aT aU:Value)(wr:World),Below G.heap.size G wr->k<=n->(∀j,(h:j<l.length)->j<k->l[j].item<x.item)->(∀h:k<l.length,¬l[k].item<x.item)->Kx ⟨#[.pointer (some ⟨b,0,none⟩),u1,u2,.pointer (some ⟨w.heap.size,0,none⟩),.int .i64 k,u5,u6,u7,u8,u9,u10,u11,N,O,P,Q,T,U,V,X,Y,Z,ab,ac,ad,ae,af,ag,ah,ai,aj,ak,am,an,ao,aq,ar,au,av,aw,ax,ay,az,aA,aB,aC,aD,aE,aF,aG,aH,aI,aJ,aK,aL,aM,aN,aO,aP,aQ,aR,aS,aT,aU],[]⟩ wr:=by
  intro k u1 u2 u5 u6 u7 u8 u9 u10 u11 N O P Q T U V X Y Z ab ac ad ae af ag ah ai aj ak am an ao aq ar au av aw ax ay az aA aB aC aD aE aF aG aH aI aJ aK aL aM aN aO aP aQ aR aS aT aU wr H hk hj bl;refine hKx _ _ ?_;clear hKx;have HJ:=qL hj;have E:=qL H;have F:=ztl (l:=l) (x:=x) (k:=k) (by rw[<-HN.o];exact hk) hj bl;have cc:k<=rc:=a9;have aV:∀W:World,Below G.heap.size G W->l=[]\/∃g B,ra=some ⟨g,B,none⟩/\∀i u,(l.flatMap rcs)[i]?=some u->W.cell? ⟨g,B+i,none⟩=some u:=λW I=>by
   by_cases h0:l=[]
   .exact .inl h0
   .obtain⟨g,B,rfl,C⟩:=be.o h0;refine .inr ⟨g,B,rfl,λj u h=>?_⟩;obtain⟨q1,q2⟩:=C j u h;have bj:=HG.o.2 g _ q1;exact(tk (a:=⟨g,B+j,none⟩) ((I.block g a9).trans (bh.o.block g bj))).trans q2
  have K:=qL aV;have bH:qA (∀W:World,Below G.heap.size G W->(k=0/\ra=none)\/∃a',ra=some a'/\∀j u,((l.take k).flatMap rcs)[j]?=some u->W.cell? (a'.add j)=some u):=qL λW I=>by
   rcases K.o W I with h0|⟨g,B,bN,hc⟩
   .subst h0;obtain rfl:k=0:=(by have:=HN.o;simp at this;omega);cases ra with
    |none=>exact .inl ⟨rfl,rfl⟩
    |some a=>exact .inr ⟨a,rfl,λj u h=>by simp at h⟩
   .refine .inr ⟨_,bN,λj u h=>?_⟩;rw[zh];rw[ztr,wm]at h;split at h
    .exact hc j u h
    .cases h
  have bg:∀(tail:List Rc)(ba:Option Addr)(m2 c2:Nat)(wz:World),zr4 l x=l.take k++([x]++tail)->Below G.heap.size G wz->m2=tail.length->m2<=1000000->(∀W:World,Below G.heap.size G W->(m2=0/\ba=none)\/∃a',ba=some a'/\∀j u,(tail.flatMap rcs)[j]?=some u->W.cell? (a'.add j)=some u)->∀(u1 u2 u6 u7 u8 u9 u10 u11 N O P Q T U V X Y Z ab ac ad ae af ag ah ai aj ak am an ao aq ar au av aw ax ay az aA aB aC aD aE aF aG aH aI aJ aK aL aM aN aO aP aQ aR aS aT aU:Value),
   Code.wp xt zuU (bodyPost xt Tryz.f55 λe w'=>(∃u,e=.returned u)/\Keep (λk=>k=b) w w'/\Rpf (Nw D w w') w' b ⟨s.id,zr4 l x,s.known,s.next⟩) ⟨#[.pointer (some ⟨b,0,none⟩),u1,u2,.pointer (some ⟨w.heap.size,0,none⟩),.int .i64 k,.slice ba m2 c2,u6,u7,u8,u9,u10,u11,N,O,P,Q,T,U,V,X,Y,Z,ab,ac,ad,ae,af,ag,ah,ai,aj,ak,am,an,ao,aq,ar,au,av,aw,ax,ay,az,aA,aB,aC,aD,aE,aF,aG,aH,aI,aJ,aK,aL,aM,aN,aO,aP,aQ,aR,aS,aT,aU],[]⟩ wz:=by
   intro tail ba m2 c2 wz bO M bB hm bM u1 u2 u6 u7 u8 u9 u10 u11 N O P Q T U V X Y Z ab ac ad ae af ag ah ai aj ak am an ao aq ar au av aw ax ay az aA aB aC aD aE aF aG aH aI aJ aK aL aM aN aO aP aQ aR aS aT aU;have hzs:=M.size;have bP:=(M.block w.heap.size a9).trans bI.o;have bK:=(M.block b a9).trans bG.o;refine zwS (x:=x) (xs1:=(l.take k).flatMap rcs) (xs2:=tail.flatMap rcs) bK bP hk bn hl hm (by rw[zs1,Wb,<-HN.o];omega) (by rw[zs1,bB]) zs3 zs3 (λW I=>bH.o W (M.trans (I.mono hzs))) (λW I=>bM W (M.trans (I.mono hzs))) ?_ u1 u2 u6 u7 u8 u9 u10 u11 N O P Q T U V X Y Z ab ac ad ae af ag ah ai aj ak am an ao aq ar au av aw ax ay az aA aB aC aD aE aF aG aH aI aJ aK aL aM aN aO aP aQ aR aS aT aU;intro a v W ho I;refine bodyPost_end (tJ rfl _ _ _) rfl ?_;have bE:=bh.o.trans ((M.trans (I.mono hzs)).mono a9);have bz:Keep (λk=>k=b) w (W.setCell ⟨b,1,none⟩ v):=(Keep.of_below' (S:=λk=>k=b) bE (Zp _)).setCell (p:=⟨b,1,none⟩) (λ_=>rfl) _;have bC:OwnL 80 wz.heap.size W v (zr4 l x):=by rw[bO];unfold OwnL;have e1:(l.take k++([x]++tail)).length=0+k+1+m2:=(by simp only[wi,Wb,uW];rw[bB,<-HN.o];omega);have e2:(l.take k++([x]++tail)).flatMap rcs=[]++(l.take k).flatMap rcs++rcs x++tail.flatMap rcs:=(by simp[Wj,We]);rw[e1,e2];exact ho
   obtain⟨a2,c3,rfl⟩:=bC.val;have hD:∀{v:Value}{p:PV},Dat D w v p->Dat (Nw D w (W.setCell ⟨b,1,none⟩ (.slice a2 (zr4 l x).length c3))) (W.setCell ⟨b,1,none⟩ (.slice a2 (zr4 l x).length c3)) v p:=λh=>h.mono (λ_ _ h=>.inl h) λb' o x' hd bp=>bz.cell_some bp λe=>bJ o (e▸hd);refine⟨⟨_,rfl⟩,bz,a2,c3,ka,kc,?_,?_,hD H3.o⟩
   .refine zsw ((bE.block b bt).trans H1.o) 1 _
   .refine(bC.dat (D:=λb' o=>wz.heap.size<=b'/\b'<W.heap.size) λb' o h1 h2=>⟨h1,h2⟩).mono (λb' o h=>.inr ⟨a9,dL h.2⟩) λb' o x' hd bp=>?_;exact(tk (a:=⟨b',o,none⟩) (tv _ _ _ _ (by show b'≠b;omega))).trans bp
  have J:=qL bg;have d1:wr.cell? ⟨b,1,none⟩=some (.slice ra n rc):=(tk (a:=⟨b,1,none⟩) (H.block b a9)).trans c1;have y0:wr.cell? ⟨w.heap.size,0,none⟩=some (.int .u64 x.item):=(tk (a:=⟨w.heap.size,0,none⟩) (H.block w.heap.size a9)).trans x0;have bW:=qL bl;clear aV hj H bg bl;by_cases aW:k<n
  .have A:k<l.length:=(by rw[<-HN.o];exact aW);rw[uo A]at F;obtain⟨g,B,rfl,hc⟩:=(K.o wr E.o).resolve_left (λe=>by rw[e]at A;simp at A);obtain⟨y,hy⟩:=xm (l[k]);have bQ:wr.cell? ⟨g,B+k*4,none⟩=some (.int .u64 y.item):=hc (k*4) _ (by rw[show k*4=k*4+0 by omega,zsD A a9,<-hy];rfl);have bY:¬(rc=k):=a9;have ce:0<n-k:=a9;have bT:1<=n-k:=a9;have bU:n-k<=rc-k:=a9;have bw:∀q,(l.drop q).length=n-q:=λq=>(by rw[W7,<-HN.o]);have bu:∀(q:Nat)(W:World),Below G.heap.size G W->∀j u,((l.drop q).flatMap rcs)[j]?=some u->W.cell? ⟨g,B+q*4+j,none⟩=some u:=λq W I j u hu=>(by obtain⟨g',bF,e,hc⟩:=(K.o W I).resolve_left (λe=>by rw[e]at A;simp at A);obtain⟨rfl,rfl⟩:g=g'/\B=bF:=(dL e);rw[ztq,Wi]at hu;rw[Wy];exact hc _ u hu);rw[<-hy]at F;have br:=qL bu;have aZ:=qL bw;clear hc hy bu bw;by_cases h3:y.item=x.item
   .rw[vj h3]at F;have L:=qL F;clear F;by_cases bX:rc-k=1
    .go_wp2_with fail
     go_region
     go_wp2_with fail
     refine J.o (l.drop (k+1)) _ _ _ _ L.o E.o.drew (by rw[aZ.o];omega) a9 (λW I=>.inr ⟨_,rfl,λj u h=>?_⟩) _ _ _ _ _ _ _ _ _ _ _ _ _ _ _ _ _ _ _ _ _ _ _ _ _ _ _ _ _ _ _ _ _ _ _ _ _ _ _ _ _ _ _ _ _ _ _ _ _ _ _ _ _ _ _ _ _ _ _ _;have h0:l.drop (k+1)=[]:=wV.1 (by rw[aZ.o];omega);rw[h0]at h;simp at h
    .go_wp2_with fail
     go_region
     go_wp2_with fail
     refine J.o (l.drop (k+1)) _ _ _ _ L.o E.o.drew (by rw[aZ.o];omega) a9 (λW I=>.inr ⟨_,rfl,λj u h=>?_⟩) _ _ _ _ _ _ _ _ _ _ _ _ _ _ _ _ _ _ _ _ _ _ _ _ _ _ _ _ _ _ _ _ _ _ _ _ _ _ _ _ _ _ _ _ _ _ _ _ _ _ _ _ _ _ _ _ _ _ _ _;rw[zh,show B+k*4+4+j=B+(k+1)*4+j by omega];exact br.o _ W I j u h
   .rw[vD h3]at F;have L:=qL F;clear F
    go_wp2_with fail
    go_region
    go_wp2_with fail
    refine J.o (l.drop k) _ _ _ _ L.o E.o.drew (by rw[aZ.o]) a9 (λW I=>.inr ⟨_,rfl,λj u h=>?_⟩) _ _ _ _ _ _ _ _ _ _ _ _ _ _ _ _ _ _ _ _ _ _ _ _ _ _ _ _ _ _ _ _ _ _ _ _ _ _ _ _ _ _ _ _ _ _ _ _ _ _ _ _ _ _ _ _ _ _ _ _;rw[zh];exact br.o _ W I j u h
  .obtain rfl:k=n:=a9;rw[UI (by rw[<-HN.o];omega)]at F;have L:=qL F;clear F;by_cases bZ:rc=k
   .go_wp2_with fail
    go_region
    go_wp2_with fail
    refine J.o [] _ _ _ _ L.o E.o.drew rfl b7 (λW I=>?_) _ _ _ _ _ _ _ _ _ _ _ _ _ _ _ _ _ _ _ _ _ _ _ _ _ _ _ _ _ _ _ _ _ _ _ _ _ _ _ _ _ _ _ _ _ _ _ _ _ _ _ _ _ _ _ _ _ _ _ _;cases ra with
    |none=>exact .inl ⟨rfl,rfl⟩
    |some a=>exact .inr ⟨a,rfl,λj u h=>by simp at h⟩
   .go_wp2_with fail
    go_region
    go_wp2_with fail
    refine J.o [] _ _ _ _ L.o E.o.drew rfl b7 (λW I=>?_) _ _ _ _ _ _ _ _ _ _ _ _ _ _ _ _ _ _ _ _ _ _ _ _ _ _ _ _ _ _ _ _ _ _ _ _ _ _ _ _ _ _ _ _ _ _ _ _ _ _ _ _ _ _ _ _ _ _ _ _;cases ra with
    |none=>exact .inl ⟨rfl,rfl⟩
    |some a=>exact .inr ⟨_,rfl,λj u h=>by simp at h⟩
 clear hKx;go_loopg [4] n (λg y wr=>Below G.heap.size G wr/\∃k,k<=n/\g=n-k/\y=.int .i64 k/\∀j,(h:j<l.length)->j<k->l[j].item<x.item);case atStart=>exact⟨tq _ _,0,X4 _,rfl,rfl,λj _ h=>absurd h a9⟩
 case round=>
  obtain⟨H,k,hk,rfl,rfl,hj⟩:=hrel;have HX:=qL hX;have HJ:=qL hj;have E:=qL H;have d1:wr.cell? ⟨b,1,none⟩=some (.slice ra n rc):=(tk (a:=⟨b,1,none⟩) (H.block b a9)).trans c1;have y0:wr.cell? ⟨w.heap.size,0,none⟩=some (.int .u64 x.item):=(tk (a:=⟨w.heap.size,0,none⟩) (H.block w.heap.size a9)).trans x0;clear hj H hX;by_cases aW:k<n
  .have A:k<l.length:=(by rw[<-HN.o];exact aW);obtain⟨g,B,rfl,C⟩:=be.o (λe=>by rw[e]at A;simp at A);obtain⟨y,hy⟩:=xm (l[k]);have hg:=C (k*4) _ (by rw[show k*4=k*4+0 by omega,zsD A a9];rfl);have bQ:wr.cell? ⟨g,B+k*4,none⟩=some (.int .u64 y.item):=(by have bj:=HG.o.2 g _ hg.1;rw[hy];exact(tk (a:=⟨g,B+k*4,none⟩) ((E.o.block g a9).trans (bh.o.block g bj))).trans hg.2);have HY:=qL hy;clear hy hg C;by_cases h2:y.item<x.item
   .go_wp2_with fail
    go_region
    go_wp2_with fail
    go_roundg (n-(k+1));case measure=>omega
    case rel=>
     refine⟨E.o.drew,k+1,aW,rfl,b7,λj bL cb=>?_⟩;rcases wK j k with h3|h3
     .exact HJ.o j bL h3
     .obtain rfl:j=k:=a9;rw[<-HY.o];exact h2
   .go_wp2_with fail
    go_region
    go_wp2_with fail
    exact HX.o k _ _ _ _ _ _ _ _ _ _ _ _ _ _ _ _ _ _ _ _ _ _ _ _ _ _ _ _ _ _ _ _ _ _ _ _ _ _ _ _ _ _ _ _ _ _ _ _ _ _ _ _ _ _ _ _ _ _ _ _ _ _ E.o.drew hk HJ.o λh=>by rw[<-HY.o];exact h2
  .go_wp2_with fail
   go_region
   go_wp2_with fail
   exact HX.o k _ _ _ _ _ _ _ _ _ _ _ _ _ _ _ _ _ _ _ _ _ _ _ _ _ _ _ _ _ _ _ _ _ _ _ _ _ _ _ _ _ _ _ _ _ _ _ _ _ _ _ _ _ _ _ _ _ _ _ _ _ _ E.o.drew hk HJ.o λh=>absurd (by rw[HN.o];exact h) aW
def Db(D:xT)(b:Nat):Nat->Nat->Prop:=λj o=>D j o\/j=b
def Gd.db{D:xT}{w:World}{b:Nat}(h:Gd D w)(hb:b<w.heap.size):Gd (Db D b) w:=⟨h.1.mono (λ_ _ h=>.inl h) λ_ _ _ _ h=>h,λj o u=>u.elim (h.2 j o) λe=>e▸hb⟩
def Rpf.cp{D:xT}{w:World}{b:Nat}{s:Rs}(h:Rpf D w b s):Dat (Db D b) w (.pointer (some ⟨b,0,none⟩)) (.cp (rfc s) 0):=by
 obtain⟨ra,F,ka,E,u,y,A⟩:=h;refine .cp b 0 (rfc s) 0 (λj=>#[.int .u64 s.id,.slice ra s.recs.length F,.slice ka s.known.length E,.int .u64 s.next,.bool false].getD j undef) (λj B=>?_) λj q o=>?_
 .have hb:=λj x C=>(zW u j x C).1;rw[wk];match j,B with
  |0,_=>exact⟨.inr rfl,hb 0 _ rfl,rfl⟩
  |1,_=>exact⟨.inr rfl,hb 1 _ rfl,rfl⟩
  |2,_=>exact⟨.inr rfl,hb 2 _ rfl,rfl⟩
  |3,_=>exact⟨.inr rfl,hb 3 _ rfl,rfl⟩
  |4,_=>exact⟨.inr rfl,hb 4 _ rfl,rfl⟩
 .match j,o with
  |0,o=>cases o;exact .v _
  |1,o=>cases o;exact y.mono (λ_ _ h=>.inl h) λ_ _ _ _ h=>h
  |2,o=>cases o;exact A.mono (λ_ _ h=>.inl h) λ_ _ _ _ h=>h
  |3,o=>cases o;exact .v _
  |4,o=>cases o;exact .v _
def Rpf.lt{D:xT}{w:World}{b:Nat}{s:Rs}(h:Rpf D w b s):b<w.heap.size:=(XE.1 h.choose_spec.choose_spec.choose_spec.choose_spec.1).1
def ztJ{D:xT}{w:World}{b:Nat}{s:Rs}{i:Nat}(u:Rpf D w b s)(y:Gd D w)(A:s.recs.length<=1000000):Calls xt 53 #[.pointer (some ⟨b,0,none⟩),.int .u64 (i:Nat)] w λe B=>e=.returned (.int .i64 (ixR s.recs i 0))/\Below w.heap.size w B:=
 zsI (zuQ s i A) (y.db u.lt) rfl λj p o=>by
  match j,o with
  |0,o=>cases o;exact u.cp
  |1,o=>cases o;exact .v _
  |j+2,o=>simp at o
def zvD(w:World):Calls xt 54 #[] w λe j=>e=.returned (.int .u64 18446744073709551615)/\j=w:=by
 go_enter func54,ntmps54
 go_wp2;go_ret;exact⟨rfl,rfl⟩
def ztj:∀(l:List Rc)(i:Nat)(n:Int),(zrZ l i=none/\ixR l i n=-1)\/∃j,∃h:j<l.length,zrZ l i=some l[j]/\ixR l i n=n+(j:Nat)
 |[],i,n=>.inl ⟨rfl,rfl⟩
 | x::l,i,n=>by
   rw[zrf];unfold ixR;by_cases h:x.item=i
   .exact .inr ⟨0,b7,by simp[h],by simp[h]⟩
   .rw[vD h,vD h];rcases ztj l i (n+1)with o|⟨j,w,o,u⟩
    .exact .inl o
    .exact .inr ⟨j+1,dL w,o,by rw[u];omega⟩
def zsM{D:xT}{w:World}{v:Value}{k:List Fg}(h:Dat D w v (kp k)):∃a c,v=.slice a k.length c:=by obtain⟨⟨a,n,c⟩,e,j⟩:=kH h;rw[wt]at j;simp only at j;subst j;exact⟨a,c,e⟩
def zuR{C:Qk}{R E I:List Nat}{D:xT}{w:World}{x:Value}{k:List Fg}(e:Env25 C R E I)(hk:Ke C R E k){i r c:Nat}(hi:i∈I)(H:r<zk)(F:r∈R)(G:c<=25)(A:Gd D w)(d:Dat D w x (kp k)):
 Calls xt 56 #[x,.int .u64 (i:Nat),.int .u64 (r:Nat),.int .u64 (c:Nat)] w λe y=>∃a u,e=.returned (.slice a (vh zn k (znP i r c)).length u)/\Below w.heap.size w y/\Dat (Nw D w y) y (.slice a (vh zn k (znP i r c)).length u) (kp (vh zn k (znP i r c))):=by
 refine(jP (zqd k i r c (by have:=zw;omega) hk.kn (ztd e hi H F G).kn e.ok (by have:=e.e;omega)) A.1 A.2 rfl λj p o=>?_).mono ?_
 .match j,o with
  |0,o=>cases o;exact d
  |1,o=>cases o;exact .v _
  |2,o=>cases o;exact .v _
  |3,o=>cases o;exact .v _
  |j+4,o=>simp at o
 .rintro e y ⟨v,rfl,hb,B⟩;obtain⟨a,u,rfl⟩:=zsM B;exact⟨a,u,rfl,hb,B⟩
def zuS{C:Qk}{R E I:List Nat}{n b i:Nat}{D:xT}{w:World}{s:Rs}{v:ByteArray}(e:Env25 C R E I)(h:Ok25 C R E I n s)(hn:n<=25)(hi:i∈I)(hR:Rpf D w b s)(hG:Gd D w)(aA:∀o,¬D b o):
 Calls xt 23 #[.pointer (some ⟨b,0,none⟩),.int .u64 (i:Nat),.string v] w λe w'=>e=.returned (.tuple #[rcv (ztL s i v),.bool true])/\Keep (λk=>k=b) w w'/\Rpf (Nw D w w') w' b (ztM s i v):=by
 have hM:=zw;have cc:=(e.m i hi).1;have aX:s.recs.length<=25:=h.len e;obtain⟨ra,rc,ka,kc,J,V,h3⟩:=id hR;obtain⟨bQ,bR,aY,bK,cf,aw⟩:=zsZ V;obtain⟨rfl,rfl⟩:ra=bQ/\rc=bR:=dL aY
 have bW:=(XE.1 J).1;obtain⟨c,O⟩:=xm (zsq s i);have bY:c<=n:=by rw[O];exact h.ctr i
 have H:∀W,Below w.heap.size w W->Rpf D W b s/\Gd D W:=λW hW=>⟨hR.keep (Keep.of_below' (S:=qe) hW (Zp _)) id λb o h=>⟨h,id⟩,hG.keep (Keep.of_below' (S:=qe) hW (Zp _)) λ_ _ _=>id⟩;have af:=λW (hW:Below w.heap.size w W)=>ztJ (i:=i) (H W hW).1 (H W hW).2 a9;have T:=λW (hW:Below w.heap.size w W)=>ztK (x:=ztL s i v) (H W hW).1 (H W hW).2 aA a9;obtain⟨nx,aI⟩:=xm (s.next);obtain⟨l,hl⟩:=xm (s.recs.length);obtain⟨ix,aC⟩:=xm (ixR s.recs i 0);have aB:(ix=-1/\c=nx)\/∃(j:Nat) (y:Rc) (g L:Nat),ix=(j:Nat)/\j<l/\ra=some ⟨g,L,none⟩/\D g (L+(j*4+2))/\w.cell? ⟨g,L+j*4+2,none⟩=some (.int .u64 y.ctr)/\y.ctr<25/\((y.ctr<nx/\c=nx)\/(nx<=y.ctr/\c=y.ctr+1)):=by
  rw[O,aI,aC,hl];unfold zsq;rcases ztj s.recs i 0 with⟨J,V⟩|⟨j,hj,J,V⟩
  .rw[J,V];exact .inl ⟨rfl,rfl⟩
  .rw[J,V];obtain⟨g,L,bJ,bH⟩:=aw (λe=>by rw[e]at hj;simp at hj);obtain⟨q1,q2⟩:=bH (j*4+2) (.int .u64 s.recs[j].ctr) (by rw[zsD hj a9];rfl);refine .inr ⟨j,s.recs[j],g,L,a9,hj,bJ,q1,by rw[Wy];exact q2,by have:=(h.x _ (Yf hj)).2.2.1;omega,?_⟩;dsimp only;by_cases an:s.next<=s.recs[j].ctr
   .exact .inr ⟨an,by rw[vj an]⟩
   .exact .inl ⟨a9,by rw[vD an]⟩
 have ah:ztL s i v=⟨i,s.id,c,v⟩:=by unfold ztL;rw[<-O]
 have ao:ztM s i v=⟨s.id,zr4 s.recs ⟨i,s.id,c,v⟩,vh zn s.known (znP i s.id c),c+1⟩:=by unfold ztM;rw[ah,<-O]
 obtain⟨kr,aF⟩:=xm (vh zn s.known (znP i s.id c));obtain⟨sr,aJ⟩:=xm (zr4 s.recs ⟨i,s.id,c,v⟩);rw[<-aF,<-aJ]at ao;rw[ah,<-aJ]at T;rw[<-aC]at af;obtain⟨F,P⟩:∃q,q=s.id:=⟨_,rfl⟩;have av:∀w0 W' x,Gd (Nw D w0 W') W'->Dat (Nw D w0 W') W' x (kp s.known)->Calls xt 56 #[x,.int .u64 (i:Nat),.int .u64 (F:Nat),.int .u64 (c:Nat)] W' λe w'=>∃a c',e=.returned (.slice a kr.length c')/\Below W'.heap.size W' w'/\Dat (Nw (Nw D w0 W') W' w') w' (.slice a kr.length c') (kp kr):=λw0 W' x hg hd=>by have:=zuR e h.k hi h.i.1 h.i.2 (c:=c) a9 hg hd;rw[P,aF];exact this
 have c0:w.cell? ⟨b,0,none⟩=some (.int .u64 F):=by rw[P];exact(zW J 0 _ rfl).1
 have c1:w.cell? ⟨b,1,none⟩=some (.slice ra l rc):=by rw[hl];exact(zW J 1 _ rfl).1
 have c3:w.cell? ⟨b,3,none⟩=some (.int .u64 nx):=by rw[aI];exact(zW J 3 _ rfl).1
 have c4:w.cell? ⟨b,4,none⟩=some (.bool false):=(zW J 4 _ rfl).1;rw[<-P]at ah ao T;have ar:=qL af;have aQ:=qL T;have aP:=qL av;have bz:=qL ah;have bA:=qL ao;have HG:=qL hG;have bU:=qL hG.2;rw[<-hl]at bK;have bP:xt.follows .mixedOrders=true:=dM
 clear J V h3 aw aY H af T av ah ao hG hR O aI hl aC h e aF aJ P aX;go_enter func23,ntmps23
 go_wp2_with fail
 obtain⟨w1,ai⟩:=xm (w.alloc (.cells #[.int .u64 0,.int .u64 0,.int .u64 0,.string ⟨#[]⟩] 80));have ax:Below w.heap.size w w1:=by rw[ai];exact(tq _ w).alloc (Zp _) _
 have cg:w1.heap.size=w.heap.size+1:=by rw[ai];exact tu _ _
 have bc:w1.heap[w.heap.size]?=some (.cells #[.int .u64 0,.int .u64 0,.int .u64 0,.string ⟨#[]⟩] 80 (0,0)):=by rw[ai];exact tl w _
 rw[<-ai];clear ai;refine(ar.o w1 ax).mono ?_;rintro e A ⟨rfl,M⟩;have X:=ax.trans (M.mono a9);have ch:=M.size;have be:=(M.block _ a9).trans bc;have d0:A.cell? ⟨b,0,none⟩=some (.int .u64 F):=bc0 X c0;have d1:A.cell? ⟨b,1,none⟩=some (.slice ra l rc):=bc0 X c1;have d3:A.cell? ⟨b,3,none⟩=some (.int .u64 nx):=bc0 X c3;have d4:A.cell? ⟨b,4,none⟩=some (.bool false):=bc0 X c4;have ac:=qL X;have aR:=qL be;clear ax M X bc be ar;have HF:qA (Below w.heap.size w A/\A.heap[w.heap.size]?=some (.cells #[.int .u64 0,.int .u64 0,.int .u64 0,.string ⟨#[]⟩] 80 (0,0))):=qL ⟨ac.o,aR.o⟩;rcases aB with⟨rfl,rfl⟩|⟨j,y,g,L,rfl,hj,rfl,cb,aV,hy,⟨an,rfl⟩|⟨ce,aT⟩⟩;case' inl=>
  go_wp2_with fail
 case' inr.inl=>
  have dy:A.cell? ⟨g,L+j*4+2,none⟩=some (.int .u64 y.ctr):=bc0 ac.o aV;have bI:j<=rc:=a9
  go_wp2_with fail
 case' inr.inr=>
  have bp:=qL aT;clear aT;have dy:A.cell? ⟨g,L+j*4+2,none⟩=some (.int .u64 y.ctr):=bc0 ac.o aV;have bI:j<=rc:=a9
  go_wp2_with fail
 case' inr.inr=>
  have ae:Below A.heap.size A A.drew:=(tq _ _).drew;have aH:¬(y.ctr=18446744073709551615):=a9;refine Kg (Sw:=qe) 11 100 (λw9=>Below A.heap.size A w9/\w9.cell? ⟨b,1,none⟩=some (.slice (some ⟨g,L,none⟩) l rc)/\w9.cell? ⟨g,L+j*4+2,none⟩=some (.int .u64 y.ctr)) dM dM rfl ⟨ae,d1,dy⟩ ?_;simp only[wO,wY];refine Jz ?_;refine V7 (λu _=>u=.int .u64 18446744073709551615) (yj _) rfl ?_ ?_
  .intro a5 B O hk hr K hK;have HK:=qL hK;clear hK;simp[Rds,zA,lk,Op.operands,Call.operands,RdEq]at hr;go_simp;refine(zvD B).mono ?_;rintro e w3 ⟨rfl,rfl⟩;exact HK.o _ _ (Keep.refl _ _) O rfl
  simp only[Y1,yb];refine Jz ?_;intro A G aD;simp only[finG,WQ,Y1,yb,wM,Wh,WR];simp only[Act.put,ww,wR,wS];have HF:qA (Below w.heap.size w A/\A.heap[w.heap.size]?=some (.cells #[.int .u64 0,.int .u64 0,.int .u64 0,.string ⟨#[]⟩] 80 (0,0))):=qL ⟨ac.o.trans (G.1.mono ac.o.size),(G.1.block _ a9).trans aR.o⟩;have d0:A.cell? ⟨b,0,none⟩=some (.int .u64 F):=bc0 HF.o.1 c0;have d1:=G.2.1;have dy:=G.2.2;clear ae G aD
  go_wp2_with fail
  rw[show ((y.ctr:Int)+1)%18446744073709551616=(c:Nat) from by rw[bp.o];omega]
 all_goals
  obtain⟨wq,bO⟩:∃wq,wq=A:=⟨A,rfl⟩;subst bO;obtain⟨wa,ab⟩:=xm (wq.alloc (.cells #[.int .u64 i,.int .u64 F,.int .u64 c,.string v] 80));rw[<-ab];have cj:wa.heap.size=wq.heap.size+1:=(by rw[ab];exact tu _ _);have bg:wa.heap[wq.heap.size]?=some (.cells #[.int .u64 i,.int .u64 F,.int .u64 c,.string v] 80 (0,0)):=(by rw[ab];exact tl wq _);have bM:w.heap.size<wq.heap.size:=(XE.1 HF.o.2).1;have bi:wa.heap[w.heap.size]?=some (.cells #[.int .u64 0,.int .u64 0,.int .u64 0,.string ⟨#[]⟩] 80 (0,0)):=(by rw[ab];exact(tr _ _ _ bM).trans HF.o.2);have ay:Below w.heap.size w wa:=(by rw[ab];exact HF.o.1.alloc HF.o.1.size _);clear ab;refine(aQ.o wa ay).mono ?_;rintro e w3 ⟨⟨u3,rfl⟩,ag,bG⟩;obtain⟨bj,bl,aL,aM,q1,q2,q3⟩:=bG;have aZ:=ag.size;have e0:w3.cell? ⟨b,0,none⟩=some (.int .u64 F):=(zW q1 0 _ rfl).1;have e2:w3.cell? ⟨b,2,none⟩=some (.slice aL s.known.length aM):=(zW q1 2 _ rfl).1;have bB:=qL q1;have bD:=qL (ag.obj bg (by show ¬(wq.heap.size=b);omega));have bF:=qL (ag.obj bi (by show ¬(w.heap.size=b);omega));have aG:Keep (λk=>k=b) w w3:=(Keep.of_below' ay (Zp _)).trans ag;have bC:=qL q2;have aU:=HG.o.keep aG λN o h e=>aA o (e▸h);have br:=qL (λW (hW:Below w3.heap.size w3 W)=>aP.o wa W _ (Gd.new (w:=w) (aU.keep (Keep.of_below' (S:=qe) hW (Zp _)) λ_ _ _=>id) (VS aZ hW.size)) (Nw.dat q3 (Keep.of_below' hW (Zp _))));have bw:=qL aG;have ae:Below w3.heap.size w3 w3.drew:=(tq _ _).drew;clear q1 q2 q3 bg bi ag aG aU ay
  go_wp2_with fail
  refine Kg (Sw:=qe) 14 100 (λw9=>Below w3.heap.size w3 w9/\w9.cell? ⟨b,2,none⟩=some (.slice aL s.known.length aM)/\w9.cell? ⟨b,0,none⟩=some (.int .u64 F)) dM dM rfl ⟨ae,e2,e0⟩ ?_;simp only[wO,wY];refine Jz ?_;refine V7 (SlK D wa kr) SlK.stab rfl ?_ ?_
  .intro a5 B O hk hr K hK;have HK:=qL hK;clear hK;simp[Rds,zA,lk,Op.operands,Call.operands,RdEq]at hr;go_simp;refine(br.o B O.1).mono ?_;rintro e w6 ⟨U,k3,rfl,az,ak⟩;have aE:Keep qe B w6:=Keep.of_below' az (Zp _);exact HK.o _ _ aE ⟨O.1.trans (az.mono O.1.size),aE.cell_some O.2.1 id,aE.cell_some O.2.2 id⟩ ⟨U,k3,rfl,ak.mono (λb o h=>by
    have J:=O.1.size;have h3:=az.size;rcases h with(h|h)|h
    .exact .inl h
    .exact .inr ⟨h.1,a9⟩
    .exact .inr ⟨a9,h.2⟩) λ_ _ _ _ h=>h⟩
  simp only[Y1,yb];refine Jz ?_;intro A G aD;simp only[finG,WQ,Y1,yb,wM,Wh,WR];simp only[Act.put,ww,wR,wS];rintro _ ⟨U,k3,rfl,ak⟩;have M:=(G.1.block b a9).trans bB.o;have f2:A.cell? ⟨b,2,none⟩=some (.slice aL s.known.length aM):=(zW M 2 _ rfl).1;have g2:A.frozen? ⟨b,2,none⟩=false:=(zW M 2 _ rfl).2;have aN:=qL M;have bq:=qL ak;have aO:=qL G.1;have aq:=(G.1.block wq.heap.size a9).trans bD.o;have bh:=(G.1.block w.heap.size a9).trans bF.o;have bL:=G.1.size;clear M ak G aD ae e0 e2
  go_wp2_with fail
  obtain⟨B,Z⟩:=xm (A.setCell ⟨b,2,none⟩ (.slice U kr.length k3));have Y:B.heap[b]?=some (.cells #[.int .u64 F,.slice bj sr.length bl,.slice U kr.length k3,.int .u64 s.next,.bool false] 74 (0,0)):=(by rw[Z];exact zsw aN.o 2 _);have am:∀k,k≠b->B.heap[k]?=A.heap[k]?:=λk J=>(by rw[Z];exact tv _ _ _ _ J);have ci:B.heap.size=A.heap.size:=(by rw[Z];simp);have aK:B.heap[w.heap.size]?=some (.cells #[.int .u64 0,.int .u64 0,.int .u64 0,.string ⟨#[]⟩] 80 (0,0)):=(am _ a9).trans bh;have aj:B.heap[wq.heap.size]?=some (.cells #[.int .u64 i,.int .u64 F,.int .u64 c,.string v] 80 (0,0)):=(am _ a9).trans aq;have bu:qA (Keep (λk=>k=b) w B):=qL (by
   rw[Z];exact(bw.o.trans (Keep.of_below' aO.o (Zp _))).setCell (p:=⟨b,2,none⟩) (λ_=>rfl) _)
  rw[<-Z];have b3:B.cell? ⟨b,3,none⟩=some (.int .u64 s.next):=(zW Y 3 _ rfl).1;have r3:B.frozen? ⟨b,3,none⟩=false:=(zW Y 3 _ rfl).2;have b4:B.cell? ⟨b,4,none⟩=some (.bool false):=(zW Y 4 _ rfl).1;have r4:B.frozen? ⟨b,4,none⟩=false:=(zW Y 4 _ rfl).2;have hz:=λk x h=>zW aK k x h;have n0:B.cell? ⟨w.heap.size,0,none⟩=some (.int .u64 0):=(hz 0 _ rfl).1;have n1:B.cell? ⟨w.heap.size,1,none⟩=some (.int .u64 0):=(hz 1 _ rfl).1;have n2:B.cell? ⟨w.heap.size,2,none⟩=some (.int .u64 0):=(hz 2 _ rfl).1;have n3:B.cell? ⟨w.heap.size,3,none⟩=some (.string ⟨#[]⟩):=(hz 3 _ rfl).1;have m0:B.frozen? ⟨w.heap.size,0,none⟩=false:=(hz 0 _ rfl).2;have m1:B.frozen? ⟨w.heap.size,1,none⟩=false:=(hz 1 _ rfl).2;have m2:B.frozen? ⟨w.heap.size,2,none⟩=false:=(hz 2 _ rfl).2;have m3:B.frozen? ⟨w.heap.size,3,none⟩=false:=(hz 3 _ rfl).2;have p0:B.cell? ⟨wq.heap.size,0,none⟩=some (.int .u64 i):=(zW aj 0 _ rfl).1;have p1:B.cell? ⟨wq.heap.size,1,none⟩=some (.int .u64 F):=(zW aj 1 _ rfl).1;have p2:B.cell? ⟨wq.heap.size,2,none⟩=some (.int .u64 c):=(zW aj 2 _ rfl).1;have p3:B.cell? ⟨wq.heap.size,3,none⟩=some (.string v):=(zW aj 3 _ rfl).1;have bT:wq.heap.size≠w.heap.size:=a9;have ad:b≠w.heap.size:=a9;have bS:b≠wq.heap.size:=a9;have bX:((c:Int) == 18446744073709551615)=false:=b6;have bn:=qL Y;have bE:=qL aK;have bt:=qL am;clear Z Y am aK aj hz f2 g2 aq bh
  go_wp2_with (go_at_call 54;refine(zvD _).mono ?_;rintro e w6 ⟨rfl,rfl⟩)
  have aq:∀x y:Value,((w6.setCell ⟨b,4,none⟩ x).setCell ⟨b,3,none⟩ y).heap[w.heap.size]?=some (.cells #[.int .u64 0,.int .u64 0,.int .u64 0,.string ⟨#[]⟩] 80 (0,0)):=λx y=>(tv _ _ _ _ (Uk ad)).trans ((tv _ _ _ _ (Uk ad)).trans bE.o);refine tx (zs4 (cs:=#[.int .u64 i,.int .u64 F,.int .u64 c,.string v]) rfl rfl (by simpa using zsw (zsw (zsw (zsw (aq _ _) 0 _) 1 _) 2 _) 3 _) underlying80 dM) rfl ?_;have Q:¬(w.heap.size<w.heap.size):=tg _;have aW:∀x y a1 a2 U a4:Value,Keep (λk=>k=b) w ((((((w6.setCell ⟨b,4,none⟩ x).setCell ⟨b,3,none⟩ y).setCell ⟨w.heap.size,0,none⟩ a1).setCell ⟨w.heap.size,1,none⟩ a2).setCell ⟨w.heap.size,2,none⟩ U).setCell ⟨w.heap.size,3,none⟩ a4):=λx y a1 a2 U a4=>
   (((((bu.o.setCell (p:=⟨b,4,none⟩) (λ_=>rfl) x).setCell (p:=⟨b,3,none⟩) (λ_=>rfl) y).setCell (p:=⟨w.heap.size,0,none⟩) (λh=>absurd h Q) a1).setCell (p:=⟨w.heap.size,1,none⟩) (λh=>absurd h Q) a2).setCell (p:=⟨w.heap.size,2,none⟩) (λh=>absurd h Q) U).setCell (p:=⟨w.heap.size,3,none⟩) (λh=>absurd h Q) a4
  have bZ:=(aW (.bool false) (.int .u64 ((c+1)%18446744073709551616)) (.int .u64 i) (.int .u64 F) (.int .u64 c) (.string v)).size;refine⟨by rw[bz.o];rfl,aW _ _ _ _ _ _,?_⟩;rw[bA.o];have ba:∀(W:World)(k:Nat),k≠w.heap.size->∀a1 a2 U a4:Value,((((W.setCell ⟨w.heap.size,0,none⟩ a1).setCell ⟨w.heap.size,1,none⟩ a2).setCell ⟨w.heap.size,2,none⟩ U).setCell ⟨w.heap.size,3,none⟩ a4).heap[k]?=W.heap[k]?:=λW k hk _ _ _ _=>(tv _ _ _ _ hk).trans ((tv _ _ _ _ hk).trans ((tv _ _ _ _ hk).trans (tv _ _ _ _ hk)));have bN:∀k,k≠b->∀x y:Value,((w6.setCell ⟨b,4,none⟩ x).setCell ⟨b,3,none⟩ y).heap[k]?=w6.heap[k]?:=λk hk _ _=>(tv _ _ _ _ hk).trans (tv _ _ _ _ hk);have au:∀{u:Value}{p:PV}{k:World},wa.heap.size<=k.heap.size->k.heap.size<=A.heap.size->(∀N o x,Nw D wa k N o->k.cell? ⟨N,o,none⟩=some x->A.cell? ⟨N,o,none⟩=some x)->Dat (Nw D wa k) k u p->∀Wf:World,A.heap.size<=Wf.heap.size->(∀q,q≠b->q≠w.heap.size->Wf.heap[q]?=A.heap[q]?)->Dat (Nw D w Wf) Wf u p:=λJ V h3 hd Wf hf hq=>hd.mono (λN o h=>h.imp id λh=>⟨a9,a9⟩) λN o x h hx=>by
   have aH:N≠b/\N≠w.heap.size:=by
    rcases h with h|h
    .have:=HG.o.2 N o h;exact⟨λe=>aA o (e▸h),a9⟩
    .exact⟨a9,a9⟩
   exact(tk (a:=⟨N,o,none⟩) (hq N aH.1 aH.2)).trans (h3 N o x h hx)
  have aS:∀(q:Nat),q≠b->q≠w.heap.size->∀x y a1 a2 U a4:Value,((((((w6.setCell ⟨b,4,none⟩ x).setCell ⟨b,3,none⟩ y).setCell ⟨w.heap.size,0,none⟩ a1).setCell ⟨w.heap.size,1,none⟩ a2).setCell ⟨w.heap.size,2,none⟩ U).setCell ⟨w.heap.size,3,none⟩ a4).heap[q]?=A.heap[q]?:=λq J V _ _ _ _ _ _=>(ba _ q V _ _ _ _).trans ((bN q J _ _).trans (bt.o q J));refine⟨bj,bl,U,k3,?_,au aZ bL (λN o x h hx=>(tk (a:=⟨N,o,none⟩) (aO.o.block N (tn w3 ⟨N,o,none⟩ hx))).trans hx) bC.o _ b6 λq J V=>aS q J V _ _ _ _ _ _,au a9 (Zp _) (λ_ _ _ _ h=>h) bq.o _ b6 λq J V=>aS q J V _ _ _ _ _ _⟩;refine(ba _ b ad _ _ _ _).trans ?_;have:=zsw (zsw bn.o 4 (.bool false)) 3 (.int .u64 ((c+1:Nat):Int));rw[show (((c:Nat):Int)+1)%18446744073709551616=((c+1:Nat):Int) from by omega];simpa using this
def zv0{w:World}{c g o:Nat}{l:List Rc}{C G:Int}{E F:Value}{t:TypeId}(B:l≠[])(y:w.heap[c]?=some (.cells #[.int .u64 C,E,F,.int .u64 G,.bool false] t (0,0)))(A:∀i u,(l.flatMap rcs)[i]?=some u->w.cell? ⟨g,o+i,none⟩=some u):g≠c:=by
 rintro rfl;match l,B with
 | x::l,_=>
   have j:=A 3 (.string x.val) rfl;match o,j with
   |0,j=>have:=(zW y 3 _ rfl).1;rw[wk,this]at j;cases j
   |1,j=>have:=(zW y 4 _ rfl).1;rw[this]at j;cases j
   |o+2,j=>simp[World.cell?,y]at j
def ztA{C:Qk}{R E I:List Nat}{n b:Nat}{D:xT}{w:World}{s:Rs}{k:List Fg}{items:List Iv}{x y:Value}(e:Env25 C R E I)(h:Ok25 C R E I n s)(N:n<=26)(A:Rpf D w b s)(B:Gd D w)(J:RightK k)(hz:QW k)(G:Dat D w x (kp k))(hi:Nrm items)(H:items.length<=1000)(d:Dat D w y (rg items)):
 Calls xt 59 #[.pointer (some ⟨b,0,none⟩),x,y] w λe u=>∃a c,e=.returned (.slice a (zs0 s k items).length c)/\Below w.heap.size w u/\Dat (Nw (Db D b) w u) u (.slice a (zs0 s k items).length c) (lp (zs0 s k items)):=by
 have L:=zw;have M:=h.len e;refine(jP (ztz s k items a9 (λx K=>by have:=(h.x x K).2.2.1;omega) hi a9 J hz) (B.db A.lt).1 (B.db A.lt).2 rfl λj p o=>?_).mono ?_
 .match j,o with
  |0,o=>cases o;exact A.cp
  |1,o=>cases o;exact G.mono (λ_ _ h=>.inl h) λ_ _ _ _ h=>h
  |2,o=>cases o;exact d.mono (λ_ _ h=>.inl h) λ_ _ _ _ h=>h
  |j+3,o=>simp at o
 .rintro e u ⟨v,rfl,hb,F⟩;obtain⟨a,c,rfl,_⟩:=zsZ F;exact⟨a,c,rfl,hb,F⟩
def zun{C:Qk}{R E I:List Nat}{D:xT}{w:World}{x y:Value}{k:List Fg}{items:List Iv}(e:Env25 C R E I)(hk:Ke C R E k)(hi:Nrm items)(F:∀x,Ed items x->x∈E)(G:items.length<=10)(u:Gd D w)(d:Dat D w x (kp k))(B:Dat D w y (rg items)):
 Calls xt 62 #[x,y] w λe o=>∃a j,e=.returned (.slice a (znF k items).length j)/\Below w.heap.size w o/\Dat (Nw D w o) o (.slice a (znF k items).length j) (kp (znF k items)):=by
 refine(jP (zqQ k items hk.kn hi a9 (zsR hk e hi F G).2 e.ok (by have:=e.e;omega) a9) u.1 u.2 rfl (zuw d B)).mono ?_;rintro e o ⟨v,rfl,hb,A⟩;obtain⟨a,j,rfl⟩:=zsM A;exact⟨a,j,rfl,hb,A⟩
def zvn{C:Qk}{R E I:List Nat}{D:xT}{w:World}{x y:Value}{a b:List Fg}(e:Env25 C R E I)(H:Ke C R E a)(hb:Ke C R E b)(B:Gd D w)(d:Dat D w x (kp a))(G:Dat D w y (kp b)):
 Calls xt 61 #[x,y,.int .i64 0] w λe A=>∃p u,e=.returned (.slice p (vh zn a b).length u)/\Below w.heap.size w A/\Dat (Nw D w A) A (.slice p (vh zn a b).length u) (kp (vh zn a b)):=by
 refine(jP (YG a b 0 a9 H.kn hb.kn e.ok (by have:=e.e;omega)) B.1 B.2 rfl λj p o=>?_).mono ?_
 .match j,o with
  |0,o=>cases o;exact d
  |1,o=>cases o;exact G
  |2,o=>cases o;exact .v _
  |j+3,o=>simp at o
 .rintro e A ⟨v,rfl,hb,F⟩;obtain⟨a,u,rfl⟩:=zsM F;exact⟨a,u,rfl,hb,F⟩
def ztY(x y:Rc){D:xT}{w:World}(j:Gd D w):Calls xt 60 #[rcv x,rcv y] w λe o=>e=.returned (.bool (zs7 x y))/\Below w.heap.size w o:=
 zsI (ztX x y) j rfl (zuw (ztb x) (ztb y))
def zus(l:List Rc)(x:Rc):(zse l x).length<=l.length+1:=by
 have:=ztN l x;unfold zse;split
 .split
  .exact this
  .omega
 .exact this
def zts:∀(m l:List Rc),(m.foldl zse l).length<=l.length+m.length
 |[],l=>Zp _
 |x::m,l=>by have j:=zts m (zse l x);have o:=zus l x;simp only[WH,wn];omega
def Rpf.sub{D j:xT}{w:World}{b:Nat}{s:Rs}(h:Rpf D w b s)(u:∀b o,D b o->j b o):Rpf j w b s:=h.keep (Keep.refl qe w) id λb o h=>⟨u b o h,id⟩
def zuo{C:Qk}{R E I:List Nat}{n b c:Nat}{D:xT}{w:World}{s f:Rs}{items:List Iv}{ia:Option Addr}{ic:Nat}(e:Env25 C R E I)(h:Ok25 C R E I n s)(hf:Ok25 C R E I n f)(hn:n<=26)(hR:Rpf D w b s)(hF:Rpf D w c f)(bu:c=b->f=s)(hG:Gd D w)(O:∀o,¬D b o)(hi:Nrm items)(hE:∀x,Ed items x->x∈E)(bB:items.length<=10)(d:Dat D w (.slice ia items.length ic) (rg items)):
 Calls xt 27 #[.pointer (some ⟨b,0,none⟩),.pointer (some ⟨c,0,none⟩),.slice ia items.length ic] w λe Y=>e=.returned (.int .i64 (zs0 f s.known items).length)/\Keep (λk=>k=b) w Y/\Rpf (Nw D w Y) Y b (ztt s f items):=by
 have hM:=zw;obtain⟨ra,rc,ka,kc,h1,h2,h3⟩:=id hR;have cr:=(XE.1 h1).1;have bW:=hF.lt;have b2:w.cell? ⟨b,2,none⟩=some (.slice ka s.known.length kc):=(zW h1 2 _ rfl).1;have aC:=qL (ztA e hf hn hF hG h.k.r (h.k.zz e) h3 hi a9 d);have bG:(zs0 f s.known items).length<=25:=VS (WC _ _) (hf.len e);have be:∀x∈zs0 f s.known items,x.item<zk:=λx Q=>(e.m _ (hf.x x (Wq.1 Q).1).1).1;have bD:Ke C R E (znF f.known items):=(zsR hf.k e hi hE bB).1;have ac:∀(w1:World)(a1:Option Addr)(c1:Nat),Below w.heap.size w w1->Dat (Nw (Db D c) w w1) w1 (.slice a1 (zs0 f s.known items).length c1) (lp (zs0 f s.known items))->zs0 f s.known items≠[]->∃g G,a1=some ⟨g,G,none⟩/\g≠b/\∀i u,((zs0 f s.known items).flatMap rcs)[i]?=some u->w1.cell? ⟨g,G+i,none⟩=some u:=λw1 a1 c1 hb hd av=>by
  obtain⟨a,c',ev,_,_,hr⟩:=zsZ hd;obtain⟨rfl,_⟩:a1=a/\c1=c':=(dL ev);obtain⟨g,G,rfl,F⟩:=hr av;refine⟨g,G,rfl,?_,λi u hu=>(F i u hu).2⟩;obtain⟨fa,fc,ga,gc,f1,_,_⟩:=hF;have bZ:g≠c:=zv0 av ((hb.block c bW).trans f1) λi u hu=>(F i u hu).2;obtain⟨u,hu⟩:∃u,((zs0 f s.known items).flatMap rcs)[0]?=some u:=by
   match hm:zs0 f s.known items,av with
   |x::l,_=>exact⟨_,rfl⟩
  rcases (F 0 u hu).1 with(h|h)|h
  .exact λe=>O _ (e▸h)
  .exact absurd h bZ
  .omega
 have bA:∀wr,Keep (λk=>k=b) w wr->∀l,Rpf (Nw D w wr) wr b ⟨s.id,l,s.known,s.next⟩->∃fa fc,wr.cell? ⟨c,2,none⟩=some (.slice fa f.known.length fc)/\Dat (Nw D w wr) wr (.slice fa f.known.length fc) (kp f.known):=λwr hk l hr=>by
  by_cases F:c=b
  .obtain⟨_,_,ga,gc,q1,_,q3⟩:=hr;rw[bu F,F];exact⟨ga,gc,(zW q1 2 _ rfl).1,q3⟩
  .obtain⟨_,_,ga,gc,q1,_,q3⟩:=hF;exact⟨ga,gc,hk.cell_some (zW q1 2 _ rfl).1 F,q3.mono (λ_ _ h=>.inl h) λH o x h Q=>hk.cell_some Q λe=>O o (e▸h)⟩
 have aZ:∀W,Keep (λk=>k=b) w W->∀x,Dat (Nw D w W) W x (kp f.known)->Calls xt 62 #[x,.slice ia items.length ic] W λe Y=>∃a c',e=.returned (.slice a (znF f.known items).length c')/\Below W.heap.size W Y/\Dat (Nw (Nw D w W) W Y) Y (.slice a (znF f.known items).length c') (kp (znF f.known items)):=λW hk x Q=>
  zun e hf.k hi hE bB (Gd.new (w:=w) (hG.keep hk λH o h e=>O o (e▸h)) hk.size) Q (d.mono (λ_ _ h=>.inl h) λH o x h Q=>hk.cell_some Q λe=>O o (e▸h))
 have aF:∀W,Keep (λk=>k=b) w W->∀x y,Dat (Nw D w W) W x (kp s.known)->Dat (Nw D w W) W y (kp (znF f.known items))->Calls xt 61 #[x,y,.int .i64 0] W λe Y=>∃a c',e=.returned (.slice a (vh zn s.known (znF f.known items)).length c')/\Below W.heap.size W Y/\Dat (Nw (Nw D w W) W Y) Y (.slice a (vh zn s.known (znF f.known items)).length c') (kp (vh zn s.known (znF f.known items))):=λW hk x y Q hy=>
  zvn e h.k bD (Gd.new (w:=w) (hG.keep hk λH o h e=>O o (e▸h)) hk.size) Q hy
 obtain⟨X,bc⟩:=xm (zs0 f s.known items);obtain⟨kr,P⟩:=xm (vh zn s.known (znF f.known items));obtain⟨ch,aK⟩:∃q,q=znF f.known items:=⟨_,rfl⟩;have bF:ztt s f items=⟨s.id,X.foldl zse s.recs,kr,s.next⟩:=by rw[bc,P];rfl
 rw[<-bc]at aC bG be ac⊢;rw[<-P]at aF;rw[<-aK]at aZ aF;obtain⟨l,hl⟩:=xm (X.length);rw[<-hl]at aC bG ac⊢;have aq:∀j,((X.take j).foldl zse s.recs).length<=1000000:=λj=>by have h1:=zts (X.take j) s.recs;have h2:=h.len e;have h3:(X.take j).length<=l:=(by rw[hl,Wb];omega);omega
 have bz:∀j,j<X.length->(X.take (j+1)).foldl zse s.recs=zse ((X.take j).foldl zse s.recs) (X.getD j zRc):=λj hj=>by rw[X3 hj,WL,WH,List.foldl_nil,Q9,Zv hj];rfl
 have bJ:=qL bz;have bL:=qL aq;have bQ:=qL aZ;have bI:=qL aF;have bK:=qL bA;have aH:=qL ac;have bT:=qL be;have bP:=qL bF;have HR:=qL (show Rpf D w b ⟨s.id,s.recs,s.known,s.next⟩ from hR);have HG:=qL hG;have HL:=qL hl;have ci:xt.follows .mixedOrders=true:=dM
 clear h1 h2 h3 bz aq aZ aF bA ac be bF hR hF hG hl bc P aK bD h hf hi hE d bu e;go_enter func27,ntmps27
 go_wp2_with (go_at_call 59;refine aC.o.mono ?_;rintro e w1 ⟨a1,c1,rfl,af,bw⟩)
 have aR:=qL (aH.o w1 a1 c1 af bw);have bC:Keep (λk=>k=b) w w1:=Keep.of_below' af (Zp _);have bM:=qL bC;have bS:=qL (HR.o.keep (D':=Nw D w w1) (S:=qe) (Keep.of_below' af (Zp _)) id λb o h=>⟨.inl h,id⟩);clear af bw bC aH aC;go_loopg [8] l (λg x wr=>∃j,j<=l/\g=l-j/\x=.int .i64 j/\Keep (λk=>k=b) w1 wr/\Rpf (Nw D w wr) wr b ⟨s.id,(X.take j).foldl zse s.recs,s.known,s.next⟩);case atStart=>exact⟨0,X4 _,rfl,rfl,Keep.refl _ _,bS.o⟩
 case round=>
  obtain⟨j,hj,rfl,rfl,P,ba⟩:=hrel;have ai:=bM.o.trans P;have aB:=qL P;have ad:=qL ai;have ae:=qL ba;have bn:=qL (Gd.new (w:=w) (w0:=w) (HG.o.keep ai λH o h e=>O o (e▸h)) ai.size);have ct:=P.size;by_cases aG:j<l
  .have M:j<X.length:=(by rw[<-HL.o];exact aG);obtain⟨x,Q⟩:=xm (X.getD j zRc);have bg:x=X[j]:=(by rw[Q,Q9,Zv M];rfl);have cu:x.item<zk:=(by rw[bg];exact bT.o _ (Yf M));have aU:=bJ.o j M;rw[<-Q]at aU;obtain⟨g,G,rfl,bY,F⟩:=aR.o (λe=>by rw[e]at M;simp at M);have aT:∀W,Keep (λk=>k=b) wr W->∀i u,(rcs x)[i]?=some u->W.cell? ⟨g,G+j*4+i,none⟩=some u:=λW hW i u hu=>(by have aV:i<4:=(by have:=(Zw.1 hu).1;simpa[rcs]using this);have h1:=F (j*4+i) u (by rw[zsD M aV,<-bg];exact hu);rw[Wy];exact(aB.o.trans hW).cell_some h1 bY);have g0:wr.cell? ⟨g,G+j*4,none⟩=some (.int .u64 x.item):=aT wr (Keep.refl _ _) 0 _ rfl;have az:=qL aT;have aA:=qL aU;clear aU Q bg P ba ai F aT;obtain⟨l0,aY⟩:=xm ((X.take j).foldl zse s.recs);rw[<-aY]at ae aA;have aM:l0.length<=1000000:=(by rw[aY];exact bL.o j);clear aY;have aN:∀W,Below wr.heap.size wr W->Calls xt 55 #[.pointer (some ⟨b,0,none⟩),rcv x] W λe Y=>(∃u,e=.returned u)/\Keep (λk=>k=b) W Y/\Rpf (Nw D w Y) Y b ⟨s.id,zr4 l0 x,s.known,s.next⟩:=λW hW=>by
    have B:Keep qe wr W:=Keep.of_below' hW (Zp _);refine(ztK (D:=Nw D w W) (s:=⟨s.id,l0,s.known,s.next⟩) (ae.o.keep B id λH o h=>⟨h.imp id λh=>⟨h.1,vw h.2 hW.size⟩,id⟩) (Gd.new (w:=w) (HG.o.keep (ad.o.trans (Keep.of_below' hW (Zp _))) λH o h e=>O o (e▸h)) (VS ad.o.size hW.size)) (λo h=>h.elim (O o) λh=>a9) aM).mono ?_;rintro e Y ⟨h1,h2,h3⟩;refine⟨h1,h2,h3.sub λH o h=>?_⟩;have:=h2.size;have:=hW.size;have:=ad.o.size;rcases h with(h|h)|h
    .exact .inl h
    .exact .inr ⟨h.1,a9⟩
    .exact .inr ⟨a9,h.2⟩
   have aI:=qL aN;clear aN;obtain⟨ix,aW⟩:=xm (ixR l0 x.item 0);have aS:(ix=-1/\zse l0 x=zr4 l0 x)\/∃(T:Nat) (y:Rc) (n2 U V A:Nat),ix=(T:Nat)/\T<n2/\n2<=U/\zse l0 x=(if zs7 x y=true then zr4 l0 x else l0)/\wr.cell? ⟨b,1,none⟩=some (.slice (some ⟨V,A,none⟩) n2 U)/\∀i u,(rcs y)[i]?=some u->wr.cell? ⟨V,A+T*4+i,none⟩=some u:=by
    rw[aW];unfold zse;rcases ztj l0 x.item 0 with⟨h1,h2⟩|⟨T,ar,h1,h2⟩
    .rw[h1,h2];exact .inl ⟨rfl,rfl⟩
    .rw[h1,h2];obtain⟨ck,U,_,_,q1,q2,_⟩:=ae.o;obtain⟨cj,cn,ev,cc,_,ce⟩:=zsZ q2;obtain⟨rfl,rfl⟩:ck=cj/\U=cn:=(dL ev);obtain⟨V,A,rfl,bX⟩:=ce (λe=>by simp only at e;rw[e]at ar;simp at ar);refine .inr ⟨T,l0[T],l0.length,U,V,A,a9,ar,cc,rfl,(zW q1 1 _ rfl).1,λi u hu=>?_⟩;have aV:i<4:=by have:=(Zw.1 hu).1;simpa[rcs]using this
     rw[Wy];exact(bX (T*4+i) u (by rw[zsD ar aV];exact hu)).2
   have ab:=ztJ (i:=x.item) ae.o bn.o aM;simp only at ab;rw[<-aW]at ab;have bl:=qL ab;clear ab aW
   go_wp2_with (go_at_call 53;refine bl.o.mono ?_;rintro e L ⟨rfl,N⟩)
   have ah:Keep (λk=>k=b) wr L:=Keep.of_below' N (Zp _);have x0:L.cell? ⟨g,G+j*4,none⟩=some (.int .u64 x.item):=az.o L ah 0 _ rfl;have x1:L.cell? ⟨g,G+j*4+1,none⟩=some (.int .u64 x.rep):=az.o L ah 1 _ rfl;have x2:L.cell? ⟨g,G+j*4+2,none⟩=some (.int .u64 x.ctr):=az.o L ah 2 _ rfl;have x3:L.cell? ⟨g,G+j*4+3,none⟩=some (.string x.val):=az.o L ah 3 _ rfl;have aj:=qL N;rcases aS with⟨rfl,ay⟩|⟨T,y,n2,U,V,A,rfl,ar,cs,ay,af,ao⟩
   .have am:=qL ay;clear ay ah N;go_region
    go_wp2_with (go_at_call 55;refine(aI.o _ aj.o.drew).mono ?_
                 rintro e w5 ⟨⟨u,rfl⟩,au,aw⟩;have aP:=qL ((aB.o.trans (Keep.of_below' aj.o.drew (Zp _))).trans au);have aD:=qL aw;clear au aw)
    go_roundg (l-(j+1));case measure=>omega
    case rel=>exact⟨j+1,aG,rfl,b7,aP.o,by rw[aA.o,am.o];exact aD.o⟩
   .have e1:L.cell? ⟨b,1,none⟩=some (.slice (some ⟨V,A,none⟩) n2 U):=bc0 N af;have y0:L.cell? ⟨V,A+T*4,none⟩=some (.int .u64 y.item):=bc0 N (ao 0 _ rfl);have y1:L.cell? ⟨V,A+T*4+1,none⟩=some (.int .u64 y.rep):=bc0 N (ao 1 _ rfl);have y2:L.cell? ⟨V,A+T*4+2,none⟩=some (.int .u64 y.ctr):=bc0 N (ao 2 _ rfl);have y3:L.cell? ⟨V,A+T*4+3,none⟩=some (.string y.val):=bc0 N (ao 3 _ rfl);have am:=qL ay;have an:Below L.heap.size L L.drew:=(tq _ _).drew;obtain⟨la,bE⟩:=xm (zs7 x y);have bp:=qL (λW (hW:Below L.heap.size L W)=>ztY x y (bn.o.keep ((Keep.of_below' (S:=qe) aj.o (Zp _)).trans (Keep.of_below' hW (Zp _))) λ_ _ _=>id));rw[<-bE]at bp am;clear ay ah N ao bE;refine Kg (Sw:=qe) 16 68 (λw9=>Below L.heap.size L w9/\w9.cell? ⟨b,1,none⟩=some (.slice (some ⟨V,A,none⟩) n2 U)/\w9.cell? ⟨g,G+j*4,none⟩=some (.int .u64 x.item)/\w9.cell? ⟨g,G+j*4+1,none⟩=some (.int .u64 x.rep)/\w9.cell? ⟨g,G+j*4+2,none⟩=some (.int .u64 x.ctr)/\w9.cell? ⟨g,G+j*4+3,none⟩=some (.string x.val)/\w9.cell? ⟨V,A+T*4,none⟩=some (.int .u64 y.item)/\w9.cell? ⟨V,A+T*4+1,none⟩=some (.int .u64 y.rep)/\w9.cell? ⟨V,A+T*4+2,none⟩=some (.int .u64 y.ctr)/\w9.cell? ⟨V,A+T*4+3,none⟩=some (.string y.val)) dM dM rfl ⟨an,e1,x0,x1,x2,x3,y0,y1,y2,y3⟩ ?_;simp only[wO,wY];refine Jz ?_;refine zhg (λu _=>u=.bool la) (yj _) rfl (zG rfl rfl) ?_ ?_
    .intro a5 w5 F hk hr K hK;have HK:=qL hK;clear hK;simp[Rds,zA,lk,Op.operands,Call.operands,RdEq]at hr;go_simp;refine(bp.o w5 F.1).mono ?_;rintro e w6 ⟨rfl,br⟩;have B:Keep qe w5 w6:=Keep.of_below' br (Zp _);exact HK.o _ _ B ⟨F.1.trans (br.mono F.1.size),B.cell_some F.2.1 id,B.cell_some F.2.2.1 id,B.cell_some F.2.2.2.1 id,B.cell_some F.2.2.2.2.1 id,B.cell_some F.2.2.2.2.2.1 id,B.cell_some F.2.2.2.2.2.2.1 id,B.cell_some F.2.2.2.2.2.2.2.1 id,B.cell_some F.2.2.2.2.2.2.2.2.1 id,B.cell_some F.2.2.2.2.2.2.2.2.2 id⟩ rfl
    simp only[Y1,yb];refine Jz ?_;intro w2 J aX;simp only[finG,WQ,Y1,yb,wM,Wh,WR];simp only[Act.put,ww,wR,wS];have bt:Below wr.heap.size wr w2:=aj.o.trans (J.1.mono aj.o.size);have z0:=J.2.2.1;have z1:=J.2.2.2.1;have z2:=J.2.2.2.2.1;have z3:=J.2.2.2.2.2.1;have ak:=qL bt;clear an aX J bt x0 x1 x2 x3 y0 y1 y2 y3 e1;rw[show decide ((T:Int)<0)=false from Wn a9,uC];cases la with
    | true=>
      go_wp2_with (go_at_call 55;refine(aI.o _ ak.o).mono ?_
                   rintro e w5 ⟨⟨u,rfl⟩,au,aw⟩;have aP:=qL ((aB.o.trans (Keep.of_below' ak.o (Zp _))).trans au);have aD:=qL aw;clear au aw)
      go_roundg (l-(j+1));case measure=>omega
      case rel=>exact⟨j+1,aG,rfl,b7,aP.o,by rw[aA.o,am.o];first|(rw[vj rfl];exact aD.o)|(rw[vj trivial];exact aD.o)⟩
    | false=>
      go_wp2_with fail
      go_roundg (l-(j+1));case measure=>omega
      case rel=>exact⟨j+1,aG,rfl,b7,aB.o.trans (Keep.of_below' ak.o (Zp _)),by rw[aA.o,am.o,vD b7];exact ae.o.keep (Keep.of_below' (S:=qe) ak.o (Zp _)) id λH o h=>⟨h.imp id λh=>⟨h.1,vw h.2 ak.o.size⟩,id⟩⟩
  .obtain rfl:j=l:=a9;have ax:=ae.o;rw[wj (by rw[HL.o];exact Zp _)]at ax;obtain⟨fa,fc,q2,qd⟩:=bK.o wr ai _ ax;obtain⟨cm,co,bh,bi,p1,p2,p3⟩:=ax;dsimp only at p1 p2 p3;have e2:wr.cell? ⟨b,2,none⟩=some (.slice bh s.known.length bi):=(zW p1 2 _ rfl).1;have bR:=qL qd;have bq:=qL p1;have bN:=qL p2;have bO:=qL p3;have an:Below wr.heap.size wr wr.drew:=(tq _ _).drew;have aL:∀W,Below wr.heap.size wr W->Keep (λk=>k=b) w W:=λW hW=>ad.o.trans (Keep.of_below' hW (Zp _));have aQ:=qL aL;clear P ba ai qd p1 p2 p3 aL
   go_wp2_with fail
   refine Kg (Sw:=qe) 14 68 (λw9=>Below wr.heap.size wr w9/\w9.cell? ⟨b,2,none⟩=some (.slice bh s.known.length bi)/\w9.cell? ⟨c,2,none⟩=some (.slice fa f.known.length fc)) dM dM rfl ⟨an,e2,q2⟩ ?_;simp only[wO,wY];refine Jz ?_;refine V7 (SlK D w ch) SlK.stab rfl ?_ ?_
   .intro a5 w5 F hk hr K hK;have HK:=qL hK;clear hK;simp[Rds,zA,lk,Op.operands,Call.operands,RdEq]at hr;go_simp;refine(bQ.o w5 (aQ.o w5 F.1) _ (Nw.dat bR.o (Keep.of_below' F.1 (Zp _)))).mono ?_;rintro e w6 ⟨a3,k3,rfl,Z,ag⟩;have B:Keep qe w5 w6:=Keep.of_below' Z (Zp _);exact HK.o _ _ B ⟨F.1.trans (Z.mono F.1.size),B.cell_some F.2.1 id,B.cell_some F.2.2 id⟩ ⟨a3,k3,rfl,ag.mono (λb o h=>by
     have h1:=F.1.size;have h3:=Z.size;have h4:=ad.o.size;rcases h with(h|h)|h
     .exact .inl h
     .exact .inr ⟨h.1,a9⟩
     .exact .inr ⟨a9,h.2⟩) λ_ _ _ _ h=>h⟩
   simp only[Y1,yb];refine Jz ?_;refine V7 (SlK D w kr) SlK.stab rfl ?_ ?_
   .intro a5 w5 F hk hr K hK;have HK:=qL hK;clear hK;simp[Rds,zA,lk,Op.operands,Call.operands,RdEq]at hr;obtain⟨⟨r0,r1⟩,cq,⟨r2,r3⟩,a3,k3,rfl,hd⟩:=hr;go_simp;refine(bI.o w5 (aQ.o w5 F.1) _ _ (Nw.dat bO.o (Keep.of_below' F.1 (Zp _))) hd).mono ?_;rintro e w6 ⟨a3,k3,rfl,Z,ag⟩;have B:Keep qe w5 w6:=Keep.of_below' Z (Zp _);exact HK.o _ _ B ⟨F.1.trans (Z.mono F.1.size),B.cell_some F.2.1 id,B.cell_some F.2.2 id⟩ ⟨a3,k3,rfl,ag.mono (λb o h=>by
     have h1:=F.1.size;have h3:=Z.size;have h4:=ad.o.size;rcases h with(h|h)|h
     .exact .inl h
     .exact .inr ⟨h.1,a9⟩
     .exact .inr ⟨a9,h.2⟩) λ_ _ _ _ h=>h⟩
   simp only[Y1,yb];refine Jz ?_;intro w2 J aX;simp only[finG,WQ,Y1,yb,wM,Wh,WR];simp only[Act.put,ww,wR,wS];rintro cq bU _ ⟨a3,k3,rfl,ag⟩;clear bU;have cg:b<wr.heap.size:=(XE.1 bq.o).1;have aE:=(J.1.block b cg).trans bq.o;have f2:w2.cell? ⟨b,2,none⟩=some (.slice bh s.known.length bi):=(zW aE 2 _ rfl).1;have V:w2.frozen? ⟨b,2,none⟩=false:=(zW aE 2 _ rfl).2;have bj:=qL aE;have bH:=qL ag;have aO:=qL J.1;clear aE ag J aX an e2 q2
   go_wp2_with fail
   refine tx (tI rfl _ _ _) rfl ?_;have cb:Keep (λk=>k=b) w (w2.setCell ⟨b,2,none⟩ (.slice a3 kr.length k3)):=(aQ.o w2 aO.o).setCell (p:=⟨b,2,none⟩) (λ_=>rfl) _;refine⟨rfl,cb,?_⟩;rw[bP.o];have cf:=aO.o.size;have aJ:∀{u:Value}{p:PV}{k:World},k.heap.size<=w2.heap.size->(∀H o x,Nw D w k H o->k.cell? ⟨H,o,none⟩=some x->w2.cell? ⟨H,o,none⟩=some x)->Dat (Nw D w k) k u p->Dat (Nw D w (w2.setCell ⟨b,2,none⟩ (.slice a3 kr.length k3))) (w2.setCell ⟨b,2,none⟩ (.slice a3 kr.length k3)) u p:=λh2 h3 hd=>hd.mono (λH o h=>h.imp id λh=>⟨h.1,b6⟩) λH o x h Q=>by
    have av:H≠b:=by
     rcases h with h|h
     .exact λe=>O o (e▸h)
     .omega
    exact(tk (a:=⟨H,o,none⟩) (tv _ _ _ _ av)).trans (h3 H o x h Q)
   exact⟨cm,co,a3,k3,zsw bj.o 2 _,aJ cf (λH o x h Q=>(tk (a:=⟨H,o,none⟩) (aO.o.block H (tn wr ⟨H,o,none⟩ Q))).trans Q) bN.o,aJ (Zp _) (λ_ _ _ _ h=>h) bH.o⟩
structure Play(D:xT)(t:Nat)(w:World)(B M F:Nat->Nat)(S:Nat->Rs):Prop where
 a:∀i,i<3->Rpl D t w (B i) (M i) (S i)
 f:∀i,i<3->Rpf D w (F i) (S i)
 bb:∀i j,i<3->j<3->B i=B j->i=j
 mm:∀i j,i<3->j<3->M i=M j->i=j
 ff:∀i j,i<3->j<3->F i=F j->i=j
 bm:∀i j,i<3->j<3->B i≠M j
 bf:∀i j,i<3->j<3->B i≠F j
 mf:∀i j,i<3->j<3->M i≠F j
 nd:∀i,i<3->∀o,¬D (B i) o/\¬D (M i) o/\¬D (F i) o
def plv(B F:Nat->Nat):Array Value:=#[.pointer (some ⟨B 0,0,none⟩),.pointer (some ⟨B 1,0,none⟩),.pointer (some ⟨B 2,0,none⟩),.pointer (some ⟨F 0,0,none⟩),.pointer (some ⟨F 1,0,none⟩),.pointer (some ⟨F 2,0,none⟩)]
def zvq{D:xT}{w:World}{b id:Nat}(h:w.heap[b]?=some (.cells #[.int .u64 id,.slice none 0 0,.slice none 0 0,.int .u64 0,.bool false] 74 (0,0))):Rpf D w b ⟨id,[],[],0⟩:=
 ⟨none,0,none,0,h,.sl none 0 1 [] .sh 0 0 (λ_=>undef) (Zp _) (λh=>by cases h) b9 (λh=>absurd rfl h) (λi e h=>by simp at h) (λj h=>by simp at h) (λi e j p h=>by simp at h),.sl none 0 1 [] .sh 0 0 (λ_=>undef) (Zp _) (λh=>by cases h) b9 (λh=>absurd rfl h) (λi e h=>by simp at h) (λj h=>by simp at h) (λi e j p h=>by simp at h)⟩
def Bg(w W:World)(i:Nat):Prop:=Rpl (λ_ _=>False) 0 W (w.heap.size+3+3*i) (w.heap.size+2+3*i) ⟨10*i,[],[],0⟩/\Rpf (λ_ _=>False) W (w.heap.size+4+3*i) ⟨10*i,[],[],0⟩
def Bg.keep{S:Nat->Prop}{w W o:World}{i:Nat}(h:Bg w W i)(hk:Keep S W o)(j:∀k,S k->k<=w.heap.size+1):Bg w o i:=
 ⟨h.1.keep hk (λe=>by have:=j _ e;omega) (λe=>by have:=j _ e;omega) λ_ _ h=>False.elim h,h.2.keep hk (λe=>by have:=j _ e;omega) λ_ _ h=>False.elim h⟩
def plj(N j:Nat):Array Value:=#[.pointer (if 0<j then some ⟨N+3,0,none⟩ else none),.pointer (if 1<j then some ⟨N+6,0,none⟩ else none),.pointer (if 2<j then some ⟨N+9,0,none⟩ else none),.pointer (if 0<j then some ⟨N+4,0,none⟩ else none),.pointer (if 1<j then some ⟨N+7,0,none⟩ else none),.pointer (if 2<j then some ⟨N+10,0,none⟩ else none)]
def zuM(N:Nat){j:Nat}(o:j<3):((plj N j).setIfInBounds j (.pointer (some ⟨N+2+3*j+1,0,none⟩))).setIfInBounds (3+j) (.pointer (some ⟨N+2+3*j+2,0,none⟩))=plj N (j+1):=by
 match j,o with
 |0,_=>rfl
 |1,_=>rfl
 |2,_=>rfl
def zt2(w:World):Calls xt 5 #[] w λe w'=>∃B M F,e=.returned (.tuple #[.agg (plv B F),.bool true])/\Below w.heap.size w w'/\Play (λ_ _=>False) 0 w' B M F (λi=>⟨10*i,[],[],0⟩)/\∀i,i<3->w.heap.size<=B i/\w.heap.size<=M i/\w.heap.size<=F i:=by
 go_enter func5,ntmps5
 go_wp2_with fail
 obtain⟨N,u⟩:=xm (w.heap.size);rw[<-u];have K:=qL u;clear u;go_loopg [4] 3 (λg x wr=>∃j,j<=3/\g=3-j/\x=.int .i64 j/\Below N w wr/\wr.heap.size=N+2+3*j/\wr.heap[N]?=some (.cells (plj N 0) 30 (0,0))/\wr.heap[N+1]?=some (.cells (plj N j) 30 (0,0))/\∀i,i<j->Bg w wr i);case atStart=>have u:=K.o;subst u;exact⟨0,X4 _,rfl,rfl,((tq _ w).alloc (Zp _) _).alloc b7 _,b7,To _ _ _,Ty _ _ _,λi hi=>absurd hi (Uf _)⟩
 case round=>
  obtain⟨j,hj,rfl,rfl,hb,hs,hz,A,G⟩:=hrel;by_cases C:j<3
  .have ac:((10:Int)*j)%18446744073709551616=((10*j:Nat):Int):=a9;have ab:(j:Int)<3:=a9;have E:(plj N j)[j]?=some (.pointer none)/\(plj N j)[3+j]?=some (.pointer none):=by
    match j,C with
    |0,_=>exact⟨rfl,rfl⟩
    |1,_=>exact⟨rfl,rfl⟩
    |2,_=>exact⟨rfl,rfl⟩
   have L:=qL (And.intro hs (And.intro hb (And.intro hz (And.intro A G))));obtain⟨Y,f0⟩:=zW A j _ E.1;obtain⟨Z,f3⟩:=zW A (3+j) _ E.2;obtain⟨wq,V⟩:∃wq,wq=wr:=⟨wr,rfl⟩;subst V;have ad:¬3+j=j:=a9;have ae:¬j=3+j:=a9;clear hs hb hz A G E
   go_wp2_with (go_at_call 20;refine(zuI (10*j) (λ_ _=>False) wq).mono ?_;rintro e v ⟨rfl,hb,hs,I⟩
                have t0:v.cell? ⟨N+1,j,none⟩=some (.pointer none):=bc0 hb Y;have t3:v.cell? ⟨N+1,3+j,none⟩=some (.pointer none):=bc0 hb Z;have y0:v.frozen? ⟨N+1,j,none⟩=false:=(TC (hb.block _ (tn _ _ Y))).trans f0;have y3:v.frozen? ⟨N+1,3+j,none⟩=false:=(TC (hb.block _ (tn _ _ Z))).trans f3;have Q:N+1<v.heap.size:=tn _ _ t0;have af:N+1≠v.heap.size:=Uo Q;have HB:=qL (And.intro hb (And.intro hs I));clear hb hs I)
   have u:=K.o;obtain⟨hb,hs,I⟩:=HB.o;obtain⟨ws,wb,wz,wp,wg⟩:=L.o;have hk:∀(o:Obj)(x y:Value),Keep (λk=>k=N+1) v (((v.setCell ⟨N+1,j,none⟩ x).setCell ⟨N+1,3+j,none⟩ y).alloc o):=λo x y=>(Keep.setCell (S:=λk=>k=N+1) (Keep.setCell (S:=λk=>k=N+1) (Keep.refl _ v) (p:=⟨N+1,j,none⟩) (λ_=>rfl) x) (p:=⟨N+1,3+j,none⟩) (λ_=>rfl) y).alloc o;have T:=(hb.block (N+1) a9).trans wp;have U:=(hb.block N a9).trans wz;have J:v.heap.size=N+2+3*j+2:=a9;rw[J,ws];go_roundg (3-(j+1));case measure=>omega
   case rel=>
    refine⟨j+1,C,rfl,b7,(wb.trans (hb.mono a9)).trans ((hk _ _ _).below a9 λq hq=>a9),b6,(hk _ _ _).obj U a9,?_,λi hi=>?_⟩
    .have:=zsw (zsw T j (.pointer (some ⟨N+2+3*j+1,0,none⟩))) (3+j) (.pointer (some ⟨N+2+3*j+2,0,none⟩));rw[zuM N C]at this;exact(tr _ _ _ b6).trans this
    .by_cases P:i<j
     .exact(wg i P).keep (S:=λk=>k=N+1) ((Keep.of_below' hb (Zp _)).trans (hk _ _ _)) λk e=>a9
     .obtain rfl:i=j:=a9;refine⟨?_,zvq ?_⟩
      .rw[ws]at I;rw[<-u,show N+3+3*i=N+2+3*i+1 by omega];exact I.keep (hk _ _ _) a9 a9 λ_ _ h=>False.elim h
      .have:=tl ((v.setCell ⟨N+1,i,none⟩ (.pointer (some ⟨N+2+3*i+1,0,none⟩))).setCell ⟨N+1,3+i,none⟩ (.pointer (some ⟨N+2+3*i+2,0,none⟩))) (.cells #[.int .u64 (10*i:Nat),.slice none 0 0,.slice none 0 0,.int .u64 0,.bool false] 74);simp only[World.size_setCell,J]at this;rw[<-u,show N+4+3*i=N+2+3*i+2 by omega];exact this
  .obtain rfl:j=3:=a9;obtain⟨p0,q0⟩:=zW A 0 (.pointer (some ⟨N+3,0,none⟩)) rfl;obtain⟨x0,y0⟩:=zW hz 0 (.pointer none) rfl;obtain⟨p1,q1⟩:=zW A 1 (.pointer (some ⟨N+6,0,none⟩)) rfl;obtain⟨x1,y1⟩:=zW hz 1 (.pointer none) rfl;obtain⟨p2,q2⟩:=zW A 2 (.pointer (some ⟨N+9,0,none⟩)) rfl;obtain⟨x2,y2⟩:=zW hz 2 (.pointer none) rfl;obtain⟨p3,q3⟩:=zW A 3 (.pointer (some ⟨N+4,0,none⟩)) rfl;obtain⟨x3,y3⟩:=zW hz 3 (.pointer none) rfl;obtain⟨p4,q4⟩:=zW A 4 (.pointer (some ⟨N+7,0,none⟩)) rfl;obtain⟨x4,y4⟩:=zW hz 4 (.pointer none) rfl;obtain⟨p5,q5⟩:=zW A 5 (.pointer (some ⟨N+10,0,none⟩)) rfl;obtain⟨x5,y5⟩:=zW hz 5 (.pointer none) rfl;have L:=qL (And.intro hs (And.intro hb (And.intro hz G)));clear hs hb hz A G
   go_wp2_with fail
   obtain⟨hs,hb,hz,G⟩:=L.o;have u:=K.o;obtain⟨X,O⟩:=xm (((((((wr.setCell ⟨N,0,none⟩ (.pointer (some ⟨N+3,0,none⟩))).setCell ⟨N,1,none⟩ (.pointer (some ⟨N+6,0,none⟩))).setCell ⟨N,2,none⟩ (.pointer (some ⟨N+9,0,none⟩))).setCell ⟨N,3,none⟩ (.pointer (some ⟨N+4,0,none⟩))).setCell ⟨N,4,none⟩ (.pointer (some ⟨N+7,0,none⟩))).setCell ⟨N,5,none⟩ (.pointer (some ⟨N+10,0,none⟩))));have hk:Keep (λk=>k=N) wr X:=(by rw[O];exact Keep.setCell (S:=λk=>k=N) (Keep.setCell (S:=λk=>k=N) (Keep.setCell (S:=λk=>k=N) (Keep.setCell (S:=λk=>k=N) (Keep.setCell (S:=λk=>k=N) (Keep.setCell (S:=λk=>k=N) (Keep.refl _ wr) (p:=⟨N,0,none⟩) (λ_=>rfl) _) (p:=⟨N,1,none⟩) (λ_=>rfl) _) (p:=⟨N,2,none⟩) (λ_=>rfl) _) (p:=⟨N,3,none⟩) (λ_=>rfl) _) (p:=⟨N,4,none⟩) (λ_=>rfl) _) (p:=⟨N,5,none⟩) (λ_=>rfl) _);have hx:X.heap[N]?=some (.cells #[.pointer (some ⟨N+3,0,none⟩),.pointer (some ⟨N+6,0,none⟩),.pointer (some ⟨N+9,0,none⟩),.pointer (some ⟨N+4,0,none⟩),.pointer (some ⟨N+7,0,none⟩),.pointer (some ⟨N+10,0,none⟩)] 30 (0,0)):=(by rw[O];exact zsw (zsw (zsw (zsw (zsw (zsw (hz) 0 _) 1 _) 2 _) 3 _) 4 _) 5 _);rw[<-O];refine tx (zs4 rfl rfl hx underlying30 dM) rfl ?_;have H:∀i,i<3->Bg w X i:=λi hi=>(G i hi).keep hk λk e=>a9;refine⟨λi=>w.heap.size+3+3*i,λi=>w.heap.size+2+3*i,λi=>w.heap.size+4+3*i,by rw[u];rfl,by rw[<-u];exact hb.trans (hk.below a9 λq hq=>a9),?_,λi hi=>by dsimp only;omega⟩;exact⟨λi hi=>(H i hi).1,λi hi=>(H i hi).2,a9,a9,a9,a9,a9,a9,λi hi o=>⟨id,id,id⟩⟩
def k25:List Fg:=znP 5 1 0
def r25:Rc:=⟨5,1,0,⟨#[97]⟩⟩
def zsP:CanK k25:=by
 have u:(1:Nat)<zk:=by rw[zw];decide
 have o:(0:Nat)<zk:=by rw[zw];decide
 refine⟨⟨λf j=>?_,by simp[k25,znP]⟩,by simp[k25,znP,xh]⟩;simp only[k25,znP,wD]at j;subst j;exact⟨zkS u o,by simp[zl9],by simp[Nrm,NF,zw],b7⟩
def zvd{i r x:Nat}(h:hasK k25 i r x=true):i=5:=by obtain⟨f,j,o,_⟩:=(zfo zsP.right).1 h;simp only[k25,znP,wD]at j;subst j;simp[mem]at o;omega
def zve:vh zn [] k25=k25:=znD rfl zic zsP.right zsP λi r x _ _=>by rw[zcY];simp[zn]
def zuB:Env25 (λ_=>List.range 27) [1,2] [0,5,6,10] [5]:=
 ⟨⟨λr=>b7,b7⟩,λr x j=>b6,b7,b7,b7,λi hi=>by
   simp only[wD]at hi;subst hi;exact⟨by rw[zw];decide,b7,λ_=>b7⟩⟩
def a25:Rs:=⟨1,[r25],k25,1⟩
def zvF:ztM ⟨1,[],[],0⟩ 5 ⟨#[97]⟩=a25:=by show (⟨1,_,vh zn [] (znP 5 1 0),_⟩:Rs)=_;rw[show vh zn [] (znP 5 1 0)=k25 from zve];rfl
def b25:Rs:=⟨2,[],[],0⟩
def zuK(a:Nat)(j:a<=9):Nrm [⟨a,9⟩]:=qG j (by rw[zw];decide)
def zuN(a:Nat)(j:a<=9):vh zn [] (znF k25 [⟨a,9⟩])=if a<=5 then k25 else []:=by
 have o:=zsP.right;refine znD rfl zic (zn1 o (zuK a j)).right ?_ λi r x hi u=>?_
 .split
  .exact zsP
  .exact zaJ
 .rw[zof o (zuK a j) hi u,zcY];by_cases h:hasK k25 i r x=true
  .have:=zvd h;subst this;split
   .rw[h];simp[zn,mem];omega
   .rw[h,zcY];simp[zn,mem];omega
  .rw[W5]at h;rw[h];split
   .rw[h];simp[zn]
   .rw[zcY];simp[zn]
def zua:ztt b25 a25 [⟨6,9⟩]=b25/\zs0 a25 [] [⟨6,9⟩]=[]:=by refine⟨?_,rfl⟩;show (⟨2,_,vh zn [] (znF k25 [⟨6,9⟩]),0⟩:Rs)=_;rw[zuN 6 a9];rfl
def zub:ztt b25 a25 [⟨0,9⟩]=⟨2,[r25],k25,0⟩/\zs0 a25 [] [⟨0,9⟩]=[r25]:=by refine⟨?_,rfl⟩;show (⟨2,_,vh zn [] (znF k25 [⟨0,9⟩]),0⟩:Rs)=_;rw[zuN 0 a9];rfl
def zt9{D:xT}{w:World}{g lo hi:Nat}{t:TypeId}(h:w.heap[g]?=some (.cells #[.int .u64 lo,.int .u64 hi] t (0,0)))(y:D g 0/\D g 1):Dat D w (.slice (some ⟨g,0,none⟩) 1 1) (rg [⟨lo,hi⟩]):=
 .sl _ 1 2 [Q2 ⟨lo,hi⟩] .sh g 0 (λj=>#[.int .u64 lo,.int .u64 hi].getD j undef) (Zp _) (λh=>by cases h) b9 (λ_=>rfl) (λi p o=>by
  match i,o with
  |0,o=>cases o;rfl
  |i+1,o=>simp at o) (λj A=>by
  rw[wk];match j,A with
  |0,_=>exact⟨y.1,(zW h 0 _ rfl).1,rfl⟩
  |1,_=>exact⟨y.2,(zW h 1 _ rfl).1,rfl⟩) λi q j p u o=>by
  match i,u with
  |0,u=>
    cases u;match j,o with
    |0,o=>cases o;exact .v _
    |1,o=>cases o;exact .v _
  |i+1,u=>simp at u
def zt1{D:xT}{w:World}{a E b bm N G lo:Nat}(T:Ok25 (λ_=>List.range 27) [1,2] [0,5,6,10] [5] 1 a25)(U:Ok25 (λ_=>List.range 27) [1,2] [0,5,6,10] [5] 1 b25)(L:lo=0\/lo=6)(O:Gd D w)(P:Rpl D N w a E a25)(hb:Rpl D G w b bm b25)(nd:∀o,¬D b o/\¬D bm o)(K:b≠bm)(V:a≠b/\a≠bm/\E≠b/\E≠bm)(ht:G<1000)(X:b<w.heap.size/\bm<w.heap.size):
 Calls xt 11 #[.pointer (some ⟨b,0,none⟩),.pointer (some ⟨a,0,none⟩),.slice (some ⟨w.heap.size,0,none⟩) 1 1] (w.alloc (.cells #[.int .u64 lo,.int .u64 9] 64)) λe A=>e=.returned (.tuple #[.int .i64 (zs0 a25 [] [⟨lo,9⟩]).length,.nilIface])/\Keep (λk=>k=b\/k=bm) w A/\Gd (Nw D w A) A/\Rpl (Nw D w A) (G+25) A b bm (ztt b25 a25 [⟨lo,9⟩])/\Rpl (Nw D w A) N A a E a25:=by
 obtain⟨j,y⟩:=xm (w.alloc (.cells #[.int .u64 lo,.int .u64 9] 64));have u:Keep qe w j:=by rw[y];exact(Keep.refl _ _).alloc _
 have ab:j.heap.size=w.heap.size+1:=by rw[y];exact tu _ _
 have M:j.heap[w.heap.size]?=some (.cells #[.int .u64 lo,.int .u64 9] 64 (0,0)):=by rw[y];exact tl _ _
 rw[<-y];have H:Gd (Nw D w j) j:=Gd.new (w:=w) (O.keep u λ_ _ _=>id) a9;have F:∀o,¬Nw D w j b o/\¬Nw D w j bm o:=λo=>⟨λh=>h.elim (nd o).1 a9,λh=>h.elim (nd o).2 a9⟩;have I:Rpl (Nw D w j) N j a E a25:=P.keep u id id λb o h=>⟨.inl h,id⟩;have J:Rpl (Nw D w j) G j b bm b25:=hb.keep u id id λb o h=>⟨.inl h,id⟩;have Y:Nrm [⟨lo,9⟩]:=zuK lo a9;refine(zuP (ic:=1) (ia:=some ⟨w.heap.size,0,none⟩) (items:=[⟨lo,9⟩]) zuB U T a9 J I H (λo=>(F o).1) (λo=>(F o).2) K a9 Y (λx hx=>?_) b7 (zt9 M ⟨.inr ⟨a9,a9⟩,.inr ⟨a9,a9⟩⟩)).mono ?_
 .rcases zhC hx with h|h
  .rcases L with e|e<;>subst e<;>subst h<;>simp
  .subst h;simp
 .rintro e A ⟨rfl,hk,Z⟩;have C:Keep (λk=>k=b\/k=bm) w A:=(u.mono λ_ _ h=>h.elim).trans hk;have ac:=hk.size;have Q:∀B o,D B o->¬(B=b\/B=bm):=λB o h e=>e.elim (λe=>(nd o).1 (e▸h)) λe=>(nd o).2 (e▸h);exact⟨rfl,C,Gd.new (w:=w) (O.keep C Q) a9,Z.keep (S:=qe) (Keep.refl _ _) id id λB o h=>⟨by
   rcases h with(h|h)|h
   .exact .inl h
   .exact .inr ⟨h.1,a9⟩
   .exact .inr ⟨a9,h.2⟩,id⟩,P.keep C a9 a9 λB o h=>⟨.inl h,Q B o h⟩⟩
def zu5{D:xT}{w:World}(hG:Gd D w):Calls xt 8 #[] w λe G=>e=.returned (.bool true)/\Below w.heap.size w G:=by
 have h0:Ok25 (λ_=>List.range 27) [1,2] [0,5,6,10] [5] 0 ⟨1,[],[],0⟩:=⟨Ke.nil,List.Pairwise.nil,λx hx=>by simp at hx,Zp _,by rw[zw];decide,b7⟩;have h2:Ok25 (λ_=>List.range 27) [1,2] [0,5,6,10] [5] 0 b25:=⟨Ke.nil,List.Pairwise.nil,λx hx=>by simp[b25]at hx,Zp _,by rw[b25,zw];decide,by simp[b25]⟩;have h1:=h0.put zuB (i:=5) (v:=⟨#[97]⟩) b7 b9 a9;rw[zvF]at h1;go_enter func8,ntmps8
 go_wp2_with (first
  |(go_at_call 20;refine(zuI 1 D w).mono ?_;rintro e w1 ⟨rfl,ah,aI,ar⟩)
  |(go_at_call 20;refine(zuI 2 D w1).mono ?_;rintro e y ⟨rfl,N,aM,X⟩))
 have L:Below w.heap.size w y:=ah.trans (N.mono a9);have an:Keep qe w1 y:=Keep.of_below' N (Zp _);have M:Gd D y:=hG.keep (S:=qe) (Keep.of_below' L (Zp _)) λ_ _ _=>id;have J:Rpl D 0 y (w.heap.size+1) w.heap.size ⟨1,[],[],0⟩:=ar.keep an id id λb o h=>⟨h,id⟩;have j:=hG.2;rw[aI]at X;have hp:=zvG (i:=5) (v:=⟨#[97]⟩) zuB h0 a9 b7 J M (λo h=>by have:=j _ _ h;omega) (λo h=>by have:=j _ _ h;omega) a9 a9;rw[zvF]at hp;have HP:qA (Calls xt 22 #[.pointer (some ⟨w.heap.size+1,0,none⟩),.int .u64 5,.string ⟨#[97]⟩] y λe G=>e=.returned (.tuple #[.agg #[.int .u64 5,.int .u64 1,.int .u64 0,.string ⟨#[97]⟩],.nilIface])/\Keep (λk=>k=w.heap.size+1\/k=w.heap.size) y G/\Rpl (Nw D y G) (0+1) G (w.heap.size+1) w.heap.size a25):=qL hp;have aD:=qL X;have aw:=qL L;have H1:=qL h1;have H2:=qL h2;have ay:=qL M;have ax:=qL j;clear ar X ah N an hG M J h0 h1 h2 L j hp
 go_wp2_with (go_at_call 22;refine HP.o.mono ?_;rintro e u ⟨rfl,B,au⟩)
 obtain⟨wr,E⟩:=xm (u.alloc (.cells #[.int .u64 5,.int .u64 1,.int .u64 0,.string ⟨#[97]⟩] 66));have aJ:wr.heap.size=u.heap.size+1:=by rw[E];exact tu _ _
 have I:Keep qe u wr:=by rw[E];exact(Keep.refl _ _).alloc _
 have av:wr.heap[u.heap.size]?=some (.cells #[.int .u64 5,.int .u64 1,.int .u64 0,.string ⟨#[97]⟩] 66 (0,0)):=by rw[E];exact tl _ _
 rw[<-E];rw[<-aJ];clear E;have s3:=B.size;have j:=ax.o;have C:Keep (λk=>k=w.heap.size+1\/k=w.heap.size) y wr:=B.trans (I.mono λ_ _ h=>h.elim);have P:∀b o,D b o->¬(b=w.heap.size+1\/b=w.heap.size):=λb o h=>by have:=j b o h;omega
 have ae:Gd (Nw D y u) wr:=by have:=Gd.new (w:=w) (w0:=y) (ay.o.keep B P) B.size;exact this.keep I λ_ _ _=>id
 have ag:Rpl (Nw D y u) 1 wr (w.heap.size+1) w.heap.size a25:=au.keep I id id λb o h=>⟨h,id⟩;have aj:Rpl (Nw D y u) 0 wr (w.heap.size+3) (w.heap.size+2) b25:=aD.o.keep C a9 a9 λb o h=>⟨.inl h,P b o h⟩;have T:∀o,¬Nw D y u (w.heap.size+3) o/\¬Nw D y u (w.heap.size+2) o:=λo=>⟨λh=>h.elim (λh=>by have:=j _ _ h;omega) a9,λh=>h.elim (λh=>by have:=j _ _ h;omega) a9⟩;have U:=zt1 H1.o (H2.o.mono a9) (.inr rfl) ae ag aj T a9 a9 a9 a9;rw[zua.1,zua.2]at U;have aB:=qL U;have aF:=qL av;have aA:=qL (aw.o.trans ((C.below (n:=w.heap.size) a9 λk hk e=>a9)));clear U ae ag aj av I C P au B j;have K:True:=trivial
 go_wp2_with (go_at_call 11;have _t:=K;refine aB.o.mono ?_;rintro e w4 ⟨rfl,Q,ak,ai,af⟩;clear K)
 have s4:=Q.size;have aq:∀o,¬Nw (Nw D y u) wr w4 (w.heap.size+3) o/\¬Nw (Nw D y u) wr w4 (w.heap.size+2) o:=λo=>⟨λh=>h.elim (T o).1 a9,λh=>h.elim (T o).2 a9⟩;have V:=zt1 H1.o (H2.o.mono a9) (.inl rfl) ak af ai aq a9 a9 a9 a9;rw[zub.1,zub.2]at V;have aC:=qL V;have ac:=qL Q;clear V ak ai af Q
 go_wp2_with (go_at_call 11;refine aC.o.mono ?_;rintro e Y ⟨rfl,H,am,O,aG⟩)
 have hg:Calls xt 19 #[.pointer (some ⟨w.heap.size+3,0,none⟩),.int .u64 5] Y λe G=>e=.returned (.tuple #[.agg #[.int .u64 5,.int .u64 1,.int .u64 0,.string ⟨#[97]⟩],.bool true])/\Below Y.heap.size Y G:=zwk (i:=5) O (by rw[zw];decide);have ab:=qL hg;have ao:∀W,Below Y.heap.size Y W->Calls xt 10 #[.pointer (some ⟨w.heap.size+3,0,none⟩)] W λe G=>∃a c,e=.returned (.slice a 1 c)/\Below W.heap.size W G:=λW hW=>by
  have hk:Keep qe Y W:=Keep.of_below' hW (Zp _);refine(zte (n:=0) (O.keep hk id id λb o h=>⟨h,id⟩) (am.keep hk λ_ _ _=>id) zsP (by simp[k25,znP]) λf hf=>?_).mono ?_
  .simp only[k25,znP,wD]at hf;subst hf;refine⟨b7,by simp[zl9],λe he=>?_⟩;have:=(zoF (r:=1) (c:=0) (by rw[zw];decide) (by rw[zw];decide)).2.2 e he;omega
  .rintro e G ⟨v,rfl,hb,hd⟩;obtain⟨a,c,rfl⟩:=zsM (k:=k25) hd;exact⟨a,c,rfl,hb⟩
 have az:=qL ao;have aE:=qL ((ac.o.trans H).obj aF.o a9);have s5:=H.size;have ad:=qL (aA.o.trans ((ac.o.trans H).below (n:=w.heap.size) a9 λk hk e=>a9));clear O am aG H hg ao
 go_wp2_with (first
  | (go_at_call 19;refine ab.o.mono ?_;rintro e Z ⟨rfl,A⟩
     have F:=(A.block _ a9).trans aE.o;have x0:Z.cell? ⟨u.heap.size,0,none⟩=some (.int .u64 5):=(zW F 0 _ rfl).1;have x1:Z.cell? ⟨u.heap.size,1,none⟩=some (.int .u64 1):=(zW F 1 _ rfl).1;have x2:Z.cell? ⟨u.heap.size,2,none⟩=some (.int .u64 0):=(zW F 2 _ rfl).1;have x3:Z.cell? ⟨u.heap.size,3,none⟩=some (.string ⟨#[97]⟩):=(zW F 3 _ rfl).1;have aK:u.heap.size<Z.heap.size:=(by have:=A.size;omega);have aL:u.heap.size≠Z.heap.size:=a9;clear F)
  |(go_at_call 10;refine(az.o _ (A.alloc A.size _)).mono ?_;rintro e w7 ⟨a7,c7,rfl,aH⟩))
 go_ret;exact⟨rfl,ad.o.trans (((A.alloc A.size _).trans (aH.mono (by have:=A.size;simp;omega))).mono a9)⟩
end
end Go.Proofs.YtjdjjlkifdimkaaGreatDoor
