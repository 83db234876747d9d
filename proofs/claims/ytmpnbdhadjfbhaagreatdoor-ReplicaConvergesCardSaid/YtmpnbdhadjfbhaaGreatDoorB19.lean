import Derived.Maps.Own
import Derived.Maps.OwnIn
import Derived.Maps.Views
import Derived.Maps.RangeWalk
import Derived.Shelf.Spec.SlicesInsertGrow
import Derived.Test.YtmpnbdhadjfbhaaGreatDoorB18
set_option maxHeartbeats 16000000
set_option linter.all false
set_option maxRecDepth 100000
namespace Go.Proofs.YtmpnbdhadjfbhaaGreatDoor
def dH{p:Prop}(h:p:=by simp [Act.eval,Act.put]):p:=h
def tI:=@Go.World.ownsRow.cells
def Th:=@Go.World.cell?_setCells_out
def Tm:=@Go.World.cell?_alloc_past
def Tn:=@Go.World.frozen?_setCells
def Tw:=@Go.IntKind.wrap_i64
def TN:=@Go.World.ownsMap_made
def TO:=@Go.run_copy_cells
def TP:=@Go.Lib.run_append_grow_zeros
def TR:=@Go.Maps.has_put_other
def TV:=@Go.Maps.has_put_same
def TW:=@Go.World.frozen?_alloc_at
def TX:=@Go.Lib.run_overlaps_apart
def TZ:=@Go.Maps.atKey_put_other
open Go.RowKit
open Go.Proofs.Tryz
open Go.Proofs.Tryz renaming prog->xT
structure Fg where
 items:List Iv
 vec:List En
deriving DecidableEq
instance : Inhabited Fg:=⟨⟨[],[]⟩⟩
def Fg.ext'{f g:Fg}(j:f.items=g.items)(o:f.vec=g.vec):f=g:=by cases f;cases g;simp_all
def fc(f:Fg):List PV:=[rg f.items,vp f.vec]
def fp(f:Fg):PV:=.agg (fc f)
def kp(k:List Fg):PV:=.sl (k.map fc) .sh
attribute [go_sem] kp fp fc
def ZS(f:Fg):Prop:=Nrm f.items/\zsC f.vec
def RightK(k:List Fg):Prop:=∀f∈k,ZS f
def BdF(f:Fg):Prop:=BdR f.items/\(∀e∈f.vec,ZL e)/\f.items.length<=9223372036854775807/\f.vec.length<=9223372036854775807
def BdK(k:List Fg):Prop:=(∀f∈k,BdF f)/\k.length<=9223372036854775807
def vx(k:List Fg):Bool:=k.all (λf=>decide (f.items.length<=20) && JF f.vec) && decide (k.length<=12)
def hkK:Nat->List Fg->Nat×Int
 |_,[]=>(0,-1)
 |i,f::r=>if (Zl f.items).1≠0 then ((Zl f.items).1,(i:Int)) else if (jx f.vec).1≠0 then ((jx f.vec).1,(i:Int)) else hkK (i+1) r
def ckK(k:List Fg):Nat×Int:=hkK 0 k
def Vd:∀(i:Nat)(k:List Fg),(hkK i k).1=0↔∀f∈k,(Zl f.items).1=0/\(jx f.vec).1=0
 |_,[]=>by simp[hkK]
 | i,f::r=>by
   have ih:=Vd (i+1) r;unfold hkK;by_cases o:(Zl f.items).1≠0
   .rw[vD o];exact⟨λh=>absurd h o,λh=>(h f b6).1⟩
   .rw[Vq o];by_cases u:(jx f.vec).1≠0
    .rw[vD u];exact⟨λh=>absurd h u,λh=>(h f b6).2⟩
    .rw[Vq u,ih];constructor
     .intro h g j;rcases wi.1 j with rfl|j
      .exact⟨a8,a8⟩
      .exact h g j
     .intro h g j;exact h g (by simp[j])
def ZN{k:List Fg}(hb:BdK k):(ckK k).1=0↔RightK k:=by
 unfold ckK;rw[Vd];constructor
 .intro h f o;obtain⟨u,w⟩:=h f o;have j:=hb.1 f o;exact⟨(YT λs hs=>(j.1 s hs).2).1 u,(XP j.2.1).1 w⟩
 .intro h f o;have j:=hb.1 f o;exact⟨(YT λs hs=>(j.1 s hs).2).2 (h f o).1,(XP j.2.1).2 (h f o).2⟩
def withF(i:Nat):Nat->List Fg->List (Nat×Fg)
 |_,[]=>[]
 |n,f::r=>if mem f.items i=true then (n,f)::withF i (n+1) r else withF i (n+1) r
def QR(i:Nat)(f:Fg):∀(n:Nat)(l:List Fg),withF i n (l++[f])=withF i n l++(if mem f.items i=true then [(n+l.length,f)] else [])
 |n,[]=>by simp[withF]
 | n,g::l=>by
   have ih:=QR i f (n+1) l;have e:n+1+l.length=n+(l.length+1):=a8;rw[yb,withF,withF,ih,wv,e];split<;>simp
def j9{k:List Fg}{j:Nat}(i:Nat)(h:j<k.length):withF i 0 (k.take (j+1))=withF i 0 (k.take j)++(if mem k[j].items i=true then [(j,k[j])] else []):=by rw[vj h,QR,Wc,WZ a8,wn]
def jv{i:Nat}{p:Nat×Fg}:∀{n:Nat}{l:List Fg},p∈withF i n l->p.2∈l/\mem p.2.items i=true/\n<=p.1/\p.1<n+l.length
 |n,[],h=>by cases h
 | n,f::l,h=>by
   unfold withF at h;split at h
   .rename_i hf;rcases wi.1 h with rfl|h
    .exact⟨b6,hf,Zp _,b6⟩
    .obtain⟨j,o,u,w⟩:=jv h;exact⟨by simp[j],o,a8,a9⟩
   .obtain⟨j,o,u,w⟩:=jv h;exact⟨by simp[j],o,a8,a9⟩
def Zg(i:Nat):∀(n:Nat)(l:List Fg),(withF i n l).length<=l.length
 |_,[]=>Zp _
 | n,f::l=>by
   have:=Zg i (n+1) l;unfold withF;split<;>simp<;>omega
def YL{i:Nat}{q:Fg->Bool}:∀(n:Nat)(l:List Fg),(withF i n l).any (λp=>q p.2)=l.any λf=>mem f.items i && q f
 |_,[]=>rfl
 | n,f::l=>by
   have ih:=YL (i:=i) (q:=q) (n+1) l;unfold withF;rw[ur,<-ih];cases h:mem f.items i<;>simp
def zU(k:List Fg)(i:Nat):List Nat:=(withF i 0 k).map Prod.fst
def JX{k:List Fg}{j:Nat}(i:Nat)(h:j<k.length):zU (k.take (j+1)) i=zU (k.take j) i++(if mem k[j].items i=true then [j] else []):=by
 unfold zU;rw[j9 i h,WJ];split<;>rfl
def zbk(k:List Fg)(i:Nat):(zU k i).length<=k.length:=by unfold zU;rw[ww];exact Zg _ _ _
def hasK(k:List Fg)(i r c:Nat):Bool:=k.any λf=>mem f.items i && mem (zT f.vec r) c
def jh(k:List Fg)(i r c:Nat):(withF i 0 k).any (λp=>mem (zT p.2.vec r) c)=hasK k i r c:=YL (q:=λf=>mem (zT f.vec r) c) 0 k
noncomputable def qc (k:List Fg) (i:Nat):List En:=(withF i 0 k).foldl (λo p=>ks zn o p.2.vec) []
def zbT(i:Nat):qc [] i=[]:=rfl
def Ku{k:List Fg}{j:Nat}(i:Nat)(h:j<k.length):qc (k.take (j+1)) i=if mem k[j].items i=true then ks zn (qc (k.take j) i) k[j].vec else qc (k.take j) i:=by
 unfold qc;rw[j9 i h,WW];split<;>rfl
def RightK.take{k:List Fg}(h:RightK k)(j:Nat):RightK (k.take j):=λf o=>h f (WE o)
def CK(k:List Fg)(r:Nat):List Nat:=k.flatMap λf=>z6 (zT f.vec r)
def RK(k:List Fg):List Nat:=k.flatMap λf=>zM f.vec
def CI(k:List Fg):List Nat:=k.flatMap λf=>z6 f.items
def IV.frag{k:List Fg}(h:RightK k){f:Fg}(j:f∈k):IV (CK k) (RK k) f.vec:=
 (IV.of (h f j).2).mono (λr x o=>uk.2 ⟨f,j,o⟩) λx o=>uk.2 ⟨f,j,o⟩
def IK(C:Q9)(R:List Nat)(k:List Fg):Prop:=∀f∈k,IV C R f.vec
def RightK.ik{k:List Fg}(h:RightK k):IK (CK k) (RK k) k:=λf j=>IV.frag h j
def IK.take{C:Q9}{R:List Nat}{k:List Fg}(h:IK C R k)(j:Nat):IK C R (k.take j):=λf o=>h f (WE o)
def zgT{C:Q9}{R:List Nat}:∀(l:List (Nat×Fg))(o:List En),(∀p∈l,IV C R p.2.vec)->WV C R o->WV C R (l.foldl (λo p=>ks zn o p.2.vec) o) /\
 ∀r c,c<zk->mem (zT (l.foldl (λo p=>ks zn o p.2.vec) o) r) c=(mem (zT o r) c || l.any λp=>mem (zT p.2.vec r) c)
 |[],o,_,ho=>⟨ho,λr c _=>b6⟩
 |p::l,o,hl,ho=>by have j:=hl p b6;obtain⟨w,y⟩:=zgT l (ks zn o p.2.vec) (λq A=>hl q (by simp[A])) (ho.iv.lat fU0 j);refine⟨w,λr c u=>?_⟩;rw[WI,y r c u,JR fU0 ho.can.right j.right,qj (qi ho.can.right r) (qi j.right r) u,ur];simp only[zn,UD]
def IK.at{C:Q9}{R:List Nat}{k:List Fg}(h:IK C R k)(i:Nat):WV C R (qc k i)/\∀r c,c<zk->mem (zT (qc k i) r) c=hasK k i r c:=by obtain⟨j,o⟩:=zgT (withF i 0 k) [] (λp w=>h _ (jv w).1) WV.nil;refine⟨j,λr c u=>?_⟩;rw[<-jh];have:=o r c u;rw[knV_nil,Xf,uz]at this;exact this
def OkC(C:Q9)(R:List Nat):Prop:=(∀r,(C r).length<=9000)/\R.length<=1048576
section
open Go.ChangeShapes Go.WideShapes Go.ChangeAt Go.Deep
section
variable {H:Type}{enc:TypeId×Value->H}{w:World}{base:Nat}{spare:Nat->Bool}{held:Bool}
def xp(x:Nat×Nat×Nat):PV:=.agg [.v (.int .u64 (x.1:Nat)),.v (.int .u64 (x.2.1:Nat)),.v (.int .u64 (x.2.2:Nat))]
attribute [go_sem] xp
end
structure Opn where
 who:Int
 from_:Int
 item:Nat
 val:ByteArray
 items:List Iv
instance : Inhabited Opn:=⟨⟨0,0,0,⟨#[]⟩,[]⟩⟩
def opc(o:Opn):List PV:=[.v (.int .i64 o.who),.v (.int .i64 o.from_),.v (.int .u64 o.item),.v (.string o.val),rg o.items]
def opp(l:List Opn):PV:=.sl (l.map opc) .sh
def I63(x:Int):Prop := -9223372036854775808<=x/\x<9223372036854775808
def BdO(o:Opn):Prop:=(I63 o.who/\I63 o.from_)/\o.item<zk/\o.val.size<=maxLen/\(∀s∈o.items,s.lo<zk/\s.hi<zk)/\o.items.length<=9223372036854775807
section
variable {H:Type}{enc:TypeId×Value->H}{w:World}{base:Nat}{spare:Nat->Bool}{held:Bool}
def ztP{t:TypeId}{j:Nat}{o:List Value}{x:DataW H×List MemPlace}(ht:xT.underlying t=some (.int .i64))(h:DataW.trod enc xT w base spare held j t o=some x):∃n:Int,o=[.int .i64 n]/\I63 n:=by obtain⟨n,rfl,_,u⟩:=DataW.trod_int ht h;refine⟨n,rfl,?_⟩;simp[Lit.wf,IntKind.min,IntKind.max,IntKind.signed,IntKind.bits]at u;unfold I63;omega
def zvh{n:Nat}{a:Addr}{I:List Value}{y:DataW H×List MemPlace}(h1:w.cells? base a 5=some I)(h2:DataW.trod enc xT w base spare held n 38 I=some y):a.spot=none/\a.block<w.heap.size/\∃o,rdC opc BdO w a.block a.off o:=by
 obtain⟨_,E,u⟩:=World.cells?_some h1;obtain⟨xs,k,_,_,_,L,C⟩:=DataW.trod_struct underlying38 h2;match xs,L,I,E with
 | [y0,y1,y2,y3,y4],_,[v0,v1,v2,v3,v4],_=>
   have N:=C 0 _ rfl;have O:=C 1 _ rfl;have P:=C 2 _ rfl;have Q:=C 3 _ rfl;have S:=C 4 _ rfl;have X:xT.cellsOf 3 = 1:=dK;have Y:xT.cellsOf 36 = 1:=dK;have Z:xT.cellsOf 9 = 1:=dK;have c4:xT.cellsOf 24 = 1:=dK;simp[X,Y,Z,c4]at N O P Q S;have B:=u 0 a8;have e1:=u 1 a8;have e2:=u 2 a8;have e3:=u 3 a8;have e4:=u 4 a8;obtain⟨T,q0,U⟩:=ztP underlying3 N;obtain⟨m1,q1,b1⟩:=ztP underlying3 O;obtain⟨m2,q2,b2⟩:=kM underlying36 P;obtain⟨m3,q3,_,V⟩:=DataW.trod_string underlying9 Q;obtain⟨M,l,q4,G⟩:=ZA S;obtain rfl:v0=_:=(dJ q0);obtain rfl:v1=_:=(dJ q1);obtain rfl:v2=_:=(dJ q2);obtain rfl:v3=_:=(dJ q3);obtain rfl:v4=M:=(dJ q4);replace B:w.cell? a=some (.int .i64 T):=(by simpa[Addr.add]using B);obtain⟨b,ab,F⟩:=a;obtain rfl:F=none:=World.cell?_spot B;have hd:Dat (ZG w) w v4 (rg l):=jp G λ_ _ _ h=>h;have J:=G.bound;have K:l.length<=9223372036854775807:=(by have:=G.len;unfold maxLen at this;omega);refine⟨rfl,tp _ _ B,⟨T,m1,m2,m3,l⟩,λj p A=>?_,⟨U,b1⟩,b2,V,J,K⟩;obtain⟨aa,c,rfl,_⟩:=G;match j,A with
   |0,A=>cases A;exact⟨_,B,rfl,.v _⟩
   |1,A=>cases A;exact⟨_,by simpa[Addr.add]using e1,rfl,.v _⟩
   |2,A=>cases A;exact⟨_,by simpa[Addr.add]using e2,rfl,.v _⟩
   |3,A=>cases A;exact⟨_,by simpa[Addr.add]using e3,rfl,.v _⟩
   |4,A=>cases A;exact⟨_,by simpa[Addr.add]using e4,rfl,hd⟩
def zwo{r:Reach}{B:Nat}{v:Value}{d:DataW H}{I:List MemPlace}(j:Value.okWide xT w r B 22 v)(h:DataW.Trod enc xT w base spare held 22 v d I):∃l,Dat (ZG w) w v (opp l)/\(∀o∈l,BdO o)/\l.length<=9223372036854775807:=by obtain⟨a,len,C,rfl⟩:=okWide_slice underlying22 j;obtain⟨u,G⟩:=h;obtain⟨v,l,A,y⟩:=Za (rdC opc BdO) underlying22 dK (λ_ _ _ _ E F=>zvh E F) G;simp[Value.cells]at A;rw[<-A]at y;exact⟨l,VQ (cv:=opc) (bd:=BdO) (λ_=>rfl) y⟩
end
end
section
open Go.Maps
abbrev DV:=DataW Value
def rV(v:Value):Option (DV×List MemPlace):=some (.held v,[])
def zP:Value:=.agg #[.slice none 0 0,.slice none 0 0]
def kR(r:Nat):Lit:=.int .u64 (r:Nat)
def vF:Keyed xT 36 := int_keyed underlying36
def zeC(w:World):(zeroValue 234).run xT w=.ok zP w:=dK
def Zq{r:Nat}(h:r<zk):keyOf xT 36 (.int .u64 (r:Nat))=some (kR r):=by rw[zw]at h;refine keyOf_int_mk underlying36 ?_;simp[Lit.wf,IntKind.min,IntKind.max,IntKind.signed,IntKind.bits];omega
def Qc(r:Nat):WideAt.IsKeyLit (kR r):=trivial
def Xa{r s:Nat}(h:kR r=kR s):r=s:=by unfold kR at h;injection h with _ h;omega
def DL(C:Qk)(j:Nat)(w:World):Nat->Nat->Prop:=λb o=>C b o\/(j<b/\b<w.heap.size)
def rdF(C:Qk)(w:World)(b o:Nat)(e:En):Prop:=w.cell? ⟨b,o,none⟩=some (.int .u64 e.rep)/\w.cell? ⟨b,o+1,none⟩=some (.int .u64 e.max)/\(∃j,w.cell? ⟨b,o+2,none⟩=some j/\Dat C w j (rg e.holes))/\e.rep<zk/\e.max<zk
def RdF(C:Qk)(j:Nat)(w:World)(v:Value)(l:List En):Prop:=RdSl 3 (rdF C) 0 j w v l
def RdF.keep{C:Qk}{j:Nat}{w w':World}{v:Value}{l:List En}(u:∀b o,C b o->b<j)(h:RdF C j w v l)(hb:∀k,k<j->w'.heap[k]?=w.heap[k]?):RdF C j w' v l:=
 RdSl.keep h (Zp _) (Zp _) λb o x _ h2 ⟨c0,c1,⟨hv,c2,c3⟩,c4⟩=>
  ⟨(tl (a:=⟨b,o,none⟩) (hb b h2)).trans c0,(tl (a:=⟨b,o+1,none⟩) (hb b h2)).trans c1,⟨hv,(tl (a:=⟨b,o+2,none⟩) (hb b h2)).trans c2,c3.mono (λ_ _ h=>h) λb o x y A=>(tl (a:=⟨b,o,none⟩) (hb b (u b o y))).trans A⟩,c4⟩
def dat_rdf{D:Qk}{w:World}{x:Value}{v:List En}(h:Dat D w x (vp v))(K:∀b o,D b o->b<w.heap.size)(hb:∀e∈v,ZL e):RdF D w.heap.size w x v:=by
 unfold vp at h;generalize F:v.map ec=es at h;cases h with
 |sl a cap sz es o b off u hc hz hm ha hsz hd hx=>have G:es.length=v.length:=(by rw[<-F];simp);refine⟨a,cap,by rw[G],a8,hm,λB=>?_⟩;have y:0<v.length:=wV.2 B;have g:∀i (h:i<v.length),es[i]?=some (ec v[i]):=λi h=>(by rw[<-F];exact xo h);obtain rfl:3=sz:=hsz 0 _ (g 0 y);have A:es≠[]:=(by intro e;subst e;simp at G;omega);have j:b<w.heap.size:=K _ _ (hd 0 a8).1;refine⟨b,off,ha A,X4 _,j,λi hi=>?_⟩;have J:=(hx i _ 0 _ (g i hi) rfl).v_inv;have e1:=(hx i _ 1 _ (g i hi) rfl).v_inv;have e2:=hx i _ 2 _ (g i hi) rfl;have C:=(hd (i*3+0) a8).2.1;have E:=(hd (i*3+1) a8).2.1;have I:=(hd (i*3+2) a8).2.1;rw[J]at C;rw[e1]at E;obtain⟨b1,b2,H⟩:=hb _ (Y1 hi);exact⟨C,E,⟨_,I,e2⟩,H,b2⟩
def PairD(C:Qk)(w:World)(o:Nat)(D:DV)(j:List Nat)(A B:Nat->List Iv):Prop:=
 IsMap D/\∀r,has D (kR r)=decide (r∈j)/\∃u y,D.atKey (kR r) (.held zP)=.held (.agg #[u,y])/\Dat (DL C o w) w u (rg (A r))/\Dat (DL C o w) w y (rg (B r))
def KN{D:Qk}{w:World}:Dat D w (.slice none 0 0) (rg []):=.sl none 0 2 [] .sh 0 0 (λ_=>undef) b6 (λh=>by cases h) b8 (λh=>absurd rfl h) (λi e h=>by simp at h) (λj h=>by simp at h) (λi e j p h=>by simp at h)
def PairD.start(C:Qk)(w:World)(j:Nat):PairD C w j (.map []) [] (λ_=>[]) (λ_=>[]):=
 ⟨⟨[],rfl⟩,λr=>⟨by simp[has],_,_,rfl,KN,KN⟩⟩
def PairD.mono{C:Qk}{w w':World}{u:Nat}{D:DV}{y:List Nat}{A B:Nat->List Iv}(H:∀b o,C b o->b<u)(h:PairD C w u D y A B)(hs:w.heap.size<=w'.heap.size)(hb:∀k,k<w.heap.size->k≠u->w'.heap[k]?=w.heap[k]?):PairD C w' u D y A B:=by
 refine⟨h.1,λr=>⟨(h.2 r).1,?_⟩⟩;obtain⟨I,J,e,d0,G⟩:=(h.2 r).2;have E:∀b o x,DL C u w b o->w.cell? ⟨b,o,none⟩=some x->w'.cell? ⟨b,o,none⟩=some x:=λb o x j F=>
  (tl (a:=⟨b,o,none⟩) (hb b (tp w ⟨b,o,none⟩ F) (by rcases j with j|j;have:=H b o j;omega;omega))).trans F
 have j:∀b o,DL C u w b o->DL C u w' b o:=λb o j=>j.imp id λh=>⟨h.1,Vm h.2 hs⟩;exact⟨I,J,e,d0.mono j E,G.mono j E⟩
def PairD.put0{C:Qk}{w:World}{A:Nat}{D:DV}{o:List Nat}{E F:Nat->List Iv}(h:PairD C w A D o E F){j:Nat}{l:List Iv}{s J B:Value}(hs:Dat (DL C A w) w s (rg l))(I:D.atKey (kR j) (.held zP)=.held (.agg #[J,B])):
 PairD C w A (D.put (kR j) (.held (.agg #[s,B]))) (o++[j]) (λr=>if r=j then l else E r) F:=by
 refine⟨h.1.put _ _,λr=>?_⟩;by_cases e:r=j
 .subst e;obtain⟨G,H,e1,d0,y⟩:=(h.2 r).2;rw[I]at e1;cases e1;exact⟨by rw[TV h.1 (Qc _)];simp,s,B,atKey_put_same h.1 (Qc _) _ _,by dsimp only;rw[vD rfl];exact hs,y⟩
 .have u:kR r≠kR j:=λh=>e (Xa h);obtain⟨G,H,e1,d0,y⟩:=(h.2 r).2;exact⟨by rw[TR u,(h.2 r).1];simp[e],G,H,by rw[TZ u];exact e1,by dsimp only;rw[Vq e];exact d0,y⟩
def PairD.put1{C:Qk}{w:World}{y:Nat}{D:DV}{o:List Nat}{E F:Nat->List Iv}(h:PairD C w y D o E F){j:Nat}{l:List Iv}{s A J:Value}(hs:Dat (DL C y w) w s (rg l))(I:D.atKey (kR j) (.held zP)=.held (.agg #[A,J])):
 PairD C w y (D.put (kR j) (.held (.agg #[A,s]))) (o++[j]) E (λr=>if r=j then l else F r):=by
 refine⟨h.1.put _ _,λr=>?_⟩;by_cases e:r=j
 .subst e;obtain⟨G,H,e1,d0,B⟩:=(h.2 r).2;rw[I]at e1;cases e1;exact⟨by rw[TV h.1 (Qc _)];simp,A,s,atKey_put_same h.1 (Qc _) _ _,d0,by dsimp only;rw[vD rfl];exact hs⟩
 .have u:kR r≠kR j:=λh=>e (Xa h);obtain⟨G,H,e1,d0,B⟩:=(h.2 r).2;exact⟨by rw[TR u,(h.2 r).1];simp[e],G,H,by rw[TZ u];exact e1,d0,by dsimp only;rw[Vq e];exact B⟩
def zc9{v:List En}{e:En}(h:∀f∈v,f.rep≠e.rep)(r:Nat):zT (v++[e]) r=if r=e.rep then kn e else zT v r:=by
 unfold zT;rw[List.find?_append];by_cases j:r=e.rep
 .subst j;rw[vD rfl,show List.find? (λf=>f.rep == e.rep) v=none from uQ.2 λf o=>by simpa using h f o];simp
 .rw[Vq j];have:List.find? (λf=>f.rep == r) [e]=none:=(by simp;exact λh=>j h.symm);rw[this,Option.or_none]
def Vj{v:List En}(h:zsC v){k:Nat}(hk:k<v.length):zT (v.take (k+1))=λr=>if r=v[k].rep then kn v[k] else zT (v.take k) r:=by
 funext r;rw[vj hk];refine zc9 (λf o=>?_) r;obtain⟨i,hi,rfl⟩:=Wj o;have j:i<k:=by simp at hi;omega
 have:=wP.1 h.2 i k a8 hk j;simp only[uZ];omega
def SmV(v:List En):Prop:=zsC v/\v.length<=1048576/\∀e∈v,e.holes.length<=10000
end
section
open Go.Maps
attribute [-go_sem] z7
def zkt(j y:Option Addr)(u B o A:Nat)(w:World):(Instr.index 262 (.agg #[.slice j u o,.slice y B A]) (.int .i64 0)).run xT w=.ok (.slice j u o) w:=dK
def zku(y j:Option Addr)(B u A o:Nat)(w:World):(Instr.index 262 (.agg #[.slice y B A,.slice j u o]) (.int .i64 1)).run xT w=.ok (.slice j u o) w:=dK
def zK{D:Qk}{w:World}{v:Value}{l:List Iv}(h:Dat D w v (rg l)):∃o j,v=.slice o l.length j:=by have u:Dat D w v (.sl (l.map Q2) .sh):=h;obtain⟨o,j,A,b,y,f,e1,_⟩:=(Rel.dat (ρ:=λ_=>0) (nb:=0) u).inv_sl;rw[ww]at e1;exact⟨o,j,e1⟩
def yg{w o:World}{b n:Nat}{D:DV}(h:w.ownsMap xT 36 rV b n D)(hb:o.heap[b]?=w.heap[b]?):o.ownsMap xT 36 rV b n D:=by obtain⟨u,j,y,r⟩:=h;exact⟨u,j,hb.trans y,r⟩
def Qf{w:World}{b n:Nat}{D:DV}(h:w.ownsMap xT 36 rV b n D){r:Nat}(B:r<zk){o u:Value}(A:D.atKey (kR r) (.held zP)=.held (.agg #[o,u])):
 (Instr.lookup 229 (.map (some b)) (.int .u64 (r:Nat)) false).run xT w=.ok (.agg #[o,u]) w:=by
 obtain⟨v,C,y,j⟩:=h.lookup vF underlying229 (zeC w) (zd:=.held zP) (zp:=[]) rfl (Zq B);rw[A]at j;unfold rV at j;cases j;exact y
def zeI{D:Qk}{w:World}{e:En}{o:Option Addr}{u:Nat}(y:Dat D w (.slice o e.holes.length u) (rg e.holes)):Dat D w (.agg #[.int .u64 e.rep,.int .u64 e.max,.slice o e.holes.length u]) (ep e):=by
 refine .agg _ _ rfl (λi hi=>?_) λi p j=>?_
 .match i,hi with
  |0,_=>rfl
  |1,_=>rfl
  |2,_=>rfl
 .match i,j with
  |0,j=>cases j;exact .v _
  |1,j=>cases j;exact .v _
  |2,j=>cases j;exact y
def zaa{C:Qk}{w:World}{I:Nat}{e:En}{E:Option Addr}{F:Nat}(M:zO e)(U:e.holes.length<=10000)(P:Dat C w (.slice E e.holes.length F) (rg e.holes))(L:∀b o,C b o->b<I)(O:I<=w.heap.size)(N:GL C w):
 Calls xT 180 #[.agg #[.int .u64 e.rep,.int .u64 e.max,.slice E e.holes.length F]] w λG y=>∃A j,G=.returned (.slice A (kn e).length j)/\Below w.heap.size w y/\Dat (λb o=>C b o\/(w.heap.size<=b/\b<y.heap.size)) y (.slice A (kn e).length j) (rg (kn e)):=by
 refine((XZ e M a8).2 C w _ N (λb o h=>Vm (L b o h) O) rfl (λi p u=>?_)).mono ?_
 .match i,u with
  |0,u=>cases u;exact zeI P
  |i+1,u=>simp at u
 .rintro G y ⟨v,J,rfl,hb,V,S,T,H,_⟩;have B:Dat J y v (.sl ((kn e).map Q2) .sh):=H;obtain⟨A,j,X,b,Q,f,e1,_⟩:=(Rel.dat (ρ:=λ_=>0) (nb:=0) B).inv_sl;rw[ww]at e1;subst e1;exact⟨A,j,rfl,hb,H.mono (λb o h=>(S b o h).imp id λK=>⟨K,T b o h⟩) λ_ _ _ _ h=>h⟩
def zW{w:World}{g:Nat}{j:Array Value}{t:TypeId}(h:w.heap[g]?=some (.cells j t (0,0)))(i:Nat)(v:Value)(o:j[i]?=some v):w.cell? ⟨g,i,none⟩=some v/\w.frozen? ⟨g,i,none⟩=false:=by
 constructor
 .simp[World.cell?,h,o]
 .simp[World.frozen?,h]
def zmT:(λr=>zT [] r)=λ_=>[]:=rfl
def Qm{C:Qk}{w wr y I:World}{D:DV}{u:List Nat}{A B:Nat->List Iv}{e:En}{U V v:Value}{G H:Obj}(J:∀b o,C b o->b<w.heap.size)(M:PairD C wr w.heap.size D u A B)(Q:D.atKey (kR e.rep) (.held zP)=.held (.agg #[U,V]))
 (P:Below w.heap.size w wr) (Z:w.heap.size<wr.heap.size) (E:Below ((wr.alloc G).alloc H).heap.size ((wr.alloc G).alloc H) y) (X:Dat (λb o=>C b o\/(((wr.alloc G).alloc H).heap.size<=b/\b<y.heap.size)) y v (rg (kn e))) (j:Nat)
 (K:(y.setCell ⟨wr.heap.size+1,j,none⟩ v).grownBy I (some w.heap.size)) :
 PairD C I w.heap.size (D.put (kR e.rep) (.held (.agg #[v,V]))) (u++[e.rep]) (λr=>if r=e.rep then kn e else A r) B /\
 PairD C I w.heap.size (D.put (kR e.rep) (.held (.agg #[U,v]))) (u++[e.rep]) A (λr=>if r=e.rep then kn e else B r)/\Below w.heap.size w I:=by
 have hs:((wr.alloc G).alloc H).heap.size=wr.heap.size+2:=b6
 have h3:wr.heap.size+2<=y.heap.size:=hs▸E.size;have F:∀k,k<wr.heap.size->(y.setCell ⟨wr.heap.size+1,j,none⟩ v).heap[k]?=wr.heap[k]?:=λk hk=>by rw[tw _ _ _ _ (by show k≠wr.heap.size+1;omega),E.block k a8,tu _ _ _ a9,tu _ _ _ hk]
 have T:PairD C (y.setCell ⟨wr.heap.size+1,j,none⟩ v) w.heap.size D u A B:=M.mono J a9 λk hk _=>F k hk;have O:Dat (DL C w.heap.size (y.setCell ⟨wr.heap.size+1,j,none⟩ v)) (y.setCell ⟨wr.heap.size+1,j,none⟩ v) v (rg (kn e)):=by
  refine X.mono (λb o h=>h.imp id λh=>⟨a8,?_⟩) λb o x h hx=>?_
  .show b<(y.setCell ⟨wr.heap.size+1,j,none⟩ v).heap.size;simp;omega
  .refine(tl (a:=⟨b,o,none⟩) (tw _ _ _ _ ?_)).trans hx;show b≠wr.heap.size+1;rcases h with h|h
   .have:=J b o h;omega
   .omega
 have S:∀{D:DV}{u:List Nat}{A B:Nat->List Iv},PairD C (y.setCell ⟨wr.heap.size+1,j,none⟩ v) w.heap.size D u A B->PairD C I w.heap.size D u A B:=λh=>h.mono J K.size λk hk L=>K.block k hk (dJ L);refine⟨S (T.put0 O Q),S (T.put1 O Q),?_⟩;have N:Below w.heap.size w (y.setCell ⟨wr.heap.size+1,j,none⟩ v):=by refine tW ?_ (by show w.heap.size<=wr.heap.size+1;omega) _;refine Below.trans ((P.alloc P.size G).alloc a9 H) (E.mono a8)
 exact N.grown K N.size λj Y=>by cases Y;exact Zp _
def J4(C:Qk)(a b:List En)(va vb:Value)(w:World)(ha:SmV a)(hb:SmV b)(ra:RdF C w.heap.size w va a)(rb:RdF C w.heap.size w vb b)(U:∀b o,C b o->b<w.heap.size)(hG:GL C w):
 Calls xT 146 #[va,vb] w λe w'=>e=.returned (.map (some w.heap.size))/\Below w.heap.size w w'/\∃D,w'.ownsMap xT 36 rV w.heap.size (a.length+b.length) D/\PairD C w' w.heap.size D (zM a++zM b) (zT a) (zT b):=by
 have aJ:=@run_makeMap xT
 have RA:=qL ra;have RB:=qL rb;obtain⟨aa,ca,rfl,aH,aA,_⟩:=ra;obtain⟨ab,cb,rfl,aI,aB,_⟩:=rb;unfold maxLen at aA aB;have i0:=zkt aa ab a.length b.length ca cb;have i1:=zku aa ab a.length b.length ca cb;go_enter func146,ntmps146
 go_wp2_with fail
 go_loopg [15] 2 (λg x wr=>∃D,((g=2/\x=.int .i64 0/\wr.ownsMap xT 36 rV w.heap.size 0 D/\PairD C wr w.heap.size D [] (λ_=>[]) (λ_=>[])) \/
  (g=1/\x=.int .i64 1/\wr.ownsMap xT 36 rV w.heap.size a.length D/\PairD C wr w.heap.size D (zM a) (zT a) (λ_=>[])) \/
  (g=0/\x=.int .i64 2/\wr.ownsMap xT 36 rV w.heap.size (a.length+b.length) D/\PairD C wr w.heap.size D (zM a++zM b) (zT a) (zT b)))/\Below w.heap.size w wr)
 case atStart=>exact⟨.map [],.inl ⟨rfl,rfl,TN _ _ _ _,PairD.start _ _ _⟩,(tr _ _).alloc (Zp _) _⟩
 case round=>
  obtain⟨D,aw,hB⟩:=hrel;obtain⟨wo,aF⟩:=xm (wr);subst aF;have Q:=qL hB;clear hB;rcases aw with⟨rfl,rfl,E,N⟩|⟨rfl,rfl,E,N⟩|⟨rfl,rfl,E,N⟩
  .have J:=qL E;have L:=qL N;clear E N
   go_wp2_with fail
   go_loopg [21] a.length (λg x wr=>∃k D,k<=a.length/\g=a.length-k/\x=.int .i64 k/\wr.ownsMap xT 36 rV w.heap.size (0+k) D/\PairD C wr w.heap.size D (zM (a.take k)) (zT (a.take k)) (λ_=>[])/\Below w.heap.size w wr/\w.heap.size<wr.heap.size)
   case atStart=>exact⟨0,D,X4 _,rfl,rfl,J.o,L.o,Q.o,J.o.lt⟩
   case round=>
    obtain⟨k,D',hk,rfl,rfl,u,I,F,aj⟩:=hrel;clear J L Q;by_cases y:k<a.length
    .have J:=qL u;have L:=qL I;have Q:=qL F;obtain⟨a',X,Z,_,_,ac⟩:=RdF.keep U RA.o λj T=>F.block j T;obtain⟨bb,aG,av,_,aC,M⟩:=ac (by intro e;subst e;simp at y);obtain⟨rfl,_,rfl⟩:aa=a'/\a.length=a.length/\ca=X:=(dJ Z);subst av;obtain⟨c0,c1,⟨hv,c2,K⟩,S,az⟩:=M k y;have HE:qA (∃e,e=a[k]):=⟨_,rfl⟩;obtain⟨e,he⟩:=HE.o;have hE:zO e/\e.holes.length<=10000:=(by rw[he];exact⟨ha.1.1 _ (Y1 y),ha.2.2 _ (Y1 y)⟩);have hT:=Vj ha.1 y;have hR:zM (a.take (k+1))=zM (a.take k)++[e.rep]:=(by unfold zM;rw[vj y,he,WJ];rfl);rw[<-he]at c0 c1 K S az hT;have HT:=qL hT;have HR:=qL hR;clear ac M he HE Z u I F hT hR;obtain⟨s0,s1,Y,ae,af⟩:=(L.o.2 e.rep).2;obtain⟨a0,n0,rfl⟩:=zK ae;obtain⟨a1,n1,rfl⟩:=zK af;clear ae af;have HA:=qL Y;have aD:e.holes.length<=maxLen:=(by have:=hE.2;unfold maxLen;omega);obtain⟨ah,ch,rfl⟩:=zK K;have HH:=qL K;clear K;have aE:=Qf (J.o.alloc (.cells #[.int .u64 e.rep,.int .u64 e.max,.slice ah e.holes.length ch] 181)) S HA.o;have ai:=zaa (w:=(wr.alloc (.cells #[.int .u64 e.rep,.int .u64 e.max,.slice ah e.holes.length ch] 181)).alloc (.cells #[.slice a0 (zT (a.take k) e.rep).length n0,.slice a1 ([]:List Iv).length n1] 234)) hE.1 hE.2
      (HH.o.mono (λ_ _ h=>h) λj o x T hx=>(tl (a:=⟨j,o,none⟩) (by have ax:=U j o T;rw[tu _ _ _ a9,tu _ _ _ (by show j<_;omega)])).trans hx) U a9
      (hG.mono (λ_ _ h=>h) λj o x T hx=>(tl (a:=⟨j,o,none⟩) (by have ax:=U j o T;rw[tu _ _ _ a9,tu _ _ _ (by show j<_;omega),Q.o.block j (U j o T)])).trans hx)
     have HK:=qL ai;clear Y ai;have HG:=qL hG;clear hG;have O:True:=trivial;have P:True:=trivial
     go_wp2_with (first
      | (go_at_call 180;have _t:=O;refine HK.o.mono ?_;rintro e' w3 ⟨ad,au,rfl,G,ag⟩
         have am:w3.heap[wr.heap.size]?=some (.cells #[.int .u64 e.rep,.int .u64 e.max,.slice ah e.holes.length ch] 181 (0,0)):=(by rw[G.block _ a9,tu _ _ _ b6];exact tn wr _);have B:w3.heap[wr.heap.size+1]?=some (.cells #[.slice a0 (zT (a.take k) e.rep).length n0,.slice a1 ([]:List Iv).length n1] 234 (0,0)):=by rw[G.block _ b6];have:=tn (wr.alloc (.cells #[.int .u64 e.rep,.int .u64 e.max,.slice ah e.holes.length ch] 181)) (.cells #[.slice a0 (zT (a.take k) e.rep).length n0,.slice a1 ([]:List Iv).length n1] 234);rwa[tv]at this
         have ak:w3.heap[w.heap.size]?=wr.heap[w.heap.size]?:=(by rw[G.block _ a9,tu _ _ _ a9,tu _ _ _ a8]);have f1:=(zW am 0 _ rfl).1;have f2:=(zW B 0 _ rfl).1;have f3:=(zW B 0 _ rfl).2;have f4:=(zW B 1 _ rfl).1;have ar:=qL (((yg J.o ak).setCell (a:=⟨wr.heap.size+1,0,none⟩) (by show w.heap.size≠wr.heap.size+1;omega) (.slice ad (kn e).length au)));have an:=qL G;have ao:=qL ag;clear am B ak G ag O)
      |(at_mapUpdate;have _t:=P;refine wpList_mapUpdate_own _ rfl _ _ _ 229 rfl 36 234 vF underlying229 rV w.heap.size (0+k) D' rfl ar.o (by have:=ha.2.1;unfold maxLen;omega) _ _ (kR e.rep) rfl rfl (Zq S) _ [] rfl ?_;intro w5 H A;clear P;have V:=qL H;have aq:=qL A;clear H A;dsimp only[Act.put])
      |go_in)
     obtain⟨p1,p2,p3⟩:=Qm U L.o HA.o Q.o aj an.o ao.o 0 aq.o;have h5:w.heap.size<w5.heap.size:=V.o.lt;go_roundg (a.length-(k+1));case measure=>omega
     case rel=>exact⟨k+1,_,y,rfl,b6,V.o,by rw[HR.o,HT.o];exact p1,p3,h5⟩
    .have ay:k=a.length:=a8;subst ay;rw[Wo]at I;have J:=qL u;have L:=qL I;have Q:=qL F;clear u I F
     go_wp2_with fail
     go_roundg 1;case measure=>omega
     case rel=>exact⟨D',.inr (.inl ⟨rfl,rfl,by have:=J.o;simpa using this,L.o⟩),Q.o⟩
  .have J:=qL E;have L:=qL N;clear E N
   go_wp2_with fail
   go_loopg [21] b.length (λg x wr=>∃k D,k<=b.length/\g=b.length-k/\x=.int .i64 k/\wr.ownsMap xT 36 rV w.heap.size (a.length+k) D/\PairD C wr w.heap.size D (zM a++zM (b.take k)) (zT a) (zT (b.take k))/\Below w.heap.size w wr/\w.heap.size<wr.heap.size)
   case atStart=>exact⟨0,D,X4 _,rfl,rfl,J.o.mono a8,(by have:=L.o;simpa[zM,zmT]using this),Q.o,J.o.lt⟩
   case round=>
    obtain⟨k,D',hk,rfl,rfl,u,I,F,aj⟩:=hrel;clear J L Q;by_cases y:k<b.length
    .have J:=qL u;have L:=qL I;have Q:=qL F;obtain⟨a',X,Z,_,_,ac⟩:=RdF.keep U RB.o λj T=>F.block j T;obtain⟨bb,aG,av,_,aC,M⟩:=ac (by intro e;subst e;simp at y);obtain⟨rfl,_,rfl⟩:ab=a'/\b.length=b.length/\cb=X:=(dJ Z);subst av;obtain⟨c0,c1,⟨hv,c2,K⟩,S,az⟩:=M k y;have HE:qA (∃e,e=b[k]):=⟨_,rfl⟩;obtain⟨e,he⟩:=HE.o;have hE:zO e/\e.holes.length<=10000:=(by rw[he];exact⟨hb.1.1 _ (Y1 y),hb.2.2 _ (Y1 y)⟩);have hT:=Vj hb.1 y;have hR:zM (b.take (k+1))=zM (b.take k)++[e.rep]:=(by unfold zM;rw[vj y,he,WJ];rfl);rw[<-he]at c0 c1 K S az hT;have HT:=qL hT;have HR:=qL hR;clear ac M he HE Z u I F hT hR;obtain⟨s0,s1,Y,ae,af⟩:=(L.o.2 e.rep).2;obtain⟨a0,n0,rfl⟩:=zK ae;obtain⟨a1,n1,rfl⟩:=zK af;clear ae af;have HA:=qL Y;have aD:e.holes.length<=maxLen:=(by have:=hE.2;unfold maxLen;omega);obtain⟨ah,ch,rfl⟩:=zK K;have HH:=qL K;clear K;have aE:=Qf (J.o.alloc (.cells #[.int .u64 e.rep,.int .u64 e.max,.slice ah e.holes.length ch] 181)) S HA.o;have ai:=zaa (w:=(wr.alloc (.cells #[.int .u64 e.rep,.int .u64 e.max,.slice ah e.holes.length ch] 181)).alloc (.cells #[.slice a0 (zT a e.rep).length n0,.slice a1 (zT (b.take k) e.rep).length n1] 234)) hE.1 hE.2
      (HH.o.mono (λ_ _ h=>h) λj o x T hx=>(tl (a:=⟨j,o,none⟩) (by have ax:=U j o T;rw[tu _ _ _ a9,tu _ _ _ (by show j<_;omega)])).trans hx) U a9
      (hG.mono (λ_ _ h=>h) λj o x T hx=>(tl (a:=⟨j,o,none⟩) (by have ax:=U j o T;rw[tu _ _ _ a9,tu _ _ _ (by show j<_;omega),Q.o.block j (U j o T)])).trans hx)
     have HK:=qL ai;clear Y ai;have HG:=qL hG;clear hG;have O:True:=trivial;have P:True:=trivial
     go_wp2_with (first
      | (go_at_call 180;have _t:=O;refine HK.o.mono ?_;rintro e' w3 ⟨ad,au,rfl,G,ag⟩
         have am:w3.heap[wr.heap.size]?=some (.cells #[.int .u64 e.rep,.int .u64 e.max,.slice ah e.holes.length ch] 181 (0,0)):=(by rw[G.block _ a9,tu _ _ _ b6];exact tn wr _);have B:w3.heap[wr.heap.size+1]?=some (.cells #[.slice a0 (zT a e.rep).length n0,.slice a1 (zT (b.take k) e.rep).length n1] 234 (0,0)):=by rw[G.block _ b6];have:=tn (wr.alloc (.cells #[.int .u64 e.rep,.int .u64 e.max,.slice ah e.holes.length ch] 181)) (.cells #[.slice a0 (zT a e.rep).length n0,.slice a1 (zT (b.take k) e.rep).length n1] 234);rwa[tv]at this
         have ak:w3.heap[w.heap.size]?=wr.heap[w.heap.size]?:=(by rw[G.block _ a9,tu _ _ _ a9,tu _ _ _ a8]);have f1:=(zW am 0 _ rfl).1;have f2:=(zW B 0 _ rfl).1;have f3:=(zW B 1 _ rfl).2;have f4:=(zW B 1 _ rfl).1;have ar:=qL (((yg J.o ak).setCell (a:=⟨wr.heap.size+1,1,none⟩) (by show w.heap.size≠wr.heap.size+1;omega) (.slice ad (kn e).length au)));have an:=qL G;have ao:=qL ag;clear am B ak G ag O)
      |(at_mapUpdate;have _t:=P;refine wpList_mapUpdate_own _ rfl _ _ _ 229 rfl 36 234 vF underlying229 rV w.heap.size (a.length+k) D' rfl ar.o (by have:=hb.2.1;have:=ha.2.1;unfold maxLen;omega) _ _ (kR e.rep) rfl rfl (Zq S) _ [] rfl ?_;intro w5 H A;clear P;have V:=qL H;have aq:=qL A;clear H A;dsimp only[Act.put])
      |go_in)
     obtain⟨p1,p2,p3⟩:=Qm U L.o HA.o Q.o aj an.o ao.o 1 aq.o;have h5:w.heap.size<w5.heap.size:=V.o.lt;go_roundg (b.length-(k+1));case measure=>omega
     case rel=>exact⟨k+1,_,y,rfl,b6,V.o,by rw[HR.o,HT.o];rw[<-wQ];exact p2,p3,h5⟩
    .have ay:k=b.length:=a8;subst ay;rw[Wo]at I;have J:=qL u;have L:=qL I;have Q:=qL F;clear u I F
     go_wp2_with fail
     go_roundg 0;case measure=>omega
     case rel=>exact⟨D',.inr (.inr ⟨rfl,rfl,J.o,L.o⟩),Q.o⟩
  .have J:=qL E;have L:=qL N;clear E N
   go_wp2_with fail
   refine tz (tJ rfl _ _ _) rfl ?_;exact⟨rfl,Q.o,D,J.o,L.o⟩
end
section
open Go.Lib
attribute [-go_sem] z7
def uV(r:Nat):Value:=.int .u64 (r:Nat)
def OwnU(base:Nat)(w:World)(v:Value)(l:List Nat):Prop:=w.ownsRow base 36 1 v l.length (l.map uV)
def kF{α:Type}:List α->Nat->List α->List α
 |xs,_,[]=>xs
 |xs,o,v::r=>kF (xs.set o v) (o+1) r
def jt{α:Type}:∀(u j:List α)(o:Nat),o+u.length<=j.length->kF j o u=j.take o++u++j.drop (o+u.length)
 |[],j,o,h=>by simp[kF]
 |v::r,j,o,h=>by simp only[wv]at h;rw[kF,jt r (j.set o v) (o+1) (by rw[Ui];omega)];rw[List.drop_set_of_lt a8,vj (by rw[Ui];omega),List.take_set_of_le (Zp _),List.getElem_set_self];simp only[wQ,wv,yb,Yf];rw[show o+1+r.length=o+(r.length+1) by omega]
def jW(w:World)(r:Option Nat):w.grownBy w r:=⟨rfl,rfl,rfl,Zp _,λ_ _ _=>rfl⟩
def yn{a b c:World}{r:Option Nat}(h:a.grownBy b r)(k:b.grownBy c r):a.grownBy c r:=
 ⟨k.os.trans h.os,k.tape.trans h.tape,k.output.trans h.output,V1 h.size k.size,λi hi hs=>(k.block i (Vm hi h.size) hs).trans (h.block i hi hs)⟩
def z9{base:Nat}{e:TypeId}{size g n j:Nat}:∀(y:List Value)(o:Nat)(w:World)(u:List Value),w.ownsRow base e size (.slice (some ⟨g,0,none⟩) n j) n u ->
 (w.setCells g o y).ownsRow base e size (.slice (some ⟨g,0,none⟩) n j) n (kF u o y)/\w.grownBy (w.setCells g o y) (some g)
 |[],_,w,u,h=>⟨h,jW _ _⟩
 |v::r,o,w,u,h=>by obtain⟨A,B⟩:=h.stored o v;obtain⟨C,E⟩:=z9 r (o+1) _ _ A;exact⟨C,yn B E⟩
def Vf:(xT.info? 36).map (λi=>(i.zero,i.size,i.bytes))=some (some (.int .u64 0),1,8):=dK
def QN{l:List Nat}:∀v∈l.map uV,v.oneCell'=true:=λv j=>by obtain⟨r,_,rfl⟩:=wB.1 j;rfl
def OwnU.cases{base:Nat}{w:World}{v:Value}{l:List Nat}(h:OwnU base w v l):(v=.slice none 0 0/\l=[]) \/
 ∃g j o,v=.slice (some ⟨g,0,none⟩) l.length j/\base<=g/\g<w.heap.size/\w.heap[g]?=some (.cells o 36 (0,0))/\l.length<=j/\j<=maxLen/\o.size=j/\o.toList.take l.length=l.map uV:=by
 rcases h.2 with⟨u,y⟩|⟨g,j,o,u,y,A,B,C,F,E⟩
 .exact .inl ⟨u,wW.1 y⟩
 .exact .inr ⟨g,j,o,u,y,(XV.1 A).1,A,B,C,a8,by rwa[Uj]at E⟩
def zc5{j:List Value}{u x:Value}{i:Nat}(hi:i<=j.length):kF (kF (j++[u]) (i+1) (j.drop i)) i [x]=j.take i++x::j.drop i:=by
 rw[jt (j.drop i) _ _ a9];have w:i+1+(j.drop i).length=j.length+1:=a9
 rw[w,show j.length+1=(j++[u]).length by simp,uL,wY];rw[jt [x] _ _ a9];rw[Wp a9,List.take_take,WZ a8,Wp hi];have o:((j++[u]).take (i+1)).length=i+1:=a9
 rw[show i+[x].length=i+1 from rfl,UA,o,UM,Wg,show ((j++[u]).take (i+1)).drop (i+1)=[] from U2 a8];simp
def kG{α:Type}(a b c v:List α)(h:b.length=v.length){i:Nat}(hi:i=a.length):kF (a++b++c) i v=a++v++c:=by subst hi;rw[jt _ _ _ a9,wQ a b c,List.take_left' rfl,<-List.drop_drop,List.drop_left' rfl,<-h,List.drop_left' rfl]
def zc4{j:List Value}{u x:Value}{i:Nat}(hi:i<=j.length):kF (kF (j.take i++List.replicate (j.length+1-i) u) i [x]) (i+1) (j.drop i)=j.take i++x::j.drop i:=by
 have o:(j.take i).length=i:=a9
 have e1:=kG (j.take i) [u] (List.replicate (j.length-i) u) [x] rfl o.symm;have e2:=kG (j.take i++[x]) (List.replicate (j.length-i) u) [] (j.drop i) b6 (i:=i+1) a9;rw[show j.length+1-i=(j.length-i)+1 by omega,List.replicate_succ,show j.take i++u::List.replicate (j.length-i) u=j.take i++[u]++List.replicate (j.length-i) u by simp,e1];rw[wY,wY]at e2;rw[e2];simp
def vH{w:World}{A:Nat}{vt:TypeId}{x:Nat}(y:w.heap[A]?=some (.cells #[uV x] vt (0,0))):∀j u,[uV x][j]?=some u->w.cell? ((⟨A,0,none⟩:Addr).add j)=some u:=λj u o=>by
 match j,o with
 |0,o=>cases o;simp[World.cell?,Addr.add,y]
 |j+1,o=>simp at o
def zfr(base J:Nat)(vt:TypeId)(w:World)(v:Value)(l:List Nat)(x:Nat)(j:OwnU base w v l)(N:w.heap[J]?=some (.cells #[uV x] vt (0,0)))(hl:l.length<=1099511627776)(y:base<=w.heap.size):
 Calls xT 182 #[v,.int .i64 (l.length:Nat),.slice (some ⟨J,0,none⟩) 1 1] w λe A=>∃o,e=.returned o/\OwnU base A o (l++[x])/\w.grownBy A v.ownBlock/\(o.ownBlock=v.ownBlock\/o.ownBlock=some w.heap.size):=by
 obtain⟨T,F,G,H,I⟩:=tP Vf;have Q:=vH N;have B:∀u∈[uV x],u.oneCell'=true:=λu S=>by simp at S;subst S;rfl
 have O:=qL j;have fin:∀o A,A.ownsRow base 36 1 o (l.length+1) (l.map uV++[uV x])->OwnU base A o (l++[x]):=λo A h=>by unfold OwnU;simpa using h
 rcases j.cases with⟨rfl,rfl⟩|⟨g,K,U,rfl,V,X,Y,Z,L,ab,M⟩
 .clear j;go_enter func182,ntmps182
  go_wp2_with (at_builtin;refine Td _ rfl _ _ 128 rfl base 36 T (.int .u64 0) 1 8 underlying128 F G H I rfl b8 _ _ _ rfl O.o ⟨J,0,none⟩ 1 1 [uV x] rfl rfl Q B (by simp[maxLen]) b6 y ?_;intro o A ho E _ C)
  go_ret;exact⟨o,rfl,fin o A ho,E,C⟩
 .unfold maxLen at L;have P:K<=9223372036854775807:=a8;clear j M;go_enter func182,ntmps182
  go_wp2_with (at_builtin;refine Td _ rfl _ _ 128 rfl base 36 T (.int .u64 0) 1 8 underlying128 F G H I rfl b8 _ _ _ rfl O.o ⟨J,0,none⟩ 1 1 [uV x] rfl rfl Q B c8 a8 y ?_;intro o A ho E _ C)
  all_goals (go_ret;exact⟨o,rfl,fin o A ho,E,C⟩)
def zgG(n:Nat):(Builtin.zeroCells (Value.int .u64 0).cells n).toList=List.replicate n (.int .u64 0):=by
 apply List.ext_getElem
 .simp[Builtin.zeroCells,Value.cells]
 .intro i j o;simp[Builtin.zeroCells,Value.cells,Nat.mod_one]
def KX{base:Nat}{w:World}{v:Value}{l:List Nat}{x i:Nat}(hi:i<=l.length)(h:w.ownsRow base 36 1 v (l.length+1) ((l.map uV).take i++uV x::(l.map uV).drop i)):OwnU base w v (l.take i++x::l.drop i):=by unfold OwnU;rw[show (l.take i++x::l.drop i).length=l.length+1 by simp;omega,WJ,Wx,List.map_take,List.map_drop];exact h
def zfs(base S:Nat)(vt:TypeId)(w:World)(g o:Nat)(l:List Nat)(x i:Nat)(hi:i<l.length)(E:OwnU base w (.slice (some ⟨g,0,none⟩) l.length o) l)(J:o<l.length+1)(af:w.heap[S]?=some (.cells #[uV x] vt (0,0)))(hl:l.length<=1099511627776)(ab:base<=w.heap.size):
 Calls xT 182 #[.slice (some ⟨g,0,none⟩) l.length o,.int .i64 (i:Nat),.slice (some ⟨S,0,none⟩) 1 1] w λe w'=>∃v',e=.returned v'/\OwnU base w' v' (l.take i++x::l.drop i)/\w.grownBy w' none/\v'.ownBlock=some w.heap.size:=by
 obtain⟨i0,am,aC,hzs,au⟩:=tP Vf;obtain⟨n,hn⟩:=xm (l.length);obtain⟨A,I⟩:=xm (l.map uV);have ac:A.length=n:=by rw[I,hn,ww]
 have Q:∀u∈A,u.oneCell'=true:=by rw[I];exact QN
 have aq:=vH af;have aB:S<w.heap.size:=(XV.1 af).1;have az:g<w.heap.size:=(E.lt g rfl).2;have aL:n<=o:=by
  rcases E.cases with⟨h,_⟩|⟨g',aE,_,h,_,_,_,h4,_⟩
  .cases h
  .cases h;omega
 have hg:∀j v,A[j]?=some v->w.cell? ⟨g,j,none⟩=some v:=λj v F=>by have:=tI E (g:=g) rfl j v (by rw[<-I];exact F);rw[zh,wn]at this;exact this
 rw[<-hn]at hi E J hl⊢;have ao:(n:Int)+1-(i:Int)=((n+1-i:Nat):Int):=a8
 have ad:i+(n+1-i)=n+1:=a8
 have P:(Builtin.firstCells i0.size i (.slice (some ⟨g,0,none⟩) i o)).run xT w.drew=.ok (A.take i).toArray w.drew:=by
  rw[hzs];refine TL w.drew 1 i ⟨g,0,none⟩ i o (A.take i) (by rw[Wc];omega) (λj v F=>?_);rw[wt]at F;split at F
  .have:=hg j v F;rw[zh,wn];exact this
  .cases F
 have ae:∀L,(Builtin.append_ #[128,3] L #[.slice (some ⟨g,0,none⟩) i o,.int .i64 ((n:Int)+1-(i:Int))]).run xT w =
  .ok (.slice (some ⟨w.heap.size,0,none⟩) (n+1) (grownCap w (n+1) o 36)) (w.drew.alloc (.cells ((A.take i).toArray++Builtin.zeroCells (Value.int .u64 0).cells (n+1-i)++Builtin.zeroCells (Value.int .u64 0).cells (grownCap w (n+1) o 36 - (n+1))) 36)):=λL=>by
  have h:=TP w 128 3 L 36 i0 _ .i64 .i64 underlying128 underlying3 am aC (some ⟨g,0,none⟩) i o (A.take i) P (n+1-i) a8 a8 a8 a8 (by rw[au];omega) (by rw[au,ad];exact T1 J a8);rw[ad]at h;rw[ao];exact h
 obtain⟨G,hG⟩:∃G,G=grownCap w (n+1) o 36 := ⟨_,rfl⟩;have ax:n+1<=G:=by rw[hG];exact TI w _ _ _
 have ag:G<=maxLen:=by rw[hG];exact TA w _ _ _ c8
 obtain⟨R,hR⟩:∃R:Array Value,R=(A.take i).toArray++Builtin.zeroCells (Value.int .u64 0).cells (n+1-i)++Builtin.zeroCells (Value.int .u64 0).cells (G-(n+1)):=⟨_,rfl⟩;rw[<-hG,<-hR]at ae;have aA:(A.take i).length=i:=by rw[Wc];omega
 have Y:R.toList=(A.take i++List.replicate (A.length+1-i) (.int .u64 0))++List.replicate (G-(n+1)) (.int .u64 0):=by rw[hR];simp only[WT,zgG,ac]
 have ay:R.size=G:=by have:R.toList.length=G:=(by rw[Y];simp;omega);simpa using this
 obtain⟨B,C⟩:=xm (w.drew.alloc (.cells R 36));have o1:B.ownsRow base 36 1 (.slice (some ⟨w.heap.size,0,none⟩) (n+1) G) (n+1) (A.take i++List.replicate (A.length+1-i) (.int .u64 0)):=by
  refine⟨a9,.inr ⟨w.heap.size,G,R,rfl,ab,?_,ax,ag,a8,?_⟩⟩
  .rw[C];exact tn w.drew _
  .rw[Y,Wp a9,wm a9]
 obtain⟨o2,V⟩:=z9 [uV x] i _ _ o1;obtain⟨o3,g3⟩:=z9 (A.drop i) (i+1) ((B.setCells w.heap.size i [uV x]).drew) _ o2;rw[zc4 a8]at o3;have U:w.grownBy B none:=by rw[C];exact⟨rfl,rfl,rfl,b6,λk hk _=>tu w.drew _ _ hk⟩
 have N:w.grownBy (((B.setCells w.heap.size i [uV x]).drew).setCells w.heap.size (i+1) (A.drop i)) none:=by refine⟨g3.os.trans (V.os.trans U.os),g3.tape.trans (V.tape.trans U.tape),g3.output.trans (V.output.trans U.output),V1 U.size (V1 V.size g3.size),λk hk _=>?_⟩;have an:k<B.heap.size:=Vm hk U.size;have M:some k≠some w.heap.size:=λe=>(by cases e;omega);rw[g3.block k (Vm an V.size) M];show (B.setCells w.heap.size i [uV x]).heap[k]?=_;rw[V.block k an M,U.block k hk b6]
 have OF:=qL (KX (l:=l) (x:=x) (i:=i) a8 (by rw[<-hn,<-I];exact o3));have GA:=qL N;clear o3 N o1 o2;rw[<-C]at ae;have hN:∀j,j<n+1->(B.cell? ⟨w.heap.size,j,none⟩).isSome=true:=λj F=>by rw[C,tV (w:=w.drew) R _ w.heap.size j rfl,Wd a8];rfl
 have X:∀j,B.frozen? ⟨w.heap.size,j,none⟩=false:=λj=>by rw[C];exact TW (w:=w.drew) R _ w.heap.size j rfl
 have ah:∀j v,w.cell? ⟨g,j,none⟩=some v->B.cell? ⟨g,j,none⟩=some v:=λj v h=>by rw[C,Tm (w:=w.drew) _ g j az];exact h
 have ai:∀j v,w.cell? ⟨S,j,none⟩=some v->B.cell? ⟨S,j,none⟩=some v:=λj v h=>by rw[C,Tm (w:=w.drew) _ S j aB];exact h
 have ar:(xT.info? 36).map (·.size)=some 1:=by rw[am];simp[hzs]
 have K:∀u∈[uV x],u.oneCell'=true:=λu hu=>by simp at hu;subst hu;rfl
 have aj:∀(W:World),(∀y,W.cell? y=B.cell? y)->(∀y,W.frozen? y=B.frozen? y)->∀L T,(Builtin.copy_ #[128,128] L #[.slice (some ⟨w.heap.size,i,none⟩) (n+1-i) T,.slice (some ⟨S,0,none⟩) 1 1]).run xT W=.ok (goInt [uV x].length) (W.setCells w.heap.size i [uV x]):=λW H Z L T=>
  TO W _ _ L 36 w.heap.size i (n+1-i) T ⟨S,0,none⟩ 1 1 [uV x] underlying128 ar (by simp only[uW,Ul];split<;>omega)
   (λj v F=>by have:=aq j v F;rw[zh]at this;rw[H,zh];exact ai _ v this)
   (λj F=>by rw[H];simp at F;exact hN _ a8) (λj F=>by rw[Z];exact X _) K
 have ak:(A.drop i).length=n-i:=by rw[W7,ac]
 have M:g≠w.heap.size:=a8
 have O:∀(W:World),(∀y,W.cell? y=(B.setCells w.heap.size i [uV x]).cell? y)->(∀y,W.frozen? y=(B.setCells w.heap.size i [uV x]).frozen? y)->∀L T sc,(Builtin.copy_ #[128,128] L #[.slice (some ⟨w.heap.size,i+1,none⟩) (n-i) T,.slice (some ⟨g,i,none⟩) (n-i) sc]).run xT W=.ok (goInt (A.drop i).length) (W.setCells w.heap.size (i+1) (A.drop i)):=λW H Z L T sc=>
  TO W _ _ L 36 w.heap.size (i+1) (n-i) T ⟨g,i,none⟩ (n-i) sc (A.drop i) underlying128 ar (by rw[ak];simp only[Ul];split<;>omega)
   (λj v F=>by
     rw[H,zh,Th _ _ _ _ _ (λh _=>absurd h M)];exact ah _ v (hg (i+j) v (by rwa[Wi]at F)))
   (λj F=>by rw[H];exact isSome_setCells _ _ _ _ (λt ht=>hN _ (by simp at ht;omega)) _ (hN _ a8))
   (λj F=>by rw[Z,Tn];exact X _) (λv hv=>Q v (Wr hv))
 have av:∀y,((B.setCells w.heap.size i [uV x]).drew).cell? y=(B.setCells w.heap.size i [uV x]).cell? y:=λy=>rfl;have aw:∀y,((B.setCells w.heap.size i [uV x]).drew).frozen? y=(B.setCells w.heap.size i [uV x]).frozen? y:=λy=>rfl;have aO:¬((i:Int)=(n:Int)):=a8
 have aP:(o:Int)<(n:Int)+1:=a8
 unfold maxLen at ag;have aG:¬(G=i):=a8
 have aF:¬(G=i+1):=a8
 have aJ:¬(o=i):=a8
 have aN:IntKind.i64.wrap ((i:Int)+1)=(i:Int)+1:=by rw[Tw];omega
 have aH:(0:Int)<=(i:Int)+1:=a8
 have aK:i<=n:=a8
 have aM:((i:Int)+1).toNat=i+1:=a8
 have aI:(i:Int)<=(n:Int):=a8
 clear hn ao ad P hG Y hR ay E hg hN X ah ai Q K ac I aq af aA ak U V g3 C;go_enter func182,ntmps182
 go_wp2_with (first
  |(at_builtin;refine Lib.wpList_append_run _ rfl _ _ _ _ rfl _ _ rfl rfl _ _ (ae _) ?_)
  |(at_builtin;refine wpList_copy_runI _ rfl _ _ 128 128 rfl _ _ rfl rfl (aj _ (λ_=>rfl) (λ_=>rfl) _ _) ?_)
  |(at_builtin;refine wpList_copy_runI _ rfl _ _ 128 128 rfl _ _ rfl rfl (O _ (λ_=>rfl) (λ_=>rfl) _ _ _) ?_))
 have aD:xT.follows .mixedOrders=true:=dK
 go_region_law_o (refine step_copy_runI rfl _ _ 128 128 rfl (.slice (some ⟨w.heap.size,i+1,none⟩) (n-i) (G-(i+1))) (.slice (some ⟨g,i,none⟩) (n-i) (o-i)) dH dH (O _ av aw _ (G-(i+1)) (o-i)) ?_)
 go_wp2;refine tz (tJ rfl _ _ _) rfl ?_;exact⟨_,rfl,OF.o,GA.o,rfl⟩
def za8(base N:Nat)(vt:TypeId)(w:World)(g o:Nat)(l:List Nat)(x i:Nat)(hi:i<l.length)(E:OwnU base w (.slice (some ⟨g,0,none⟩) l.length o) l)(L:l.length+1<=o)(M:w.heap[N]?=some (.cells #[uV x] vt (0,0)))(ai:N≠g)(hl:l.length<=1099511627776):
 Calls xT 182 #[.slice (some ⟨g,0,none⟩) l.length o,.int .i64 (i:Nat),.slice (some ⟨N,0,none⟩) 1 1] w λe w'=>∃v',e=.returned v'/\OwnU base w' v' (l.take i++x::l.drop i)/\w.grownBy w' (some g)/\v'.ownBlock=some g:=by
 obtain⟨i0,av,aG,hzs,aI⟩:=tP Vf;obtain⟨n,hn⟩:=xm (l.length);obtain⟨F,H⟩:=xm (l.map uV);have ad:F.length=n:=by rw[H,hn,ww]
 have Q:∀u∈F,u.oneCell'=true:=by rw[H];exact QN
 have aj:=vH M;obtain⟨A,ar,J,P,U,Y⟩:∃A,base<=g/\w.heap[g]?=some (.cells A 36 (0,0))/\o<=maxLen/\A.size=o/\A.toList.take l.length=l.map uV:=by
  rcases E.cases with⟨h,_⟩|⟨g',ay,A,h,h1,_,h3,_,h5,h6,h7⟩
  .cases h
  .cases h;exact⟨A,h1,h3,h5,h6,h7⟩
 rw[<-hn,<-H]at Y;rw[<-hn]at hi E L hl⊢;have ah:n<A.toList.length:=a9
 obtain⟨u,hu⟩:=xm (A.toList[n]);have o0:w.drew.ownsRow base 36 1 (.slice (some ⟨g,0,none⟩) (n+1) o) (n+1) (F++[u]):=by refine⟨a9,.inr ⟨g,o,A,rfl,ar,J,L,P,a8,?_⟩⟩;rw[Uj,vj ah,Y,hu]
 obtain⟨o1,g1⟩:=z9 (F.drop i) (i+1) _ _ o0;obtain⟨o2,g2⟩:=z9 [uV x] i _ _ o1;rw[zc5 a8]at o2;have g0:w.grownBy w.drew (some g):=⟨rfl,rfl,rfl,Zp _,λ_ _ _=>rfl⟩;have OF:=qL (KX (l:=l) (x:=x) (i:=i) a8 (by rw[<-hn,<-H];exact o2));have GA:=qL (yn g0 (yn g1 g2));have B:∀j,j<o->(w.cell? ⟨g,j,none⟩).isSome=true:=λj C=>by simp[World.cell?,J,U,C]
 have X:∀j,w.frozen? ⟨g,j,none⟩=false:=λj=>by simp[World.frozen?,J]
 have hg:∀j v,F[j]?=some v->w.cell? ⟨g,j,none⟩=some v:=λj v C=>by have:=tI E (g:=g) rfl j v (by rw[<-H];exact C);rw[zh,wn]at this;exact this
 have ak:w.shape? N=some (vt,1):=by simp[World.shape?,M]
 have am:w.shape? g=some (36,o):=by simp[World.shape?,J,U]
 have af:w.frozen? ⟨N,0,none⟩=false:=by simp[World.frozen?,M]
 have ag:w.frozen? ⟨N,1,none⟩=false:=by simp[World.frozen?,M]
 have an:(xT.info? 36).map (·.size)=some 1:=by rw[av];simp[hzs]
 have K:∀u∈[uV x],u.oneCell'=true:=λu hu=>by simp at hu;subst hu;rfl
 have aw:∀lb cb,(callFunc 201 #[.slice (some ⟨N,0,none⟩) 1 1,.slice (some ⟨g,i+1,none⟩) lb cb]).run xT w=.ok (.value (.bool false)) w:=λlb cb=>by
  rw[tL func201 dK dK dK (e:=Extern.SlicesOverlaps.overlaps #[128,128] #[4]) dK,
   TX w 128 4 36 underlying128 1 (λw=>dK) ⟨N,0,none⟩ ⟨g,i+1,none⟩ 1 1 lb cb ai vt 36 1 o ak am a8 af ag]
  rfl
 have V:(F.drop i).length=n-i:=by rw[W7,ad]
 have I:∀O T sc,(Builtin.copy_ #[128,128] O #[.slice (some ⟨g,i+1,none⟩) (n-i) T,.slice (some ⟨g,i,none⟩) (n+1-i) sc]).run xT w.drew=.ok (goInt (F.drop i).length) (w.drew.setCells g (i+1) (F.drop i)):=λO T sc=>
  TO w.drew _ _ O 36 g (i+1) (n-i) T ⟨g,i,none⟩ (n+1-i) sc (F.drop i) underlying128 an (by rw[V];simp only[Ul];split<;>omega)
   (λj v C=>by rw[zh];exact hg (i+j) v (by rwa[Wi]at C))
   (λj C=>B _ a8) (λj C=>X _) (λv hv=>Q v (Wr hv))
 obtain⟨W1,G⟩:=xm (w.drew.setCells g (i+1) (F.drop i));have S:∀k,k<o->(W1.cell? ⟨g,k,none⟩).isSome=true:=λk hk=>by rw[G];exact isSome_setCells g (F.drop i) (i+1) w.drew (λj C=>B _ (by rw[V]at C;omega)) k (B k hk)
 have ae:∀(W:World),(∀y,W.cell? y=W1.cell? y)->(∀y,W.frozen? y=W1.frozen? y)->∀O T,(Builtin.copy_ #[128,128] O #[.slice (some ⟨g,i,none⟩) (n+1-i) T,.slice (some ⟨N,0,none⟩) 1 1]).run xT W=.ok (goInt [uV x].length) (W.setCells g i [uV x]):=λW ac aq O T=>
  TO W _ _ O 36 g i (n+1-i) T ⟨N,0,none⟩ 1 1 [uV x] underlying128 an (by simp only[uW,Ul];split<;>omega)
   (λj v C=>by
     rw[ac,G,Th g _ _ _ _ (λh _=>absurd h (by rw[zh];exact ai))];exact aj j v C)
   (λj C=>by rw[ac];simp at C;exact S _ a8) (λj C=>by rw[aq,G,Tn];exact X _) K
 rw[<-G]at I;have ao:=qL G;have aH:¬((i:Int)=(n:Int)):=a8
 unfold maxLen at P;have aF:IntKind.i64.wrap ((i:Int)+1)=(i:Int)+1:=by rw[Tw];omega
 have az:(0:Int)<=(i:Int)+1:=a8
 have aD:i<=n:=a8
 have aE:((i:Int)+1).toNat=i+1:=a8
 have aA:¬(o=i+1):=a8
 have aB:(i:Int)<=(n:Int)+1:=a8
 have aC:¬(o=i):=a8
 clear hn o0 o1 o2 g0 g1 g2 E B X hg ak am af ag S G V Q K aj ad H M J U Y ah hu;go_enter func182,ntmps182
 have au:=λO=>I O (o-(i+1)) (o-i);have ax:xT.follows .mixedOrders=true:=dK
 go_wp2_with (simp only[aw])
 go_region_law_o (refine step_copy_runI rfl _ _ 128 128 rfl _ _ dH dH (I _ _ _) ?_)
 go_wp2_with (first|(at_builtin;refine wpList_copy_runI _ rfl _ _ 128 128 rfl _ _ rfl rfl (ae _ (λ_=>rfl) (λ_=>rfl) _ _) ?_))
 have ab:=OF.o;have Z:=GA.o;rw[<-ao.o]at ab Z;refine tz (tJ rfl _ _ _) rfl ?_;exact⟨_,rfl,ab,Z,rfl⟩
def Y9(base E:Nat)(F:TypeId)(w:World)(v:Value)(l:List Nat)(x i:Nat)(hi:i<=l.length)(j:OwnU base w v l)(C:w.heap[E]?=some (.cells #[uV x] F (0,0)))(K:v.ownBlock≠some E)(J:l.length<=1099511627776)(o:base<=w.heap.size):
 Calls xT 182 #[v,.int .i64 (i:Nat),.slice (some ⟨E,0,none⟩) 1 1] w λe G=>∃u,e=.returned u/\OwnU base G u (l.take i++x::l.drop i)/\w.grownBy G v.ownBlock/\(u.ownBlock=v.ownBlock\/u.ownBlock=some w.heap.size):=by
 by_cases O:i=l.length
 .subst O;rw[Wo,uL];exact zfr base E F w v l x j C J o
 .have B:i<l.length:=a8;rcases j.cases with⟨_,M⟩|⟨g,y,L,rfl,_⟩
  .subst M;simp at B
  .by_cases N:y<l.length+1
   .refine(zfs base E F w g y l x i B j N C J o).mono ?_;rintro e G ⟨u,rfl,H,A,I⟩;exact⟨u,rfl,H,⟨A.os,A.tape,A.output,A.size,λk hk _=>A.block k hk b6⟩,.inr I⟩
   .refine(za8 base E F w g y l x i B j a8 C (λe=>K (by rw[e];rfl)) J).mono ?_;rintro e G ⟨u,rfl,H,A,I⟩;exact⟨u,rfl,H,A,.inl I⟩
end
def DX(C:Qk)(j:Nat)(w:World)(v:Value):Nat->Nat->Prop:=λb o=>DL C j w b o/\v.ownBlock≠some b
def OutE(C:Qk)(mb base:Nat)(w:World)(v:Value)(j:List En):Prop:=
 ∃o,w.ownsRow base 181 3 v j.length o/\∀i (h:i<j.length),o[i*3]?=some (uV j[i].rep)/\o[i*3+1]?=some (uV j[i].max)/\∃u,o[i*3+2]?=some u/\Dat (DX C mb w v) w u (rg j[i].holes)
def OutE.start(C:Qk)(j base:Nat)(w:World):OutE C j base w (.slice none 0 0) []:=⟨[],tR _ _ _ _,λi h=>absurd h b6⟩
def OutE.owns{C:Qk}{u base:Nat}{w:World}{v:Value}{j:List En}(h:OutE C u base w v j):∀k,v.ownBlock=some k->base<=k/\k<w.heap.size:=by obtain⟨y,o,_⟩:=h;exact o.lt
def DX.keep{C:Qk}{u:Nat}{w w':World}{v:Value}{x:Value}{p:PV}(h:Dat (DX C u w v) w x p)(hs:w.heap.size<=w'.heap.size)(hb:∀k,k<w.heap.size->v.ownBlock≠some k->w'.heap[k]?=w.heap[k]?):Dat (DX C u w' v) w' x p:=
 h.mono (λb o h=>⟨h.1.imp id λh=>⟨h.1,Vm h.2 hs⟩,h.2⟩) λb o x h j=>(tl (a:=⟨b,o,none⟩) (hb b (tp w ⟨b,o,none⟩ j) h.2)).trans j
def OutE.keep{C:Qk}{B base:Nat}{w w':World}{v:Value}{u:List En}(h:OutE C B base w v u)(hs:w.heap.size<=w'.heap.size)(hb:∀k,k<w.heap.size->w'.heap[k]?=w.heap[k]?):OutE C B base w' v u:=by
 obtain⟨xs,y,E⟩:=h;refine⟨xs,⟨y.1,?_⟩,λi hi=>?_⟩
 .rcases y.2 with h|⟨g,j,o,e,F,A,r⟩
  .exact .inl h
  .exact .inr ⟨g,j,o,e,F,(hb g (XV.1 A).1).trans A,r⟩
 .obtain⟨a,b,G,c,d⟩:=E i hi;exact⟨a,b,G,c,DX.keep d hs λk hk _=>hb k hk⟩
def OutE.push{C:Qk}{mb base:Nat}{w G:World}{v F:Value}{j:List En}{e:En}{A:List Value}{y:Value}(K:∀i (h:i<j.length),A[i*3]?=some (uV j[i].rep)/\A[i*3+1]?=some (uV j[i].max)/\∃y,A[i*3+2]?=some y/\Dat (DX C mb w v) w y (rg j[i].holes))
 (J:w.ownsRow base 181 3 v j.length A) (M:Dat (DX C mb w v) w y (rg e.holes)) (L:∀b o,C b o->b<mb) (N:mb<w.heap.size) (ho:G.ownsRow base 181 3 F (j.length+1) (A++[uV e.rep,uV e.max,y])) (H:w.grownBy G v.ownBlock) (u:F.ownBlock=v.ownBlock\/F.ownBlock=some w.heap.size) :
 OutE C mb base G F (j++[e]):=by
 have E:∀{x:Value}{p:PV},Dat (DX C mb w v) w x p->Dat (DX C mb G F) G x p:=λ{x p} h=>
  h.mono (λb o h=>⟨h.1.imp id λh=>⟨h.1,Vm h.2 H.size⟩,λe=>by
   rcases u with u|u
   .exact h.2 (u.symm.trans e)
   .rw[u]at e;cases e;rcases h.1 with h|h
    .have:=L _ _ h;omega
    .omega⟩) λb o x h I=>(tl (a:=⟨b,o,none⟩) (H.block b (tp w ⟨b,o,none⟩ I) λe=>h.2 e.symm)).trans I
 have O:=J.1;refine⟨A++[uV e.rep,uV e.max,y],dJ ho,λi hi=>?_⟩;simp only[wj,wv,Ww,wn]at hi;by_cases B:i<j.length
 .obtain⟨a,b,y,c,d⟩:=K i B;rw[ut B];refine⟨?_,?_,y,?_,E d⟩
  .rw[wh a8];exact a
  .rw[wh a8];exact b
  .rw[wh a8];exact c
 .obtain rfl:i=j.length:=a8;rw[Wu (Zp _)];simp only[UM,ux];refine⟨?_,?_,y,?_,E M⟩
  .rw[V2 a8,show j.length*3-A.length=0 by omega];rfl
  .rw[V2 a8,show j.length*3+1-A.length=1 by omega];rfl
  .rw[V2 a8,show j.length*3+2-A.length=2 by omega];rfl
def Ki{D:Qk}{w:World}{v:Value}{l:List Iv}(h:Dat D w v (rg l)):v.oneCell'=true:=by obtain⟨o,j,rfl⟩:=zK h;rfl
def OutE.dat{C:Qk}{H base:Nat}{w:World}{v:Value}{o:List En}(h:OutE C H base w v o)(hb:H<base):Dat (DL C H w) w v (vp o):=by
 obtain⟨K,L,O⟩:=h;rcases L.2 with⟨rfl,N⟩|⟨g,I,M,rfl,X,Q,V,U,hs,ht⟩
 .obtain rfl:=wW.1 N;exact .sl none 0 3 [] .sh 0 0 (λ_=>undef) b6 (λh=>by cases h) b8 (λh=>absurd rfl h) (λi e h=>by simp at h) (λj h=>by simp at h) (λi e j p h=>by simp at h)
 .have J:=(XV.1 Q).1;have F:∀j x,K[j]?=some x->w.cell? ⟨g,j,none⟩=some x:=λj x B=>(by have:=L.cells (g:=g) rfl j x B;rw[zh,wn]at this;exact this);have u:∀i (h:i<o.length) j p,(ec o[i])[j]?=some p->∃x,K[i*3+j]?=some x/\Dat (DL C H w) w x p/\x.oneCell'=true:=λi h j p A=>by
   obtain⟨a,b,Y,c,d⟩:=O i h;match j,A with
   |0,A=>cases A;exact⟨_,a,.v _,rfl⟩
   |1,A=>cases A;exact⟨_,b,.v _,rfl⟩
   |2,A=>cases A;exact⟨_,c,d.mono (λ_ _ h=>h.1) λ_ _ _ _ h=>h,Ki d⟩
   |j+3,A=>simp[ec]at A
  have E:∀(i:Nat)(e:List PV),(o.map ec)[i]?=some e->∃h:i<o.length,e=ec o[i]:=λi e G=>(by rw[wk]at G;obtain⟨x,B,rfl⟩:=ZZ.1 G;obtain⟨h,rfl⟩:=Zw.1 B;exact⟨h,rfl⟩);have y:(o.map ec).length=o.length:=ww _;unfold vp;rw[<-y];refine .sl (some ⟨g,0,none⟩) I 3 (o.map ec) .sh g 0 (λj=>(K[j]?).getD undef) (by rw[y];exact V) (λh=>by cases h) U (λ_=>rfl) (λi e G=>?_) (λj T=>?_) (λi e j p G A=>?_)
  .obtain⟨h,rfl⟩:=E i e G;rfl
  .rw[y]at T;have hi:j/3<o.length:=a8;have P:j%3<(ec o[j/3]).length:=U1 _ b8;obtain⟨x,B,_,ho⟩:=u (j/3) hi (j%3) ((ec o[j/3])[j%3]) (Zv P);rw[show j/3*3+j%3=j by omega]at B;rw[wn];refine⟨.inr ⟨a8,J⟩,?_,?_⟩
   .rw[B];exact F j x B
   .rw[B];exact ho
  .obtain⟨h,rfl⟩:=E i e G;obtain⟨x,B,S,_⟩:=u i h j p A;rw[B];exact S
def us(l:List Nat):PV:=.sl (l.map yN) .sh
attribute [go_sem] us
def zik(x:Nat):Cn xT 200 [.v (.int .u64 x)] (.v (.bool false)):=by refine zt func200 1 ?_;exact pd
def zie(x y:Nat):Cn xT 189 [.v (.int .u64 x),.v (.int .u64 y)] (.v (.bool (decide (x<y)))):=by refine zt func189 2 ?_;refine pw ?_;exact .d (zdn x)
def zaI(l:List Nat)(x i:Nat)(hi:i<=l.length)(C:∀j,(h:j<l.length)->j<i->l[j]<x)(E:∀j,(h:j<l.length)->i<=j->x<=l[j])(F:l.length<=1152921504606846976):
 Cn xT 181 [us l,.v (.int .u64 x)] (.tup [.v (.int .i64 i),.v (.bool (decide (l[i]?=some x)))]):=by
 refine zt func181 2 ?_;refine pw ?_;refine pLoop.go (λp:Nat×Nat=>p.1<=i/\i<=p.2/\p.2<=l.length) (λp=>[(7,.v (.int .i64 (p.1:Nat))),(8,.v (.int .i64 (p.2:Nat)))]) (λ_=>[]) (λp=>p.2-p.1) (0,l.length) [7,8] ?_ ?_ ?_
 .exact⟨X4 _,hi,Zp _⟩
 .exact pd
 .rintro⟨p,q⟩ ⟨y,A,B⟩;simp only at y A B;refine pw ?_;refine .i ?_ ?_<;>intro h<;>first|refine pw ?_|exact pd
  .have w:(p+q)/2<l.length:=a8;refine pw ?_;refine .c (zie l[(p+q)/2] x) ?_;refine .i ?_ ?_<;>intro u<;>first|refine pw ?_|exact pd
   .refine⟨((p+q)/2+1,q),⟨?_,A,B⟩,by simp only;omega,rfl,rfl⟩;simp only;refine Uz λo=>?_;have:=E _ w o;omega
   .refine⟨(p,(p+q)/2),⟨y,?_,by simp only;omega⟩,by simp only;omega,rfl,rfl⟩;simp only;refine ul λo=>?_;have:=C _ w o;omega
  .obtain rfl:p=i:=a8;obtain rfl:q=p:=a8;refine .i ?_ ?_<;>intro u<;>first|refine pw ?_|exact pd
   .rw[show l[q]?=some l[q] from Zv u];refine .i ?_ ?_<;>intro o<;>first|refine pw ?_|exact pd
    .simp[o]
    .refine .c (zik l[q]) ?_;simp[o]
   .rw[show l[q]?=none from WU a8];simp
section
open Go.Maps
attribute [-go_sem] z7
def XY{D:Qk}{w:World}{x a b:Value}(h:Dat D w x (.tup [.v a,.v b])):x=.tuple #[a,b]:=by
 cases h with
 | tup vs cs hs h=>
   obtain⟨l⟩:=vs;match l,hs with
   |[p,q],_=>have j:=(h 0 _ rfl).v_inv;have e1:=(h 1 _ rfl).v_inv;simp at j e1;rw[j,e1]
def zhv{D:Qk}{w:World}{x:Value}{e:En}(h:Dat D w x (ep e)):∃j o,x=.agg #[.int .u64 e.rep,.int .u64 e.max,.slice j e.holes.length o]/\Dat D w (.slice j e.holes.length o) (rg e.holes):=by
 have y:Dat D w x (.agg [.v (.int .u64 e.rep),.v (.int .u64 e.max),rg e.holes]):=h;cases y with
 | agg vs cs hs _ h=>
   obtain⟨l⟩:=vs;match l,hs with
   |[p,q,r],_=>have u:=(h 0 _ rfl).v_inv;have e1:=(h 1 _ rfl).v_inv;have e2:=h 2 _ rfl;simp at u e1 e2;obtain⟨j,o,rfl⟩:=zK e2;rw[u,e1];exact⟨j,o,rfl,e2⟩
def Yk{D:Qk}{w:World}{x:Value}{e:En}{b:Bool}(h:Dat D w x (.tup [ep e,.v (.bool b)])):∃j o,x=.tuple #[.agg #[.int .u64 e.rep,.int .u64 e.max,.slice j e.holes.length o],.bool b]/\Dat D w (.slice j e.holes.length o) (rg e.holes):=by
 cases h with
 | tup vs cs hs h=>
   obtain⟨l⟩:=vs;match l,hs with
   |[p,q],_=>have u:=h 0 _ rfl;have e1:=(h 1 _ rfl).v_inv;simp at u e1;obtain⟨j,o,rfl,y⟩:=zhv u;rw[e1];exact⟨j,o,rfl,y⟩
def jP{f:FuncId}{A:List PV}{r:PV}(h:Cn xT f A r){D:Qk}{w:World}{vs:Array Value}(E:GL D w)(C:∀b o,D b o->b<w.heap.size)(y:vs.size=A.length)(u:∀(i:Nat) p,A[i]?=some p->Dat D w (vs.getD i undef) p):
 Calls xT f vs w λe j=>∃v,e=.returned v/\Below w.heap.size w j/\Dat (λb o=>D b o\/(w.heap.size<=b/\b<j.heap.size)) j v r:=by
 refine(h.2 D w vs E C y u).mono ?_;rintro e j ⟨v,H,rfl,hb,_,F,G,u,_⟩;exact⟨v,rfl,hb,u.mono (λb o h=>(F b o h).imp id λB=>⟨B,G b o h⟩) λ_ _ _ _ h=>h⟩
def OwnU.keep{base:Nat}{w w':World}{v:Value}{l:List Nat}(h:OwnU base w v l)(hb:∀g,v.ownBlock=some g->w'.heap[g]?=w.heap[g]?):OwnU base w' v l:=by
 refine⟨h.1,?_⟩;rcases h.2 with h|⟨g,j,o,e,y,u,r⟩
 .exact .inl h
 .exact .inr ⟨g,j,o,e,y,(hb g (by rw[e];rfl)).trans u,r⟩
def OwnU.lt{base:Nat}{w:World}{v:Value}{l:List Nat}(h:OwnU base w v l):∀g,v.ownBlock=some g->base<=g/\g<w.heap.size:=λg j=>World.ownsRow.lt h g j
def KC(x:Nat):∀{l:List Nat},YN l->∃i,i<=l.length/\(∀j,(h:j<l.length)->j<i->l[j]<x)/\(∀j,(h:j<l.length)->i<=j->x<=l[j])
 |[],_=>⟨0,Zp _,λj h=>absurd h b6,λj h=>absurd h b6⟩
 | y::l,h=>by
   have ⟨h1,h2⟩:=V3.1 h;by_cases B:y<x
   .obtain⟨i,hi,C,E⟩:=KC x h2;refine⟨i+1,a9,λj o A=>?_,λj o w=>?_⟩
    .match j with
     |0=>exact B
     |j+1=>exact C j (dJ o) a8
    .match j with
     |0=>omega
     |j+1=>exact E j (dJ o) a8
   .refine⟨0,X4 _,λj _ o=>a8,λj o _=>?_⟩;match j with
    |0=>simp;omega
    |j+1=>have u:j<l.length:=(dJ o);have:=h1 _ (Y1 u);simp only[WN];omega
def zmj{C:Qk}{base:Nat}{w:World}{v:Value}{l:List Nat}(x i:Nat)(y:OwnU base w v l)(F:∀b o,C b o->b<w.heap.size)(G:GL C w)(hi:i<=l.length)(A:∀j,(h:j<l.length)->j<i->l[j]<x)(B:∀j,(h:j<l.length)->i<=j->x<=l[j])(I:l.length<=1152921504606846976):
 Calls xT 181 #[v,.int .u64 (x:Nat)] w λe E=>(∃b,e=.returned (.tuple #[.int .i64 (i:Nat),.bool b]))/\Below w.heap.size w E:=by
 refine(jP (zaI l x i hi A B I) (D:=λb o=>C b o\/(base<=b/\b<w.heap.size)) (G.mono (λ_ _ h=>.inl h) λ_ _ _ _ h=>h) (λb o h=>h.elim (F b o) ub) rfl (λj p u=>?_)).mono ?_
 .match j,u with
  |0,u=>cases u;exact vL y λb o A B=>.inr ⟨A,B⟩
  |1,u=>cases u;exact .v _
  |j+2,u=>simp at u
 .rintro e E ⟨v,rfl,hb,H⟩;rw[XY H];exact⟨⟨_,rfl⟩,hb⟩
def zaD{C:Qk}{base rb:Nat}{w:World}{v:Value}{xs:List Nat}(x:Nat)(y:OwnU base w v (srt xs))(A:Boxed w rb 232 v)(ad:rb<base)(G:x∉xs)(hl:(srt xs).length<=4194304)(V:base<=w.heap.size)(hC:∀b o,C b o->b<w.heap.size)(hG:GL C w):
 Calls xT 147 #[.pointer (some ⟨rb,0,none⟩),.int .u64 (x:Nat)] w λe w'=>(∃u,e=.returned u)/\∃v',Boxed w' rb 232 v'/\OwnU base w' v' (srt (xs++[x]))/\Keep (λk=>k=rb\/base<=k) w w':=by
 obtain⟨i,hi,Y,Z⟩:=KC x (yi xs);have Q:=qL (zmj x i y hC hG hi Y Z a8);have F:srt (xs++[x])=(srt xs).take i++x::(srt xs).drop i:=kJ hi (λk hk X=>by
  have h1:=Z k hk X;have h2:(srt xs)[k]≠x:=λe=>G (qr.1 (e▸Y1 hk));omega) (by
  rcases WC i with h0|h0
  .exact .inl h0
  .exact .inr ⟨a8,Y _ a8 a8⟩)
 have HI:=qL F;have L:=qL y;have HX:=qL A;have c0:=A.cell;have N:=A.lt;clear F y A hC hG Y Z G;have H:True:=trivial;have I:True:=trivial;go_enter func147,ntmps147
 go_wp2_with (first
  | (go_at_call 181;have _t:=H;refine Q.o.mono ?_;rintro e P ⟨⟨bb,rfl⟩,J⟩
     have c1:P.cell? ⟨rb,0,none⟩=some v:=(tl (a:=⟨rb,0,none⟩) (J.block rb N)).trans c0;have j:=qL J;clear J H)
  | (go_at_call 182;have _t:=I
     refine(Y9 base P.heap.size _ _ v (srt xs) x i hi (L.o.keep λg O=>by rw[tu _ _ _ (Vm (L.o.lt g O).2 j.o.size),j.o.block g (L.o.lt g O).2]) (tn P _) (λe=>by have h8:=(L.o.lt _ e).2;have h9:=j.o.size;omega) a8 (by have:=j.o.size;simp;omega)).mono ?_;rintro e w3 ⟨v',rfl,B,K,_⟩;have E:Boxed w3 rb 232 v:=((show Boxed P rb _ v from (j.o.block rb N).trans HX.o).alloc _).kept K (λe=>by have:=(L.o.lt rb e.symm).1;omega);have c3:=E.cell;have f3:=E.frozen;have U:=qL E;have T:=qL ((((Keep.of_below' (S:=λk=>k=rb\/base<=k) j.o (Zp _)).alloc _).grown K λk hk _=>.inr (L.o.lt k hk).1));rw[<-HI.o]at B;obtain⟨g3,ab,ac,rfl,_⟩:=(show _\/_ from B.cases).resolve_left (λh=>by have:=h.2;rw[HI.o]at this;simp at this);have M:=qL B;clear E K B I)
  |go_in)
 go_end0
 exact⟨⟨_,rfl⟩,_,U.o.set _,M.o.keep λg O=>tw _ _ _ _ (by have:=(M.o.lt g O).1;show g≠rb;omega),T.o.setCell (λ_=>.inl rfl) _⟩
end
end Go.Proofs.YtmpnbdhadjfbhaaGreatDoor
