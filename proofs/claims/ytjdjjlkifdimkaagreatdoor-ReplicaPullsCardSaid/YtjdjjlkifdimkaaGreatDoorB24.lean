import Derived.LoopN
import Derived.Test.YtjdjjlkifdimkaaGreatDoorB23
set_option maxHeartbeats 16000000
set_option linter.all false
set_option maxRecDepth 100000
namespace Go.Proofs.YtjdjjlkifdimkaaGreatDoor
open Go.RowKit
open Go.Proofs.Tryz
open Go.Proofs.Tryz renaming prog->xT
def zp1(s:ByteArray)(c k:Int)(w:World)(E:HG w):Calls xT 57 #[.iface 141 (.agg #[.string s,.iface 123 (.agg #[.int .i64 c,.int .i64 k])]),.iface 178 (.pointer (some ⟨w.heap.size+1,0,none⟩))] ((w.alloc z2).alloc z2)
 λev j=>ev=.returned (.bool true)/\Below (w.heap.size+1) (w.alloc z2) j/\j.cell? ⟨w.heap.size+1,0,none⟩=some (.int .i64 c)/\j.cell? ⟨w.heap.size+1,1,none⟩=some (.int .i64 k):=by
 have y:∀o,o<2->((w.alloc z2).alloc z2).cell? ⟨w.heap.size+1,o,none⟩=some (.int .i64 0):=λo ho=>by
  have:w.heap.size+1=(w.alloc z2).heap.size:=b8;rw[this];unfold z2;match o,ho with
  |0,_=>simp
  |1,_=>simp
 have A:∀o,o<2->((w.alloc z2).alloc z2).frozen? ⟨w.heap.size+1,o,none⟩=false:=λo ho=>by
  have:w.heap.size+1=(w.alloc z2).heap.size:=b8;rw[this];unfold z2;match o,ho with
  |0,_=>simp
  |1,_=>simp
 refine(zqg s c k (w.heap.size+1) _ ((E.alloc _).alloc _) (y 0 b6) (y 1 b6) (A 0 b6) (A 1 b6)).mono ?_;rintro ev j ⟨rfl,hk,B,C⟩;refine⟨rfl,?_,B,C⟩;have u:Keep (λb=>b=w.heap.size+1) (w.alloc z2) j:=((Keep.refl _ (w.alloc z2)).alloc z2).trans hk;exact u.below b8 λq F e=>b6
def zqT(s:ByteArray)(c k:Int)(w:World)(G:HG w):Calls xT 58 #[.iface 141 (.agg #[.string s,.iface 123 (.agg #[.int .i64 c,.int .i64 k])])] w λe H=>e=.returned (.tuple #[.agg #[.int .i64 c,.int .i64 k],.bool true])/\Below w.heap.size w H:=by
 go_enter func58,ntmps58
 go_wp2_with (go_at_call 57;refine(zp1 s c k w G).mono ?_;rintro e j ⟨rfl,hb,B,C⟩;have u:j.cell? ⟨w.heap.size,0,none⟩=some (.int .i64 0):=(hb.cell (p:=⟨w.heap.size,0,none⟩) b8).trans (by unfold z2;simp);have y:j.cell? ⟨w.heap.size,1,none⟩=some (.int .i64 0):=(hb.cell (p:=⟨w.heap.size,1,none⟩) b8).trans (by unfold z2;simp);have E:j.frozen? ⟨w.heap.size,0,none⟩=false:=(hb.frozen (p:=⟨w.heap.size,0,none⟩) b8).trans (by unfold z2;simp);have F:j.frozen? ⟨w.heap.size,1,none⟩=false:=(hb.frozen (p:=⟨w.heap.size,1,none⟩) b8).trans (by unfold z2;simp);have o:Below w.heap.size w j:=((tB _ w).alloc (Zp _) _).trans (hb.mono b6))
 have A:(j.setCell ⟨w.heap.size,0,none⟩ (.int .i64 c)).cell? ⟨w.heap.size,0,none⟩=some (.int .i64 c):=t9 _ _ _ u;have e1:((j.setCell ⟨w.heap.size,0,none⟩ (.int .i64 c)).setCell ⟨w.heap.size,1,none⟩ (.int .i64 k)).cell? ⟨w.heap.size,1,none⟩=some (.int .i64 k):=World.cell?_setCell_same' _ _ _ (by rw[TF _ _ _ _ b8,y];rfl);refine tI (v:=.tuple #[.agg #[.int .i64 c,.int .i64 k],.bool true]) (by simp[results,Tryz.results58,go_sem,A,e1,Result.andThen]) rfl ⟨rfl,?_⟩;exact Tb (Tb o b8 _) b8 _
def zpW(s:ByteArray)(x:Nat×Int)(o:x.1≠0):Cn xT 24 [zou s x] (.v (.int .i64 x.1)):=by unfold zou;rw[zmb o];refine KK rfl (enters_of func24 dN rfl) λD w B y A j u=>?_;have d0:=zo1 (u 0 _ rfl);rw[zjw j,d0];refine(zqS s x.1 x.2 w y).mono ?_;rintro e C ⟨rfl,hb⟩;exact⟨_,rfl,hb,.v _⟩
def zqA(s:ByteArray)(x:Nat×Int)(y:x.1≠0):Cn xT 58 [zou s x] (.tup [.agg [.v (.int .i64 x.1),.v (.int .i64 x.2)],.v (.bool true)]):=by
 unfold zou;rw[zmb y];refine KK rfl (enters_of func58 dN rfl) λD w E B C u A=>?_;have d0:=zo1 (A 0 _ rfl);rw[zjw u,d0];refine(zqT s x.1 x.2 w B).mono ?_;rintro e F ⟨rfl,hb⟩;refine⟨_,rfl,hb,.tup _ _ rfl λj p o=>?_⟩;match j,o with
 |0,o=>cases o;exact znT (.v _) (.v _) rfl rfl
 |1,o=>cases o;exact .v _
 |j+2,o=>simp at o
def zrc(s:ByteArray)(x:Nat×Int)(j:x.1≠0):Cn xT 25 [zou s x] (.v (.int .i64 x.2)):=by refine zt func25 1 ?_;refine pw ?_;exact .d (zqA s x j)
def zqK(s:ByteArray)(x:Nat×Int)(j:x.1≠0):Cn xT 33 [.v (.string s),jS x.1 x.2] (zou s x):=by
 unfold zou;rw[zmb j];refine zt func33 2 ?_;refine pw ?_;first|trivial|rfl|(unfold qv;rfl)|(simp[qv];done)
section
open Go.Maps
attribute [-go_sem] z7
def ztw:∀{r xs:List Nat},r.Nodup->(∀y∈r,y∈xs)->r.length<=xs.length
 |[],_,_,_=>vj _
 |x::r,xs,h,hm=>by obtain⟨u,w⟩:=UM.1 h;have j:x∈xs:=hm x b8;have:=ztw (xs:=xs.erase x) w λy o=>(W9 (λe=>u (by rw[<-e];exact o))).2 (hm y (by simp[o]));rw[WK j]at this;have:=um j;simp;omega
def MR.hasq{D:DV}{l:List Rc}(j:∀r,has D (kR r)=(zrZ l r).isSome){x:Nat}:ztm D x↔(zrZ l x).isSome=true/\x<zk:=by unfold ztm;rw[show kQ x=kR x from rfl,j x]
def zt7{D:DV}{l:List Rc}(u:∀r,has D (kR r)=(zrZ l r).isSome){pre:List Nat}(h:ztD D pre):pre.length<=l.length:=by
 have:=ztw (xs:=l.map Rc.item) h.1 λy w=>by obtain⟨z,hz⟩:=Wd.1 ((MR.hasq u).1 (h.2 y w)).1;obtain⟨j,o⟩:=zsB hz;exact wG.2 ⟨z,j,o⟩
 simpa using this
def zuh{t B y:Nat}{w:World}{D:DV}(j:w.ownsMap xT 36 rV B t D)(o:Boxed w y 89 (.map (some B)))(I:∀pre,ztD D pre->pre.length<=1000000):
 Calls xT 117 #[.func (.func 119) #[] #[.pointer (some ⟨y,0,none⟩)]] w λe A=>∃u pre,e=.returned u/\OwnN w.heap.size A u pre/\ztD D pre/\(∀x,x∈pre↔ztm D x)/\Below w.heap.size w A:=by
 have H:=qL (ztF j o I);clear j o;go_enter func117,ntmps117
 go_wp2_with (go_at_call 162;refine H.o.mono ?_;rintro e J ⟨u,pre,rfl,C,E,F,G⟩)
 go_ret;exact⟨_,pre,rfl,C,E,F,G⟩
def ztu{l:List Rc}(A:zr8 l){j:List Nat}(o:j.Pairwise (·<=·))(u:j.Nodup)(w:∀x,x∈j↔(zrZ l x).isSome=true):j=l.map Rc.item:=by
 refine jK ?_ (uD.2 A) λx=>?_
 .exact o.imp₂ (λa b h n=>b6) u
 .rw[w x];constructor
  .intro h;obtain⟨z,hz⟩:=Wd.1 h;obtain⟨B,C⟩:=zsB hz;exact wG.2 ⟨z,B,C⟩
  .intro h;obtain⟨z,hz,rfl⟩:=wG.1 h;cases hg:zrZ l z.item with
   |some y=>rfl
   |none=>unfold zrZ at hg;rw[uW]at hg;exact absurd b8 (hg z hz)
def zuC(a:Option Addr)(c:Nat)(w:World):Calls xT 198 #[.slice a 0 c,.int .i64 0,.int .i64 0] w λe j=>e=.returned (.tuple #[])/\j=w:=by
 go_enter func198,ntmps198
 go_wp2_with fail
 refine Tq 2 ?_;rw[Td]
 go_wp2_with fail
 go_end0
 exact⟨rfl,rfl⟩
def zuL(a:Option Addr)(c:Nat)(l:Int)(w:World):Calls xT 163 #[.slice a 0 c,.int .i64 0,.int .i64 0,.int .i64 l] w λe j=>e=.returned (.tuple #[])/\j=w:=by
 go_enter func163,ntmps163
 go_wp2_with fail
 refine Tq 2 ?_;rw[Td]
 go_wp2_with (go_at_call 198;refine(zuC _ _ _).mono ?_;rintro e o ⟨rfl,rfl⟩)
 refine tI (tS rfl _ _ _) rfl ?_;exact⟨rfl,rfl⟩
def zuq(a:Option Addr)(c:Nat)(w:World):Calls xT 118 #[.slice a 0 c] w λe j=>e=.returned (.tuple #[])/\Below w.heap.size w j:=by
 go_enter func118,ntmps118
 go_wp2_with (first
  |(go_at_call 163;refine(zuL _ _ _ _).mono ?_;rintro e o ⟨rfl,rfl⟩)
  |go_in)
 go_end0
 exact⟨rfl,tB _ _⟩
def ztZ{w o:World}{u:Value}{l:List Rc}{pre:List Nat}(E:zr8 l)(B:OwnN w.heap.size o u pre)(L:pre.Nodup)(K:pre.length<=1000000)(C:∀x,x∈pre↔(zrZ l x).isSome=true)(y:Below w.heap.size w o):
 Calls xT 118 #[u] o λe A=>e=.returned (.tuple #[])/\OwnU w.heap.size A u (l.map Rc.item)/\Below w.heap.size w A:=by
 have j:OwnU w.heap.size o u pre:=B;by_cases F:pre=[]
 .subst F;have e:[]=l.map Rc.item:=ztu E List.Pairwise.nil UX C;obtain⟨a,c,rfl⟩:∃a c,u=.slice a 0 c:=by
   rcases B.2 with⟨h,K⟩|⟨g,H,I,h,_⟩
   .exact⟨none,0,h⟩
   .exact⟨_,_,h⟩
  refine(zuq a c o).mono ?_;rintro J A ⟨rfl,hb⟩;rw[<-e];exact⟨rfl,j.keep λg M=>hb.block g (j.lt g M).2,y.trans (hb.mono y.size)⟩
 .obtain⟨S,G,N,O⟩:=zeb j F b6;have e:S=l.map Rc.item:=ztu E N (G.nodup_iff.2 L) λx=>(by rw[G.mem_iff,C x]);refine O.mono ?_;rintro J A ⟨rfl,P,Q⟩;rw[<-e];exact⟨rfl,P,y.grown Q y.size λk hk=>(j.lt k hk).1⟩
def ztB{t B F:Nat}{w:World}{l:List Rc}(J:zr8 l)(X:MR t B w l)(hi:∀x∈l,x.item<zk)(y:Boxed w F 89 (.map (some B)))(K:l.length<=1000000):
 Calls xT 80 #[.func (.func 119) #[] #[.pointer (some ⟨F,0,none⟩)]] w λe M=>∃u,e=.returned u/\OwnU w.heap.size M u (l.map Rc.item)/\Below w.heap.size w M:=by
 obtain⟨D,j,_,o,_⟩:=X;have H:=qL (zuh j y λpre h=>V3 (zt7 o h) K);have N:=qL J;have G:=qL o;have O:=qL hi;clear j y J o hi;go_enter func80,ntmps80
 go_wp2_with (go_at_call 117;refine H.o.mono ?_;rintro e w1 ⟨u,pre,rfl,C,E,o,I⟩
              have L:∀x,x∈pre↔(zrZ l x).isSome=true:=λx=>(by rw[o x,MR.hasq G.o];refine⟨UY,λh=>⟨h,?_⟩⟩;obtain⟨z,hz⟩:=Wd.1 h;obtain⟨Y,Z⟩:=zsB hz;rw[<-Z];exact O.o z Y);have A:=ztZ N.o C E.1 (V3 (zt7 G.o E) K) L I;obtain⟨ua,uc,rfl⟩:∃a c,u=.slice a pre.length c:=by
               rcases C.2 with⟨h,T⟩|⟨g,Q,S,h,_⟩
               .exact⟨none,0,by rw[h,show pre.length=0 from T]⟩
               .exact⟨_,_,h⟩
              have P:=qL A;clear C E o I A L)
 refine P.o.mono ?_;rintro e w2 ⟨rfl,U,V⟩;dsimp only
 go_wp2_with fail
 refine tI (tR rfl _ _ _) rfl ?_;exact⟨_,rfl,U,V⟩
end
section
attribute [-go_sem] z7
def zvi{D:Qk}{base sz:Nat}{w:World}{e:TypeId}{v:Value}{B:List (List PV)}{C:List Value}(h:w.ownsRow base e sz v B.length C)(hs:∀(i:Nat)(p:List PV),B[i]?=some p->p.length=sz)(M:∀u∈C,u.oneCell'=true)(P:∀b o,base<=b->b<w.heap.size->D b o)
 (X:∀(i:Nat)(l:List PV)(j:Nat)(p:PV),B[i]?=some l->l[j]?=some p->∃u,C[i*sz+j]?=some u/\Dat D w u p):Dat D w v (.sl B .sh):=by
 have Z:=h.1;rcases h.2 with⟨rfl,L⟩|⟨g,y,K,rfl,S,Q,T,I,hz,ht⟩
 .rw[Wc.1 L];exact .sl none 0 sz [] .sh 0 0 (λ_=>undef) (Zp _) (λh=>by cases h) dE (λh=>absurd rfl h) (λi e h=>by simp at h) (λj h=>by simp at h) (λi e j p h=>by simp at h)
 .have F:=(Y1.1 Q).1;by_cases E:B=[]
  .subst E;exact .sl _ y sz [] .sh g 0 (λ_=>undef) (vj _) (λh=>by cases h) I (λ_=>rfl) (λi e h=>by simp at h) (λj h=>by simp at h) (λi e j p h=>by simp at h)
  have J:=Wb.2 E;have H:∀j u,C[j]?=some u->w.cell? ⟨g,j,none⟩=some u:=λj u V=>(by have:=tQ h (g:=g) (by cases y with|zero=>omega|succ c=>rfl) j u V;rw[zh,wy]at this;exact this);refine .sl _ y sz B .sh g 0 (λj=>(C[j]?).getD undef) T (λh=>by cases h) I (λ_=>rfl) hs (λj Y=>?_) (λi l j p G U=>?_)
  .have A:j<C.length:=b6;rw[Zv A,wy];exact⟨P g j S F,H j _ (Zv A),M _ (X3 A)⟩
  .obtain⟨u,N,O⟩:=X i l j p G U;rw[N];exact O
def rcs(x:Rc):List Value:=[.int .u64 x.item,.int .u64 x.rep,.int .u64 x.ctr,.string x.val]
def OwnL(e:TypeId)(base:Nat)(w:World)(v:Value)(l:List Rc):Prop:=w.ownsRow base e 4 v l.length (l.flatMap rcs)
def zsD:∀{l:List Rc}{i:Nat}(h:i<l.length){j:Nat},j<4->(l.flatMap rcs)[i*4+j]?=(rcs l[i])[j]?
 |x::l,0,_,j,hj=>by rw[Wn,wj (by simp[rcs];omega),Nat.zero_mul,wy];rfl
 |x::l,i+1,h,j,hj=>by rw[Wn,wi (by simp[rcs];omega),show (i+1)*4+j-(rcs x).length=i*4+j by simp[rcs];omega,zsD (dM h) hj];rfl
def zs3{l:List Rc}:∀u∈l.flatMap rcs,u.oneCell'=true:=λu j=>by
 obtain⟨x,_,h⟩:=uu.1 j;simp[rcs]at h;rcases h with rfl|rfl|rfl|rfl<;>rfl
def OwnL.dat{D:Qk}{e:TypeId}{base:Nat}{w:World}{v:Value}{l:List Rc}(h:OwnL e base w v l)(A:∀b o,base<=b->b<w.heap.size->D b o):Dat D w v (lp l):=by
 refine zvi (sz:=4) (e:=e) (base:=base) (by rw[wB];exact h) (λi p u=>?_) zs3 A λi q j p y u=>?_
 .rw[wn]at u;obtain⟨x,_,rfl⟩:=Z3.1 u;rfl
 .rw[wn]at y;obtain⟨x,B,rfl⟩:=Z3.1 y;obtain⟨hi,rfl⟩:=ZZ.1 B;match j,u with
  |0,u=>cases u;exact⟨_,zsD hi b6,.v _⟩
  |1,u=>cases u;exact⟨_,zsD hi b6,.v _⟩
  |2,u=>cases u;exact⟨_,zsD hi b6,.v _⟩
  |3,u=>cases u;exact⟨_,zsD hi b6,.v _⟩
def OwnL.val{e:TypeId}{base:Nat}{w:World}{v:Value}{l:List Rc}(h:OwnL e base w v l):∃a c,v=.slice a l.length c:=by
 rcases h.2 with⟨h,u⟩|⟨g,j,o,h,_⟩
 .exact⟨none,0,by rw[h,u]⟩
 .exact⟨_,_,h⟩
def zvb{l:List Rc}(u:zr8 l){j:Nat}(o:j<l.length):zrZ l l[j].item=some l[j]:=by
 cases hg:zrZ l l[j].item with
 |none=>unfold zrZ at hg;rw[uW]at hg;exact absurd b8 (hg _ (X3 o))
 | some y=>
   obtain⟨w,A⟩:=zsB hg;obtain⟨i,hi,rfl⟩:=Wr w;rcases WR i j with h|h|h
   .have:=wU.1 u i j hi o h;omega
   .subst h;rfl
   .have:=wU.1 u j i o hi h;omega
def zuW{P:Program}{f:FuncId}{t:Tmp}{xs:List Operand}{j:Array Value}{c:Call}{o:Oper}{a:Act}{w:World}{K:Act->World->Prop}{Q:Exit->Act->World->Prop}(ho:o.op=.call c)(B:c.callee=.value (.tmp t))(F:a.eval (.tmp t)=.func (.func f) #[] j)(A:c.args.toList=xs)
 (C:∀u w,(callFunc f u).run P w=.ok (.enter f u) w)
 (h:Calls P f ((xs.map a.eval).toArray++j) w λe y=>match e with|.returned v=>K (a.put o.dst v) y|.panicked chain=>Q (.panic chain) a y|.outgrown=>LetsOut Q):o.wp P a w K Q:=by
 have E:(execOp a.eval o).run P w=.ok (.enter f ((xs.map a.eval).toArray++j)) w:=by have e:c.args.map a.eval=(xs.map a.eval).toArray:=WI.1 (by rw[WY,A]);simp only[execOp,ho,resolve,B,e,F,Deferred.ofValue,tM,tP,tH,invoke];rw[show (#[]++(xs.map a.eval).toArray++j:Array Value)=(xs.map a.eval).toArray++j from by simp];exact C _ _
 unfold Oper.wp;rw[E,Tf];exact h.mono (λe G h=>by cases e<;>exact h)
def zvP:(xT.info? 66).map (λi=>(i.zero,i.size,i.bytes))=some (some zR,4,40):=dN
def ztO{D:Qk}{t b m:Nat}{w:World}{s:Rs}{q:Rc->Bool}{f:FuncId}{o:Array Value}(hR:Rpl D t w b m s)(ha:zr8 s.recs)(hl:s.recs.length<=1000000)(hi:∀x∈s.recs,x.item<zk)(he:∀T w,(callFunc f T).run xT w=.ok (.enter f T) w)
 (hf:∀x∈s.recs,∀W,Below w.heap.size w W->Calls xT f (#[rcv x]++o) W λe w'=>e=.returned (.bool (q x))/\Below W.heap.size W w') :
 Calls xT 36 #[.pointer (some ⟨b,0,none⟩),.func (.func f) #[] o] w λe w'=>∃v,e=.returned v/\Below w.heap.size w w'/\OwnL 66 w.heap.size w' v (s.recs.filter q):=by
 obtain⟨ka,kc,h1,h2,h3⟩:=hR;have c1:w.cell? ⟨b,1,none⟩=some (.map (some m)):=(zW h1 1 _ rfl).1;have hb:=(Y1.1 h1).1;have HB:=qL h1;have HM:=qL h2;have HA:=qL ha;have HI:=qL hi;have HE:=qL he;have HF:=qL hf;obtain⟨n,hn⟩:=xm (s.recs.length);have HN:=qL hn;rw[<-hn]at hl;obtain⟨i0,aj,ar,au,av⟩:=tV zvP;have B:=qL (And.intro aj (And.intro ar (And.intro au av)));clear h1 h2 h3 ha hi he hf hn aj ar au av;go_enter func36,ntmps36
 go_wp2_with (first
  |(go_at_call 81;refine(zuG _ _).mono ?_;rintro e w1 ⟨rfl,rfl⟩)
  | (go_at_call 80;refine(ztB HA.o (HM.o.keep (tC _ _ _ HM.o.lt)) HI.o (t8 w _ _) (by rw[<-HN.o];omega)).mono ?_
     rintro e G ⟨u2,rfl,ab,Q⟩;obtain⟨a2,c2,rfl⟩:∃a c,u2=.slice a n c:=by
      have ak:(s.recs.map Rc.item).length=n:=(by rw[wB,HN.o]);rcases ab.2 with⟨h,h0⟩|⟨g,o,Y,h,_⟩
      .exact⟨none,0,by rw[h,<-ak,h0]⟩
      .exact⟨_,_,by rw[h,ak]⟩
     have ad:=qL ab;have I:w.heap.size<=G.heap.size:=(by have:=Q.size;simp only[tE]at this;omega);have L:=qL (((tB _ w).alloc (Zp _) _).trans (Q.mono b8));have aE:=Q.size;simp only[tE]at aE;clear ab Q))
 go_loopg [5,16] n (λg y x wr=>∃j,j<=n/\g=n-j/\x=.int .i64 j/\OwnL 66 G.heap.size wr y ((s.recs.take j).filter q)/\Below G.heap.size G wr)
 case atStart=>exact⟨0,vj _,rfl,rfl,tX _ _ _ _,tB _ _⟩
 case round=>
  obtain⟨j,hj,rfl,rfl,ac,A⟩:=hrel;have aC:=qL ac;have ax:=qL A;have aF:=A.size;by_cases Z:j<n
  .have C:j<s.recs.length:=(by rw[<-HN.o];exact Z);obtain⟨x,hx⟩:=xm (s.recs[j]);have H:x∈s.recs:=(by rw[hx];exact X3 C);have U:zrZ s.recs x.item=some x:=(by rw[hx];exact zvb HA.o C);have ao:s.recs.take (j+1)=s.recs.take j++[x]:=(by rw[hx];exact vw C);obtain⟨g,rfl,hg,cg⟩:∃g,a2=some ⟨g,0,none⟩/\g<G.heap.size/\wr.cell? ⟨g,j,none⟩=some (.int .u64 x.item):=by
    rcases ad.o.2 with⟨_,h0⟩|⟨g,o,Y,h,hg,hc,ag,_,_,_⟩
    .rw[wB,<-HN.o]at h0;omega
    .obtain⟨rfl,_,rfl⟩:a2=some ⟨g,0,none⟩/\n=(s.recs.map Rc.item).length/\c2=o:=(dM h);have ai:=(Y1.1 hc).1;rw[wB,<-HN.o]at ag;have:=tQ ad.o (g:=g) (by cases c2 with|zero=>omega|succ c=>rfl) j (.int .u64 x.item) (by rw[Ui,wn,Zv C,<-hx];rfl);rw[zh,wy]at this;exact⟨g,rfl,ai,(tw (a:=⟨g,j,none⟩) (A.block g ai)).trans this⟩
   have cb:wr.cell? ⟨b,1,none⟩=some (.map (some m)):=(tw (a:=⟨b,1,none⟩) ((A.block b b6).trans (L.o.block b hb))).trans c1;have am:MR t m wr s.recs:=HM.o.keep ((A.block m (by have:=HM.o.lt;omega)).trans (L.o.block m HM.o.lt));have aH:=HI.o x H;have aI:((s.recs.take j).filter q).length<=j:=V3 (WH _ _) b7;have HG:=qL U;have az:=qL am;have ay:=qL (HF.o x H);have ae:=qL ao;obtain⟨K,aG⟩:∃K,K=wr:=⟨wr,rfl⟩;subst aG;obtain⟨wb,J⟩:=xm (K.alloc (.cells #[.int .u64 x.item,.int .u64 x.rep,.int .u64 x.ctr,.string x.val] 66));have aK:wb.heap.size=K.heap.size+1:=(by rw[J];simp);have aq:wb.heap[K.heap.size]?=some (.cells #[.int .u64 x.item,.int .u64 x.rep,.int .u64 x.ctr,.string x.val] 66 (0,0)):=(by rw[J];exact tx K _);have aD:=qL aq;have X:qA (Below G.heap.size G wb):=qL (by rw[J];exact A.alloc aF _);have aB:qA (OwnL 66 G.heap.size wb u5 ((s.recs.take j).filter q)):=qL (by rw[J];exact ac.alloc _);clear H U hx ao am ac A aq
   go_wp2_with (at_lookup;refine ztf rfl _ _ rfl rfl az.o aH rfl HG.o ?_)
   rw[<-J];refine zuW (t:=26) (xs:=[.tmp 27]) rfl rfl rfl rfl HE.o ?_;refine(ay.o wb (L.o.trans (X.o.mono I))).mono ?_;rintro e V ⟨rfl,E⟩;have P:OwnL 66 G.heap.size V u5 ((s.recs.take j).filter q):=(Keep.of_below' (S:=qe) E (Zp _)).ownsRow aB.o λ_ _=>id;have O:Below G.heap.size G V:=X.o.trans (E.mono X.o.size);have F:=(E.block _ b6).trans aD.o;have aJ:=E.size;cases hq:q x with
   | false=>
     dsimp only;have N:=qL P;have M:=qL O;clear P O F E
     go_wp2_with fail
     go_roundg (n-(j+1));case measure=>omega
     case rel=>refine⟨j+1,Z,rfl,b8,?_,M.o⟩;rw[ae.o,uw,ux,hq,V2 b8,UP,We];exact N.o
   | true=>
     have x0:V.cell? ⟨K.heap.size,0,none⟩=some (.int .u64 x.item):=(zW F 0 _ rfl).1;have x1:V.cell? ⟨K.heap.size,1,none⟩=some (.int .u64 x.rep):=(zW F 1 _ rfl).1;have x2:V.cell? ⟨K.heap.size,2,none⟩=some (.int .u64 x.ctr):=(zW F 2 _ rfl).1;have x3:V.cell? ⟨K.heap.size,3,none⟩=some (.string x.val):=(zW F 3 _ rfl).1;have N:=qL P;have M:=qL O;clear P O F E;dsimp only
     go_wp2_with fail
     refine Zi _ _ 51 rfl G.heap.size 66 i0 _ 4 40 underlying51 B.o.1 B.o.2.1 B.o.2.2.1 B.o.2.2.2 rfl dE _ _ (((s.recs.take j).filter q).flatMap rcs) rfl (World.ownsRow.alloc N.o _) ⟨V.heap.size,0,none⟩ 1 1 (rcs x) rfl rfl (λk u hk=>by
      rw[zh,wy];exact(zW (tx V _) k u (by simpa[rcs]using hk)).1) (λu hu=>zs3 (l:=[x]) u (dM hu)) dG b6 b7 ?_
     intro v6 w6 an ah _ _;have af:=(M.o.alloc M.o.size _).grown ah b7 λk hk=>(World.ownsRow.lt N.o k hk).1;have aA:=qL an;have aw:=qL af;clear an ah af
     go_wp2_with fail
     go_roundg (n-(j+1));case measure=>omega
     case rel=>refine⟨j+1,Z,rfl,b8,?_,aw.o⟩;rw[ae.o,uw,ux,hq,VS rfl,UP];unfold OwnL;rw[wu,Wl,Wn,UD,We];exact aA.o
  .obtain rfl:j=n:=b6
   go_wp2_with fail
   refine tI (tR rfl _ _ _) rfl ?_;have h:=aC.o;rw[ww (by rw[HN.o];exact Zp _)]at h;exact⟨_,rfl,L.o.trans (ax.o.mono I),h.1,h.2.imp id λ⟨g,o,Y,q1,q2,q3⟩=>⟨g,o,Y,q1,V3 I q2,q3⟩⟩
end
def ztT(k:List Fg)(items:List Iv)(x:Rc)(hi:Nrm items)(j:items.length<=1152921504606846976)(u:RightK k)(o:x.ctr<zk)(hz:QW k):Cn xT 37 [rcp x,.cp [rg items] 0,.cp [kp k] 0] (.v (.bool (mem items x.item && !hasK k x.item x.rep x.ctr))):=by
 refine zt func37 3 ?_;refine pw ?_;refine .c (ziQ items x.item hi j) ?_;refine .i ?_ ?_<;>intro h<;>first|refine pw ?_|exact pd
 .refine .c (zoW k x.item x.rep x.ctr u o hz) ?_;simp[h]
 .simp[h]
section
attribute [-go_sem] z7
def zsI{f:FuncId}{y:List PV}{x:Value}(C:Cn xT f y (.v x)){D:Qk}{w:World}{vs:Array Value}(A:Gd D w)(o:vs.size=y.length)(j:∀(i:Nat) p,y[i]?=some p->Dat D w (vs.getD i undef) p):Calls xT f vs w λe B=>e=.returned x/\Below w.heap.size w B:=by refine(jP C A.1 A.2 o j).mono ?_;rintro e B ⟨u,rfl,hb,j⟩;rw[(Rel.dat (ρ:=λ_=>0) (nb:=0) j).v_inv];exact⟨rfl,hb⟩
def ztx{D:Qk}{w:World}{b:Nat}{v:Value}{p:PV}{t:TypeId}(h:w.heap[b]?=some (.cells #[v] t (0,0)))(y:D b 0)(u:v.oneCell'=true)(A:Dat D w v p):Dat D w (.pointer (some ⟨b,0,none⟩)) (.cp [p] 0):=
 .cp b 0 [p] 0 (λ_=>v) (λj B=>by
  obtain rfl:j=0:=(dM B);exact⟨y,(zW h 0 _ rfl).1,u⟩) λj q o=>by
  match j,o with
  |0,o=>cases o;exact A
def bc0{w o:World}{a:Addr}{v:Value}(h:Below w.heap.size w o)(j:w.cell? a=some v):o.cell? a=some v:=(tw (h.block _ (tz w a j))).trans j
def zt3{D:Qk}{w:World}{v:Value}{c k:Int}(h:Dat D w v (.ifc 123 (.agg [.v (.int .i64 c),.v (.int .i64 k)]))):v=.iface 123 (.agg #[.int .i64 c,.int .i64 k]):=by
 cases h with
 | ifc t x p h=>
   cases h with
   | agg vs cs hs h1 h=>
     have j:=(Rel.dat (ρ:=λ_=>0) (nb:=0) (h 0 _ rfl)).v_inv;have o:=(Rel.dat (ρ:=λ_=>0) (nb:=0) (h 1 _ rfl)).v_inv;obtain⟨l⟩:=vs;match l,hs with
     |[p,q],_=>simp at j o;rw[j,o]
def Ke.zz{C:Q9}{R E I:List Nat}{k:List Fg}(h:Ke C R E k)(e:Env25 C R E I):QW k:=h.kn.z (by have:=e.e;omega)
def ztv{k:List Fg}(o:RightK k)(hz:QW k):Cn xT 32 [kp k] (.v .nilIface):=by have j:BdK k:=BdK.of o hz;have:=Vh k j hz;rw[yk ((ZN j).2 o)]at this;exact this
def OwnL.base{e:TypeId}{b j:Nat}{w:World}{v:Value}{l:List Rc}(h:OwnL e b w v l)(hb:j<=b):OwnL e j w v l:=⟨h.1,h.2.imp id λ⟨g,cap,cur,q1,q2,q3⟩=>⟨g,cap,cur,q1,V3 hb q2,q3⟩⟩
def zul{C:Q9}{R E I:List Nat}{n t b m:Nat}{D:Qk}{w:World}{s:Rs}{k:List Fg}{items:List Iv}{ka ia:Option Addr}{T S:Nat}(e:Env25 C R E I)(h:Ok25 C R E I n s)(hn:n<=26)(hR:Rpl D t w b m s)(hG:Gd D w)(hr:RightK k)(hz:QW k)(dk:Dat D w (.slice ka k.length T) (kp k))(hi:Nrm items)(ah:items.length<=1000)(d:Dat D w (.slice ia items.length S) (rg items)):
 Calls xT 12 #[.pointer (some ⟨b,0,none⟩),.slice ka k.length T,.slice ia items.length S] w λe U=>∃a c,e=.returned (.tuple #[.slice a (zs0 s k items).length c,.nilIface])/\Below w.heap.size w U/\OwnL 66 w.heap.size U (.slice a (zs0 s k items).length c) (zs0 s k items):=by
 obtain⟨y,G⟩:=xm ((w.alloc (.cells #[.slice ka k.length T] 41)).alloc (.cells #[.slice ia items.length S] 24));have M:Below w.heap.size w y:=by rw[G];exact((tB _ w).alloc (Zp _) _).alloc b8 _
 have ai:y.heap.size=w.heap.size+2:=by rw[G];simp
 have Q:y.heap[w.heap.size]?=some (.cells #[.slice ka k.length T] 41 (0,0)):=by rw[G];exact Ty _ _ _
 have K:y.heap[w.heap.size+1]?=some (.cells #[.slice ia items.length S] 24 (0,0)):=by rw[G];exact Tx _ _ _
 have A:∀W,Below y.heap.size y W->Gd (Nw D w y) W/\Dat (Nw D w y) W (.slice ka k.length T) (kp k)/\Dat (Nw D w y) W (.slice ia items.length S) (rg items)/\Rpl D t W b m s:=λW H=>by have J:Keep qe w W:=(Keep.of_below' M (Zp _)).trans (Keep.of_below' H (Zp _));have h1:=hG.keep J λ_ _ _=>id;exact⟨⟨h1.1.mono (λ_ _ h=>.inl h) λ_ _ _ _ h=>h,λb o h=>h.elim (h1.2 b o) λh=>Vq h.2 H.size⟩,dk.mono (λ_ _ h=>.inl h) λb o x hd P=>J.cell_some P id,d.mono (λ_ _ h=>.inl h) λb o x hd P=>J.cell_some P id,hR.keep J id id λb o h=>⟨h,id⟩⟩
 have hM:=zw;have V:=λW H=>zsI (ztv hr hz) (A W H).1 (vs:=#[.slice ka k.length T]) rfl λj p u=>by
  match j,u with
  |0,u=>cases u;exact(A W H).2.1
  |j+1,u=>simp at u
 have Y:=λW H=>zsI (zpJ items hi b6) (A W H).1 (vs:=#[.slice ia items.length S]) rfl λj p u=>by
  match j,u with
  |0,u=>cases u;exact(A W H).2.2.1
  |j+1,u=>simp at u
 have Z:∀L,Below y.heap.size y L->Calls xT 36 #[.pointer (some ⟨b,0,none⟩),.func (.func 37) #[] #[.pointer (some ⟨w.heap.size+1,0,none⟩),.pointer (some ⟨w.heap.size,0,none⟩)]] L λe U=>∃v,e=.returned v/\Below L.heap.size L U/\OwnL 66 L.heap.size U v (zs0 s k items):=λL O=>
  ztO (q:=λx=>mem items x.item && !hasK k x.item x.rep x.ctr) (A L O).2.2.2 h.a (by have:=h.len e;omega) (λx P=>(e.m _ (h.x x P).1).1) (enters_of func37 dN rfl) λx P W H=>by
   have N:=O.trans (H.mono O.size);obtain⟨g1,g2,g3,_⟩:=A W N;refine cn_bool (ztT k items x hi b6 hr (by have:=h.x x P;omega) hz) g1.1 g1.2 rfl λj p u=>?_;match j,u with
   |0,u=>cases u;exact ztb x
   |1,u=>cases u;exact ztx ((N.block _ b6).trans K) (.inr ⟨b6,b6⟩) rfl g3
   |2,u=>cases u;exact ztx ((N.block _ b6).trans Q) (.inr ⟨b6,b6⟩) rfl g2
   |j+3,u=>simp at u
 have c0:y.cell? ⟨w.heap.size,0,none⟩=some (.slice ka k.length T):=(zW Q 0 _ rfl).1;have c1:y.cell? ⟨w.heap.size+1,0,none⟩=some (.slice ia items.length S):=(zW K 0 _ rfl).1;have HX:=qL K;have ac:=qL V;have ad:=qL Y;have ae:=qL Z;have ab:=qL M;clear A V Y Z Q K M hR hG dk d h hr hz;go_enter func12,ntmps12
 go_wp2_with (first
  |(go_at_call 32;rw[<-G];refine(ac.o y (tB _ _)).mono ?_;rintro e w2 ⟨rfl,F⟩;have d0:=bc0 F c0;have d1:=bc0 F c1)
  |(go_at_call 34;refine(ad.o _ F).mono ?_;rintro e w3 ⟨rfl,af⟩;have B:=F.trans (af.mono F.size);have d3:=bc0 B c0;have d4:=bc0 B c1)
  |(go_at_call 35;refine(As.Is_nil _ _).mono ?_;rintro e U ⟨rfl,rfl⟩)
  |(go_at_call 36;refine(ae.o _ B).mono ?_;rintro e w5 ⟨v,rfl,ag,X⟩;obtain⟨a5,c5,rfl⟩:=X.val))
 refine tI (Tw rfl _ _ _) rfl ?_;exact⟨_,_,rfl,ab.o.trans ((B.mono b6).trans (ag.mono (by have:=B.size;omega))),X.base (by have:=B.size;omega)⟩
def zvu{c d:Prop}[Decidable c][Decidable d]{x:Nat×Int}{i:Int}(ih:x.1≠0->x.1=2\/x.1=3)(h:(if c then (if d then x else (3,i)) else (2,i)).1≠0):(if c then (if d then x else (3,i)) else (2,i)).1=2\/(if c then (if d then x else (3,i)) else (2,i)).1=3:=by
 by_cases j:c
 .rw[VS j]at h⊢;by_cases o:d
  .rw[VS o]at h⊢;exact ih h
  .rw[V2 o];exact .inr rfl
 .rw[V2 j];exact .inl rfl
def zth:∀(l:List Iv)(p:Option Iv)(i:Nat),(QZ p l i).1≠0->(QZ p l i).1=2\/(QZ p l i).1=3
 |[],p,i,h=>absurd (by simp[QZ]) h
 |s::l,p,i,h=>zvu (zth l (some s) (i+1)) h
def zvL{f:FuncId}{y:List PV}{c k:Int}(C:Cn xT f y (.ifc 123 (.agg [.v (.int .i64 c),.v (.int .i64 k)]))){D:Qk}{w:World}{vs:Array Value}(A:Gd D w)(o:vs.size=y.length)(j:∀(i:Nat) p,y[i]?=some p->Dat D w (vs.getD i undef) p):Calls xT f vs w λe B=>e=.returned (.iface 123 (.agg #[.int .i64 c,.int .i64 k]))/\Below w.heap.size w B:=by refine(jP C A.1 A.2 o j).mono ?_;rintro e B ⟨u,rfl,hb,j⟩;rw[zt3 j];exact⟨rfl,hb⟩
def sRp:ByteArray:=⟨#[114,101,112,108,105,99,97]⟩
def erV(x:Nat×Int):Value:=.iface 141 (.agg #[.string sRp,.iface 123 (.agg #[.int .i64 x.1,.int .i64 x.2])])
def zu7{D:Qk}{w:World}{v:Value}{x:Nat×Int}(u:x.1≠0)(h:Dat D w v (zou sRp x)):v=erV x:=by
 unfold zou at h;rw[zmb u]at h;cases h with
 | ifc t x p h=>
   cases h with
   | agg vs cs hs h1 h=>
     have j:=(Rel.dat (ρ:=λ_=>0) (nb:=0) (h 0 _ rfl)).v_inv;have o:=zt3 (h 1 _ rfl);obtain⟨l⟩:=vs;match l,hs with
     |[p,q],_=>simp at j o;rw[j,o];rfl
def ztI{D:Qk}{w:World}{b:Nat}{k:List Fg}{items:List Iv}{ka ia:Option Addr}{Q P:Nat}(hG:Gd D w)(hr:RightK k)(hz:QW k)(dk:Dat D w (.slice ka k.length Q) (kp k))(hi:∀s∈items,s.lo<zk/\s.hi<zk)(U:(Zl items).1≠0)(ag:items.length<=1000000)(d:Dat D w (.slice ia items.length P) (rg items)):
 Calls xT 12 #[.pointer (some ⟨b,0,none⟩),.slice ka k.length Q,.slice ia items.length P] w λe Z=>e=.returned (.tuple #[.slice none 0 0,erV (Zl items)])/\Below w.heap.size w Z:=by
 obtain⟨C,F⟩:=xm ((w.alloc (.cells #[.slice ka k.length Q] 41)).alloc (.cells #[.slice ia items.length P] 24));have J:Below w.heap.size w C:=by rw[F];exact((tB _ w).alloc (Zp _) _).alloc b8 _
 have ah:C.heap.size=w.heap.size+2:=by rw[F];simp
 have X:C.heap[w.heap.size]?=some (.cells #[.slice ka k.length Q] 41 (0,0)):=by rw[F];exact Ty _ _ _
 have Y:C.heap[w.heap.size+1]?=some (.cells #[.slice ia items.length P] 24 (0,0)):=by rw[F];exact Tx _ _ _
 have A:∀W,Below C.heap.size C W->Gd D W/\Dat D W (.slice ka k.length Q) (kp k)/\Dat D W (.slice ia items.length P) (rg items):=λW G=>by have K:Keep qe w W:=(Keep.of_below' J (Zp _)).trans (Keep.of_below' G (Zp _));exact⟨hG.keep K λ_ _ _=>id,dk.mono (λ_ _ h=>h) λb o x hd I=>K.cell_some I id,d.mono (λ_ _ h=>h) λb o x hd I=>K.cell_some I id⟩
 have V:=λW G=>zsI (ztv hr hz) (A W G).1 (vs:=#[.slice ka k.length Q]) rfl λj p y=>by
  match j,y with
  |0,y=>cases y;exact(A W G).2.1
  |j+1,y=>simp at y
 have L:=rcheck_c items hi b6 (.inr (KL 2));have N:=zqK sRp (Zl items) U;rw[zmb U]at L N;have M:=λW G=>zvL L (A W G).1 (vs:=#[.slice ia items.length P]) rfl λj p y=>by
  match j,y with
  |0,y=>cases y;exact(A W G).2.2
  |j+1,y=>simp at y
 have O:∀W,Below C.heap.size C W->Calls xT 33 #[.string sRp,.iface 123 (.agg #[.int .i64 (Zl items).1,.int .i64 (Zl items).2])] W λe Z=>e=.returned (erV (Zl items))/\Below W.heap.size W Z:=λW G=>by
  refine(jP N (A W G).1.1 (A W G).1.2 rfl λj p y=>?_).mono ?_
  .match j,y with
   |0,y=>cases y;exact .v _
   |1,y=>cases y;exact .ifc _ _ _ (znT (.v _) (.v _) rfl rfl)
   |j+2,y=>simp at y
  .rintro e Z ⟨u,rfl,hb,hd⟩;rw[zu7 U hd];exact⟨rfl,hb⟩
 have c0:C.cell? ⟨w.heap.size,0,none⟩=some (.slice ka k.length Q):=(zW X 0 _ rfl).1;have c1:C.cell? ⟨w.heap.size+1,0,none⟩=some (.slice ia items.length P):=(zW Y 0 _ rfl).1;have H:=zth items none 0 U;obtain⟨x,I⟩:=xm (Zl items);rw[<-I]at M O;rw[<-I];replace H:x.1=2\/x.1=3:=by rw[I];exact H
 have ac:=qL V;have S:=qL M;have T:=qL O;have ab:=qL J;clear A V M O X Y J hG dk d hr hz L N hi U I;obtain⟨c,p⟩:=x;dsimp only at H S T;rcases H with rfl|rfl;all_goals
  go_enter func12,ntmps12
  go_wp2_with (first
   |(go_at_call 32;rw[<-F];refine(ac.o C (tB _ _)).mono ?_;rintro e w2 ⟨rfl,E⟩;have d0:=bc0 E c0;have d1:=bc0 E c1)
   |(go_at_call 34;refine(S.o _ E).mono ?_;rintro e w3 ⟨rfl,ad⟩;have B:=E.trans (ad.mono E.size))
   |(go_at_call 35;refine(As.Is_FN _ _ _ _).mono ?_;rintro e Z ⟨rfl,ae⟩;replace B:=B.trans (ae.mono B.size))
   |(go_at_call 33;refine(T.o _ B).mono ?_;rintro e w6 ⟨rfl,af⟩))
  refine tI (Tw rfl _ _ _) rfl ?_;exact⟨rfl,ab.o.trans ((B.mono b6).trans (af.mono (by have:=B.size;omega)))⟩
end
section
def zsV(x:Int):Nat:=((x%18446744073709551616)%3).toNat
def zs5(x:Int):zsV x<3:=by unfold zsV;omega
def ztC(S:Nat->Rs)(i:Nat)(s:Rs):Nat->Rs:=λk=>if k=i then s else S k
noncomputable def zsY (S:Nat->Rs) (o:Opn):Nat->Rs:=
 if o.items.length=0 then ztC S (zsV o.who) (ztM (S (zsV o.who)) o.item o.val)
 else if (Zl o.items).1=0 then ztC S (zsV o.who) (ztt (S (zsV o.who)) (S (zsV o.from_)) o.items) else S
def S0:Nat->Rs:=λi=>⟨10*i,[],[],0⟩
def OkS(C:Q9)(R E I:List Nat)(n:Nat)(S:Nat->Rs):Prop:=∀i,i<3->Ok25 C R E I n (S i)
def OpE(E I:List Nat)(o:Opn):Prop:=(∀s∈o.items,s.lo<zk/\s.hi<zk)/\o.val.size<=100/\o.items.length<=10/\o.item∈I/\∀x∈z6 o.items,x∈E
section
variable {C:Q9}{R E I:List Nat}{n:Nat}{S:Nat->Rs}{o:Opn}
def OpE.ed(h:OpE E I o)(u:(Zl o.items).1=0):Nrm o.items/\∀x,Ed o.items x->x∈E:=by have j:Nrm o.items:=(YT λs hs=>(h.1 s hs).2).1 u;refine⟨j,λx w=>?_⟩;exact h.2.2.2.2 x (Y3 (j.ivs2) w)
def OkS.mono{m:Nat}(h:OkS C R E I n S)(j:n<=m):OkS C R E I m S:=λi hi=>(h i hi).mono j
def OkS.upd{m:Nat}{j:Nat}{s:Rs}(h:OkS C R E I n S)(o:n<=m)(hs:Ok25 C R E I m s):OkS C R E I m (ztC S j s):=λi hi=>by
 unfold ztC;split
 .exact hs
 .exact(h i hi).mono o
def OkS.step(h:OkS C R E I n S)(e:Env25 C R E I)(ho:OpE E I o)(w:n<=25):OkS C R E I (n+1) (zsY S o):=by
 have j:=h _ (zs5 o.who);have u:=h _ (zs5 o.from_);unfold zsY;split
 .exact h.upd b6 (j.put e ho.2.2.2.1 ho.2.1 w)
 .split
  .rename_i hc;exact h.upd b6 ((j.pull u e (ho.ed hc).1 (ho.ed hc).2 ho.2.2.1).mono b6)
  .exact h.mono b6
end
def zwf{C:Q9}{R E I:List Nat}(j:∀i,i<3->10*i∈R):OkS C R E I 0 S0:=λi hi=>
 ⟨Ke.nil,List.Pairwise.nil,λx o=>by simp[S0]at o,Zp _,by unfold S0;have:=zw;dsimp only;omega,j i hi⟩
def edO(l:List Opn):List Nat:=0::l.flatMap λo=>o.item::(o.item+1)::z6 o.items
def zt4:∀(l:List Opn),(∀o∈l,o.items.length<=10)->(edO l).length<=1+l.length*22
 |[],_=>by simp[edO]
 |o::l,h=>by have j:=zt4 l λx u=>h x (by simp[u]);have w:=h o b8;have y:=vq o.items;simp only[edO,wD,Wn,wu]at j⊢;omega
def ztG{l:List Opn}(h:ztR l=true):l.length<=25/\∀o∈l,o.val.size<=100/\o.items.length<=10:=by simp[ztR]at h;exact h
def zu9{l:List Opn}(h:ztR l=true)(hb:∀o∈l,BdO o):Env25 (λ_=>List.range 27) [0,10,20] (edO l) (l.map Opn.item)/\∀o∈l,OpE (edO l) (l.map Opn.item) o:=by obtain⟨y,w⟩:=ztG h;have A:=zt4 l λo ho=>(w o ho).2;have j:∀o∈l,∀x∈o.item::(o.item+1)::z6 o.items,x∈edO l:=λo ho x u=>Ws _ (uu.2 ⟨o,ho,u⟩);refine⟨⟨⟨λr=>b8,b8⟩,λr x u=>b7,by simp[edO],b6,dM y,λi hi=>?_⟩,λo ho=>⟨(hb o ho).2.2.2.1,(w o ho).1,(w o ho).2,List.mem_map_of_mem ho,λx u=>j o ho x (by simp[u])⟩⟩;obtain⟨o,ho,rfl⟩:=wG.1 hi;exact⟨(hb o ho).2.1,j o ho _ b8,λ_=>j o ho _ b8⟩
def mrg:Option Rc->Option Rc->Option Rc
 |none,o=>o
 |some y,none=>some y
 |some y,some x=>if zs7 y x=true then some y else some x
def leR(c r:Nat)(y:Rc):Prop:=c<y.ctr\/(c=y.ctr/\r<=y.rep)
def zuE{x y:Rc}:zs7 x y=true↔¬leR x.ctr x.rep y:=by unfold zs7 leR;simp;omega
def ztg{l:List Rc}(h:zr8 l)(p:Rc->Bool)(i:Nat):zrZ (l.filter p) i=(zrZ l i).filter p:=by
 induction l with
 |nil=>rfl
 | cons y l ih=>
   obtain⟨j,o⟩:=wk.1 h;rw[ux,zrf];by_cases e:y.item=i
   .have u:zrZ (l.filter p) i=none:=ztk λz hz=>(by have:=j z (Wv.1 hz).1;omega);rw[VS e];split
    .rename_i hp;rw[zrf,VS e];simp[Option.filter,hp]
    .rename_i hp;rw[u];simp[Option.filter,hp]
   .rw[V2 e,<-ih o];split
    .rw[zrf,V2 e]
    .rfl
def zvN{l:List Rc}(h:zr8 l)(y:Rc)(i:Nat):zrZ (zse l y) i=if y.item=i then mrg (some y) (zrZ l i) else zrZ l i:=by
 unfold zse;by_cases e:y.item=i
 .rw[VS e,e];cases hg:zrZ l i with
  |none=>dsimp only[mrg];rw[zsb i h,VS e]
  | some x=>
    dsimp only[mrg];split
    .rw[zsb i h,VS e]
    .exact hg
 .rw[V2 e];split
  .split
   .rw[zsb i h,V2 e]
   .rfl
  .rw[zsb i h,V2 e]
def zuZ:∀{m l:List Rc}(_:zr8 m)(_:zr8 l)(i:Nat),zrZ (m.foldl zse l) i=mrg (zrZ m i) (zrZ l i)
 |[],l,_,_,i=>rfl
 | y::m,l,hm,hl,i=>by
   obtain⟨j,o⟩:=wk.1 hm;rw[WN,zuZ o (zsy hl) i,zvN hl,zrf];by_cases e:y.item=i
   .rw[VS e,VS e,ztk λz hz=>by have:=j z hz;omega];rfl
   .rw[V2 e,V2 e]
structure PyI(S:Nat->Rs):Prop where
 i1:∀a,a<3->∀x∈(S a).recs,hasK (S a).known x.item x.rep x.ctr=true
 i2:∀a,a<3->∀i r c,i<zk->c<zk->hasK (S a).known i r c=true->∃x,zrZ (S a).recs i=some x/\leR c r x
 i3:∀a b,a<3->b<3->∀x∈(S a).recs,∀y∈(S b).recs,x.item=y.item->x.rep=y.rep->x.ctr=y.ctr->x=y
 i4:∀a b,a<3->b<3->∀x∈(S a).recs,x.rep=(S b).id->x.ctr<(S b).next
 nm:∀a,a<3->(S a).id=10*a
def PyI.zero:PyI S0:=⟨λ_ _ x j=>by simp[S0]at j,λa _ i r c _ _ h=>by simp[S0,zcY]at h,λ_ _ _ _ x j=>by simp[S0]at j,λ_ _ _ _ x j=>by simp[S0]at j,λ_ _=>rfl⟩
section
variable {C:Q9}{R E I:List Nat}{n:Nat}{S:Nat->Rs}
def zvR{s f:Rs}{items:List Iv}(j:zr8 f.recs)(i:Nat):zrZ (zs0 f s.known items) i=(zrZ f.recs i).filter λx=>mem items x.item && !hasK s.known x.item x.rep x.ctr:=ztg j _ i
def zvO{f:Rs}{k:List Fg}{items:List Iv}(j:zr8 f.recs):zr8 (zs0 f k items):=List.Pairwise.filter _ j
def zu6{s f:Rs}{items:List Iv}(e:Env25 C R E I)(hs:Ok25 C R E I n s)(u:Ok25 C R E I n f)(hi:Nrm items){i r c:Nat}(j:i<zk)(o:c<zk):hasK (ztt s f items).known i r c=(hasK s.known i r c || (mem items i && hasK f.known i r c)):=by show hasK (vh zn s.known (znF f.known items)) i r c=_;rw[zcZ rfl hs.k.r (zn1 u.k.r hi).right j o,zof u.k.r hi j o];rfl
def zu4{s f:Rs}{items:List Iv}(hs:zr8 s.recs)(j:zr8 f.recs)(i:Nat):zrZ (ztt s f items).recs i=mrg ((zrZ f.recs i).filter λx=>mem items x.item && !hasK s.known x.item x.rep x.ctr) (zrZ s.recs i):=by rw[<-zvR j];exact zuZ (zvO j) hs i
def zsH(a:Nat)(s:Rs):ztC S a s a=s:=VS rfl
def zs6{a b:Nat}(s:Rs)(h:b≠a):ztC S a s b=S b:=V2 h
def zty{c r:Nat}{x y:Rc}(h:leR c r x)(j:leR x.ctr x.rep y):leR c r y:=by unfold leR at *;omega
def ztn(e:Env25 C R E I)(u:n<=26){s:Rs}(h:Ok25 C R E I n s){x:Rc}(o:x∈s.recs):x.item<zk/\x.ctr<zk:=by have j:=h.x x o;have:=zw;exact⟨(e.m _ j.1).1,b6⟩
def zu2{x y:Rc}(h:¬zs7 y x=true):leR y.ctr y.rep x:=by rw[zuE]at h;exact Classical.not_not.1 h
def zv1{x y:Rc}(h:zs7 y x=true):leR x.ctr x.rep y:=by rw[zuE]at h;unfold leR at *;omega
def PyI.pull(h:PyI S)(e:Env25 C R E I)(hn:n<=26)(ok:OkS C R E I n S){a b:Nat}(U:a<3)(hb:b<3){items:List Iv}(hi:Nrm items):PyI (ztC S a (ztt (S a) (S b) items)):=by
 have V:=ok a U;have X:=ok b hb;have Z:∀x∈(ztt (S a) (S b) items).recs,(x∈(S b).recs/\mem items x.item=true)\/x∈(S a).recs:=λx u=>by refine((zsa (m:=zs0 (S b) (S a).known items) V.a).2 x u).imp (λh=>?_) id;obtain⟨F,B⟩:=Wv.1 h;simp at B;exact⟨F,B.1⟩
 have hk:∀i r c,i<zk->c<zk->hasK (ztt (S a) (S b) items).known i r c=(hasK (S a).known i r c || (mem items i && hasK (S b).known i r c)):=λi r c F B=>zu6 e V X hi F B;have Y:∀i,zrZ (ztt (S a) (S b) items).recs i=mrg ((zrZ (S b).recs i).filter λx=>mem items x.item && !hasK (S a).known x.item x.rep x.ctr) (zrZ (S a).recs i):=λi=>zu4 V.a X.a i;have L:(ztt (S a) (S b) items).id=(S a).id/\(ztt (S a) (S b) items).next=(S a).next:=⟨rfl,rfl⟩;generalize ztt (S a) (S b) items=T at Z hk Y L;have hu:∀k,k<3->∀x∈(ztC S a T k).recs,∃j,j<3/\x∈(S j).recs:=λk o x u=>by
  by_cases e:k=a
  .rw[e,zsH]at u;rcases Z x u with h|h
   .exact⟨b,hb,h.1⟩
   .exact⟨a,U,h⟩
  .rw[zs6 _ e]at u;exact⟨k,o,u⟩
 have J:∀k,(ztC S a T k).id=(S k).id/\(ztC S a T k).next=(S k).next:=λk=>by
  by_cases e:k=a
  .rw[e,zsH];exact L
  .rw[zs6 _ e];exact⟨rfl,rfl⟩
 -- a record of a stays,or a later one stands in its place
 have N:∀i x,zrZ (S a).recs i=some x->∃y,zrZ T.recs i=some y/\leR x.ctr x.rep y:=λi x u=>by
  rw[Y,u];cases (zrZ (S b).recs i).filter λx=>mem items x.item && !hasK (S a).known x.item x.rep x.ctr with
  |none=>exact⟨x,rfl,.inr ⟨rfl,Zp _⟩⟩
  | some y=>
    dsimp only[mrg];split
    .rename_i hl;exact⟨y,rfl,zv1 hl⟩
    .exact⟨x,rfl,.inr ⟨rfl,Zp _⟩⟩
 refine⟨λk o x u=>?_,λk o i r c F B G=>?_,λk l o H x u y hy=>?_,λk l o H x u hr=>?_,λk o=>?_⟩
 .by_cases K:k=a
  .rw[K,zsH]at u⊢;rcases Z x u with⟨w,A⟩|w
   .obtain⟨l1,l2⟩:=ztn e hn X w;rw[hk _ _ _ l1 l2,h.i1 b hb x w,A];simp
   .obtain⟨l1,l2⟩:=ztn e hn V w;rw[hk _ _ _ l1 l2,h.i1 a U x w];rfl
  .rw[zs6 _ K]at u⊢;exact h.i1 k o x u
 .by_cases K:k=a
  .rw[K,zsH]at G⊢;rw[hk _ _ _ F B]at G;have M:∀r c,c<zk->hasK (S a).known i r c=true->∃x,zrZ T.recs i=some x/\leR c r x:=λr c B O=>by obtain⟨x,w,A⟩:=h.i2 a U i r c F B O;obtain⟨y,P,Q⟩:=N i x w;exact⟨y,P,zty A Q⟩
   by_cases O:hasK (S a).known i r c=true
   .exact M r c B O
   ·rw [UI]at O;rw[O]at G;simp at G;obtain⟨x,w,A⟩:=h.i2 b hb i r c F B G.2;obtain⟨m1,m2⟩:=zsB w;by_cases u:hasK (S a).known i x.rep x.ctr=true
    .obtain⟨y,P,Q⟩:=M _ _ (ztn e hn X m1).2 u;exact⟨y,P,zty A Q⟩
    .rw[UI]at u;rw[Y,w];have hf:(Option.some x).filter (λx=>mem items x.item && !hasK (S a).known x.item x.rep x.ctr)=some x:=(by simp[Option.filter,m2,G.1,u]);rw[hf];cases hga:zrZ (S a).recs i with
     |none=>exact⟨x,rfl,A⟩
     | some y=>
       dsimp only[mrg];split
       .exact⟨x,rfl,A⟩
       .rename_i hl;exact⟨y,rfl,zty A (zu2 hl)⟩
  .rw[zs6 _ K]at G⊢;exact h.i2 k o i r c F B G
 .obtain⟨k',w,A⟩:=hu k o x u;obtain⟨l',P,Q⟩:=hu l H y hy;exact h.i3 k' l' w P x A y Q
 .obtain⟨k',w,A⟩:=hu k o x u;rw[(J l).1]at hr;rw[(J l).2];exact h.i4 k' l w H x A hr
 .rw[(J k).1];exact h.nm k o
def zvS{i r c:Nat}(hi:i<zk)(y:r<zk)(w:c<zk){i' r' c':Nat}:hasK (znP i r c) i' r' c'=true↔i'=i/\r'=r/\c'=c:=by
 rw[km];have e:∀x,mem (zT (zl9 r c) x) c'=true↔x=r/\c'=c:=λx=>by
  rw[zoE y w];by_cases e:r=x
  .rw[VS e];simp[mem];omega
  .rw[V2 e];simp[mem];omega
 constructor
 .rintro⟨f,j,o,u⟩;simp only[znP,wK]at j;subst j;have:=(e r').1 u;simp[mem]at o;omega
 .rintro⟨rfl,rfl,rfl⟩;exact⟨_,by simp[znP];rfl,by simp[mem],(e _).2 ⟨rfl,rfl⟩⟩
def PyI.put(h:PyI S)(e:Env25 C R E I)(hn:n<=25)(ok:OkS C R E I n S){a:Nat}(J:a<3){i:Nat}{v:ByteArray}(hi:i∈I):PyI (ztC S a (ztM (S a) i v)):=by
 have hM:=zw;have O:=ok a J;have ac:=(e.m i hi).1;have ae:=O.ctr i;have Z:(S a).next<=zsq (S a) i:=by
  unfold zsq;split
  .split<;>omega
  .omega
 have ab:∀x,zrZ (S a).recs i=some x->x.ctr<zsq (S a) i:=λx u=>by
  unfold zsq;rw[u];dsimp only;split<;>omega
 obtain⟨c,V⟩:=xm (zsq (S a) i);rw[<-V]at ae Z ab;have G:(ztM (S a) i v).recs=zr4 (S a).recs ⟨i,(S a).id,c,v⟩:=by rw[V];rfl
 have hk:∀B P F,B<zk->F<zk->hasK (ztM (S a) i v).known B P F=(hasK (S a).known B P F || hasK (znP i (S a).id c) B P F):=λB P F Q U=>by rw[V];show hasK (vh zn _ _) B P F=_;rw[zcZ rfl O.k.r (ztd e hi O.i.1 O.i.2 (by rw[<-V];omega)).r Q U];rfl
 have K:(ztM (S a) i v).id=(S a).id/\(ztM (S a) i v).next=c+1:=⟨rfl,by rw[V];rfl⟩;generalize ztM (S a) i v=T at G hk K;clear V;have H:=λB P F=>zvS (c:=c) (i':=B) (r':=P) (c':=F) ac O.i.1 b6;have hg:∀k,zrZ T.recs k=if i=k then some ⟨i,(S a).id,c,v⟩ else zrZ (S a).recs k:=λk=>by rw[G,zsb k O.a]
 have X:∀k,k<3->∀x∈(ztC S a T k).recs,x=⟨i,(S a).id,c,v⟩\/x∈(S k).recs:=λk j x u=>by
  by_cases e:k=a
  .rw[e,zsH,G]at u;rw[e];exact zr3 u
  .rw[zs6 _ e]at u;exact .inr u
 have ad:∀k,(ztC S a T k).id=(S k).id:=λk=>by
  by_cases e:k=a
  .rw[e,zsH];exact K.1
  .rw[zs6 _ e]
 have L:∀k,k<3->∀y∈(S k).recs,y.rep=(S a).id->y.ctr<c:=λk j y hy M=>Vq (h.i4 k a j J y hy M) Z;refine⟨λk j x u=>?_,λk j B r F Q U A=>?_,λk l j w x u y hy q1 q2 q3=>?_,λk l j w x u M=>?_,λk j=>?_⟩
 .by_cases Y:k=a
  .rw[Y]at u⊢;have o:=X a J x u;rw[zsH];rcases o with rfl|o
   .rw[hk _ _ _ ac (by dsimp only;omega),(H _ _ _).2 ⟨rfl,rfl,rfl⟩];simp
   .obtain⟨l1,l2⟩:=ztn e b6 O o;rw[hk _ _ _ l1 l2,h.i1 a J x o];rfl
  .rw[zs6 _ Y]at u⊢;exact h.i1 k j x u
 .by_cases Y:k=a
  .rw[Y,zsH]at A⊢;rw[hk _ _ _ Q U,WM]at A;rw[hg];by_cases ei:i=B
   .rw[VS ei];refine⟨_,rfl,?_⟩;rcases A with A|A
    .obtain⟨x,q1,q2⟩:=h.i2 a J B r F Q U A;rw[<-ei]at q1;have:=ab x q1;unfold leR at *;dsimp only;omega
    .obtain⟨_,rfl,rfl⟩:=(H _ _ _).1 A;exact .inr ⟨rfl,Zp _⟩
   .rw[V2 ei];rcases A with A|A
    .exact h.i2 a J B r F Q U A
    .exact absurd ((H _ _ _).1 A).1.symm ei
  .rw[zs6 _ Y]at A⊢;exact h.i2 k j B r F Q U A
 .rcases X k j x u with rfl|o
  .rcases X l w y hy with rfl|N
   .rfl
   .have:=L l w y N q2.symm;dsimp only at q3;omega
  .rcases X l w y hy with rfl|N
   .have:=L k j x o q2;dsimp only at q3;omega
   .exact h.i3 k l j w x o y N q1 q2 q3
 .rw[ad]at M;by_cases el:l=a
  .rw[el]at M⊢;rw[zsH,K.2];rcases X k j x u with rfl|o
   .exact UE _
   .have:=L k j x o M;omega
  .rw[zs6 _ el];rcases X k j x u with rfl|o
   .have e1:=h.nm l w;have e2:=h.nm a J;dsimp only at M;omega
   .exact h.i4 k l j w x o M
 .rw[ad];exact h.nm k j
def PyI.step(h:PyI S)(e:Env25 C R E I)(j:n<=25)(ok:OkS C R E I n S){o:Opn}(ho:OpE E I o):PyI (zsY S o):=by
 unfold zsY;split
 .exact h.put e j ok (zs5 _) ho.2.2.2.1
 .split
  .rename_i hc;exact h.pull e b6 ok (zs5 _) (zs5 _) (ho.ed hc).1
  .exact h
def zv4(h:PyI S)(e:Env25 C R E I)(u:n<=26)(ok:OkS C R E I n S){items:List Iv}(hi:Nrm items):zs0 (S 1) (ztt (S 0) (S 1) items).known items=[]:=by
 have A:=ok 0 dE;have o:=ok 1 dE;unfold zs0;rw[List.filter_eq_nil_iff];intro x j;obtain⟨w,y⟩:=ztn e u o j;rw[zu6 e A o hi w y,h.i1 1 dE x j];cases mem items x.item<;>simp
def zwg(e:Env25 C R E I)(ok:OkS C R E I n S){items:List Iv}(hi:Nrm items):vh zm (vh zn [] (znF (S 1).known items)) (ztt (S 0) (S 1) items).known=[]:=by have y:=ok 0 dE;have B:=ok 1 dE;have j:=(zn1 B.k.r hi).right;have A:RightK (ztt (S 0) (S 1) items).known:=(ze5 (f:=zn) y.k.r j).right;rw[V0 (ze5 zic j).right A];intro i r c u w o;rw[zcZ rfl zic j u w,zcY]at o;show hasK (vh zn _ _) i r c=true;rw[zcZ rfl y.k.r j u w];simp only[zn,uH]at o;simp only[zn,o,Bool.or_true]
end
end
section
attribute [-go_sem] z7
def zs1:∀(l:List Rc),(l.flatMap rcs).length=l.length*4
 |[]=>rfl
 |x::l=>by rw[Wn,wu,zs1 l];simp[rcs];omega
def zsZ{D:Qk}{w:World}{v:Value}{l:List Rc}(h:Dat D w v (lp l)):
 ∃a c,v=.slice a l.length c/\l.length<=c/\c<=maxLen/\(l≠[]->∃g A,a=some ⟨g,A,none⟩/\∀i u,(l.flatMap rcs)[i]?=some u->D g (A+i)/\w.cell? ⟨g,A+i,none⟩=some u):=by
 unfold lp at h;generalize L:l.map rcc=es at h;cases h with
 | sl a cap sz es o b A u hc hz hm ha hsz hd hx=>
   have M:es.length=l.length:=(by rw[<-L];simp);have g:∀i (h:i<l.length),es[i]?=some (rcc l[i]):=λi h=>(by rw[<-L];exact xo h);refine⟨a,cap,by rw[M],b6,hm,λI=>?_⟩;have F:0<l.length:=Wb.2 I;obtain rfl:4=sz:=hsz 0 _ (g 0 F);have H:es≠[]:=(by intro e;subst e;simp at M;omega);refine⟨b,A,ha H,λi v B=>?_⟩;have E:=zs1 l;have hi:=(ZZ.1 B).1;rw[E]at hi;have J:i/4<l.length:=b6;have e1:i=i/4*4+i%4:=b6;have K:i%4<4:=b6;rw[e1,zsD J K]at B;have C:=hd i b6;rw[e1]at C⊢;refine⟨C.1,?_⟩;rw[C.2.1];have y:∀j p,j=i%4->(rcc l[i/4])[j]?=some (.v p)->u (i/4*4+j)=p:=λj p _ N=>(hx _ _ _ _ (g _ J) N).v_inv;match G:i%4,K with
   |0,_=>rw[G]at B y;rw[y 0 _ rfl rfl];exact B
   |1,_=>rw[G]at B y;rw[y 1 _ rfl rfl];exact B
   |2,_=>rw[G]at B y;rw[y 2 _ rfl rfl];exact B
   |3,_=>rw[G]at B y;rw[y 3 _ rfl rfl];exact B
def ztV{D:Qk}{w:World}{v:Value}{l:List Opn}(h:Dat D w v (opp l)):
 ∃a c,v=.slice a l.length c/\l.length<=c/\∀j (A:j<l.length),∃g y ia B,a=some ⟨g,y,none⟩/\D g y/\w.cell? ⟨g,y+j*5,none⟩=some (.int .i64 l[j].who)/\w.cell? ⟨g,y+(j*5+1),none⟩=some (.int .i64 l[j].from_)/\w.cell? ⟨g,y+(j*5+2),none⟩=some (.int .u64 l[j].item) /\
  w.cell? ⟨g,y+(j*5+3),none⟩=some (.string l[j].val)/\w.cell? ⟨g,y+(j*5+4),none⟩=some (.slice ia l[j].items.length B)/\Dat D w (.slice ia l[j].items.length B) (rg l[j].items):=by
 unfold opp at h;generalize F:l.map opc=es at h;cases h with
 |sl a cap sz es o b y u hc hz hm ha hsz hd hx=>have G:es.length=l.length:=(by rw[<-F];simp);have g:∀i (h:i<l.length),es[i]?=some (opc l[i]):=λi h=>(by rw[<-F];exact xo h);refine⟨a,cap,by rw[G],b6,λj A=>?_⟩;obtain rfl:5=sz:=hsz 0 _ (g 0 b6);have E:es≠[]:=(by intro e;subst e;simp at G;omega);have d0:=(hx _ _ 0 _ (g j A) rfl).v_inv;have M:=(hx _ _ 1 _ (g j A) rfl).v_inv;have N:=(hx _ _ 2 _ (g j A) rfl).v_inv;have O:=(hx _ _ 3 _ (g j A) rfl).v_inv;have C:Dat D w (u (j*5+4)) (rg l[j].items):=hx _ _ 4 _ (g j A) rfl;have H:=(hd (j*5+0) b6).2.1;have I:=(hd (j*5+1) b6).2.1;have J:=(hd (j*5+2) b6).2.1;have K:=(hd (j*5+3) b6).2.1;have L:=(hd (j*5+4) b6).2.1;rw[d0]at H;rw[M]at I;rw[N]at J;rw[O]at K;obtain⟨ia,B,e4⟩:=zK C;rw[e4]at L C;exact⟨b,y,ia,B,ha E,by simpa using (hd 0 b6).1,H,I,J,K,L,C⟩
def zup{e:TypeId}{z:Value}{size y:Nat}(G:(xT.info? e).map (λi=>(i.zero,i.size,i.bytes))=some (some z,size,y))(hzs:z.cells.size=size)(N:0<size)(L:y<=40)(w:World)(t T:TypeId)(ht:xT.underlying t=some (.slice e))(base:Nat)(v:Value)(n:Nat)(U:List Value)(A:w.ownsRow base e size v n U)(I:Option Addr)(m c:Nat)(o:List Value)(hl:o.length=m*size)
 (C:(m=0/\I=none)\/∃a,I=some a/\∀j u,o[j]?=some u->w.cell? (a.add j)=some u) (Z:∀u∈o,u.oneCell'=true) (K:n+m<=17179869) (B:base<=w.heap.size) :
 ∃E H,(Builtin.append_ #[t,t] T #[v,.slice I m c]).run xT w=.ok E H/\H.ownsRow base e size E (n+m) (U++o)/\w.grownBy H v.ownBlock/\(E.ownBlock=v.ownBlock\/E.ownBlock=some w.heap.size):=by
 obtain⟨V,F,O,Q,S⟩:=tV G;rcases C with⟨rfl,rfl⟩|⟨a,rfl,hn⟩
 .obtain rfl:o=[]:=Wc.1 b6;obtain⟨J,cp,rfl,M⟩:∃J cp,v=.slice J n cp/\n<=cp:=by
   rcases A.2 with⟨rfl,rfl⟩|⟨g,X,Y,rfl,_,_,h,_⟩
   .exact⟨none,0,rfl,Zp _⟩
   .exact⟨_,_,rfl,h⟩
  exact⟨_,w,ve w t T _ V ht F J n cp c M,dM A,jW _ _,.inl rfl⟩
 .obtain⟨E,H,r1,r2,r3,_,r5⟩:=Tm (P:=xT) w base t T e V _ size y ht F O Q S hzs N v n U A a m c o hl hn Z dG (V3 (UW (V3 K (Zp 17179869)) L) b6) B;exact⟨E,H,r1,r2,r3,r5⟩
def zvQ:(xT.info? 80).map (λi=>(i.zero,i.size,i.bytes))=some (some zR,4,40):=dN
def ztc{G:Array Oper}{o:Oper}{a:Act}{w:World}{K:Act->World->Prop}{Q:Exit->Act->World->Prop}{E:Prop}(s x:Operand)(t:TypeId)(L:o.guard=none)
 (ho:o.op=.call { callee:=.builtin .append,args:=#[s,x],argTypes:=#[t,t] }) (ht:xT.underlying t=some (.slice 80)) (base:Nat) (v:Value) (n:Nat) (M:List Value) (hs:a.eval s=v) (F:w.ownsRow base 80 4 v n M)
 (I:Option Addr) (m c:Nat) (y:List Value) (X:a.eval x=.slice I m c) (T:y.length=m*4) (B:(m=0/\I=none)\/∃a,I=some a/\∀j u,y[j]?=some u->w.cell? (a.add j)=some u) (N:∀u∈y,u.oneCell'=true) (J:n+m<=17179869) (A:base<=w.heap.size)
 (h:∀C H,H.ownsRow base 80 4 C (n+m) (M++y)->w.grownBy H v.ownBlock->(C.ownBlock=v.ownBlock\/C.ownBlock=some w.heap.size)->K (a.put o.dst C) H):if Region.wanted o (yielded G a.tmps)=true then Oper.wp xT o a w K Q else E:=by
 have V:Region.wanted o (yielded G a.tmps)=true:=by simp[Region.wanted,L]
 rw[VS V];obtain⟨C,H,U,O,P,S⟩:=zup zvQ rfl dE (Zp _) w t o.type ht base v n M F I m c y T B N J A;unfold Oper.wp execOp;simp only[ho,resolve,invoke,builtin,tM,tP,tH,ul,WC,uf,hs,X,U];exact h C H O P S
def zvY{w:World}{base A:Nat}(j:base<=A)(h:w.heap[A]?=some (.cells #[] 80 (0,0))):w.ownsRow base 80 4 (.slice (some ⟨A,0,none⟩) 0 0) 0 []:=⟨rfl,.inr ⟨A,0,#[],rfl,j,h,Zp _,vj _,rfl,rfl⟩⟩
def bc1{w o:World}{a:Addr}{v:Value}(h:Below w.heap.size w o)(j:w.cell? a=some v):o.cell? a=some v:=(tw (h.block _ (tz w a j))).trans j
def zvj{w:World}{base size n:Nat}{e:TypeId}{v:Value}{u:List Value}(h:w.ownsRow base e size v n u):∃a n c,v=.slice a n c:=by
 rcases h.2 with⟨h,_⟩|⟨g,j,o,h,_⟩
 .exact⟨none,0,0,h⟩
 .exact⟨_,_,_,h⟩
def ztq:∀(l:List Rc)(q:Nat),(l.drop q).flatMap rcs=(l.flatMap rcs).drop (q*4)
 |l,0=>b8
 |[],q+1=>b8
 |x::l,q+1=>by rw[wR,ztq l q,Wn,show (q+1)*4=(rcs x).length+q*4 by simp[rcs];omega,List.drop_length_add_append]
def ztr:∀(l:List Rc)(q:Nat),(l.take q).flatMap rcs=(l.flatMap rcs).take (q*4)
 |l,0=>b8
 |[],q+1=>b8
 |x::l,q+1=>by rw[wT,Wn,ztr l q,Wn,show (q+1)*4=(rcs x).length+q*4 by simp[rcs];omega,List.take_length_add_append]
def ztU{w:World}{o:Nat}{vt:TypeId}{l:List Value}(h:w.heap[o]?=some (.cells l.toArray vt (0,0))):∀j u,l[j]?=some u->w.cell? ((⟨o,0,none⟩:Addr).add j)=some u:=λj u y=>by rw[zh,wy];exact(zW h j u (dM y)).1
def ztl:∀{l:List Rc}{x:Rc}{k:Nat}(hk:k<=l.length),(∀j (h:j<l.length),j<k->l[j].item<x.item)->(∀h:k<l.length,¬l[k].item<x.item)->zr4 l x=l.take k++([x]++if h:k<l.length then (if l[k].item=x.item then l.drop (k+1) else l.drop k) else [])
 |[],x,k,hk,_,_=>by obtain rfl:k=0:=(dM hk);rfl
 | y::l,x,0,_,_,h2=>by
   have:=h2 b8;simp only[uF]at this;rw[zr4,V2 this];by_cases e:y.item=x.item<;>simp[e]
 |y::l,x,k+1,hk,h1,h2=>by have o:=h1 0 b8 b6;simp only[uF]at o;rw[zr4,VS o,ztl (l:=l) (x:=x) (k:=k) (dM hk) (λj u w=>h1 (j+1) (dM u) b6) (λh=>h2 (dM h))];simp
def smO(o:Opn):Bool:=decide (o.val.size<=100) && decide (o.items.length<=10)
def zwj{D:Qk}{w:World}{l:List Opn}{ia:Option Addr}{ic:Nat}(hd:Dat D w (.slice ia l.length ic) (opp l))(ac:l.length<=9223372036854775807)(O:∀o∈l,o.val.size<=maxLen/\o.items.length<=9223372036854775807):
 Calls xT 6 #[.slice ia l.length ic] w λe w'=>e=.returned (.bool (ztR l))/\Below w.heap.size w w':=by
 obtain⟨a,c,ev,hc,B⟩:=ztV hd;obtain⟨rfl,rfl⟩:ia=a/\ic=c:=dM ev
 obtain⟨n,Q⟩:=xm (l.length);have M:∀W,Below w.heap.size w W->∀j,j<n->∃o∈l,o=l.getD j default/\∃g u S T,ia=some ⟨g,u,none⟩/\W.cell? ⟨g,u+j*5,none⟩=some (.int .i64 o.who)/\W.cell? ⟨g,u+j*5+1,none⟩=some (.int .i64 o.from_)/\W.cell? ⟨g,u+j*5+2,none⟩=some (.int .u64 o.item) /\
  W.cell? ⟨g,u+j*5+3,none⟩=some (.string o.val)/\W.cell? ⟨g,u+j*5+4,none⟩=some (.slice S o.items.length T):=λW L j hj=>by
  have A:j<l.length:=b6;obtain⟨g,u,S,T,h1,_,h2,h3,h4,h5,h6,_⟩:=B j A;refine⟨l[j],X3 A,by rw[Vm,Zv A];rfl,g,u,S,T,h1,bc0 L h2,?_,?_,?_,?_⟩
  .rw[WD];exact bc0 L h3
  .rw[WD];exact bc0 L h4
  .rw[WD];exact bc0 L h5
  .rw[WD];exact bc0 L h6
 have N:ztR l=(decide (n<=25) && l.all smO):=by rw[Q];rfl
 have V:=qL N;have U:=qL M;have X:=qL O;have HN:=qL Q;rw[<-Q]at hc ac⊢;clear N M O B hd Q ev;go_enter func6,ntmps6
 by_cases ad:25<n
 .have K:(25:Int)<n:=b6
  go_wp2;go_ret;refine⟨?_,tB _ _⟩;rw[V.o,WF b6];rfl
 .have K:¬(25:Int)<n:=b6
  go_wp2_with fail
  go_loopg [10] n (λg x wr=>∃j,j<=n/\g=n-j/\x=.int .i64 j/\Below w.heap.size w wr/\(l.take j).all smO=true)
  case atStart=>exact⟨0,vj _,rfl,rfl,tB _ _,rfl⟩
  case round=>
   obtain⟨j,hj,rfl,rfl,H,F⟩:=hrel;have y:=qL H;have C:=qL F;by_cases I:j<n
   .obtain⟨o,ho,P,g,u,S,T,rfl,c0,c1,c2,c3,c4⟩:=U.o wr H j I;have ab:=X.o o ho;have Y:=qL P;have HO:=qL ho;unfold maxLen at ab;clear H F P ho;have G:smO o=false->ztR l=false:=λh=>by
     rw[V.o];have:l.all smO=false:=by rw[List.all_eq_false];exact⟨o,HO.o,by rw[h];decide⟩
     rw[this,Bool.and_false]
    have E:=qL G;clear G;by_cases h1:100<o.val.size
    .have J:(100:Int)<o.val.size:=b6
     go_wp2_with fail
     go_ret;exact⟨by rw[E.o (by unfold smO;rw[WF b6];rfl)];rfl,y.o.alloc y.o.size _⟩
    .by_cases h2:10<o.items.length
     .have J:¬(100:Int)<o.val.size:=b6;have Z:(10:Int)<o.items.length:=b6
      go_wp2_with fail
      go_ret;exact⟨by rw[E.o (by unfold smO;rw[WF (p:=o.items.length<=10) b6,Bool.and_false])];rfl,y.o.alloc y.o.size _⟩
     .have J:¬(100:Int)<o.val.size:=b6;have Z:¬(10:Int)<o.items.length:=b6
      go_wp2_with fail
      go_roundg (n-(j+1));case measure=>omega
      case rel=>refine⟨j+1,I,rfl,rfl,y.o.alloc y.o.size _,?_⟩;have A:j<l.length:=(by rw[<-HN.o];exact I);have e:l[j]=o:=(by rw[Y.o,Vm,Zv A];rfl);rw[vw A,List.all_append,C.o,e];simp[smO];omega
   .obtain rfl:j=n:=b6
    go_wp2_with fail
    go_ret;refine⟨?_,y.o⟩;have h:=C.o;rw[ww (by rw[HN.o];exact Zp _)]at h;rw[V.o,h,uC b6];rfl
end
def zqB(z:Value)(n:Nat):(madeCells #[z,z] (n*2)).toList=List.replicate (n*2) z:=by
 apply Uu;intro j;by_cases u:j<n*2
 .have o:j%2=0\/j%2=1:=b6;rcases o with o|o<;>simp[madeCells,u,o]
 .simp[madeCells,u]
def OutG.zeros{C:Qk}{mb base g n:Nat}{w:World}(ho:w.ownsRow base 50 2 (.slice (some ⟨g,0,none⟩) n n) n (List.replicate (n*2) (.slice none 0 0))):OutG C mb base w (.slice (some ⟨g,0,none⟩) n n) (List.replicate n ⟨[],[]⟩):=by
 refine⟨List.replicate (n*2) (.slice none 0 0),⟨by rw[tg];exact ho,b8,λu o=>by rw[List.eq_of_mem_replicate o];rfl⟩,λi hi=>?_⟩;have j:i<n:=dM hi
 refine⟨.slice none 0 0,.slice none 0 0,by rw[U6,VS b6],by rw[U6,VS b6],?_,?_⟩
 .rw[ta];exact zog
 .rw[ta];exact zog
def OutG.setW{C:Qk}{G base g:Nat}{w:World}{y:Nat}{o:List Fg}{l:List En}{a0:Value}{i n:Nat}(T:o.length=n)(h:OutG C G base w (.slice (some ⟨g,0,none⟩) n y) o)(hi:i<o.length)(M:Dat (DX C G w (.slice (some ⟨g,0,none⟩) n y)) w a0 (vp l))(N:0<y):
 OutG C G base (w.setCell ⟨g,i*2+1,none⟩ a0) (.slice (some ⟨g,0,none⟩) n y) (o.take i++⟨o[i].items,l⟩::o.drop (i+1)):=by
 subst T;obtain⟨X,H,P⟩:=h;have A:(o.take i++(⟨o[i].items,l⟩:Fg)::o.drop (i+1)).length=o.length:=b7
 obtain⟨V,Y⟩:=H.1.stored (i*2+1) a0;have I:(Value.slice (some ⟨g,0,none⟩) o.length y).ownBlock=some g:=by
  cases y with
  |zero=>omega
  |succ c=>rfl
 have B:∀{x:Value}{p:PV},Dat (DX C G w (.slice (some ⟨g,0,none⟩) o.length y)) w x p->Dat (DX C G (w.setCell ⟨g,i*2+1,none⟩ a0) (.slice (some ⟨g,0,none⟩) o.length y)) (w.setCell ⟨g,i*2+1,none⟩ a0) x p:=λh=>
  DX.keep h b8 λk hk K=>tG _ _ _ _ λe=>K (by rw[I];exact WU some e.symm)
 refine⟨X.set (i*2+1) a0,⟨by rw[A];exact V,by rw[A,Uo];exact H.2.1,λu L=>?_⟩,λj O=>?_⟩
 .rcases Uj L with L|rfl
  .exact H.2.2 u L
  .exact zeu M
 .have J:j<o.length:=(by rw[A]at O;exact O);obtain⟨a,b,c,d,e,k⟩:=P j J;have U:=H.2.1;by_cases F:j=i
  .subst F;have E:(o.take j++(⟨o[j].items,l⟩:Fg)::o.drop (j+1))[j]=⟨o[j].items,l⟩:=by rw[Wz (by rw[Wi];exact UO _ _)];simp[ud (uG hi)]
   rw[E];refine⟨a,a0,?_,?_,B e,B M⟩
   .rw[wZ b6];exact c
   .rw[WS b6]
  .have E:(o.take i++(⟨o[i].items,l⟩:Fg)::o.drop (i+1))[j]=o[j]:=by
    rcases Nat.lt_or_gt_of_ne F with S|Q
    .rw[uz b7,Ud]
    .rw[Wz b7];obtain⟨m,rfl⟩:∃m,j=i+1+m:=⟨j-(i+1),b6⟩;simp only[Wi,ud (uG hi),show i+1+m-i=m+1 by omega,WT,Uy]
   rw[E];refine⟨a,b,?_,?_,B e,B k⟩
   .rw[wZ b6];exact c
   .rw[wZ b6];exact d
def OutG.put{C:Qk}{A base g n:Nat}{w:World}{j:Nat}{o:List Fg}{f:Fg}{B E:Value}{i:Nat}(M:o.length=n)(h:OutG C A base w (.slice (some ⟨g,0,none⟩) n j) o)(hi:i<n)(L:Dat (DX C A w (.slice (some ⟨g,0,none⟩) n j)) w B (rg f.items))(hb:Dat (DX C A w (.slice (some ⟨g,0,none⟩) n j)) w E (vp f.vec))(u:0<j):
 OutG C A base ((w.setCell ⟨g,i*2,none⟩ B).setCell ⟨g,i*2+1,none⟩ E) (.slice (some ⟨g,0,none⟩) n j) (o.take i++f::o.drop (i+1)):=by
 subst M;have G:(Value.slice (some ⟨g,0,none⟩) o.length j).ownBlock=some g:=by
  cases j with
  |zero=>omega
  |succ c=>rfl
 have F:Dat (DX C A (w.setCell ⟨g,i*2,none⟩ B) (.slice (some ⟨g,0,none⟩) o.length j)) (w.setCell ⟨g,i*2,none⟩ B) E (vp f.vec):=
  DX.keep hb b8 λk hk H=>tG _ _ _ _ λe=>H (by rw[G];exact WU some e.symm)
 have K:=h.set hi L u;have y:(o.take i++(⟨f.items,o[i].vec⟩:Fg)::o.drop (i+1)).length=o.length:=b7
 have I:=OutG.setW (i:=i) (l:=f.vec) (a0:=E) y K (by rw[y];exact hi) F u;have ht:(o.take i).length=i:=b7
 have e1:(o.take i++(⟨f.items,o[i].vec⟩:Fg)::o.drop (i+1)).take i=o.take i:=by rw[Wu b6,ww b6]
 have e2:(o.take i++(⟨f.items,o[i].vec⟩:Fg)::o.drop (i+1)).drop (i+1)=o.drop (i+1):=by rw[UG,ht,wE b6,show i+1-i=1 by omega];rfl
 have J:(o.take i++(⟨f.items,o[i].vec⟩:Fg)::o.drop (i+1))[i]'(by rw[y];exact hi)=⟨f.items,o[i].vec⟩:=by rw[Wz b6];simp[ht]
 rw[e1,e2,J]at I;exact I
def zoL(k:List Fg)(items:List Iv)(j:Nat):List Fg:=(zl5 k items).take j++List.replicate (k.length-j) ⟨[],[]⟩
def zqq{k:List Fg}{items:List Iv}{j:Nat}(o:j<=k.length):(zoL k items j).length=k.length:=by have:(zl5 k items).length=k.length:=wB _;unfold zoL;rw[wu,Wi,tg];omega
def zp6(k:List Fg)(items:List Iv):zoL k items 0=List.replicate k.length ⟨[],[]⟩:=rfl
def zqp(k:List Fg)(items:List Iv):zoL k items k.length=zl5 k items:=by have:(zl5 k items).length=k.length:=wB _;unfold zoL;rw[ww b6,UU];simp
def zp5{k:List Fg}{items:List Iv}{j:Nat}(u:j<k.length):zoL k items (j+1)=(zoL k items j).take j++⟨qy fMeet k[j].items items,k[j].vec⟩::(zoL k items j).drop (j+1):=by
 have w:(zl5 k items).length=k.length:=wB _;have ht:((zl5 k items).take j).length=j:=by rw[Wi];omega
 have o:(zl5 k items)[j]'b6=⟨qy fMeet k[j].items items,k[j].vec⟩:=UH _;unfold zoL;rw[vw b6,o,wV,Wu b6,ww (l:=(zl5 k items).take j) b6];congr 1;rw[UG,wE b6,ht,List.drop_replicate,show k.length-j-(j+1-j)=k.length-(j+1) by omega];rfl
section
attribute [-go_sem] z7 zae zaf Vr
def zqr{C:Qk}{w0 w:World}{l:List Iv}{v:Value}(J:Nrm l)(I:l.length<=1152921504606846976)(H:Dat C w0 v (rg l))(B:∀b o,C b o->b<w0.heap.size)(G:GL C w0)(hb:Below w0.heap.size w0 w):
 Calls xT 34 #[v] w λe F=>e=.returned .nilIface/\Below w.heap.size w F:=by
 have E:∀b o x,C b o->w0.cell? ⟨b,o,none⟩=some x->w.cell? ⟨b,o,none⟩=some x:=λb o x h K=>(tw (a:=⟨b,o,none⟩) (hb.block b (B b o h))).trans K;refine(jP (D:=C) (zpJ l J I) (G.mono (λ_ _ h=>h) E) (λb o h=>Vq (B b o h) hb.size) rfl (λi p j=>?_)).mono ?_
 .match i,j with
  |0,j=>cases j;exact H.mono (λ_ _ h=>h) E
  |i+1,j=>simp at j
 .rintro e F ⟨u,rfl,y,A⟩;have e:=(Rel.dat (ρ:=λ_=>0) (nb:=0) A).v_inv;rw[e];exact⟨rfl,y⟩
def zoa{B:Q9}{R:List Nat}{n m:Nat}(k:List Fg)(items:List Iv)(hk:Kn B R n k)(hi:Nrm items)(cm:items.length<=400000)(y:Kn B R m (zl5 k items))(ok:OkX B R)(hn:n<=400000)(hm:m<=40000):Cn xT 29 [kp k,rg items] (.tup [kp (znF k items),.v .nilIface]):=by
 refine yZ rfl (enters_of func29 dN rfl) λD w vs hG hD bq U=>?_;have d0:Dat D w (vs.getD 0 undef) (kp k):=U 0 _ rfl;have T:Dat D w (vs.getD 1 undef) (rg items):=U 1 _ rfl;obtain⟨v0,ac⟩:=xm (vs.getD 0 undef);obtain⟨v1,ad⟩:=xm (vs.getD 1 undef);rw[<-ac]at d0;rw[<-ad]at T;obtain rfl:vs=#[v0,v1]:=by
  obtain⟨l⟩:=vs;match l,bq with
  |[p,q],_=>simp at ac ad;rw[ac,ad]
 clear ac ad bq U;obtain⟨aa,ca,fs,rfl,bP,J,bg⟩:=kX d0 hD;obtain⟨ai,ci,rfl⟩:=zK T;have cn:=hk.l;have bL:=J.1;have aY:=J.2.1;unfold maxLen at aY;rw[bP]at bL;have bA:=qL (λW (M:Below w.heap.size w W)=>KH hk.r (hk.z b6) d0 hD hG M);have bB:=qL (λW (M:Below w.heap.size w W)=>zqr hi b6 T hD hG M);have aS:=qL J;have aQ:=qL bg;have aP:=qL T;have aR:=qL hG;have A:=qL hD;have HK:=qL hk;have HP:=qL y;have bH:=qL hi;obtain⟨i0,bh,br,bt,bu⟩:=tV Z9;have HI:=qL (And.intro bh (And.intro br (And.intro bt bu)));clear d0 T J bg hG hD hk hi y bh br bt bu;have ao:True:=trivial;have aq:True:=trivial;have ar:True:=trivial;have bW:xT.follows .mixedOrders=true:=dN
 go_enter_defers func29,ntmps29
 go_wp2_with (first
  | (go_at_call 32;have _t:=ao;refine(bA.o _ ((tB _ _).alloc (Zp _) _)).mono ?_;rintro e w1 ⟨rfl,aA⟩
     have aL:Boxed w1 w.heap.size 44 .nilIface:=(aA.block _ b8).trans (tx w _);have ay:=qL aL;have V:=qL (((tB _ w).alloc (Zp _) _).trans (aA.mono b8));have bQ:=aL.lt;clear aA aL ao)
  |(go_at_call 67;refine(zdp _ _).mono ?_;rintro e Q ⟨⟨u,rfl⟩,rfl⟩)
  | (go_at_call 34;have _t:=aq;refine(bB.o _ V.o).mono ?_;rintro e S ⟨rfl,aB⟩
     have aM:Boxed S w.heap.size 44 .nilIface:=(aB.block _ ay.o.lt).trans ay.o;have aT:=qL aM;have aw:=qL (V.o.trans (aB.mono V.o.size));have bp:=aM.lt;clear aB aM aq)
  |(at_make;have _t:=ar;refine wpList_make_full _ rfl _ _ 41 rfl (w.heap.size+1) 50 i0 _ 2 underlying41 HI.o.1 HI.o.2.1 HI.o.2.2.1 .i64 .i64 _ _ k.length rfl rfl rfl rfl (by rw[HI.o.2.2.2];omega) dG b6 ?_;intro w3 aK aH;rw[show (Value.agg #[.slice none 0 0,.slice none 0 0]).cells=#[.slice none 0 0,.slice none 0 0] from rfl,zqB]at aK;have ax:=qL (OutG.zeros (C:=D) (mb:=w.heap.size) aK);have aN:=qL (aw.o.grown aH aw.o.size λj hj=>by cases hj);have az:=qL (aT.o.kept aH b8);have bR:=az.o.lt;clear aK aH ar;dsimp only[Act.put])
  |go_in)
 have bO:=bp;generalize Q.heap.size=gb at ax bO⊢;go_loopg [20] k.length (λg x wr=>∃j,j<=k.length/\g=k.length-j/\x=.int .i64 j/\Boxed wr w.heap.size 44 .nilIface/\OutG D w.heap.size (w.heap.size+1) wr (.slice (some ⟨gb,0,none⟩) k.length k.length) (zoL k items j)/\Below w.heap.size w wr);case atStart=>exact⟨0,vj _,rfl,rfl,az.o,by rw[zp6];exact ax.o,aN.o⟩
 case round=>
  obtain⟨j,hj,rfl,rfl,aE,am,aW⟩:=hrel;have aO:=qL aE;have I:=qL am;have G:=qL aW;have bn:=aE.lt;clear aE am aW ax az aN aT ay V aw bR bp bQ;by_cases ab:j<k.length
  .have O:j<fs.length:=b6;obtain⟨bb,bw,rfl,aV,aj⟩:=aS.o.2.2 (by intro e;subst e;simp at O);obtain⟨c0,c1⟩:=aj j O;obtain⟨d0,T⟩:=aQ.o j O;replace c0:=(G.o.cell (p:=⟨bb,bw+j*2,none⟩) aV).trans c0;replace c1:=(G.o.cell (p:=⟨bb,bw+j*2+1,none⟩) aV).trans c1;have aG:=X3 ab;have bN:=HK.o.r _ aG;have cj:k[j].items.length<=400000:=(by have:=yv aG;have:=HK.o.m;omega);have bJ:=qL (zp5 (items:=items) ab);generalize k[j]=f at *;generalize fs[j]=q at *;obtain⟨af,cf,e0⟩:=zK d0;obtain⟨av,cv,e1⟩:=xL T;rw[e0]at c0 d0;rw[e1]at c1 T;have bl:=I.o.owns;have ck:gb<wr.heap.size:=by
    cases hk0:k.length with
    |zero=>omega
    |succ c=>exact(bl gb (by rw[hk0];rfl)).2
   obtain⟨L,P⟩:=xm (wr.alloc (.cells #[.slice af f.items.length cf,.slice av f.vec.length cv] 50));have ag:L.heap[wr.heap.size]?=some (.cells #[.slice af f.items.length cf,.slice av f.vec.length cv] 50 (0,0)):=(by rw[P];exact tx wr _);have aD:Below wr.heap.size wr L:=(by rw[P];exact(tB _ wr).alloc (Zp _) _);have bT:L.heap.size=wr.heap.size+1:=(by rw[P];simp);have bj:∀W,Below L.heap.size L W->Calls xT 68 #[.slice af f.items.length cf,.slice ai items.length ci] W λe Q=>∃E F,e=.returned (.slice E (qy fMeet f.items items).length F)/\Below W.heap.size W Q/\Dat (DX D w.heap.size Q (.slice (some ⟨gb,0,none⟩) k.length k.length)) Q (.slice E (qy fMeet f.items items).length F) (rg (qy fMeet f.items items)):=λW M=>by
    have Z:Below w.heap.size w W:=G.o.trans ((aD.mono b6).trans (M.mono b6));have hw:∀b o x,D b o->w.cell? ⟨b,o,none⟩=some x->W.cell? ⟨b,o,none⟩=some x:=λb o x h hx=>(tw (a:=⟨b,o,none⟩) (Z.block b (A.o b o h))).trans hx;refine(jP (D:=D) (zif f.items items bN.1 bH.o b6) (aR.o.mono (λ_ _ h=>h) hw) (λb o h=>Vq (A.o b o h) Z.size) rfl (λi p y=>?_)).mono ?_
    .match i,y with
     |0,y=>cases y;exact d0.mono (λ_ _ h=>h) hw
     |1,y=>cases y;exact aP.o.mono (λ_ _ h=>h) hw
     |i+2,y=>simp at y
    .rintro e Q ⟨v,rfl,hb,U⟩;obtain⟨E,F,rfl⟩:=zK U;have bS:=M.size;refine⟨E,F,rfl,hb,U.mono (λb o h=>⟨h.imp id λh=>⟨b6,h.2⟩,λe=>?_⟩) λ_ _ _ _ h=>h⟩;have ch:b=gb:=by
      cases hk0:k.length with
      |zero=>omega
      |succ c=>rw[hk0]at e;cases e;rfl
     rcases h with h|h
     .have:=A.o b o h;omega
     .omega
   have bG:=qL bj;have bY:=qL ag;have X:=qL aD;have g0:=(zW ag 0 _ rfl).1;have g1:=(zW ag 1 _ rfl).1;have bD:=qL T;clear d0 T aj aG e0 e1 bj ag aD
   go_wp2_with fail
   rw[<-P];have aX:Below L.heap.size L L.drew:=(tB _ _).drew;clear P;refine Kg (Sw:=qe) 9 38 (λw9=>Below L.heap.size L w9/\w9.cell? ⟨wr.heap.size,0,none⟩=some (.slice af f.items.length cf)/\w9.cell? ⟨wr.heap.size,1,none⟩=some (.slice av f.vec.length cv)) dN dN rfl ⟨aX,g0,g1⟩ ?_;simp only[wT,Wg];refine Jz ?_;refine V7 (λu w9=>∃E F,u=.slice E (qy fMeet f.items items).length F/\Dat (DX D w.heap.size w9 (.slice (some ⟨gb,0,none⟩) k.length k.length)) w9 u (rg (qy fMeet f.items items))) (λu wa L h hk=>by obtain⟨E,F,e,h⟩:=h;exact⟨E,F,e,DX.keep h hk.size λk N _=>hk.block k N id⟩) rfl ?_ ?_
   .intro a2 S hc hk hr K hK;have HK:=qL hK;clear hK;simp[Rds,zA,lk,Op.operands,Call.operands,RdEq]at hr;go_simp;refine(bG.o _ hc.1).mono ?_;rintro e w3 ⟨E,F,rfl,hb,U⟩;have aJ:Keep qe _ w3:=Keep.of_below' hb (Zp _);exact HK.o _ _ aJ ⟨hc.1.trans (hb.mono hc.1.size),aJ.cell_some hc.2.1 id,aJ.cell_some hc.2.2 id⟩ ⟨E,F,rfl,U⟩
   simp only[XV,Yf];refine Jz ?_;refine V7 (λu w9=>∃E F,u=.agg #[.slice E (qy fMeet f.items items).length F,.slice av f.vec.length cv]/\Dat (DX D w.heap.size w9 (.slice (some ⟨gb,0,none⟩) k.length k.length)) w9 (.slice E (qy fMeet f.items items).length F) (rg (qy fMeet f.items items))) (λu wa L h hk=>by obtain⟨E,F,e,h⟩:=h;exact⟨E,F,e,DX.keep h hk.size λk N _=>hk.block k N id⟩) rfl ?_ ?_
   .intro a2 S hc hk hr K hK;have HK:=qL hK;clear hK;simp[Rds,zA,lk,Op.operands,Call.operands,RdEq]at hr;obtain⟨⟨_,⟨e1,e2⟩,⟨E,F,rfl⟩,ho⟩,e3,e4⟩:=hr;go_simp;exact HK.o _ _ (Keep.refl _ _) hc ⟨E,F,rfl,ho⟩
   simp only[XV,Yf];intro S aF N;simp only[finG,WZ,XV,Yf,wR,Wo,W5];simp only[Act.put,wF,wW,wX];rintro _ ⟨_,_,rfl,_⟩ _ ⟨E,F,rfl,hu⟩;have HU:=qL hu;have Y:=qL aF.1;have bX:=aF.1.size;have H:=I.o.keep (w':=S) b6 λb hb=>(Y.o.block b b6).trans (X.o.block b hb);have ak:=zqq (items:=items) hj;have bF:=qL ak;have bI:=qL H;obtain⟨xs,ah,be⟩:=id H;obtain⟨xa,xb,ea,eb,-,-⟩:=be j b6;obtain⟨g,aU,cc,ev,-,-,aI,-,-,-,-⟩:=ah.cases.resolve_left (λh=>b6);obtain⟨rfl,-,rfl⟩:gb=g/\k.length=(zoL k items j).length/\k.length=aU:=(dM ev);have bZ:S.cell? ⟨gb,j*2,none⟩=some xa:=by have:=tQ ah.1 (g:=gb) rfl (j*2) xa ea;rw[zh,wy]at this;exact this
   have cb:S.cell? ⟨gb,j*2+1,none⟩=some xb:=(by have:=tQ ah.1 (g:=gb) rfl (j*2+1) xb eb;rw[zh,wy]at this;exact this);have ce:S.frozen? ⟨gb,j*2,none⟩=false:=(by simp[World.frozen?,aI]);have cg:S.frozen? ⟨gb,j*2+1,none⟩=false:=(by simp[World.frozen?,aI]);clear hu aF N aX H ah be ea eb ev aI g0 g1 c0 c1 ak
   go_wp2_with fail
   have bM:Dat (DX D w.heap.size S (.slice (some ⟨gb,0,none⟩) k.length k.length)) S (.slice av f.vec.length cv) (vp f.vec):=bD.o.mono (λb o h=>⟨.inl h,λe=>by have:=(bl b e).1;have:=A.o b o h;omega⟩) λb o x h hx=>(tw (a:=⟨b,o,none⟩) ((Y.o.block b (by have:=A.o b o h;omega)).trans ((X.o.block b (by have:=A.o b o h;omega)).trans (G.o.block b (A.o b o h))))).trans hx;have an:=OutG.put (f:=⟨qy fMeet f.items items,f.vec⟩) bF.o bI.o ab HU.o bM b6;rw[<-bJ.o]at an;go_roundg (k.length-(j+1));case measure=>omega
   case rel=>
    refine⟨j+1,ab,rfl,b8,?_,an,?_⟩
    .exact(tG _ _ _ _ (by show w.heap.size≠gb;omega)).trans ((tG _ _ _ _ (by show w.heap.size≠gb;omega)).trans ((Y.o.block _ b6).trans ((X.o.block _ bn).trans aO.o)))
    .exact Tb (Tb (G.o.trans ((X.o.mono b6).trans (Y.o.mono b6))) (by show w.heap.size<=gb;omega) _) (by show w.heap.size<=gb;omega) _
  .obtain rfl:j=k.length:=b6;have aZ:∀W,Below wr.heap.size wr W->Calls xT 69 #[.slice (some ⟨gb,0,none⟩) k.length k.length] W λe Q=>∃u,e=.returned u/\Below W.heap.size W Q/\Dat (DL D w.heap.size Q) Q u (kp (znF k items)):=λW M=>by
    have bc:=I.o.dat (UE _);rw[zqp]at bc;have Z:Below w.heap.size w W:=G.o.trans (M.mono b6);have bi:∀b o,DL D w.heap.size wr b o->b<wr.heap.size:=λb o h=>h.elim (λh=>by have:=A.o b o h;omega) ui;refine(jP (D:=DL D w.heap.size wr) (zds (zl5 k items) HP.o ok hm) (aR.o.mono (λ_ _ h=>.inl h) λb o x h hx=>(tw (a:=⟨b,o,none⟩) (Z.block b (A.o b o h))).trans hx) (λb o h=>Vq (bi b o h) M.size) rfl (λi p y=>?_)).mono ?_
    .match i,y with
     |0,y=>cases y;exact bc.mono (λ_ _ h=>h) λb o x h hx=>(tw (a:=⟨b,o,none⟩) (M.block b (bi b o h))).trans hx
     |i+1,y=>simp at y
    .rintro e Q ⟨u,rfl,hb,U⟩;have bS:=M.size;have bT:=hb.size;refine⟨u,rfl,hb,U.mono (λb o h=>?_) λ_ _ _ _ h=>h⟩;rcases h with(h|h)|h
     .exact .inl h
     .exact .inr ⟨h.1,b6⟩
     .exact .inr ⟨b6,h.2⟩
   have bC:=qL aZ;clear aZ aQ I aP HP
   go_wp2_with (first
    | (go_at_call 69;refine(bC.o _ (tB _ _)).mono ?_;rintro e w5 ⟨u5,rfl,aC,ba⟩
       have ae:Boxed w5 w.heap.size 44 .nilIface:=(aC.block _ bn).trans aO.o;have c5:=ae.cell;have f5:=ae.frozen;have bK:=qL ae;have bz:=qL (G.o.trans (aC.mono b6));have bE:=qL ba;clear aC ae ba)
    |go_in)
   refine leaves_cons (f := 66) (args:=#[.pointer (some ⟨w.heap.size,0,none⟩)]) b8 (by simp[go_sem]) ?_;refine(JI ⟨w.heap.size,0,none⟩ _).mono ?_;rintro e u' co ⟨rfl,rfl,rfl⟩;have bU:=(bK.o.set .nilIface).cell;simp[Leaves,settle,results,Tryz.results29,go_sem,bU];refine⟨bz.o.setCell (Zp _) _,.tup _ _ rfl λj p y=>?_⟩;match j,y with
   |0,y=>
     cases y;exact bE.o.mono (λb o h=>h.imp id λh=>⟨uG h.1,dM h.2⟩) λb o x h hx=>(tw (a:=⟨b,o,none⟩) (tG _ _ _ _ (by
      show b≠w.heap.size;rcases h with h|h
      .have:=A.o b o h;omega
      .omega))).trans hx
   |1,y=>cases y;exact .v _
   |j+2,y=>simp at y
end
end Go.Proofs.YtjdjjlkifdimkaaGreatDoor
