import Derived.LoopN
import Derived.Test.YtmpnbdhadjfbhaaGreatDoorB24
set_option maxHeartbeats 16000000
set_option linter.all false
set_option maxRecDepth 100000
namespace Go.Proofs.YtmpnbdhadjfbhaaGreatDoor
open Go.RowKit
open Go.Proofs.Tryz
open Go.Proofs.Tryz renaming prog->xT
def zp1(s:ByteArray)(c k:Int)(w:World)(E:HG w):Calls xT 47 #[.iface 145 (.agg #[.string s,.iface 115 (.agg #[.int .i64 c,.int .i64 k])]),.iface 167 (.pointer (some ⟨w.heap.size+1,0,none⟩))] ((w.alloc z2).alloc z2)
 λev j=>ev=.returned (.bool true)/\Below (w.heap.size+1) (w.alloc z2) j/\j.cell? ⟨w.heap.size+1,0,none⟩=some (.int .i64 c)/\j.cell? ⟨w.heap.size+1,1,none⟩=some (.int .i64 k):=by
 have y:∀o,o<2->((w.alloc z2).alloc z2).cell? ⟨w.heap.size+1,o,none⟩=some (.int .i64 0):=λo ho=>by
  have:w.heap.size+1=(w.alloc z2).heap.size:=b6;rw[this];unfold z2;match o,ho with
  |0,_=>simp
  |1,_=>simp
 have A:∀o,o<2->((w.alloc z2).alloc z2).frozen? ⟨w.heap.size+1,o,none⟩=false:=λo ho=>by
  have:w.heap.size+1=(w.alloc z2).heap.size:=b6;rw[this];unfold z2;match o,ho with
  |0,_=>simp
  |1,_=>simp
 refine(zqg s c k (w.heap.size+1) _ ((E.alloc _).alloc _) (y 0 a8) (y 1 a8) (A 0 a8) (A 1 a8)).mono ?_;rintro ev j ⟨rfl,hk,B,C⟩;refine⟨rfl,?_,B,C⟩;have u:Keep (λb=>b=w.heap.size+1) (w.alloc z2) j:=((Keep.refl _ (w.alloc z2)).alloc z2).trans hk;exact u.below b6 λq F e=>a8
def zqT(s:ByteArray)(c k:Int)(w:World)(G:HG w):Calls xT 54 #[.iface 145 (.agg #[.string s,.iface 115 (.agg #[.int .i64 c,.int .i64 k])])] w λe H=>e=.returned (.tuple #[.agg #[.int .i64 c,.int .i64 k],.bool true])/\Below w.heap.size w H:=by
 go_enter func54,ntmps54
 go_wp2_with (go_at_call 47;refine(zp1 s c k w G).mono ?_;rintro e j ⟨rfl,hb,B,C⟩;have u:j.cell? ⟨w.heap.size,0,none⟩=some (.int .i64 0):=(hb.cell (p:=⟨w.heap.size,0,none⟩) b6).trans (by unfold z2;simp);have y:j.cell? ⟨w.heap.size,1,none⟩=some (.int .i64 0):=(hb.cell (p:=⟨w.heap.size,1,none⟩) b6).trans (by unfold z2;simp);have E:j.frozen? ⟨w.heap.size,0,none⟩=false:=(hb.frozen (p:=⟨w.heap.size,0,none⟩) b6).trans (by unfold z2;simp);have F:j.frozen? ⟨w.heap.size,1,none⟩=false:=(hb.frozen (p:=⟨w.heap.size,1,none⟩) b6).trans (by unfold z2;simp);have o:Below w.heap.size w j:=((tr _ w).alloc (Zp _) _).trans (hb.mono a8))
 have A:(j.setCell ⟨w.heap.size,0,none⟩ (.int .i64 c)).cell? ⟨w.heap.size,0,none⟩=some (.int .i64 c):=tU _ _ _ u;have e1:((j.setCell ⟨w.heap.size,0,none⟩ (.int .i64 c)).setCell ⟨w.heap.size,1,none⟩ (.int .i64 k)).cell? ⟨w.heap.size,1,none⟩=some (.int .i64 k):=World.cell?_setCell_same' _ _ _ (by rw[Tx _ _ _ _ b6,y];rfl);refine tz (v:=.tuple #[.agg #[.int .i64 c,.int .i64 k],.bool true]) (by simp[results,Tryz.results54,go_sem,A,e1,Result.andThen]) rfl ⟨rfl,?_⟩;exact tW (tW o b6 _) b6 _
def zpW(s:ByteArray)(x:Nat×Int)(o:x.1≠0):Cn xT 19 [zou s x] (.v (.int .i64 x.1)):=by unfold zou;rw[zmb o];refine KK rfl (enters_of func19 dK rfl) λD w B y A j u=>?_;have d0:=zo1 (u 0 _ rfl);rw[zjw j,d0];refine(zqS s x.1 x.2 w y).mono ?_;rintro e C ⟨rfl,hb⟩;exact⟨_,rfl,hb,.v _⟩
def zqA(s:ByteArray)(x:Nat×Int)(y:x.1≠0):Cn xT 54 [zou s x] (.tup [.agg [.v (.int .i64 x.1),.v (.int .i64 x.2)],.v (.bool true)]):=by
 unfold zou;rw[zmb y];refine KK rfl (enters_of func54 dK rfl) λD w E B C u A=>?_;have d0:=zo1 (A 0 _ rfl);rw[zjw u,d0];refine(zqT s x.1 x.2 w B).mono ?_;rintro e F ⟨rfl,hb⟩;refine⟨_,rfl,hb,.tup _ _ rfl λj p o=>?_⟩;match j,o with
 |0,o=>cases o;exact znT (.v _) (.v _) rfl rfl
 |1,o=>cases o;exact .v _
 |j+2,o=>simp at o
def zrc(s:ByteArray)(x:Nat×Int)(j:x.1≠0):Cn xT 23 [zou s x] (.v (.int .i64 x.2)):=by refine zt func23 1 ?_;refine pw ?_;exact .d (zqA s x j)
def zqK(s:ByteArray)(x:Nat×Int)(j:x.1≠0):Cn xT 41 [.v (.string s),jS x.1 x.2] (zou s x):=by
 unfold zou;rw[zmb j];refine zt func41 2 ?_;refine pw ?_;first|trivial|rfl|(unfold qv;rfl)|(simp[qv];done)
section
open Go.Maps
attribute [-go_sem] z7
def ztw:∀{r xs:List Nat},r.Nodup->(∀y∈r,y∈xs)->r.length<=xs.length
 |[],_,_,_=>X4 _
 |x::r,xs,h,hm=>by obtain⟨u,w⟩:=UF.1 h;have j:x∈xs:=hm x b6;have:=ztw (xs:=xs.erase x) w λy o=>(WX (λe=>u (by rw[<-e];exact o))).2 (hm y (by simp[o]));rw[WF j]at this;have:=ug j;simp;omega
def MR.hasq{D:DV}{l:List Rc}(j:∀r,has D (kR r)=(zrZ l r).isSome){x:Nat}:ztm D x↔(zrZ l x).isSome=true/\x<zk:=by unfold ztm;rw[show kQ x=kR x from rfl,j x]
def zt7{D:DV}{l:List Rc}(u:∀r,has D (kR r)=(zrZ l r).isSome){pre:List Nat}(h:ztD D pre):pre.length<=l.length:=by
 have:=ztw (xs:=l.map Rc.item) h.1 λy w=>by obtain⟨z,hz⟩:=wX.1 ((MR.hasq u).1 (h.2 y w)).1;obtain⟨j,o⟩:=zsB hz;exact wB.2 ⟨z,j,o⟩
 simpa using this
def zuh{t B y:Nat}{w:World}{D:DV}(j:w.ownsMap xT 36 rV B t D)(o:Boxed w y 82 (.map (some B)))(I:∀pre,ztD D pre->pre.length<=1000000):
 Calls xT 109 #[.func (.func 111) #[] #[.pointer (some ⟨y,0,none⟩)]] w λe A=>∃u pre,e=.returned u/\OwnN w.heap.size A u pre/\ztD D pre/\(∀x,x∈pre↔ztm D x)/\Below w.heap.size w A:=by
 have H:=qL (ztF j o I);clear j o;go_enter func109,ntmps109
 go_wp2_with (go_at_call 149;refine H.o.mono ?_;rintro e J ⟨u,pre,rfl,C,E,F,G⟩)
 go_ret;exact⟨_,pre,rfl,C,E,F,G⟩
def ztu{l:List Rc}(A:zr8 l){j:List Nat}(o:j.Pairwise (·<=·))(u:j.Nodup)(w:∀x,x∈j↔(zrZ l x).isSome=true):j=l.map Rc.item:=by
 refine jK ?_ (uH.2 A) λx=>?_
 .exact o.imp₂ (λa b h n=>a8) u
 .rw[w x];constructor
  .intro h;obtain⟨z,hz⟩:=wX.1 h;obtain⟨B,C⟩:=zsB hz;exact wB.2 ⟨z,B,C⟩
  .intro h;obtain⟨z,hz,rfl⟩:=wB.1 h;cases hg:zrZ l z.item with
   |some y=>rfl
   |none=>unfold zrZ at hg;rw[uQ]at hg;exact absurd b6 (hg z hz)
def zuC(a:Option Addr)(c:Nat)(w:World):Calls xT 183 #[.slice a 0 c,.int .i64 0,.int .i64 0] w λe j=>e=.returned (.tuple #[])/\j=w:=by
 go_enter func183,ntmps183
 go_wp2_with fail
 refine Tj 2 ?_;rw[tY]
 go_wp2_with fail
 go_end0
 exact⟨rfl,rfl⟩
def zuL(a:Option Addr)(c:Nat)(l:Int)(w:World):Calls xT 150 #[.slice a 0 c,.int .i64 0,.int .i64 0,.int .i64 l] w λe j=>e=.returned (.tuple #[])/\j=w:=by
 go_enter func150,ntmps150
 go_wp2_with fail
 refine Tj 2 ?_;rw[tY]
 go_wp2_with (go_at_call 183;refine(zuC _ _ _).mono ?_;rintro e o ⟨rfl,rfl⟩)
 refine tz (tK rfl _ _ _) rfl ?_;exact⟨rfl,rfl⟩
def zuq(a:Option Addr)(c:Nat)(w:World):Calls xT 110 #[.slice a 0 c] w λe j=>e=.returned (.tuple #[])/\Below w.heap.size w j:=by
 go_enter func110,ntmps110
 go_wp2_with (first
  |(go_at_call 150;refine(zuL _ _ _ _).mono ?_;rintro e o ⟨rfl,rfl⟩)
  |go_in)
 go_end0
 exact⟨rfl,tr _ _⟩
def ztZ{w o:World}{u:Value}{l:List Rc}{pre:List Nat}(E:zr8 l)(B:OwnN w.heap.size o u pre)(L:pre.Nodup)(K:pre.length<=1000000)(C:∀x,x∈pre↔(zrZ l x).isSome=true)(y:Below w.heap.size w o):
 Calls xT 110 #[u] o λe A=>e=.returned (.tuple #[])/\OwnU w.heap.size A u (l.map Rc.item)/\Below w.heap.size w A:=by
 have j:OwnU w.heap.size o u pre:=B;by_cases F:pre=[]
 .subst F;have e:[]=l.map Rc.item:=ztu E List.Pairwise.nil UP C;obtain⟨a,c,rfl⟩:∃a c,u=.slice a 0 c:=by
   rcases B.2 with⟨h,K⟩|⟨g,H,I,h,_⟩
   .exact⟨none,0,h⟩
   .exact⟨_,_,h⟩
  refine(zuq a c o).mono ?_;rintro J A ⟨rfl,hb⟩;rw[<-e];exact⟨rfl,j.keep λg M=>hb.block g (j.lt g M).2,y.trans (hb.mono y.size)⟩
 .obtain⟨S,G,N,O⟩:=zeb j F a8;have e:S=l.map Rc.item:=ztu E N (G.nodup_iff.2 L) λx=>(by rw[G.mem_iff,C x]);refine O.mono ?_;rintro J A ⟨rfl,P,Q⟩;rw[<-e];exact⟨rfl,P,y.grown Q y.size λk hk=>(j.lt k hk).1⟩
def ztB{t B F:Nat}{w:World}{l:List Rc}(J:zr8 l)(X:MR t B w l)(hi:∀x∈l,x.item<zk)(y:Boxed w F 82 (.map (some B)))(K:l.length<=1000000):
 Calls xT 67 #[.func (.func 111) #[] #[.pointer (some ⟨F,0,none⟩)]] w λe M=>∃u,e=.returned u/\OwnU w.heap.size M u (l.map Rc.item)/\Below w.heap.size w M:=by
 obtain⟨D,j,_,o,_⟩:=X;have H:=qL (zuh j y λpre h=>V1 (zt7 o h) K);have N:=qL J;have G:=qL o;have O:=qL hi;clear j y J o hi;go_enter func67,ntmps67
 go_wp2_with (go_at_call 109;refine H.o.mono ?_;rintro e w1 ⟨u,pre,rfl,C,E,o,I⟩
              have L:∀x,x∈pre↔(zrZ l x).isSome=true:=λx=>(by rw[o x,MR.hasq G.o];refine⟨UQ,λh=>⟨h,?_⟩⟩;obtain⟨z,hz⟩:=wX.1 h;obtain⟨Y,Z⟩:=zsB hz;rw[<-Z];exact O.o z Y);have A:=ztZ N.o C E.1 (V1 (zt7 G.o E) K) L I;obtain⟨ua,uc,rfl⟩:∃a c,u=.slice a pre.length c:=by
               rcases C.2 with⟨h,T⟩|⟨g,Q,S,h,_⟩
               .exact⟨none,0,by rw[h,show pre.length=0 from T]⟩
               .exact⟨_,_,h⟩
              have P:=qL A;clear C E o I A L)
 refine P.o.mono ?_;rintro e w2 ⟨rfl,U,V⟩;dsimp only
 go_wp2_with fail
 refine tz (tJ rfl _ _ _) rfl ?_;exact⟨_,rfl,U,V⟩
end
section
attribute [-go_sem] z7
def zvi{D:Qk}{base sz:Nat}{w:World}{e:TypeId}{v:Value}{B:List (List PV)}{C:List Value}(h:w.ownsRow base e sz v B.length C)(hs:∀(i:Nat)(p:List PV),B[i]?=some p->p.length=sz)(M:∀u∈C,u.oneCell'=true)(P:∀b o,base<=b->b<w.heap.size->D b o)
 (X:∀(i:Nat)(l:List PV)(j:Nat)(p:PV),B[i]?=some l->l[j]?=some p->∃u,C[i*sz+j]?=some u/\Dat D w u p):Dat D w v (.sl B .sh):=by
 have Z:=h.1;rcases h.2 with⟨rfl,L⟩|⟨g,y,K,rfl,S,Q,T,I,hz,ht⟩
 .rw[wW.1 L];exact .sl none 0 sz [] .sh 0 0 (λ_=>undef) (Zp _) (λh=>by cases h) b8 (λh=>absurd rfl h) (λi e h=>by simp at h) (λj h=>by simp at h) (λi e j p h=>by simp at h)
 .have F:=(XV.1 Q).1;by_cases E:B=[]
  .subst E;exact .sl _ y sz [] .sh g 0 (λ_=>undef) (X4 _) (λh=>by cases h) I (λ_=>rfl) (λi e h=>by simp at h) (λj h=>by simp at h) (λi e j p h=>by simp at h)
  have J:=wV.2 E;have H:∀j u,C[j]?=some u->w.cell? ⟨g,j,none⟩=some u:=λj u V=>(by have:=tI h (g:=g) (by cases y with|zero=>omega|succ c=>rfl) j u V;rw[zh,wn]at this;exact this);refine .sl _ y sz B .sh g 0 (λj=>(C[j]?).getD undef) T (λh=>by cases h) I (λ_=>rfl) hs (λj Y=>?_) (λi l j p G U=>?_)
  .have A:j<C.length:=a8;rw[Zv A,wn];exact⟨P g j S F,H j _ (Zv A),M _ (Y1 A)⟩
  .obtain⟨u,N,O⟩:=X i l j p G U;rw[N];exact O
def rcs(x:Rc):List Value:=[.int .u64 x.item,.int .u64 x.rep,.int .u64 x.ctr,.string x.val]
def OwnL(e:TypeId)(base:Nat)(w:World)(v:Value)(l:List Rc):Prop:=w.ownsRow base e 4 v l.length (l.flatMap rcs)
def zsD:∀{l:List Rc}{i:Nat}(h:i<l.length){j:Nat},j<4->(l.flatMap rcs)[i*4+j]?=(rcs l[i])[j]?
 |x::l,0,_,j,hj=>by rw[We,wh (by simp[rcs];omega),Nat.zero_mul,wn];rfl
 |x::l,i+1,h,j,hj=>by rw[We,V2 (by simp[rcs];omega),show (i+1)*4+j-(rcs x).length=i*4+j by simp[rcs];omega,zsD (dJ h) hj];rfl
def zs3{l:List Rc}:∀u∈l.flatMap rcs,u.oneCell'=true:=λu j=>by
 obtain⟨x,_,h⟩:=uk.1 j;simp[rcs]at h;rcases h with rfl|rfl|rfl|rfl<;>rfl
def OwnL.dat{D:Qk}{e:TypeId}{base:Nat}{w:World}{v:Value}{l:List Rc}(h:OwnL e base w v l)(A:∀b o,base<=b->b<w.heap.size->D b o):Dat D w v (lp l):=by
 refine zvi (sz:=4) (e:=e) (base:=base) (by rw[ww];exact h) (λi p u=>?_) zs3 A λi q j p y u=>?_
 .rw[wk]at u;obtain⟨x,_,rfl⟩:=ZZ.1 u;rfl
 .rw[wk]at y;obtain⟨x,B,rfl⟩:=ZZ.1 y;obtain⟨hi,rfl⟩:=Zw.1 B;match j,u with
  |0,u=>cases u;exact⟨_,zsD hi a8,.v _⟩
  |1,u=>cases u;exact⟨_,zsD hi a8,.v _⟩
  |2,u=>cases u;exact⟨_,zsD hi a8,.v _⟩
  |3,u=>cases u;exact⟨_,zsD hi a8,.v _⟩
def OwnL.val{e:TypeId}{base:Nat}{w:World}{v:Value}{l:List Rc}(h:OwnL e base w v l):∃a c,v=.slice a l.length c:=by
 rcases h.2 with⟨h,u⟩|⟨g,j,o,h,_⟩
 .exact⟨none,0,by rw[h,u]⟩
 .exact⟨_,_,h⟩
def zvb{l:List Rc}(u:zr8 l){j:Nat}(o:j<l.length):zrZ l l[j].item=some l[j]:=by
 cases hg:zrZ l l[j].item with
 |none=>unfold zrZ at hg;rw[uQ]at hg;exact absurd b6 (hg _ (Y1 o))
 | some y=>
   obtain⟨w,A⟩:=zsB hg;obtain⟨i,hi,rfl⟩:=Wj w;rcases WL i j with h|h|h
   .have:=wP.1 u i j hi o h;omega
   .subst h;rfl
   .have:=wP.1 u j i o hi h;omega
def zuW{P:Program}{f:FuncId}{t:Tmp}{xs:List Operand}{j:Array Value}{c:Call}{o:Oper}{a:Act}{w:World}{K:Act->World->Prop}{Q:Exit->Act->World->Prop}(ho:o.op=.call c)(B:c.callee=.value (.tmp t))(F:a.eval (.tmp t)=.func (.func f) #[] j)(A:c.args.toList=xs)
 (C:∀u w,(callFunc f u).run P w=.ok (.enter f u) w)
 (h:Calls P f ((xs.map a.eval).toArray++j) w λe y=>match e with|.returned v=>K (a.put o.dst v) y|.panicked chain=>Q (.panic chain) a y|.outgrown=>LetsOut Q):o.wp P a w K Q:=by
 have E:(execOp a.eval o).run P w=.ok (.enter f ((xs.map a.eval).toArray++j)) w:=by have e:c.args.map a.eval=(xs.map a.eval).toArray:=WD.1 (by rw[WS,A]);simp only[execOp,ho,resolve,B,e,F,Deferred.ofValue,tE,tH,tx,invoke];rw[show (#[]++(xs.map a.eval).toArray++j:Array Value)=(xs.map a.eval).toArray++j from by simp];exact C _ _
 unfold Oper.wp;rw[E,t8];exact h.mono (λe G h=>by cases e<;>exact h)
def zvP:(xT.info? 47).map (λi=>(i.zero,i.size,i.bytes))=some (some zR,4,40):=dK
def ztO{D:Qk}{t b m:Nat}{w:World}{s:Rs}{q:Rc->Bool}{f:FuncId}{cap:Array Value}(hR:Rpl D t w b m s)(ha:zr8 s.recs)(hl:s.recs.length<=1000000)(hi:∀x∈s.recs,x.item<zk)(he:∀Q w,(callFunc f Q).run xT w=.ok (.enter f Q) w)
 (hf:∀x∈s.recs,∀W,Below w.heap.size w W->Calls xT f (#[rcv x]++cap) W λe w'=>e=.returned (.bool (q x))/\Below W.heap.size W w') :
 Calls xT 29 #[.pointer (some ⟨b,0,none⟩),.func (.func f) #[] cap] w λe w'=>∃v,e=.returned v/\Below w.heap.size w w'/\OwnL 47 w.heap.size w' v (s.recs.filter q):=by
 obtain⟨ka,kc,h1,h2,h3⟩:=hR;have c1:w.cell? ⟨b,1,none⟩=some (.map (some m)):=(zW h1 1 _ rfl).1;have hb:=(XV.1 h1).1;have HB:=qL h1;have HM:=qL h2;have HA:=qL ha;have HI:=qL hi;have HE:=qL he;have HF:=qL hf;obtain⟨n,hn⟩:=xm (s.recs.length);have HN:=qL hn;rw[<-hn]at hl;obtain⟨i0,ai,aq,ar,au⟩:=tP zvP;have A:=qL (And.intro ai (And.intro aq (And.intro ar au)));clear h1 h2 h3 ha hi he hf hn ai aq ar au;go_enter func29,ntmps29
 go_wp2_with (first
  |(go_at_call 68;refine(zuG _ _).mono ?_;rintro e w1 ⟨rfl,rfl⟩)
  | (go_at_call 67;refine(ztB HA.o (HM.o.keep (tu _ _ _ HM.o.lt)) HI.o (tT w _ _) (by rw[<-HN.o];omega)).mono ?_
     rintro e F ⟨u2,rfl,Z,P⟩;obtain⟨a2,c2,rfl⟩:∃a c,u2=.slice a n c:=by
      have aj:(s.recs.map Rc.item).length=n:=(by rw[ww,HN.o]);rcases Z.2 with⟨h,h0⟩|⟨g,cap,X,h,_⟩
      .exact⟨none,0,by rw[h,<-aj,h0]⟩
      .exact⟨_,_,by rw[h,aj]⟩
     have ac:=qL Z;have H:w.heap.size<=F.heap.size:=(by have:=P.size;simp only[tv]at this;omega);have K:=qL (((tr _ w).alloc (Zp _) _).trans (P.mono b6));have aD:=P.size;simp only[tv]at aD;clear Z P))
 go_loopg [5,16] n (λg y x wr=>∃j,j<=n/\g=n-j/\x=.int .i64 j/\OwnL 47 F.heap.size wr y ((s.recs.take j).filter q)/\Below F.heap.size F wr)
 case atStart=>exact⟨0,X4 _,rfl,rfl,tR _ _ _ _,tr _ _⟩
 case round=>
  obtain⟨j,hj,rfl,rfl,ab,o⟩:=hrel;have aB:=qL ab;have aw:=qL o;have aE:=o.size;by_cases Y:j<n
  .have B:j<s.recs.length:=(by rw[<-HN.o];exact Y);obtain⟨x,hx⟩:=xm (s.recs[j]);have G:x∈s.recs:=(by rw[hx];exact Y1 B);have T:zrZ s.recs x.item=some x:=(by rw[hx];exact zvb HA.o B);have an:s.recs.take (j+1)=s.recs.take j++[x]:=(by rw[hx];exact vj B);obtain⟨g,rfl,hg,cg⟩:∃g,a2=some ⟨g,0,none⟩/\g<F.heap.size/\wr.cell? ⟨g,j,none⟩=some (.int .u64 x.item):=by
    rcases ac.o.2 with⟨_,h0⟩|⟨g,cap,X,h,hg,hc,af,_,_,_⟩
    .rw[ww,<-HN.o]at h0;omega
    .obtain⟨rfl,_,rfl⟩:a2=some ⟨g,0,none⟩/\n=(s.recs.map Rc.item).length/\c2=cap:=(dJ h);have ah:=(XV.1 hc).1;rw[ww,<-HN.o]at af;have:=tI ac.o (g:=g) (by cases c2 with|zero=>omega|succ c=>rfl) j (.int .u64 x.item) (by rw[Ud,wk,Zv B,<-hx];rfl);rw[zh,wn]at this;exact⟨g,rfl,ah,(tl (a:=⟨g,j,none⟩) (o.block g ah)).trans this⟩
   have cb:wr.cell? ⟨b,1,none⟩=some (.map (some m)):=(tl (a:=⟨b,1,none⟩) ((o.block b a8).trans (K.o.block b hb))).trans c1;have ak:MR t m wr s.recs:=HM.o.keep ((o.block m (by have:=HM.o.lt;omega)).trans (K.o.block m HM.o.lt));have aG:=HI.o x G;have aH:((s.recs.take j).filter q).length<=j:=V1 (Wy _ _) a9;have HG:=qL T;have ay:=qL ak;have ax:=qL (HF.o x G);have ad:=qL an;obtain⟨J,aF⟩:∃J,J=wr:=⟨wr,rfl⟩;subst aF;obtain⟨wb,I⟩:=xm (J.alloc (.cells #[.int .u64 x.item,.int .u64 x.rep,.int .u64 x.ctr,.string x.val] 47));have aJ:wb.heap.size=J.heap.size+1:=(by rw[I];simp);have ao:wb.heap[J.heap.size]?=some (.cells #[.int .u64 x.item,.int .u64 x.rep,.int .u64 x.ctr,.string x.val] 47 (0,0)):=(by rw[I];exact tn J _);have aC:=qL ao;have V:qA (Below F.heap.size F wb):=qL (by rw[I];exact o.alloc aE _);have aA:qA (OwnL 47 F.heap.size wb u5 ((s.recs.take j).filter q)):=qL (by rw[I];exact ab.alloc _);clear G T hx an ak ab o ao
   go_wp2_with (at_lookup;refine ztf rfl _ _ rfl rfl ay.o aG rfl HG.o ?_)
   rw[<-I];refine zuW (t:=26) (xs:=[.tmp 27]) rfl rfl rfl rfl HE.o ?_;refine(ax.o wb (K.o.trans (V.o.mono H))).mono ?_;rintro e U ⟨rfl,C⟩;have O:OwnL 47 F.heap.size U u5 ((s.recs.take j).filter q):=(Keep.of_below' (S:=qe) C (Zp _)).ownsRow aA.o λ_ _=>id;have N:Below F.heap.size F U:=V.o.trans (C.mono V.o.size);have E:=(C.block _ a8).trans aC.o;have aI:=C.size;cases hq:q x with
   | false=>
     dsimp only;have M:=qL O;have L:=qL N;clear O N E C
     go_wp2_with fail
     go_roundg (n-(j+1));case measure=>omega
     case rel=>refine⟨j+1,Y,rfl,b6,?_,L.o⟩;rw[ad.o,uo,up,hq,Vq b6,UH,wY];exact M.o
   | true=>
     have x0:U.cell? ⟨J.heap.size,0,none⟩=some (.int .u64 x.item):=(zW E 0 _ rfl).1;have x1:U.cell? ⟨J.heap.size,1,none⟩=some (.int .u64 x.rep):=(zW E 1 _ rfl).1;have x2:U.cell? ⟨J.heap.size,2,none⟩=some (.int .u64 x.ctr):=(zW E 2 _ rfl).1;have x3:U.cell? ⟨J.heap.size,3,none⟩=some (.string x.val):=(zW E 3 _ rfl).1;have M:=qL O;have L:=qL N;clear O N E C;dsimp only
     go_wp2_with fail
     refine Zi _ _ 45 rfl F.heap.size 47 i0 _ 4 40 underlying45 A.o.1 A.o.2.1 A.o.2.2.1 A.o.2.2.2 rfl b8 _ _ (((s.recs.take j).filter q).flatMap rcs) rfl (World.ownsRow.alloc M.o _) ⟨U.heap.size,0,none⟩ 1 1 (rcs x) rfl rfl (λk u hk=>by
      rw[zh,wn];exact(zW (tn U _) k u (by simpa[rcs]using hk)).1) (λu hu=>zs3 (l:=[x]) u (dJ hu)) c8 a8 a9 ?_
     intro v6 w6 am ag _ _;have ae:=(L.o.alloc L.o.size _).grown ag a9 λk hk=>(World.ownsRow.lt M.o k hk).1;have az:=qL am;have av:=qL ae;clear am ag ae
     go_wp2_with fail
     go_roundg (n-(j+1));case measure=>omega
     case rel=>refine⟨j+1,Y,rfl,b6,?_,av.o⟩;rw[ad.o,uo,up,hq,vD rfl,UH];unfold OwnL;rw[wj,Wl,We,Ux,wY];exact az.o
  .obtain rfl:j=n:=a8
   go_wp2_with fail
   refine tz (tJ rfl _ _ _) rfl ?_;have h:=aB.o;rw[wm (by rw[HN.o];exact Zp _)]at h;exact⟨_,rfl,K.o.trans (aw.o.mono H),h.1,h.2.imp id λ⟨g,cap,X,q1,q2,q3⟩=>⟨g,cap,X,q1,V1 H q2,q3⟩⟩
end
def ztT(k:List Fg)(items:List Iv)(x:Rc)(hi:Nrm items)(j:items.length<=1152921504606846976)(u:RightK k)(o:x.ctr<zk)(hz:QW k):Cn xT 44 [rcp x,.cp [rg items] 0,.cp [kp k] 0] (.v (.bool (mem items x.item && !hasK k x.item x.rep x.ctr))):=by
 refine zt func44 3 ?_;refine pw ?_;refine .c (ziQ items x.item hi j) ?_;refine .i ?_ ?_<;>intro h<;>first|refine pw ?_|exact pd
 .refine .c (zoW k x.item x.rep x.ctr u o hz) ?_;simp[h]
 .simp[h]
def zur(s:Iv)(x:Nat)(j:s.lo<=s.hi)(o:s.hi<zk)(u:x<zk):Cn xT 33 [Je s,.v (.int .u64 x)] (.v (.bool (decide (s.lo<=x) && decide (x<=s.hi)))):=by refine zt func33 2 ?_;refine pw ?_;have:=zw;rw[Wz];simp only[V0,wG];omega
def zvM(s:Iv)(x:Rc)(j:s.lo<=s.hi)(o:s.hi<zk)(u:x.item<zk):Cn xT 32 [Je s,.cp (rcc x) 0] (.v (.bool (decide (s.lo<=x.item) && decide (x.item<=s.hi)))):=by refine zt func32 2 ?_;refine pw ?_;exact .d (zur s x.item j o u)
def ixH(x:Nat):Nat->List Iv->Int
 |_,[] =>-1
 |n,s::l=>if (decide (s.lo<=x) && decide (x<=s.hi))=true then n else ixH x (n+1) l
def zt5(x:Nat):∀(n:Nat)(l:List Iv),(0<=ixH x n l)↔mem l x=true
 |n,[]=>by simp[ixH,mem]
 | n,s::l=>by
   unfold ixH;have:=zt5 x (n+1) l;by_cases h:(decide (s.lo<=x) && decide (x<=s.hi))=true
   .rw[vD h];simp only[mem,ur,h,Bool.true_or,iff_true];omega
   .rw[Vq h,this];simp only[mem,ur];rw[um]at h;rw[h,uz]
def zvc(l:List Iv)(x:Rc)(hb:∀s∈l,s.lo<=s.hi/\s.hi<zk)(u:x.item<zk)(w:l.length<=1152921504606846976):Cn xT 69 [rg l,.fn (.func 32) [] [.cp (rcc x) 0]] (.v (.int .i64 (ixH x.item 0 l))):=by
 refine zt func69 2 ?_;refine pw ?_;refine pLoop.go (λk=>k<=l.length/\ixH x.item 0 l=ixH x.item k (l.drop k)) (λk=>[(8,.v (.int .i64 (k:Nat)))]) (λ_=>[]) (λk=>l.length-k) 0 [8] ?_ ?_ ?_
 .exact⟨X4 _,rfl⟩
 .exact pd
 .rintro k ⟨hk,j⟩;refine pw ?_;refine .i ?_ ?_<;>intro h<;>first|refine pw ?_|exact pd
  .rw[VS h,ixH]at j;refine pw ?_;have hs:=hb _ (Y1 h);refine .rd (zvM l[k] x hs.1 hs.2 u) rfl ?_;by_cases o:(decide (l[k].lo<=x.item) && decide (x.item<=l[k].hi))=true
   .rw[vD o]at j;rw[o,j];exact pd
   .rw[Vq o]at j;simp only[um]at o;rw[o];refine pw ?_;exact⟨k+1,⟨h,j⟩,a8,rfl⟩
  .rw[j,wE a8];rfl
def ztQ(l:List Iv)(x:Rc)(hb:∀s∈l,s.lo<=s.hi/\s.hi<zk)(o:x.item<zk)(j:l.length<=1152921504606846976):Cn xT 31 [rg l,.fn (.func 32) [] [.cp (rcc x) 0]] (.v (.bool (mem l x.item))):=by refine zt func31 2 ?_;refine pw ?_;refine .c (zvc l x hb o j) ?_;rw[Wz,wG,zt5]
def ztW(l:List Iv)(x:Rc)(hb:∀s∈l,s.lo<=s.hi/\s.hi<zk)(o:x.item<zk)(j:l.length<=1152921504606846976):Cn xT 30 [rcp x,.cp [rg l] 0] (.v (.bool (mem l x.item))):=by refine zt func30 2 ?_;refine pw ?_;exact .d (ztQ l x hb o j)
section
attribute [-go_sem] z7
def zsI{f:FuncId}{y:List PV}{x:Value}(C:Cn xT f y (.v x)){D:Qk}{w:World}{vs:Array Value}(A:Gd D w)(o:vs.size=y.length)(j:∀(i:Nat) p,y[i]?=some p->Dat D w (vs.getD i undef) p):Calls xT f vs w λe B=>e=.returned x/\Below w.heap.size w B:=by refine(jP C A.1 A.2 o j).mono ?_;rintro e B ⟨u,rfl,hb,j⟩;rw[(Rel.dat (ρ:=λ_=>0) (nb:=0) j).v_inv];exact⟨rfl,hb⟩
def ztx{D:Qk}{w:World}{b:Nat}{v:Value}{p:PV}{t:TypeId}(h:w.heap[b]?=some (.cells #[v] t (0,0)))(y:D b 0)(u:v.oneCell'=true)(A:Dat D w v p):Dat D w (.pointer (some ⟨b,0,none⟩)) (.cp [p] 0):=
 .cp b 0 [p] 0 (λ_=>v) (λj B=>by
  obtain rfl:j=0:=(dJ B);exact⟨y,(zW h 0 _ rfl).1,u⟩) λj q o=>by
  match j,o with
  |0,o=>cases o;exact A
def zum{C:Q9}{R E I:List Nat}{n t b m:Nat}{D:Qk}{w:World}{s:Rs}{items:List Iv}{ia:Option Addr}{O:Nat}(e:Env25 C R E I)(h:Ok25 C R E I n s)(Z:Rpl D t w b m s)(Y:Gd D w)(hi:∀s∈items,s.lo<=s.hi/\s.hi<zk)(ab:items.length<=1000000)(d:Dat D w (.slice ia items.length O) (rg items)):
 Calls xT 12 #[.pointer (some ⟨b,0,none⟩),.slice ia items.length O] w λe X=>∃a c,e=.returned (.slice a (s.recs.filter λx=>mem items x.item).length c)/\Below w.heap.size w X/\Dat (Nw D w X) X (.slice a (s.recs.filter λx=>mem items x.item).length c) (lp (s.recs.filter λx=>mem items x.item)):=by
 obtain⟨y,u⟩:=xm (w.alloc (.cells #[.slice ia items.length O] 24));have A:Below w.heap.size w y:=by rw[u];exact(tr _ w).alloc (Zp _) _
 have ac:y.heap.size=w.heap.size+1:=by rw[u];exact tv _ _
 have N:y.heap[w.heap.size]?=some (.cells #[.slice ia items.length O] 24 (0,0)):=by rw[u];exact tn w _
 have B:Keep qe w y:=Keep.of_below' A (Zp _);have H:Rpl D t y b m s:=Z.keep B id id λb o h=>⟨h,id⟩;have L:=ztO (q:=λx=>mem items x.item) (f := 30) (cap:=#[.pointer (some ⟨w.heap.size,0,none⟩)]) H h.a (by have:=h.len e;omega) (λx M=>(e.m _ (h.x x M).1).1) (enters_of func30 dK rfl) λx M W T=>by
  have J:Keep qe w W:=B.trans (Keep.of_below' T (Zp _));have G:Gd (Nw D w y) W:=(by have S:=Y.keep J λ_ _ _=>id;refine⟨S.1.mono (λ_ _ h=>.inl h) λ_ _ _ _ h=>h,λb o h=>h.elim (S.2 b o) λh=>Vm h.2 T.size⟩);have V:Dat (Nw D w y) W (.slice ia items.length O) (rg items):=d.mono (λ_ _ h=>.inl h) λb o x hd M=>J.cell_some M id;refine cn_bool (ztW items x hi (e.m _ (h.x x M).1).1 a8) G.1 G.2 rfl λj p F=>?_;match j,F with
  |0,F=>cases F;exact ztb x
  |1,F=>cases F;exact ztx ((T.block _ a8).trans N) (.inr ⟨Zp _,a8⟩) rfl V
  |j+2,F=>simp at F
 have Q:=qL L;have P:=qL A;clear L H N A Z Y d B;go_enter func12,ntmps12
 go_wp2_with (go_at_call 29;rw[<-u];refine Q.o.mono ?_;rintro e w2 ⟨v,rfl,U,K⟩;obtain⟨a2,c2,rfl⟩:=K.val)
 go_ret;exact⟨_,_,rfl,P.o.trans (U.mono a8),K.dat λb o S h2=>.inr ⟨a8,h2⟩⟩
def bc0{w o:World}{a:Addr}{v:Value}(h:Below w.heap.size w o)(j:w.cell? a=some v):o.cell? a=some v:=(tl (h.block _ (tp w a j))).trans j
def zt3{D:Qk}{w:World}{v:Value}{c k:Int}(h:Dat D w v (.ifc 115 (.agg [.v (.int .i64 c),.v (.int .i64 k)]))):v=.iface 115 (.agg #[.int .i64 c,.int .i64 k]):=by
 cases h with
 | ifc t x p h=>
   cases h with
   | agg vs cs hs h1 h=>
     have j:=(Rel.dat (ρ:=λ_=>0) (nb:=0) (h 0 _ rfl)).v_inv;have o:=(Rel.dat (ρ:=λ_=>0) (nb:=0) (h 1 _ rfl)).v_inv;obtain⟨l⟩:=vs;match l,hs with
     |[p,q],_=>simp at j o;rw[j,o]
def Ke.zz{C:Q9}{R E I:List Nat}{k:List Fg}(h:Ke C R E k)(e:Env25 C R E I):QW k:=h.kn.z (by have:=e.e;omega)
def ztv{k:List Fg}(o:RightK k)(hz:QW k):Cn xT 40 [kp k] (.v .nilIface):=by have j:BdK k:=BdK.of o hz;have:=Vh k j hz;rw[yk ((ZN j).2 o)]at this;exact this
def OwnL.base{e:TypeId}{b j:Nat}{w:World}{v:Value}{l:List Rc}(h:OwnL e b w v l)(hb:j<=b):OwnL e j w v l:=⟨h.1,h.2.imp id λ⟨g,cap,cur,q1,q2,q3⟩=>⟨g,cap,cur,q1,V1 hb q2,q3⟩⟩
def zul{C:Q9}{R E I:List Nat}{n t b m:Nat}{D:Qk}{w:World}{s:Rs}{k:List Fg}{items:List Iv}{ka ia:Option Addr}{T S:Nat}(e:Env25 C R E I)(h:Ok25 C R E I n s)(hn:n<=26)(hR:Rpl D t w b m s)(hG:Gd D w)(hr:RightK k)(hz:QW k)(dk:Dat D w (.slice ka k.length T) (kp k))(hi:Nrm items)(ah:items.length<=1000)(d:Dat D w (.slice ia items.length S) (rg items)):
 Calls xT 17 #[.pointer (some ⟨b,0,none⟩),.slice ka k.length T,.slice ia items.length S] w λe U=>∃a c,e=.returned (.tuple #[.slice a (zs0 s k items).length c,.nilIface])/\Below w.heap.size w U/\OwnL 47 w.heap.size U (.slice a (zs0 s k items).length c) (zs0 s k items):=by
 obtain⟨y,G⟩:=xm ((w.alloc (.cells #[.slice ka k.length T] 54)).alloc (.cells #[.slice ia items.length S] 24));have M:Below w.heap.size w y:=by rw[G];exact((tr _ w).alloc (Zp _) _).alloc b6 _
 have ai:y.heap.size=w.heap.size+2:=by rw[G];simp
 have Q:y.heap[w.heap.size]?=some (.cells #[.slice ka k.length T] 54 (0,0)):=by rw[G];exact Tp _ _ _
 have K:y.heap[w.heap.size+1]?=some (.cells #[.slice ia items.length S] 24 (0,0)):=by rw[G];exact Tz _ _ _
 have A:∀W,Below y.heap.size y W->Gd (Nw D w y) W/\Dat (Nw D w y) W (.slice ka k.length T) (kp k)/\Dat (Nw D w y) W (.slice ia items.length S) (rg items)/\Rpl D t W b m s:=λW H=>by have J:Keep qe w W:=(Keep.of_below' M (Zp _)).trans (Keep.of_below' H (Zp _));have h1:=hG.keep J λ_ _ _=>id;exact⟨⟨h1.1.mono (λ_ _ h=>.inl h) λ_ _ _ _ h=>h,λb o h=>h.elim (h1.2 b o) λh=>Vm h.2 H.size⟩,dk.mono (λ_ _ h=>.inl h) λb o x hd P=>J.cell_some P id,d.mono (λ_ _ h=>.inl h) λb o x hd P=>J.cell_some P id,hR.keep J id id λb o h=>⟨h,id⟩⟩
 have hM:=zw;have V:=λW H=>zsI (ztv hr hz) (A W H).1 (vs:=#[.slice ka k.length T]) rfl λj p u=>by
  match j,u with
  |0,u=>cases u;exact(A W H).2.1
  |j+1,u=>simp at u
 have Y:=λW H=>zsI (zpJ items hi a8) (A W H).1 (vs:=#[.slice ia items.length S]) rfl λj p u=>by
  match j,u with
  |0,u=>cases u;exact(A W H).2.2.1
  |j+1,u=>simp at u
 have Z:∀L,Below y.heap.size y L->Calls xT 29 #[.pointer (some ⟨b,0,none⟩),.func (.func 44) #[] #[.pointer (some ⟨w.heap.size+1,0,none⟩),.pointer (some ⟨w.heap.size,0,none⟩)]] L λe U=>∃v,e=.returned v/\Below L.heap.size L U/\OwnL 47 L.heap.size U v (zs0 s k items):=λL O=>
  ztO (q:=λx=>mem items x.item && !hasK k x.item x.rep x.ctr) (A L O).2.2.2 h.a (by have:=h.len e;omega) (λx P=>(e.m _ (h.x x P).1).1) (enters_of func44 dK rfl) λx P W H=>by
   have N:=O.trans (H.mono O.size);obtain⟨g1,g2,g3,_⟩:=A W N;refine cn_bool (ztT k items x hi a8 hr (by have:=h.x x P;omega) hz) g1.1 g1.2 rfl λj p u=>?_;match j,u with
   |0,u=>cases u;exact ztb x
   |1,u=>cases u;exact ztx ((N.block _ a8).trans K) (.inr ⟨a8,a8⟩) rfl g3
   |2,u=>cases u;exact ztx ((N.block _ a8).trans Q) (.inr ⟨a8,a8⟩) rfl g2
   |j+3,u=>simp at u
 have c0:y.cell? ⟨w.heap.size,0,none⟩=some (.slice ka k.length T):=(zW Q 0 _ rfl).1;have c1:y.cell? ⟨w.heap.size+1,0,none⟩=some (.slice ia items.length S):=(zW K 0 _ rfl).1;have HX:=qL K;have ac:=qL V;have ad:=qL Y;have ae:=qL Z;have ab:=qL M;clear A V Y Z Q K M hR hG dk d h hr hz;go_enter func17,ntmps17
 go_wp2_with (first
  |(go_at_call 40;rw[<-G];refine(ac.o y (tr _ _)).mono ?_;rintro e w2 ⟨rfl,F⟩;have d0:=bc0 F c0;have d1:=bc0 F c1)
  |(go_at_call 42;refine(ad.o _ F).mono ?_;rintro e w3 ⟨rfl,af⟩;have B:=F.trans (af.mono F.size);have d3:=bc0 B c0;have d4:=bc0 B c1)
  |(go_at_call 43;refine(As.Is_nil _ _).mono ?_;rintro e U ⟨rfl,rfl⟩)
  |(go_at_call 29;refine(ae.o _ B).mono ?_;rintro e w5 ⟨v,rfl,ag,X⟩;obtain⟨a5,c5,rfl⟩:=X.val))
 refine tz (To rfl _ _ _) rfl ?_;exact⟨_,_,rfl,ab.o.trans ((B.mono a8).trans (ag.mono (by have:=B.size;omega))),X.base (by have:=B.size;omega)⟩
def zvu{c d:Prop}[Decidable c][Decidable d]{x:Nat×Int}{i:Int}(ih:x.1≠0->x.1=2\/x.1=3)(h:(if c then (if d then x else (3,i)) else (2,i)).1≠0):(if c then (if d then x else (3,i)) else (2,i)).1=2\/(if c then (if d then x else (3,i)) else (2,i)).1=3:=by
 by_cases j:c
 .rw[vD j]at h⊢;by_cases o:d
  .rw[vD o]at h⊢;exact ih h
  .rw[Vq o];exact .inr rfl
 .rw[Vq j];exact .inl rfl
def zth:∀(l:List Iv)(p:Option Iv)(i:Nat),(QZ p l i).1≠0->(QZ p l i).1=2\/(QZ p l i).1=3
 |[],p,i,h=>absurd (by simp[QZ]) h
 |s::l,p,i,h=>zvu (zth l (some s) (i+1)) h
def zvL{f:FuncId}{y:List PV}{c k:Int}(C:Cn xT f y (.ifc 115 (.agg [.v (.int .i64 c),.v (.int .i64 k)]))){D:Qk}{w:World}{vs:Array Value}(A:Gd D w)(o:vs.size=y.length)(j:∀(i:Nat) p,y[i]?=some p->Dat D w (vs.getD i undef) p):Calls xT f vs w λe B=>e=.returned (.iface 115 (.agg #[.int .i64 c,.int .i64 k]))/\Below w.heap.size w B:=by refine(jP C A.1 A.2 o j).mono ?_;rintro e B ⟨u,rfl,hb,j⟩;rw[zt3 j];exact⟨rfl,hb⟩
def sRp:ByteArray:=⟨#[114,101,112,108,105,99,97]⟩
def erV(x:Nat×Int):Value:=.iface 145 (.agg #[.string sRp,.iface 115 (.agg #[.int .i64 x.1,.int .i64 x.2])])
def zu7{D:Qk}{w:World}{v:Value}{x:Nat×Int}(u:x.1≠0)(h:Dat D w v (zou sRp x)):v=erV x:=by
 unfold zou at h;rw[zmb u]at h;cases h with
 | ifc t x p h=>
   cases h with
   | agg vs cs hs h1 h=>
     have j:=(Rel.dat (ρ:=λ_=>0) (nb:=0) (h 0 _ rfl)).v_inv;have o:=zt3 (h 1 _ rfl);obtain⟨l⟩:=vs;match l,hs with
     |[p,q],_=>simp at j o;rw[j,o];rfl
def ztI{D:Qk}{w:World}{b:Nat}{k:List Fg}{items:List Iv}{ka ia:Option Addr}{Q P:Nat}(hG:Gd D w)(hr:RightK k)(hz:QW k)(dk:Dat D w (.slice ka k.length Q) (kp k))(hi:∀s∈items,s.lo<zk/\s.hi<zk)(U:(Zl items).1≠0)(ag:items.length<=1000000)(d:Dat D w (.slice ia items.length P) (rg items)):
 Calls xT 17 #[.pointer (some ⟨b,0,none⟩),.slice ka k.length Q,.slice ia items.length P] w λe Z=>e=.returned (.tuple #[.slice none 0 0,erV (Zl items)])/\Below w.heap.size w Z:=by
 obtain⟨C,F⟩:=xm ((w.alloc (.cells #[.slice ka k.length Q] 54)).alloc (.cells #[.slice ia items.length P] 24));have J:Below w.heap.size w C:=by rw[F];exact((tr _ w).alloc (Zp _) _).alloc b6 _
 have ah:C.heap.size=w.heap.size+2:=by rw[F];simp
 have X:C.heap[w.heap.size]?=some (.cells #[.slice ka k.length Q] 54 (0,0)):=by rw[F];exact Tp _ _ _
 have Y:C.heap[w.heap.size+1]?=some (.cells #[.slice ia items.length P] 24 (0,0)):=by rw[F];exact Tz _ _ _
 have A:∀W,Below C.heap.size C W->Gd D W/\Dat D W (.slice ka k.length Q) (kp k)/\Dat D W (.slice ia items.length P) (rg items):=λW G=>by have K:Keep qe w W:=(Keep.of_below' J (Zp _)).trans (Keep.of_below' G (Zp _));exact⟨hG.keep K λ_ _ _=>id,dk.mono (λ_ _ h=>h) λb o x hd I=>K.cell_some I id,d.mono (λ_ _ h=>h) λb o x hd I=>K.cell_some I id⟩
 have V:=λW G=>zsI (ztv hr hz) (A W G).1 (vs:=#[.slice ka k.length Q]) rfl λj p y=>by
  match j,y with
  |0,y=>cases y;exact(A W G).2.1
  |j+1,y=>simp at y
 have L:=rcheck_c items hi a8 (.inr (KL 2));have N:=zqK sRp (Zl items) U;rw[zmb U]at L N;have M:=λW G=>zvL L (A W G).1 (vs:=#[.slice ia items.length P]) rfl λj p y=>by
  match j,y with
  |0,y=>cases y;exact(A W G).2.2
  |j+1,y=>simp at y
 have O:∀W,Below C.heap.size C W->Calls xT 41 #[.string sRp,.iface 115 (.agg #[.int .i64 (Zl items).1,.int .i64 (Zl items).2])] W λe Z=>e=.returned (erV (Zl items))/\Below W.heap.size W Z:=λW G=>by
  refine(jP N (A W G).1.1 (A W G).1.2 rfl λj p y=>?_).mono ?_
  .match j,y with
   |0,y=>cases y;exact .v _
   |1,y=>cases y;exact .ifc _ _ _ (znT (.v _) (.v _) rfl rfl)
   |j+2,y=>simp at y
  .rintro e Z ⟨u,rfl,hb,hd⟩;rw[zu7 U hd];exact⟨rfl,hb⟩
 have c0:C.cell? ⟨w.heap.size,0,none⟩=some (.slice ka k.length Q):=(zW X 0 _ rfl).1;have c1:C.cell? ⟨w.heap.size+1,0,none⟩=some (.slice ia items.length P):=(zW Y 0 _ rfl).1;have H:=zth items none 0 U;obtain⟨x,I⟩:=xm (Zl items);rw[<-I]at M O;rw[<-I];replace H:x.1=2\/x.1=3:=by rw[I];exact H
 have ac:=qL V;have S:=qL M;have T:=qL O;have ab:=qL J;clear A V M O X Y J hG dk d hr hz L N hi U I;obtain⟨c,p⟩:=x;dsimp only at H S T;rcases H with rfl|rfl;all_goals
  go_enter func17,ntmps17
  go_wp2_with (first
   |(go_at_call 40;rw[<-F];refine(ac.o C (tr _ _)).mono ?_;rintro e w2 ⟨rfl,E⟩;have d0:=bc0 E c0;have d1:=bc0 E c1)
   |(go_at_call 42;refine(S.o _ E).mono ?_;rintro e w3 ⟨rfl,ad⟩;have B:=E.trans (ad.mono E.size))
   |(go_at_call 43;refine(As.Is_FN _ _ _ _).mono ?_;rintro e Z ⟨rfl,ae⟩;replace B:=B.trans (ae.mono B.size))
   |(go_at_call 41;refine(T.o _ B).mono ?_;rintro e w6 ⟨rfl,af⟩))
  refine tz (To rfl _ _ _) rfl ?_;exact⟨rfl,ab.o.trans ((B.mono a8).trans (af.mono (by have:=B.size;omega)))⟩
end
section
def zsV(x:Int):Nat:=((x%18446744073709551616)%3).toNat
def zs5(x:Int):zsV x<3:=by unfold zsV;omega
def ztC(S:Nat->Rs)(i:Nat)(s:Rs):Nat->Rs:=λk=>if k=i then s else S k
noncomputable def zsY (S:Nat->Rs) (o:Opn):Nat->Rs:=
 if o.items.length=0 then ztC S (zsV o.who) (ztM (S (zsV o.who)) o.item o.val)
 else if (Zl o.items).1=0 then ztC S (zsV o.who) (ztt (S (zsV o.who)) (S (zsV o.from_)) o.items) else S
def S0:Nat->Rs:=λi=>⟨10*i,[],[],0⟩
def OkS(C:Q9)(R E I:List Nat)(n:Nat)(S:Nat->Rs):Prop:=∀i,i<3->Ok25 C R E I n (S i)
def OpE(E I:List Nat)(o:Opn):Prop:=(∀s∈o.items,s.lo<zk/\s.hi<zk)/\o.val.size<=100/\o.items.length<=10/\o.item∈I/\∀x∈z6 o.items,x∈E
section
variable {C:Q9}{R E I:List Nat}{n:Nat}{S:Nat->Rs}{o:Opn}
def OpE.ed(h:OpE E I o)(u:(Zl o.items).1=0):Nrm o.items/\∀x,Ed o.items x->x∈E:=by have j:Nrm o.items:=(YT λs hs=>(h.1 s hs).2).1 u;refine⟨j,λx w=>?_⟩;exact h.2.2.2.2 x (Y3 (j.ivs2) w)
def OkS.mono{m:Nat}(h:OkS C R E I n S)(j:n<=m):OkS C R E I m S:=λi hi=>(h i hi).mono j
def OkS.upd{m:Nat}{j:Nat}{s:Rs}(h:OkS C R E I n S)(o:n<=m)(hs:Ok25 C R E I m s):OkS C R E I m (ztC S j s):=λi hi=>by
 unfold ztC;split
 .exact hs
 .exact(h i hi).mono o
def OkS.step(h:OkS C R E I n S)(e:Env25 C R E I)(ho:OpE E I o)(w:n<=25):OkS C R E I (n+1) (zsY S o):=by
 have j:=h _ (zs5 o.who);have u:=h _ (zs5 o.from_);unfold zsY;split
 .exact h.upd a8 (j.put e ho.2.2.2.1 ho.2.1 w)
 .split
  .rename_i hc;exact h.upd a8 ((j.pull u e (ho.ed hc).1 (ho.ed hc).2 ho.2.2.1).mono a8)
  .exact h.mono a8
end
def zwf{C:Q9}{R E I:List Nat}(j:∀i,i<3->10*i∈R):OkS C R E I 0 S0:=λi hi=>
 ⟨Ke.nil,List.Pairwise.nil,λx o=>by simp[S0]at o,Zp _,by unfold S0;have:=zw;dsimp only;omega,j i hi⟩
def edO(l:List Opn):List Nat:=0::l.flatMap λo=>o.item::(o.item+1)::z6 o.items
def zt4:∀(l:List Opn),(∀o∈l,o.items.length<=10)->(edO l).length<=1+l.length*22
 |[],_=>by simp[edO]
 |o::l,h=>by have j:=zt4 l λx u=>h x (by simp[u]);have w:=h o b6;have y:=vq o.items;simp only[edO,wv,We,wj]at j⊢;omega
def ztG{l:List Opn}(h:ztR l=true):l.length<=25/\∀o∈l,o.val.size<=100/\o.items.length<=10:=by simp[ztR]at h;exact h
def zu9{l:List Opn}(h:ztR l=true)(hb:∀o∈l,BdO o):Env25 (λ_=>List.range 27) [0,10,20] (edO l) (l.map Opn.item)/\∀o∈l,OpE (edO l) (l.map Opn.item) o:=by obtain⟨y,w⟩:=ztG h;have A:=zt4 l λo ho=>(w o ho).2;have j:∀o∈l,∀x∈o.item::(o.item+1)::z6 o.items,x∈edO l:=λo ho x u=>Wn _ (uk.2 ⟨o,ho,u⟩);refine⟨⟨⟨λr=>b6,b6⟩,λr x u=>a9,by simp[edO],a8,dJ y,λi hi=>?_⟩,λo ho=>⟨(hb o ho).2.2.2.1,(w o ho).1,(w o ho).2,List.mem_map_of_mem ho,λx u=>j o ho x (by simp[u])⟩⟩;obtain⟨o,ho,rfl⟩:=wB.1 hi;exact⟨(hb o ho).2.1,j o ho _ b6,λ_=>j o ho _ b6⟩
def mrg:Option Rc->Option Rc->Option Rc
 |none,o=>o
 |some y,none=>some y
 |some y,some x=>if zs7 y x=true then some y else some x
def leR(c r:Nat)(y:Rc):Prop:=c<y.ctr\/(c=y.ctr/\r<=y.rep)
def zuE{x y:Rc}:zs7 x y=true↔¬leR x.ctr x.rep y:=by unfold zs7 leR;simp;omega
def ztg{l:List Rc}(h:zr8 l)(p:Rc->Bool)(i:Nat):zrZ (l.filter p) i=(zrZ l i).filter p:=by
 induction l with
 |nil=>rfl
 | cons y l ih=>
   obtain⟨j,o⟩:=V3.1 h;rw[up,zrf];by_cases e:y.item=i
   .have u:zrZ (l.filter p) i=none:=ztk λz hz=>(by have:=j z (Wh.1 hz).1;omega);rw[vD e];split
    .rename_i hp;rw[zrf,vD e];simp[Option.filter,hp]
    .rename_i hp;rw[u];simp[Option.filter,hp]
   .rw[Vq e,<-ih o];split
    .rw[zrf,Vq e]
    .rfl
def zvN{l:List Rc}(h:zr8 l)(y:Rc)(i:Nat):zrZ (zse l y) i=if y.item=i then mrg (some y) (zrZ l i) else zrZ l i:=by
 unfold zse;by_cases e:y.item=i
 .rw[vD e,e];cases hg:zrZ l i with
  |none=>dsimp only[mrg];rw[zsb i h,vD e]
  | some x=>
    dsimp only[mrg];split
    .rw[zsb i h,vD e]
    .exact hg
 .rw[Vq e];split
  .split
   .rw[zsb i h,Vq e]
   .rfl
  .rw[zsb i h,Vq e]
def zuZ:∀{m l:List Rc}(_:zr8 m)(_:zr8 l)(i:Nat),zrZ (m.foldl zse l) i=mrg (zrZ m i) (zrZ l i)
 |[],l,_,_,i=>rfl
 | y::m,l,hm,hl,i=>by
   obtain⟨j,o⟩:=V3.1 hm;rw[WI,zuZ o (zsy hl) i,zvN hl,zrf];by_cases e:y.item=i
   .rw[vD e,vD e,ztk λz hz=>by have:=j z hz;omega];rfl
   .rw[Vq e,Vq e]
def zvy:∀{l m:List Rc},zr8 l->zr8 m->(∀i,zrZ l i=zrZ m i)->l=m
 |[],[],_,_,_=>rfl
 |[],y::m,_,_,h=>by have:=h y.item;rw[zrf,vD rfl]at this;cases this
 |x::l,[],_,_,h=>by have:=h x.item;rw[zrf,vD rfl]at this;cases this
 | x::l,y::m,hl,hm,h=>by
   obtain⟨u,A⟩:=V3.1 hl;obtain⟨w,B⟩:=V3.1 hm;have e:x=y:=by
    have j:=h x.item;have o:=h y.item;rw[zrf,vD rfl,zrf]at j;rw[zrf,zrf,vD rfl]at o;by_cases e:y.item=x.item
    .rw[vD e]at j;exact wA j
    .rw[Vq e]at j;rw[Vq λh=>e h.symm]at o;have:=w x (zsB j.symm).1;have:=u y (zsB o).1;omega
   subst e;refine W8 _ (zvy A B λi=>?_);have q:=h i;rw[zrf,zrf]at q;by_cases e:x.item=i
   .rw[ztk λz hz=>by have:=u z hz;omega,ztk λz hz=>by have:=w z hz;omega]
   .rwa[Vq e,Vq e]at q
structure PyI(S:Nat->Rs):Prop where
 i1:∀a,a<3->∀x∈(S a).recs,hasK (S a).known x.item x.rep x.ctr=true
 i2:∀a,a<3->∀i r c,i<zk->c<zk->hasK (S a).known i r c=true->∃x,zrZ (S a).recs i=some x/\leR c r x
 i3:∀a b,a<3->b<3->∀x∈(S a).recs,∀y∈(S b).recs,x.item=y.item->x.rep=y.rep->x.ctr=y.ctr->x=y
 i4:∀a b,a<3->b<3->∀x∈(S a).recs,x.rep=(S b).id->x.ctr<(S b).next
 nm:∀a,a<3->(S a).id=10*a
def PyI.zero:PyI S0:=⟨λ_ _ x j=>by simp[S0]at j,λa _ i r c _ _ h=>by simp[S0,zcY]at h,λ_ _ _ _ x j=>by simp[S0]at j,λ_ _ _ _ x j=>by simp[S0]at j,λ_ _=>rfl⟩
section
variable {C:Q9}{R E I:List Nat}{n:Nat}{S:Nat->Rs}
def zvR{s f:Rs}{items:List Iv}(j:zr8 f.recs)(i:Nat):zrZ (zs0 f s.known items) i=(zrZ f.recs i).filter λx=>mem items x.item && !hasK s.known x.item x.rep x.ctr:=ztg j _ i
def zvO{f:Rs}{k:List Fg}{items:List Iv}(j:zr8 f.recs):zr8 (zs0 f k items):=List.Pairwise.filter _ j
def zu6{s f:Rs}{items:List Iv}(e:Env25 C R E I)(hs:Ok25 C R E I n s)(u:Ok25 C R E I n f)(hi:Nrm items){i r c:Nat}(j:i<zk)(o:c<zk):hasK (ztt s f items).known i r c=(hasK s.known i r c || (mem items i && hasK f.known i r c)):=by show hasK (vh zn s.known (znF f.known items)) i r c=_;rw[zcZ rfl hs.k.r (zn1 u.k.r hi).right j o,zof u.k.r hi j o];rfl
def zu4{s f:Rs}{items:List Iv}(hs:zr8 s.recs)(j:zr8 f.recs)(i:Nat):zrZ (ztt s f items).recs i=mrg ((zrZ f.recs i).filter λx=>mem items x.item && !hasK s.known x.item x.rep x.ctr) (zrZ s.recs i):=by rw[<-zvR j];exact zuZ (zvO j) hs i
def zsH(a:Nat)(s:Rs):ztC S a s a=s:=vD rfl
def zs6{a b:Nat}(s:Rs)(h:b≠a):ztC S a s b=S b:=Vq h
def zty{c r:Nat}{x y:Rc}(h:leR c r x)(j:leR x.ctr x.rep y):leR c r y:=by unfold leR at *;omega
def ztn(e:Env25 C R E I)(u:n<=26){s:Rs}(h:Ok25 C R E I n s){x:Rc}(o:x∈s.recs):x.item<zk/\x.ctr<zk:=by have j:=h.x x o;have:=zw;exact⟨(e.m _ j.1).1,a8⟩
def zu2{x y:Rc}(h:¬zs7 y x=true):leR y.ctr y.rep x:=by rw[zuE]at h;exact Classical.not_not.1 h
def zv1{x y:Rc}(h:zs7 y x=true):leR x.ctr x.rep y:=by rw[zuE]at h;unfold leR at *;omega
def PyI.pull(h:PyI S)(e:Env25 C R E I)(hn:n<=26)(ok:OkS C R E I n S){a b:Nat}(U:a<3)(hb:b<3){items:List Iv}(hi:Nrm items):PyI (ztC S a (ztt (S a) (S b) items)):=by
 have V:=ok a U;have X:=ok b hb;have Z:∀x∈(ztt (S a) (S b) items).recs,(x∈(S b).recs/\mem items x.item=true)\/x∈(S a).recs:=λx u=>by refine((zsa (m:=zs0 (S b) (S a).known items) V.a).2 x u).imp (λh=>?_) id;obtain⟨F,B⟩:=Wh.1 h;simp at B;exact⟨F,B.1⟩
 have hk:∀i r c,i<zk->c<zk->hasK (ztt (S a) (S b) items).known i r c=(hasK (S a).known i r c || (mem items i && hasK (S b).known i r c)):=λi r c F B=>zu6 e V X hi F B;have Y:∀i,zrZ (ztt (S a) (S b) items).recs i=mrg ((zrZ (S b).recs i).filter λx=>mem items x.item && !hasK (S a).known x.item x.rep x.ctr) (zrZ (S a).recs i):=λi=>zu4 V.a X.a i;have L:(ztt (S a) (S b) items).id=(S a).id/\(ztt (S a) (S b) items).next=(S a).next:=⟨rfl,rfl⟩;generalize ztt (S a) (S b) items=T at Z hk Y L;have hu:∀k,k<3->∀x∈(ztC S a T k).recs,∃j,j<3/\x∈(S j).recs:=λk o x u=>by
  by_cases e:k=a
  .rw[e,zsH]at u;rcases Z x u with h|h
   .exact⟨b,hb,h.1⟩
   .exact⟨a,U,h⟩
  .rw[zs6 _ e]at u;exact⟨k,o,u⟩
 have J:∀k,(ztC S a T k).id=(S k).id/\(ztC S a T k).next=(S k).next:=λk=>by
  by_cases e:k=a
  .rw[e,zsH];exact L
  .rw[zs6 _ e];exact⟨rfl,rfl⟩
 -- a record of a stays,or a later one stands in its place
 have N:∀i x,zrZ (S a).recs i=some x->∃y,zrZ T.recs i=some y/\leR x.ctr x.rep y:=λi x u=>by
  rw[Y,u];cases (zrZ (S b).recs i).filter λx=>mem items x.item && !hasK (S a).known x.item x.rep x.ctr with
  |none=>exact⟨x,rfl,.inr ⟨rfl,Zp _⟩⟩
  | some y=>
    dsimp only[mrg];split
    .rename_i hl;exact⟨y,rfl,zv1 hl⟩
    .exact⟨x,rfl,.inr ⟨rfl,Zp _⟩⟩
 refine⟨λk o x u=>?_,λk o i r c F B G=>?_,λk l o H x u y hy=>?_,λk l o H x u hr=>?_,λk o=>?_⟩
 .by_cases K:k=a
  .rw[K,zsH]at u⊢;rcases Z x u with⟨w,A⟩|w
   .obtain⟨l1,l2⟩:=ztn e hn X w;rw[hk _ _ _ l1 l2,h.i1 b hb x w,A];simp
   .obtain⟨l1,l2⟩:=ztn e hn V w;rw[hk _ _ _ l1 l2,h.i1 a U x w];rfl
  .rw[zs6 _ K]at u⊢;exact h.i1 k o x u
 .by_cases K:k=a
  .rw[K,zsH]at G⊢;rw[hk _ _ _ F B]at G;have M:∀r c,c<zk->hasK (S a).known i r c=true->∃x,zrZ T.recs i=some x/\leR c r x:=λr c B O=>by obtain⟨x,w,A⟩:=h.i2 a U i r c F B O;obtain⟨y,P,Q⟩:=N i x w;exact⟨y,P,zty A Q⟩
   by_cases O:hasK (S a).known i r c=true
   .exact M r c B O
   ·rw [um]at O;rw[O]at G;simp at G;obtain⟨x,w,A⟩:=h.i2 b hb i r c F B G.2;obtain⟨m1,m2⟩:=zsB w;by_cases u:hasK (S a).known i x.rep x.ctr=true
    .obtain⟨y,P,Q⟩:=M _ _ (ztn e hn X m1).2 u;exact⟨y,P,zty A Q⟩
    .rw[um]at u;rw[Y,w];have hf:(Option.some x).filter (λx=>mem items x.item && !hasK (S a).known x.item x.rep x.ctr)=some x:=(by simp[Option.filter,m2,G.1,u]);rw[hf];cases hga:zrZ (S a).recs i with
     |none=>exact⟨x,rfl,A⟩
     | some y=>
       dsimp only[mrg];split
       .exact⟨x,rfl,A⟩
       .rename_i hl;exact⟨y,rfl,zty A (zu2 hl)⟩
  .rw[zs6 _ K]at G⊢;exact h.i2 k o i r c F B G
 .obtain⟨k',w,A⟩:=hu k o x u;obtain⟨l',P,Q⟩:=hu l H y hy;exact h.i3 k' l' w P x A y Q
 .obtain⟨k',w,A⟩:=hu k o x u;rw[(J l).1]at hr;rw[(J l).2];exact h.i4 k' l w H x A hr
 .rw[(J k).1];exact h.nm k o
def zvS{i r c:Nat}(hi:i<zk)(y:r<zk)(w:c<zk){i' r' c':Nat}:hasK (znP i r c) i' r' c'=true↔i'=i/\r'=r/\c'=c:=by
 rw[km];have e:∀x,mem (zT (zl9 r c) x) c'=true↔x=r/\c'=c:=λx=>by
  rw[zoE y w];by_cases e:r=x
  .rw[vD e];simp[mem];omega
  .rw[Vq e];simp[mem];omega
 constructor
 .rintro⟨f,j,o,u⟩;simp only[znP,wD]at j;subst j;have:=(e r').1 u;simp[mem]at o;omega
 .rintro⟨rfl,rfl,rfl⟩;exact⟨_,by simp[znP];rfl,by simp[mem],(e _).2 ⟨rfl,rfl⟩⟩
def PyI.put(h:PyI S)(e:Env25 C R E I)(hn:n<=25)(ok:OkS C R E I n S){a:Nat}(J:a<3){i:Nat}{v:ByteArray}(hi:i∈I):PyI (ztC S a (ztM (S a) i v)):=by
 have hM:=zw;have O:=ok a J;have ac:=(e.m i hi).1;have ae:=O.ctr i;have Z:(S a).next<=zsq (S a) i:=by
  unfold zsq;split
  .split<;>omega
  .omega
 have ab:∀x,zrZ (S a).recs i=some x->x.ctr<zsq (S a) i:=λx u=>by
  unfold zsq;rw[u];dsimp only;split<;>omega
 obtain⟨c,V⟩:=xm (zsq (S a) i);rw[<-V]at ae Z ab;have G:(ztM (S a) i v).recs=zr4 (S a).recs ⟨i,(S a).id,c,v⟩:=by rw[V];rfl
 have hk:∀B P F,B<zk->F<zk->hasK (ztM (S a) i v).known B P F=(hasK (S a).known B P F || hasK (znP i (S a).id c) B P F):=λB P F Q U=>by rw[V];show hasK (vh zn _ _) B P F=_;rw[zcZ rfl O.k.r (ztd e hi O.i.1 O.i.2 (by rw[<-V];omega)).r Q U];rfl
 have K:(ztM (S a) i v).id=(S a).id/\(ztM (S a) i v).next=c+1:=⟨rfl,by rw[V];rfl⟩;generalize ztM (S a) i v=T at G hk K;clear V;have H:=λB P F=>zvS (c:=c) (i':=B) (r':=P) (c':=F) ac O.i.1 a8;have hg:∀k,zrZ T.recs k=if i=k then some ⟨i,(S a).id,c,v⟩ else zrZ (S a).recs k:=λk=>by rw[G,zsb k O.a]
 have X:∀k,k<3->∀x∈(ztC S a T k).recs,x=⟨i,(S a).id,c,v⟩\/x∈(S k).recs:=λk j x u=>by
  by_cases e:k=a
  .rw[e,zsH,G]at u;rw[e];exact zr3 u
  .rw[zs6 _ e]at u;exact .inr u
 have ad:∀k,(ztC S a T k).id=(S k).id:=λk=>by
  by_cases e:k=a
  .rw[e,zsH];exact K.1
  .rw[zs6 _ e]
 have L:∀k,k<3->∀y∈(S k).recs,y.rep=(S a).id->y.ctr<c:=λk j y hy M=>Vm (h.i4 k a j J y hy M) Z;refine⟨λk j x u=>?_,λk j B r F Q U A=>?_,λk l j w x u y hy q1 q2 q3=>?_,λk l j w x u M=>?_,λk j=>?_⟩
 .by_cases Y:k=a
  .rw[Y]at u⊢;have o:=X a J x u;rw[zsH];rcases o with rfl|o
   .rw[hk _ _ _ ac (by dsimp only;omega),(H _ _ _).2 ⟨rfl,rfl,rfl⟩];simp
   .obtain⟨l1,l2⟩:=ztn e a8 O o;rw[hk _ _ _ l1 l2,h.i1 a J x o];rfl
  .rw[zs6 _ Y]at u⊢;exact h.i1 k j x u
 .by_cases Y:k=a
  .rw[Y,zsH]at A⊢;rw[hk _ _ _ Q U,WH]at A;rw[hg];by_cases ei:i=B
   .rw[vD ei];refine⟨_,rfl,?_⟩;rcases A with A|A
    .obtain⟨x,q1,q2⟩:=h.i2 a J B r F Q U A;rw[<-ei]at q1;have:=ab x q1;unfold leR at *;dsimp only;omega
    .obtain⟨_,rfl,rfl⟩:=(H _ _ _).1 A;exact .inr ⟨rfl,Zp _⟩
   .rw[Vq ei];rcases A with A|A
    .exact h.i2 a J B r F Q U A
    .exact absurd ((H _ _ _).1 A).1.symm ei
  .rw[zs6 _ Y]at A⊢;exact h.i2 k j B r F Q U A
 .rcases X k j x u with rfl|o
  .rcases X l w y hy with rfl|N
   .rfl
   .have:=L l w y N q2.symm;dsimp only at q3;omega
  .rcases X l w y hy with rfl|N
   .have:=L k j x o q2;dsimp only at q3;omega
   .exact h.i3 k l j w x o y N q1 q2 q3
 .rw[ad]at M;by_cases el:l=a
  .rw[el]at M⊢;rw[zsH,K.2];rcases X k j x u with rfl|o
   .exact Uy _
   .have:=L k j x o M;omega
  .rw[zs6 _ el];rcases X k j x u with rfl|o
   .have e1:=h.nm l w;have e2:=h.nm a J;dsimp only at M;omega
   .exact h.i4 k l j w x o M
 .rw[ad];exact h.nm k j
def PyI.step(h:PyI S)(e:Env25 C R E I)(j:n<=25)(ok:OkS C R E I n S){o:Opn}(ho:OpE E I o):PyI (zsY S o):=by
 unfold zsY;split
 .exact h.put e j ok (zs5 _) ho.2.2.2.1
 .split
  .rename_i hc;exact h.pull e a8 ok (zs5 _) (zs5 _) (ho.ed hc).1
  .exact h
def zvz{items:List Iv}{i:Nat}(j:mem items i=true){l:List Rc}:(zrZ l i).filter (λx=>mem items x.item)=zrZ l i:=by
 cases h:zrZ l i with
 |none=>rfl
 |some x=>simp[Option.filter,(zsB h).2,j]
def zvA{items:List Iv}{i:Nat}(j:mem items i=false){l:List Rc}:(zrZ l i).filter (λx=>mem items x.item)=none:=by
 cases h:zrZ l i with
 |none=>rfl
 |some x=>simp[Option.filter,(zsB h).2,j]
def PyI.both(h:PyI S)(e:Env25 C R E I)(J:n<=26)(ok:OkS C R E I n S){items:List Iv}(hi:Nrm items):
 (ztt (S 0) (S 1) items).recs.filter (λx=>mem items x.item)=(ztt (S 1) (ztt (S 0) (S 1) items) items).recs.filter λx=>mem items x.item:=by
 have G:=ok 0 b8;have H:=ok 1 b8;have K:zr8 (ztt (S 0) (S 1) items).recs:=(zsa G.a).1;have N:zr8 (ztt (S 1) (ztt (S 0) (S 1) items) items).recs:=(zsa H.a).1;refine zvy (List.Pairwise.filter _ K) (List.Pairwise.filter _ N) λi=>?_;rw[ztg K,ztg N];by_cases w:mem items i=true
 ·rw [zvz w,zvz w];have Q:=h.pull e J ok (a:=0) (b:=1) b8 b8 hi;have A:∀y,zrZ (S 1).recs i=some y->∃z,zrZ (ztt (S 0) (S 1) items).recs i=some z/\leR y.ctr y.rep z:=λy o=>by
   obtain⟨j,u⟩:=zsB o;obtain⟨O,P⟩:=ztn e J H j;have:=Q.i2 0 b8 i y.rep y.ctr (u▸O) P (by
    rw[zsH,zu6 e G H hi (u▸O) P,w,<-u,h.i1 1 b8 y j];simp)
   rwa[zsH]at this
  have B:∀z,zrZ (ztt (S 0) (S 1) items).recs i=some z->∀y,zrZ (S 1).recs i=some y->leR z.ctr z.rep y->z=y:=λz hz y o T=>by
   obtain⟨U,e1,e2⟩:=A y o;rw[hz]at e1;cases e1;obtain⟨j,u⟩:=zsB o;obtain⟨M,z2⟩:=zsB hz;have ev:z.rep=y.rep/\z.ctr=y.ctr:=(by unfold leR at *;omega);rcases (zsa (m:=zs0 (S 1) (S 0).known items) G.a).2 z M with q|q
   .exact h.i3 1 1 b8 b8 z (Wh.1 q).1 y j (by rw[z2,u]) ev.1 ev.2
   .exact h.i3 0 1 b8 b8 z q y j (by rw[z2,u]) ev.1 ev.2
  rw[zu4 H.a K];cases hz:zrZ (ztt (S 0) (S 1) items).recs i with
  | none=>
    cases o:zrZ (S 1).recs i with
    |none=>rfl
    |some y=>obtain⟨z,e1,_⟩:=A y o;rw[hz]at e1;cases e1
  | some z=>
    obtain⟨M,z2⟩:=zsB hz;by_cases hk:hasK (S 1).known z.item z.rep z.ctr=true
    .have L:(Option.some z).filter (λx=>mem items x.item && !hasK (S 1).known x.item x.rep x.ctr)=none:=(by simp[Option.filter,hk]);have F:z.item<zk/\z.ctr<zk:=by
      rcases (zsa (m:=zs0 (S 1) (S 0).known items) G.a).2 z M with q|q
      .exact ztn e J H (Wh.1 q).1
      .exact ztn e J G q
     obtain⟨y,j,u⟩:=h.i2 1 b8 _ _ _ F.1 F.2 hk;rw[z2]at j;rw[L,j,B z hz y j u];rfl
    .rw[um]at hk;have L:(Option.some z).filter (λx=>mem items x.item && !hasK (S 1).known x.item x.rep x.ctr)=some z:=by rw[z2]at hk;simp[Option.filter,hk,z2,w]
     rw[L];cases o:zrZ (S 1).recs i with
     |none=>rfl
     | some y=>
       dsimp only[mrg];split
       .rfl
       .rename_i hl;rw[B z hz y o (zu2 hl)]
 .rw[um]at w;rw[zvA w,zvA w]
end
end
section
attribute [-go_sem] z7
def zs1:∀(l:List Rc),(l.flatMap rcs).length=l.length*4
 |[]=>rfl
 |x::l=>by rw[We,wj,zs1 l];simp[rcs];omega
def zsZ{D:Qk}{w:World}{v:Value}{l:List Rc}(h:Dat D w v (lp l)):
 ∃a c,v=.slice a l.length c/\l.length<=c/\c<=maxLen/\(l≠[]->∃g A,a=some ⟨g,A,none⟩/\∀i u,(l.flatMap rcs)[i]?=some u->D g (A+i)/\w.cell? ⟨g,A+i,none⟩=some u):=by
 unfold lp at h;generalize L:l.map rcc=es at h;cases h with
 | sl a cap sz es o b A u hc hz hm ha hsz hd hx=>
   have M:es.length=l.length:=(by rw[<-L];simp);have g:∀i (h:i<l.length),es[i]?=some (rcc l[i]):=λi h=>(by rw[<-L];exact xo h);refine⟨a,cap,by rw[M],a8,hm,λI=>?_⟩;have F:0<l.length:=wV.2 I;obtain rfl:4=sz:=hsz 0 _ (g 0 F);have H:es≠[]:=(by intro e;subst e;simp at M;omega);refine⟨b,A,ha H,λi v B=>?_⟩;have E:=zs1 l;have hi:=(Zw.1 B).1;rw[E]at hi;have J:i/4<l.length:=a8;have e1:i=i/4*4+i%4:=a8;have K:i%4<4:=a8;rw[e1,zsD J K]at B;have C:=hd i a8;rw[e1]at C⊢;refine⟨C.1,?_⟩;rw[C.2.1];have y:∀j p,j=i%4->(rcc l[i/4])[j]?=some (.v p)->u (i/4*4+j)=p:=λj p _ N=>(hx _ _ _ _ (g _ J) N).v_inv;match G:i%4,K with
   |0,_=>rw[G]at B y;rw[y 0 _ rfl rfl];exact B
   |1,_=>rw[G]at B y;rw[y 1 _ rfl rfl];exact B
   |2,_=>rw[G]at B y;rw[y 2 _ rfl rfl];exact B
   |3,_=>rw[G]at B y;rw[y 3 _ rfl rfl];exact B
def ztV{D:Qk}{w:World}{v:Value}{l:List Opn}(h:Dat D w v (opp l)):
 ∃a c,v=.slice a l.length c/\l.length<=c/\∀j (A:j<l.length),∃g y ia B,a=some ⟨g,y,none⟩/\D g y/\w.cell? ⟨g,y+j*5,none⟩=some (.int .i64 l[j].who)/\w.cell? ⟨g,y+(j*5+1),none⟩=some (.int .i64 l[j].from_)/\w.cell? ⟨g,y+(j*5+2),none⟩=some (.int .u64 l[j].item) /\
  w.cell? ⟨g,y+(j*5+3),none⟩=some (.string l[j].val)/\w.cell? ⟨g,y+(j*5+4),none⟩=some (.slice ia l[j].items.length B)/\Dat D w (.slice ia l[j].items.length B) (rg l[j].items):=by
 unfold opp at h;generalize F:l.map opc=es at h;cases h with
 |sl a cap sz es o b y u hc hz hm ha hsz hd hx=>have G:es.length=l.length:=(by rw[<-F];simp);have g:∀i (h:i<l.length),es[i]?=some (opc l[i]):=λi h=>(by rw[<-F];exact xo h);refine⟨a,cap,by rw[G],a8,λj A=>?_⟩;obtain rfl:5=sz:=hsz 0 _ (g 0 a8);have E:es≠[]:=(by intro e;subst e;simp at G;omega);have d0:=(hx _ _ 0 _ (g j A) rfl).v_inv;have M:=(hx _ _ 1 _ (g j A) rfl).v_inv;have N:=(hx _ _ 2 _ (g j A) rfl).v_inv;have O:=(hx _ _ 3 _ (g j A) rfl).v_inv;have C:Dat D w (u (j*5+4)) (rg l[j].items):=hx _ _ 4 _ (g j A) rfl;have H:=(hd (j*5+0) a8).2.1;have I:=(hd (j*5+1) a8).2.1;have J:=(hd (j*5+2) a8).2.1;have K:=(hd (j*5+3) a8).2.1;have L:=(hd (j*5+4) a8).2.1;rw[d0]at H;rw[M]at I;rw[N]at J;rw[O]at K;obtain⟨ia,B,e4⟩:=zK C;rw[e4]at L C;exact⟨b,y,ia,B,ha E,by simpa using (hd 0 a8).1,H,I,J,K,L,C⟩
def zup{e:TypeId}{z:Value}{size y:Nat}(G:(xT.info? e).map (λi=>(i.zero,i.size,i.bytes))=some (some z,size,y))(hzs:z.cells.size=size)(N:0<size)(L:y<=40)(w:World)(t T:TypeId)(ht:xT.underlying t=some (.slice e))(base:Nat)(v:Value)(n:Nat)(U:List Value)(A:w.ownsRow base e size v n U)(I:Option Addr)(m c:Nat)(o:List Value)(hl:o.length=m*size)
 (C:(m=0/\I=none)\/∃a,I=some a/\∀j u,o[j]?=some u->w.cell? (a.add j)=some u) (Z:∀u∈o,u.oneCell'=true) (K:n+m<=17179869) (B:base<=w.heap.size) :
 ∃E H,(Builtin.append_ #[t,t] T #[v,.slice I m c]).run xT w=.ok E H/\H.ownsRow base e size E (n+m) (U++o)/\w.grownBy H v.ownBlock/\(E.ownBlock=v.ownBlock\/E.ownBlock=some w.heap.size):=by
 obtain⟨V,F,O,Q,S⟩:=tP G;rcases C with⟨rfl,rfl⟩|⟨a,rfl,hn⟩
 .obtain rfl:o=[]:=wW.1 a8;obtain⟨J,cp,rfl,M⟩:∃J cp,v=.slice J n cp/\n<=cp:=by
   rcases A.2 with⟨rfl,rfl⟩|⟨g,X,Y,rfl,_,_,h,_⟩
   .exact⟨none,0,rfl,Zp _⟩
   .exact⟨_,_,rfl,h⟩
  exact⟨_,w,ve w t T _ V ht F J n cp c M,dJ A,jW _ _,.inl rfl⟩
 .obtain⟨E,H,r1,r2,r3,_,r5⟩:=Tf (P:=xT) w base t T e V _ size y ht F O Q S hzs N v n U A a m c o hl hn Z c8 (V1 (UO (V1 K (Zp 17179869)) L) a8) B;exact⟨E,H,r1,r2,r3,r5⟩
def zvQ:(xT.info? 76).map (λi=>(i.zero,i.size,i.bytes))=some (some zR,4,40):=dK
def ztc{G:Array Oper}{o:Oper}{a:Act}{w:World}{K:Act->World->Prop}{Q:Exit->Act->World->Prop}{E:Prop}(s x:Operand)(t:TypeId)(L:o.guard=none)
 (ho:o.op=.call { callee:=.builtin .append,args:=#[s,x],argTypes:=#[t,t] }) (ht:xT.underlying t=some (.slice 76)) (base:Nat) (v:Value) (n:Nat) (M:List Value) (hs:a.eval s=v) (F:w.ownsRow base 76 4 v n M)
 (I:Option Addr) (m c:Nat) (y:List Value) (X:a.eval x=.slice I m c) (T:y.length=m*4) (B:(m=0/\I=none)\/∃a,I=some a/\∀j u,y[j]?=some u->w.cell? (a.add j)=some u) (N:∀u∈y,u.oneCell'=true) (J:n+m<=17179869) (A:base<=w.heap.size)
 (h:∀C H,H.ownsRow base 76 4 C (n+m) (M++y)->w.grownBy H v.ownBlock->(C.ownBlock=v.ownBlock\/C.ownBlock=some w.heap.size)->K (a.put o.dst C) H):if Region.wanted o (yielded G a.tmps)=true then Oper.wp xT o a w K Q else E:=by
 have V:Region.wanted o (yielded G a.tmps)=true:=by simp[Region.wanted,L]
 rw[vD V];obtain⟨C,H,U,O,P,S⟩:=zup zvQ rfl b8 (Zp _) w t o.type ht base v n M F I m c y T B N J A;unfold Oper.wp execOp;simp only[ho,resolve,invoke,builtin,tE,tH,tx,uf,Wx,W6,hs,X,U];exact h C H O P S
def zvY{w:World}{base A:Nat}(j:base<=A)(h:w.heap[A]?=some (.cells #[] 76 (0,0))):w.ownsRow base 76 4 (.slice (some ⟨A,0,none⟩) 0 0) 0 []:=⟨rfl,.inr ⟨A,0,#[],rfl,j,h,Zp _,X4 _,rfl,rfl⟩⟩
def bc1{w o:World}{a:Addr}{v:Value}(h:Below w.heap.size w o)(j:w.cell? a=some v):o.cell? a=some v:=(tl (h.block _ (tp w a j))).trans j
def zvj{w:World}{base size n:Nat}{e:TypeId}{v:Value}{u:List Value}(h:w.ownsRow base e size v n u):∃a n c,v=.slice a n c:=by
 rcases h.2 with⟨h,_⟩|⟨g,j,o,h,_⟩
 .exact⟨none,0,0,h⟩
 .exact⟨_,_,_,h⟩
def ztq:∀(l:List Rc)(q:Nat),(l.drop q).flatMap rcs=(l.flatMap rcs).drop (q*4)
 |l,0=>b6
 |[],q+1=>b6
 |x::l,q+1=>by rw[wM,ztq l q,We,show (q+1)*4=(rcs x).length+q*4 by simp[rcs];omega,List.drop_length_add_append]
def ztr:∀(l:List Rc)(q:Nat),(l.take q).flatMap rcs=(l.flatMap rcs).take (q*4)
 |l,0=>b6
 |[],q+1=>b6
 |x::l,q+1=>by rw[wO,We,ztr l q,We,show (q+1)*4=(rcs x).length+q*4 by simp[rcs];omega,List.take_length_add_append]
def ztU{w:World}{o:Nat}{vt:TypeId}{l:List Value}(h:w.heap[o]?=some (.cells l.toArray vt (0,0))):∀j u,l[j]?=some u->w.cell? ((⟨o,0,none⟩:Addr).add j)=some u:=λj u y=>by rw[zh,wn];exact(zW h j u (dJ y)).1
def ztl:∀{l:List Rc}{x:Rc}{k:Nat}(hk:k<=l.length),(∀j (h:j<l.length),j<k->l[j].item<x.item)->(∀h:k<l.length,¬l[k].item<x.item)->zr4 l x=l.take k++([x]++if h:k<l.length then (if l[k].item=x.item then l.drop (k+1) else l.drop k) else [])
 |[],x,k,hk,_,_=>by obtain rfl:k=0:=(dJ hk);rfl
 | y::l,x,0,_,_,h2=>by
   have:=h2 b6;simp only[ux]at this;rw[zr4,Vq this];by_cases e:y.item=x.item<;>simp[e]
 |y::l,x,k+1,hk,h1,h2=>by have o:=h1 0 b6 a8;simp only[ux]at o;rw[zr4,vD o,ztl (l:=l) (x:=x) (k:=k) (dJ hk) (λj u w=>h1 (j+1) (dJ u) a8) (λh=>h2 (dJ h))];simp
def smO(o:Opn):Bool:=decide (o.val.size<=100) && decide (o.items.length<=10)
def zwj{D:Qk}{w:World}{l:List Opn}{ia:Option Addr}{ic:Nat}(hd:Dat D w (.slice ia l.length ic) (opp l))(ac:l.length<=9223372036854775807)(O:∀o∈l,o.val.size<=maxLen/\o.items.length<=9223372036854775807):
 Calls xT 6 #[.slice ia l.length ic] w λe w'=>e=.returned (.bool (ztR l))/\Below w.heap.size w w':=by
 obtain⟨a,c,ev,hc,B⟩:=ztV hd;obtain⟨rfl,rfl⟩:ia=a/\ic=c:=dJ ev
 obtain⟨n,Q⟩:=xm (l.length);have M:∀W,Below w.heap.size w W->∀j,j<n->∃o∈l,o=l.getD j default/\∃g u S T,ia=some ⟨g,u,none⟩/\W.cell? ⟨g,u+j*5,none⟩=some (.int .i64 o.who)/\W.cell? ⟨g,u+j*5+1,none⟩=some (.int .i64 o.from_)/\W.cell? ⟨g,u+j*5+2,none⟩=some (.int .u64 o.item) /\
  W.cell? ⟨g,u+j*5+3,none⟩=some (.string o.val)/\W.cell? ⟨g,u+j*5+4,none⟩=some (.slice S o.items.length T):=λW L j hj=>by
  have A:j<l.length:=a8;obtain⟨g,u,S,T,h1,_,h2,h3,h4,h5,h6,_⟩:=B j A;refine⟨l[j],Y1 A,by rw[vw,Zv A];rfl,g,u,S,T,h1,bc0 L h2,?_,?_,?_,?_⟩
  .rw[Wt];exact bc0 L h3
  .rw[Wt];exact bc0 L h4
  .rw[Wt];exact bc0 L h5
  .rw[Wt];exact bc0 L h6
 have N:ztR l=(decide (n<=25) && l.all smO):=by rw[Q];rfl
 have V:=qL N;have U:=qL M;have X:=qL O;have HN:=qL Q;rw[<-Q]at hc ac⊢;clear N M O B hd Q ev;go_enter func6,ntmps6
 by_cases ad:25<n
 .have K:(25:Int)<n:=a8
  go_wp2;go_ret;refine⟨?_,tr _ _⟩;rw[V.o,WB a8];rfl
 .have K:¬(25:Int)<n:=a8
  go_wp2_with fail
  go_loopg [10] n (λg x wr=>∃j,j<=n/\g=n-j/\x=.int .i64 j/\Below w.heap.size w wr/\(l.take j).all smO=true)
  case atStart=>exact⟨0,X4 _,rfl,rfl,tr _ _,rfl⟩
  case round=>
   obtain⟨j,hj,rfl,rfl,H,F⟩:=hrel;have y:=qL H;have C:=qL F;by_cases I:j<n
   .obtain⟨o,ho,P,g,u,S,T,rfl,c0,c1,c2,c3,c4⟩:=U.o wr H j I;have ab:=X.o o ho;have Y:=qL P;have HO:=qL ho;unfold maxLen at ab;clear H F P ho;have G:smO o=false->ztR l=false:=λh=>by
     rw[V.o];have:l.all smO=false:=by rw[List.all_eq_false];exact⟨o,HO.o,by rw[h];decide⟩
     rw[this,Bool.and_false]
    have E:=qL G;clear G;by_cases h1:100<o.val.size
    .have J:(100:Int)<o.val.size:=a8
     go_wp2_with fail
     go_ret;exact⟨by rw[E.o (by unfold smO;rw[WB a8];rfl)];rfl,y.o.alloc y.o.size _⟩
    .by_cases h2:10<o.items.length
     .have J:¬(100:Int)<o.val.size:=a8;have Z:(10:Int)<o.items.length:=a8
      go_wp2_with fail
      go_ret;exact⟨by rw[E.o (by unfold smO;rw[WB (p:=o.items.length<=10) a8,Bool.and_false])];rfl,y.o.alloc y.o.size _⟩
     .have J:¬(100:Int)<o.val.size:=a8;have Z:¬(10:Int)<o.items.length:=a8
      go_wp2_with fail
      go_roundg (n-(j+1));case measure=>omega
      case rel=>refine⟨j+1,I,rfl,rfl,y.o.alloc y.o.size _,?_⟩;have A:j<l.length:=(by rw[<-HN.o];exact I);have e:l[j]=o:=(by rw[Y.o,vw,Zv A];rfl);rw[vj A,List.all_append,C.o,e];simp[smO];omega
   .obtain rfl:j=n:=a8
    go_wp2_with fail
    go_ret;refine⟨?_,y.o⟩;have h:=C.o;rw[wm (by rw[HN.o];exact Zp _)]at h;rw[V.o,h,uO a8];rfl
end
def zqB(z:Value)(n:Nat):(madeCells #[z,z] (n*2)).toList=List.replicate (n*2) z:=by
 apply Uo;intro j;by_cases u:j<n*2
 .have o:j%2=0\/j%2=1:=a8;rcases o with o|o<;>simp[madeCells,u,o]
 .simp[madeCells,u]
def OutG.zeros{C:Qk}{mb base g n:Nat}{w:World}(ho:w.ownsRow base 59 2 (.slice (some ⟨g,0,none⟩) n n) n (List.replicate (n*2) (.slice none 0 0))):OutG C mb base w (.slice (some ⟨g,0,none⟩) n n) (List.replicate n ⟨[],[]⟩):=by
 refine⟨List.replicate (n*2) (.slice none 0 0),⟨by rw[U9];exact ho,b6,λu o=>by rw[List.eq_of_mem_replicate o];rfl⟩,λi hi=>?_⟩;have j:i<n:=dJ hi
 refine⟨.slice none 0 0,.slice none 0 0,by rw[UY,vD a8],by rw[UY,vD a8],?_,?_⟩
 .rw[U3];exact zog
 .rw[U3];exact zog
def OutG.setW{C:Qk}{G base g:Nat}{w:World}{y:Nat}{o:List Fg}{l:List En}{a0:Value}{i n:Nat}(T:o.length=n)(h:OutG C G base w (.slice (some ⟨g,0,none⟩) n y) o)(hi:i<o.length)(M:Dat (DX C G w (.slice (some ⟨g,0,none⟩) n y)) w a0 (vp l))(N:0<y):
 OutG C G base (w.setCell ⟨g,i*2+1,none⟩ a0) (.slice (some ⟨g,0,none⟩) n y) (o.take i++⟨o[i].items,l⟩::o.drop (i+1)):=by
 subst T;obtain⟨X,H,P⟩:=h;have A:(o.take i++(⟨o[i].items,l⟩:Fg)::o.drop (i+1)).length=o.length:=a9
 obtain⟨V,Y⟩:=H.1.stored (i*2+1) a0;have I:(Value.slice (some ⟨g,0,none⟩) o.length y).ownBlock=some g:=by
  cases y with
  |zero=>omega
  |succ c=>rfl
 have B:∀{x:Value}{p:PV},Dat (DX C G w (.slice (some ⟨g,0,none⟩) o.length y)) w x p->Dat (DX C G (w.setCell ⟨g,i*2+1,none⟩ a0) (.slice (some ⟨g,0,none⟩) o.length y)) (w.setCell ⟨g,i*2+1,none⟩ a0) x p:=λh=>
  DX.keep h b6 λk hk K=>tw _ _ _ _ λe=>K (by rw[I];exact W8 some e.symm)
 refine⟨X.set (i*2+1) a0,⟨by rw[A];exact V,by rw[A,Ui];exact H.2.1,λu L=>?_⟩,λj O=>?_⟩
 .rcases Ue L with L|rfl
  .exact H.2.2 u L
  .exact zeu M
 .have J:j<o.length:=(by rw[A]at O;exact O);obtain⟨a,b,c,d,e,k⟩:=P j J;have U:=H.2.1;by_cases F:j=i
  .subst F;have E:(o.take j++(⟨o[j].items,l⟩:Fg)::o.drop (j+1))[j]=⟨o[j].items,l⟩:=by rw[Wu (by rw[Wc];exact UG _ _)];simp[WZ (uy hi)]
   rw[E];refine⟨a,a0,?_,?_,B e,B M⟩
   .rw[wU a8];exact c
   .rw[WM a8]
  .have E:(o.take i++(⟨o[i].items,l⟩:Fg)::o.drop (i+1))[j]=o[j]:=by
    rcases Nat.lt_or_gt_of_ne F with S|Q
    .rw[ut a9,uZ]
    .rw[Wu a9];obtain⟨m,rfl⟩:∃m,j=i+1+m:=⟨j-(i+1),a8⟩;simp only[Wc,WZ (uy hi),show i+1+m-i=m+1 by omega,WN,Us]
   rw[E];refine⟨a,b,?_,?_,B e,B k⟩
   .rw[wU a8];exact c
   .rw[wU a8];exact d
def OutG.put{C:Qk}{A base g n:Nat}{w:World}{j:Nat}{o:List Fg}{f:Fg}{B E:Value}{i:Nat}(M:o.length=n)(h:OutG C A base w (.slice (some ⟨g,0,none⟩) n j) o)(hi:i<n)(L:Dat (DX C A w (.slice (some ⟨g,0,none⟩) n j)) w B (rg f.items))(hb:Dat (DX C A w (.slice (some ⟨g,0,none⟩) n j)) w E (vp f.vec))(u:0<j):
 OutG C A base ((w.setCell ⟨g,i*2,none⟩ B).setCell ⟨g,i*2+1,none⟩ E) (.slice (some ⟨g,0,none⟩) n j) (o.take i++f::o.drop (i+1)):=by
 subst M;have G:(Value.slice (some ⟨g,0,none⟩) o.length j).ownBlock=some g:=by
  cases j with
  |zero=>omega
  |succ c=>rfl
 have F:Dat (DX C A (w.setCell ⟨g,i*2,none⟩ B) (.slice (some ⟨g,0,none⟩) o.length j)) (w.setCell ⟨g,i*2,none⟩ B) E (vp f.vec):=
  DX.keep hb b6 λk hk H=>tw _ _ _ _ λe=>H (by rw[G];exact W8 some e.symm)
 have K:=h.set hi L u;have y:(o.take i++(⟨f.items,o[i].vec⟩:Fg)::o.drop (i+1)).length=o.length:=a9
 have I:=OutG.setW (i:=i) (l:=f.vec) (a0:=E) y K (by rw[y];exact hi) F u;have ht:(o.take i).length=i:=a9
 have e1:(o.take i++(⟨f.items,o[i].vec⟩:Fg)::o.drop (i+1)).take i=o.take i:=by rw[Wp a8,wm a8]
 have e2:(o.take i++(⟨f.items,o[i].vec⟩:Fg)::o.drop (i+1)).drop (i+1)=o.drop (i+1):=by rw[UA,ht,wE a8,show i+1-i=1 by omega];rfl
 have J:(o.take i++(⟨f.items,o[i].vec⟩:Fg)::o.drop (i+1))[i]'(by rw[y];exact hi)=⟨f.items,o[i].vec⟩:=by rw[Wu a8];simp[ht]
 rw[e1,e2,J]at I;exact I
def zoL(k:List Fg)(items:List Iv)(j:Nat):List Fg:=(zl5 k items).take j++List.replicate (k.length-j) ⟨[],[]⟩
def zqq{k:List Fg}{items:List Iv}{j:Nat}(o:j<=k.length):(zoL k items j).length=k.length:=by have:(zl5 k items).length=k.length:=ww _;unfold zoL;rw[wj,Wc,U9];omega
def zp6(k:List Fg)(items:List Iv):zoL k items 0=List.replicate k.length ⟨[],[]⟩:=rfl
def zqp(k:List Fg)(items:List Iv):zoL k items k.length=zl5 k items:=by have:(zl5 k items).length=k.length:=ww _;unfold zoL;rw[wm a8,UM];simp
def zp5{k:List Fg}{items:List Iv}{j:Nat}(u:j<k.length):zoL k items (j+1)=(zoL k items j).take j++⟨qy fMeet k[j].items items,k[j].vec⟩::(zoL k items j).drop (j+1):=by
 have w:(zl5 k items).length=k.length:=ww _;have ht:((zl5 k items).take j).length=j:=by rw[Wc];omega
 have o:(zl5 k items)[j]'a8=⟨qy fMeet k[j].items items,k[j].vec⟩:=UB _;unfold zoL;rw[vj a8,o,wQ,Wp a8,wm (l:=(zl5 k items).take j) a8];congr 1;rw[UA,wE a8,ht,List.drop_replicate,show k.length-j-(j+1-j)=k.length-(j+1) by omega];rfl
end Go.Proofs.YtmpnbdhadjfbhaaGreatDoor
