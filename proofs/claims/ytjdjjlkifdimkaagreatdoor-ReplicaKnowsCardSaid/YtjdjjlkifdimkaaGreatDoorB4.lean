import Derived.Test.YtjdjjlkifdimkaaGreatDoorB3
set_option maxHeartbeats 16000000
set_option linter.all false
namespace Go.Proofs.YtjdjjlkifdimkaaGreatDoor
def Tx:=@Go.wpListIn_append_own
def TS:=@Go.ownsRow_succ
def TX:=@Go.CallsIn.inRound
open Go.Proofs.Tryz
open Go.Proofs.Tryz renaming prog->xt
section
open Go.RowKit
attribute [local go_sem] Oper.semAt_some
def zk0:Option Nat->Value
 |some y=>.tuple #[.int .u64 (y:Int),.bool true]
 |none=>.tuple #[.int .u64 0,.bool false]
def zdu{l:List Iv}{k x:Nat}(h:k<l.length):ye (l.drop k) x=if x<l[k].lo then some l[k].lo else if l[k].hi+1<zk/\x<l[k].hi+1 then some (l[k].hi+1) else ye (l.drop (k+1)) x:=by rw[Vq h];rfl
def zdq(l:List Iv)(v:Value)(x:Nat)(w:World)(S:RdR 0 w.heap.size w v l):
 Calls xt 185 #[v,.int .u64 x] w λe H=>e=.returned (zk0 (ye l x))/\Below w.heap.size w H:=by
 obtain⟨a,O,rfl,T,K,N⟩:=S;unfold maxLen at K;go_enter func185,ntmps185
 go_wp2_with fail
 go_loopw [12] (λi wr=>∃k:Nat,k<=l.length/\i=.int .i64 k/\qA (ye l x=ye (l.drop k) x)/\Below w.heap.size w wr) (λi _=>l.length-(intOf i).toNat)
 case atStart=>exact⟨0,X4 _,rfl,rfl,tq _ _⟩
 case round=>
  obtain⟨k,hk,rfl,o,A⟩:=hrel;by_cases B:k<l.length
  .obtain⟨b,F,rfl,_,hb,j⟩:=N (by intro e;subst e;simp at B);obtain⟨I,J,P,Q⟩:=j k B;have hs:=zdu (x:=x) B;obtain⟨lo,E⟩:=xm (l[k].lo);obtain⟨hi,C⟩:=xm (l[k].hi);rw[<-E]at I P hs;rw[<-C]at J Q hs;clear E C j N;have V:wr.cell? ⟨b,F+k*2,none⟩=some (.int .u64 lo):=(A.cell (p:=⟨b,_,none⟩) hb).trans I;have X:wr.cell? ⟨b,F+k*2+1,none⟩=some (.int .u64 hi):=(A.cell (p:=⟨b,_,none⟩) hb).trans J;clear I J;have y:=A.size;by_cases G:x<lo
   .have u:qA (ye l x=some lo):=(by rw[o.o,hs,vj G];rfl);clear hs o
    go_wp2;go_ret2;rw[u.o];exact⟨rfl,A.alloc y _⟩
   .by_cases M:hi+1<zk
    .by_cases U:x<hi+1
     .have u:qA (ye l x=some (hi+1)):=(by rw[o.o,hs,vD G,vj ⟨M,U⟩];rfl);clear hs o
      go_wp2_with (go_at_call 51;with_reducible refine(kO _ _ M).mono ?_;rintro e H ⟨rfl,rfl⟩)
      go_ret2
      rw[u.o];exact⟨by simp[zk0],A.alloc y _⟩
     .have u:qA (ye l x=ye (l.drop (k+1)) x):=(by rw[o.o,hs,vD G,vD a9];rfl);clear hs o
      go_wp2_with (go_at_call 51;with_reducible refine(kO _ _ M).mono ?_;rintro e H ⟨rfl,rfl⟩)
      go_roundw
      case rel=>exact⟨k+1,a9,by go_num,u,A.alloc y _⟩
      case measure=>simp[intOf];omega
    .have u:qA (ye l x=ye (l.drop (k+1)) x):=(by rw[o.o,hs,vD G,vD a9];rfl);clear hs o;obtain rfl:hi=zk-1:=a9
     go_wp2_with (go_at_call 51;with_reducible refine(V9 _).mono ?_;rintro e H ⟨rfl,rfl⟩)
     go_roundw
     case rel=>exact⟨k+1,a9,by go_num,u,A.alloc y _⟩
     case measure=>simp[intOf];omega
  .have L:k=l.length:=a9;have u:qA (ye l x=none):=(by rw[o.o,L,uM];rfl);clear o
   go_wp2;go_ret2;rw[u.o];exact⟨rfl,A⟩
def Vs(l:List Iv)(v:Value)(x:Nat)(w:World)(o:RdR 0 w.heap.size w v l):
 Calls xt 185 #[v,.int .u64 x] w λe j=>∃(n:Nat) (m:Bool),e=.returned (.tuple #[.int .u64 n,.bool m])/\qA (ye l x=if m=true then some n else none)/\Below w.heap.size w j:=
 (zdq l v x w o).mono λe j ⟨he,hb⟩=>by
   cases h:ye l x with
   |none=>exact⟨0,false,by rw[he,h];rfl,rfl,hb⟩
   |some y=>exact⟨y,true,by rw[he,h];rfl,rfl,hb⟩
def Kq(p q:Bool)(w:World):Calls xt 130 #[.agg #[.bool p,.bool q]] w λe j=>e=.returned (.bool (p || q))/\Below w.heap.size w j:=by
 cases p<;>cases q <;>
  (go_enter func130,ntmps130
   go_wp2;go_ret;exact⟨rfl,(tq _ _).alloc (Zp _) _⟩)
def zbP(p q:Bool)(w:World):Calls xt 108 #[.agg #[.bool p,.bool q]] w λe j=>e=.returned (.bool (p && q))/\Below w.heap.size w j:=by
 cases p<;>cases q <;>
  (go_enter func108,ntmps108
   go_wp2;go_ret;exact⟨rfl,(tq _ _).alloc (Zp _) _⟩)
def Kp(p q:Bool)(w:World):Calls xt 165 #[.agg #[.bool p,.bool q]] w λe j=>e=.returned (.bool (p && !q))/\Below w.heap.size w j:=by
 cases p<;>cases q <;>
  (go_enter func165,ntmps165
   go_wp2;go_ret;exact⟨rfl,(tq _ _).alloc (Zp _) _⟩)
def Xi(j o:Option Addr)(A B u y:Nat)(w:World):Calls xt 150 #[.slice j A u,.slice o B y] w λe C=>
 e=.returned (.func (.func 184) #[] #[.pointer (some ⟨w.heap.size,0,none⟩),.pointer (some ⟨w.heap.size+1,0,none⟩)]) /\
  C=(w.alloc (.cells #[.slice j A u] 24)).alloc (.cells #[.slice o B y] 24):=by
 go_enter func150,ntmps150
 go_wp2;go_ret;exact⟨rfl,rfl⟩
def Suf(a j:List Iv)(x:Nat):Prop:=∃d,a=d++j/\∀s∈d,s.hi<x
def Suf.refl(a:List Iv)(x:Nat):Suf a a x:=⟨[],rfl,λ_ h=>by cases h⟩
def Suf.mono{a j:List Iv}{x y:Nat}(h:Suf a j x)(w:x<=y):Suf a j y:=by obtain⟨d,o,u⟩:=h;exact⟨d,o,λs hs=>by have:=u s hs;omega⟩
def Suf.drop{a j:List Iv}{s:Iv}{x:Nat}(h:Suf a (s::j) x)(hs:s.hi<x):Suf a j x:=by obtain⟨d,o,u⟩:=h;exact⟨d++[s],by simp[o],λt ht=>by simp at ht;rcases ht with ht|rfl;exact u t ht;exact hs⟩
def Suf.mem_eq{a j:List Iv}{x z:Nat}(h:Suf a j x)(hz:x<=z):mem a z=mem j z:=by
 obtain⟨d,rfl,o⟩:=h;rw[yd];have:mem d z=false:=by
  cases e:mem d z with
  |false=>rfl
  |true=>obtain⟨s,hs,_,u⟩:=qf.1 e;have:=o s hs;omega
 rw[this,uC]
def Suf.nrm{a j:List Iv}{x n:Nat}(o:NF n a)(h:Suf a j x):NF n j:=by
 obtain⟨d,rfl,u⟩:=h;clear u;induction d generalizing n with
 |nil=>exact o
 |cons s d ih=>exact ih o.tail
def Suf.nxt_eq{a j:List Iv}{x z n:Nat}(u:NF n a)(h:Suf a j x)(hz:x<=z):ye a z=ye j z:=by
 obtain⟨d,rfl,o⟩:=h;induction d generalizing n with
 |nil=>rfl
 |cons s d ih=>rw[yb,zdt (by have:=o s b7;omega) u.2.1];exact ih (λt ht=>o t (by simp[ht])) u.2.2.2
def Qg{j:List Iv}{s:Iv}{x n:Nat}(o:NF n (s::j))(h:x<=s.hi):mem (s::j) x=decide (s.lo<=x):=by rw[mem_cons,o.2.2.2.mem_lt a9];simp[h]
def za1(x:Iv×Bool×Bool):Array Value:=#[.agg #[.int .u64 x.1.lo,.int .u64 x.1.hi],.agg #[.bool x.2.1,.bool x.2.2]]
structure PInv(a b:List Iv)(Ba Bb n0:Nat)(w:World)(x:Nat)(a' b':List Iv)(va vb:Value):Prop where
 bxa:Boxed w Ba 24 va
 bxb:Boxed w Bb 24 vb
 ra:RdR 0 n0 w va a'
 rb:RdR 0 n0 w vb b'
 sa:Suf a a' x
 sb:Suf b b' x
def PInv.at{a b:List Iv}{j o n0:Nat}{S:Nat->Prop}{w G:World}{x y:Nat}{A B:List Iv}{E F:Value}(h:PInv a b j o n0 w x A B E F)(hk:Keep S w G)(H:n0<=w.heap.size)(hs:∀k,k<n0\/k=j\/k=o->¬S k)(C:x<=y):
 PInv a b j o n0 G y A B E F:=
 ⟨hk.boxed h.bxa (hs _ (.inr (.inl rfl))),hk.boxed h.bxb (hs _ (.inr (.inr rfl))),h.ra.keep (Zp _) (Zp _) λb _ u=>hk.block b a9 (hs b (.inl u)),
  h.rb.keep (Zp _) (Zp _) λb _ u=>hk.block b a9 (hs b (.inl u)),h.sa.mono C,h.sb.mono C⟩
def PInv.setA{a b:List Iv}{o y u:Nat}{w:World}{x:Nat}{s:Iv}{A C:List Iv}{H j E:Value}(h:PInv a b o y u w x (s::A) C H E)(I:u<=o)(B:o≠y)(hs:s.hi<x)(G:RdR 0 u w j A):
 PInv a b o y u (w.setCell ⟨o,0,none⟩ j) x A C j E:=
 ⟨h.bxa.set j,h.bxb.other B.symm j,G.keep (Zp _) (Zp _) λb _ F=>tv _ _ _ _ (by show b≠o;omega),
  h.rb.keep (Zp _) (Zp _) λb _ F=>tv _ _ _ _ (by show b≠o;omega),h.sa.drop hs,h.sb⟩
def PInv.setB{a b:List Iv}{y o u:Nat}{w:World}{x:Nat}{s:Iv}{C A:List Iv}{E H j:Value}(h:PInv a b y o u w x C (s::A) E H)(I:u<=o)(B:y≠o)(hs:s.hi<x)(G:RdR 0 u w j A):
 PInv a b y o u (w.setCell ⟨o,0,none⟩ j) x C A E j:=
 ⟨h.bxa.other B j,h.bxb.set j,h.ra.keep (Zp _) (Zp _) λb _ F=>tv _ _ _ _ (by show b≠o;omega),
  G.keep (Zp _) (Zp _) λb _ F=>tv _ _ _ _ (by show b≠o;omega),h.sa,h.sb.drop hs⟩
def Fit(j:List Iv)(x:Nat):Prop:=∀s r,j=s::r->x<=s.hi
def RdR.tail{hi:Nat}{w:World}{u:Option Addr}{n o:Nat}{s:Iv}{l:List Iv}(h:RdR 0 hi w (.slice u n o) (s::l)):
 ∃b j,u=some ⟨b,j,none⟩/\n=l.length+1/\b<hi/\rdIv w b j s/\l.length+1<=o/\o<=maxLen/\RdR 0 hi w (.slice (if o=1 then some ⟨b,j,none⟩ else some ⟨b,j+2,none⟩) l.length (o-1)) l:=by
 obtain⟨a,c,F,y,C,E⟩:=h;obtain⟨rfl,rfl,rfl⟩:u=a/\n=(s::l).length/\o=c:=dL F
 obtain⟨b,j,rfl,_,hb,B⟩:=E b7;refine⟨b,j,rfl,rfl,hb,(by have:=B 0 b7;rwa[Nat.zero_mul,ud]at this),dL y,C,?_⟩;refine⟨_,_,rfl,by simp at y;omega,a9,λA=>?_⟩;have G:0<l.length:=wU.2 A;refine⟨b,j+2,by rw[vD (by simp at y;omega)],X4 _,hb,λi hi=>?_⟩;have:=B (i+1) b6;rw[show j+(i+1)*2=j+2+i*2 from by omega]at this;simpa using this
set_option maxRecDepth 100000 in
def J7(a b:List Iv)(bz bA:Value)(T U n0:Nat)(W0:World)(ha:Nrm a)(hb:Nrm b)(aO:T≠U)(bh:n0<=T)(bi:n0<=U)
 (bg:PInv a b T U n0 W0 0 a b bz bA) :
 zbY xt 184 #[.pointer (some ⟨T,0,none⟩),.pointer (some ⟨U,0,none⟩)] za1 (λk=>k=T\/k=U) (λk=>k<n0\/k=T\/k=U) (yO a b) W0:=by
 intro l J Jx hJ bl hY h0;refine callsIn_wide.2 ?_;show Calls xt 184 #[.func (.yield l) #[] #[],.pointer (some ⟨T,0,none⟩),.pointer (some ⟨U,0,none⟩)] W0 _;have HJ:=qL hJ;have bH:=qL bl;have HY:=qL hY;clear hJ bl hY;go_enter func184,ntmps184
 go_wp2_with fail
 go_loopg [4] zk (λg x wr=>∃(o f:Nat) (a' b':List Iv) (va vb:Value) (pre:List (Iv×Bool×Bool)),x=.int .u64 o/\o<zk/\g=zk-o/\PInv a b T U n0 wr o a' b' va vb/\qA (yO a b=pre++QU a b f o)/\zk<=f+o/\J pre wr)
 case atStart=>exact⟨0,zk,a,b,bz,bA,[],rfl,xM,rfl,bg,rfl,a9,h0⟩
 case round=>
  obtain⟨o,f,a',b',va,vb,pre,rfl,hx,rfl,y,V,hf,j⟩:=hrel;clear h0 bg
  go_upto_block 2 with fail
  go_cut [] (λwc=>∃a2 O,PInv a b T U n0 wc o a2 b' O vb/\Fit a2 o/\J pre wc)
  case first=>
   go_wp2_with fail
   go_loopg [] a'.length (λg wl=>∃(a2:List Iv) (O:Value),g=a2.length/\PInv a b T U n0 wl o a2 b' O vb/\J pre wl)
   case atStart=>exact⟨a',va,rfl,y,j⟩
   case round=>
    clear y j;obtain⟨a2,O,rfl,y,j⟩:=hrel;have bC:=y.bxa.cell;have bE:=y.bxa.frozen;have F:=y.ra;cases a2 with
    | nil=>
      obtain⟨ad,az,rfl,_⟩:=F
      go_wp2
      go_meet
      exact⟨[],_,y,(λ_ _ e=>by cases e),j⟩
    | cons s r=>
      have aH:=F;obtain⟨ad,az,rfl,_⟩:=aH;obtain⟨bb,bF,rfl,_,bB,hs,bp,aV,aG⟩:=F.tail;obtain⟨c1,c2,s1,s2⟩:=hs;have HT:=qL aG;clear F aG;unfold maxLen at aV;by_cases aD:s.hi<o
      .by_cases h1:az=1
       .subst h1;obtain rfl:r=[]:=wG a9
        go_wp2;go_roundg 0;case measure=>simp
        case rel=>exact⟨[],_,rfl,y.setA bh aO aD (by have:=HT.o;simpa using this),HJ.o _ _ _ j ((Keep.refl _ _).setCell (p:=⟨T,0,none⟩) (λ_=>.inl rfl) _)⟩
       .go_wp2;go_roundg r.length;case measure=>simp
        case rel=>exact⟨r,_,rfl,y.setA bh aO aD (by have:=HT.o;rw[vD h1]at this;simpa using this),HJ.o _ _ _ j ((Keep.refl _ _).setCell (p:=⟨T,0,none⟩) (λ_=>.inl rfl) _)⟩
      .go_wp2
       go_meet
       exact⟨s::r,_,y,(λ_ _ e=>by cases e;omega),j⟩
  case rest=>
   clear y j;obtain⟨a2,O,y,Q,j⟩:=hcut
   go_upto_block 4 with fail
   go_cut [] (λwc=>∃b2 Y,PInv a b T U n0 wc o a2 b2 O Y/\Fit b2 o/\J pre wc)
   case first=>
    go_wp2_with fail
    go_loopg [] b'.length (λg wl=>∃(b2:List Iv) (Y:Value),g=b2.length/\PInv a b T U n0 wl o a2 b2 O Y/\J pre wl)
    case atStart=>exact⟨b',vb,rfl,y,j⟩
    case round=>
     clear y j;obtain⟨b2,Y,rfl,y,j⟩:=hrel;have bC:=y.bxb.cell;have bE:=y.bxb.frozen;have F:=y.rb;cases b2 with
     | nil=>
       obtain⟨ad,az,rfl,_⟩:=F
       go_wp2
       go_meet
       exact⟨[],_,y,(λ_ _ e=>by cases e),j⟩
     | cons s r=>
       have aH:=F;obtain⟨ad,az,rfl,_⟩:=aH;obtain⟨bb,bF,rfl,_,bB,hs,bp,aV,aG⟩:=F.tail;obtain⟨c1,c2,s1,s2⟩:=hs;have HT:=qL aG;clear F aG;unfold maxLen at aV;by_cases aD:s.hi<o
       .by_cases h1:az=1
        .subst h1;obtain rfl:r=[]:=wG a9
         go_wp2;go_roundg 0;case measure=>simp
         case rel=>exact⟨[],_,rfl,y.setB bi aO aD (by have:=HT.o;simpa using this),HJ.o _ _ _ j ((Keep.refl _ _).setCell (p:=⟨U,0,none⟩) (λ_=>.inr rfl) _)⟩
        .go_wp2;go_roundg r.length;case measure=>simp
         case rel=>exact⟨r,_,rfl,y.setB bi aO aD (by have:=HT.o;rw[vD h1]at this;simpa using this),HJ.o _ _ _ j ((Keep.refl _ _).setCell (p:=⟨U,0,none⟩) (λ_=>.inr rfl) _)⟩
       .go_wp2
        go_meet
        exact⟨s::r,_,y,(λ_ _ e=>by cases e;omega),j⟩
   case rest=>
    clear y j;obtain⟨b2,Y,y,L,j⟩:=hcut;go_upto_region 5 with fail
    go_cut [5] (λs5 wd=>∃Bs,s5=.pointer (some ⟨Bs,0,none⟩)/\PInv a b T U n0 wd o a2 b2 O Y/\J pre wd/\wd.cell? ⟨Bs,0,none⟩=some (.bool (mem a o))/\wd.cell? ⟨Bs,1,none⟩=some (.bool (mem b o))/\n0<=wd.heap.size)
    case first=>
     have aL:=y.sa.mem_eq (Zp _);have ae:=y.sb.mem_eq (Zp _);have aW:=y.sa.nrm ha;have aw:=y.sb.nrm hb;have ca:=y.bxa.cell;have cb:=y.bxb.cell;have aq:=y.bxa.lt;have ar:=y.bxb.lt;have F:=y.ra;have af:=y.rb;cases a2 with
     | nil=>
       obtain⟨ad,ab,rfl,_⟩:=F;have ax:=qL aL;clear aL aW;cases b2 with
       | nil=>
         obtain⟨bd,G,rfl,_⟩:=af;have ag:=qL ae;clear ae aw;have N:n0<=wc.heap.size:=a9;have HP:=qL (And.intro y (And.intro j (And.intro Q L)));clear y Q L aq ar hf;refine Kg (Sw:=qe) 24 99 (λZ=>Z.cell? ⟨T,0,none⟩=some (.slice ad 0 ab)/\Z.cell? ⟨U,0,none⟩=some (.slice bd 0 G)) dM dM rfl ⟨ca,cb⟩ ?_;simp only[wO,wY];repeat (first
          |(refine zev ?_ rfl (λa w A _ X=>?_) ?_;rotate_left;(simp[Rds,zA,lk,Op.operands,Call.operands,RdEq]at X;go_simp;with_reducible rfl);simp only[Y1,yb])
          |(refine jI rfl ?_ ?_;(first|exact .inl (zG rfl rfl)|exact .inr (zG rfl rfl));simp only[Y1,yb])
          |(refine V6 rfl ?_ ?_ (λa w A _ X=>?_) ?_;exact(zG rfl rfl);rotate_left;(simp[Rds,zA,lk,Op.operands,Call.operands,RdEq]at X;go_simp;with_reducible rfl);simp only[Y1,yb]))
         refine V7 (λu w=>∃B,u=.pointer (some ⟨B,0,none⟩)/\w.heap[B]?=some (.cells #[.bool false,.bool false] 186 (0,0))/\wc.heap.size<=B) (λu w Z ⟨B,h1,h2,h3⟩ hk=>⟨B,h1,hk.obj h2 id,h3⟩) rfl ?_ ?_
         .intro a w A hk X K hK;have HK:=qL hK;clear hK;go_simp;exact HK.o _ _ ((Keep.refl _ _).alloc _) ⟨((Keep.refl qe w).alloc _).cell_some A.1 id,((Keep.refl qe w).alloc _).cell_some A.2 id⟩ ⟨w.heap.size,rfl,tl w _,hk.size⟩
         simp only[Y1,yb];intro w A hk;simp only[finG,WQ];rintro u ⟨B,rfl,H,I⟩;simp only[wM,Wh];have c0:w.cell? ⟨B,0,none⟩=some (.bool false):=(by simp[World.cell?,H]);have c1:w.cell? ⟨B,1,none⟩=some (.bool false):=(by simp[World.cell?,H]);have f0:w.frozen? ⟨B,0,none⟩=false:=(by simp[World.frozen?,H]);have f1:w.frozen? ⟨B,1,none⟩=false:=(by simp[World.frozen?,H]);clear H A;simp only[Act.put,ww,wR,wS]
         go_wp2
         go_meet
         have E:∀u v,Keep qe wc ((w.setCell ⟨B,0,none⟩ u).setCell ⟨B,1,none⟩ v):=λu v=>((((Keep.refl qe wc).drew).trans hk).setCell (p:=⟨B,0,none⟩) (λh=>by exact absurd h (dL I)) _).setCell (p:=⟨B,1,none⟩) (λh=>by exact absurd h (dL I)) _;exact⟨B,rfl,HP.o.1.at (E _ _) N (λ_ _=>id) (Zp _),HJ.o _ _ _ HP.o.2.1 ((E _ _).mono λ_ _ h=>h.elim),by rw[ax.o];go_simp,by rw[ag.o];go_simp,VS N (E _ _).size⟩
       | cons t r2=>
         have bc:=af;obtain⟨bd,G,rfl,_⟩:=bc;obtain⟨bb,ob,rfl,_,_,aF,aU,aB,_⟩:=af.tail;have ag:=qL (ae.trans (Qg aw (L _ _ rfl)));have ct:=aF.1;unfold maxLen at aB;clear ae aw af aF;have N:n0<=wc.heap.size:=a9;have HP:=qL (And.intro y (And.intro j (And.intro Q L)));clear y Q L aq ar hf;refine Kg (Sw:=qe) 24 99 (λZ=>Z.cell? ⟨T,0,none⟩=some (.slice ad 0 ab)/\Z.cell? ⟨U,0,none⟩=some (.slice (some ⟨bb,ob,none⟩) (r2.length+1) G)/\Z.cell? ⟨bb,ob,none⟩=some (.int .u64 t.lo)) dM dM rfl ⟨ca,cb,ct⟩ ?_;simp only[wO,wY];repeat (first
          |(refine zev ?_ rfl (λa w A _ X=>?_) ?_;rotate_left;(simp[Rds,zA,lk,Op.operands,Call.operands,RdEq]at X;go_simp;with_reducible rfl);simp only[Y1,yb])
          |(refine jI rfl ?_ ?_;(first|exact .inl (zG rfl rfl)|exact .inr (zG rfl rfl));simp only[Y1,yb])
          |(refine V6 rfl ?_ ?_ (λa w A _ X=>?_) ?_;exact(zG rfl rfl);rotate_left;(simp[Rds,zA,lk,Op.operands,Call.operands,RdEq]at X;go_simp;with_reducible rfl);simp only[Y1,yb]))
         refine V7 (λu w=>∃B,u=.pointer (some ⟨B,0,none⟩)/\w.heap[B]?=some (.cells #[.bool false,.bool false] 186 (0,0))/\wc.heap.size<=B) (λu w Z ⟨B,h1,h2,h3⟩ hk=>⟨B,h1,hk.obj h2 id,h3⟩) rfl ?_ ?_
         .intro a w A hk X K hK;have HK:=qL hK;clear hK;go_simp;exact HK.o _ _ ((Keep.refl _ _).alloc _) ⟨((Keep.refl qe w).alloc _).cell_some A.1 id,((Keep.refl qe w).alloc _).cell_some A.2.1 id,((Keep.refl qe w).alloc _).cell_some A.2.2 id⟩ ⟨w.heap.size,rfl,tl w _,hk.size⟩
         simp only[Y1,yb];intro w A hk;simp only[finG,WQ];rintro u ⟨B,rfl,H,I⟩;simp only[wM,Wh];have c0:w.cell? ⟨B,0,none⟩=some (.bool false):=(by simp[World.cell?,H]);have c1:w.cell? ⟨B,1,none⟩=some (.bool false):=(by simp[World.cell?,H]);have f0:w.frozen? ⟨B,0,none⟩=false:=(by simp[World.frozen?,H]);have f1:w.frozen? ⟨B,1,none⟩=false:=(by simp[World.frozen?,H]);clear H A;simp only[Act.put,ww,wR,wS]
         go_wp2
         go_meet
         have E:∀u v,Keep qe wc ((w.setCell ⟨B,0,none⟩ u).setCell ⟨B,1,none⟩ v):=λu v=>((((Keep.refl qe wc).drew).trans hk).setCell (p:=⟨B,0,none⟩) (λh=>by exact absurd h (dL I)) _).setCell (p:=⟨B,1,none⟩) (λh=>by exact absurd h (dL I)) _;exact⟨B,rfl,HP.o.1.at (E _ _) N (λ_ _=>id) (Zp _),HJ.o _ _ _ HP.o.2.1 ((E _ _).mono λ_ _ h=>h.elim),by rw[ax.o];go_simp,by rw[ag.o];go_simp,VS N (E _ _).size⟩
     | cons s r1=>
       have aH:=F;obtain⟨ad,ab,rfl,_⟩:=aH;obtain⟨ba,oa,rfl,_,_,bw,bD,bq,_⟩:=F.tail;have ax:=qL (aL.trans (Qg aW (Q _ _ rfl)));have cs:=bw.1;unfold maxLen at bq;clear aL aW F bw;cases b2 with
       | nil=>
         obtain⟨bd,G,rfl,_⟩:=af;have ag:=qL ae;clear ae aw;have N:n0<=wc.heap.size:=a9;have HP:=qL (And.intro y (And.intro j (And.intro Q L)));clear y Q L aq ar hf;refine Kg (Sw:=qe) 24 99 (λZ=>Z.cell? ⟨T,0,none⟩=some (.slice (some ⟨ba,oa,none⟩) (r1.length+1) ab)/\Z.cell? ⟨U,0,none⟩=some (.slice bd 0 G)/\Z.cell? ⟨ba,oa,none⟩=some (.int .u64 s.lo)) dM dM rfl ⟨ca,cb,cs⟩ ?_;simp only[wO,wY];repeat (first
          |(refine zev ?_ rfl (λa w A _ X=>?_) ?_;rotate_left;(simp[Rds,zA,lk,Op.operands,Call.operands,RdEq]at X;go_simp;with_reducible rfl);simp only[Y1,yb])
          |(refine jI rfl ?_ ?_;(first|exact .inl (zG rfl rfl)|exact .inr (zG rfl rfl));simp only[Y1,yb])
          |(refine V6 rfl ?_ ?_ (λa w A _ X=>?_) ?_;exact(zG rfl rfl);rotate_left;(simp[Rds,zA,lk,Op.operands,Call.operands,RdEq]at X;go_simp;with_reducible rfl);simp only[Y1,yb]))
         refine V7 (λu w=>∃B,u=.pointer (some ⟨B,0,none⟩)/\w.heap[B]?=some (.cells #[.bool false,.bool false] 186 (0,0))/\wc.heap.size<=B) (λu w Z ⟨B,h1,h2,h3⟩ hk=>⟨B,h1,hk.obj h2 id,h3⟩) rfl ?_ ?_
         .intro a w A hk X K hK;have HK:=qL hK;clear hK;go_simp;exact HK.o _ _ ((Keep.refl _ _).alloc _) ⟨((Keep.refl qe w).alloc _).cell_some A.1 id,((Keep.refl qe w).alloc _).cell_some A.2.1 id,((Keep.refl qe w).alloc _).cell_some A.2.2 id⟩ ⟨w.heap.size,rfl,tl w _,hk.size⟩
         simp only[Y1,yb];intro w A hk;simp only[finG,WQ];rintro u ⟨B,rfl,H,I⟩;simp only[wM,Wh];have c0:w.cell? ⟨B,0,none⟩=some (.bool false):=(by simp[World.cell?,H]);have c1:w.cell? ⟨B,1,none⟩=some (.bool false):=(by simp[World.cell?,H]);have f0:w.frozen? ⟨B,0,none⟩=false:=(by simp[World.frozen?,H]);have f1:w.frozen? ⟨B,1,none⟩=false:=(by simp[World.frozen?,H]);clear H A;simp only[Act.put,ww,wR,wS]
         go_wp2
         go_meet
         have E:∀u v,Keep qe wc ((w.setCell ⟨B,0,none⟩ u).setCell ⟨B,1,none⟩ v):=λu v=>((((Keep.refl qe wc).drew).trans hk).setCell (p:=⟨B,0,none⟩) (λh=>by exact absurd h (dL I)) _).setCell (p:=⟨B,1,none⟩) (λh=>by exact absurd h (dL I)) _;exact⟨B,rfl,HP.o.1.at (E _ _) N (λ_ _=>id) (Zp _),HJ.o _ _ _ HP.o.2.1 ((E _ _).mono λ_ _ h=>h.elim),by rw[ax.o];go_simp,by rw[ag.o];go_simp,VS N (E _ _).size⟩
       | cons t r2=>
         have bc:=af;obtain⟨bd,G,rfl,_⟩:=bc;obtain⟨bb,ob,rfl,_,_,aF,aU,aB,_⟩:=af.tail;have ag:=qL (ae.trans (Qg aw (L _ _ rfl)));have ct:=aF.1;unfold maxLen at aB;clear ae aw af aF;have N:n0<=wc.heap.size:=a9;have HP:=qL (And.intro y (And.intro j (And.intro Q L)));clear y Q L aq ar hf;refine Kg (Sw:=qe) 24 99 (λZ=>Z.cell? ⟨T,0,none⟩=some (.slice (some ⟨ba,oa,none⟩) (r1.length+1) ab)/\Z.cell? ⟨U,0,none⟩=some (.slice (some ⟨bb,ob,none⟩) (r2.length+1) G)/\Z.cell? ⟨ba,oa,none⟩=some (.int .u64 s.lo)/\Z.cell? ⟨bb,ob,none⟩=some (.int .u64 t.lo)) dM dM rfl ⟨ca,cb,cs,ct⟩ ?_;simp only[wO,wY];repeat (first
          |(refine zev ?_ rfl (λa w A _ X=>?_) ?_;rotate_left;(simp[Rds,zA,lk,Op.operands,Call.operands,RdEq]at X;go_simp;with_reducible rfl);simp only[Y1,yb])
          |(refine jI rfl ?_ ?_;(first|exact .inl (zG rfl rfl)|exact .inr (zG rfl rfl));simp only[Y1,yb])
          |(refine V6 rfl ?_ ?_ (λa w A _ X=>?_) ?_;exact(zG rfl rfl);rotate_left;(simp[Rds,zA,lk,Op.operands,Call.operands,RdEq]at X;go_simp;with_reducible rfl);simp only[Y1,yb]))
         refine V7 (λu w=>∃B,u=.pointer (some ⟨B,0,none⟩)/\w.heap[B]?=some (.cells #[.bool false,.bool false] 186 (0,0))/\wc.heap.size<=B) (λu w Z ⟨B,h1,h2,h3⟩ hk=>⟨B,h1,hk.obj h2 id,h3⟩) rfl ?_ ?_
         .intro a w A hk X K hK;have HK:=qL hK;clear hK;go_simp;exact HK.o _ _ ((Keep.refl _ _).alloc _) ⟨((Keep.refl qe w).alloc _).cell_some A.1 id,((Keep.refl qe w).alloc _).cell_some A.2.1 id,((Keep.refl qe w).alloc _).cell_some A.2.2.1 id,((Keep.refl qe w).alloc _).cell_some A.2.2.2 id⟩ ⟨w.heap.size,rfl,tl w _,hk.size⟩
         simp only[Y1,yb];intro w A hk;simp only[finG,WQ];rintro u ⟨B,rfl,H,I⟩;simp only[wM,Wh];have c0:w.cell? ⟨B,0,none⟩=some (.bool false):=(by simp[World.cell?,H]);have c1:w.cell? ⟨B,1,none⟩=some (.bool false):=(by simp[World.cell?,H]);have f0:w.frozen? ⟨B,0,none⟩=false:=(by simp[World.frozen?,H]);have f1:w.frozen? ⟨B,1,none⟩=false:=(by simp[World.frozen?,H]);clear H A;simp only[Act.put,ww,wR,wS]
         go_wp2
         go_meet
         have E:∀u v,Keep qe wc ((w.setCell ⟨B,0,none⟩ u).setCell ⟨B,1,none⟩ v):=λu v=>((((Keep.refl qe wc).drew).trans hk).setCell (p:=⟨B,0,none⟩) (λh=>by exact absurd h (dL I)) _).setCell (p:=⟨B,1,none⟩) (λh=>by exact absurd h (dL I)) _;exact⟨B,rfl,HP.o.1.at (E _ _) N (λ_ _=>id) (Zp _),HJ.o _ _ _ HP.o.2.1 ((E _ _).mono λ_ _ h=>h.elim),by rw[ax.o];go_simp,by rw[ag.o];go_simp,VS N (E _ _).size⟩
    case rest=>
     clear y j;obtain⟨Bs,rfl,y,j,am,aE,aM⟩:=hcut;have bt:ye a o=ye a2 o:=y.sa.nxt_eq ha (Zp _);have bu:ye b o=ye b2 o:=y.sb.nxt_eq hb (Zp _);have ah:=qL bt;have ai:=qL bu;clear bt bu Q L;obtain⟨pa,aY⟩:∃p,mem a o=p:=⟨_,rfl⟩;obtain⟨pb,aZ⟩:∃p,mem b o=p:=⟨_,rfl⟩;rw[aY]at am;rw[aZ]at aE;have aR:=qL aY;have aS:=qL aZ;clear aY aZ;have ca:=y.bxa.cell;have bI:=y.bxb.lt;have aC:Bs<wc.heap.size:=tn wc _ am
     go_wp2_with fail
     refine(Vs a2 O o _ (y.ra.keep (Zp _) aM λ_ _ _=>rfl)).mono ?_;rintro e w1 ⟨n1,m1,rfl,aj,au⟩;clear ca;have aJ:=y.at (S:=qe) (Keep.of_below' au (Zp _)) aM (λ_ _=>id) (Zp _);have bj:=HJ.o _ _ _ j (Keep.of_below' au (Zp _));have am:=(au.cell (p:=⟨Bs,0,none⟩) aC).trans am;have aE:=(au.cell (p:=⟨Bs,1,none⟩) aC).trans aE;have aN:n0<=w1.heap.size:=VS aM au.size;have aC:=tn w1 _ am;clear y j au aM;have cb:=aJ.bxb.cell
     go_wp2_with fail
     refine(Vs b2 Y o _ (aJ.rb.keep (Zp _) aN λ_ _ _=>rfl)).mono ?_;rintro e w2 ⟨n2,m2,rfl,ak,av⟩;clear cb;have bn:=aJ.at (S:=qe) (Keep.of_below' av (Zp _)) aN (λ_ _=>id) (Zp _);have aT:=HJ.o _ _ _ bj (Keep.of_below' av (Zp _));have am:=(av.cell (p:=⟨Bs,0,none⟩) aC).trans am;have aE:=(av.cell (p:=⟨Bs,1,none⟩) aC).trans aE;have br:n0<=w2.heap.size:=VS aN av.size;clear aJ bj av aN;go_upto_region 8 with fail
     go_cut [81] (λbG wx=>∃c:Bool,bG=.bool c/\wx=w2/\qA (c=(m2 && (!m1 || decide (n2<n1)))))
     case first=>
      cases m2
      .go_wp2_with fail
       go_meet
       exact⟨false,rfl,rfl,rfl⟩
      .cases m1
       .go_wp2_with fail
        go_meet
        exact⟨true,rfl,rfl,rfl⟩
       .go_wp2_with fail
        go_meet
        exact⟨_,rfl,rfl,by simp[qA]⟩
     case rest=>
      obtain⟨c,rfl,rfl,A⟩:=hcut;cases c with
      | true=>
        have hm:m2=true/\kv (ye a o) (ye b o)=some n2:=by
         have:=A.o;rw[ah.o,ai.o,aj.o,ak.o];cases m2<;>cases m1<;>simp[kv]at this⊢;omega
        obtain⟨rfl,M⟩:=hm;have M:=qL M;have aX:qA (ye b o=some n2):=(by show _=_;rw[ai.o,ak.o];rfl);clear A aj ak ah ai;have aI:o<n2/\n2<zk:=(by have h:=aX.o;exact⟨xr h,vJ hb h⟩);obtain⟨P,rfl⟩:∃P,f=P+1:=⟨f-1,a9⟩;have C:qA (QU a b (P+1) o=(⟨o,n2-1⟩,pa,pb)::QU a b P n2):=by
         show QU a b (P+1) o=_
         conv=>lhs;unfold QU
         rw[M.o,aR.o,aS.o]
        obtain⟨fn,aQ,ao,aP,hy,hR⟩:=HY.o pre (⟨o,n2-1⟩,pa,pb) wc aT ⟨QU a b P n2,by rw[V.o,C.o];simp⟩;dsimp only[za1]at hy;have be:IntKind.u64.wrap ((n2:Int)-1)=((n2-1:Nat):Int):=Zj a9 aI.2;obtain⟨y1,an⟩:=xm (n2-1);rw[<-an]at hy be hR;have ay:=qL an;clear an;go_upto_region 13 with fail;refine(Ts (n:=8)).1 ?_
        gi_wp2
        refine hR.mono ?_;rintro e w3 (⟨rfl,aA,aK⟩|⟨rfl,ac⟩)
        .gi_wp2
         go_wp2;go_roundg (zk-n2);case measure=>omega
         case rel=>exact⟨n2,P,a2,b2,O,Y,pre++[(⟨o,y1⟩,pa,pb)],rfl,aI.2,rfl,bn.at aK br (λk hk h=>h hk) a9,by show yO a b=_;rw[V.o,C.o,ay.o];simp,a9,aA⟩
        .gi_wp2
         go_wp2;refine tx (tJ rfl _ _ _) rfl ?_;exact⟨⟨_,rfl⟩,.inr ⟨pre++[(⟨o,y1⟩,pa,pb)],⟨QU a b P n2,by rw[V.o,C.o,ay.o];simp⟩,ac⟩⟩
      | false=>
        cases m1 with
        | true=>
          have M:qA (kv (ye a o) (ye b o)=some n1):=by
           have:=A.o;show _=_;rw[ah.o,ai.o,aj.o,ak.o];cases m2<;>simp[kv]at this⊢;omega
          have aX:qA (ye a o=some n1):=(by show _=_;rw[ah.o,aj.o];rfl);clear A aj ak ah ai;have aI:o<n1/\n1<zk:=(by have h:=aX.o;exact⟨xr h,vJ ha h⟩);obtain⟨P,rfl⟩:∃P,f=P+1:=⟨f-1,a9⟩;have C:qA (QU a b (P+1) o=(⟨o,n1-1⟩,pa,pb)::QU a b P n1):=by
           show QU a b (P+1) o=_
           conv=>lhs;unfold QU
           rw[M.o,aR.o,aS.o]
          obtain⟨fn,aQ,ao,aP,hy,hR⟩:=HY.o pre (⟨o,n1-1⟩,pa,pb) wc aT ⟨QU a b P n1,by rw[V.o,C.o];simp⟩;dsimp only[za1]at hy;have be:IntKind.u64.wrap ((n1:Int)-1)=((n1-1:Nat):Int):=Zj a9 aI.2;obtain⟨y1,an⟩:=xm (n1-1);rw[<-an]at hy be hR;have ay:=qL an;clear an;go_upto_region 13 with fail;refine(Ts (n:=8)).1 ?_
          gi_wp2
          refine hR.mono ?_;rintro e w3 (⟨rfl,aA,aK⟩|⟨rfl,ac⟩)
          .gi_wp2
           go_wp2;go_roundg (zk-n1);case measure=>omega
           case rel=>exact⟨n1,P,a2,b2,O,Y,pre++[(⟨o,y1⟩,pa,pb)],rfl,aI.2,rfl,bn.at aK br (λk hk h=>h hk) a9,by show yO a b=_;rw[V.o,C.o,ay.o];simp,a9,aA⟩
          .gi_wp2
           go_wp2;refine tx (tJ rfl _ _ _) rfl ?_;exact⟨⟨_,rfl⟩,.inr ⟨pre++[(⟨o,y1⟩,pa,pb)],⟨QU a b P n1,by rw[V.o,C.o,ay.o];simp⟩,ac⟩⟩
        | false=>
          have M:qA (kv (ye a o) (ye b o)=none):=by
           have:=A.o;show _=_;rw[ah.o,ai.o,aj.o,ak.o];cases m2<;>simp[kv]at this⊢
          clear A aj ak ah ai;obtain⟨P,rfl⟩:∃P,f=P+1:=⟨f-1,a9⟩;have C:qA (QU a b (P+1) o=[(⟨o,zk-1⟩,pa,pb)]):=by
           show QU a b (P+1) o=_
           conv=>lhs;unfold QU
           rw[M.o,aR.o,aS.o]
          obtain⟨fn,aQ,ao,aP,hy,hR⟩:=HY.o pre (⟨o,zk-1⟩,pa,pb) wc aT ⟨[],by rw[V.o,C.o];simp⟩;dsimp only[za1]at hy;rw[show ((zk-1:Nat):Int)=18446744073709551615 from rfl]at hy;go_upto_region 13 with fail;refine(Ts (n:=8)).1 ?_
          gi_wp2
          refine hR.mono ?_;rintro e w3 (⟨rfl,aA,aK⟩|⟨rfl,ac⟩)
          .gi_wp2
           go_wp2;refine tx (tJ rfl _ _ _) rfl ?_;exact⟨⟨_,rfl⟩,.inl (by rw[V.o,C.o];exact aA)⟩
          .gi_wp2
           go_wp2;refine tx (tJ rfl _ _ _) rfl ?_;exact⟨⟨_,rfl⟩,.inr ⟨pre++[(⟨o,zk-1⟩,pa,pb)],⟨[],by rw[V.o,C.o];simp⟩,ac⟩⟩
attribute [local go_sem] Oper.semAt_some
def Jd(l:List Iv):List Nat:=l.flatMap λs=>[s.lo,s.hi+1]
def ZY(l:List Iv):(Jd l).length=2*l.length:=by
 induction l with
 |nil=>rfl
 |cons s l ih=>simp[Jd]at ih⊢;omega
def zah{l:List Iv}{x y:Nat}(h:ye l x=some y):y∈Jd l:=by
 induction l with
 |nil=>cases h
 | cons s l ih=>
   unfold ye at h;split at h
   .cases h;simp[Jd]
   .split at h
    .cases h;simp[Jd]
    .have:=ih h;simp[Jd]at this⊢;exact .inr (.inr this)
def YV(l:List Nat)(x:Nat):Nat:=l.countP λy=>decide (x<y)
def ZX(l:List Nat){x y:Nat}(h:x<y):YV l y<=YV l x:=by
 unfold YV;exact List.countP_mono_left λz _ hz=>by simp at hz⊢;omega
def zcr{l:List Nat}{x y:Nat}(h:x<y)(j:y∈l):YV l y+1<=YV l x:=by
 induction l with
 |nil=>cases j
 | cons z l ih=>
   unfold YV;rw[List.countP_cons,List.countP_cons];rcases V3.1 j with rfl|j
   .have:=ZX l h;unfold YV at this;simp[h];omega
   .have:=ih j;unfold YV at this;by_cases o:y<z
    .have u:x<z:=a9;simp[o,u];omega
    .simp[o];omega
def Qs(a b:List Iv):∀(f x:Nat),(QU a b f x).length<=YV (Jd a) x+YV (Jd b) x+1
 |0,_=>X4 _
 | f+1,x=>by
   unfold QU;cases h:kv (ye a x) (ye b x)with
   |none=>simp
   | some y=>
     have ih:=Qs a b f y;have:YV (Jd a) y+YV (Jd b) y+1<=YV (Jd a) x+YV (Jd b) x:=by
      have j:ye a x=some y\/ye b x=some y:=by
       cases ea:ye a x<;>cases eb:ye b x<;>rw[ea,eb]at h<;>simp only[kv]at h
       .cases h
       .exact .inr h
       .exact .inl h
       .split at h
        .exact .inr h
        .exact .inl h
      rcases j with h|h
      .have:=zcr (xr h) (zah h);have:=ZX (Jd b) (xr h);omega
      .have:=zcr (xr h) (zah h);have:=ZX (Jd a) (xr h);omega
     simp;omega
def jF(a b:List Iv):(yO a b).length<=2*(a.length+b.length)+1:=by
 have j:=Qs a b zk 0;have o:YV (Jd a) 0<=2*a.length:=by rw[<-ZY];exact U2
 have u:YV (Jd b) 0<=2*b.length:=by rw[<-ZY];exact U2
 unfold yO;omega
def J9(j:List Iv)(s:Iv):(Q8 j s).length<=j.length+1:=by
 unfold Q8;split
 .simp
 .rename_i t ht;split
  .have:j≠[]:=(by intro e;subst e;simp at ht);have:=wU.2 this;simp;try omega
  .simp
def jD(f:Q3)(o:List (Iv×Bool×Bool)):∀j:List Iv,(qg f j o).length<=j.length+o.length:=by
 induction o with
 |nil=>intro j;simp[qg]
 | cons x o ih=>
   intro j;obtain⟨s,p,q⟩:=x;simp only[qg];by_cases e:f p q=true
   .have u:=ih (Q8 j s);have w:=J9 j s;rw[vj e];simp only[wn];omega
   .have u:=ih j;rw[vD e];simp only[wn];omega
def xq{f:Q3}{a b:List Iv}:∀(pre:List (Iv×Bool×Bool))(x:Nat)(j:List Iv)(y:Iv×Bool×Bool)(r:List (Iv×Bool×Bool)),Cov a b x (pre++y::r)->Nrm j->(∀t∈j,t.hi<x) ->
 Nrm (qg f j pre)/\(∀t∈qg f j pre,t.hi<y.1.lo)/\y.1.lo<=y.1.hi/\y.1.hi<zk
 |[],x,j,(s,p,q),r,⟨h1,h2,h3,_⟩,ho,ht=>⟨ho,λt h=>by have:=ht t h;show t.hi<s.lo;omega,by show s.lo<=s.hi;omega,h3⟩
 | (s,p,q)::pre,x,j,y,r,⟨h1,h2,h3,_,h5⟩,ho,ht=>by
   simp only[qg];have g:=Xm (s:=s) ho (λt h=>by have:=ht t h;omega) a9 h3;split
   .exact xq pre _ _ y r h5 g.1 λt h=>by have:=g.2.2 t h;omega
   .exact xq pre _ _ y r h5 ho λt h=>by have:=ht t h;omega
def zcT(o:List Iv)(t:Iv)(hi:Nat):(xw (o++[t])).set (o.length*2+1) (.int .u64 hi)=xw (o++[⟨t.lo,hi⟩]):=by rw[vy,vy,List.set_append_right _ _ (by rw[y6];omega),y6];congr 1;rw[show o.length*2+1-o.length*2=1 from by omega];rfl
def OwnR.last{base:Nat}{w:World}{A:Option Addr}{n j:Nat}{o:List Iv}{t:Iv}(h:OwnR base w (.slice A n j) (o++[t])):
 ∃g,base<=g/\A=some ⟨g,0,none⟩/\o.length+1<=j/\j<=maxLen/\w.cell? ⟨g,o.length*2,none⟩=some (.int .u64 t.lo)/\w.cell? ⟨g,o.length*2+1,none⟩=some (.int .u64 t.hi)/\t.lo<zk/\t.hi<zk:=by
 have hb:=h.2 t b7;have u:=h.1;rcases id u.2 with⟨_,F⟩|⟨g,B,E,C,H,J,I,G,_⟩
 .simp at F
 .simp only[Value.slice.injEq]at C;obtain⟨rfl,rfl,rfl⟩:=C;have y:=vz (o++[t]) o.length b7;simp only[List.getElem_concat_length]at y;refine⟨g,H,rfl,dL I,G,?_,?_,hb⟩
  .rw[u.cellAt _ b7];exact y.1
  .rw[u.cellAt _ b6];exact y.2
def OwnR.setHi{base:Nat}{w:World}{g n j:Nat}{o:List Iv}{t:Iv}(h:OwnR base w (.slice (some ⟨g,0,none⟩) n j) (o++[t]))(C:n=o.length+1)(hi:Nat)(B:hi<zk):
 OwnR base (w.setCell ⟨g,o.length*2+1,none⟩ (.int .u64 hi)) (.slice (some ⟨g,0,none⟩) n j) (o++[⟨t.lo,hi⟩]):=by
 subst C;have A:=h.1;simp only[wi,wn,Wp,wk]at A;have:=(A.stored (o.length*2+1) (.int .u64 hi)).1;rw[zcT]at this;refine⟨dL this,λu y=>?_⟩;simp at y;rcases y with y|rfl
 .exact h.2 u (by simp[y])
 .exact⟨(h.2 t b7).1,B⟩
set_option maxRecDepth 100000 in
def vG(f:Q3)(C:Nat)(aW:∀an w,(callFunc C an).run xt w=.ok (.enter C an) w)
 (aS:∀p q w,Calls xt C #[.agg #[.bool p,.bool q]] w λe P=>e=.returned (.bool (f p q))/\Below w.heap.size w P)
 (a b:List Iv) (va vb:Value) (w:World) (ha:Nrm a) (hb:Nrm b) (ra:RdR 0 w.heap.size w va a) (rb:RdR 0 w.heap.size w vb b) (aX:a.length+b.length<=1073741824) :
 Calls xt 107 #[va,vb,.func (.func C) #[] #[]] w λe P=>∃v,e=.returned v/\OwnR w.heap.size P v (qy f a b)/\Below w.heap.size w P:=by
 obtain⟨aa,ca,rfl,_⟩:=id ra;obtain⟨ab,cb,rfl,_⟩:=id rb;refine callsIn_wide.1 (tX (n:=9) func107 rfl trivial ?_ rfl);simp only[ntmps107,Wz,wn,Wp,Nat.reduceAdd,Nat.reduceSub,uf,ug,uy,ul,Y1,yb]
 gi_wp2_with (refine⟨trivial,?_⟩;gi_at_call 150;refine(callsIn_wide.2 (Xi _ _ _ _ _ _ _)).mono ?_;rintro e P ⟨rfl,rfl⟩)
 obtain⟨W0,N⟩:=xn (((((w.alloc (Obj.cells #[Value.func (Fn.func C) #[] #[]] 187)).alloc (Obj.cells #[Value.slice none 0 0] 24)).alloc (Obj.cells #[Value.slice aa a.length ca] 24)).alloc (Obj.cells #[Value.slice ab b.length cb] 24)));have ba:W0.heap.size=w.heap.size+4:=by rw[<-N];simp
 have b0:Boxed W0 w.heap.size 187 (Value.func (Fn.func C) #[] #[]):=by rw[<-N];exact(((tQ w _ _).alloc _).alloc _).alloc _
 have b1:Boxed W0 (w.heap.size+1) 24 (Value.slice none 0 0):=by rw[<-N];have:=tQ (w.alloc (Obj.cells #[Value.func (Fn.func C) #[] #[]] 187)) 24 (Value.slice none 0 0);rw[tu]at this;exact(this.alloc _).alloc _
 have b2:Boxed W0 (w.heap.size+1+1) 24 (Value.slice aa a.length ca):=by rw[<-N];have:=tQ ((w.alloc (Obj.cells #[Value.func (Fn.func C) #[] #[]] 187)).alloc (Obj.cells #[Value.slice none 0 0] 24)) 24 (Value.slice aa a.length ca);simp only[tu]at this;exact this.alloc _
 have b3:Boxed W0 (w.heap.size+1+1+1) 24 (Value.slice ab b.length cb):=by rw[<-N];have:=tQ (((w.alloc (Obj.cells #[Value.func (Fn.func C) #[] #[]] 187)).alloc (Obj.cells #[Value.slice none 0 0] 24)).alloc (Obj.cells #[Value.slice aa a.length ca] 24)) 24 (Value.slice ab b.length cb);simp only[tu]at this;exact this
 have aw:Below w.heap.size w W0:=by rw[<-N];exact((((tq _ _).alloc (Zp _) _).alloc b7 _).alloc b6 _).alloc b6 _
 rw [N];clear N;have af:=j4 ha hb;have aR:=jF a b;refine ziP (w:=W0) 184 #[.pointer (some ⟨w.heap.size+1+1,0,none⟩),.pointer (some ⟨w.heap.size+1+1+1,0,none⟩)] rfl (enters_of func184 dM rfl) za1 (λ_=>rfl)
  (λk=>k=w.heap.size+1+1\/k=w.heap.size+1+1+1) (λk=>k<w.heap.size\/k=w.heap.size+1+1\/k=w.heap.size+1+1+1) (yO a b) ?hit
  (λk=>k=w.heap.size+1\/w.heap.size+6<=k) (λk hk=>a9) a9 ⟨a9,a9⟩
  (λpre W=>(∃v,Boxed W (w.heap.size+1) 24 v/\OwnR (w.heap.size+6) W v (qg f [] pre))/\Boxed W w.heap.size 187 (Value.func (Fn.func C) #[] #[])/\Below w.heap.size w W)
  (λ_ _ _=>False) ?hI (λ_ _ _ _ h _=>h) ⟨⟨_,b1,OwnR.nil _ _⟩,b0,aw⟩
  (λpre x a' W=>((∃v,Boxed W (w.heap.size+1) 24 v/\OwnR (w.heap.size+6) W v (qg f [] pre))/\Boxed W w.heap.size 187 (Value.func (Fn.func C) #[] #[])/\Below w.heap.size w W) /\
    ∃J Bs,W.heap[J]?=some (.cells #[.int .u64 x.1.lo,.int .u64 x.1.hi] 64 (0,0))/\W.heap[Bs]?=some (.cells #[.bool x.2.1,.bool x.2.2] 186 (0,0))/\w.heap.size+6<=J/\w.heap.size+6<=Bs /\
    a'={ tmps:=#[Value.slice aa a.length ca,Value.slice ab b.length cb,Value.func (Fn.func C) #[] #[],undef,undef,Value.pointer (some ⟨w.heap.size,0,none⟩),Value.slice none 0 0,Value.pointer (some ⟨w.heap.size+1,0,none⟩),Value.pointer (some ⟨J,0,none⟩),Value.pointer (some ⟨Bs,0,none⟩),undef,Value.slice aa a.length ca,Value.slice ab b.length cb,Value.func (Fn.func 184) #[] #[Value.pointer (some ⟨w.heap.size+1+1,0,none⟩),Value.pointer (some ⟨w.heap.size+1+1+1,0,none⟩)],.agg #[.int .u64 x.1.lo,.int .u64 x.1.hi],.agg #[.bool x.2.1,.bool x.2.2],undef,undef,undef,undef,undef,undef,undef,undef,undef,undef,undef,undef,undef,undef,undef,undef,undef,undef,undef,undef,undef,undef,undef,undef,undef,undef,undef,undef,undef],defers:=[] })
  ?hAx ?hassign ?hbody ?hdone (λ_ _ _ _ h _=>h.elim)
 case hit=>
  intro W hk _;exact J7 a b _ _ (w.heap.size+1+1) (w.heap.size+1+1+1) w.heap.size W ha hb a9 a9 a9
   ⟨hk.boxed b2 id,hk.boxed b3 id,ra.below (aw.trans (hk.below a9 λ_ _=>id)) (Zp _),rb.below (aw.trans (hk.below a9 λ_ _=>id)) (Zp _),Suf.refl _ _,Suf.refl _ _⟩
 case hI=>rintro pre A B ⟨⟨v,h1,h2⟩,h3,S⟩ hk;exact⟨⟨v,hk.boxed h1 a9,h2.keep hk (λg hg=>a9)⟩,hk.boxed h3 a9,S.trans (hk.below S.size λk hk=>a9)⟩
 case hAx=>rintro pre x a' A B ⟨⟨⟨v,h1,h2⟩,h3,S⟩,J,Bs,hp,hs,aE,aF,rfl⟩ hk;exact⟨⟨⟨v,hk.boxed h1 a9,h2.keep hk (λg hg=>a9)⟩,hk.boxed h3 a9,S.trans (hk.below S.size λk hk=>a9)⟩,J,Bs,hk.obj hp a9,hk.obj hs a9,aE,aF,rfl⟩
 case hassign=>
  rintro l pre ⟨⟨lo,hi⟩,p,q⟩ W Y aP ⟨⟨v,h1,h2⟩,h3,S⟩;clear Y;dsimp only[za1]
  gi_wp2
  have aO:∀o1 o2,Keep (λk=>k=w.heap.size+1\/w.heap.size+6<=k) W ((W.alloc o1).alloc o2):=λo1 o2=>((Keep.refl _ _).alloc _).alloc _;refine⟨aO _ _,⟨⟨v,(h1.alloc _).alloc _,(h2.keep ((Keep.refl qe W).alloc _) λ_ _=>id).keep ((Keep.refl qe _).alloc _) λ_ _=>id⟩,(h3.alloc _).alloc _,(S.alloc S.size _).alloc (by simp;have:=S.size;omega) _⟩,
   W.heap.size,W.heap.size+1,?_,?_,a9,a9,rfl⟩
  .exact(tr _ _ _ b7).trans (tl W _)
  .have:=tl (W.alloc (.cells #[.int .u64 lo,.int .u64 hi] 64)) (.cells #[.bool p,.bool q] 186)
   rwa[tu]at this
 case hbody=>
  rintro l pre x a' W ⟨r,Y⟩ aP ⟨⟨⟨v,h1,h2⟩,h3,S⟩,J,Bs,hp,hs,aE,aF,rfl⟩;obtain⟨⟨lo,hi⟩,p,q⟩:=x;obtain⟨m1,m2,m3,m4⟩:=xq (f:=f) pre 0 [] (⟨lo,hi⟩,p,q) r (by rw[show pre++(⟨lo,hi⟩,p,q)::r=yO a b from by rw[<-Y];simp];exact af) trivial (λ_ h=>by cases h);have aQ:=jD f pre [];have aZ:pre.length+1<=(yO a b).length:=(by rw[<-Y];simp);have c3:=h3.cell;have aK:W.cell? ⟨Bs,0,none⟩=some (.bool p):=(by simp[World.cell?,hs]);have aL:W.cell? ⟨Bs,1,none⟩=some (.bool q):=(by simp[World.cell?,hs]);obtain⟨i0,aA,aH,aI,aJ⟩:=tN Tryz.infoIv;have HM:=qL (And.intro Y (And.intro af (And.intro aR (And.intro m1 (And.intro m2 m3)))));dsimp only at m3 m4;clear Y af m1 m2 hs
  gi_wp2_with fail
  refine⟨trivial,CallsIn.mono (TX l (callsIn_wide.2 (aS p q W))) ?_⟩;rintro e W1 ⟨rfl,ax⟩;have X:Keep qe W W1:=Keep.of_below' ax (Zp _);have M:=X.boxed h1 id;have ae:=h2.keep X λ_ _=>id;have U:=X.boxed h3 id;have I:=S.trans (ax.mono S.size);have aD:=X.obj hp id;have ar:w.heap.size+6<=W1.heap.size:=(by have:=X.size;omega);have ah:=qL X;clear ax X h1 h2 h3 S hp c3 aK aL;obtain⟨ay,ag⟩:=xm (qg f [] pre);rw[<-ag]at ae aQ;have HO:=qL ag;clear ag;have c1:=M.cell;have T:W1.cell? ⟨J,0,none⟩=some (.int .u64 lo):=(by simp[World.cell?,aD]);have L:W1.cell? ⟨J,1,none⟩=some (.int .u64 hi):=(by simp[World.cell?,aD]);cases ht:f p q with
  | false=>
    have HT:=qL ht
    gi_wp2
    exact⟨ah.o.mono λ_ _ h=>h.elim,⟨v,M,by rw[yf];simp only[qg,HT.o,<-HO.o];exact ae⟩,U,I⟩
  | true=>
    have HT:=qL ht;obtain⟨ad,ai,rfl⟩:=ae.val;have HH:=qL ae;clear ae;rcases Us ay with rfl|⟨E,t,rfl⟩
    .gi_wp2_with fail
     refine Kh (Sw:=qe) (λ_=>trivial) 11 45 (λ_=>True) dM dM rfl trivial ?_;simp only[wO,wY];repeat (first
      |(refine V5 (λ_=>trivial) ?_ rfl (λa w H _ G=>?_) ?_;rotate_left;(simp[Rds,zA,lk,Op.operands,Call.operands,RdEq]at G;go_simp;with_reducible rfl);simp only[Y1,yb])
      |(refine jI rfl ?_ ?_;(first|exact .inl (zG rfl rfl)|exact .inr (zG rfl rfl));simp only[Y1,yb])
      |(refine QQ (λ_=>trivial) rfl ?_ ?_ (λa w H _ G=>?_) ?_;exact(zG rfl rfl);rotate_left;(simp[Rds,zA,lk,Op.operands,Call.operands,RdEq]at G;go_simp;with_reducible rfl);simp only[Y1,yb]))
     intro y _ O;simp only[finG,WQ,Y1,yb,wM,Wh,WR];simp only[Act.put,ww,wR,wS];have j:Keep qe W1 y:=((Keep.refl qe W1).drew).trans O;have e1:=j.boxed M id;have e3:=j.boxed U id;have e4:=I.trans (j.below I.size λ_ _=>id);have eo:=(HH.o).keep j λ_ _=>id;have Q:=qL (And.intro eo (And.intro e3 e4));have d1:=e1.cell;have d2:y.cell? ⟨J,0,none⟩=some (.int .u64 lo):=j.cell_some T id;have d3:y.cell? ⟨J,1,none⟩=some (.int .u64 hi):=j.cell_some L id;have aC:w.heap.size+6<=y.heap.size:=VS ar j.size;have ac:=qL j;clear O j e3 e4 eo c1 T L M U I
     gi_wp2_with (gi_at_builtin;go_loud (refine Tx _ rfl _ _ 24 rfl (w.heap.size+6) 64 i0 (.agg #[.int .u64 0,.int .u64 0]) 2 16 underlying24 aA aH aI aJ rfl b9 _ _ _ rfl (Q.o.1.1.alloc _) ⟨y.heap.size,0,none⟩ 1 1 [.int .u64 lo,.int .u64 hi] rfl rfl (kw (cs:=#[.int .u64 lo,.int .u64 hi]) (t := 64) (fr:=(0,0)) (tl y _)) dJ (by unfold maxLen;first|decide|omega) (by first|decide|omega) (by rw[tu];omega) ?_);intro v' w3 F V _;obtain⟨g',az,rfl⟩:=TS F;obtain⟨q1,q2,q3,q4⟩:=qO e1 b9 Q.o.1.1 F V;have aT:=q1.cell;have aU:=q1.frozen)
     refine⟨((ah.o.trans ac.o).mono λ_ _ h=>h.elim).trans (q4.mono λk _ h=>h),⟨_,q2,?_⟩,q4.boxed Q.o.2.1 a9,Q.o.2.2.trans (q4.below Q.o.2.2.size λk _=>a9)⟩;rw[yf];simp only[qg,HT.o,UJ,<-HO.o];exact Q.o.1.snoc ⟨by show lo<zk;omega,by show hi<zk;omega⟩ q3
    .simp only[Ut,wi,wn,Wp,wk]at *;obtain⟨g,aN,rfl,aV,aM,ao,aq,bc⟩:=HH.o.last;have am:t.lo<=t.hi/\t.hi<zk:=by have:=NF.lo_ge HM.o.2.2.2.1 t (by rw[<-HO.o];simp);exact⟨this.2.1,this.2.2⟩
     have aG:t.hi<lo:=HM.o.2.2.2.2.1 t (by rw[<-HO.o];simp);have av:W1.cell? ⟨g,E.length*2,none⟩=some (.int .u64 t.lo):=ao;have aj:W1.cell? ⟨g,E.length*2+1,none⟩=some (.int .u64 t.hi):=aq;clear ao aq;unfold maxLen at aM;have aY:((E.length:Nat):Int)<(E.length:Int)+1:=a9
     gi_wp2_with fail
     by_cases Z:t.hi+1=lo
     .have hrel:(((relate t ⟨lo,hi⟩:Nat):Int) == 1)=true:=(by have:relate t ⟨lo,hi⟩=1:=(by unfold relate;rw[vj aG,vj Z]);rw[this];rfl);have au:=qL Z;clear Z;refine Kh (Sw:=qe) (λ_=>trivial) 11 45 (λP=>P.cell? ⟨w.heap.size+1,0,none⟩=some (.slice (some ⟨g,0,none⟩) (E.length+1) ai)/\P.cell? ⟨g,E.length*2,none⟩=some (.int .u64 t.lo)/\P.cell? ⟨g,E.length*2+1,none⟩=some (.int .u64 t.hi)/\P.cell? ⟨J,0,none⟩=some (.int .u64 lo)/\P.cell? ⟨J,1,none⟩=some (.int .u64 hi)) dM dM rfl ⟨c1,av,aj,T,L⟩ ?_;simp only[wO,wY];repeat (first
       |(refine V5 (λ_=>trivial) ?_ rfl (λa w H _ G=>?_) ?_;rotate_left;(simp[Rds,zA,lk,Op.operands,Call.operands,RdEq]at G;go_simp;with_reducible rfl);simp only[Y1,yb])
       |(refine jI rfl ?_ ?_;(first|exact .inl (zG rfl rfl)|exact .inr (zG rfl rfl));simp only[Y1,yb])
       |(refine QQ (λ_=>trivial) rfl ?_ ?_ (λa w H _ G=>?_) ?_;exact(zG rfl rfl);rotate_left;(simp[Rds,zA,lk,Op.operands,Call.operands,RdEq]at G;go_simp;with_reducible rfl);simp only[Y1,yb]))
      refine zhg (λu _=>u=.int .i64 ((relate t ⟨lo,hi⟩:Nat):Int)) (yj _) rfl (zG rfl rfl) ?_ ?_
      .intro a2 y H hk G K hK;have HK:=qL hK;clear hK;simp[Rds,zA,lk,Op.operands,Call.operands,RdEq]at G;refine⟨λ_ _=>trivial,?_⟩;go_simp;refine CallsIn.mono (TX l (callsIn_wide.2 (QF t ⟨lo,hi⟩ _ am.1 (by show lo<=hi;omega) am.2 (by show hi<zk;omega)))) ?_;rintro e w3 ⟨rfl,hb⟩;have o:Keep qe y w3:=Keep.of_below' hb (Zp _);exact HK.o _ _ o ⟨o.cell_some H.1 id,o.cell_some H.2.1 id,o.cell_some H.2.2.1 id,o.cell_some H.2.2.2.1 id,o.cell_some H.2.2.2.2 id⟩ rfl
      simp only[Y1,yb];repeat (first
       |(refine V5 (λ_=>trivial) ?_ rfl (λa w H _ G=>?_) ?_;rotate_left;(simp[Rds,zA,lk,Op.operands,Call.operands,RdEq]at G;go_simp;with_reducible rfl);simp only[Y1,yb])
       |(refine jI rfl ?_ ?_;(first|exact .inl (zG rfl rfl)|exact .inr (zG rfl rfl));simp only[Y1,yb])
       |(refine QQ (λ_=>trivial) rfl ?_ ?_ (λa w H _ G=>?_) ?_;exact(zG rfl rfl);rotate_left;(simp[Rds,zA,lk,Op.operands,Call.operands,RdEq]at G;go_simp;with_reducible rfl);simp only[Y1,yb]))
      intro y _ O;simp only[finG,WQ,Y1,yb,wM,Wh,WR];simp only[Act.put,ww,wR,wS];have j:Keep qe W1 y:=((Keep.refl qe W1).drew).trans O;have e1:=j.boxed M id;have e3:=j.boxed U id;have e4:=I.trans (j.below I.size λ_ _=>id);have eo:=(HH.o).keep j λ_ _=>id;have er:y.ownsRow (w.heap.size+6) 64 2 (.slice (some ⟨g,0,none⟩) (E.length+1) ai) (E.length+1) (xw (E++[t])):=(by have:=eo.1;simpa using this);have ER:=qL er;have Q:=qL (And.intro eo (And.intro e3 e4));have d1:=e1.cell;have d3:y.cell? ⟨J,1,none⟩=some (.int .u64 hi):=j.cell_some L id;have d4:y.cell? ⟨g,E.length*2+1,none⟩=some (.int .u64 t.hi):=j.cell_some aj id;have d5:y.frozen? ⟨g,E.length*2+1,none⟩=false:=er.frozenAt _;have ac:=qL j;clear O j e3 e4 eo er c1 T L av aj M U I
      gi_wp2
      have ak:Keep (λk=>k=g) y (y.setCell ⟨g,E.length*2+1,none⟩ (.int .u64 hi)):=(Keep.refl (λk=>k=g) y).setCell (p:=⟨g,E.length*2+1,none⟩) (λ_=>rfl) _;refine⟨((ah.o.trans ac.o).mono λ_ _ h=>h.elim).trans (ak.mono λk _ h=>.inr (by rw[h];exact aN)),⟨_,ak.boxed e1 a9,?_⟩,ak.boxed Q.o.2.1 a9,Q.o.2.2.trans (ak.below Q.o.2.2.size λk hk=>a9)⟩;rw[yf];simp only[qg,HT.o,UJ,<-HO.o];rw[show Q8 (E++[t]) ⟨lo,hi⟩=E++[⟨t.lo,hi⟩] from by unfold Q8;rw[uZ];simp only;rw[vj au.o,U7]];exact Q.o.1.setHi rfl hi a9
     .have hrel:(((relate t ⟨lo,hi⟩:Nat):Int) == 1)=false:=(by have:relate t ⟨lo,hi⟩=0:=(by unfold relate;rw[vj aG,vD Z]);rw[this];rfl);have au:=qL Z;clear Z;refine Kh (Sw:=qe) (λ_=>trivial) 11 45 (λP=>P.cell? ⟨w.heap.size+1,0,none⟩=some (.slice (some ⟨g,0,none⟩) (E.length+1) ai)/\P.cell? ⟨g,E.length*2,none⟩=some (.int .u64 t.lo)/\P.cell? ⟨g,E.length*2+1,none⟩=some (.int .u64 t.hi)/\P.cell? ⟨J,0,none⟩=some (.int .u64 lo)/\P.cell? ⟨J,1,none⟩=some (.int .u64 hi)) dM dM rfl ⟨c1,av,aj,T,L⟩ ?_;simp only[wO,wY];repeat (first
       |(refine V5 (λ_=>trivial) ?_ rfl (λa w H _ G=>?_) ?_;rotate_left;(simp[Rds,zA,lk,Op.operands,Call.operands,RdEq]at G;go_simp;with_reducible rfl);simp only[Y1,yb])
       |(refine jI rfl ?_ ?_;(first|exact .inl (zG rfl rfl)|exact .inr (zG rfl rfl));simp only[Y1,yb])
       |(refine QQ (λ_=>trivial) rfl ?_ ?_ (λa w H _ G=>?_) ?_;exact(zG rfl rfl);rotate_left;(simp[Rds,zA,lk,Op.operands,Call.operands,RdEq]at G;go_simp;with_reducible rfl);simp only[Y1,yb]))
      refine zhg (λu _=>u=.int .i64 ((relate t ⟨lo,hi⟩:Nat):Int)) (yj _) rfl (zG rfl rfl) ?_ ?_
      .intro a2 y H hk G K hK;have HK:=qL hK;clear hK;simp[Rds,zA,lk,Op.operands,Call.operands,RdEq]at G;refine⟨λ_ _=>trivial,?_⟩;go_simp;refine CallsIn.mono (TX l (callsIn_wide.2 (QF t ⟨lo,hi⟩ _ am.1 (by show lo<=hi;omega) am.2 (by show hi<zk;omega)))) ?_;rintro e w3 ⟨rfl,hb⟩;have o:Keep qe y w3:=Keep.of_below' hb (Zp _);exact HK.o _ _ o ⟨o.cell_some H.1 id,o.cell_some H.2.1 id,o.cell_some H.2.2.1 id,o.cell_some H.2.2.2.1 id,o.cell_some H.2.2.2.2 id⟩ rfl
      simp only[Y1,yb];repeat (first
       |(refine V5 (λ_=>trivial) ?_ rfl (λa w H _ G=>?_) ?_;rotate_left;(simp[Rds,zA,lk,Op.operands,Call.operands,RdEq]at G;go_simp;with_reducible rfl);simp only[Y1,yb])
       |(refine jI rfl ?_ ?_;(first|exact .inl (zG rfl rfl)|exact .inr (zG rfl rfl));simp only[Y1,yb])
       |(refine QQ (λ_=>trivial) rfl ?_ ?_ (λa w H _ G=>?_) ?_;exact(zG rfl rfl);rotate_left;(simp[Rds,zA,lk,Op.operands,Call.operands,RdEq]at G;go_simp;with_reducible rfl);simp only[Y1,yb]))
      intro y _ O;simp only[finG,WQ,Y1,yb,wM,Wh,WR];simp only[Act.put,ww,wR,wS];have j:Keep qe W1 y:=((Keep.refl qe W1).drew).trans O;have e1:=j.boxed M id;have e3:=j.boxed U id;have e4:=I.trans (j.below I.size λ_ _=>id);have eo:=(HH.o).keep j λ_ _=>id;have er:y.ownsRow (w.heap.size+6) 64 2 (.slice (some ⟨g,0,none⟩) (E.length+1) ai) (E.length+1) (xw (E++[t])):=(by have:=eo.1;simpa using this);have ER:=qL er;have Q:=qL (And.intro eo (And.intro e3 e4));have d1:=e1.cell;have d2:y.cell? ⟨J,0,none⟩=some (.int .u64 lo):=j.cell_some T id;have d3:y.cell? ⟨J,1,none⟩=some (.int .u64 hi):=j.cell_some L id;have aC:w.heap.size+6<=y.heap.size:=VS ar j.size;have ac:=qL j;clear O j e3 e4 eo er c1 T L M U I
      gi_wp2_with (gi_at_builtin;go_loud (refine Tx _ rfl _ _ 24 rfl (w.heap.size+6) 64 i0 (.agg #[.int .u64 0,.int .u64 0]) 2 16 underlying24 aA aH aI aJ rfl b9 _ _ _ rfl (ER.o.alloc _) ⟨y.heap.size,0,none⟩ 1 1 [.int .u64 lo,.int .u64 hi] rfl rfl (kw (cs:=#[.int .u64 lo,.int .u64 hi]) (t := 64) (fr:=(0,0)) (tl y _)) dJ (by unfold maxLen;first|decide|omega) (by first|decide|omega) (by rw[tu];omega) ?_);intro v' w3 F V _;obtain⟨g',az,rfl⟩:=TS F;obtain⟨q1,q2,q3,q4⟩:=qO e1 b9 ER.o F V;have aT:=q1.cell;have aU:=q1.frozen)
      refine⟨((ah.o.trans ac.o).mono λ_ _ h=>h.elim).trans (q4.mono λk _ h=>h),⟨_,q2,?_⟩,q4.boxed Q.o.2.1 a9,Q.o.2.2.trans (q4.below Q.o.2.2.size λk _=>a9)⟩;rw[yf];simp only[qg,HT.o,UJ,<-HO.o];rw[show Q8 (E++[t]) ⟨lo,hi⟩=E++[t]++[⟨lo,hi⟩] from by unfold Q8;rw[uZ];simp only;rw[vD au.o]];exact Q.o.1.snoc ⟨by show lo<zk;omega,by show hi<zk;omega⟩ (dL q3)
 case hdone=>
  rintro W ⟨⟨v,h1,h2⟩,h3,S⟩ hD;have H:=h1.cell
  gi_wp2
  refine⟨b7,.inl ⟨_,_,rfl,tU hD,?_⟩⟩;have aB:Keep (λk=>k=W0.heap.size) W (W.putObj W0.heap.size (.deferred none)):=(Keep.refl (λk=>k=W0.heap.size) W).putObj (λ_=>rfl) _;exact⟨_,tI rfl _ _ _,v,rfl,(h2.keep aB λg hg=>a9).mono a9,S.trans (aB.below S.size λk hk=>a9)⟩
attribute [local go_sem] Oper.semAt_some
def zn(p q:Bool):Bool:=p || q
def fMeet(p q:Bool):Bool:=p && q
def zm(p q:Bool):Bool:=p && !q
def V4(a b:List Iv)(o u:Value)(w:World)(C:Nrm a)(hb:Nrm b)(ra:RdR 0 w.heap.size w o a)(rb:RdR 0 w.heap.size w u b)(j:a.length+b.length<=1073741824):
 Calls xt 87 #[o,u] w λe y=>∃v,e=.returned v/\OwnR w.heap.size y v (qy zn a b)/\Below w.heap.size w y:=by
 have A:=vG zn 130 (enters_of func130 dM rfl) Kq a b o u w C hb ra rb j;have B:=qL A;clear A;obtain⟨E,G,rfl,_⟩:=ra;obtain⟨F,H,rfl,_⟩:=rb;go_enter func87,ntmps87
 go_wp2_with (go_at_call 107;refine B.o.mono ?_;rintro e y ⟨v,rfl,I,hb⟩)
 go_ret;exact⟨_,rfl,‹_›,‹_›⟩
def JW(a b:List Iv)(o u:Value)(w:World)(C:Nrm a)(hb:Nrm b)(ra:RdR 0 w.heap.size w o a)(rb:RdR 0 w.heap.size w u b)(j:a.length+b.length<=1073741824):
 Calls xt 68 #[o,u] w λe y=>∃v,e=.returned v/\OwnR w.heap.size y v (qy fMeet a b)/\Below w.heap.size w y:=by
 have A:=vG fMeet 108 (enters_of func108 dM rfl) zbP a b o u w C hb ra rb j;have B:=qL A;clear A;obtain⟨E,G,rfl,_⟩:=ra;obtain⟨F,H,rfl,_⟩:=rb;go_enter func68,ntmps68
 go_wp2_with (go_at_call 107;refine B.o.mono ?_;rintro e y ⟨v,rfl,I,hb⟩)
 go_ret;exact⟨_,rfl,‹_›,‹_›⟩
def Zu(a b:List Iv)(o u:Value)(w:World)(C:Nrm a)(hb:Nrm b)(ra:RdR 0 w.heap.size w o a)(rb:RdR 0 w.heap.size w u b)(j:a.length+b.length<=1073741824):
 Calls xt 122 #[o,u] w λe y=>∃v,e=.returned v/\OwnR w.heap.size y v (qy zm a b)/\Below w.heap.size w y:=by
 have A:=vG zm 165 (enters_of func165 dM rfl) Kp a b o u w C hb ra rb j;have B:=qL A;clear A;obtain⟨E,G,rfl,_⟩:=ra;obtain⟨F,H,rfl,_⟩:=rb;go_enter func122,ntmps122
 go_wp2_with (go_at_call 107;refine B.o.mono ?_;rintro e y ⟨v,rfl,I,hb⟩)
 go_ret;exact⟨_,rfl,‹_›,‹_›⟩
def ziL{w:World}{B:Nat}{s:Iv}(h:w.heap[B]?=some (.cells #[.int .u64 s.lo,.int .u64 s.hi] 64 (0,0)))(j:s.lo<zk)(o:s.hi<zk):RdR 0 w.heap.size w (.slice (some ⟨B,0,none⟩) 1 1) [s]:=by
 refine⟨_,1,rfl,b7,b9,λ_=>⟨B,0,rfl,X4 _,(XE.1 h).1,λi hi=>?_⟩⟩;obtain rfl:i=0:=dL hi
 exact⟨by simp[World.cell?,h],by simp[World.cell?,h],j,o⟩
def zbn(a:List Iv)(B:Value)(s:Iv)(w:World)(E:Nrm a)(hs:s.lo<=s.hi)(u:s.hi<zk)(ra:RdR 0 w.heap.size w B a)(A:a.length<=1073741823):
 Calls xt 172 #[B,.agg #[.int .u64 s.lo,.int .u64 s.hi]] w λe C=>∃v,e=.returned v/\OwnR w.heap.size C v (qy zm [s] a)/\Below w.heap.size w C:=by
 obtain⟨H,I,rfl,_⟩:=id ra;go_enter func172,ntmps172
 go_wp2_with fail
 obtain⟨y,o⟩:=xn (((w.alloc (Obj.cells #[Value.int IntKind.u64 s.lo,Value.int IntKind.u64 s.hi] 64)).alloc (Obj.cells #[Value.int IntKind.u64 s.lo,Value.int IntKind.u64 s.hi] 64)));have j:Below w.heap.size w y:=by rw[<-o];exact((tq _ _).alloc (Zp _) _).alloc b7 _
 have F:y.heap[w.heap.size+1]?=some (.cells #[.int .u64 s.lo,.int .u64 s.hi] 64 (0,0)):=by
  rw[<-o];have:=tl (w.alloc (Obj.cells #[Value.int IntKind.u64 s.lo,Value.int IntKind.u64 s.hi] 64)) (Obj.cells #[Value.int IntKind.u64 s.lo,Value.int IntKind.u64 s.hi] 64);rwa[tu]at this
 rw[o];clear o;refine(Zu [s] a _ _ y ⟨X4 _,hs,u,trivial⟩ E (ziL F a9 u) ((ra.below j (Zp _)).keep (Zp _) j.size λ_ _ _=>rfl) b6).mono ?_;rintro e J ⟨v,rfl,G,hb⟩
 go_wp2;go_ret;exact⟨_,rfl,G.mono j.size,j.trans (hb.mono j.size)⟩
end
section
def xR(f:Q3)(a b:List Iv):(qy f a b).length<=2*(a.length+b.length)+1:=VS (jD f _ _) (by simpa using jF a b)
structure En where
 rep:Nat
 max:Nat
 holes:List Iv
deriving DecidableEq
def En.ext'{e f:En}(j:e.rep=f.rep)(o:e.max=f.max)(u:e.holes=f.holes):e=f:=by cases e;cases f;simp_all
def zO(e:En):Prop:=Nrm e.holes/\(∀s∈e.holes,s.hi<=e.max)/\e.max<zk/\e.rep<zk
def qG{m n:Nat}(h:m<=n)(j:n<zk):Nrm [⟨m,n⟩]:=⟨X4 _,h,j,trivial⟩
def jl(m n x:Nat):mem [⟨m,n⟩] x=(decide (m<=x) && decide (x<=n)):=by simp[mem]
def kn(e:En):List Iv:=qy zm [⟨0,e.max⟩] e.holes
def qT{e:En}(h:zO e):Nrm (kn e):=qH (qG (X4 _) h.2.2.1) h.1
def vC{e:En}(h:zO e){x:Nat}(j:x<zk):mem (kn e) x=(decide (x<=e.max) && !mem e.holes x):=by unfold kn;rw[qj (qG (X4 _) h.2.2.1) h.1 j,jl];simp[zm]
def QV(l:List Iv):Nat:=match l.getLast? with
 |some s=>s.hi
 |none=>0
def Kr{l:List Iv}(h:0<l.length):l[l.length-1].hi=QV l:=by unfold QV;rw[UR,Zv a9]
def x9{l:List Iv}(o:Nrm l)(h:l≠[]):mem l (QV l)=true/\QV l<zk:=by have j:0<l.length:=wU.2 h;have:=NF.lo_ge o l[l.length-1] (Yf _);rw[<-Kr j];exact⟨qf.2 ⟨_,Yf _,this.2.1,Zp _⟩,this.2.2⟩
def zek{l:List Iv}(o:Nrm l){x:Nat}(w:mem l x=true):x<=QV l:=by
 obtain⟨s,hs,y,u⟩:=qf.1 w;have j:l≠[]:=by intro e;subst e;cases hs
 obtain⟨k,t,rfl⟩:=Us l |>.resolve_left j;unfold QV;rw[Ut]at *;rw[uZ];rcases wA.1 hs with h|h
 .have:=o.last_lt s h;have:=(NF.lo_ge o t b7).2.1;simp only;omega
 .simp at h;subst h;exact u
def Qi(r:Nat)(l:List Iv):En×Bool:=if l=[] then (⟨0,0,[]⟩,false) else (⟨r,QV l,qy zm [⟨0,QV l⟩] l⟩,true)
def qD{r:Nat}{l:List Iv}(h:l≠[]):Qi r l=(⟨r,QV l,qy zm [⟨0,QV l⟩] l⟩,true):=vD h
def zaj(r:Nat)(l:List Iv):(Qi r l).2=decide (l≠[]):=by
 unfold Qi;split
 .rename_i h;simp[h]
 .rename_i h;simp[h]
def k9{r:Nat}{l:List Iv}(y:r<zk)(o:Nrm l):zO (Qi r l).1:=by
 by_cases h:l=[]
 .subst h;exact⟨trivial,(λ_ h=>by cases h),xM,xM⟩
 .rw[qD h];have ht:=(x9 o h).2;have w:Nrm (qy zm [⟨0,QV l⟩] l):=qH (qG (X4 _) ht) o;refine⟨w,λs hs=>?_,ht,y⟩;have u:=NF.lo_ge w s hs;have j:mem (qy zm [⟨0,QV l⟩] l) s.hi=true:=qf.2 ⟨s,hs,u.2.1,Zp _⟩;rw[qj (qG (X4 _) ht) o u.2.2,jl]at j;simp[zm]at j;exact j.1
def JO{r:Nat}{l:List Iv}(y:r<zk)(o:Nrm l)(h:l≠[]):kn (Qi r l).1=l:=by
 have u:=k9 y o;refine Nrm.unique (qT u) o λx w=>?_;rw[vC u w];rw[qD h];have ht:=(x9 o h).2;simp only;rw[qj (qG (X4 _) ht) o w,jl];simp only[zm];by_cases j:x<=QV l
 .simp[j]
 .have:mem l x=false:=by
   cases e:mem l x with
   |false=>rfl
   |true=>exact absurd (zek o e) j
  simp[j,this]
def YP(e:En):Prop:=zO e/\∀s∈e.holes,s.hi<e.max
def zeO{e:En}(h:YP e):mem e.holes e.max=false:=by
 cases h':mem e.holes e.max with
 |false=>rfl
 |true=>obtain⟨s,hs,_,j⟩:=qf.1 h';have:=h.2 s hs;omega
def jO{e:En}(h:YP e):kn e≠[]/\QV (kn e)=e.max:=by
 have u:mem (kn e) e.max=true:=by rw[vC h.1 h.1.2.2.1,zeO h];simp
 have j:kn e≠[]:=by intro w;rw[w]at u;cases u
 refine⟨j,?_⟩;have y:=zek (qT h.1) u;have o:=x9 (qT h.1) j;rw[vC h.1 o.2]at o;simp at o;omega
def ZM{e:En}(h:YP e):Qi e.rep (kn e)=(e,true):=by
 obtain⟨u,o⟩:=jO h;rw[qD u,o];have:qy zm [⟨0,e.max⟩] (kn e)=e.holes:=by
  refine vK (qG (X4 _) h.1.2.2.1) (qT h.1) h.1.1 λx w=>?_;rw[vC h.1 w,jl];simp only[zm];by_cases j:x<=e.max
  .simp[j]
  .have:mem e.holes x=false:=by
    cases h':mem e.holes x with
    |false=>rfl
    |true=>obtain⟨s,hs,_,o⟩:=qf.1 h';have:=h.1.2.1 s hs;omega
   simp[j,this]
 rw[this]
def zak{r:Nat}{l:List Iv}(y:r<zk)(o:Nrm l)(h:l≠[]):YP (Qi r l).1:=by
 refine⟨k9 y o,λs hs=>?_⟩;have w:=k9 y o;have C:=w.2.1 s hs;rcases uq C with A|A
 .exact A
 .have u:mem (Qi r l).1.holes (Qi r l).1.max=true:=qf.2 ⟨s,hs,by have:=NF.lo_ge w.1 s hs;omega,a9⟩;have B:=x9 o h;have j:mem (kn (Qi r l).1) (QV l)=true:=(by rw[JO y o h];exact B.1);rw[vC w B.2]at j;rw[qD h]at u j;simp only at u j;rw[u]at j;simp at j
def Jm{e:En}(h:zO e){l:List Iv}{s:Iv}(hs:e.holes=l++[s])(F:e.max<=s.hi)(E:0<s.lo):zO ⟨e.rep,s.lo-1,l⟩/\kn ⟨e.rep,s.lo-1,l⟩=kn e:=by
 have u:Nrm (l++[s]):=hs▸h.1;have C:=NF.lo_ge u s b7;have o:zO ⟨e.rep,s.lo-1,l⟩:=by
  refine⟨u.init,λt ht=>?_,?_,h.2.2.2⟩
  .have:=u.last_lt t ht;simp only;omega
  .simp only;omega
 refine⟨o,Nrm.unique (qT o) (qT h) λx y=>?_⟩;have w:s.hi=e.max:=by have:=h.2.1 s (by rw[hs];simp);omega
 rw[vC o y,vC h y,hs,yd,mem_one' s x];simp only;by_cases j:x<=s.lo-1
 .have e1:x<=e.max:=a9;have e2:¬s.lo<=x:=a9;simp[j,e1,e2]
 .by_cases B:x<=e.max
  .have e2:s.lo<=x:=a9;have A:x<=s.hi:=a9;simp[j,e2,A]
  .simp[j,B]
where mem_one' (s:Iv) (x:Nat):mem [s] x=(decide (s.lo<=x) && decide (x<=s.hi)):=by simp[mem]
def Jl{e:En}(h:zO e){l:List Iv}{s:Iv}(hs:e.holes=l++[s])(w:e.max<=s.hi)(u:s.lo=0):kn e=[]:=by
 refine Nrm.unique (qT h) trivial λx o=>?_;rw[vC h o,hs,yd];by_cases j:x<=e.max
 .have:mem [s] x=true:=qf.2 ⟨s,b7,a9,a9⟩;simp[this]
 .simp[j]
def Xb{e:En}(h:zO e)(j:e.holes=[]):YP e:=⟨h,λs hs=>by rw[j]at hs;cases hs⟩
def zcc{e:En}(h:zO e){l:List Iv}{s:Iv}(hs:e.holes=l++[s])(u:s.hi<e.max):YP e:=by
 refine⟨h,λt ht=>?_⟩;rw[hs]at ht;have o:Nrm (l++[s]):=hs▸h.1;have w:=NF.lo_ge o s b7;rcases wA.1 ht with j|j
 .have:=o.last_lt t j;omega
 .simp at j;subst j;exact u
def J0(r:Nat)(l:List Iv):(Qi r l).1.holes.length<=2*l.length+3:=by
 by_cases h:l=[]
 .subst h;simp[Qi]
 .rw[qD h];have:=xR zm [⟨0,QV l⟩] l;simp at this⊢;omega
def kW(e:En):(kn e).length<=2*e.holes.length+3:=by have:=xR zm [⟨0,e.max⟩] e.holes;simp at this;unfold kn;omega
end
section
def jn(f:Q3)(a b:En):En×Bool:=Qi a.rep (qy f (kn a) (kn b))
variable {f:Q3}{a b c:En}
def below(c:Nat):List Iv:=if c=0 then [] else [⟨0,c-1⟩]
def kP(e:En):En×Bool:=Qi e.rep (kn e)
end
section
def zT(v:List En)(r:Nat):List Iv:=match v.find? (λe=>e.rep == r)with
 |some e=>kn e
 |none=>[]
def zsC(v:List En):Prop:=(∀e∈v,zO e)/\v.Pairwise (λa b=>a.rep<b.rep)
def CanV(v:List En):Prop:=(∀e∈v,YP e)/\v.Pairwise (λa b=>a.rep<b.rep)
def CanV.right{v:List En}(h:CanV v):zsC v:=⟨λe j=>(h.1 e j).1,h.2⟩
def knV_nil(r:Nat):zT [] r=[]:=rfl
def qm(e:En)(v:List En)(r:Nat):zT (e::v) r=if e.rep=r then kn e else zT v r:=by
 unfold zT;by_cases h:e.rep=r
 .simp[h]
 .simp[h]
def qC{v:List En}{r:Nat}(h:∀e∈v,e.rep≠r):zT v r=[]:=by
 induction v with
 |nil=>rfl
 |cons e v ih=>rw[qm,vD (h e b7),ih λj o=>h j (by simp[o])]
def kq{v:List En}(h:v.Pairwise λa b=>a.rep<b.rep){e:En}(u:e∈v):zT v e.rep=kn e:=by
 induction v with
 |nil=>cases u
 | cons x v ih=>
   have o:=V2.1 h;rw[qm];rcases V3.1 u with rfl|j
   .rw[vj rfl]
   .have:=o.1 e j;rw[vD a9,ih o.2 j]
def qi{v:List En}(h:zsC v)(r:Nat):Nrm (zT v r):=by
 unfold zT;split
 .rename_i e he;exact qT (h.1 e (uF he))
 .trivial
def Zk:∀{a b:List En},CanV a->CanV b->(∀r,zT a r=zT b r)->a=b
 |[],[],_,_,_=>rfl
 |[],y::b,_,hb,h=>by have:=h y.rep;rw[knV_nil,qm,vj rfl]at this;exact absurd this.symm (jO (hb.1 y b7)).1
 |x::a,[],ha,_,h=>by have:=h x.rep;rw[knV_nil,qm,vj rfl]at this;exact absurd this (jO (ha.1 x b7)).1
 | x::a,y::b,ha,hb,h=>by
   have w:=V2.1 ha.2;have A:=V2.1 hb.2;have B:=ha.1 x b7;have C:=hb.1 y b7;have E:x.rep=y.rep:=by
    rcases WK x.rep y.rep with o|o|o
    .have:=h x.rep;rw[qm,vj rfl,qC λe j=>by rcases V3.1 j with rfl|j;omega;have:=A.1 e j;omega]at this;exact absurd this (jO B).1
    .exact o
    .have:=h y.rep;rw[qm (e:=y),vj rfl,qC λe j=>by rcases V3.1 j with rfl|j;omega;have:=w.1 e j;omega]at this;exact absurd this.symm (jO C).1
   have hk:=h x.rep;rw[qm,qm,vj rfl,vj E.symm]at hk;have e1:=ZM B;have e2:=ZM C;rw[hk,E,e2]at e1;have u:x=y:=(by injection e1 with e1;exact e1.symm);subst u;congr 1;refine Zk ⟨λe j=>ha.1 e (by simp[j]),w.2⟩ ⟨λe j=>hb.1 e (by simp[j]),A.2⟩ λr=>?_;by_cases o:x.rep=r
   .rw[qC λe j=>by have:=w.1 e j;omega,qC λe j=>by have:=A.1 e j;omega]
   .have:=h r;rw[qm,qm,vD o,vD o]at this;exact this
def Xd(f:Q3)(a b:List En)(r:Nat):En×Bool:=Qi r (qy f (zT a r) (zT b r))
def vE(f:Q3)(a b:List En)(r:Nat):Option En:=if (Xd f a b r).2 then some (Xd f a b r).1 else none
def zM(v:List En):List Nat:=v.map En.rep
noncomputable def ks (f:Q3) (a b:List En):List En:=(srt (zM a++zM b)).filterMap (vE f a b)
def xz{f:Q3}{a b:List En}{r:Nat}{e:En}(h:vE f a b r=some e):qy f (zT a r) (zT b r)≠[]/\e=(Xd f a b r).1/\e.rep=r:=by
 unfold vE Xd at h;split at h
 .rename_i h1;rw[zaj]at h1;simp at h1;cases h;exact⟨h1,rfl,by rw[qD h1]⟩
 .cases h
def zad{f:Q3}{a b:List En}{r:Nat}(h:qy f (zT a r) (zT b r)≠[]):vE f a b r=some (Xd f a b r).1:=by unfold vE;rw[vj];unfold Xd;rw[zaj];simpa using h
def Xr{a b:List En}(o:zsC a)(hb:zsC b):∀r∈srt (zM a++zM b),r<zk:=λr u=>by
 have:=qr.1 u;simp only[zM,wA,wy]at this;rcases this with⟨e,j,rfl⟩|⟨e,j,rfl⟩
 .exact(o.1 e j).2.2.2
 .exact(hb.1 e j).2.2.2
def xj{g:Nat->Option En}(j:∀r e,g r=some e->e.rep=r):∀{l:List Nat},YN l->(l.filterMap g).Pairwise λa b=>a.rep<b.rep
 |[],_=>List.Pairwise.nil
 | r::l,h=>by
   have o:=V2.1 h;rw[uJ];cases e:g r with
   |none=>exact xj j o.2
   |some x=>refine V2.2 ⟨λy A=>?_,xj j o.2⟩;obtain⟨B,u,w⟩:=ue.1 A;rw[j _ _ e,j _ _ w];exact o.1 B u
def Xe(f:Q3){a b:List En}(j:zsC a)(hb:zsC b):CanV (ks f a b):=by refine⟨λe w=>?_,xj (λr e h=>(xz h).2.2) (yi _)⟩;obtain⟨r,y,o⟩:=ue.1 w;obtain⟨u,rfl,_⟩:=xz o;exact zak (Xr j hb r y) (qH (qi j r) (qi hb r)) u
def zdv{f:Q3}(j:f false false=false):qy f [] []=[]:=
 vK (a:=[]) (b:=[]) trivial trivial trivial λx o=>by simp[j]
def JR{f:Q3}(E:f false false=false){a b:List En}(A:zsC a)(hb:zsC b)(r:Nat):zT (ks f a b) r=qy f (zT a r) (zT b r):=by
 by_cases h:qy f (zT a r) (zT b r)=[]
 .rw[h];refine qC λe j u=>?_;obtain⟨G,F,C⟩:=ue.1 j;obtain⟨o,_,w⟩:=xz C;rw[u]at w;subst w;exact o h
 .have B:r∈srt (zM a++zM b):=by
   refine qr.2 (wA.2 ?_);rcases Classical.em (r∈zM a)with o|o
   .exact .inl o
   .rcases Classical.em (r∈zM b)with y|y
    .exact .inr y
    .refine absurd ?_ h;rw[qC (v:=a) λe j u=>o (wy.2 ⟨e,j,u⟩),qC (v:=b) λe j u=>y (wy.2 ⟨e,j,u⟩)];exact zdv E
  have j:(Xd f a b r).1∈ks f a b:=ue.2 ⟨r,B,zad h⟩;have w:(Xd f a b r).1.rep=r:=(xz (zad h)).2.2;have:=kq (Xe f A hb).2 j;rw[w]at this;rw[this];exact JO (Xr A hb r B) (qH (qi A r) (qi hb r)) h
def zoY{f:Q3}(u:f false false=false){a b c:List En}(j:zsC a)(hb:zsC b)(o:CanV c)(h:∀r,zT c r=qy f (zT a r) (zT b r)):ks f a b=c:=
 Zk (Xe f j hb) o λr=>by rw[JR u j hb,h]
def QX(e:En):Option En:=if (kP e).2 then some (kP e).1 else none
def zi(v:List En):List En:=v.filterMap QX
def v9{e c:En}(h:QX e=some c):kn e≠[]/\c=(kP e).1/\c.rep=e.rep:=by
 unfold QX kP at h;split at h
 .rename_i h1;rw[zaj]at h1;simp at h1;cases h;exact⟨h1,rfl,by rw[qD h1]⟩
 .cases h
def jN:∀{v:List En},zsC v->CanV (zi v)
 |[],_=>⟨λe h=>(by cases h),List.Pairwise.nil⟩
 | x::v,h=>by
   have p:=V2.1 h.2;obtain⟨o,u⟩:=jN (v:=v) ⟨λe j=>h.1 e (by simp[j]),p.2⟩;unfold zi;rw[uJ];cases e:QX x with
   |none=>exact⟨o,u⟩
   | some c=>
     obtain⟨C,rfl,E⟩:=v9 e;have w:=h.1 x b7;refine⟨λe j=>?_,V2.2 ⟨λy B=>?_,u⟩⟩
     .rcases V3.1 j with rfl|j
      .exact zak w.2.2.2 (qT w) C
      .exact o e j
     .obtain⟨z,hz,A⟩:=ue.1 B;obtain⟨_,_,F⟩:=v9 A;rw[E,F];exact p.1 z hz
def ja:∀{v:List En},zsC v->∀r,zT (zi v) r=zT v r
 |[],_,r=>rfl
 | x::v,h,r=>by
   have p:=V2.1 h.2;have w:zsC v:=⟨λe j=>h.1 e (by simp[j]),p.2⟩;have ih:=ja w r;have u:=h.1 x b7;unfold zi at ih⊢;rw[uJ,qm];cases e:QX x with
   | none=>
     have hk:kn x=[]:=by
      unfold QX kP at e;rw[zaj]at e;by_cases o:kn x=[]
      .exact o
      .simp[o]at e
     show zT (v.filterMap QX) r=_;rw[ih];split
     .rename_i hr;rw[hk];exact qC λe j=>by have:=p.1 e j;omega
     .rfl
   | some c=>
     obtain⟨y,rfl,A⟩:=v9 e;show zT ((kP x).1::v.filterMap QX) r=_;rw[qm,A,ih];split
     .exact JO u.2.2.2 (qT u) y
     .rfl
section
variable {a b c:List En}
def fU0:zn false false=false:=rfl
def fM0:zm false false=false:=rfl
end
def zdd{f:Q3}{a b:List En}:∀e∈ks f a b,e.rep∈srt (zM a++zM b):=λe j=>by unfold ks at j;obtain⟨r,o,h⟩:=ue.1 j;rw[(xz h).2.2];exact o
def BV(n h:Nat)(v:List En):Prop:=zsC v/\v.length<=n/\∀e∈v,e.holes.length<=h
def ji{n h:Nat}{v:List En}(j:BV n h v)(r:Nat):(zT v r).length<=2*h+3:=by
 unfold zT;cases hf:v.find? (λe=>e.rep == r)with
 |none=>simp
 |some e=>have o:=j.2.2 e (uF hf);have u:=kW e;simp only;omega
def BV.mono{n h m k:Nat}{v:List En}(j:BV n h v)(o:n<=m)(u:h<=k):BV m k v:=⟨j.1,VS j.2.1 o,λe w=>VS (j.2.2 e w) u⟩
def zl9(r c:Nat):List En:=[(Qi r [⟨c,c⟩]).1]
def zmc{c:Nat}(j:c<zk):Nrm [⟨c,c⟩]:=⟨X4 _,Zp _,j,trivial⟩
def zkS{r c:Nat}(u:r<zk)(o:c<zk):CanV (zl9 r c):=⟨λe j=>by
 simp only[zl9,wD]at j;subst j;exact zak u (zmc o) b7,by simp[zl9]⟩
def zoD{r c:Nat}(u:r<zk)(o:c<zk):BV 1 5 (zl9 r c):=⟨(zkS u o).right,Zp _,λe j=>by
 simp only[zl9,wD]at j;subst j;have:=J0 r [⟨c,c⟩];simpa using this⟩
def zoE{r c:Nat}(u:r<zk)(o:c<zk)(x:Nat):zT (zl9 r c) x=if r=x then [⟨c,c⟩] else []:=by
 have j:(Qi r [⟨c,c⟩]).1.rep=r:=by rw[qD b7]
 unfold zl9;rw[qm,j,knV_nil,JO u (zmc o) b7]
end
end Go.Proofs.YtjdjjlkifdimkaaGreatDoor
