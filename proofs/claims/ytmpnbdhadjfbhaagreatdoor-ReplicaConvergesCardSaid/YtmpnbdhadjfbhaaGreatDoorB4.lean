import Derived.Deep.LoopGhost
import Derived.Deep.DeepCutAuto
import Derived.Deep.CutBlock
import Derived.Laws.AppendOwn
import Derived.Test.YtmpnbdhadjfbhaaGreatDoorB3
set_option maxHeartbeats 16000000
set_option linter.all false
namespace Go.Proofs.YtmpnbdhadjfbhaaGreatDoor
def dG{p:Prop}(h:p:=by simp [Value.oneCell']):p:=h
def tz:=@Go.bodyPost_ret
def tJ:=@Go.results_tmp
def tK:=@Go.results_none
def tP:=@Go.info_parts
def tT:=@Go.Boxed.new
def t9:=@Go.callsIn_of_wp_marks
def Tb:=@Go.run_takeDeferred
def Tt:=@Go.wpIn_wide
def Ty:=@Go.wpListIn_append_own
def TT:=@Go.ownsRow_succ
def TY:=@Go.CallsIn.inRound
open Go.Proofs.Tryz
open Go.Proofs.Tryz renaming prog->xT
section
open Go.RowKit
def Suf(a j:List Iv)(x:Nat):Prop:=∃d,a=d++j/\∀s∈d,s.hi<x
def Suf.refl(a:List Iv)(x:Nat):Suf a a x:=⟨[],rfl,λ_ h=>by cases h⟩
def Suf.mono{a j:List Iv}{x y:Nat}(h:Suf a j x)(w:x<=y):Suf a j y:=by obtain⟨d,o,u⟩:=h;exact⟨d,o,λs hs=>by have:=u s hs;omega⟩
def Suf.drop{a j:List Iv}{s:Iv}{x:Nat}(h:Suf a (s::j) x)(hs:s.hi<x):Suf a j x:=by obtain⟨d,o,u⟩:=h;exact⟨d++[s],by simp[o],λt ht=>by simp at ht;rcases ht with ht|rfl;exact u t ht;exact hs⟩
def Suf.mem_eq{a j:List Iv}{x z:Nat}(h:Suf a j x)(hz:x<=z):mem a z=mem j z:=by
 obtain⟨d,rfl,o⟩:=h;rw[yd];have:mem d z=false:=by
  cases e:mem d z with
  |false=>rfl
  |true=>obtain⟨s,hs,_,u⟩:=qf.1 e;have:=o s hs;omega
 rw[this,uz]
def Suf.nrm{a j:List Iv}{x n:Nat}(o:NF n a)(h:Suf a j x):NF n j:=by
 obtain⟨d,rfl,u⟩:=h;clear u;induction d generalizing n with
 |nil=>exact o
 |cons s d ih=>exact ih o.tail
def Suf.nxt_eq{a j:List Iv}{x z n:Nat}(u:NF n a)(h:Suf a j x)(hz:x<=z):ye a z=ye j z:=by
 obtain⟨d,rfl,o⟩:=h;induction d generalizing n with
 |nil=>rfl
 |cons s d ih=>rw[yb,zdt (by have:=o s b6;omega) u.2.1];exact ih (λt ht=>o t (by simp[ht])) u.2.2.2
def Qg{j:List Iv}{s:Iv}{x n:Nat}(o:NF n (s::j))(h:x<=s.hi):mem (s::j) x=decide (s.lo<=x):=by rw[mem_cons,o.2.2.2.mem_lt a8];simp[h]
def za1(x:Iv×Bool×Bool):Array Value:=#[.agg #[.int .u64 x.1.lo,.int .u64 x.1.hi],.agg #[.bool x.2.1,.bool x.2.2]]
structure PInv(a b:List Iv)(Ba Bb n0:Nat)(w:World)(x:Nat)(a' b':List Iv)(va vb:Value):Prop where
 bxa:Boxed w Ba 24 va
 bxb:Boxed w Bb 24 vb
 ra:RdR 0 n0 w va a'
 rb:RdR 0 n0 w vb b'
 sa:Suf a a' x
 sb:Suf b b' x
def PInv.at{a b:List Iv}{j o n0:Nat}{S:Nat->Prop}{w G:World}{x y:Nat}{A B:List Iv}{E F:Value}(h:PInv a b j o n0 w x A B E F)(hk:Keep S w G)(H:n0<=w.heap.size)(hs:∀k,k<n0\/k=j\/k=o->¬S k)(C:x<=y):
 PInv a b j o n0 G y A B E F:=
 ⟨hk.boxed h.bxa (hs _ (.inr (.inl rfl))),hk.boxed h.bxb (hs _ (.inr (.inr rfl))),h.ra.keep (Zp _) (Zp _) λb _ u=>hk.block b a8 (hs b (.inl u)),
  h.rb.keep (Zp _) (Zp _) λb _ u=>hk.block b a8 (hs b (.inl u)),h.sa.mono C,h.sb.mono C⟩
def PInv.setA{a b:List Iv}{o y u:Nat}{w:World}{x:Nat}{s:Iv}{A C:List Iv}{H j E:Value}(h:PInv a b o y u w x (s::A) C H E)(I:u<=o)(B:o≠y)(hs:s.hi<x)(G:RdR 0 u w j A):
 PInv a b o y u (w.setCell ⟨o,0,none⟩ j) x A C j E:=
 ⟨h.bxa.set j,h.bxb.other B.symm j,G.keep (Zp _) (Zp _) λb _ F=>tw _ _ _ _ (by show b≠o;omega),
  h.rb.keep (Zp _) (Zp _) λb _ F=>tw _ _ _ _ (by show b≠o;omega),h.sa.drop hs,h.sb⟩
def PInv.setB{a b:List Iv}{y o u:Nat}{w:World}{x:Nat}{s:Iv}{C A:List Iv}{E H j:Value}(h:PInv a b y o u w x C (s::A) E H)(I:u<=o)(B:y≠o)(hs:s.hi<x)(G:RdR 0 u w j A):
 PInv a b y o u (w.setCell ⟨o,0,none⟩ j) x C A E j:=
 ⟨h.bxa.other B j,h.bxb.set j,h.ra.keep (Zp _) (Zp _) λb _ F=>tw _ _ _ _ (by show b≠o;omega),
  G.keep (Zp _) (Zp _) λb _ F=>tw _ _ _ _ (by show b≠o;omega),h.sa,h.sb.drop hs⟩
def Fit(j:List Iv)(x:Nat):Prop:=∀s r,j=s::r->x<=s.hi
def RdR.tail{hi:Nat}{w:World}{u:Option Addr}{n o:Nat}{s:Iv}{l:List Iv}(h:RdR 0 hi w (.slice u n o) (s::l)):
 ∃b j,u=some ⟨b,j,none⟩/\n=l.length+1/\b<hi/\rdIv w b j s/\l.length+1<=o/\o<=maxLen/\RdR 0 hi w (.slice (if o=1 then some ⟨b,j,none⟩ else some ⟨b,j+2,none⟩) l.length (o-1)) l:=by
 obtain⟨a,c,F,y,C,E⟩:=h;obtain⟨rfl,rfl,rfl⟩:u=a/\n=(s::l).length/\o=c:=dJ F
 obtain⟨b,j,rfl,_,hb,B⟩:=E b6;refine⟨b,j,rfl,rfl,hb,(by have:=B 0 b6;rwa[Nat.zero_mul,ud]at this),dJ y,C,?_⟩;refine⟨_,_,rfl,by simp at y;omega,a8,λA=>?_⟩;have G:0<l.length:=wV.2 A;refine⟨b,j+2,by rw[Vq (by simp at y;omega)],X4 _,hb,λi hi=>?_⟩;have:=B (i+1) a9;rw[show j+(i+1)*2=j+2+i*2 from by omega]at this;simpa using this
set_option maxRecDepth 100000 in
def J7(a b:List Iv)(bz bA:Value)(T U n0:Nat)(W0:World)(ha:Nrm a)(hb:Nrm b)(aO:T≠U)(bh:n0<=T)(bi:n0<=U)
 (bg:PInv a b T U n0 W0 0 a b bz bA) :
 zbY xT 169 #[.pointer (some ⟨T,0,none⟩),.pointer (some ⟨U,0,none⟩)] za1 (λk=>k=T\/k=U) (λk=>k<n0\/k=T\/k=U) (yO a b) W0:=by
 intro l J Jx hJ bl hY h0;refine callsIn_wide.2 ?_;show Calls xT 169 #[.func (.yield l) #[] #[],.pointer (some ⟨T,0,none⟩),.pointer (some ⟨U,0,none⟩)] W0 _;have HJ:=qL hJ;have bH:=qL bl;have HY:=qL hY;clear hJ bl hY;go_enter func169,ntmps169
 go_wp2_with fail
 go_loopg [4] zk (λg x wr=>∃(o f:Nat) (a' b':List Iv) (va vb:Value) (pre:List (Iv×Bool×Bool)),x=.int .u64 o/\o<zk/\g=zk-o/\PInv a b T U n0 wr o a' b' va vb/\qA (yO a b=pre++QU a b f o)/\zk<=f+o/\J pre wr)
 case atStart=>exact⟨0,zk,a,b,bz,bA,[],rfl,xM,rfl,bg,rfl,a8,h0⟩
 case round=>
  obtain⟨o,f,a',b',va,vb,pre,rfl,hx,rfl,y,V,hf,j⟩:=hrel;clear h0 bg
  go_upto_block 2 with fail
  go_cut [] (λwc=>∃a2 O,PInv a b T U n0 wc o a2 b' O vb/\Fit a2 o/\J pre wc)
  case first=>
   go_wp2_with fail
   go_loopg [] a'.length (λg wl=>∃(a2:List Iv) (O:Value),g=a2.length/\PInv a b T U n0 wl o a2 b' O vb/\J pre wl)
   case atStart=>exact⟨a',va,rfl,y,j⟩
   case round=>
    clear y j;obtain⟨a2,O,rfl,y,j⟩:=hrel;have bC:=y.bxa.cell;have bE:=y.bxa.frozen;have F:=y.ra;cases a2 with
    | nil=>
      obtain⟨ad,az,rfl,_⟩:=F
      go_wp2
      go_meet
      exact⟨[],_,y,(λ_ _ e=>by cases e),j⟩
    | cons s r=>
      have aH:=F;obtain⟨ad,az,rfl,_⟩:=aH;obtain⟨bb,bF,rfl,_,bB,hs,bp,aV,aG⟩:=F.tail;obtain⟨c1,c2,s1,s2⟩:=hs;have HT:=qL aG;clear F aG;unfold maxLen at aV;by_cases aD:s.hi<o
      .by_cases h1:az=1
       .subst h1;obtain rfl:r=[]:=wH a8
        go_wp2;go_roundg 0;case measure=>simp
        case rel=>exact⟨[],_,rfl,y.setA bh aO aD (by have:=HT.o;simpa using this),HJ.o _ _ _ j ((Keep.refl _ _).setCell (p:=⟨T,0,none⟩) (λ_=>.inl rfl) _)⟩
       .go_wp2;go_roundg r.length;case measure=>simp
        case rel=>exact⟨r,_,rfl,y.setA bh aO aD (by have:=HT.o;rw[Vq h1]at this;simpa using this),HJ.o _ _ _ j ((Keep.refl _ _).setCell (p:=⟨T,0,none⟩) (λ_=>.inl rfl) _)⟩
      .go_wp2
       go_meet
       exact⟨s::r,_,y,(λ_ _ e=>by cases e;omega),j⟩
  case rest=>
   clear y j;obtain⟨a2,O,y,Q,j⟩:=hcut
   go_upto_block 4 with fail
   go_cut [] (λwc=>∃b2 Y,PInv a b T U n0 wc o a2 b2 O Y/\Fit b2 o/\J pre wc)
   case first=>
    go_wp2_with fail
    go_loopg [] b'.length (λg wl=>∃(b2:List Iv) (Y:Value),g=b2.length/\PInv a b T U n0 wl o a2 b2 O Y/\J pre wl)
    case atStart=>exact⟨b',vb,rfl,y,j⟩
    case round=>
     clear y j;obtain⟨b2,Y,rfl,y,j⟩:=hrel;have bC:=y.bxb.cell;have bE:=y.bxb.frozen;have F:=y.rb;cases b2 with
     | nil=>
       obtain⟨ad,az,rfl,_⟩:=F
       go_wp2
       go_meet
       exact⟨[],_,y,(λ_ _ e=>by cases e),j⟩
     | cons s r=>
       have aH:=F;obtain⟨ad,az,rfl,_⟩:=aH;obtain⟨bb,bF,rfl,_,bB,hs,bp,aV,aG⟩:=F.tail;obtain⟨c1,c2,s1,s2⟩:=hs;have HT:=qL aG;clear F aG;unfold maxLen at aV;by_cases aD:s.hi<o
       .by_cases h1:az=1
        .subst h1;obtain rfl:r=[]:=wH a8
         go_wp2;go_roundg 0;case measure=>simp
         case rel=>exact⟨[],_,rfl,y.setB bi aO aD (by have:=HT.o;simpa using this),HJ.o _ _ _ j ((Keep.refl _ _).setCell (p:=⟨U,0,none⟩) (λ_=>.inr rfl) _)⟩
        .go_wp2;go_roundg r.length;case measure=>simp
         case rel=>exact⟨r,_,rfl,y.setB bi aO aD (by have:=HT.o;rw[Vq h1]at this;simpa using this),HJ.o _ _ _ j ((Keep.refl _ _).setCell (p:=⟨U,0,none⟩) (λ_=>.inr rfl) _)⟩
       .go_wp2
        go_meet
        exact⟨s::r,_,y,(λ_ _ e=>by cases e;omega),j⟩
   case rest=>
    clear y j;obtain⟨b2,Y,y,L,j⟩:=hcut;go_upto_region 5 with fail
    go_cut [5] (λs5 wd=>∃Bs,s5=.pointer (some ⟨Bs,0,none⟩)/\PInv a b T U n0 wd o a2 b2 O Y/\J pre wd/\wd.cell? ⟨Bs,0,none⟩=some (.bool (mem a o))/\wd.cell? ⟨Bs,1,none⟩=some (.bool (mem b o))/\n0<=wd.heap.size)
    case first=>
     have aL:=y.sa.mem_eq (Zp _);have ae:=y.sb.mem_eq (Zp _);have aW:=y.sa.nrm ha;have aw:=y.sb.nrm hb;have ca:=y.bxa.cell;have cb:=y.bxb.cell;have aq:=y.bxa.lt;have ar:=y.bxb.lt;have F:=y.ra;have af:=y.rb;cases a2 with
     | nil=>
       obtain⟨ad,ab,rfl,_⟩:=F;have ax:=qL aL;clear aL aW;cases b2 with
       | nil=>
         obtain⟨bd,G,rfl,_⟩:=af;have ag:=qL ae;clear ae aw;have N:n0<=wc.heap.size:=a8;have HP:=qL (And.intro y (And.intro j (And.intro Q L)));clear y Q L aq ar hf;refine Kg (Sw:=qe) 24 99 (λZ=>Z.cell? ⟨T,0,none⟩=some (.slice ad 0 ab)/\Z.cell? ⟨U,0,none⟩=some (.slice bd 0 G)) dK dK rfl ⟨ca,cb⟩ ?_;simp only[wO,wZ];repeat (first
          |(refine zev ?_ rfl (λa w A _ X=>?_) ?_;rotate_left;(simp[Rds,zA,lk,Op.operands,Call.operands,RdEq]at X;go_simp;with_reducible rfl);simp only[Yf,yb])
          |(refine jI rfl ?_ ?_;(first|exact .inl (zG rfl rfl)|exact .inr (zG rfl rfl));simp only[Yf,yb])
          |(refine V6 rfl ?_ ?_ (λa w A _ X=>?_) ?_;exact(zG rfl rfl);rotate_left;(simp[Rds,zA,lk,Op.operands,Call.operands,RdEq]at X;go_simp;with_reducible rfl);simp only[Yf,yb]))
         refine V7 (λu w=>∃B,u=.pointer (some ⟨B,0,none⟩)/\w.heap[B]?=some (.cells #[.bool false,.bool false] 175 (0,0))/\wc.heap.size<=B) (λu w Z ⟨B,h1,h2,h3⟩ hk=>⟨B,h1,hk.obj h2 id,h3⟩) rfl ?_ ?_
         .intro a w A hk X K hK;have HK:=qL hK;clear hK;go_simp;exact HK.o _ _ ((Keep.refl _ _).alloc _) ⟨((Keep.refl qe w).alloc _).cell_some A.1 id,((Keep.refl qe w).alloc _).cell_some A.2 id⟩ ⟨w.heap.size,rfl,tn w _,hk.size⟩
         simp only[Yf,yb];intro w A hk;simp only[finG,WQ];rintro u ⟨B,rfl,H,I⟩;simp only[wM,Wg];have c0:w.cell? ⟨B,0,none⟩=some (.bool false):=(by simp[World.cell?,H]);have c1:w.cell? ⟨B,1,none⟩=some (.bool false):=(by simp[World.cell?,H]);have f0:w.frozen? ⟨B,0,none⟩=false:=(by simp[World.frozen?,H]);have f1:w.frozen? ⟨B,1,none⟩=false:=(by simp[World.frozen?,H]);clear H A;simp only[Act.put,wy,wR,wS]
         go_wp2
         go_meet
         have E:∀u v,Keep qe wc ((w.setCell ⟨B,0,none⟩ u).setCell ⟨B,1,none⟩ v):=λu v=>((((Keep.refl qe wc).drew).trans hk).setCell (p:=⟨B,0,none⟩) (λh=>by exact absurd h (dJ I)) _).setCell (p:=⟨B,1,none⟩) (λh=>by exact absurd h (dJ I)) _;exact⟨B,rfl,HP.o.1.at (E _ _) N (λ_ _=>id) (Zp _),HJ.o _ _ _ HP.o.2.1 ((E _ _).mono λ_ _ h=>h.elim),by rw[ax.o];go_simp,by rw[ag.o];go_simp,V1 N (E _ _).size⟩
       | cons t r2=>
         have bc:=af;obtain⟨bd,G,rfl,_⟩:=bc;obtain⟨bb,ob,rfl,_,_,aF,aU,aB,_⟩:=af.tail;have ag:=qL (ae.trans (Qg aw (L _ _ rfl)));have ct:=aF.1;unfold maxLen at aB;clear ae aw af aF;have N:n0<=wc.heap.size:=a8;have HP:=qL (And.intro y (And.intro j (And.intro Q L)));clear y Q L aq ar hf;refine Kg (Sw:=qe) 24 99 (λZ=>Z.cell? ⟨T,0,none⟩=some (.slice ad 0 ab)/\Z.cell? ⟨U,0,none⟩=some (.slice (some ⟨bb,ob,none⟩) (r2.length+1) G)/\Z.cell? ⟨bb,ob,none⟩=some (.int .u64 t.lo)) dK dK rfl ⟨ca,cb,ct⟩ ?_;simp only[wO,wZ];repeat (first
          |(refine zev ?_ rfl (λa w A _ X=>?_) ?_;rotate_left;(simp[Rds,zA,lk,Op.operands,Call.operands,RdEq]at X;go_simp;with_reducible rfl);simp only[Yf,yb])
          |(refine jI rfl ?_ ?_;(first|exact .inl (zG rfl rfl)|exact .inr (zG rfl rfl));simp only[Yf,yb])
          |(refine V6 rfl ?_ ?_ (λa w A _ X=>?_) ?_;exact(zG rfl rfl);rotate_left;(simp[Rds,zA,lk,Op.operands,Call.operands,RdEq]at X;go_simp;with_reducible rfl);simp only[Yf,yb]))
         refine V7 (λu w=>∃B,u=.pointer (some ⟨B,0,none⟩)/\w.heap[B]?=some (.cells #[.bool false,.bool false] 175 (0,0))/\wc.heap.size<=B) (λu w Z ⟨B,h1,h2,h3⟩ hk=>⟨B,h1,hk.obj h2 id,h3⟩) rfl ?_ ?_
         .intro a w A hk X K hK;have HK:=qL hK;clear hK;go_simp;exact HK.o _ _ ((Keep.refl _ _).alloc _) ⟨((Keep.refl qe w).alloc _).cell_some A.1 id,((Keep.refl qe w).alloc _).cell_some A.2.1 id,((Keep.refl qe w).alloc _).cell_some A.2.2 id⟩ ⟨w.heap.size,rfl,tn w _,hk.size⟩
         simp only[Yf,yb];intro w A hk;simp only[finG,WQ];rintro u ⟨B,rfl,H,I⟩;simp only[wM,Wg];have c0:w.cell? ⟨B,0,none⟩=some (.bool false):=(by simp[World.cell?,H]);have c1:w.cell? ⟨B,1,none⟩=some (.bool false):=(by simp[World.cell?,H]);have f0:w.frozen? ⟨B,0,none⟩=false:=(by simp[World.frozen?,H]);have f1:w.frozen? ⟨B,1,none⟩=false:=(by simp[World.frozen?,H]);clear H A;simp only[Act.put,wy,wR,wS]
         go_wp2
         go_meet
         have E:∀u v,Keep qe wc ((w.setCell ⟨B,0,none⟩ u).setCell ⟨B,1,none⟩ v):=λu v=>((((Keep.refl qe wc).drew).trans hk).setCell (p:=⟨B,0,none⟩) (λh=>by exact absurd h (dJ I)) _).setCell (p:=⟨B,1,none⟩) (λh=>by exact absurd h (dJ I)) _;exact⟨B,rfl,HP.o.1.at (E _ _) N (λ_ _=>id) (Zp _),HJ.o _ _ _ HP.o.2.1 ((E _ _).mono λ_ _ h=>h.elim),by rw[ax.o];go_simp,by rw[ag.o];go_simp,V1 N (E _ _).size⟩
     | cons s r1=>
       have aH:=F;obtain⟨ad,ab,rfl,_⟩:=aH;obtain⟨ba,oa,rfl,_,_,bw,bD,bq,_⟩:=F.tail;have ax:=qL (aL.trans (Qg aW (Q _ _ rfl)));have cs:=bw.1;unfold maxLen at bq;clear aL aW F bw;cases b2 with
       | nil=>
         obtain⟨bd,G,rfl,_⟩:=af;have ag:=qL ae;clear ae aw;have N:n0<=wc.heap.size:=a8;have HP:=qL (And.intro y (And.intro j (And.intro Q L)));clear y Q L aq ar hf;refine Kg (Sw:=qe) 24 99 (λZ=>Z.cell? ⟨T,0,none⟩=some (.slice (some ⟨ba,oa,none⟩) (r1.length+1) ab)/\Z.cell? ⟨U,0,none⟩=some (.slice bd 0 G)/\Z.cell? ⟨ba,oa,none⟩=some (.int .u64 s.lo)) dK dK rfl ⟨ca,cb,cs⟩ ?_;simp only[wO,wZ];repeat (first
          |(refine zev ?_ rfl (λa w A _ X=>?_) ?_;rotate_left;(simp[Rds,zA,lk,Op.operands,Call.operands,RdEq]at X;go_simp;with_reducible rfl);simp only[Yf,yb])
          |(refine jI rfl ?_ ?_;(first|exact .inl (zG rfl rfl)|exact .inr (zG rfl rfl));simp only[Yf,yb])
          |(refine V6 rfl ?_ ?_ (λa w A _ X=>?_) ?_;exact(zG rfl rfl);rotate_left;(simp[Rds,zA,lk,Op.operands,Call.operands,RdEq]at X;go_simp;with_reducible rfl);simp only[Yf,yb]))
         refine V7 (λu w=>∃B,u=.pointer (some ⟨B,0,none⟩)/\w.heap[B]?=some (.cells #[.bool false,.bool false] 175 (0,0))/\wc.heap.size<=B) (λu w Z ⟨B,h1,h2,h3⟩ hk=>⟨B,h1,hk.obj h2 id,h3⟩) rfl ?_ ?_
         .intro a w A hk X K hK;have HK:=qL hK;clear hK;go_simp;exact HK.o _ _ ((Keep.refl _ _).alloc _) ⟨((Keep.refl qe w).alloc _).cell_some A.1 id,((Keep.refl qe w).alloc _).cell_some A.2.1 id,((Keep.refl qe w).alloc _).cell_some A.2.2 id⟩ ⟨w.heap.size,rfl,tn w _,hk.size⟩
         simp only[Yf,yb];intro w A hk;simp only[finG,WQ];rintro u ⟨B,rfl,H,I⟩;simp only[wM,Wg];have c0:w.cell? ⟨B,0,none⟩=some (.bool false):=(by simp[World.cell?,H]);have c1:w.cell? ⟨B,1,none⟩=some (.bool false):=(by simp[World.cell?,H]);have f0:w.frozen? ⟨B,0,none⟩=false:=(by simp[World.frozen?,H]);have f1:w.frozen? ⟨B,1,none⟩=false:=(by simp[World.frozen?,H]);clear H A;simp only[Act.put,wy,wR,wS]
         go_wp2
         go_meet
         have E:∀u v,Keep qe wc ((w.setCell ⟨B,0,none⟩ u).setCell ⟨B,1,none⟩ v):=λu v=>((((Keep.refl qe wc).drew).trans hk).setCell (p:=⟨B,0,none⟩) (λh=>by exact absurd h (dJ I)) _).setCell (p:=⟨B,1,none⟩) (λh=>by exact absurd h (dJ I)) _;exact⟨B,rfl,HP.o.1.at (E _ _) N (λ_ _=>id) (Zp _),HJ.o _ _ _ HP.o.2.1 ((E _ _).mono λ_ _ h=>h.elim),by rw[ax.o];go_simp,by rw[ag.o];go_simp,V1 N (E _ _).size⟩
       | cons t r2=>
         have bc:=af;obtain⟨bd,G,rfl,_⟩:=bc;obtain⟨bb,ob,rfl,_,_,aF,aU,aB,_⟩:=af.tail;have ag:=qL (ae.trans (Qg aw (L _ _ rfl)));have ct:=aF.1;unfold maxLen at aB;clear ae aw af aF;have N:n0<=wc.heap.size:=a8;have HP:=qL (And.intro y (And.intro j (And.intro Q L)));clear y Q L aq ar hf;refine Kg (Sw:=qe) 24 99 (λZ=>Z.cell? ⟨T,0,none⟩=some (.slice (some ⟨ba,oa,none⟩) (r1.length+1) ab)/\Z.cell? ⟨U,0,none⟩=some (.slice (some ⟨bb,ob,none⟩) (r2.length+1) G)/\Z.cell? ⟨ba,oa,none⟩=some (.int .u64 s.lo)/\Z.cell? ⟨bb,ob,none⟩=some (.int .u64 t.lo)) dK dK rfl ⟨ca,cb,cs,ct⟩ ?_;simp only[wO,wZ];repeat (first
          |(refine zev ?_ rfl (λa w A _ X=>?_) ?_;rotate_left;(simp[Rds,zA,lk,Op.operands,Call.operands,RdEq]at X;go_simp;with_reducible rfl);simp only[Yf,yb])
          |(refine jI rfl ?_ ?_;(first|exact .inl (zG rfl rfl)|exact .inr (zG rfl rfl));simp only[Yf,yb])
          |(refine V6 rfl ?_ ?_ (λa w A _ X=>?_) ?_;exact(zG rfl rfl);rotate_left;(simp[Rds,zA,lk,Op.operands,Call.operands,RdEq]at X;go_simp;with_reducible rfl);simp only[Yf,yb]))
         refine V7 (λu w=>∃B,u=.pointer (some ⟨B,0,none⟩)/\w.heap[B]?=some (.cells #[.bool false,.bool false] 175 (0,0))/\wc.heap.size<=B) (λu w Z ⟨B,h1,h2,h3⟩ hk=>⟨B,h1,hk.obj h2 id,h3⟩) rfl ?_ ?_
         .intro a w A hk X K hK;have HK:=qL hK;clear hK;go_simp;exact HK.o _ _ ((Keep.refl _ _).alloc _) ⟨((Keep.refl qe w).alloc _).cell_some A.1 id,((Keep.refl qe w).alloc _).cell_some A.2.1 id,((Keep.refl qe w).alloc _).cell_some A.2.2.1 id,((Keep.refl qe w).alloc _).cell_some A.2.2.2 id⟩ ⟨w.heap.size,rfl,tn w _,hk.size⟩
         simp only[Yf,yb];intro w A hk;simp only[finG,WQ];rintro u ⟨B,rfl,H,I⟩;simp only[wM,Wg];have c0:w.cell? ⟨B,0,none⟩=some (.bool false):=(by simp[World.cell?,H]);have c1:w.cell? ⟨B,1,none⟩=some (.bool false):=(by simp[World.cell?,H]);have f0:w.frozen? ⟨B,0,none⟩=false:=(by simp[World.frozen?,H]);have f1:w.frozen? ⟨B,1,none⟩=false:=(by simp[World.frozen?,H]);clear H A;simp only[Act.put,wy,wR,wS]
         go_wp2
         go_meet
         have E:∀u v,Keep qe wc ((w.setCell ⟨B,0,none⟩ u).setCell ⟨B,1,none⟩ v):=λu v=>((((Keep.refl qe wc).drew).trans hk).setCell (p:=⟨B,0,none⟩) (λh=>by exact absurd h (dJ I)) _).setCell (p:=⟨B,1,none⟩) (λh=>by exact absurd h (dJ I)) _;exact⟨B,rfl,HP.o.1.at (E _ _) N (λ_ _=>id) (Zp _),HJ.o _ _ _ HP.o.2.1 ((E _ _).mono λ_ _ h=>h.elim),by rw[ax.o];go_simp,by rw[ag.o];go_simp,V1 N (E _ _).size⟩
    case rest=>
     clear y j;obtain⟨Bs,rfl,y,j,am,aE,aM⟩:=hcut;have bt:ye a o=ye a2 o:=y.sa.nxt_eq ha (Zp _);have bu:ye b o=ye b2 o:=y.sb.nxt_eq hb (Zp _);have ah:=qL bt;have ai:=qL bu;clear bt bu Q L;obtain⟨pa,aY⟩:∃p,mem a o=p:=⟨_,rfl⟩;obtain⟨pb,aZ⟩:∃p,mem b o=p:=⟨_,rfl⟩;rw[aY]at am;rw[aZ]at aE;have aR:=qL aY;have aS:=qL aZ;clear aY aZ;have ca:=y.bxa.cell;have bI:=y.bxb.lt;have aC:Bs<wc.heap.size:=tp wc _ am
     go_wp2_with fail
     refine(Vs a2 O o _ (y.ra.keep (Zp _) aM λ_ _ _=>rfl)).mono ?_;rintro e w1 ⟨n1,m1,rfl,aj,au⟩;clear ca;have aJ:=y.at (S:=qe) (Keep.of_below' au (Zp _)) aM (λ_ _=>id) (Zp _);have bj:=HJ.o _ _ _ j (Keep.of_below' au (Zp _));have am:=(au.cell (p:=⟨Bs,0,none⟩) aC).trans am;have aE:=(au.cell (p:=⟨Bs,1,none⟩) aC).trans aE;have aN:n0<=w1.heap.size:=V1 aM au.size;have aC:=tp w1 _ am;clear y j au aM;have cb:=aJ.bxb.cell
     go_wp2_with fail
     refine(Vs b2 Y o _ (aJ.rb.keep (Zp _) aN λ_ _ _=>rfl)).mono ?_;rintro e w2 ⟨n2,m2,rfl,ak,av⟩;clear cb;have bn:=aJ.at (S:=qe) (Keep.of_below' av (Zp _)) aN (λ_ _=>id) (Zp _);have aT:=HJ.o _ _ _ bj (Keep.of_below' av (Zp _));have am:=(av.cell (p:=⟨Bs,0,none⟩) aC).trans am;have aE:=(av.cell (p:=⟨Bs,1,none⟩) aC).trans aE;have br:n0<=w2.heap.size:=V1 aN av.size;clear aJ bj av aN;go_upto_region 8 with fail
     go_cut [81] (λbG wx=>∃c:Bool,bG=.bool c/\wx=w2/\qA (c=(m2 && (!m1 || decide (n2<n1)))))
     case first=>
      cases m2
      .go_wp2_with fail
       go_meet
       exact⟨false,rfl,rfl,rfl⟩
      .cases m1
       .go_wp2_with fail
        go_meet
        exact⟨true,rfl,rfl,rfl⟩
       .go_wp2_with fail
        go_meet
        exact⟨_,rfl,rfl,by simp[qA]⟩
     case rest=>
      obtain⟨c,rfl,rfl,A⟩:=hcut;cases c with
      | true=>
        have hm:m2=true/\kv (ye a o) (ye b o)=some n2:=by
         have:=A.o;rw[ah.o,ai.o,aj.o,ak.o];cases m2<;>cases m1<;>simp[kv]at this⊢;omega
        obtain⟨rfl,M⟩:=hm;have M:=qL M;have aX:qA (ye b o=some n2):=(by show _=_;rw[ai.o,ak.o];rfl);clear A aj ak ah ai;have aI:o<n2/\n2<zk:=(by have h:=aX.o;exact⟨xr h,vJ hb h⟩);obtain⟨P,rfl⟩:∃P,f=P+1:=⟨f-1,a8⟩;have C:qA (QU a b (P+1) o=(⟨o,n2-1⟩,pa,pb)::QU a b P n2):=by
         show QU a b (P+1) o=_
         conv=>lhs;unfold QU
         rw[M.o,aR.o,aS.o]
        obtain⟨fn,aQ,ao,aP,hy,hR⟩:=HY.o pre (⟨o,n2-1⟩,pa,pb) wc aT ⟨QU a b P n2,by rw[V.o,C.o];simp⟩;dsimp only[za1]at hy;have be:IntKind.u64.wrap ((n2:Int)-1)=((n2-1:Nat):Int):=Zj a8 aI.2;obtain⟨y1,an⟩:=xm (n2-1);rw[<-an]at hy be hR;have ay:=qL an;clear an;go_upto_region 13 with fail;refine(Tt (n:=8)).1 ?_
        gi_wp2
        refine hR.mono ?_;rintro e w3 (⟨rfl,aA,aK⟩|⟨rfl,ac⟩)
        .gi_wp2
         go_wp2;go_roundg (zk-n2);case measure=>omega
         case rel=>exact⟨n2,P,a2,b2,O,Y,pre++[(⟨o,y1⟩,pa,pb)],rfl,aI.2,rfl,bn.at aK br (λk hk h=>h hk) a8,by show yO a b=_;rw[V.o,C.o,ay.o];simp,a8,aA⟩
        .gi_wp2
         go_wp2;refine tz (tK rfl _ _ _) rfl ?_;exact⟨⟨_,rfl⟩,.inr ⟨pre++[(⟨o,y1⟩,pa,pb)],⟨QU a b P n2,by rw[V.o,C.o,ay.o];simp⟩,ac⟩⟩
      | false=>
        cases m1 with
        | true=>
          have M:qA (kv (ye a o) (ye b o)=some n1):=by
           have:=A.o;show _=_;rw[ah.o,ai.o,aj.o,ak.o];cases m2<;>simp[kv]at this⊢;omega
          have aX:qA (ye a o=some n1):=(by show _=_;rw[ah.o,aj.o];rfl);clear A aj ak ah ai;have aI:o<n1/\n1<zk:=(by have h:=aX.o;exact⟨xr h,vJ ha h⟩);obtain⟨P,rfl⟩:∃P,f=P+1:=⟨f-1,a8⟩;have C:qA (QU a b (P+1) o=(⟨o,n1-1⟩,pa,pb)::QU a b P n1):=by
           show QU a b (P+1) o=_
           conv=>lhs;unfold QU
           rw[M.o,aR.o,aS.o]
          obtain⟨fn,aQ,ao,aP,hy,hR⟩:=HY.o pre (⟨o,n1-1⟩,pa,pb) wc aT ⟨QU a b P n1,by rw[V.o,C.o];simp⟩;dsimp only[za1]at hy;have be:IntKind.u64.wrap ((n1:Int)-1)=((n1-1:Nat):Int):=Zj a8 aI.2;obtain⟨y1,an⟩:=xm (n1-1);rw[<-an]at hy be hR;have ay:=qL an;clear an;go_upto_region 13 with fail;refine(Tt (n:=8)).1 ?_
          gi_wp2
          refine hR.mono ?_;rintro e w3 (⟨rfl,aA,aK⟩|⟨rfl,ac⟩)
          .gi_wp2
           go_wp2;go_roundg (zk-n1);case measure=>omega
           case rel=>exact⟨n1,P,a2,b2,O,Y,pre++[(⟨o,y1⟩,pa,pb)],rfl,aI.2,rfl,bn.at aK br (λk hk h=>h hk) a8,by show yO a b=_;rw[V.o,C.o,ay.o];simp,a8,aA⟩
          .gi_wp2
           go_wp2;refine tz (tK rfl _ _ _) rfl ?_;exact⟨⟨_,rfl⟩,.inr ⟨pre++[(⟨o,y1⟩,pa,pb)],⟨QU a b P n1,by rw[V.o,C.o,ay.o];simp⟩,ac⟩⟩
        | false=>
          have M:qA (kv (ye a o) (ye b o)=none):=by
           have:=A.o;show _=_;rw[ah.o,ai.o,aj.o,ak.o];cases m2<;>simp[kv]at this⊢
          clear A aj ak ah ai;obtain⟨P,rfl⟩:∃P,f=P+1:=⟨f-1,a8⟩;have C:qA (QU a b (P+1) o=[(⟨o,zk-1⟩,pa,pb)]):=by
           show QU a b (P+1) o=_
           conv=>lhs;unfold QU
           rw[M.o,aR.o,aS.o]
          obtain⟨fn,aQ,ao,aP,hy,hR⟩:=HY.o pre (⟨o,zk-1⟩,pa,pb) wc aT ⟨[],by rw[V.o,C.o];simp⟩;dsimp only[za1]at hy;rw[show ((zk-1:Nat):Int)=18446744073709551615 from rfl]at hy;go_upto_region 13 with fail;refine(Tt (n:=8)).1 ?_
          gi_wp2
          refine hR.mono ?_;rintro e w3 (⟨rfl,aA,aK⟩|⟨rfl,ac⟩)
          .gi_wp2
           go_wp2;refine tz (tK rfl _ _ _) rfl ?_;exact⟨⟨_,rfl⟩,.inl (by rw[V.o,C.o];exact aA)⟩
          .gi_wp2
           go_wp2;refine tz (tK rfl _ _ _) rfl ?_;exact⟨⟨_,rfl⟩,.inr ⟨pre++[(⟨o,zk-1⟩,pa,pb)],⟨[],by rw[V.o,C.o];simp⟩,ac⟩⟩
attribute [local go_sem] Oper.semAt_some
def Jd(l:List Iv):List Nat:=l.flatMap λs=>[s.lo,s.hi+1]
def ZY(l:List Iv):(Jd l).length=2*l.length:=by
 induction l with
 |nil=>rfl
 |cons s l ih=>simp[Jd]at ih⊢;omega
def zah{l:List Iv}{x y:Nat}(h:ye l x=some y):y∈Jd l:=by
 induction l with
 |nil=>cases h
 | cons s l ih=>
   unfold ye at h;split at h
   .cases h;simp[Jd]
   .split at h
    .cases h;simp[Jd]
    .have:=ih h;simp[Jd]at this⊢;exact .inr (.inr this)
def YV(l:List Nat)(x:Nat):Nat:=l.countP λy=>decide (x<y)
def ZX(l:List Nat){x y:Nat}(h:x<y):YV l y<=YV l x:=by
 unfold YV;exact List.countP_mono_left λz _ hz=>by simp at hz⊢;omega
def zcr{l:List Nat}{x y:Nat}(h:x<y)(j:y∈l):YV l y+1<=YV l x:=by
 induction l with
 |nil=>cases j
 | cons z l ih=>
   unfold YV;rw[List.countP_cons,List.countP_cons];rcases wi.1 j with rfl|j
   .have:=ZX l h;unfold YV at this;simp[h];omega
   .have:=ih j;unfold YV at this;by_cases o:y<z
    .have u:x<z:=a8;simp[o,u];omega
    .simp[o];omega
def Qs(a b:List Iv):∀(f x:Nat),(QU a b f x).length<=YV (Jd a) x+YV (Jd b) x+1
 |0,_=>X4 _
 | f+1,x=>by
   unfold QU;cases h:kv (ye a x) (ye b x)with
   |none=>simp
   | some y=>
     have ih:=Qs a b f y;have:YV (Jd a) y+YV (Jd b) y+1<=YV (Jd a) x+YV (Jd b) x:=by
      have j:ye a x=some y\/ye b x=some y:=by
       cases ea:ye a x<;>cases eb:ye b x<;>rw[ea,eb]at h<;>simp only[kv]at h
       .cases h
       .exact .inr h
       .exact .inl h
       .split at h
        .exact .inr h
        .exact .inl h
      rcases j with h|h
      .have:=zcr (xr h) (zah h);have:=ZX (Jd b) (xr h);omega
      .have:=zcr (xr h) (zah h);have:=ZX (Jd a) (xr h);omega
     simp;omega
def jF(a b:List Iv):(yO a b).length<=2*(a.length+b.length)+1:=by
 have j:=Qs a b zk 0;have o:YV (Jd a) 0<=2*a.length:=by rw[<-ZY];exact U4
 have u:YV (Jd b) 0<=2*b.length:=by rw[<-ZY];exact U4
 unfold yO;omega
def J9(j:List Iv)(s:Iv):(Q8 j s).length<=j.length+1:=by
 unfold Q8;split
 .simp
 .rename_i t ht;split
  .have:j≠[]:=(by intro e;subst e;simp at ht);have:=wV.2 this;simp;try omega
  .simp
def jD(f:XE)(o:List (Iv×Bool×Bool)):∀j:List Iv,(qg f j o).length<=j.length+o.length:=by
 induction o with
 |nil=>intro j;simp[qg]
 | cons x o ih=>
   intro j;obtain⟨s,p,q⟩:=x;simp only[qg];by_cases e:f p q=true
   .have u:=ih (Q8 j s);have w:=J9 j s;rw[vD e];simp only[wv];omega
   .have u:=ih j;rw[Vq e];simp only[wv];omega
def xq{f:XE}{a b:List Iv}:∀(pre:List (Iv×Bool×Bool))(x:Nat)(j:List Iv)(y:Iv×Bool×Bool)(r:List (Iv×Bool×Bool)),Cov a b x (pre++y::r)->Nrm j->(∀t∈j,t.hi<x) ->
 Nrm (qg f j pre)/\(∀t∈qg f j pre,t.hi<y.1.lo)/\y.1.lo<=y.1.hi/\y.1.hi<zk
 |[],x,j,(s,p,q),r,⟨h1,h2,h3,_⟩,ho,ht=>⟨ho,λt h=>by have:=ht t h;show t.hi<s.lo;omega,by show s.lo<=s.hi;omega,h3⟩
 | (s,p,q)::pre,x,j,y,r,⟨h1,h2,h3,_,h5⟩,ho,ht=>by
   simp only[qg];have g:=Xm (s:=s) ho (λt h=>by have:=ht t h;omega) a8 h3;split
   .exact xq pre _ _ y r h5 g.1 λt h=>by have:=g.2.2 t h;omega
   .exact xq pre _ _ y r h5 ho λt h=>by have:=ht t h;omega
def zcT(o:List Iv)(t:Iv)(hi:Nat):(xw (o++[t])).set (o.length*2+1) (.int .u64 hi)=xw (o++[⟨t.lo,hi⟩]):=by rw[vy,vy,List.set_append_right _ _ (by rw[y6];omega),y6];congr 1;rw[show o.length*2+1-o.length*2=1 from by omega];rfl
def OwnR.last{base:Nat}{w:World}{A:Option Addr}{n j:Nat}{o:List Iv}{t:Iv}(h:OwnR base w (.slice A n j) (o++[t])):
 ∃g,base<=g/\A=some ⟨g,0,none⟩/\o.length+1<=j/\j<=maxLen/\w.cell? ⟨g,o.length*2,none⟩=some (.int .u64 t.lo)/\w.cell? ⟨g,o.length*2+1,none⟩=some (.int .u64 t.hi)/\t.lo<zk/\t.hi<zk:=by
 have hb:=h.2 t b6;have u:=h.1;rcases id u.2 with⟨_,F⟩|⟨g,B,E,C,H,J,I,G,_⟩
 .simp at F
 .simp only[Value.slice.injEq]at C;obtain⟨rfl,rfl,rfl⟩:=C;have y:=vz (o++[t]) o.length b6;simp only[List.getElem_concat_length]at y;refine⟨g,H,rfl,dJ I,G,?_,?_,hb⟩
  .rw[u.cellAt _ b6];exact y.1
  .rw[u.cellAt _ a9];exact y.2
def OwnR.setHi{base:Nat}{w:World}{g n j:Nat}{o:List Iv}{t:Iv}(h:OwnR base w (.slice (some ⟨g,0,none⟩) n j) (o++[t]))(C:n=o.length+1)(hi:Nat)(B:hi<zk):
 OwnR base (w.setCell ⟨g,o.length*2+1,none⟩ (.int .u64 hi)) (.slice (some ⟨g,0,none⟩) n j) (o++[⟨t.lo,hi⟩]):=by
 subst C;have A:=h.1;simp only[wj,wv,Ww,wn]at A;have:=(A.stored (o.length*2+1) (.int .u64 hi)).1;rw[zcT]at this;refine⟨dJ this,λu y=>?_⟩;simp at y;rcases y with y|rfl
 .exact h.2 u (by simp[y])
 .exact⟨(h.2 t b6).1,B⟩
set_option maxRecDepth 100000 in
def vG(f:XE)(C:Nat)(aW:∀an w,(callFunc C an).run xT w=.ok (.enter C an) w)
 (aS:∀p q w,Calls xT C #[.agg #[.bool p,.bool q]] w λe P=>e=.returned (.bool (f p q))/\Below w.heap.size w P)
 (a b:List Iv) (va vb:Value) (w:World) (ha:Nrm a) (hb:Nrm b) (ra:RdR 0 w.heap.size w va a) (rb:RdR 0 w.heap.size w vb b) (aX:a.length+b.length<=1073741824) :
 Calls xT 101 #[va,vb,.func (.func C) #[] #[]] w λe P=>∃v,e=.returned v/\OwnR w.heap.size P v (qy f a b)/\Below w.heap.size w P:=by
 obtain⟨aa,ca,rfl,_⟩:=id ra;obtain⟨ab,cb,rfl,_⟩:=id rb;refine callsIn_wide.1 (t9 (n:=9) func101 rfl trivial ?_ rfl);simp only[ntmps101,WA,wv,Ww,Nat.reduceAdd,Nat.reduceSub,uu,uv,uG,uw,Yf,yb]
 gi_wp2_with (refine⟨trivial,?_⟩;gi_at_call 139;refine(callsIn_wide.2 (Xi _ _ _ _ _ _ _)).mono ?_;rintro e P ⟨rfl,rfl⟩)
 obtain⟨W0,N⟩:=xt (((((w.alloc (Obj.cells #[Value.func (Fn.func C) #[] #[]] 176)).alloc (Obj.cells #[Value.slice none 0 0] 24)).alloc (Obj.cells #[Value.slice aa a.length ca] 24)).alloc (Obj.cells #[Value.slice ab b.length cb] 24)));have ba:W0.heap.size=w.heap.size+4:=by rw[<-N];simp
 have b0:Boxed W0 w.heap.size 176 (Value.func (Fn.func C) #[] #[]):=by rw[<-N];exact(((tT w _ _).alloc _).alloc _).alloc _
 have b1:Boxed W0 (w.heap.size+1) 24 (Value.slice none 0 0):=by rw[<-N];have:=tT (w.alloc (Obj.cells #[Value.func (Fn.func C) #[] #[]] 176)) 24 (Value.slice none 0 0);rw[tv]at this;exact(this.alloc _).alloc _
 have b2:Boxed W0 (w.heap.size+1+1) 24 (Value.slice aa a.length ca):=by rw[<-N];have:=tT ((w.alloc (Obj.cells #[Value.func (Fn.func C) #[] #[]] 176)).alloc (Obj.cells #[Value.slice none 0 0] 24)) 24 (Value.slice aa a.length ca);simp only[tv]at this;exact this.alloc _
 have b3:Boxed W0 (w.heap.size+1+1+1) 24 (Value.slice ab b.length cb):=by rw[<-N];have:=tT (((w.alloc (Obj.cells #[Value.func (Fn.func C) #[] #[]] 176)).alloc (Obj.cells #[Value.slice none 0 0] 24)).alloc (Obj.cells #[Value.slice aa a.length ca] 24)) 24 (Value.slice ab b.length cb);simp only[tv]at this;exact this
 have aw:Below w.heap.size w W0:=by rw[<-N];exact((((tr _ _).alloc (Zp _) _).alloc b6 _).alloc a9 _).alloc a9 _
 rw [N];clear N;have af:=j4 ha hb;have aR:=jF a b;refine ziP (w:=W0) 169 #[.pointer (some ⟨w.heap.size+1+1,0,none⟩),.pointer (some ⟨w.heap.size+1+1+1,0,none⟩)] rfl (enters_of func169 dK rfl) za1 (λ_=>rfl)
  (λk=>k=w.heap.size+1+1\/k=w.heap.size+1+1+1) (λk=>k<w.heap.size\/k=w.heap.size+1+1\/k=w.heap.size+1+1+1) (yO a b) ?hit
  (λk=>k=w.heap.size+1\/w.heap.size+6<=k) (λk hk=>a8) a8 ⟨a8,a8⟩
  (λpre W=>(∃v,Boxed W (w.heap.size+1) 24 v/\OwnR (w.heap.size+6) W v (qg f [] pre))/\Boxed W w.heap.size 176 (Value.func (Fn.func C) #[] #[])/\Below w.heap.size w W)
  (λ_ _ _=>False) ?hI (λ_ _ _ _ h _=>h) ⟨⟨_,b1,OwnR.nil _ _⟩,b0,aw⟩
  (λpre x a' W=>((∃v,Boxed W (w.heap.size+1) 24 v/\OwnR (w.heap.size+6) W v (qg f [] pre))/\Boxed W w.heap.size 176 (Value.func (Fn.func C) #[] #[])/\Below w.heap.size w W) /\
    ∃J Bs,W.heap[J]?=some (.cells #[.int .u64 x.1.lo,.int .u64 x.1.hi] 61 (0,0))/\W.heap[Bs]?=some (.cells #[.bool x.2.1,.bool x.2.2] 175 (0,0))/\w.heap.size+6<=J/\w.heap.size+6<=Bs /\
    a'={ tmps:=#[Value.slice aa a.length ca,Value.slice ab b.length cb,Value.func (Fn.func C) #[] #[],undef,undef,Value.pointer (some ⟨w.heap.size,0,none⟩),Value.slice none 0 0,Value.pointer (some ⟨w.heap.size+1,0,none⟩),Value.pointer (some ⟨J,0,none⟩),Value.pointer (some ⟨Bs,0,none⟩),undef,Value.slice aa a.length ca,Value.slice ab b.length cb,Value.func (Fn.func 169) #[] #[Value.pointer (some ⟨w.heap.size+1+1,0,none⟩),Value.pointer (some ⟨w.heap.size+1+1+1,0,none⟩)],.agg #[.int .u64 x.1.lo,.int .u64 x.1.hi],.agg #[.bool x.2.1,.bool x.2.2],undef,undef,undef,undef,undef,undef,undef,undef,undef,undef,undef,undef,undef,undef,undef,undef,undef,undef,undef,undef,undef,undef,undef,undef,undef,undef,undef,undef,undef],defers:=[] })
  ?hAx ?hassign ?hbody ?hdone (λ_ _ _ _ h _=>h.elim)
 case hit=>
  intro W hk _;exact J7 a b _ _ (w.heap.size+1+1) (w.heap.size+1+1+1) w.heap.size W ha hb a8 a8 a8
   ⟨hk.boxed b2 id,hk.boxed b3 id,ra.below (aw.trans (hk.below a8 λ_ _=>id)) (Zp _),rb.below (aw.trans (hk.below a8 λ_ _=>id)) (Zp _),Suf.refl _ _,Suf.refl _ _⟩
 case hI=>rintro pre A B ⟨⟨v,h1,h2⟩,h3,S⟩ hk;exact⟨⟨v,hk.boxed h1 a8,h2.keep hk (λg hg=>a8)⟩,hk.boxed h3 a8,S.trans (hk.below S.size λk hk=>a8)⟩
 case hAx=>rintro pre x a' A B ⟨⟨⟨v,h1,h2⟩,h3,S⟩,J,Bs,hp,hs,aE,aF,rfl⟩ hk;exact⟨⟨⟨v,hk.boxed h1 a8,h2.keep hk (λg hg=>a8)⟩,hk.boxed h3 a8,S.trans (hk.below S.size λk hk=>a8)⟩,J,Bs,hk.obj hp a8,hk.obj hs a8,aE,aF,rfl⟩
 case hassign=>
  rintro l pre ⟨⟨lo,hi⟩,p,q⟩ W Y aP ⟨⟨v,h1,h2⟩,h3,S⟩;clear Y;dsimp only[za1]
  gi_wp2
  have aO:∀o1 o2,Keep (λk=>k=w.heap.size+1\/w.heap.size+6<=k) W ((W.alloc o1).alloc o2):=λo1 o2=>((Keep.refl _ _).alloc _).alloc _;refine⟨aO _ _,⟨⟨v,(h1.alloc _).alloc _,(h2.keep ((Keep.refl qe W).alloc _) λ_ _=>id).keep ((Keep.refl qe _).alloc _) λ_ _=>id⟩,(h3.alloc _).alloc _,(S.alloc S.size _).alloc (by simp;have:=S.size;omega) _⟩,
   W.heap.size,W.heap.size+1,?_,?_,a8,a8,rfl⟩
  .exact(tu _ _ _ b6).trans (tn W _)
  .have:=tn (W.alloc (.cells #[.int .u64 lo,.int .u64 hi] 61)) (.cells #[.bool p,.bool q] 175)
   rwa[tv]at this
 case hbody=>
  rintro l pre x a' W ⟨r,Y⟩ aP ⟨⟨⟨v,h1,h2⟩,h3,S⟩,J,Bs,hp,hs,aE,aF,rfl⟩;obtain⟨⟨lo,hi⟩,p,q⟩:=x;obtain⟨m1,m2,m3,m4⟩:=xq (f:=f) pre 0 [] (⟨lo,hi⟩,p,q) r (by rw[show pre++(⟨lo,hi⟩,p,q)::r=yO a b from by rw[<-Y];simp];exact af) trivial (λ_ h=>by cases h);have aQ:=jD f pre [];have aZ:pre.length+1<=(yO a b).length:=(by rw[<-Y];simp);have c3:=h3.cell;have aK:W.cell? ⟨Bs,0,none⟩=some (.bool p):=(by simp[World.cell?,hs]);have aL:W.cell? ⟨Bs,1,none⟩=some (.bool q):=(by simp[World.cell?,hs]);obtain⟨i0,aA,aH,aI,aJ⟩:=tP Tryz.infoIv;have HM:=qL (And.intro Y (And.intro af (And.intro aR (And.intro m1 (And.intro m2 m3)))));dsimp only at m3 m4;clear Y af m1 m2 hs
  gi_wp2_with fail
  refine⟨trivial,CallsIn.mono (TY l (callsIn_wide.2 (aS p q W))) ?_⟩;rintro e W1 ⟨rfl,ax⟩;have X:Keep qe W W1:=Keep.of_below' ax (Zp _);have M:=X.boxed h1 id;have ae:=h2.keep X λ_ _=>id;have U:=X.boxed h3 id;have I:=S.trans (ax.mono S.size);have aD:=X.obj hp id;have ar:w.heap.size+6<=W1.heap.size:=(by have:=X.size;omega);have ah:=qL X;clear ax X h1 h2 h3 S hp c3 aK aL;obtain⟨ay,ag⟩:=xm (qg f [] pre);rw[<-ag]at ae aQ;have HO:=qL ag;clear ag;have c1:=M.cell;have T:W1.cell? ⟨J,0,none⟩=some (.int .u64 lo):=(by simp[World.cell?,aD]);have L:W1.cell? ⟨J,1,none⟩=some (.int .u64 hi):=(by simp[World.cell?,aD]);cases ht:f p q with
  | false=>
    have HT:=qL ht
    gi_wp2
    exact⟨ah.o.mono λ_ _ h=>h.elim,⟨v,M,by rw[yf];simp only[qg,HT.o,<-HO.o];exact ae⟩,U,I⟩
  | true=>
    have HT:=qL ht;obtain⟨ad,ai,rfl⟩:=ae.val;have HH:=qL ae;clear ae;rcases Ut ay with rfl|⟨E,t,rfl⟩
    .gi_wp2_with fail
     refine Kh (Sw:=qe) (λ_=>trivial) 11 45 (λ_=>True) dK dK rfl trivial ?_;simp only[wO,wZ];repeat (first
      |(refine V5 (λ_=>trivial) ?_ rfl (λa w H _ G=>?_) ?_;rotate_left;(simp[Rds,zA,lk,Op.operands,Call.operands,RdEq]at G;go_simp;with_reducible rfl);simp only[Yf,yb])
      |(refine jI rfl ?_ ?_;(first|exact .inl (zG rfl rfl)|exact .inr (zG rfl rfl));simp only[Yf,yb])
      |(refine QQ (λ_=>trivial) rfl ?_ ?_ (λa w H _ G=>?_) ?_;exact(zG rfl rfl);rotate_left;(simp[Rds,zA,lk,Op.operands,Call.operands,RdEq]at G;go_simp;with_reducible rfl);simp only[Yf,yb]))
     intro y _ O;simp only[finG,WQ,Yf,yb,wM,Wg,WR];simp only[Act.put,wy,wR,wS];have j:Keep qe W1 y:=((Keep.refl qe W1).drew).trans O;have e1:=j.boxed M id;have e3:=j.boxed U id;have e4:=I.trans (j.below I.size λ_ _=>id);have eo:=(HH.o).keep j λ_ _=>id;have Q:=qL (And.intro eo (And.intro e3 e4));have d1:=e1.cell;have d2:y.cell? ⟨J,0,none⟩=some (.int .u64 lo):=j.cell_some T id;have d3:y.cell? ⟨J,1,none⟩=some (.int .u64 hi):=j.cell_some L id;have aC:w.heap.size+6<=y.heap.size:=V1 ar j.size;have ac:=qL j;clear O j e3 e4 eo c1 T L M U I
     gi_wp2_with (gi_at_builtin;go_loud (refine Ty _ rfl _ _ 24 rfl (w.heap.size+6) 61 i0 (.agg #[.int .u64 0,.int .u64 0]) 2 16 underlying24 aA aH aI aJ rfl b8 _ _ _ rfl (Q.o.1.1.alloc _) ⟨y.heap.size,0,none⟩ 1 1 [.int .u64 lo,.int .u64 hi] rfl rfl (kw (cs:=#[.int .u64 lo,.int .u64 hi]) (t := 61) (fr:=(0,0)) (tn y _)) dG (by unfold maxLen;first|decide|omega) (by first|decide|omega) (by rw[tv];omega) ?_);intro v' w3 F V _;obtain⟨g',az,rfl⟩:=TT F;obtain⟨q1,q2,q3,q4⟩:=qO e1 b8 Q.o.1.1 F V;have aT:=q1.cell;have aU:=q1.frozen)
     refine⟨((ah.o.trans ac.o).mono λ_ _ h=>h.elim).trans (q4.mono λk _ h=>h),⟨_,q2,?_⟩,q4.boxed Q.o.2.1 a8,Q.o.2.2.trans (q4.below Q.o.2.2.size λk _=>a8)⟩;rw[yf];simp only[qg,HT.o,UJ,<-HO.o];exact Q.o.1.snoc ⟨by show lo<zk;omega,by show hi<zk;omega⟩ q3
    .simp only[Uu,wj,wv,Ww,wn]at *;obtain⟨g,aN,rfl,aV,aM,ao,aq,bc⟩:=HH.o.last;have am:t.lo<=t.hi/\t.hi<zk:=by have:=NF.lo_ge HM.o.2.2.2.1 t (by rw[<-HO.o];simp);exact⟨this.2.1,this.2.2⟩
     have aG:t.hi<lo:=HM.o.2.2.2.2.1 t (by rw[<-HO.o];simp);have av:W1.cell? ⟨g,E.length*2,none⟩=some (.int .u64 t.lo):=ao;have aj:W1.cell? ⟨g,E.length*2+1,none⟩=some (.int .u64 t.hi):=aq;clear ao aq;unfold maxLen at aM;have aY:((E.length:Nat):Int)<(E.length:Int)+1:=a8
     gi_wp2_with fail
     by_cases Z:t.hi+1=lo
     .have hrel:(((relate t ⟨lo,hi⟩:Nat):Int) == 1)=true:=(by have:relate t ⟨lo,hi⟩=1:=(by unfold relate;rw[vD aG,vD Z]);rw[this];rfl);have au:=qL Z;clear Z;refine Kh (Sw:=qe) (λ_=>trivial) 11 45 (λP=>P.cell? ⟨w.heap.size+1,0,none⟩=some (.slice (some ⟨g,0,none⟩) (E.length+1) ai)/\P.cell? ⟨g,E.length*2,none⟩=some (.int .u64 t.lo)/\P.cell? ⟨g,E.length*2+1,none⟩=some (.int .u64 t.hi)/\P.cell? ⟨J,0,none⟩=some (.int .u64 lo)/\P.cell? ⟨J,1,none⟩=some (.int .u64 hi)) dK dK rfl ⟨c1,av,aj,T,L⟩ ?_;simp only[wO,wZ];repeat (first
       |(refine V5 (λ_=>trivial) ?_ rfl (λa w H _ G=>?_) ?_;rotate_left;(simp[Rds,zA,lk,Op.operands,Call.operands,RdEq]at G;go_simp;with_reducible rfl);simp only[Yf,yb])
       |(refine jI rfl ?_ ?_;(first|exact .inl (zG rfl rfl)|exact .inr (zG rfl rfl));simp only[Yf,yb])
       |(refine QQ (λ_=>trivial) rfl ?_ ?_ (λa w H _ G=>?_) ?_;exact(zG rfl rfl);rotate_left;(simp[Rds,zA,lk,Op.operands,Call.operands,RdEq]at G;go_simp;with_reducible rfl);simp only[Yf,yb]))
      refine zhg (λu _=>u=.int .i64 ((relate t ⟨lo,hi⟩:Nat):Int)) (yj _) rfl (zG rfl rfl) ?_ ?_
      .intro a2 y H hk G K hK;have HK:=qL hK;clear hK;simp[Rds,zA,lk,Op.operands,Call.operands,RdEq]at G;refine⟨λ_ _=>trivial,?_⟩;go_simp;refine CallsIn.mono (TY l (callsIn_wide.2 (QF t ⟨lo,hi⟩ _ am.1 (by show lo<=hi;omega) am.2 (by show hi<zk;omega)))) ?_;rintro e w3 ⟨rfl,hb⟩;have o:Keep qe y w3:=Keep.of_below' hb (Zp _);exact HK.o _ _ o ⟨o.cell_some H.1 id,o.cell_some H.2.1 id,o.cell_some H.2.2.1 id,o.cell_some H.2.2.2.1 id,o.cell_some H.2.2.2.2 id⟩ rfl
      simp only[Yf,yb];repeat (first
       |(refine V5 (λ_=>trivial) ?_ rfl (λa w H _ G=>?_) ?_;rotate_left;(simp[Rds,zA,lk,Op.operands,Call.operands,RdEq]at G;go_simp;with_reducible rfl);simp only[Yf,yb])
       |(refine jI rfl ?_ ?_;(first|exact .inl (zG rfl rfl)|exact .inr (zG rfl rfl));simp only[Yf,yb])
       |(refine QQ (λ_=>trivial) rfl ?_ ?_ (λa w H _ G=>?_) ?_;exact(zG rfl rfl);rotate_left;(simp[Rds,zA,lk,Op.operands,Call.operands,RdEq]at G;go_simp;with_reducible rfl);simp only[Yf,yb]))
      intro y _ O;simp only[finG,WQ,Yf,yb,wM,Wg,WR];simp only[Act.put,wy,wR,wS];have j:Keep qe W1 y:=((Keep.refl qe W1).drew).trans O;have e1:=j.boxed M id;have e3:=j.boxed U id;have e4:=I.trans (j.below I.size λ_ _=>id);have eo:=(HH.o).keep j λ_ _=>id;have er:y.ownsRow (w.heap.size+6) 61 2 (.slice (some ⟨g,0,none⟩) (E.length+1) ai) (E.length+1) (xw (E++[t])):=(by have:=eo.1;simpa using this);have ER:=qL er;have Q:=qL (And.intro eo (And.intro e3 e4));have d1:=e1.cell;have d3:y.cell? ⟨J,1,none⟩=some (.int .u64 hi):=j.cell_some L id;have d4:y.cell? ⟨g,E.length*2+1,none⟩=some (.int .u64 t.hi):=j.cell_some aj id;have d5:y.frozen? ⟨g,E.length*2+1,none⟩=false:=er.frozenAt _;have ac:=qL j;clear O j e3 e4 eo er c1 T L av aj M U I
      gi_wp2
      have ak:Keep (λk=>k=g) y (y.setCell ⟨g,E.length*2+1,none⟩ (.int .u64 hi)):=(Keep.refl (λk=>k=g) y).setCell (p:=⟨g,E.length*2+1,none⟩) (λ_=>rfl) _;refine⟨((ah.o.trans ac.o).mono λ_ _ h=>h.elim).trans (ak.mono λk _ h=>.inr (by rw[h];exact aN)),⟨_,ak.boxed e1 a8,?_⟩,ak.boxed Q.o.2.1 a8,Q.o.2.2.trans (ak.below Q.o.2.2.size λk hk=>a8)⟩;rw[yf];simp only[qg,HT.o,UJ,<-HO.o];rw[show Q8 (E++[t]) ⟨lo,hi⟩=E++[⟨t.lo,hi⟩] from by unfold Q8;rw[u0];simp only;rw[vD au.o,ta]];exact Q.o.1.setHi rfl hi a8
     .have hrel:(((relate t ⟨lo,hi⟩:Nat):Int) == 1)=false:=(by have:relate t ⟨lo,hi⟩=0:=(by unfold relate;rw[vD aG,Vq Z]);rw[this];rfl);have au:=qL Z;clear Z;refine Kh (Sw:=qe) (λ_=>trivial) 11 45 (λP=>P.cell? ⟨w.heap.size+1,0,none⟩=some (.slice (some ⟨g,0,none⟩) (E.length+1) ai)/\P.cell? ⟨g,E.length*2,none⟩=some (.int .u64 t.lo)/\P.cell? ⟨g,E.length*2+1,none⟩=some (.int .u64 t.hi)/\P.cell? ⟨J,0,none⟩=some (.int .u64 lo)/\P.cell? ⟨J,1,none⟩=some (.int .u64 hi)) dK dK rfl ⟨c1,av,aj,T,L⟩ ?_;simp only[wO,wZ];repeat (first
       |(refine V5 (λ_=>trivial) ?_ rfl (λa w H _ G=>?_) ?_;rotate_left;(simp[Rds,zA,lk,Op.operands,Call.operands,RdEq]at G;go_simp;with_reducible rfl);simp only[Yf,yb])
       |(refine jI rfl ?_ ?_;(first|exact .inl (zG rfl rfl)|exact .inr (zG rfl rfl));simp only[Yf,yb])
       |(refine QQ (λ_=>trivial) rfl ?_ ?_ (λa w H _ G=>?_) ?_;exact(zG rfl rfl);rotate_left;(simp[Rds,zA,lk,Op.operands,Call.operands,RdEq]at G;go_simp;with_reducible rfl);simp only[Yf,yb]))
      refine zhg (λu _=>u=.int .i64 ((relate t ⟨lo,hi⟩:Nat):Int)) (yj _) rfl (zG rfl rfl) ?_ ?_
      .intro a2 y H hk G K hK;have HK:=qL hK;clear hK;simp[Rds,zA,lk,Op.operands,Call.operands,RdEq]at G;refine⟨λ_ _=>trivial,?_⟩;go_simp;refine CallsIn.mono (TY l (callsIn_wide.2 (QF t ⟨lo,hi⟩ _ am.1 (by show lo<=hi;omega) am.2 (by show hi<zk;omega)))) ?_;rintro e w3 ⟨rfl,hb⟩;have o:Keep qe y w3:=Keep.of_below' hb (Zp _);exact HK.o _ _ o ⟨o.cell_some H.1 id,o.cell_some H.2.1 id,o.cell_some H.2.2.1 id,o.cell_some H.2.2.2.1 id,o.cell_some H.2.2.2.2 id⟩ rfl
      simp only[Yf,yb];repeat (first
       |(refine V5 (λ_=>trivial) ?_ rfl (λa w H _ G=>?_) ?_;rotate_left;(simp[Rds,zA,lk,Op.operands,Call.operands,RdEq]at G;go_simp;with_reducible rfl);simp only[Yf,yb])
       |(refine jI rfl ?_ ?_;(first|exact .inl (zG rfl rfl)|exact .inr (zG rfl rfl));simp only[Yf,yb])
       |(refine QQ (λ_=>trivial) rfl ?_ ?_ (λa w H _ G=>?_) ?_;exact(zG rfl rfl);rotate_left;(simp[Rds,zA,lk,Op.operands,Call.operands,RdEq]at G;go_simp;with_reducible rfl);simp only[Yf,yb]))
      intro y _ O;simp only[finG,WQ,Yf,yb,wM,Wg,WR];simp only[Act.put,wy,wR,wS];have j:Keep qe W1 y:=((Keep.refl qe W1).drew).trans O;have e1:=j.boxed M id;have e3:=j.boxed U id;have e4:=I.trans (j.below I.size λ_ _=>id);have eo:=(HH.o).keep j λ_ _=>id;have er:y.ownsRow (w.heap.size+6) 61 2 (.slice (some ⟨g,0,none⟩) (E.length+1) ai) (E.length+1) (xw (E++[t])):=(by have:=eo.1;simpa using this);have ER:=qL er;have Q:=qL (And.intro eo (And.intro e3 e4));have d1:=e1.cell;have d2:y.cell? ⟨J,0,none⟩=some (.int .u64 lo):=j.cell_some T id;have d3:y.cell? ⟨J,1,none⟩=some (.int .u64 hi):=j.cell_some L id;have aC:w.heap.size+6<=y.heap.size:=V1 ar j.size;have ac:=qL j;clear O j e3 e4 eo er c1 T L M U I
      gi_wp2_with (gi_at_builtin;go_loud (refine Ty _ rfl _ _ 24 rfl (w.heap.size+6) 61 i0 (.agg #[.int .u64 0,.int .u64 0]) 2 16 underlying24 aA aH aI aJ rfl b8 _ _ _ rfl (ER.o.alloc _) ⟨y.heap.size,0,none⟩ 1 1 [.int .u64 lo,.int .u64 hi] rfl rfl (kw (cs:=#[.int .u64 lo,.int .u64 hi]) (t := 61) (fr:=(0,0)) (tn y _)) dG (by unfold maxLen;first|decide|omega) (by first|decide|omega) (by rw[tv];omega) ?_);intro v' w3 F V _;obtain⟨g',az,rfl⟩:=TT F;obtain⟨q1,q2,q3,q4⟩:=qO e1 b8 ER.o F V;have aT:=q1.cell;have aU:=q1.frozen)
      refine⟨((ah.o.trans ac.o).mono λ_ _ h=>h.elim).trans (q4.mono λk _ h=>h),⟨_,q2,?_⟩,q4.boxed Q.o.2.1 a8,Q.o.2.2.trans (q4.below Q.o.2.2.size λk _=>a8)⟩;rw[yf];simp only[qg,HT.o,UJ,<-HO.o];rw[show Q8 (E++[t]) ⟨lo,hi⟩=E++[t]++[⟨lo,hi⟩] from by unfold Q8;rw[u0];simp only;rw[Vq au.o]];exact Q.o.1.snoc ⟨by show lo<zk;omega,by show hi<zk;omega⟩ (dJ q3)
 case hdone=>
  rintro W ⟨⟨v,h1,h2⟩,h3,S⟩ hD;have H:=h1.cell
  gi_wp2
  refine⟨b6,.inl ⟨_,_,rfl,Tb hD,?_⟩⟩;have aB:Keep (λk=>k=W0.heap.size) W (W.putObj W0.heap.size (.deferred none)):=(Keep.refl (λk=>k=W0.heap.size) W).putObj (λ_=>rfl) _;exact⟨_,tJ rfl _ _ _,v,rfl,(h2.keep aB λg hg=>a8).mono a8,S.trans (aB.below S.size λk hk=>a8)⟩
attribute [local go_sem] Oper.semAt_some
def zn(p q:Bool):Bool:=p || q
def fMeet(p q:Bool):Bool:=p && q
def zm(p q:Bool):Bool:=p && !q
def V4(a b:List Iv)(o u:Value)(w:World)(C:Nrm a)(hb:Nrm b)(ra:RdR 0 w.heap.size w o a)(rb:RdR 0 w.heap.size w u b)(j:a.length+b.length<=1073741824):
 Calls xT 108 #[o,u] w λe y=>∃v,e=.returned v/\OwnR w.heap.size y v (qy zn a b)/\Below w.heap.size w y:=by
 have A:=vG zn 148 (enters_of func148 dK rfl) Kq a b o u w C hb ra rb j;have B:=qL A;clear A;obtain⟨E,G,rfl,_⟩:=ra;obtain⟨F,H,rfl,_⟩:=rb;go_enter func108,ntmps108
 go_wp2_with (go_at_call 101;refine B.o.mono ?_;rintro e y ⟨v,rfl,I,hb⟩)
 go_ret;exact⟨_,rfl,‹_›,‹_›⟩
def JW(a b:List Iv)(o u:Value)(w:World)(C:Nrm a)(hb:Nrm b)(ra:RdR 0 w.heap.size w o a)(rb:RdR 0 w.heap.size w u b)(j:a.length+b.length<=1073741824):
 Calls xT 61 #[o,u] w λe y=>∃v,e=.returned v/\OwnR w.heap.size y v (qy fMeet a b)/\Below w.heap.size w y:=by
 have A:=vG fMeet 102 (enters_of func102 dK rfl) zbP a b o u w C hb ra rb j;have B:=qL A;clear A;obtain⟨E,G,rfl,_⟩:=ra;obtain⟨F,H,rfl,_⟩:=rb;go_enter func61,ntmps61
 go_wp2_with (go_at_call 101;refine B.o.mono ?_;rintro e y ⟨v,rfl,I,hb⟩)
 go_ret;exact⟨_,rfl,‹_›,‹_›⟩
def Zu(a b:List Iv)(o u:Value)(w:World)(C:Nrm a)(hb:Nrm b)(ra:RdR 0 w.heap.size w o a)(rb:RdR 0 w.heap.size w u b)(j:a.length+b.length<=1073741824):
 Calls xT 194 #[o,u] w λe y=>∃v,e=.returned v/\OwnR w.heap.size y v (qy zm a b)/\Below w.heap.size w y:=by
 have A:=vG zm 208 (enters_of func208 dK rfl) Kp a b o u w C hb ra rb j;have B:=qL A;clear A;obtain⟨E,G,rfl,_⟩:=ra;obtain⟨F,H,rfl,_⟩:=rb;go_enter func194,ntmps194
 go_wp2_with (go_at_call 101;refine B.o.mono ?_;rintro e y ⟨v,rfl,I,hb⟩)
 go_ret;exact⟨_,rfl,‹_›,‹_›⟩
def ziL{w:World}{B:Nat}{s:Iv}(h:w.heap[B]?=some (.cells #[.int .u64 s.lo,.int .u64 s.hi] 61 (0,0)))(j:s.lo<zk)(o:s.hi<zk):RdR 0 w.heap.size w (.slice (some ⟨B,0,none⟩) 1 1) [s]:=by
 refine⟨_,1,rfl,b6,b8,λ_=>⟨B,0,rfl,X4 _,(XV.1 h).1,λi hi=>?_⟩⟩;obtain rfl:i=0:=dJ hi
 exact⟨by simp[World.cell?,h],by simp[World.cell?,h],j,o⟩
def zbn(a:List Iv)(B:Value)(s:Iv)(w:World)(E:Nrm a)(hs:s.lo<=s.hi)(u:s.hi<zk)(ra:RdR 0 w.heap.size w B a)(A:a.length<=1073741823):
 Calls xT 152 #[B,.agg #[.int .u64 s.lo,.int .u64 s.hi]] w λe C=>∃v,e=.returned v/\OwnR w.heap.size C v (qy zm [s] a)/\Below w.heap.size w C:=by
 obtain⟨H,I,rfl,_⟩:=id ra;go_enter func152,ntmps152
 go_wp2_with fail
 obtain⟨y,o⟩:=xt (((w.alloc (Obj.cells #[Value.int IntKind.u64 s.lo,Value.int IntKind.u64 s.hi] 61)).alloc (Obj.cells #[Value.int IntKind.u64 s.lo,Value.int IntKind.u64 s.hi] 61)));have j:Below w.heap.size w y:=by rw[<-o];exact((tr _ _).alloc (Zp _) _).alloc b6 _
 have F:y.heap[w.heap.size+1]?=some (.cells #[.int .u64 s.lo,.int .u64 s.hi] 61 (0,0)):=by
  rw[<-o];have:=tn (w.alloc (Obj.cells #[Value.int IntKind.u64 s.lo,Value.int IntKind.u64 s.hi] 61)) (Obj.cells #[Value.int IntKind.u64 s.lo,Value.int IntKind.u64 s.hi] 61);rwa[tv]at this
 rw[o];clear o;refine(Zu [s] a _ _ y ⟨X4 _,hs,u,trivial⟩ E (ziL F a8 u) ((ra.below j (Zp _)).keep (Zp _) j.size λ_ _ _=>rfl) a9).mono ?_;rintro e J ⟨v,rfl,G,hb⟩
 go_wp2;go_ret;exact⟨_,rfl,G.mono j.size,j.trans (hb.mono j.size)⟩
attribute [local go_sem] Oper.semAt_some
def zmw:Option Value:=some (.iface 190 (.agg #[.pointer (some ⟨1,41,none⟩)]))
def GL(D:Qk)(w:World):Prop:=∀x,zmw=some x->D 0 0/\w.cell? ⟨0,0,none⟩=some x
def GL.mono{D D':Qk}{w w':World}(h:GL D w)(u:∀b o,D b o->D' b o)(y:∀b o x,D b o->w.cell? ⟨b,o,none⟩=some x->w'.cell? ⟨b,o,none⟩=some x):GL D' w':=λx j=>⟨u _ _ (h x j).1,y _ _ _ (h x j).1 (h x j).2⟩
inductive Ow where
 |sh
 |z
 |n (sz:Nat)
 |p (i:Nat)
 |r (n sz:Nat)
inductive PV where
 |v (x:Value)
 |agg (cs:List PV)
 |tup (cs:List PV)
 |sl (es:List (List PV)) (o:Ow)
 |cp (cs:List PV) (o:Nat)
 |bx (i o:Nat)
 |fn (f:Fn) (fs cs:List PV)
 |ifc (t:TypeId) (x:PV)
 |und
inductive Dat(D:Qk)(w:World):Value->PV->Prop where
 |v (x:Value):Dat D w x (.v x)
 |und (x:Value):Dat D w x .und
 |agg (vs:Array Value) (cs:List PV) (hs:vs.size=cs.length) (h1:∀i,i<cs.length->(vs.getD i undef).oneCell'=true) (h:∀(i:Nat)(p:PV),cs[i]?=some p->Dat D w (vs.getD i undef) p):Dat D w (.agg vs) (.agg cs)
 |tup (vs:Array Value) (cs:List PV) (hs:vs.size=cs.length) (h:∀(i:Nat)(p:PV),cs[i]?=some p->Dat D w (vs.getD i undef) p):Dat D w (.tuple vs) (.tup cs)
 |fn (f:Fn) (va vb:Array Value) (fs cs:List PV) (h1:va.size=fs.length) (h2:vb.size=cs.length) (h3:∀(i:Nat)(p:PV),fs[i]?=some p->Dat D w (va.getD i undef) p) (h4:∀(i:Nat)(p:PV),cs[i]?=some p->Dat D w (vb.getD i undef) p):Dat D w (.func f va vb) (.fn f fs cs)
 |ifc (t:TypeId) (x:Value) (p:PV) (h:Dat D w x p):Dat D w (.iface t x) (.ifc t p)
 |sl (a:Option Addr) (cap sz:Nat) (es:List (List PV)) (o:Ow) (b off:Nat) (u:Nat->Value) (hc:es.length<=cap) (hz:o=.z->cap=es.length) (hm:cap<=maxLen) (ha:es≠[]->a=some ⟨b,off,none⟩)
    (hsz:∀(i:Nat)(e:List PV),es[i]?=some e->e.length=sz) (hD:∀j,j<es.length*sz->D b (off+j)/\w.cell? ⟨b,off+j,none⟩=some (u j)/\(u j).oneCell'=true)
    (h:∀(i:Nat)(e:List PV)(j:Nat)(p:PV),es[i]?=some e->e[j]?=some p->Dat D w (u (i*sz+j)) p):Dat D w (.slice a es.length cap) (.sl es o)
 |cp (b off:Nat) (cs:List PV) (o:Nat) (u:Nat->Value) (hD:∀j,j<cs.length->D b (off+j)/\w.cell? ⟨b,off+j,none⟩=some (u j)/\(u j).oneCell'=true)
    (h:∀(j:Nat)(p:PV),cs[j]?=some p->Dat D w (u j) p):Dat D w (.pointer (some ⟨b,off+o,none⟩)) (.cp cs o)
def Dat.mono{D D':Qk}{w w':World}{x:Value}{p:PV}(h:Dat D w x p)(A:∀b o,D b o->D' b o)(B:∀b o x,D b o->w.cell? ⟨b,o,none⟩=some x->w'.cell? ⟨b,o,none⟩=some x):Dat D' w' x p:=by
 induction h with
 |v x=>exact .v x
 |und x=>exact .und x
 |agg vs cs hs h1 _ ih=>exact .agg vs cs hs h1 ih
 |tup vs cs hs _ ih=>exact .tup vs cs hs ih
 |fn f va vb fs cs h1 h2 _ _ ih1 ih2=>exact .fn f va vb fs cs h1 h2 ih1 ih2
 |ifc t x p _ ih=>exact .ifc t x p ih
 |sl a cap sz es o b off u hc hz hm ha hsz hd _ ih=>exact .sl a cap sz es o b off u hc hz hm ha hsz (λj y=>⟨A _ _ (hd j y).1,B _ _ _ (hd j y).1 (hd j y).2.1,(hd j y).2.2⟩) ih
 |cp b off cs o u hd _ ih=>exact .cp b off cs o u (λj y=>⟨A _ _ (hd j y).1,B _ _ _ (hd j y).1 (hd j y).2.1,(hd j y).2.2⟩) ih
def Rel1(D:Qk)(ρ:Nat->Nat)(j:Nat)(w:World)(x:Value)(p:PV):Prop:=
 Dat D w x p\/∃i o,p=.bx i o/\i<j/\x=.pointer (some ⟨ρ i,o,none⟩)
def Rel(D:Qk)(ρ:Nat->Nat)(nb:Nat)(w:World)(x:Value)(p:PV):Prop:=
 Rel1 D ρ nb w x p\/∃f u y o j,p=.fn f o j/\x=.func f u y/\u.size=o.length/\y.size=j.length/\(∀i q,o[i]?=some q->Rel1 D ρ nb w (u.getD i undef) q)/\(∀i q,j[i]?=some q->Rel1 D ρ nb w (y.getD i undef) q)
def Rel1.mono{D D':Qk}{ρ ρ':Nat->Nat}{u j:Nat}{w w':World}{x:Value}{p:PV}(h:Rel1 D ρ u w x p)(y:∀b o,D b o->D' b o)(A:∀b o x,D b o->w.cell? ⟨b,o,none⟩=some x->w'.cell? ⟨b,o,none⟩=some x)
 (C:u<=j) (B:∀i,i<u->ρ' i=ρ i):Rel1 D' ρ' j w' x p:=by
 rcases h with h|⟨i,o,rfl,hi,rfl⟩
 .exact .inl (h.mono y A)
 .exact .inr ⟨i,o,rfl,a8,by rw[B i hi]⟩
def Rel.mono{D D':Qk}{ρ ρ':Nat->Nat}{E j:Nat}{w w':World}{x:Value}{p:PV}(h:Rel D ρ E w x p)(u:∀b o,D b o->D' b o)(B:∀b o x,D b o->w.cell? ⟨b,o,none⟩=some x->w'.cell? ⟨b,o,none⟩=some x)
 (y:E<=j) (C:∀i,i<E->ρ' i=ρ i):Rel D' ρ' j w' x p:=by
 rcases h with h|⟨f,L,M,G,F,rfl,rfl,H,I,J,K⟩
 .exact .inl (h.mono u B y C)
 .exact .inr ⟨f,L,M,G,F,rfl,rfl,H,I,λi q A=>(J i q A).mono u B y C,λi q A=>(K i q A).mono u B y C⟩
def Rel.dat{D:Qk}{ρ:Nat->Nat}{nb:Nat}{w:World}{x:Value}{p:PV}(h:Dat D w x p):Rel D ρ nb w x p:=.inl (.inl h)
def PV.own:PV->Option Nat
 |.sl _ (.r n _)=>some n
 |_=>none
def PV.isB:PV->Bool
 |.bx _ _=>true
 |_=>false
def PV.isD:PV->Bool
 |.bx _ _=>false
 |.fn _ fs cs=>fs.all (λp=>!p.isB) && cs.all (λp=>!p.isB)
 |_=>true
def PV.strip:PV->PV
 |.sl es (.r _ _)=>.sl es .sh
 |.sl es (.n _)=>.sl es .sh
 |.sl es (.p _)=>.sl es .sh
 |p=>p
def PV.sh:PV->PV
 |.sl es _=>.sl es .sh
 |p=>p
def PV.strip_own(p:PV):p.strip.own=none:=by
 cases p<;>try rfl
 rename_i o;cases o<;>rfl
def PV.isN:PV->Bool
 |.sl _ (.n _)=>true
 |.sl _ (.p _)=>true
 |_=>false
def PV.strip_isN(p:PV):p.strip.isN=false:=by
 cases p<;>try rfl
 rename_i o;cases o<;>rfl
def NewOk(A:Nat->Value)(y:Nat)(w:World)(x:Value):PV->Prop
 |.sl es (.p i)=>∃u len j,A i=.slice u len j/\x=.slice u es.length j
 |.sl es (.n sz)=>(∃u,x=.slice u es.length es.length)\/∃g j o e,y<=g/\x=.slice (some ⟨g,0,none⟩) es.length j/\w.heap[g]?=some (.cells o e (0,0))/\o.size=j*sz
 |_=>True
def xA{u:Nat->Value}{j:Nat}{w:World}{x:Value}{p:PV}(h:p.isN=false):NewOk u j w x p:=by
 cases p<;>try trivial
 rename_i o;cases o<;>first|trivial|cases h
def NewOk.mono{C:Nat->Value}{A B:Nat}{w w':World}{x:Value}{p:PV}(h:NewOk C A w x p)(I:B<=A)(G:∀k,k<w.heap.size->w'.heap[k]?=w.heap[k]?):NewOk C B w' x p:=by
 cases p<;>try trivial
 rename_i es o;cases o<;>first|exact h|skip
 rcases h with h|⟨g,j,u,e,H,E,y,F⟩
 .exact .inl h
 .exact .inr ⟨g,j,u,e,a8,E,(G g (XV.1 y).1).trans y,F⟩
def Dat.strip{D:Qk}{w:World}{x:Value}{p:PV}(h:Dat D w x p):Dat D w x p.strip:=by
 cases h with
 | sl a cap sz es o b off u hc hz hm ha hsz hD h=>
   cases o with
   |sh=>exact .sl a cap sz es _ b off u hc hz hm ha hsz hD h
   |z=>exact .sl a cap sz es _ b off u hc hz hm ha hsz hD h
   |n m=>exact .sl a cap sz es _ b off u hc (λh=>by cases h) hm ha hsz hD h
   |p m=>exact .sl a cap sz es _ b off u hc (λh=>by cases h) hm ha hsz hD h
   |r n m=>exact .sl a cap sz es _ b off u hc (λh=>by cases h) hm ha hsz hD h
 |v x=>exact .v x
 |und x=>exact .und x
 |agg vs cs hs h1 h=>exact .agg vs cs hs h1 h
 |tup vs cs hs h=>exact .tup vs cs hs h
 |fn f va vb fs cs h1 h2 h3 h4=>exact .fn f va vb fs cs h1 h2 h3 h4
 |ifc t x p h=>exact .ifc t x p h
 |cp b off cs o u hD h=>exact .cp b off cs o u hD h
def Dat.sh{D:Qk}{w:World}{x:Value}{p:PV}(h:Dat D w x p):Dat D w x p.sh:=by
 cases h with
 |sl a cap sz es o b off u hc hz hm ha hsz hD h=>exact .sl a cap sz es _ b off u hc (λh=>by cases h) hm ha hsz hD h
 |v x=>exact .v x
 |und x=>exact .und x
 |agg vs cs hs h1 h=>exact .agg vs cs hs h1 h
 |tup vs cs hs h=>exact .tup vs cs hs h
 |fn f va vb fs cs h1 h2 h3 h4=>exact .fn f va vb fs cs h1 h2 h3 h4
 |ifc t x p h=>exact .ifc t x p h
 |cp b off cs o u hD h=>exact .cp b off cs o u hD h
def Dat.owned{D:Qk}{w:World}{x:Value}{j:List (List PV)}{k:Ow}(h:Dat D w x (.sl j k))(n m:Nat):Dat D w x (.sl j (.r n m)):=by
 cases h with
 |sl a cap sz j o b off u hc hz hm ha hsz hD h=>exact .sl a cap sz j _ b off u hc (λh=>by cases h) hm ha hsz hD h
def PV.sh_own(p:PV):p.sh.own=none:=by cases p<;>rfl
def PV.sh_isD(p:PV):p.sh.isD=p.isD:=by cases p<;>rfl
def Rel1.strip{D:Qk}{ρ:Nat->Nat}{j:Nat}{w:World}{x:Value}{p:PV}(h:Rel1 D ρ j w x p):Rel1 D ρ j w x p.strip:=by
 rcases h with h|⟨i,o,rfl,hi,rfl⟩
 .exact .inl h.strip
 .exact .inr ⟨i,o,rfl,hi,rfl⟩
def Rel.strip{D:Qk}{ρ:Nat->Nat}{j:Nat}{w:World}{x:Value}{p:PV}(h:Rel D ρ j w x p):Rel D ρ j w x p.strip:=by
 rcases h with h|⟨f,y,A,u,o,rfl,h⟩
 .exact .inl h.strip
 .exact .inr ⟨f,y,A,u,o,rfl,h⟩
def yW(D:Qk)(W:Nat->Prop)(w:World)(x:Value):PV->Prop
 |.sl es (.r _ sz)=>(∃a,x=.slice a 0 0/\es=[])\/∃g j u e,x=.slice (some ⟨g,0,none⟩) es.length j/\W g/\w.heap[g]?=some (.cells u e (0,0))/\u.size=j*sz/\(∀e∈es,e.length=sz)/\∀o,es.length*sz<=o->¬D g o
 |_=>True
def zr{D:Qk}{W:Nat->Prop}{w:World}{x:Value}{p:PV}(h:p.own=none):yW D W w x p:=by
 cases p<;>try trivial
 rename_i o;cases o<;>first|trivial|cases h
def zc:Value->Option Nat
 |.slice (some a) _ (_+1)=>some a.block
 |_=>Option.none
def Dat.restrict{D:Qk}{w:World}{x:Value}{p:PV}(h:Dat D w x p):Dat (λb o=>D b o/\b<w.heap.size) w x p:=by
 induction h with
 |v x=>exact .v x
 |und x=>exact .und x
 |agg vs cs hs h1 _ ih=>exact .agg vs cs hs h1 ih
 |tup vs cs hs _ ih=>exact .tup vs cs hs ih
 |fn f va vb fs cs h1 h2 _ _ ih1 ih2=>exact .fn f va vb fs cs h1 h2 ih1 ih2
 |ifc t x p _ ih=>exact .ifc t x p ih
 |sl a cap sz es o b off u hc hz hm ha hsz hd _ ih=>exact .sl a cap sz es o b off u hc hz hm ha hsz (λj y=>⟨⟨(hd j y).1,tp w ⟨b,off+j,_⟩ (hd j y).2.1⟩,(hd j y).2⟩) ih
 |cp b off cs o u hd _ ih=>exact .cp b off cs o u (λj y=>⟨⟨(hd j y).1,tp w ⟨b,off+j,_⟩ (hd j y).2.1⟩,(hd j y).2⟩) ih
def Rel1.restrict{D:Qk}{ρ:Nat->Nat}{j:Nat}{w:World}{x:Value}{p:PV}(h:Rel1 D ρ j w x p):Rel1 (λb o=>D b o/\b<w.heap.size) ρ j w x p:=by
 rcases h with h|h
 .exact .inl h.restrict
 .exact .inr h
def Rel.restrict{D:Qk}{ρ:Nat->Nat}{u:Nat}{w:World}{x:Value}{p:PV}(h:Rel D ρ u w x p):Rel (λb o=>D b o/\b<w.heap.size) ρ u w x p:=by
 rcases h with h|⟨f,I,J,A,y,B,C,E,F,G,H⟩
 .exact .inl h.restrict
 .exact .inr ⟨f,I,J,A,y,B,C,E,F,λi q j=>(G i q j).restrict,λi q j=>(H i q j).restrict⟩
def Dat.isD{D:Qk}{w:World}{x:Value}{p:PV}(h:Dat D w x p):p.isD=true:=by
 have o:∀{x p},Dat D w x p->p.isB=false:=λh=>by cases h<;>rfl
 cases h<;>try rfl
 rename_i f va vb fs cs h1 h2 h3 h4;simp only[PV.isD,V0,wK,Wk];exact⟨λp j=>by obtain⟨i,hi⟩:=wI j;exact o (h3 i p hi),λp j=>by obtain⟨i,hi⟩:=wI j;exact o (h4 i p hi)⟩
def Rel1.data{D:Qk}{ρ:Nat->Nat}{u:Nat}{w:World}{x:Value}{p:PV}(h:Rel1 D ρ u w x p)(j:p.isB=false):Dat D w x p:=by
 rcases h with h|⟨i,o,rfl,_⟩
 .exact h
 .cases j
def Rel.data{D:Qk}{ρ:Nat->Nat}{G:Nat}{w:World}{x:Value}{p:PV}(h:Rel D ρ G w x p)(u:p.isD=true):Dat D w x p:=by
 rcases h with h|⟨f,H,I,A,y,rfl,rfl,B,C,E,F⟩
 .rcases h with h|⟨i,o,rfl,_⟩
  .exact h
  .cases u
 .simp only[PV.isD,V0,wK,Wk]at u;exact .fn f H I A y B C (λi q j=>(E i q j).data (u.1 q (wL j))) (λi q j=>(F i q j).data (u.2 q (wL j)))
def Rel.v_inv{D:Qk}{ρ:Nat->Nat}{j:Nat}{w:World}{x y:Value}(h:Rel D ρ j w x (.v y)):x=y:=by
 rcases h with(h|⟨i,o,h,_⟩)|⟨f,va,vb,fs,cs,h,_⟩
 .cases h;rfl
 .cases h
 .cases h
def PV.pre(i:Nat):PV->PV
 |.sl es (.r _ _)=>.sl es (.p i)
 |p=>p.strip
def PV.pre_or(i:Nat)(p:PV):p.pre i=p.strip\/∃j n m,p=.sl j (.r n m)/\p.pre i=.sl j (.p i):=by
 cases p<;>try exact .inl rfl
 rename_i j o;cases o<;>first|exact .inl rfl|exact .inr ⟨_,_,_,rfl,rfl⟩
def PV.clean:PV->PV
 |.sl es (.n _)=>.sl es .sh
 |.sl es (.p _)=>.sl es .sh
 |p=>p
def PV.clean_or(p:PV):p.clean=p.strip\/p.clean=p:=by
 cases p<;>try exact .inr rfl
 rename_i es o;cases o<;>first|exact .inl rfl|exact .inr rfl
def PV.clean_isN(p:PV):p.clean.isN=false:=by
 cases p<;>try rfl
 rename_i es o;cases o<;>rfl
end
end Go.Proofs.YtmpnbdhadjfbhaaGreatDoor
