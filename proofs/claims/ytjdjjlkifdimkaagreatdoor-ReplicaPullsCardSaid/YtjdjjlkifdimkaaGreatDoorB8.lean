import Derived.Deep.LoopGhost
import Derived.Deep.DeepCutAuto
import Derived.Deep.CutBlock
import Derived.Test.YtjdjjlkifdimkaaGreatDoorB7
set_option maxHeartbeats 16000000
set_option linter.all false
set_option maxRecDepth 100000
namespace Go.Proofs.YtjdjjlkifdimkaaGreatDoor
def dK{p:Prop}(h:p:=by simp [Value.oneCell']):p:=h
def tI:=@Go.bodyPost_ret
def tR:=@Go.results_tmp
def tS:=@Go.results_none
def tV:=@Go.info_parts
def t8:=@Go.Boxed.new
def Tg:=@Go.callsIn_of_wp_marks
def Ti:=@Go.run_takeDeferred
def TC:=@Go.wpIn_wide
def TG:=@Go.wpListIn_append_own
def T0:=@Go.ownsRow_succ
def T5:=@Go.CallsIn.inRound
open Go.Proofs.Tryz
open Go.Proofs.Tryz renaming prog->xT
section
open Go.RowKit
def Suf(a j:List Iv)(x:Nat):Prop:=∃d,a=d++j/\∀s∈d,s.hi<x
def Suf.refl(a:List Iv)(x:Nat):Suf a a x:=⟨[],rfl,λ_ h=>by cases h⟩
def Suf.mono{a j:List Iv}{x y:Nat}(h:Suf a j x)(w:x<=y):Suf a j y:=by obtain⟨d,o,u⟩:=h;exact⟨d,o,λs hs=>by have:=u s hs;omega⟩
def Suf.drop{a j:List Iv}{s:Iv}{x:Nat}(h:Suf a (s::j) x)(hs:s.hi<x):Suf a j x:=by obtain⟨d,o,u⟩:=h;exact⟨d++[s],by simp[o],λt ht=>by simp at ht;rcases ht with ht|rfl;exact u t ht;exact hs⟩
def Suf.mem_eq{a j:List Iv}{x z:Nat}(h:Suf a j x)(hz:x<=z):mem a z=mem j z:=by
 obtain⟨d,rfl,o⟩:=h;rw[yd];have:mem d z=false:=by
  cases e:mem d z with
  |false=>rfl
  |true=>obtain⟨s,hs,_,u⟩:=qf.1 e;have:=o s hs;omega
 rw[this,uH]
def Suf.nrm{a j:List Iv}{x n:Nat}(o:NF n a)(h:Suf a j x):NF n j:=by
 obtain⟨d,rfl,u⟩:=h;clear u;induction d generalizing n with
 |nil=>exact o
 |cons s d ih=>exact ih o.tail
def Suf.nxt_eq{a j:List Iv}{x z n:Nat}(u:NF n a)(h:Suf a j x)(hz:x<=z):ye a z=ye j z:=by
 obtain⟨d,rfl,o⟩:=h;induction d generalizing n with
 |nil=>rfl
 |cons s d ih=>rw[Yf,zdt (by have:=o s b8;omega) u.2.1];exact ih (λt ht=>o t (by simp[ht])) u.2.2.2
def Qg{j:List Iv}{s:Iv}{x n:Nat}(o:NF n (s::j))(h:x<=s.hi):mem (s::j) x=decide (s.lo<=x):=by rw[mem_cons,o.2.2.2.mem_lt b6];simp[h]
def za1(x:Iv×Bool×Bool):Array Value:=#[.agg #[.int .u64 x.1.lo,.int .u64 x.1.hi],.agg #[.bool x.2.1,.bool x.2.2]]
structure PInv(a b:List Iv)(Ba Bb n0:Nat)(w:World)(x:Nat)(a' b':List Iv)(va vb:Value):Prop where
 bxa:Boxed w Ba 24 va
 bxb:Boxed w Bb 24 vb
 ra:RdR 0 n0 w va a'
 rb:RdR 0 n0 w vb b'
 sa:Suf a a' x
 sb:Suf b b' x
def PInv.at{a b:List Iv}{j o n0:Nat}{S:Nat->Prop}{w G:World}{x y:Nat}{A B:List Iv}{E F:Value}(h:PInv a b j o n0 w x A B E F)(hk:Keep S w G)(H:n0<=w.heap.size)(hs:∀k,k<n0\/k=j\/k=o->¬S k)(C:x<=y):
 PInv a b j o n0 G y A B E F:=
 ⟨hk.boxed h.bxa (hs _ (.inr (.inl rfl))),hk.boxed h.bxb (hs _ (.inr (.inr rfl))),h.ra.keep (Zp _) (Zp _) λb _ u=>hk.block b b6 (hs b (.inl u)),
  h.rb.keep (Zp _) (Zp _) λb _ u=>hk.block b b6 (hs b (.inl u)),h.sa.mono C,h.sb.mono C⟩
def PInv.setA{a b:List Iv}{o y u:Nat}{w:World}{x:Nat}{s:Iv}{A C:List Iv}{H j E:Value}(h:PInv a b o y u w x (s::A) C H E)(I:u<=o)(B:o≠y)(hs:s.hi<x)(G:RdR 0 u w j A):
 PInv a b o y u (w.setCell ⟨o,0,none⟩ j) x A C j E:=
 ⟨h.bxa.set j,h.bxb.other B.symm j,G.keep (Zp _) (Zp _) λb _ F=>tG _ _ _ _ (by show b≠o;omega),
  h.rb.keep (Zp _) (Zp _) λb _ F=>tG _ _ _ _ (by show b≠o;omega),h.sa.drop hs,h.sb⟩
def PInv.setB{a b:List Iv}{y o u:Nat}{w:World}{x:Nat}{s:Iv}{C A:List Iv}{E H j:Value}(h:PInv a b y o u w x C (s::A) E H)(I:u<=o)(B:y≠o)(hs:s.hi<x)(G:RdR 0 u w j A):
 PInv a b y o u (w.setCell ⟨o,0,none⟩ j) x C A E j:=
 ⟨h.bxa.other B j,h.bxb.set j,h.ra.keep (Zp _) (Zp _) λb _ F=>tG _ _ _ _ (by show b≠o;omega),
  G.keep (Zp _) (Zp _) λb _ F=>tG _ _ _ _ (by show b≠o;omega),h.sa,h.sb.drop hs⟩
def Fit(j:List Iv)(x:Nat):Prop:=∀s r,j=s::r->x<=s.hi
def RdR.tail{hi:Nat}{w:World}{u:Option Addr}{n o:Nat}{s:Iv}{l:List Iv}(h:RdR 0 hi w (.slice u n o) (s::l)):
 ∃b j,u=some ⟨b,j,none⟩/\n=l.length+1/\b<hi/\rdIv w b j s/\l.length+1<=o/\o<=maxLen/\RdR 0 hi w (.slice (if o=1 then some ⟨b,j,none⟩ else some ⟨b,j+2,none⟩) l.length (o-1)) l:=by
 obtain⟨a,c,F,y,C,E⟩:=h;obtain⟨rfl,rfl,rfl⟩:u=a/\n=(s::l).length/\o=c:=dM F
 obtain⟨b,j,rfl,_,hb,B⟩:=E b8;refine⟨b,j,rfl,rfl,hb,(by have:=B 0 b8;rwa[Nat.zero_mul,uj]at this),dM y,C,?_⟩;refine⟨_,_,rfl,by simp at y;omega,b6,λA=>?_⟩;have G:0<l.length:=Wb.2 A;refine⟨b,j+2,by rw[V2 (by simp at y;omega)],vj _,hb,λi hi=>?_⟩;have:=B (i+1) b7;rw[show j+(i+1)*2=j+2+i*2 from by omega]at this;simpa using this
def J7(a b:List Iv)(bz bA:Value)(T U n0:Nat)(W0:World)(ha:Nrm a)(hb:Nrm b)(aO:T≠U)(bh:n0<=T)(bi:n0<=U)
 (bg:PInv a b T U n0 W0 0 a b bz bA) :
 zbY xT 184 #[.pointer (some ⟨T,0,none⟩),.pointer (some ⟨U,0,none⟩)] za1 (λk=>k=T\/k=U) (λk=>k<n0\/k=T\/k=U) (yO a b) W0:=by
 intro l J Jx hJ bl hY h0;refine callsIn_wide.2 ?_;show Calls xT 184 #[.func (.yield l) #[] #[],.pointer (some ⟨T,0,none⟩),.pointer (some ⟨U,0,none⟩)] W0 _;have HJ:=qL hJ;have bH:=qL bl;have HY:=qL hY;clear hJ bl hY;go_enter func184,ntmps184
 go_wp2_with fail
 go_loopg [4] zk (λg x wr=>∃(o f:Nat) (a' b':List Iv) (va vb:Value) (pre:List (Iv×Bool×Bool)),x=.int .u64 o/\o<zk/\g=zk-o/\PInv a b T U n0 wr o a' b' va vb/\qA (yO a b=pre++QU a b f o)/\zk<=f+o/\J pre wr)
 case atStart=>exact⟨0,zk,a,b,bz,bA,[],rfl,xM,rfl,bg,rfl,b6,h0⟩
 case round=>
  obtain⟨o,f,a',b',va,vb,pre,rfl,hx,rfl,y,V,hf,j⟩:=hrel;clear h0 bg
  go_upto_block 2 with fail
  go_cut [] (λwc=>∃a2 O,PInv a b T U n0 wc o a2 b' O vb/\Fit a2 o/\J pre wc)
  case first=>
   go_wp2_with fail
   go_loopg [] a'.length (λg wl=>∃(a2:List Iv) (O:Value),g=a2.length/\PInv a b T U n0 wl o a2 b' O vb/\J pre wl)
   case atStart=>exact⟨a',va,rfl,y,j⟩
   case round=>
    clear y j;obtain⟨a2,O,rfl,y,j⟩:=hrel;have bC:=y.bxa.cell;have bE:=y.bxa.frozen;have F:=y.ra;cases a2 with
    | nil=>
      obtain⟨ad,az,rfl,_⟩:=F
      go_wp2
      go_meet
      exact⟨[],_,y,(λ_ _ e=>by cases e),j⟩
    | cons s r=>
      have aH:=F;obtain⟨ad,az,rfl,_⟩:=aH;obtain⟨bb,bF,rfl,_,bB,hs,bp,aV,aG⟩:=F.tail;obtain⟨c1,c2,s1,s2⟩:=hs;have HT:=qL aG;clear F aG;unfold maxLen at aV;by_cases aD:s.hi<o
      .by_cases h1:az=1
       .subst h1;obtain rfl:r=[]:=wM b6
        go_wp2;go_roundg 0;case measure=>simp
        case rel=>exact⟨[],_,rfl,y.setA bh aO aD (by have:=HT.o;simpa using this),HJ.o _ _ _ j ((Keep.refl _ _).setCell (p:=⟨T,0,none⟩) (λ_=>.inl rfl) _)⟩
       .go_wp2;go_roundg r.length;case measure=>simp
        case rel=>exact⟨r,_,rfl,y.setA bh aO aD (by have:=HT.o;rw[V2 h1]at this;simpa using this),HJ.o _ _ _ j ((Keep.refl _ _).setCell (p:=⟨T,0,none⟩) (λ_=>.inl rfl) _)⟩
      .go_wp2
       go_meet
       exact⟨s::r,_,y,(λ_ _ e=>by cases e;omega),j⟩
  case rest=>
   clear y j;obtain⟨a2,O,y,Q,j⟩:=hcut
   go_upto_block 4 with fail
   go_cut [] (λwc=>∃b2 Y,PInv a b T U n0 wc o a2 b2 O Y/\Fit b2 o/\J pre wc)
   case first=>
    go_wp2_with fail
    go_loopg [] b'.length (λg wl=>∃(b2:List Iv) (Y:Value),g=b2.length/\PInv a b T U n0 wl o a2 b2 O Y/\J pre wl)
    case atStart=>exact⟨b',vb,rfl,y,j⟩
    case round=>
     clear y j;obtain⟨b2,Y,rfl,y,j⟩:=hrel;have bC:=y.bxb.cell;have bE:=y.bxb.frozen;have F:=y.rb;cases b2 with
     | nil=>
       obtain⟨ad,az,rfl,_⟩:=F
       go_wp2
       go_meet
       exact⟨[],_,y,(λ_ _ e=>by cases e),j⟩
     | cons s r=>
       have aH:=F;obtain⟨ad,az,rfl,_⟩:=aH;obtain⟨bb,bF,rfl,_,bB,hs,bp,aV,aG⟩:=F.tail;obtain⟨c1,c2,s1,s2⟩:=hs;have HT:=qL aG;clear F aG;unfold maxLen at aV;by_cases aD:s.hi<o
       .by_cases h1:az=1
        .subst h1;obtain rfl:r=[]:=wM b6
         go_wp2;go_roundg 0;case measure=>simp
         case rel=>exact⟨[],_,rfl,y.setB bi aO aD (by have:=HT.o;simpa using this),HJ.o _ _ _ j ((Keep.refl _ _).setCell (p:=⟨U,0,none⟩) (λ_=>.inr rfl) _)⟩
        .go_wp2;go_roundg r.length;case measure=>simp
         case rel=>exact⟨r,_,rfl,y.setB bi aO aD (by have:=HT.o;rw[V2 h1]at this;simpa using this),HJ.o _ _ _ j ((Keep.refl _ _).setCell (p:=⟨U,0,none⟩) (λ_=>.inr rfl) _)⟩
       .go_wp2
        go_meet
        exact⟨s::r,_,y,(λ_ _ e=>by cases e;omega),j⟩
   case rest=>
    clear y j;obtain⟨b2,Y,y,L,j⟩:=hcut;go_upto_region 5 with fail
    go_cut [5] (λs5 wd=>∃Bs,s5=.pointer (some ⟨Bs,0,none⟩)/\PInv a b T U n0 wd o a2 b2 O Y/\J pre wd/\wd.cell? ⟨Bs,0,none⟩=some (.bool (mem a o))/\wd.cell? ⟨Bs,1,none⟩=some (.bool (mem b o))/\n0<=wd.heap.size)
    case first=>
     have aL:=y.sa.mem_eq (Zp _);have ae:=y.sb.mem_eq (Zp _);have aW:=y.sa.nrm ha;have aw:=y.sb.nrm hb;have ca:=y.bxa.cell;have cb:=y.bxb.cell;have aq:=y.bxa.lt;have ar:=y.bxb.lt;have F:=y.ra;have af:=y.rb;cases a2 with
     | nil=>
       obtain⟨ad,ab,rfl,_⟩:=F;have ax:=qL aL;clear aL aW;cases b2 with
       | nil=>
         obtain⟨bd,G,rfl,_⟩:=af;have ag:=qL ae;clear ae aw;have N:n0<=wc.heap.size:=b6;have HP:=qL (And.intro y (And.intro j (And.intro Q L)));clear y Q L aq ar hf;refine Kg (Sw:=qe) 24 99 (λZ=>Z.cell? ⟨T,0,none⟩=some (.slice ad 0 ab)/\Z.cell? ⟨U,0,none⟩=some (.slice bd 0 G)) dN dN rfl ⟨ca,cb⟩ ?_;simp only[wT,Wg];repeat (first
          |(refine zev ?_ rfl (λa w A _ X=>?_) ?_;rotate_left;(simp[Rds,zA,lk,Op.operands,Call.operands,RdEq]at X;go_simp;with_reducible rfl);simp only[XV,Yf])
          |(refine jI rfl ?_ ?_;(first|exact .inl (zG rfl rfl)|exact .inr (zG rfl rfl));simp only[XV,Yf])
          |(refine V6 rfl ?_ ?_ (λa w A _ X=>?_) ?_;exact(zG rfl rfl);rotate_left;(simp[Rds,zA,lk,Op.operands,Call.operands,RdEq]at X;go_simp;with_reducible rfl);simp only[XV,Yf]))
         refine V7 (λu w=>∃B,u=.pointer (some ⟨B,0,none⟩)/\w.heap[B]?=some (.cells #[.bool false,.bool false] 186 (0,0))/\wc.heap.size<=B) (λu w Z ⟨B,h1,h2,h3⟩ hk=>⟨B,h1,hk.obj h2 id,h3⟩) rfl ?_ ?_
         .intro a w A hk X K hK;have HK:=qL hK;clear hK;go_simp;exact HK.o _ _ ((Keep.refl _ _).alloc _) ⟨((Keep.refl qe w).alloc _).cell_some A.1 id,((Keep.refl qe w).alloc _).cell_some A.2 id⟩ ⟨w.heap.size,rfl,tx w _,hk.size⟩
         simp only[XV,Yf];intro w A hk;simp only[finG,WZ];rintro u ⟨B,rfl,H,I⟩;simp only[wR,Wo];have c0:w.cell? ⟨B,0,none⟩=some (.bool false):=(by simp[World.cell?,H]);have c1:w.cell? ⟨B,1,none⟩=some (.bool false):=(by simp[World.cell?,H]);have f0:w.frozen? ⟨B,0,none⟩=false:=(by simp[World.frozen?,H]);have f1:w.frozen? ⟨B,1,none⟩=false:=(by simp[World.frozen?,H]);clear H A;simp only[Act.put,wF,wW,wX]
         go_wp2
         go_meet
         have E:∀u v,Keep qe wc ((w.setCell ⟨B,0,none⟩ u).setCell ⟨B,1,none⟩ v):=λu v=>((((Keep.refl qe wc).drew).trans hk).setCell (p:=⟨B,0,none⟩) (λh=>by exact absurd h (dM I)) _).setCell (p:=⟨B,1,none⟩) (λh=>by exact absurd h (dM I)) _;exact⟨B,rfl,HP.o.1.at (E _ _) N (λ_ _=>id) (Zp _),HJ.o _ _ _ HP.o.2.1 ((E _ _).mono λ_ _ h=>h.elim),by rw[ax.o];go_simp,by rw[ag.o];go_simp,V3 N (E _ _).size⟩
       | cons t r2=>
         have bc:=af;obtain⟨bd,G,rfl,_⟩:=bc;obtain⟨bb,ob,rfl,_,_,aF,aU,aB,_⟩:=af.tail;have ag:=qL (ae.trans (Qg aw (L _ _ rfl)));have ct:=aF.1;unfold maxLen at aB;clear ae aw af aF;have N:n0<=wc.heap.size:=b6;have HP:=qL (And.intro y (And.intro j (And.intro Q L)));clear y Q L aq ar hf;refine Kg (Sw:=qe) 24 99 (λZ=>Z.cell? ⟨T,0,none⟩=some (.slice ad 0 ab)/\Z.cell? ⟨U,0,none⟩=some (.slice (some ⟨bb,ob,none⟩) (r2.length+1) G)/\Z.cell? ⟨bb,ob,none⟩=some (.int .u64 t.lo)) dN dN rfl ⟨ca,cb,ct⟩ ?_;simp only[wT,Wg];repeat (first
          |(refine zev ?_ rfl (λa w A _ X=>?_) ?_;rotate_left;(simp[Rds,zA,lk,Op.operands,Call.operands,RdEq]at X;go_simp;with_reducible rfl);simp only[XV,Yf])
          |(refine jI rfl ?_ ?_;(first|exact .inl (zG rfl rfl)|exact .inr (zG rfl rfl));simp only[XV,Yf])
          |(refine V6 rfl ?_ ?_ (λa w A _ X=>?_) ?_;exact(zG rfl rfl);rotate_left;(simp[Rds,zA,lk,Op.operands,Call.operands,RdEq]at X;go_simp;with_reducible rfl);simp only[XV,Yf]))
         refine V7 (λu w=>∃B,u=.pointer (some ⟨B,0,none⟩)/\w.heap[B]?=some (.cells #[.bool false,.bool false] 186 (0,0))/\wc.heap.size<=B) (λu w Z ⟨B,h1,h2,h3⟩ hk=>⟨B,h1,hk.obj h2 id,h3⟩) rfl ?_ ?_
         .intro a w A hk X K hK;have HK:=qL hK;clear hK;go_simp;exact HK.o _ _ ((Keep.refl _ _).alloc _) ⟨((Keep.refl qe w).alloc _).cell_some A.1 id,((Keep.refl qe w).alloc _).cell_some A.2.1 id,((Keep.refl qe w).alloc _).cell_some A.2.2 id⟩ ⟨w.heap.size,rfl,tx w _,hk.size⟩
         simp only[XV,Yf];intro w A hk;simp only[finG,WZ];rintro u ⟨B,rfl,H,I⟩;simp only[wR,Wo];have c0:w.cell? ⟨B,0,none⟩=some (.bool false):=(by simp[World.cell?,H]);have c1:w.cell? ⟨B,1,none⟩=some (.bool false):=(by simp[World.cell?,H]);have f0:w.frozen? ⟨B,0,none⟩=false:=(by simp[World.frozen?,H]);have f1:w.frozen? ⟨B,1,none⟩=false:=(by simp[World.frozen?,H]);clear H A;simp only[Act.put,wF,wW,wX]
         go_wp2
         go_meet
         have E:∀u v,Keep qe wc ((w.setCell ⟨B,0,none⟩ u).setCell ⟨B,1,none⟩ v):=λu v=>((((Keep.refl qe wc).drew).trans hk).setCell (p:=⟨B,0,none⟩) (λh=>by exact absurd h (dM I)) _).setCell (p:=⟨B,1,none⟩) (λh=>by exact absurd h (dM I)) _;exact⟨B,rfl,HP.o.1.at (E _ _) N (λ_ _=>id) (Zp _),HJ.o _ _ _ HP.o.2.1 ((E _ _).mono λ_ _ h=>h.elim),by rw[ax.o];go_simp,by rw[ag.o];go_simp,V3 N (E _ _).size⟩
     | cons s r1=>
       have aH:=F;obtain⟨ad,ab,rfl,_⟩:=aH;obtain⟨ba,oa,rfl,_,_,bw,bD,bq,_⟩:=F.tail;have ax:=qL (aL.trans (Qg aW (Q _ _ rfl)));have cs:=bw.1;unfold maxLen at bq;clear aL aW F bw;cases b2 with
       | nil=>
         obtain⟨bd,G,rfl,_⟩:=af;have ag:=qL ae;clear ae aw;have N:n0<=wc.heap.size:=b6;have HP:=qL (And.intro y (And.intro j (And.intro Q L)));clear y Q L aq ar hf;refine Kg (Sw:=qe) 24 99 (λZ=>Z.cell? ⟨T,0,none⟩=some (.slice (some ⟨ba,oa,none⟩) (r1.length+1) ab)/\Z.cell? ⟨U,0,none⟩=some (.slice bd 0 G)/\Z.cell? ⟨ba,oa,none⟩=some (.int .u64 s.lo)) dN dN rfl ⟨ca,cb,cs⟩ ?_;simp only[wT,Wg];repeat (first
          |(refine zev ?_ rfl (λa w A _ X=>?_) ?_;rotate_left;(simp[Rds,zA,lk,Op.operands,Call.operands,RdEq]at X;go_simp;with_reducible rfl);simp only[XV,Yf])
          |(refine jI rfl ?_ ?_;(first|exact .inl (zG rfl rfl)|exact .inr (zG rfl rfl));simp only[XV,Yf])
          |(refine V6 rfl ?_ ?_ (λa w A _ X=>?_) ?_;exact(zG rfl rfl);rotate_left;(simp[Rds,zA,lk,Op.operands,Call.operands,RdEq]at X;go_simp;with_reducible rfl);simp only[XV,Yf]))
         refine V7 (λu w=>∃B,u=.pointer (some ⟨B,0,none⟩)/\w.heap[B]?=some (.cells #[.bool false,.bool false] 186 (0,0))/\wc.heap.size<=B) (λu w Z ⟨B,h1,h2,h3⟩ hk=>⟨B,h1,hk.obj h2 id,h3⟩) rfl ?_ ?_
         .intro a w A hk X K hK;have HK:=qL hK;clear hK;go_simp;exact HK.o _ _ ((Keep.refl _ _).alloc _) ⟨((Keep.refl qe w).alloc _).cell_some A.1 id,((Keep.refl qe w).alloc _).cell_some A.2.1 id,((Keep.refl qe w).alloc _).cell_some A.2.2 id⟩ ⟨w.heap.size,rfl,tx w _,hk.size⟩
         simp only[XV,Yf];intro w A hk;simp only[finG,WZ];rintro u ⟨B,rfl,H,I⟩;simp only[wR,Wo];have c0:w.cell? ⟨B,0,none⟩=some (.bool false):=(by simp[World.cell?,H]);have c1:w.cell? ⟨B,1,none⟩=some (.bool false):=(by simp[World.cell?,H]);have f0:w.frozen? ⟨B,0,none⟩=false:=(by simp[World.frozen?,H]);have f1:w.frozen? ⟨B,1,none⟩=false:=(by simp[World.frozen?,H]);clear H A;simp only[Act.put,wF,wW,wX]
         go_wp2
         go_meet
         have E:∀u v,Keep qe wc ((w.setCell ⟨B,0,none⟩ u).setCell ⟨B,1,none⟩ v):=λu v=>((((Keep.refl qe wc).drew).trans hk).setCell (p:=⟨B,0,none⟩) (λh=>by exact absurd h (dM I)) _).setCell (p:=⟨B,1,none⟩) (λh=>by exact absurd h (dM I)) _;exact⟨B,rfl,HP.o.1.at (E _ _) N (λ_ _=>id) (Zp _),HJ.o _ _ _ HP.o.2.1 ((E _ _).mono λ_ _ h=>h.elim),by rw[ax.o];go_simp,by rw[ag.o];go_simp,V3 N (E _ _).size⟩
       | cons t r2=>
         have bc:=af;obtain⟨bd,G,rfl,_⟩:=bc;obtain⟨bb,ob,rfl,_,_,aF,aU,aB,_⟩:=af.tail;have ag:=qL (ae.trans (Qg aw (L _ _ rfl)));have ct:=aF.1;unfold maxLen at aB;clear ae aw af aF;have N:n0<=wc.heap.size:=b6;have HP:=qL (And.intro y (And.intro j (And.intro Q L)));clear y Q L aq ar hf;refine Kg (Sw:=qe) 24 99 (λZ=>Z.cell? ⟨T,0,none⟩=some (.slice (some ⟨ba,oa,none⟩) (r1.length+1) ab)/\Z.cell? ⟨U,0,none⟩=some (.slice (some ⟨bb,ob,none⟩) (r2.length+1) G)/\Z.cell? ⟨ba,oa,none⟩=some (.int .u64 s.lo)/\Z.cell? ⟨bb,ob,none⟩=some (.int .u64 t.lo)) dN dN rfl ⟨ca,cb,cs,ct⟩ ?_;simp only[wT,Wg];repeat (first
          |(refine zev ?_ rfl (λa w A _ X=>?_) ?_;rotate_left;(simp[Rds,zA,lk,Op.operands,Call.operands,RdEq]at X;go_simp;with_reducible rfl);simp only[XV,Yf])
          |(refine jI rfl ?_ ?_;(first|exact .inl (zG rfl rfl)|exact .inr (zG rfl rfl));simp only[XV,Yf])
          |(refine V6 rfl ?_ ?_ (λa w A _ X=>?_) ?_;exact(zG rfl rfl);rotate_left;(simp[Rds,zA,lk,Op.operands,Call.operands,RdEq]at X;go_simp;with_reducible rfl);simp only[XV,Yf]))
         refine V7 (λu w=>∃B,u=.pointer (some ⟨B,0,none⟩)/\w.heap[B]?=some (.cells #[.bool false,.bool false] 186 (0,0))/\wc.heap.size<=B) (λu w Z ⟨B,h1,h2,h3⟩ hk=>⟨B,h1,hk.obj h2 id,h3⟩) rfl ?_ ?_
         .intro a w A hk X K hK;have HK:=qL hK;clear hK;go_simp;exact HK.o _ _ ((Keep.refl _ _).alloc _) ⟨((Keep.refl qe w).alloc _).cell_some A.1 id,((Keep.refl qe w).alloc _).cell_some A.2.1 id,((Keep.refl qe w).alloc _).cell_some A.2.2.1 id,((Keep.refl qe w).alloc _).cell_some A.2.2.2 id⟩ ⟨w.heap.size,rfl,tx w _,hk.size⟩
         simp only[XV,Yf];intro w A hk;simp only[finG,WZ];rintro u ⟨B,rfl,H,I⟩;simp only[wR,Wo];have c0:w.cell? ⟨B,0,none⟩=some (.bool false):=(by simp[World.cell?,H]);have c1:w.cell? ⟨B,1,none⟩=some (.bool false):=(by simp[World.cell?,H]);have f0:w.frozen? ⟨B,0,none⟩=false:=(by simp[World.frozen?,H]);have f1:w.frozen? ⟨B,1,none⟩=false:=(by simp[World.frozen?,H]);clear H A;simp only[Act.put,wF,wW,wX]
         go_wp2
         go_meet
         have E:∀u v,Keep qe wc ((w.setCell ⟨B,0,none⟩ u).setCell ⟨B,1,none⟩ v):=λu v=>((((Keep.refl qe wc).drew).trans hk).setCell (p:=⟨B,0,none⟩) (λh=>by exact absurd h (dM I)) _).setCell (p:=⟨B,1,none⟩) (λh=>by exact absurd h (dM I)) _;exact⟨B,rfl,HP.o.1.at (E _ _) N (λ_ _=>id) (Zp _),HJ.o _ _ _ HP.o.2.1 ((E _ _).mono λ_ _ h=>h.elim),by rw[ax.o];go_simp,by rw[ag.o];go_simp,V3 N (E _ _).size⟩
    case rest=>
     clear y j;obtain⟨Bs,rfl,y,j,am,aE,aM⟩:=hcut;have bt:ye a o=ye a2 o:=y.sa.nxt_eq ha (Zp _);have bu:ye b o=ye b2 o:=y.sb.nxt_eq hb (Zp _);have ah:=qL bt;have ai:=qL bu;clear bt bu Q L;obtain⟨pa,aY⟩:∃p,mem a o=p:=⟨_,rfl⟩;obtain⟨pb,aZ⟩:∃p,mem b o=p:=⟨_,rfl⟩;rw[aY]at am;rw[aZ]at aE;have aR:=qL aY;have aS:=qL aZ;clear aY aZ;have ca:=y.bxa.cell;have bI:=y.bxb.lt;have aC:Bs<wc.heap.size:=tz wc _ am
     go_wp2_with fail
     refine(Vs a2 O o _ (y.ra.keep (Zp _) aM λ_ _ _=>rfl)).mono ?_;rintro e w1 ⟨n1,m1,rfl,aj,au⟩;clear ca;have aJ:=y.at (S:=qe) (Keep.of_below' au (Zp _)) aM (λ_ _=>id) (Zp _);have bj:=HJ.o _ _ _ j (Keep.of_below' au (Zp _));have am:=(au.cell (p:=⟨Bs,0,none⟩) aC).trans am;have aE:=(au.cell (p:=⟨Bs,1,none⟩) aC).trans aE;have aN:n0<=w1.heap.size:=V3 aM au.size;have aC:=tz w1 _ am;clear y j au aM;have cb:=aJ.bxb.cell
     go_wp2_with fail
     refine(Vs b2 Y o _ (aJ.rb.keep (Zp _) aN λ_ _ _=>rfl)).mono ?_;rintro e w2 ⟨n2,m2,rfl,ak,av⟩;clear cb;have bn:=aJ.at (S:=qe) (Keep.of_below' av (Zp _)) aN (λ_ _=>id) (Zp _);have aT:=HJ.o _ _ _ bj (Keep.of_below' av (Zp _));have am:=(av.cell (p:=⟨Bs,0,none⟩) aC).trans am;have aE:=(av.cell (p:=⟨Bs,1,none⟩) aC).trans aE;have br:n0<=w2.heap.size:=V3 aN av.size;clear aJ bj av aN;go_upto_region 8 with fail
     go_cut [81] (λbG wx=>∃c:Bool,bG=.bool c/\wx=w2/\qA (c=(m2 && (!m1 || decide (n2<n1)))))
     case first=>
      cases m2
      .go_wp2_with fail
       go_meet
       exact⟨false,rfl,rfl,rfl⟩
      .cases m1
       .go_wp2_with fail
        go_meet
        exact⟨true,rfl,rfl,rfl⟩
       .go_wp2_with fail
        go_meet
        exact⟨_,rfl,rfl,by simp[qA]⟩
     case rest=>
      obtain⟨c,rfl,rfl,A⟩:=hcut;cases c with
      | true=>
        have hm:m2=true/\kv (ye a o) (ye b o)=some n2:=by
         have:=A.o;rw[ah.o,ai.o,aj.o,ak.o];cases m2<;>cases m1<;>simp[kv]at this⊢;omega
        obtain⟨rfl,M⟩:=hm;have M:=qL M;have aX:qA (ye b o=some n2):=(by show _=_;rw[ai.o,ak.o];rfl);clear A aj ak ah ai;have aI:o<n2/\n2<zk:=(by have h:=aX.o;exact⟨xr h,vJ hb h⟩);obtain⟨P,rfl⟩:∃P,f=P+1:=⟨f-1,b6⟩;have C:qA (QU a b (P+1) o=(⟨o,n2-1⟩,pa,pb)::QU a b P n2):=by
         show QU a b (P+1) o=_
         conv=>lhs;unfold QU
         rw[M.o,aR.o,aS.o]
        obtain⟨fn,aQ,ao,aP,hy,hR⟩:=HY.o pre (⟨o,n2-1⟩,pa,pb) wc aT ⟨QU a b P n2,by rw[V.o,C.o];simp⟩;dsimp only[za1]at hy;have be:IntKind.u64.wrap ((n2:Int)-1)=((n2-1:Nat):Int):=Zj b6 aI.2;obtain⟨y1,an⟩:=xm (n2-1);rw[<-an]at hy be hR;have ay:=qL an;clear an;go_upto_region 13 with fail;refine(TC (n:=8)).1 ?_
        gi_wp2
        refine hR.mono ?_;rintro e w3 (⟨rfl,aA,aK⟩|⟨rfl,ac⟩)
        .gi_wp2
         go_wp2;go_roundg (zk-n2);case measure=>omega
         case rel=>exact⟨n2,P,a2,b2,O,Y,pre++[(⟨o,y1⟩,pa,pb)],rfl,aI.2,rfl,bn.at aK br (λk hk h=>h hk) b6,by show yO a b=_;rw[V.o,C.o,ay.o];simp,b6,aA⟩
        .gi_wp2
         go_wp2;refine tI (tS rfl _ _ _) rfl ?_;exact⟨⟨_,rfl⟩,.inr ⟨pre++[(⟨o,y1⟩,pa,pb)],⟨QU a b P n2,by rw[V.o,C.o,ay.o];simp⟩,ac⟩⟩
      | false=>
        cases m1 with
        | true=>
          have M:qA (kv (ye a o) (ye b o)=some n1):=by
           have:=A.o;show _=_;rw[ah.o,ai.o,aj.o,ak.o];cases m2<;>simp[kv]at this⊢;omega
          have aX:qA (ye a o=some n1):=(by show _=_;rw[ah.o,aj.o];rfl);clear A aj ak ah ai;have aI:o<n1/\n1<zk:=(by have h:=aX.o;exact⟨xr h,vJ ha h⟩);obtain⟨P,rfl⟩:∃P,f=P+1:=⟨f-1,b6⟩;have C:qA (QU a b (P+1) o=(⟨o,n1-1⟩,pa,pb)::QU a b P n1):=by
           show QU a b (P+1) o=_
           conv=>lhs;unfold QU
           rw[M.o,aR.o,aS.o]
          obtain⟨fn,aQ,ao,aP,hy,hR⟩:=HY.o pre (⟨o,n1-1⟩,pa,pb) wc aT ⟨QU a b P n1,by rw[V.o,C.o];simp⟩;dsimp only[za1]at hy;have be:IntKind.u64.wrap ((n1:Int)-1)=((n1-1:Nat):Int):=Zj b6 aI.2;obtain⟨y1,an⟩:=xm (n1-1);rw[<-an]at hy be hR;have ay:=qL an;clear an;go_upto_region 13 with fail;refine(TC (n:=8)).1 ?_
          gi_wp2
          refine hR.mono ?_;rintro e w3 (⟨rfl,aA,aK⟩|⟨rfl,ac⟩)
          .gi_wp2
           go_wp2;go_roundg (zk-n1);case measure=>omega
           case rel=>exact⟨n1,P,a2,b2,O,Y,pre++[(⟨o,y1⟩,pa,pb)],rfl,aI.2,rfl,bn.at aK br (λk hk h=>h hk) b6,by show yO a b=_;rw[V.o,C.o,ay.o];simp,b6,aA⟩
          .gi_wp2
           go_wp2;refine tI (tS rfl _ _ _) rfl ?_;exact⟨⟨_,rfl⟩,.inr ⟨pre++[(⟨o,y1⟩,pa,pb)],⟨QU a b P n1,by rw[V.o,C.o,ay.o];simp⟩,ac⟩⟩
        | false=>
          have M:qA (kv (ye a o) (ye b o)=none):=by
           have:=A.o;show _=_;rw[ah.o,ai.o,aj.o,ak.o];cases m2<;>simp[kv]at this⊢
          clear A aj ak ah ai;obtain⟨P,rfl⟩:∃P,f=P+1:=⟨f-1,b6⟩;have C:qA (QU a b (P+1) o=[(⟨o,zk-1⟩,pa,pb)]):=by
           show QU a b (P+1) o=_
           conv=>lhs;unfold QU
           rw[M.o,aR.o,aS.o]
          obtain⟨fn,aQ,ao,aP,hy,hR⟩:=HY.o pre (⟨o,zk-1⟩,pa,pb) wc aT ⟨[],by rw[V.o,C.o];simp⟩;dsimp only[za1]at hy;rw[show ((zk-1:Nat):Int)=18446744073709551615 from rfl]at hy;go_upto_region 13 with fail;refine(TC (n:=8)).1 ?_
          gi_wp2
          refine hR.mono ?_;rintro e w3 (⟨rfl,aA,aK⟩|⟨rfl,ac⟩)
          .gi_wp2
           go_wp2;refine tI (tS rfl _ _ _) rfl ?_;exact⟨⟨_,rfl⟩,.inl (by rw[V.o,C.o];exact aA)⟩
          .gi_wp2
           go_wp2;refine tI (tS rfl _ _ _) rfl ?_;exact⟨⟨_,rfl⟩,.inr ⟨pre++[(⟨o,zk-1⟩,pa,pb)],⟨[],by rw[V.o,C.o];simp⟩,ac⟩⟩
attribute [local go_sem] Oper.semAt_some
def Jd(l:List Iv):List Nat:=l.flatMap λs=>[s.lo,s.hi+1]
def ZY(l:List Iv):(Jd l).length=2*l.length:=by
 induction l with
 |nil=>rfl
 |cons s l ih=>simp[Jd]at ih⊢;omega
def zah{l:List Iv}{x y:Nat}(h:ye l x=some y):y∈Jd l:=by
 induction l with
 |nil=>cases h
 | cons s l ih=>
   unfold ye at h;split at h
   .cases h;simp[Jd]
   .split at h
    .cases h;simp[Jd]
    .have:=ih h;simp[Jd]at this⊢;exact .inr (.inr this)
def YV(l:List Nat)(x:Nat):Nat:=l.countP λy=>decide (x<y)
def ZX(l:List Nat){x y:Nat}(h:x<y):YV l y<=YV l x:=by
 unfold YV;exact List.countP_mono_left λz _ hz=>by simp at hz⊢;omega
def zcr{l:List Nat}{x y:Nat}(h:x<y)(j:y∈l):YV l y+1<=YV l x:=by
 induction l with
 |nil=>cases j
 | cons z l ih=>
   unfold YV;rw[List.countP_cons,List.countP_cons];rcases wm.1 j with rfl|j
   .have:=ZX l h;unfold YV at this;simp[h];omega
   .have:=ih j;unfold YV at this;by_cases o:y<z
    .have u:x<z:=b6;simp[o,u];omega
    .simp[o];omega
def Qs(a b:List Iv):∀(f x:Nat),(QU a b f x).length<=YV (Jd a) x+YV (Jd b) x+1
 |0,_=>vj _
 | f+1,x=>by
   unfold QU;cases h:kv (ye a x) (ye b x)with
   |none=>simp
   | some y=>
     have ih:=Qs a b f y;have:YV (Jd a) y+YV (Jd b) y+1<=YV (Jd a) x+YV (Jd b) x:=by
      have j:ye a x=some y\/ye b x=some y:=by
       cases ea:ye a x<;>cases eb:ye b x<;>rw[ea,eb]at h<;>simp only[kv]at h
       .cases h
       .exact .inr h
       .exact .inl h
       .split at h
        .exact .inr h
        .exact .inl h
      rcases j with h|h
      .have:=zcr (xr h) (zah h);have:=ZX (Jd b) (xr h);omega
      .have:=zcr (xr h) (zah h);have:=ZX (Jd a) (xr h);omega
     simp;omega
def jF(a b:List Iv):(yO a b).length<=2*(a.length+b.length)+1:=by
 have j:=Qs a b zk 0;have o:YV (Jd a) 0<=2*a.length:=by rw[<-ZY];exact tc
 have u:YV (Jd b) 0<=2*b.length:=by rw[<-ZY];exact tc
 unfold yO;omega
def J9(j:List Iv)(s:Iv):(Q8 j s).length<=j.length+1:=by
 unfold Q8;split
 .simp
 .rename_i t ht;split
  .have:j≠[]:=(by intro e;subst e;simp at ht);have:=Wb.2 this;simp;try omega
  .simp
def jD(f:XE)(o:List (Iv×Bool×Bool)):∀j:List Iv,(qg f j o).length<=j.length+o.length:=by
 induction o with
 |nil=>intro j;simp[qg]
 | cons x o ih=>
   intro j;obtain⟨s,p,q⟩:=x;simp only[qg];by_cases e:f p q=true
   .have u:=ih (Q8 j s);have w:=J9 j s;rw[VS e];simp only[wD];omega
   .have u:=ih j;rw[V2 e];simp only[wD];omega
def xq{f:XE}{a b:List Iv}:∀(pre:List (Iv×Bool×Bool))(x:Nat)(j:List Iv)(y:Iv×Bool×Bool)(r:List (Iv×Bool×Bool)),Cov a b x (pre++y::r)->Nrm j->(∀t∈j,t.hi<x) ->
 Nrm (qg f j pre)/\(∀t∈qg f j pre,t.hi<y.1.lo)/\y.1.lo<=y.1.hi/\y.1.hi<zk
 |[],x,j,(s,p,q),r,⟨h1,h2,h3,_⟩,ho,ht=>⟨ho,λt h=>by have:=ht t h;show t.hi<s.lo;omega,by show s.lo<=s.hi;omega,h3⟩
 | (s,p,q)::pre,x,j,y,r,⟨h1,h2,h3,_,h5⟩,ho,ht=>by
   simp only[qg];have g:=Xm (s:=s) ho (λt h=>by have:=ht t h;omega) b6 h3;split
   .exact xq pre _ _ y r h5 g.1 λt h=>by have:=g.2.2 t h;omega
   .exact xq pre _ _ y r h5 ho λt h=>by have:=ht t h;omega
def zcT(o:List Iv)(t:Iv)(hi:Nat):(xw (o++[t])).set (o.length*2+1) (.int .u64 hi)=xw (o++[⟨t.lo,hi⟩]):=by rw[vy,vy,List.set_append_right _ _ (by rw[y6];omega),y6];congr 1;rw[show o.length*2+1-o.length*2=1 from by omega];rfl
def OwnR.last{base:Nat}{w:World}{A:Option Addr}{n j:Nat}{o:List Iv}{t:Iv}(h:OwnR base w (.slice A n j) (o++[t])):
 ∃g,base<=g/\A=some ⟨g,0,none⟩/\o.length+1<=j/\j<=maxLen/\w.cell? ⟨g,o.length*2,none⟩=some (.int .u64 t.lo)/\w.cell? ⟨g,o.length*2+1,none⟩=some (.int .u64 t.hi)/\t.lo<zk/\t.hi<zk:=by
 have hb:=h.2 t b8;have u:=h.1;rcases id u.2 with⟨_,F⟩|⟨g,B,E,C,H,J,I,G,_⟩
 .simp at F
 .simp only[Value.slice.injEq]at C;obtain⟨rfl,rfl,rfl⟩:=C;have y:=vz (o++[t]) o.length b8;simp only[List.getElem_concat_length]at y;refine⟨g,H,rfl,dM I,G,?_,?_,hb⟩
  .rw[u.cellAt _ b8];exact y.1
  .rw[u.cellAt _ b7];exact y.2
def OwnR.setHi{base:Nat}{w:World}{g n j:Nat}{o:List Iv}{t:Iv}(h:OwnR base w (.slice (some ⟨g,0,none⟩) n j) (o++[t]))(C:n=o.length+1)(hi:Nat)(B:hi<zk):
 OwnR base (w.setCell ⟨g,o.length*2+1,none⟩ (.int .u64 hi)) (.slice (some ⟨g,0,none⟩) n j) (o++[⟨t.lo,hi⟩]):=by
 subst C;have A:=h.1;simp only[wu,wD,WB,wy]at A;have:=(A.stored (o.length*2+1) (.int .u64 hi)).1;rw[zcT]at this;refine⟨dM this,λu y=>?_⟩;simp at y;rcases y with y|rfl
 .exact h.2 u (by simp[y])
 .exact⟨(h.2 t b8).1,B⟩
def vG(f:XE)(C:Nat)(aW:∀an w,(callFunc C an).run xT w=.ok (.enter C an) w)
 (aS:∀p q w,Calls xT C #[.agg #[.bool p,.bool q]] w λe P=>e=.returned (.bool (f p q))/\Below w.heap.size w P)
 (a b:List Iv) (va vb:Value) (w:World) (ha:Nrm a) (hb:Nrm b) (ra:RdR 0 w.heap.size w va a) (rb:RdR 0 w.heap.size w vb b) (aX:a.length+b.length<=1073741824) :
 Calls xT 107 #[va,vb,.func (.func C) #[] #[]] w λe P=>∃v,e=.returned v/\OwnR w.heap.size P v (qy f a b)/\Below w.heap.size w P:=by
 obtain⟨aa,ca,rfl,_⟩:=id ra;obtain⟨ab,cb,rfl,_⟩:=id rb;refine callsIn_wide.1 (Tg (n:=9) func107 rfl trivial ?_ rfl);simp only[ntmps107,WE,wD,WB,Nat.reduceAdd,Nat.reduceSub,uA,uB,uO,uE,XV,Yf]
 gi_wp2_with (refine⟨trivial,?_⟩;gi_at_call 150;refine(callsIn_wide.2 (Xi _ _ _ _ _ _ _)).mono ?_;rintro e P ⟨rfl,rfl⟩)
 obtain⟨W0,N⟩:=xt (((((w.alloc (Obj.cells #[Value.func (Fn.func C) #[] #[]] 187)).alloc (Obj.cells #[Value.slice none 0 0] 24)).alloc (Obj.cells #[Value.slice aa a.length ca] 24)).alloc (Obj.cells #[Value.slice ab b.length cb] 24)));have ba:W0.heap.size=w.heap.size+4:=by rw[<-N];simp
 have b0:Boxed W0 w.heap.size 187 (Value.func (Fn.func C) #[] #[]):=by rw[<-N];exact(((t8 w _ _).alloc _).alloc _).alloc _
 have b1:Boxed W0 (w.heap.size+1) 24 (Value.slice none 0 0):=by rw[<-N];have:=t8 (w.alloc (Obj.cells #[Value.func (Fn.func C) #[] #[]] 187)) 24 (Value.slice none 0 0);rw[tE]at this;exact(this.alloc _).alloc _
 have b2:Boxed W0 (w.heap.size+1+1) 24 (Value.slice aa a.length ca):=by rw[<-N];have:=t8 ((w.alloc (Obj.cells #[Value.func (Fn.func C) #[] #[]] 187)).alloc (Obj.cells #[Value.slice none 0 0] 24)) 24 (Value.slice aa a.length ca);simp only[tE]at this;exact this.alloc _
 have b3:Boxed W0 (w.heap.size+1+1+1) 24 (Value.slice ab b.length cb):=by rw[<-N];have:=t8 (((w.alloc (Obj.cells #[Value.func (Fn.func C) #[] #[]] 187)).alloc (Obj.cells #[Value.slice none 0 0] 24)).alloc (Obj.cells #[Value.slice aa a.length ca] 24)) 24 (Value.slice ab b.length cb);simp only[tE]at this;exact this
 have aw:Below w.heap.size w W0:=by rw[<-N];exact((((tB _ _).alloc (Zp _) _).alloc b8 _).alloc b7 _).alloc b7 _
 rw [N];clear N;have af:=j4 ha hb;have aR:=jF a b;refine ziP (w:=W0) 184 #[.pointer (some ⟨w.heap.size+1+1,0,none⟩),.pointer (some ⟨w.heap.size+1+1+1,0,none⟩)] rfl (enters_of func184 dN rfl) za1 (λ_=>rfl)
  (λk=>k=w.heap.size+1+1\/k=w.heap.size+1+1+1) (λk=>k<w.heap.size\/k=w.heap.size+1+1\/k=w.heap.size+1+1+1) (yO a b) ?hit
  (λk=>k=w.heap.size+1\/w.heap.size+6<=k) (λk hk=>b6) b6 ⟨b6,b6⟩
  (λpre W=>(∃v,Boxed W (w.heap.size+1) 24 v/\OwnR (w.heap.size+6) W v (qg f [] pre))/\Boxed W w.heap.size 187 (Value.func (Fn.func C) #[] #[])/\Below w.heap.size w W)
  (λ_ _ _=>False) ?hI (λ_ _ _ _ h _=>h) ⟨⟨_,b1,OwnR.nil _ _⟩,b0,aw⟩
  (λpre x a' W=>((∃v,Boxed W (w.heap.size+1) 24 v/\OwnR (w.heap.size+6) W v (qg f [] pre))/\Boxed W w.heap.size 187 (Value.func (Fn.func C) #[] #[])/\Below w.heap.size w W) /\
    ∃J Bs,W.heap[J]?=some (.cells #[.int .u64 x.1.lo,.int .u64 x.1.hi] 64 (0,0))/\W.heap[Bs]?=some (.cells #[.bool x.2.1,.bool x.2.2] 186 (0,0))/\w.heap.size+6<=J/\w.heap.size+6<=Bs /\
    a'={ tmps:=#[Value.slice aa a.length ca,Value.slice ab b.length cb,Value.func (Fn.func C) #[] #[],undef,undef,Value.pointer (some ⟨w.heap.size,0,none⟩),Value.slice none 0 0,Value.pointer (some ⟨w.heap.size+1,0,none⟩),Value.pointer (some ⟨J,0,none⟩),Value.pointer (some ⟨Bs,0,none⟩),undef,Value.slice aa a.length ca,Value.slice ab b.length cb,Value.func (Fn.func 184) #[] #[Value.pointer (some ⟨w.heap.size+1+1,0,none⟩),Value.pointer (some ⟨w.heap.size+1+1+1,0,none⟩)],.agg #[.int .u64 x.1.lo,.int .u64 x.1.hi],.agg #[.bool x.2.1,.bool x.2.2],undef,undef,undef,undef,undef,undef,undef,undef,undef,undef,undef,undef,undef,undef,undef,undef,undef,undef,undef,undef,undef,undef,undef,undef,undef,undef,undef,undef,undef],defers:=[] })
  ?hAx ?hassign ?hbody ?hdone (λ_ _ _ _ h _=>h.elim)
 case hit=>
  intro W hk _;exact J7 a b _ _ (w.heap.size+1+1) (w.heap.size+1+1+1) w.heap.size W ha hb b6 b6 b6
   ⟨hk.boxed b2 id,hk.boxed b3 id,ra.below (aw.trans (hk.below b6 λ_ _=>id)) (Zp _),rb.below (aw.trans (hk.below b6 λ_ _=>id)) (Zp _),Suf.refl _ _,Suf.refl _ _⟩
 case hI=>rintro pre A B ⟨⟨v,h1,h2⟩,h3,S⟩ hk;exact⟨⟨v,hk.boxed h1 b6,h2.keep hk (λg hg=>b6)⟩,hk.boxed h3 b6,S.trans (hk.below S.size λk hk=>b6)⟩
 case hAx=>rintro pre x a' A B ⟨⟨⟨v,h1,h2⟩,h3,S⟩,J,Bs,hp,hs,aE,aF,rfl⟩ hk;exact⟨⟨⟨v,hk.boxed h1 b6,h2.keep hk (λg hg=>b6)⟩,hk.boxed h3 b6,S.trans (hk.below S.size λk hk=>b6)⟩,J,Bs,hk.obj hp b6,hk.obj hs b6,aE,aF,rfl⟩
 case hassign=>
  rintro l pre ⟨⟨lo,hi⟩,p,q⟩ W Y aP ⟨⟨v,h1,h2⟩,h3,S⟩;clear Y;dsimp only[za1]
  gi_wp2
  have aO:∀o1 o2,Keep (λk=>k=w.heap.size+1\/w.heap.size+6<=k) W ((W.alloc o1).alloc o2):=λo1 o2=>((Keep.refl _ _).alloc _).alloc _;refine⟨aO _ _,⟨⟨v,(h1.alloc _).alloc _,(h2.keep ((Keep.refl qe W).alloc _) λ_ _=>id).keep ((Keep.refl qe _).alloc _) λ_ _=>id⟩,(h3.alloc _).alloc _,(S.alloc S.size _).alloc (by simp;have:=S.size;omega) _⟩,
   W.heap.size,W.heap.size+1,?_,?_,b6,b6,rfl⟩
  .exact(tC _ _ _ b8).trans (tx W _)
  .have:=tx (W.alloc (.cells #[.int .u64 lo,.int .u64 hi] 64)) (.cells #[.bool p,.bool q] 186)
   rwa[tE]at this
 case hbody=>
  rintro l pre x a' W ⟨r,Y⟩ aP ⟨⟨⟨v,h1,h2⟩,h3,S⟩,J,Bs,hp,hs,aE,aF,rfl⟩;obtain⟨⟨lo,hi⟩,p,q⟩:=x;obtain⟨m1,m2,m3,m4⟩:=xq (f:=f) pre 0 [] (⟨lo,hi⟩,p,q) r (by rw[show pre++(⟨lo,hi⟩,p,q)::r=yO a b from by rw[<-Y];simp];exact af) trivial (λ_ h=>by cases h);have aQ:=jD f pre [];have aZ:pre.length+1<=(yO a b).length:=(by rw[<-Y];simp);have c3:=h3.cell;have aK:W.cell? ⟨Bs,0,none⟩=some (.bool p):=(by simp[World.cell?,hs]);have aL:W.cell? ⟨Bs,1,none⟩=some (.bool q):=(by simp[World.cell?,hs]);obtain⟨i0,aA,aH,aI,aJ⟩:=tV Tryz.infoIv;have HM:=qL (And.intro Y (And.intro af (And.intro aR (And.intro m1 (And.intro m2 m3)))));dsimp only at m3 m4;clear Y af m1 m2 hs
  gi_wp2_with fail
  refine⟨trivial,CallsIn.mono (T5 l (callsIn_wide.2 (aS p q W))) ?_⟩;rintro e W1 ⟨rfl,ax⟩;have X:Keep qe W W1:=Keep.of_below' ax (Zp _);have M:=X.boxed h1 id;have ae:=h2.keep X λ_ _=>id;have U:=X.boxed h3 id;have I:=S.trans (ax.mono S.size);have aD:=X.obj hp id;have ar:w.heap.size+6<=W1.heap.size:=(by have:=X.size;omega);have ah:=qL X;clear ax X h1 h2 h3 S hp c3 aK aL;obtain⟨ay,ag⟩:=xm (qg f [] pre);rw[<-ag]at ae aQ;have HO:=qL ag;clear ag;have c1:=M.cell;have T:W1.cell? ⟨J,0,none⟩=some (.int .u64 lo):=(by simp[World.cell?,aD]);have L:W1.cell? ⟨J,1,none⟩=some (.int .u64 hi):=(by simp[World.cell?,aD]);cases ht:f p q with
  | false=>
    have HT:=qL ht
    gi_wp2
    exact⟨ah.o.mono λ_ _ h=>h.elim,⟨v,M,by rw[yf];simp only[qg,HT.o,<-HO.o];exact ae⟩,U,I⟩
  | true=>
    have HT:=qL ht;obtain⟨ad,ai,rfl⟩:=ae.val;have HH:=qL ae;clear ae;rcases UA ay with rfl|⟨E,t,rfl⟩
    .gi_wp2_with fail
     refine Kh (Sw:=qe) (λ_=>trivial) 11 45 (λ_=>True) dN dN rfl trivial ?_;simp only[wT,Wg];repeat (first
      |(refine V5 (λ_=>trivial) ?_ rfl (λa w H _ G=>?_) ?_;rotate_left;(simp[Rds,zA,lk,Op.operands,Call.operands,RdEq]at G;go_simp;with_reducible rfl);simp only[XV,Yf])
      |(refine jI rfl ?_ ?_;(first|exact .inl (zG rfl rfl)|exact .inr (zG rfl rfl));simp only[XV,Yf])
      |(refine QQ (λ_=>trivial) rfl ?_ ?_ (λa w H _ G=>?_) ?_;exact(zG rfl rfl);rotate_left;(simp[Rds,zA,lk,Op.operands,Call.operands,RdEq]at G;go_simp;with_reducible rfl);simp only[XV,Yf]))
     intro y _ O;simp only[finG,WZ,XV,Yf,wR,Wo,W5];simp only[Act.put,wF,wW,wX];have j:Keep qe W1 y:=((Keep.refl qe W1).drew).trans O;have e1:=j.boxed M id;have e3:=j.boxed U id;have e4:=I.trans (j.below I.size λ_ _=>id);have eo:=(HH.o).keep j λ_ _=>id;have Q:=qL (And.intro eo (And.intro e3 e4));have d1:=e1.cell;have d2:y.cell? ⟨J,0,none⟩=some (.int .u64 lo):=j.cell_some T id;have d3:y.cell? ⟨J,1,none⟩=some (.int .u64 hi):=j.cell_some L id;have aC:w.heap.size+6<=y.heap.size:=V3 ar j.size;have ac:=qL j;clear O j e3 e4 eo c1 T L M U I
     gi_wp2_with (gi_at_builtin;go_loud (refine TG _ rfl _ _ 24 rfl (w.heap.size+6) 64 i0 (.agg #[.int .u64 0,.int .u64 0]) 2 16 underlying24 aA aH aI aJ rfl dE _ _ _ rfl (Q.o.1.1.alloc _) ⟨y.heap.size,0,none⟩ 1 1 [.int .u64 lo,.int .u64 hi] rfl rfl (kw (cs:=#[.int .u64 lo,.int .u64 hi]) (t := 64) (fr:=(0,0)) (tx y _)) dK (by unfold maxLen;first|decide|omega) (by first|decide|omega) (by rw[tE];omega) ?_);intro v' w3 F V _;obtain⟨g',az,rfl⟩:=T0 F;obtain⟨q1,q2,q3,q4⟩:=qO e1 dE Q.o.1.1 F V;have aT:=q1.cell;have aU:=q1.frozen)
     refine⟨((ah.o.trans ac.o).mono λ_ _ h=>h.elim).trans (q4.mono λk _ h=>h),⟨_,q2,?_⟩,q4.boxed Q.o.2.1 b6,Q.o.2.2.trans (q4.below Q.o.2.2.size λk _=>b6)⟩;rw[yf];simp only[qg,HT.o,UR,<-HO.o];exact Q.o.1.snoc ⟨by show lo<zk;omega,by show hi<zk;omega⟩ q3
    .simp only[UB,wu,wD,WB,wy]at *;obtain⟨g,aN,rfl,aV,aM,ao,aq,bc⟩:=HH.o.last;have am:t.lo<=t.hi/\t.hi<zk:=by have:=NF.lo_ge HM.o.2.2.2.1 t (by rw[<-HO.o];simp);exact⟨this.2.1,this.2.2⟩
     have aG:t.hi<lo:=HM.o.2.2.2.2.1 t (by rw[<-HO.o];simp);have av:W1.cell? ⟨g,E.length*2,none⟩=some (.int .u64 t.lo):=ao;have aj:W1.cell? ⟨g,E.length*2+1,none⟩=some (.int .u64 t.hi):=aq;clear ao aq;unfold maxLen at aM;have aY:((E.length:Nat):Int)<(E.length:Int)+1:=b6
     gi_wp2_with fail
     by_cases Z:t.hi+1=lo
     .have hrel:(((relate t ⟨lo,hi⟩:Nat):Int) == 1)=true:=(by have:relate t ⟨lo,hi⟩=1:=(by unfold relate;rw[VS aG,VS Z]);rw[this];rfl);have au:=qL Z;clear Z;refine Kh (Sw:=qe) (λ_=>trivial) 11 45 (λP=>P.cell? ⟨w.heap.size+1,0,none⟩=some (.slice (some ⟨g,0,none⟩) (E.length+1) ai)/\P.cell? ⟨g,E.length*2,none⟩=some (.int .u64 t.lo)/\P.cell? ⟨g,E.length*2+1,none⟩=some (.int .u64 t.hi)/\P.cell? ⟨J,0,none⟩=some (.int .u64 lo)/\P.cell? ⟨J,1,none⟩=some (.int .u64 hi)) dN dN rfl ⟨c1,av,aj,T,L⟩ ?_;simp only[wT,Wg];repeat (first
       |(refine V5 (λ_=>trivial) ?_ rfl (λa w H _ G=>?_) ?_;rotate_left;(simp[Rds,zA,lk,Op.operands,Call.operands,RdEq]at G;go_simp;with_reducible rfl);simp only[XV,Yf])
       |(refine jI rfl ?_ ?_;(first|exact .inl (zG rfl rfl)|exact .inr (zG rfl rfl));simp only[XV,Yf])
       |(refine QQ (λ_=>trivial) rfl ?_ ?_ (λa w H _ G=>?_) ?_;exact(zG rfl rfl);rotate_left;(simp[Rds,zA,lk,Op.operands,Call.operands,RdEq]at G;go_simp;with_reducible rfl);simp only[XV,Yf]))
      refine zhg (λu _=>u=.int .i64 ((relate t ⟨lo,hi⟩:Nat):Int)) (yj _) rfl (zG rfl rfl) ?_ ?_
      .intro a2 y H hk G K hK;have HK:=qL hK;clear hK;simp[Rds,zA,lk,Op.operands,Call.operands,RdEq]at G;refine⟨λ_ _=>trivial,?_⟩;go_simp;refine CallsIn.mono (T5 l (callsIn_wide.2 (QF t ⟨lo,hi⟩ _ am.1 (by show lo<=hi;omega) am.2 (by show hi<zk;omega)))) ?_;rintro e w3 ⟨rfl,hb⟩;have o:Keep qe y w3:=Keep.of_below' hb (Zp _);exact HK.o _ _ o ⟨o.cell_some H.1 id,o.cell_some H.2.1 id,o.cell_some H.2.2.1 id,o.cell_some H.2.2.2.1 id,o.cell_some H.2.2.2.2 id⟩ rfl
      simp only[XV,Yf];repeat (first
       |(refine V5 (λ_=>trivial) ?_ rfl (λa w H _ G=>?_) ?_;rotate_left;(simp[Rds,zA,lk,Op.operands,Call.operands,RdEq]at G;go_simp;with_reducible rfl);simp only[XV,Yf])
       |(refine jI rfl ?_ ?_;(first|exact .inl (zG rfl rfl)|exact .inr (zG rfl rfl));simp only[XV,Yf])
       |(refine QQ (λ_=>trivial) rfl ?_ ?_ (λa w H _ G=>?_) ?_;exact(zG rfl rfl);rotate_left;(simp[Rds,zA,lk,Op.operands,Call.operands,RdEq]at G;go_simp;with_reducible rfl);simp only[XV,Yf]))
      intro y _ O;simp only[finG,WZ,XV,Yf,wR,Wo,W5];simp only[Act.put,wF,wW,wX];have j:Keep qe W1 y:=((Keep.refl qe W1).drew).trans O;have e1:=j.boxed M id;have e3:=j.boxed U id;have e4:=I.trans (j.below I.size λ_ _=>id);have eo:=(HH.o).keep j λ_ _=>id;have er:y.ownsRow (w.heap.size+6) 64 2 (.slice (some ⟨g,0,none⟩) (E.length+1) ai) (E.length+1) (xw (E++[t])):=(by have:=eo.1;simpa using this);have ER:=qL er;have Q:=qL (And.intro eo (And.intro e3 e4));have d1:=e1.cell;have d3:y.cell? ⟨J,1,none⟩=some (.int .u64 hi):=j.cell_some L id;have d4:y.cell? ⟨g,E.length*2+1,none⟩=some (.int .u64 t.hi):=j.cell_some aj id;have d5:y.frozen? ⟨g,E.length*2+1,none⟩=false:=er.frozenAt _;have ac:=qL j;clear O j e3 e4 eo er c1 T L av aj M U I
      gi_wp2
      have ak:Keep (λk=>k=g) y (y.setCell ⟨g,E.length*2+1,none⟩ (.int .u64 hi)):=(Keep.refl (λk=>k=g) y).setCell (p:=⟨g,E.length*2+1,none⟩) (λ_=>rfl) _;refine⟨((ah.o.trans ac.o).mono λ_ _ h=>h.elim).trans (ak.mono λk _ h=>.inr (by rw[h];exact aN)),⟨_,ak.boxed e1 b6,?_⟩,ak.boxed Q.o.2.1 b6,Q.o.2.2.trans (ak.below Q.o.2.2.size λk hk=>b6)⟩;rw[yf];simp only[qg,HT.o,UR,<-HO.o];rw[show Q8 (E++[t]) ⟨lo,hi⟩=E++[⟨t.lo,hi⟩] from by unfold Q8;rw[Uf];simp only;rw[VS au.o,tj]];exact Q.o.1.setHi rfl hi b6
     .have hrel:(((relate t ⟨lo,hi⟩:Nat):Int) == 1)=false:=(by have:relate t ⟨lo,hi⟩=0:=(by unfold relate;rw[VS aG,V2 Z]);rw[this];rfl);have au:=qL Z;clear Z;refine Kh (Sw:=qe) (λ_=>trivial) 11 45 (λP=>P.cell? ⟨w.heap.size+1,0,none⟩=some (.slice (some ⟨g,0,none⟩) (E.length+1) ai)/\P.cell? ⟨g,E.length*2,none⟩=some (.int .u64 t.lo)/\P.cell? ⟨g,E.length*2+1,none⟩=some (.int .u64 t.hi)/\P.cell? ⟨J,0,none⟩=some (.int .u64 lo)/\P.cell? ⟨J,1,none⟩=some (.int .u64 hi)) dN dN rfl ⟨c1,av,aj,T,L⟩ ?_;simp only[wT,Wg];repeat (first
       |(refine V5 (λ_=>trivial) ?_ rfl (λa w H _ G=>?_) ?_;rotate_left;(simp[Rds,zA,lk,Op.operands,Call.operands,RdEq]at G;go_simp;with_reducible rfl);simp only[XV,Yf])
       |(refine jI rfl ?_ ?_;(first|exact .inl (zG rfl rfl)|exact .inr (zG rfl rfl));simp only[XV,Yf])
       |(refine QQ (λ_=>trivial) rfl ?_ ?_ (λa w H _ G=>?_) ?_;exact(zG rfl rfl);rotate_left;(simp[Rds,zA,lk,Op.operands,Call.operands,RdEq]at G;go_simp;with_reducible rfl);simp only[XV,Yf]))
      refine zhg (λu _=>u=.int .i64 ((relate t ⟨lo,hi⟩:Nat):Int)) (yj _) rfl (zG rfl rfl) ?_ ?_
      .intro a2 y H hk G K hK;have HK:=qL hK;clear hK;simp[Rds,zA,lk,Op.operands,Call.operands,RdEq]at G;refine⟨λ_ _=>trivial,?_⟩;go_simp;refine CallsIn.mono (T5 l (callsIn_wide.2 (QF t ⟨lo,hi⟩ _ am.1 (by show lo<=hi;omega) am.2 (by show hi<zk;omega)))) ?_;rintro e w3 ⟨rfl,hb⟩;have o:Keep qe y w3:=Keep.of_below' hb (Zp _);exact HK.o _ _ o ⟨o.cell_some H.1 id,o.cell_some H.2.1 id,o.cell_some H.2.2.1 id,o.cell_some H.2.2.2.1 id,o.cell_some H.2.2.2.2 id⟩ rfl
      simp only[XV,Yf];repeat (first
       |(refine V5 (λ_=>trivial) ?_ rfl (λa w H _ G=>?_) ?_;rotate_left;(simp[Rds,zA,lk,Op.operands,Call.operands,RdEq]at G;go_simp;with_reducible rfl);simp only[XV,Yf])
       |(refine jI rfl ?_ ?_;(first|exact .inl (zG rfl rfl)|exact .inr (zG rfl rfl));simp only[XV,Yf])
       |(refine QQ (λ_=>trivial) rfl ?_ ?_ (λa w H _ G=>?_) ?_;exact(zG rfl rfl);rotate_left;(simp[Rds,zA,lk,Op.operands,Call.operands,RdEq]at G;go_simp;with_reducible rfl);simp only[XV,Yf]))
      intro y _ O;simp only[finG,WZ,XV,Yf,wR,Wo,W5];simp only[Act.put,wF,wW,wX];have j:Keep qe W1 y:=((Keep.refl qe W1).drew).trans O;have e1:=j.boxed M id;have e3:=j.boxed U id;have e4:=I.trans (j.below I.size λ_ _=>id);have eo:=(HH.o).keep j λ_ _=>id;have er:y.ownsRow (w.heap.size+6) 64 2 (.slice (some ⟨g,0,none⟩) (E.length+1) ai) (E.length+1) (xw (E++[t])):=(by have:=eo.1;simpa using this);have ER:=qL er;have Q:=qL (And.intro eo (And.intro e3 e4));have d1:=e1.cell;have d2:y.cell? ⟨J,0,none⟩=some (.int .u64 lo):=j.cell_some T id;have d3:y.cell? ⟨J,1,none⟩=some (.int .u64 hi):=j.cell_some L id;have aC:w.heap.size+6<=y.heap.size:=V3 ar j.size;have ac:=qL j;clear O j e3 e4 eo er c1 T L M U I
      gi_wp2_with (gi_at_builtin;go_loud (refine TG _ rfl _ _ 24 rfl (w.heap.size+6) 64 i0 (.agg #[.int .u64 0,.int .u64 0]) 2 16 underlying24 aA aH aI aJ rfl dE _ _ _ rfl (ER.o.alloc _) ⟨y.heap.size,0,none⟩ 1 1 [.int .u64 lo,.int .u64 hi] rfl rfl (kw (cs:=#[.int .u64 lo,.int .u64 hi]) (t := 64) (fr:=(0,0)) (tx y _)) dK (by unfold maxLen;first|decide|omega) (by first|decide|omega) (by rw[tE];omega) ?_);intro v' w3 F V _;obtain⟨g',az,rfl⟩:=T0 F;obtain⟨q1,q2,q3,q4⟩:=qO e1 dE ER.o F V;have aT:=q1.cell;have aU:=q1.frozen)
      refine⟨((ah.o.trans ac.o).mono λ_ _ h=>h.elim).trans (q4.mono λk _ h=>h),⟨_,q2,?_⟩,q4.boxed Q.o.2.1 b6,Q.o.2.2.trans (q4.below Q.o.2.2.size λk _=>b6)⟩;rw[yf];simp only[qg,HT.o,UR,<-HO.o];rw[show Q8 (E++[t]) ⟨lo,hi⟩=E++[t]++[⟨lo,hi⟩] from by unfold Q8;rw[Uf];simp only;rw[V2 au.o]];exact Q.o.1.snoc ⟨by show lo<zk;omega,by show hi<zk;omega⟩ (dM q3)
 case hdone=>
  rintro W ⟨⟨v,h1,h2⟩,h3,S⟩ hD;have H:=h1.cell
  gi_wp2
  refine⟨b8,.inl ⟨_,_,rfl,Ti hD,?_⟩⟩;have aB:Keep (λk=>k=W0.heap.size) W (W.putObj W0.heap.size (.deferred none)):=(Keep.refl (λk=>k=W0.heap.size) W).putObj (λ_=>rfl) _;exact⟨_,tR rfl _ _ _,v,rfl,(h2.keep aB λg hg=>b6).mono b6,S.trans (aB.below S.size λk hk=>b6)⟩
attribute [local go_sem] Oper.semAt_some
def zn(p q:Bool):Bool:=p || q
def fMeet(p q:Bool):Bool:=p && q
def zm(p q:Bool):Bool:=p && !q
def V4(a b:List Iv)(o u:Value)(w:World)(C:Nrm a)(hb:Nrm b)(ra:RdR 0 w.heap.size w o a)(rb:RdR 0 w.heap.size w u b)(j:a.length+b.length<=1073741824):
 Calls xT 87 #[o,u] w λe y=>∃v,e=.returned v/\OwnR w.heap.size y v (qy zn a b)/\Below w.heap.size w y:=by
 have A:=vG zn 130 (enters_of func130 dN rfl) Kq a b o u w C hb ra rb j;have B:=qL A;clear A;obtain⟨E,G,rfl,_⟩:=ra;obtain⟨F,H,rfl,_⟩:=rb;go_enter func87,ntmps87
 go_wp2_with (go_at_call 107;refine B.o.mono ?_;rintro e y ⟨v,rfl,I,hb⟩)
 go_ret;exact⟨_,rfl,‹_›,‹_›⟩
def JW(a b:List Iv)(o u:Value)(w:World)(C:Nrm a)(hb:Nrm b)(ra:RdR 0 w.heap.size w o a)(rb:RdR 0 w.heap.size w u b)(j:a.length+b.length<=1073741824):
 Calls xT 68 #[o,u] w λe y=>∃v,e=.returned v/\OwnR w.heap.size y v (qy fMeet a b)/\Below w.heap.size w y:=by
 have A:=vG fMeet 108 (enters_of func108 dN rfl) zbP a b o u w C hb ra rb j;have B:=qL A;clear A;obtain⟨E,G,rfl,_⟩:=ra;obtain⟨F,H,rfl,_⟩:=rb;go_enter func68,ntmps68
 go_wp2_with (go_at_call 107;refine B.o.mono ?_;rintro e y ⟨v,rfl,I,hb⟩)
 go_ret;exact⟨_,rfl,‹_›,‹_›⟩
def Zu(a b:List Iv)(o u:Value)(w:World)(C:Nrm a)(hb:Nrm b)(ra:RdR 0 w.heap.size w o a)(rb:RdR 0 w.heap.size w u b)(j:a.length+b.length<=1073741824):
 Calls xT 122 #[o,u] w λe y=>∃v,e=.returned v/\OwnR w.heap.size y v (qy zm a b)/\Below w.heap.size w y:=by
 have A:=vG zm 165 (enters_of func165 dN rfl) Kp a b o u w C hb ra rb j;have B:=qL A;clear A;obtain⟨E,G,rfl,_⟩:=ra;obtain⟨F,H,rfl,_⟩:=rb;go_enter func122,ntmps122
 go_wp2_with (go_at_call 107;refine B.o.mono ?_;rintro e y ⟨v,rfl,I,hb⟩)
 go_ret;exact⟨_,rfl,‹_›,‹_›⟩
def ziL{w:World}{B:Nat}{s:Iv}(h:w.heap[B]?=some (.cells #[.int .u64 s.lo,.int .u64 s.hi] 64 (0,0)))(j:s.lo<zk)(o:s.hi<zk):RdR 0 w.heap.size w (.slice (some ⟨B,0,none⟩) 1 1) [s]:=by
 refine⟨_,1,rfl,b8,dE,λ_=>⟨B,0,rfl,vj _,(Y1.1 h).1,λi hi=>?_⟩⟩;obtain rfl:i=0:=dM hi
 exact⟨by simp[World.cell?,h],by simp[World.cell?,h],j,o⟩
def zbn(a:List Iv)(B:Value)(s:Iv)(w:World)(E:Nrm a)(hs:s.lo<=s.hi)(u:s.hi<zk)(ra:RdR 0 w.heap.size w B a)(A:a.length<=1073741823):
 Calls xT 172 #[B,.agg #[.int .u64 s.lo,.int .u64 s.hi]] w λe C=>∃v,e=.returned v/\OwnR w.heap.size C v (qy zm [s] a)/\Below w.heap.size w C:=by
 obtain⟨H,I,rfl,_⟩:=id ra;go_enter func172,ntmps172
 go_wp2_with fail
 obtain⟨y,o⟩:=xt (((w.alloc (Obj.cells #[Value.int IntKind.u64 s.lo,Value.int IntKind.u64 s.hi] 64)).alloc (Obj.cells #[Value.int IntKind.u64 s.lo,Value.int IntKind.u64 s.hi] 64)));have j:Below w.heap.size w y:=by rw[<-o];exact((tB _ _).alloc (Zp _) _).alloc b8 _
 have F:y.heap[w.heap.size+1]?=some (.cells #[.int .u64 s.lo,.int .u64 s.hi] 64 (0,0)):=by
  rw[<-o];have:=tx (w.alloc (Obj.cells #[Value.int IntKind.u64 s.lo,Value.int IntKind.u64 s.hi] 64)) (Obj.cells #[Value.int IntKind.u64 s.lo,Value.int IntKind.u64 s.hi] 64);rwa[tE]at this
 rw[o];clear o;refine(Zu [s] a _ _ y ⟨vj _,hs,u,trivial⟩ E (ziL F b6 u) ((ra.below j (Zp _)).keep (Zp _) j.size λ_ _ _=>rfl) b7).mono ?_;rintro e J ⟨v,rfl,G,hb⟩
 go_wp2;go_ret;exact⟨_,rfl,G.mono j.size,j.trans (hb.mono j.size)⟩
end
section
def xR(f:XE)(a b:List Iv):(qy f a b).length<=2*(a.length+b.length)+1:=V3 (jD f _ _) (by simpa using jF a b)
structure En where
 rep:Nat
 max:Nat
 holes:List Iv
deriving DecidableEq
def En.ext'{e f:En}(j:e.rep=f.rep)(o:e.max=f.max)(u:e.holes=f.holes):e=f:=by cases e;cases f;simp_all
def zO(e:En):Prop:=Nrm e.holes/\(∀s∈e.holes,s.hi<=e.max)/\e.max<zk/\e.rep<zk
def qG{m n:Nat}(h:m<=n)(j:n<zk):Nrm [⟨m,n⟩]:=⟨vj _,h,j,trivial⟩
def jl(m n x:Nat):mem [⟨m,n⟩] x=(decide (m<=x) && decide (x<=n)):=by simp[mem]
def kn(e:En):List Iv:=qy zm [⟨0,e.max⟩] e.holes
def qT{e:En}(h:zO e):Nrm (kn e):=qH (qG (vj _) h.2.2.1) h.1
def vC{e:En}(h:zO e){x:Nat}(j:x<zk):mem (kn e) x=(decide (x<=e.max) && !mem e.holes x):=by unfold kn;rw[qj (qG (vj _) h.2.2.1) h.1 j,jl];simp[zm]
def QV(l:List Iv):Nat:=match l.getLast? with
 |some s=>s.hi
 |none=>0
def Kr{l:List Iv}(h:0<l.length):l[l.length-1].hi=QV l:=by unfold QV;rw[U1,Zv b6]
def x9{l:List Iv}(o:Nrm l)(h:l≠[]):mem l (QV l)=true/\QV l<zk:=by have j:0<l.length:=Wb.2 h;have:=NF.lo_ge o l[l.length-1] (X3 _);rw[<-Kr j];exact⟨qf.2 ⟨_,X3 _,this.2.1,Zp _⟩,this.2.2⟩
def zek{l:List Iv}(o:Nrm l){x:Nat}(w:mem l x=true):x<=QV l:=by
 obtain⟨s,hs,y,u⟩:=qf.1 w;have j:l≠[]:=by intro e;subst e;cases hs
 obtain⟨k,t,rfl⟩:=UA l |>.resolve_left j;unfold QV;rw[UB]at *;rw[Uf];rcases wI.1 hs with h|h
 .have:=o.last_lt s h;have:=(NF.lo_ge o t b8).2.1;simp only;omega
 .simp at h;subst h;exact u
def Qi(r:Nat)(l:List Iv):En×Bool:=if l=[] then (⟨0,0,[]⟩,false) else (⟨r,QV l,qy zm [⟨0,QV l⟩] l⟩,true)
def qD{r:Nat}{l:List Iv}(h:l≠[]):Qi r l=(⟨r,QV l,qy zm [⟨0,QV l⟩] l⟩,true):=V2 h
def zaj(r:Nat)(l:List Iv):(Qi r l).2=decide (l≠[]):=by
 unfold Qi;split
 .rename_i h;simp[h]
 .rename_i h;simp[h]
def k9{r:Nat}{l:List Iv}(y:r<zk)(o:Nrm l):zO (Qi r l).1:=by
 by_cases h:l=[]
 .subst h;exact⟨trivial,(λ_ h=>by cases h),xM,xM⟩
 .rw[qD h];have ht:=(x9 o h).2;have w:Nrm (qy zm [⟨0,QV l⟩] l):=qH (qG (vj _) ht) o;refine⟨w,λs hs=>?_,ht,y⟩;have u:=NF.lo_ge w s hs;have j:mem (qy zm [⟨0,QV l⟩] l) s.hi=true:=qf.2 ⟨s,hs,u.2.1,Zp _⟩;rw[qj (qG (vj _) ht) o u.2.2,jl]at j;simp[zm]at j;exact j.1
def JO{r:Nat}{l:List Iv}(y:r<zk)(o:Nrm l)(h:l≠[]):kn (Qi r l).1=l:=by
 have u:=k9 y o;refine Nrm.unique (qT u) o λx w=>?_;rw[vC u w];rw[qD h];have ht:=(x9 o h).2;simp only;rw[qj (qG (vj _) ht) o w,jl];simp only[zm];by_cases j:x<=QV l
 .simp[j]
 .have:mem l x=false:=by
   cases e:mem l x with
   |false=>rfl
   |true=>exact absurd (zek o e) j
  simp[j,this]
def YP(e:En):Prop:=zO e/\∀s∈e.holes,s.hi<e.max
def zeO{e:En}(h:YP e):mem e.holes e.max=false:=by
 cases h':mem e.holes e.max with
 |false=>rfl
 |true=>obtain⟨s,hs,_,j⟩:=qf.1 h';have:=h.2 s hs;omega
def jO{e:En}(h:YP e):kn e≠[]/\QV (kn e)=e.max:=by
 have u:mem (kn e) e.max=true:=by rw[vC h.1 h.1.2.2.1,zeO h];simp
 have j:kn e≠[]:=by intro w;rw[w]at u;cases u
 refine⟨j,?_⟩;have y:=zek (qT h.1) u;have o:=x9 (qT h.1) j;rw[vC h.1 o.2]at o;simp at o;omega
def ZM{e:En}(h:YP e):Qi e.rep (kn e)=(e,true):=by
 obtain⟨u,o⟩:=jO h;rw[qD u,o];have:qy zm [⟨0,e.max⟩] (kn e)=e.holes:=by
  refine vK (qG (vj _) h.1.2.2.1) (qT h.1) h.1.1 λx w=>?_;rw[vC h.1 w,jl];simp only[zm];by_cases j:x<=e.max
  .simp[j]
  .have:mem e.holes x=false:=by
    cases h':mem e.holes x with
    |false=>rfl
    |true=>obtain⟨s,hs,_,o⟩:=qf.1 h';have:=h.1.2.1 s hs;omega
   simp[j,this]
 rw[this]
def zak{r:Nat}{l:List Iv}(y:r<zk)(o:Nrm l)(h:l≠[]):YP (Qi r l).1:=by
 refine⟨k9 y o,λs hs=>?_⟩;have w:=k9 y o;have C:=w.2.1 s hs;rcases uJ C with A|A
 .exact A
 .have u:mem (Qi r l).1.holes (Qi r l).1.max=true:=qf.2 ⟨s,hs,by have:=NF.lo_ge w.1 s hs;omega,b6⟩;have B:=x9 o h;have j:mem (kn (Qi r l).1) (QV l)=true:=(by rw[JO y o h];exact B.1);rw[vC w B.2]at j;rw[qD h]at u j;simp only at u j;rw[u]at j;simp at j
def Jm{e:En}(h:zO e){l:List Iv}{s:Iv}(hs:e.holes=l++[s])(F:e.max<=s.hi)(E:0<s.lo):zO ⟨e.rep,s.lo-1,l⟩/\kn ⟨e.rep,s.lo-1,l⟩=kn e:=by
 have u:Nrm (l++[s]):=hs▸h.1;have C:=NF.lo_ge u s b8;have o:zO ⟨e.rep,s.lo-1,l⟩:=by
  refine⟨u.init,λt ht=>?_,?_,h.2.2.2⟩
  .have:=u.last_lt t ht;simp only;omega
  .simp only;omega
 refine⟨o,Nrm.unique (qT o) (qT h) λx y=>?_⟩;have w:s.hi=e.max:=by have:=h.2.1 s (by rw[hs];simp);omega
 rw[vC o y,vC h y,hs,yd,mem_one' s x];simp only;by_cases j:x<=s.lo-1
 .have e1:x<=e.max:=b6;have e2:¬s.lo<=x:=b6;simp[j,e1,e2]
 .by_cases B:x<=e.max
  .have e2:s.lo<=x:=b6;have A:x<=s.hi:=b6;simp[j,e2,A]
  .simp[j,B]
where mem_one' (s:Iv) (x:Nat):mem [s] x=(decide (s.lo<=x) && decide (x<=s.hi)):=by simp[mem]
def Jl{e:En}(h:zO e){l:List Iv}{s:Iv}(hs:e.holes=l++[s])(w:e.max<=s.hi)(u:s.lo=0):kn e=[]:=by
 refine Nrm.unique (qT h) trivial λx o=>?_;rw[vC h o,hs,yd];by_cases j:x<=e.max
 .have:mem [s] x=true:=qf.2 ⟨s,b8,b6,b6⟩;simp[this]
 .simp[j]
def Xb{e:En}(h:zO e)(j:e.holes=[]):YP e:=⟨h,λs hs=>by rw[j]at hs;cases hs⟩
def zcc{e:En}(h:zO e){l:List Iv}{s:Iv}(hs:e.holes=l++[s])(u:s.hi<e.max):YP e:=by
 refine⟨h,λt ht=>?_⟩;rw[hs]at ht;have o:Nrm (l++[s]):=hs▸h.1;have w:=NF.lo_ge o s b8;rcases wI.1 ht with j|j
 .have:=o.last_lt t j;omega
 .simp at j;subst j;exact u
def J0(r:Nat)(l:List Iv):(Qi r l).1.holes.length<=2*l.length+3:=by
 by_cases h:l=[]
 .subst h;simp[Qi]
 .rw[qD h];have:=xR zm [⟨0,QV l⟩] l;simp at this⊢;omega
def kW(e:En):(kn e).length<=2*e.holes.length+3:=by have:=xR zm [⟨0,e.max⟩] e.holes;simp at this;unfold kn;omega
end
section
open Go.RowKit
def rdE(u:Nat)(w:World)(b o:Nat)(e:En):Prop:=w.cell? ⟨b,o,none⟩=some (.int .u64 e.rep)/\w.cell? ⟨b,o+1,none⟩=some (.int .u64 e.max)/\(∃j,w.cell? ⟨b,o+2,none⟩=some j/\RdR 0 u w j e.holes)/\e.rep<zk/\e.max<zk
def RdV(j:Nat)(w:World)(v:Value)(l:List En):Prop:=RdSl 3 (rdE j) 0 j w v l
def RdV.keep{j:Nat}{w w':World}{v:Value}{l:List En}(h:RdV j w v l)(hb:∀k,k<j->w'.heap[k]?=w.heap[k]?):RdV j w' v l:=
 RdSl.keep h (Zp _) (Zp _) λb o x _ h2 ⟨c0,c1,⟨hv,c2,c3⟩,c4⟩=>
  ⟨(tw (a:=⟨b,o,none⟩) (hb b h2)).trans c0,(tw (a:=⟨b,o+1,none⟩) (hb b h2)).trans c1,⟨hv,(tw (a:=⟨b,o+2,none⟩) (hb b h2)).trans c2,c3.keep (Zp _) (Zp _) λb _ h=>hb b h⟩,c4⟩
def zC(e:En):List Nat:=e.rep::e.max::e.holes.length::e.holes.flatMap λs=>[s.lo,s.hi]
def zv(v:List En):List Nat:=v.length::v.flatMap zC
def PtE(u j:Nat)(A B:World):Prop:=A.heap.size<=B.heap.size/\∀k,k<A.heap.size->(k<u\/k=j\/∃o f t,A.heap[k]?=some (.cells o t f)/\(t = 155 \/ t = 64))->B.heap[k]?=A.heap[k]?
def RdV.pt{j u:Nat}{w o:World}{v:Value}{l:List En}(h:RdV j w v l)(y:PtE j u w o)(A:j<=w.heap.size):RdV j o v l:=h.keep λk hk=>y.2 k b6 (.inl hk)
def zko(x y z:Int)(w:World):(Instr.index 300 (.agg #[.int .u64 x,.int .u64 y,.int .u64 z]) (.int .i64 0)).run xT w=.ok (.int .u64 x) w:=dN
def zkp(x y z:Int)(w:World):(Instr.index 300 (.agg #[.int .u64 x,.int .u64 y,.int .u64 z]) (.int .i64 1)).run xT w=.ok (.int .u64 y) w:=dN
def zkq(x y z:Int)(w:World):(Instr.index 300 (.agg #[.int .u64 x,.int .u64 y,.int .u64 z]) (.int .i64 2)).run xT w=.ok (.int .u64 z) w:=dN
def zfR{v:List En}{k:Nat}(h:k<v.length):zv v=(v.length::(v.take k).flatMap zC)++zC v[k]++(v.drop (k+1)).flatMap zC:=by
 unfold zv
 conv=>lhs;rw[<-Wh k v,V1 h,Wl,Wn]
 simp
def Vt(v:List En)(va:Value)(Bv B:Nat)(W0:World)(hv:RdV B W0 va v)(hb:Boxed W0 Bv 48 va)(aF:B<=W0.heap.size):
 v7 xT 223 #[.pointer (some ⟨Bv,0,none⟩)] (λx:Nat=>#[.int .u64 x]) (λ_=>False) (PtE B Bv) (zv v) W0:=by
 intro l J Jx hJ aq hY h0;refine callsIn_wide.2 ?_;show Calls xT 223 #[.func (.yield l) #[] #[],.pointer (some ⟨Bv,0,none⟩)] W0 _;have HJ:=qL hJ;have bn:=qL aq;have HY:=qL hY;have HV:=qL hv;clear hJ aq hY;have bu:=hv.len;obtain⟨av,L,rfl,ba,aB,ae⟩:=hv;unfold maxLen at aB;have hM:=zw;have bw:IntKind.u64.wrap ((v.length:Nat):Int)=(v.length:Int):=ZR b6;have aY:=hb.cell;obtain⟨fn,K,u,H,T,N⟩:=HY.o [] v.length W0 h0 ⟨v.flatMap zC,rfl⟩;dsimp only at T;clear hM;go_enter func223,ntmps223
 go_upto_region 0 with fail
 refine(TC (n:=8)).1 ?_
 gi_wp2
 refine N.mono ?_;rintro e w1 (⟨rfl,an,V⟩|⟨rfl,ar⟩)
 .gi_wp2
  have az:Boxed w1 Bv 48 (.slice av v.length L):=(V.2 Bv hb.lt (.inr (.inl rfl))).trans hb;have aj:=qL (HV.o.pt V aF);have aG:B<=w1.heap.size:=V3 aF V.1;have aZ:=az.cell;clear T N aY hb az h0
  go_wp2_with fail
  go_loopg [17] v.length (λg x wr=>∃k:Nat,k<=v.length/\g=v.length-k/\x=.int .i64 k/\J (v.length::(v.take k).flatMap zC) wr/\RdV B wr (.slice av v.length L) v/\B<=wr.heap.size)
  case atStart=>exact⟨0,vj _,rfl,rfl,dM an,aj.o,aG⟩
  case round=>
   obtain⟨k,hk,rfl,rfl,U,aT,bt⟩:=hrel;obtain⟨wo,bi⟩:=xm (wr);subst bi;clear an aj aG V aZ ae;by_cases X:k<v.length
   .obtain⟨a',am,ay,_,_,aA⟩:=aT;obtain⟨b,Y,aU,_,aW,Q⟩:=aA (by intro e;subst e;simp at X);obtain⟨rfl,_,rfl⟩:av=a'/\v.length=v.length/\L=am:=(dM ay);subst aU;obtain⟨c0,c1,⟨hv,c2,ag⟩,be,bg⟩:=Q k X;have aM:qA (RdV B wo (.slice (some ⟨b,Y,none⟩) v.length L) v):=⟨_,_,rfl,ba,by unfold maxLen;exact aB,λ_=>⟨b,Y,rfl,vj _,aW,Q⟩⟩;have HE:qA (∃e,e=v[k]):=⟨_,rfl⟩;obtain⟨e,he⟩:=HE.o;rw[<-he]at c0 c1 ag be bg;have HK:=qL he;have br:=ag.len;obtain⟨ah,w,rfl,aD,af,I⟩:=ag;unfold maxLen at af;have bz:IntKind.u64.wrap ((e.holes.length:Nat):Int)=(e.holes.length:Int):=ZR (by rw[zw];omega);have HH:qA (RdR 0 B wo (.slice ah e.holes.length w) e.holes):=⟨_,_,rfl,aD,by unfold maxLen;exact af,I⟩;clear aA Q he HE ay I;have HP:qA (zv v=(v.length::(v.take k).flatMap zC)++zC e++(v.drop (k+1)).flatMap zC):=(by show zv v=_;rw[HK.o];exact zfR X)
    go_wp2_with fail
    go_loopg [30] 3 (λg x wr=>((g=3/\x=.int .i64 0/\J (v.length::(v.take k).flatMap zC) wr)\/(g=2/\x=.int .i64 1/\J ((v.length::(v.take k).flatMap zC)++[e.rep]) wr)\/(g=1/\x=.int .i64 2/\J ((v.length::(v.take k).flatMap zC)++[e.rep,e.max]) wr)\/(g=0/\x=.int .i64 3/\J ((v.length::(v.take k).flatMap zC)++[e.rep,e.max,e.holes.length]) wr)) /\
     RdV B wr (.slice (some ⟨b,Y,none⟩) v.length L) v/\B<=wr.heap.size/\wr.heap[wo.heap.size]?=some (.cells #[.int .u64 e.rep,.int .u64 e.max,.slice ah e.holes.length w] 155 (0,0))/\RdR 0 B wr (.slice ah e.holes.length w) e.holes)
    case atStart=>exact⟨.inl ⟨rfl,rfl,HJ.o _ _ _ U ((Keep.refl _ _).alloc _)⟩,aM.o.keep λj hj=>tC _ _ _ b6,b7,tx _ _,HH.o.keep (Zp _) (Zp _) λj _ hj=>tC _ _ _ b6⟩
    case round=>
     obtain⟨aC,P,E,A,O⟩:=hrel;clear U;have i0:=zko;have i1:=zkp;have i2:=zkq;rcases aC with⟨rfl,rfl,C⟩|⟨rfl,rfl,C⟩|⟨rfl,rfl,C⟩|⟨rfl,rfl,C⟩
     .obtain⟨fn,K,u,H,T,N⟩:=HY.o ((v.length::(v.take k).flatMap zC)) e.rep wr C ⟨e.max::e.holes.length::(e.holes.flatMap λs=>[s.lo,s.hi])++(v.drop (k+1)).flatMap zC,by rw[HP.o];simp[zC]⟩;try dsimp only at T
      go_upto_region 7 with fail
      refine(TC (n:=8)).1 ?_
      gi_wp2
      refine N.mono ?_;rintro e' w3 (⟨rfl,F,o⟩|⟨rfl,y⟩)
      .gi_wp2
       go_wp2;go_roundg 2;case measure=>omega
       case rel=>exact⟨.inr (.inl ⟨rfl,rfl,dM F⟩),P.pt o E,V3 E o.1,(o.2 _ (Y1.1 A).1 (.inr (.inr ⟨_,_,_,A,.inl rfl⟩))).trans A,O.keep (Zp _) (Zp _) λj _ hj=>o.2 j b6 (.inl hj)⟩
      .gi_wp2
       go_wp2;refine tI (tS rfl _ _ _) rfl ?_;exact⟨⟨_,rfl⟩,.inr ⟨((v.length::(v.take k).flatMap zC))++[e.rep],⟨e.max::e.holes.length::(e.holes.flatMap λs=>[s.lo,s.hi])++(v.drop (k+1)).flatMap zC,by rw[HP.o];simp[zC]⟩,y⟩⟩
     .obtain⟨fn,K,u,H,T,N⟩:=HY.o ((v.length::(v.take k).flatMap zC)++[e.rep]) e.max wr C ⟨e.holes.length::(e.holes.flatMap λs=>[s.lo,s.hi])++(v.drop (k+1)).flatMap zC,by rw[HP.o];simp[zC]⟩;try dsimp only at T
      go_upto_region 7 with fail
      refine(TC (n:=8)).1 ?_
      gi_wp2
      refine N.mono ?_;rintro e' w3 (⟨rfl,F,o⟩|⟨rfl,y⟩)
      .gi_wp2
       go_wp2;go_roundg 1;case measure=>omega
       case rel=>exact⟨.inr (.inr (.inl ⟨rfl,rfl,dM F⟩)),P.pt o E,V3 E o.1,(o.2 _ (Y1.1 A).1 (.inr (.inr ⟨_,_,_,A,.inl rfl⟩))).trans A,O.keep (Zp _) (Zp _) λj _ hj=>o.2 j b6 (.inl hj)⟩
      .gi_wp2
       go_wp2;refine tI (tS rfl _ _ _) rfl ?_;exact⟨⟨_,rfl⟩,.inr ⟨((v.length::(v.take k).flatMap zC)++[e.rep])++[e.max],⟨e.holes.length::(e.holes.flatMap λs=>[s.lo,s.hi])++(v.drop (k+1)).flatMap zC,by rw[HP.o];simp[zC]⟩,y⟩⟩
     .obtain⟨fn,K,u,H,T,N⟩:=HY.o ((v.length::(v.take k).flatMap zC)++[e.rep,e.max]) e.holes.length wr C ⟨(e.holes.flatMap λs=>[s.lo,s.hi])++(v.drop (k+1)).flatMap zC,by rw[HP.o];simp[zC]⟩;try dsimp only at T
      go_upto_region 7 with fail
      refine(TC (n:=8)).1 ?_
      gi_wp2
      refine N.mono ?_;rintro e' w3 (⟨rfl,F,o⟩|⟨rfl,y⟩)
      .gi_wp2
       go_wp2;go_roundg 0;case measure=>omega
       case rel=>exact⟨.inr (.inr (.inr (⟨rfl,rfl,dM F⟩))),P.pt o E,V3 E o.1,(o.2 _ (Y1.1 A).1 (.inr (.inr ⟨_,_,_,A,.inl rfl⟩))).trans A,O.keep (Zp _) (Zp _) λj _ hj=>o.2 j b6 (.inl hj)⟩
      .gi_wp2
       go_wp2;refine tI (tS rfl _ _ _) rfl ?_;exact⟨⟨_,rfl⟩,.inr ⟨((v.length::(v.take k).flatMap zC)++[e.rep,e.max])++[e.holes.length],⟨(e.holes.flatMap λs=>[s.lo,s.hi])++(v.drop (k+1)).flatMap zC,by rw[HP.o];simp[zC]⟩,y⟩⟩
     .have d0:wr.cell? ⟨wo.heap.size,2,none⟩=some (.slice ah e.holes.length w):=(by simp[World.cell?,A])
      go_wp2_with fail
      go_loopg [41] e.holes.length (λg x wr=>∃j:Nat,j<=e.holes.length/\g=e.holes.length-j/\x=.int .i64 j/\J (((v.length::(v.take k).flatMap zC)++[e.rep,e.max,e.holes.length])++(e.holes.take j).flatMap λs=>[s.lo,s.hi]) wr/\RdV B wr (.slice (some ⟨b,Y,none⟩) v.length L) v/\B<=wr.heap.size/\RdR 0 B wr (.slice ah e.holes.length w) e.holes)
      case atStart=>exact⟨0,vj _,rfl,rfl,dM C,P,E,O⟩
      case round=>
       obtain⟨j,hj,rfl,rfl,ao,ad,aH,aS⟩:=hrel;clear C P E O d0 A;obtain⟨M,aI⟩:∃wo,wo=wr:=⟨_,rfl⟩;subst aI;by_cases S:j<e.holes.length
       .obtain⟨aN,ac,ax,_,_,Z⟩:=aS;obtain⟨bh,ab,aw,_,aV,G⟩:=Z (by intro e';rw[e']at S;simp at S);obtain⟨rfl,rfl⟩:ah=aN/\w=ac:=(dM ax);subst aw;obtain⟨c3,c4,s1,s2⟩:=G j S;obtain⟨s,hs⟩:=xm (e.holes[j]);rw[<-hs]at c3 c4 s1 s2;have HS:=qL hs;have aK:qA (RdR 0 B M (.slice (some ⟨bh,ab,none⟩) e.holes.length w) e.holes):=⟨_,_,rfl,aD,by unfold maxLen;exact af,λ_=>⟨bh,ab,rfl,vj _,aV,G⟩⟩;clear hs Z G ax;have aL:=qL ad;clear ad;have aP:=HJ.o _ _ _ ao ((Keep.refl _ M).alloc (.cells #[.int .u64 s.lo,.int .u64 s.hi] 64));have HF:qA (zv v=((v.length::(v.take k).flatMap zC)++[e.rep,e.max,e.holes.length])++((e.holes.take j).flatMap λs=>[s.lo,s.hi])++[s.lo,s.hi]++(((e.holes.drop (j+1)).flatMap λs=>[s.lo,s.hi])++(v.drop (k+1)).flatMap zC)):=by
         show zv v=_;rw[HP.o];unfold zC
         conv=>lhs;rw[<-Wh j e.holes,V1 S,<-HS.o]
         simp;omega
        obtain⟨fn,K,u,H,T,N⟩:=HY.o (((v.length::(v.take k).flatMap zC)++[e.rep,e.max,e.holes.length])++((e.holes.take j).flatMap λs=>[s.lo,s.hi])) s.lo _ aP ⟨s.hi::(((e.holes.drop (j+1)).flatMap λs=>[s.lo,s.hi])++(v.drop (k+1)).flatMap zC),by rw[HF.o];simp only[wV,Yf,XV]⟩;try dsimp only at T
        go_upto_region 12 with fail
        refine(TC (n:=8)).1 ?_
        gi_wp2
        refine N.mono ?_;rintro e' w3 (⟨rfl,F,o⟩|⟨rfl,y⟩)
        .have aX:w3.heap[M.heap.size]?=some (.cells #[.int .u64 s.lo,.int .u64 s.hi] 64 (0,0)):=(o.2 _ b8 (.inr (.inr ⟨_,_,_,tx _ _,.inr rfl⟩))).trans (tx _ _);have bq:w3.cell? ⟨M.heap.size,1,none⟩=some (.int .u64 s.hi):=(by simp[World.cell?,aX]);have bc:B<=w3.heap.size:=V3 aH (V3 b8 o.1);have aJ:qA (∀q,q<B->w3.heap[q]?=M.heap[q]?):=λq hq=>(o.2 q b7 (.inl hq)).trans (tC _ _ _ b6);obtain⟨bp,bl,ak,aO,bj,aR⟩:=HY.o ((((v.length::(v.take k).flatMap zC)++[e.rep,e.max,e.holes.length])++((e.holes.take j).flatMap λs=>[s.lo,s.hi]))++[s.lo]) s.hi w3 F ⟨(((e.holes.drop (j+1)).flatMap λs=>[s.lo,s.hi])++(v.drop (k+1)).flatMap zC),by rw[HF.o];simp only[wV,Yf,XV]⟩;try dsimp only at bj
         clear T N
         gi_wp2
         refine aR.mono ?_;rintro e2 w4 (⟨rfl,aQ,aE⟩|⟨rfl,au⟩)
         .gi_wp2
          go_wp2;go_roundg (e.holes.length-(j+1));case measure=>omega
          case rel=>have ai:∀q,q<B->w4.heap[q]?=M.heap[q]?:=λq hq=>(aE.2 q b6 (.inl hq)).trans (aJ.o q hq);refine⟨j+1,b6,rfl,by go_num,?_,aL.o.keep ai,V3 bc aE.1,aK.o.keep (Zp _) (Zp _) λq _ hq=>ai q hq⟩;rw[vw S,Wl,<-HS.o];simpa using aQ
         .gi_wp2
          go_wp2;refine tI (tS rfl _ _ _) rfl ?_;exact⟨⟨_,rfl⟩,.inr ⟨_,⟨(((e.holes.drop (j+1)).flatMap λs=>[s.lo,s.hi])++(v.drop (k+1)).flatMap zC),by rw[HF.o];simp only[wV,Yf,XV]⟩,au⟩⟩
        .gi_wp2
         refine⟨λf hf=>(by cases hf),?_⟩
         gi_wp2
         go_wp2;refine tI (tS rfl _ _ _) rfl ?_;exact⟨⟨_,rfl⟩,.inr ⟨_,⟨s.hi::(((e.holes.drop (j+1)).flatMap λs=>[s.lo,s.hi])++(v.drop (k+1)).flatMap zC),by rw[HF.o];simp only[wV,Yf,XV]⟩,y⟩⟩
       .obtain rfl:j=e.holes.length:=b6
        go_wp2;go_roundg (v.length-(k+1));case measure=>omega
        case rel=>refine⟨k+1,b6,rfl,by go_num,?_,ad,aH⟩;rw[vw X,Wl,<-HK.o];simpa[zC]using ao
   .obtain rfl:k=v.length:=b6
    go_wp2;refine bodyPost_end (tS rfl _ _ _) rfl ?_;rw[ww (Zp _)]at U;exact⟨⟨_,rfl⟩,.inl U⟩
 .gi_wp2
  go_wp2;refine tI (tS rfl _ _ _) rfl ?_;exact⟨⟨_,rfl⟩,.inr ⟨[v.length],⟨v.flatMap zC,rfl⟩,ar⟩⟩
attribute [local go_sem] Oper.semAt_some
def Vu(a:Option Addr)(n c:Nat)(w:World):Calls xT 211 #[.slice a n c] w λe j=>e=.returned (.func (.func 223) #[] #[.pointer (some ⟨w.heap.size,0,none⟩)])/\j=w.alloc (.cells #[.slice a n c] 48):=by
 go_enter func211,ntmps211
 go_wp2;go_ret;exact⟨rfl,rfl⟩
def OwnN(base:Nat)(w:World)(v:Value)(j:List Nat):Prop:=w.ownsRow base 36 1 v j.length (j.map λx=>.int .u64 (x:Nat))
def OwnN.nil(base:Nat)(w:World):OwnN base w (.slice none 0 0) []:=tX _ _ _ _
def OwnN.keep{base:Nat}{S:Nat->Prop}{w w':World}{v:Value}{l:List Nat}(h:OwnN base w v l)(hb:Keep S w w')(hs:∀g,base<=g->g<w.heap.size->¬S g):OwnN base w' v l:=
 hb.ownsRow h λg j=>hs g (h.lt g j).1 (h.lt g j).2
def OwnN.mono{base j:Nat}{w:World}{v:Value}{l:List Nat}(h:OwnN base w v l)(hb:j<=base):OwnN j w v l:=by
 refine⟨h.1,?_⟩;rcases h.2 with A|⟨g,o,u,B,y,r⟩
 .exact .inl A
 .exact .inr ⟨g,o,u,B,V3 hb y,r⟩
def SN(j:Nat)(A B:World):Prop:=(∃v,Boxed A j 147 v)/\Keep (λk=>k=j\/(j+4<=k/\∃o f,A.heap[k]?=some (.cells o 36 f))) A B
def SN.pt{y:Nat}{A B:World}(h:SN y A B):PtE y (y+1) A B:=by
 obtain⟨⟨v,F⟩,hk⟩:=h;refine⟨hk.size,λk u j=>hk.block k u ?_⟩;rintro(rfl|⟨H,C,f,o⟩)
 .rcases j with j|j|⟨C,f,t,j,ht⟩
  .omega
  .omega
  .have w:A.heap[k]?=some (.cells #[v] 147 (0,0)):=F;rw[w]at j;cases j;rcases ht with ht|ht<;>cases ht
 .rcases j with j|j|⟨E,G,t,j,ht⟩
  .omega
  .omega
  .rw[o]at j;cases j;rcases ht with ht|ht<;>cases ht
def Q5{W C:World}{w:Nat}{v A:Value}{M ys:List Nat}{B:Obj}
 (G:Boxed W w 147 v) (u:OwnN (w+4) W v M) (y:C.ownsRow (w+4) 36 1 A ys.length (ys.map λx=>.int .u64 (x:Nat))) (o:(W.alloc B).grownBy C v.ownBlock) :
 Boxed (C.setCell ⟨w,0,none⟩ A) w 147 A/\OwnN (w+4) (C.setCell ⟨w,0,none⟩ A) A ys/\SN w W (C.setCell ⟨w,0,none⟩ A):=by
 have F : 147 ≠ 36 :=dE
 obtain⟨N,J,K,O⟩:=qO G F u y o;refine⟨J,K,⟨v,G⟩,?_⟩;refine Keep.setCell (p:=⟨w,0,none⟩) ?_ (λ_=>.inl rfl) _;refine((Keep.refl _ W).alloc B).grown o λj E _=>.inr ⟨(u.lt j E).1,?_⟩;rcases u.2 with⟨rfl,_⟩|⟨g,H,I,rfl,P,L,_⟩
 .cases E
 .have:g=j:=(by simpa[Value.ownBlock]using E);subst this;exact⟨_,_,L⟩
def Tryz.infoU:(xT.info? 36).map (λi=>(i.zero,i.size,i.bytes))=some (some (Value.int .u64 0),1,8):=dN
def Q4(v:List En)(va:Value)(w:World)(hv:RdV w.heap.size w va v)(ac:(zv v).length<=1073741824):
 Calls xT 171 #[va] w λe Z=>∃u,e=.returned u/\OwnN w.heap.size Z u (zv v)/\Below w.heap.size w Z:=by
 have HV:=qL hv;obtain⟨N,K,rfl,_⟩:=hv;refine callsIn_wide.1 (Tg (n:=9) func171 rfl trivial ?_ rfl);simp only[ntmps171,WE,wD,WB,Nat.reduceAdd,Nat.reduceSub,uA,uB,uO,uE,XV,Yf]
 gi_wp2_with (refine⟨trivial,?_⟩;gi_at_call 211;refine(callsIn_wide.2 (Vu _ _ _ _)).mono ?_;rintro e Z ⟨rfl,rfl⟩)
 obtain⟨J,I⟩:=xt (((w.alloc (Obj.cells #[Value.slice none 0 0] 147)).alloc (Obj.cells #[Value.slice N v.length K] 48)));have ad:J.heap.size=w.heap.size+2:=by rw[<-I];simp
 have b0:Boxed J w.heap.size 147 (Value.slice none 0 0):=by rw[<-I];exact(t8 w _ _).alloc _
 have b1:Boxed J (w.heap.size+1) 48 (Value.slice N v.length K):=by rw[<-I];have:=t8 (w.alloc (Obj.cells #[Value.slice none 0 0] 147)) 48 (Value.slice N v.length K);rw[tE]at this;exact this
 have O:Below w.heap.size w J:=by rw[<-I];exact((tB _ _).alloc (Zp _) _).alloc b8 _
 try simp only[tE]
 rw [I];clear I;refine Xt (w:=J) 223 #[.pointer (some ⟨w.heap.size+1,0,none⟩)] rfl (enters_of func223 dN rfl) (λx:Nat=>#[.int .u64 x]) (λ_=>rfl)
  (λ_=>False) (PtE w.heap.size (w.heap.size+1)) (zv v) ?hit
  (SN w.heap.size) (λA B h k hk L=>h.2.block k L (by rintro(e|⟨e,_⟩)<;>omega)) (λA B h=>h.pt)
  ?hPt ?hPt0 ⟨id,id⟩
  (λpre W=>(∃u,Boxed W w.heap.size 147 u/\OwnN (w.heap.size+4) W u pre)/\Below w.heap.size w W)
  (λ_ _ _=>False) ?hI (λ_ _ _ _ h _=>h) ⟨⟨_,b0,OwnN.nil _ _⟩,O⟩
  (λpre x Q W=>((∃u,Boxed W w.heap.size 147 u/\OwnN (w.heap.size+4) W u pre)/\Below w.heap.size w W) /\
    Q={ tmps:=#[Value.slice N v.length K,undef,Value.slice none 0 0,Value.pointer (some ⟨w.heap.size,0,none⟩),.int .u64 (x:Nat),Value.slice N v.length K,Value.func (Fn.func 223) #[] #[Value.pointer (some ⟨w.heap.size+1,0,none⟩)],.int .u64 (x:Nat),undef,undef,undef,undef,undef],defers:=[] })
  ?hAx ?hassign ?hbody ?hdone (λ_ _ _ _ h _=>h.elim)
 case hit=>intro W hk _;exact Vt v _ (w.heap.size+1) w.heap.size W (RdV.keep HV.o λk U=>((O.trans (hk.below b6 λ_ _=>id)).block k U)) (hk.boxed b1 id) (by have:=hk.size;omega)
 case hPt=>
  rintro A B C ⟨E,H⟩ ⟨F,h4⟩;refine⟨V3 E F,λk hk y=>?_⟩;have e1:=H k hk y;refine(h4 k b6 ?_).trans e1;rcases y with y|y|⟨cs,f,t,y,ht⟩
  .exact .inl y
  .exact .inr (.inl y)
  .exact .inr (.inr ⟨cs,f,t,by rw[e1];exact y,ht⟩)
 case hPt0=>
  rintro A B hk ⟨o,ho⟩;refine⟨hk.size,λk L y=>hk.block k L ?_⟩;rintro rfl;rcases y with y|y|⟨cs,f,t,y,ht⟩
  .omega
  .omega
  .rw[ho]at y;cases y
 case hI=>rintro pre A B ⟨⟨u,E,H⟩,F⟩ T;have hk:Keep (λk=>k=J.heap.size\/k=J.heap.size+1) A B:=T.mono λ_ _ h=>h.elim False.elim id;exact⟨⟨u,hk.boxed E b6,H.keep hk (λg hg _=>b6)⟩,F.trans (hk.below F.size λk hk=>b6)⟩
 case hAx=>rintro pre x Q A B ⟨⟨⟨u,E,H⟩,F⟩,rfl⟩ hk;exact⟨⟨⟨u,hk.boxed E b6,H.keep hk (λg hg _=>b6)⟩,F.trans (hk.below F.size λk hk=>b6)⟩,rfl⟩
 case hassign=>
  rintro l pre x W M L ⟨⟨u,E,H⟩,F⟩;clear M
  gi_wp2
  exact⟨⟨⟨u,E⟩,Keep.refl _ _⟩,⟨⟨u,E,H⟩,F⟩,trivial⟩
 case hbody=>
  rintro l pre x Q W M L ⟨⟨⟨u,E,H⟩,F⟩,rfl⟩;have y:=E.cell;have hf:=E.frozen;obtain⟨i0,S,V,X,Y⟩:=tV Tryz.infoU;have hl:pre.length+1<=(zv v).length:=(by have:=M.length_le;simpa using this)
  gi_wp2_with (gi_at_builtin;refine TG _ rfl _ _ 147 rfl (w.heap.size+4) 36 i0 (.int .u64 0) 1 8 underlying147 S V X Y rfl dE _ _ _ rfl (H.alloc _) ⟨W.heap.size,0,none⟩ 1 1 [.int .u64 (x:Nat)] rfl rfl (kw (cs:=#[.int .u64 (x:Nat)]) (t := 36) (fr:=(0,0)) (tx W _)) dK dG b6 (by rw[tE];omega) ?_;intro v' w3 j G _;obtain⟨g',ab,rfl⟩:=T0 j;obtain⟨q2,q3,q4⟩:=Q5 (ys:=pre++[x]) E H (dM j) G;have ae:=(qO E dE H j G).1.cell;have af:=(qO E dE H j G).1.frozen)
  exact⟨q4,⟨_,q2,q3⟩,F.trans (q4.2.below F.size λk hk=>by rintro(e|⟨e,_⟩)<;>omega)⟩
 case hdone=>
  rintro W ⟨⟨u,E,H⟩,F⟩ hD;have y:=E.cell
  gi_wp2
  refine⟨b8,.inl ⟨_,_,rfl,Ti hD,?_⟩⟩;have P:Keep (λk=>k=J.heap.size) W (W.putObj J.heap.size (.deferred none)):=(Keep.refl (λk=>k=J.heap.size) W).putObj (λ_=>rfl) _;exact⟨_,tR rfl _ _ _,u,rfl,OwnN.mono (H.keep P λg hg _=>b6) b6,F.trans (P.below F.size λk hk=>b6)⟩
end
end Go.Proofs.YtjdjjlkifdimkaaGreatDoor
