import Derived.Deep.LoopGhost
import Derived.Deep.DeepCutAuto
import Derived.Deep.CutBlock
import Derived.Test.YtmpnbdhadjfbhaaGreatDoorB8
set_option maxHeartbeats 16000000
set_option linter.all false
set_option maxRecDepth 100000
namespace Go.Proofs.YtmpnbdhadjfbhaaGreatDoor
def tA:=@Go.bodyPost_ret
def tL:=@Go.results_tmp
def tN:=@Go.results_none
def tR:=@Go.info_parts
def tX:=@Go.Boxed.new
def Td:=@Go.callsIn_of_wp_marks
def Tf:=@Go.run_takeDeferred
def Ty:=@Go.wpIn_wide
def TB:=@Go.wpListIn_append_own
def TW:=@Go.ownsRow_succ
def T1:=@Go.CallsIn.inRound
open Go.Proofs.Tryz
open Go.Proofs.Tryz renaming prog->xt
section
open Go.RowKit
def Suf(a j:List Iv)(x:Nat):Prop:=∃d,a=d++j/\∀s∈d,s.hi<x
def Suf.refl(a:List Iv)(x:Nat):Suf a a x:=⟨[],rfl,λ_ h=>by cases h⟩
def Suf.mono{a j:List Iv}{x y:Nat}(h:Suf a j x)(w:x<=y):Suf a j y:=by obtain⟨d,o,u⟩:=h;exact⟨d,o,λs hs=>by have:=u s hs;omega⟩
def Suf.drop{a j:List Iv}{s:Iv}{x:Nat}(h:Suf a (s::j) x)(hs:s.hi<x):Suf a j x:=by obtain⟨d,o,u⟩:=h;exact⟨d++[s],by simp[o],λt ht=>by simp at ht;rcases ht with ht|rfl;exact u t ht;exact hs⟩
def Suf.mem_eq{a j:List Iv}{x z:Nat}(h:Suf a j x)(hz:x<=z):mem a z=mem j z:=by
 obtain⟨d,rfl,o⟩:=h;rw[yd];have:mem d z=false:=by
  cases e:mem d z with
  |false=>rfl
  |true=>obtain⟨s,hs,_,u⟩:=qf.1 e;have:=o s hs;omega
 rw[this,uA]
def Suf.nrm{a j:List Iv}{x n:Nat}(o:NF n a)(h:Suf a j x):NF n j:=by
 obtain⟨d,rfl,u⟩:=h;clear u;induction d generalizing n with
 |nil=>exact o
 |cons s d ih=>exact ih o.tail
def Suf.nxt_eq{a j:List Iv}{x z n:Nat}(u:NF n a)(h:Suf a j x)(hz:x<=z):ye a z=ye j z:=by
 obtain⟨d,rfl,o⟩:=h;induction d generalizing n with
 |nil=>rfl
 |cons s d ih=>rw[yb,zdt (by have:=o s b6;omega) u.2.1];exact ih (λt ht=>o t (by simp[ht])) u.2.2.2
def Qg{j:List Iv}{s:Iv}{x n:Nat}(o:NF n (s::j))(h:x<=s.hi):mem (s::j) x=decide (s.lo<=x):=by rw[mem_cons,o.2.2.2.mem_lt a8];simp[h]
def za1(x:Iv×Bool×Bool):Array Value:=#[.agg #[.int .u64 x.1.lo,.int .u64 x.1.hi],.agg #[.bool x.2.1,.bool x.2.2]]
structure PInv(a b:List Iv)(Ba Bb n0:Nat)(w:World)(x:Nat)(a' b':List Iv)(va vb:Value):Prop where
 bxa:Boxed w Ba 24 va
 bxb:Boxed w Bb 24 vb
 ra:RdR 0 n0 w va a'
 rb:RdR 0 n0 w vb b'
 sa:Suf a a' x
 sb:Suf b b' x
def PInv.at{a b:List Iv}{j o n0:Nat}{S:Nat->Prop}{w G:World}{x y:Nat}{A B:List Iv}{E F:Value}(h:PInv a b j o n0 w x A B E F)(hk:Keep S w G)(H:n0<=w.heap.size)(hs:∀k,k<n0\/k=j\/k=o->¬S k)(C:x<=y):
 PInv a b j o n0 G y A B E F:=
 ⟨hk.boxed h.bxa (hs _ (.inr (.inl rfl))),hk.boxed h.bxb (hs _ (.inr (.inr rfl))),h.ra.keep (Zp _) (Zp _) λb _ u=>hk.block b a8 (hs b (.inl u)),
  h.rb.keep (Zp _) (Zp _) λb _ u=>hk.block b a8 (hs b (.inl u)),h.sa.mono C,h.sb.mono C⟩
def PInv.setA{a b:List Iv}{o A u:Nat}{w:World}{x:Nat}{s:Iv}{B E:List Iv}{I j F:Value}(h:PInv a b o A u w x (s::B) E I F)(J:u<=o)(C:o≠A)(hs:s.hi<x)(H:RdR 0 u w j B):
 PInv a b o A u (w.setCell ⟨o,0,none⟩ j) x B E j F:=
 ⟨h.bxa.set j,h.bxb.other C.symm j,H.keep (Zp _) (Zp _) λb _ G=>tz _ _ _ _ (by show b≠o;omega),
  h.rb.keep (Zp _) (Zp _) λb _ G=>tz _ _ _ _ (by show b≠o;omega),h.sa.drop hs,h.sb⟩
def PInv.setB{a b:List Iv}{A o u:Nat}{w:World}{x:Nat}{s:Iv}{E B:List Iv}{F I j:Value}(h:PInv a b A o u w x E (s::B) F I)(J:u<=o)(C:A≠o)(hs:s.hi<x)(H:RdR 0 u w j B):
 PInv a b A o u (w.setCell ⟨o,0,none⟩ j) x E B F j:=
 ⟨h.bxa.other C j,h.bxb.set j,h.ra.keep (Zp _) (Zp _) λb _ G=>tz _ _ _ _ (by show b≠o;omega),
  H.keep (Zp _) (Zp _) λb _ G=>tz _ _ _ _ (by show b≠o;omega),h.sa,h.sb.drop hs⟩
def Fit(j:List Iv)(x:Nat):Prop:=∀s r,j=s::r->x<=s.hi
def RdR.tail{hi:Nat}{w:World}{u:Option Addr}{n o:Nat}{s:Iv}{l:List Iv}(h:RdR 0 hi w (.slice u n o) (s::l)):
 ∃b j,u=some ⟨b,j,none⟩/\n=l.length+1/\b<hi/\rdIv w b j s/\l.length+1<=o/\o<=maxLen/\RdR 0 hi w (.slice (if o=1 then some ⟨b,j,none⟩ else some ⟨b,j+2,none⟩) l.length (o-1)) l:=by
 obtain⟨a,c,G,A,E,F⟩:=h;obtain⟨rfl,rfl,rfl⟩:u=a/\n=(s::l).length/\o=c:=dK G
 obtain⟨b,j,rfl,_,hb,C⟩:=F b6;refine⟨b,j,rfl,rfl,hb,(by have:=C 0 b6;rwa[Nat.zero_mul,ug]at this),dK A,E,?_⟩;refine⟨_,_,rfl,by simp at A;omega,a8,λB=>?_⟩;have H:0<l.length:=wX.2 B;refine⟨b,j+2,by rw[Vq (by simp at A;omega)],X3 _,hb,λi hi=>?_⟩;have:=C (i+1) a9;rw[show j+(i+1)*2=j+2+i*2 from by omega]at this;simpa using this
def J7(a b:List Iv)(bz bA:Value)(U V n0:Nat)(W0:World)(ha:Nrm a)(hb:Nrm b)(aO:U≠V)(bh:n0<=U)(bi:n0<=V)
 (bg:PInv a b U V n0 W0 0 a b bz bA) :
 zbY xt 169 #[.pointer (some ⟨U,0,none⟩),.pointer (some ⟨V,0,none⟩)] za1 (λk=>k=U\/k=V) (λk=>k<n0\/k=U\/k=V) (yO a b) W0:=by
 intro l J Jx hJ bl hY h0;refine callsIn_wide.2 ?_;show Calls xt 169 #[.func (.yield l) #[] #[],.pointer (some ⟨U,0,none⟩),.pointer (some ⟨V,0,none⟩)] W0 _;have HJ:=qL hJ;have bH:=qL bl;have HY:=qL hY;clear hJ bl hY;go_enter func169,ntmps169
 go_wp2_with fail
 go_loopg [4] zk (λg x wr=>∃(o f:Nat) (a' b':List Iv) (va vb:Value) (pre:List (Iv×Bool×Bool)),x=.int .u64 o/\o<zk/\g=zk-o/\PInv a b U V n0 wr o a' b' va vb/\qA (yO a b=pre++QU a b f o)/\zk<=f+o/\J pre wr)
 case atStart=>exact⟨0,zk,a,b,bz,bA,[],rfl,xM,rfl,bg,rfl,a8,h0⟩
 case round=>
  obtain⟨o,f,a',b',va,vb,pre,rfl,hx,rfl,A,X,hf,j⟩:=hrel;clear h0 bg
  go_upto_block 2 with fail
  go_cut [] (λwc=>∃a2 P,PInv a b U V n0 wc o a2 b' P vb/\Fit a2 o/\J pre wc)
  case first=>
   go_wp2_with fail
   go_loopg [] a'.length (λg wl=>∃(a2:List Iv) (P:Value),g=a2.length/\PInv a b U V n0 wl o a2 b' P vb/\J pre wl)
   case atStart=>exact⟨a',va,rfl,A,j⟩
   case round=>
    clear A j;obtain⟨a2,P,rfl,A,j⟩:=hrel;have bC:=A.bxa.cell;have bE:=A.bxa.frozen;have G:=A.ra;cases a2 with
    | nil=>
      obtain⟨ad,az,rfl,_⟩:=G
      go_wp2
      go_meet
      exact⟨[],_,A,(λ_ _ e=>by cases e),j⟩
    | cons s r=>
      have aH:=G;obtain⟨ad,az,rfl,_⟩:=aH;obtain⟨bb,bF,rfl,_,bB,hs,bp,aV,aG⟩:=G.tail;obtain⟨c1,c2,s1,s2⟩:=hs;have HT:=qL aG;clear G aG;unfold maxLen at aV;by_cases aD:s.hi<o
      .by_cases h1:az=1
       .subst h1;obtain rfl:r=[]:=wJ a8
        go_wp2;go_roundg 0;case measure=>simp
        case rel=>exact⟨[],_,rfl,A.setA bh aO aD (by have:=HT.o;simpa using this),HJ.o _ _ _ j ((Keep.refl _ _).setCell (p:=⟨U,0,none⟩) (λ_=>.inl rfl) _)⟩
       .go_wp2;go_roundg r.length;case measure=>simp
        case rel=>exact⟨r,_,rfl,A.setA bh aO aD (by have:=HT.o;rw[Vq h1]at this;simpa using this),HJ.o _ _ _ j ((Keep.refl _ _).setCell (p:=⟨U,0,none⟩) (λ_=>.inl rfl) _)⟩
      .go_wp2
       go_meet
       exact⟨s::r,_,A,(λ_ _ e=>by cases e;omega),j⟩
  case rest=>
   clear A j;obtain⟨a2,P,A,T,j⟩:=hcut
   go_upto_block 4 with fail
   go_cut [] (λwc=>∃b2 Z,PInv a b U V n0 wc o a2 b2 P Z/\Fit b2 o/\J pre wc)
   case first=>
    go_wp2_with fail
    go_loopg [] b'.length (λg wl=>∃(b2:List Iv) (Z:Value),g=b2.length/\PInv a b U V n0 wl o a2 b2 P Z/\J pre wl)
    case atStart=>exact⟨b',vb,rfl,A,j⟩
    case round=>
     clear A j;obtain⟨b2,Z,rfl,A,j⟩:=hrel;have bC:=A.bxb.cell;have bE:=A.bxb.frozen;have G:=A.rb;cases b2 with
     | nil=>
       obtain⟨ad,az,rfl,_⟩:=G
       go_wp2
       go_meet
       exact⟨[],_,A,(λ_ _ e=>by cases e),j⟩
     | cons s r=>
       have aH:=G;obtain⟨ad,az,rfl,_⟩:=aH;obtain⟨bb,bF,rfl,_,bB,hs,bp,aV,aG⟩:=G.tail;obtain⟨c1,c2,s1,s2⟩:=hs;have HT:=qL aG;clear G aG;unfold maxLen at aV;by_cases aD:s.hi<o
       .by_cases h1:az=1
        .subst h1;obtain rfl:r=[]:=wJ a8
         go_wp2;go_roundg 0;case measure=>simp
         case rel=>exact⟨[],_,rfl,A.setB bi aO aD (by have:=HT.o;simpa using this),HJ.o _ _ _ j ((Keep.refl _ _).setCell (p:=⟨V,0,none⟩) (λ_=>.inr rfl) _)⟩
        .go_wp2;go_roundg r.length;case measure=>simp
         case rel=>exact⟨r,_,rfl,A.setB bi aO aD (by have:=HT.o;rw[Vq h1]at this;simpa using this),HJ.o _ _ _ j ((Keep.refl _ _).setCell (p:=⟨V,0,none⟩) (λ_=>.inr rfl) _)⟩
       .go_wp2
        go_meet
        exact⟨s::r,_,A,(λ_ _ e=>by cases e;omega),j⟩
   case rest=>
    clear A j;obtain⟨b2,Z,A,M,j⟩:=hcut;go_upto_region 5 with fail
    go_cut [5] (λs5 wd=>∃Bs,s5=.pointer (some ⟨Bs,0,none⟩)/\PInv a b U V n0 wd o a2 b2 P Z/\J pre wd/\wd.cell? ⟨Bs,0,none⟩=some (.bool (mem a o))/\wd.cell? ⟨Bs,1,none⟩=some (.bool (mem b o))/\n0<=wd.heap.size)
    case first=>
     have aL:=A.sa.mem_eq (Zp _);have ae:=A.sb.mem_eq (Zp _);have aW:=A.sa.nrm ha;have aw:=A.sb.nrm hb;have ca:=A.bxa.cell;have cb:=A.bxb.cell;have aq:=A.bxa.lt;have ar:=A.bxb.lt;have G:=A.ra;have af:=A.rb;cases a2 with
     | nil=>
       obtain⟨ad,ab,rfl,_⟩:=G;have ax:=qL aL;clear aL aW;cases b2 with
       | nil=>
         obtain⟨bd,H,rfl,_⟩:=af;have ag:=qL ae;clear ae aw;have O:n0<=wc.heap.size:=a8;have HP:=qL (And.intro A (And.intro j (And.intro T M)));clear A T M aq ar hf;refine Kg (Sw:=qe) 24 99 (λw'=>w'.cell? ⟨U,0,none⟩=some (.slice ad 0 ab)/\w'.cell? ⟨V,0,none⟩=some (.slice bd 0 H)) dL dL rfl ⟨ca,cb⟩ ?_;simp only[wP,Wb];repeat (first
          |(refine zev ?_ rfl (λa w C _ Y=>?_) ?_;rotate_left;(simp[Rds,zA,lk,Op.operands,Call.operands,RdEq]at Y;go_simp;with_reducible rfl);simp only[Y1,yb])
          |(refine jI rfl ?_ ?_;(first|exact .inl (zG rfl rfl)|exact .inr (zG rfl rfl));simp only[Y1,yb])
          |(refine V6 rfl ?_ ?_ (λa w C _ Y=>?_) ?_;exact(zG rfl rfl);rotate_left;(simp[Rds,zA,lk,Op.operands,Call.operands,RdEq]at Y;go_simp;with_reducible rfl);simp only[Y1,yb]))
         refine V7 (λu w=>∃B,u=.pointer (some ⟨B,0,none⟩)/\w.heap[B]?=some (.cells #[.bool false,.bool false] 175 (0,0))/\wc.heap.size<=B) (λu w w' ⟨B,h1,h2,h3⟩ hk=>⟨B,h1,hk.obj h2 id,h3⟩) rfl ?_ ?_
         .intro a w C hk Y K hK;have HK:=qL hK;clear hK;go_simp;exact HK.o _ _ ((Keep.refl _ _).alloc _) ⟨((Keep.refl qe w).alloc _).cell_some C.1 id,((Keep.refl qe w).alloc _).cell_some C.2 id⟩ ⟨w.heap.size,rfl,tq w _,hk.size⟩
         simp only[Y1,yb];intro w C hk;simp only[finG,WM];rintro u ⟨B,rfl,I,L⟩;simp only[wM,Wh];have c0:w.cell? ⟨B,0,none⟩=some (.bool false):=(by simp[World.cell?,I]);have c1:w.cell? ⟨B,1,none⟩=some (.bool false):=(by simp[World.cell?,I]);have f0:w.frozen? ⟨B,0,none⟩=false:=(by simp[World.frozen?,I]);have f1:w.frozen? ⟨B,1,none⟩=false:=(by simp[World.frozen?,I]);clear I C;simp only[Act.put,wu,wR,wS]
         go_wp2
         go_meet
         have F:∀u v,Keep qe wc ((w.setCell ⟨B,0,none⟩ u).setCell ⟨B,1,none⟩ v):=λu v=>((((Keep.refl qe wc).drew).trans hk).setCell (p:=⟨B,0,none⟩) (λh=>by exact absurd h (dK L)) _).setCell (p:=⟨B,1,none⟩) (λh=>by exact absurd h (dK L)) _;exact⟨B,rfl,HP.o.1.at (F _ _) O (λ_ _=>id) (Zp _),HJ.o _ _ _ HP.o.2.1 ((F _ _).mono λ_ _ h=>h.elim),by rw[ax.o];go_simp,by rw[ag.o];go_simp,V0 O (F _ _).size⟩
       | cons t r2=>
         have bc:=af;obtain⟨bd,H,rfl,_⟩:=bc;obtain⟨bb,ob,rfl,_,_,aF,aU,aB,_⟩:=af.tail;have ag:=qL (ae.trans (Qg aw (M _ _ rfl)));have ct:=aF.1;unfold maxLen at aB;clear ae aw af aF;have O:n0<=wc.heap.size:=a8;have HP:=qL (And.intro A (And.intro j (And.intro T M)));clear A T M aq ar hf;refine Kg (Sw:=qe) 24 99 (λw'=>w'.cell? ⟨U,0,none⟩=some (.slice ad 0 ab)/\w'.cell? ⟨V,0,none⟩=some (.slice (some ⟨bb,ob,none⟩) (r2.length+1) H)/\w'.cell? ⟨bb,ob,none⟩=some (.int .u64 t.lo)) dL dL rfl ⟨ca,cb,ct⟩ ?_;simp only[wP,Wb];repeat (first
          |(refine zev ?_ rfl (λa w C _ Y=>?_) ?_;rotate_left;(simp[Rds,zA,lk,Op.operands,Call.operands,RdEq]at Y;go_simp;with_reducible rfl);simp only[Y1,yb])
          |(refine jI rfl ?_ ?_;(first|exact .inl (zG rfl rfl)|exact .inr (zG rfl rfl));simp only[Y1,yb])
          |(refine V6 rfl ?_ ?_ (λa w C _ Y=>?_) ?_;exact(zG rfl rfl);rotate_left;(simp[Rds,zA,lk,Op.operands,Call.operands,RdEq]at Y;go_simp;with_reducible rfl);simp only[Y1,yb]))
         refine V7 (λu w=>∃B,u=.pointer (some ⟨B,0,none⟩)/\w.heap[B]?=some (.cells #[.bool false,.bool false] 175 (0,0))/\wc.heap.size<=B) (λu w w' ⟨B,h1,h2,h3⟩ hk=>⟨B,h1,hk.obj h2 id,h3⟩) rfl ?_ ?_
         .intro a w C hk Y K hK;have HK:=qL hK;clear hK;go_simp;exact HK.o _ _ ((Keep.refl _ _).alloc _) ⟨((Keep.refl qe w).alloc _).cell_some C.1 id,((Keep.refl qe w).alloc _).cell_some C.2.1 id,((Keep.refl qe w).alloc _).cell_some C.2.2 id⟩ ⟨w.heap.size,rfl,tq w _,hk.size⟩
         simp only[Y1,yb];intro w C hk;simp only[finG,WM];rintro u ⟨B,rfl,I,L⟩;simp only[wM,Wh];have c0:w.cell? ⟨B,0,none⟩=some (.bool false):=(by simp[World.cell?,I]);have c1:w.cell? ⟨B,1,none⟩=some (.bool false):=(by simp[World.cell?,I]);have f0:w.frozen? ⟨B,0,none⟩=false:=(by simp[World.frozen?,I]);have f1:w.frozen? ⟨B,1,none⟩=false:=(by simp[World.frozen?,I]);clear I C;simp only[Act.put,wu,wR,wS]
         go_wp2
         go_meet
         have F:∀u v,Keep qe wc ((w.setCell ⟨B,0,none⟩ u).setCell ⟨B,1,none⟩ v):=λu v=>((((Keep.refl qe wc).drew).trans hk).setCell (p:=⟨B,0,none⟩) (λh=>by exact absurd h (dK L)) _).setCell (p:=⟨B,1,none⟩) (λh=>by exact absurd h (dK L)) _;exact⟨B,rfl,HP.o.1.at (F _ _) O (λ_ _=>id) (Zp _),HJ.o _ _ _ HP.o.2.1 ((F _ _).mono λ_ _ h=>h.elim),by rw[ax.o];go_simp,by rw[ag.o];go_simp,V0 O (F _ _).size⟩
     | cons s r1=>
       have aH:=G;obtain⟨ad,ab,rfl,_⟩:=aH;obtain⟨ba,oa,rfl,_,_,bw,bD,bq,_⟩:=G.tail;have ax:=qL (aL.trans (Qg aW (T _ _ rfl)));have cs:=bw.1;unfold maxLen at bq;clear aL aW G bw;cases b2 with
       | nil=>
         obtain⟨bd,H,rfl,_⟩:=af;have ag:=qL ae;clear ae aw;have O:n0<=wc.heap.size:=a8;have HP:=qL (And.intro A (And.intro j (And.intro T M)));clear A T M aq ar hf;refine Kg (Sw:=qe) 24 99 (λw'=>w'.cell? ⟨U,0,none⟩=some (.slice (some ⟨ba,oa,none⟩) (r1.length+1) ab)/\w'.cell? ⟨V,0,none⟩=some (.slice bd 0 H)/\w'.cell? ⟨ba,oa,none⟩=some (.int .u64 s.lo)) dL dL rfl ⟨ca,cb,cs⟩ ?_;simp only[wP,Wb];repeat (first
          |(refine zev ?_ rfl (λa w C _ Y=>?_) ?_;rotate_left;(simp[Rds,zA,lk,Op.operands,Call.operands,RdEq]at Y;go_simp;with_reducible rfl);simp only[Y1,yb])
          |(refine jI rfl ?_ ?_;(first|exact .inl (zG rfl rfl)|exact .inr (zG rfl rfl));simp only[Y1,yb])
          |(refine V6 rfl ?_ ?_ (λa w C _ Y=>?_) ?_;exact(zG rfl rfl);rotate_left;(simp[Rds,zA,lk,Op.operands,Call.operands,RdEq]at Y;go_simp;with_reducible rfl);simp only[Y1,yb]))
         refine V7 (λu w=>∃B,u=.pointer (some ⟨B,0,none⟩)/\w.heap[B]?=some (.cells #[.bool false,.bool false] 175 (0,0))/\wc.heap.size<=B) (λu w w' ⟨B,h1,h2,h3⟩ hk=>⟨B,h1,hk.obj h2 id,h3⟩) rfl ?_ ?_
         .intro a w C hk Y K hK;have HK:=qL hK;clear hK;go_simp;exact HK.o _ _ ((Keep.refl _ _).alloc _) ⟨((Keep.refl qe w).alloc _).cell_some C.1 id,((Keep.refl qe w).alloc _).cell_some C.2.1 id,((Keep.refl qe w).alloc _).cell_some C.2.2 id⟩ ⟨w.heap.size,rfl,tq w _,hk.size⟩
         simp only[Y1,yb];intro w C hk;simp only[finG,WM];rintro u ⟨B,rfl,I,L⟩;simp only[wM,Wh];have c0:w.cell? ⟨B,0,none⟩=some (.bool false):=(by simp[World.cell?,I]);have c1:w.cell? ⟨B,1,none⟩=some (.bool false):=(by simp[World.cell?,I]);have f0:w.frozen? ⟨B,0,none⟩=false:=(by simp[World.frozen?,I]);have f1:w.frozen? ⟨B,1,none⟩=false:=(by simp[World.frozen?,I]);clear I C;simp only[Act.put,wu,wR,wS]
         go_wp2
         go_meet
         have F:∀u v,Keep qe wc ((w.setCell ⟨B,0,none⟩ u).setCell ⟨B,1,none⟩ v):=λu v=>((((Keep.refl qe wc).drew).trans hk).setCell (p:=⟨B,0,none⟩) (λh=>by exact absurd h (dK L)) _).setCell (p:=⟨B,1,none⟩) (λh=>by exact absurd h (dK L)) _;exact⟨B,rfl,HP.o.1.at (F _ _) O (λ_ _=>id) (Zp _),HJ.o _ _ _ HP.o.2.1 ((F _ _).mono λ_ _ h=>h.elim),by rw[ax.o];go_simp,by rw[ag.o];go_simp,V0 O (F _ _).size⟩
       | cons t r2=>
         have bc:=af;obtain⟨bd,H,rfl,_⟩:=bc;obtain⟨bb,ob,rfl,_,_,aF,aU,aB,_⟩:=af.tail;have ag:=qL (ae.trans (Qg aw (M _ _ rfl)));have ct:=aF.1;unfold maxLen at aB;clear ae aw af aF;have O:n0<=wc.heap.size:=a8;have HP:=qL (And.intro A (And.intro j (And.intro T M)));clear A T M aq ar hf;refine Kg (Sw:=qe) 24 99 (λw'=>w'.cell? ⟨U,0,none⟩=some (.slice (some ⟨ba,oa,none⟩) (r1.length+1) ab)/\w'.cell? ⟨V,0,none⟩=some (.slice (some ⟨bb,ob,none⟩) (r2.length+1) H)/\w'.cell? ⟨ba,oa,none⟩=some (.int .u64 s.lo)/\w'.cell? ⟨bb,ob,none⟩=some (.int .u64 t.lo)) dL dL rfl ⟨ca,cb,cs,ct⟩ ?_;simp only[wP,Wb];repeat (first
          |(refine zev ?_ rfl (λa w C _ Y=>?_) ?_;rotate_left;(simp[Rds,zA,lk,Op.operands,Call.operands,RdEq]at Y;go_simp;with_reducible rfl);simp only[Y1,yb])
          |(refine jI rfl ?_ ?_;(first|exact .inl (zG rfl rfl)|exact .inr (zG rfl rfl));simp only[Y1,yb])
          |(refine V6 rfl ?_ ?_ (λa w C _ Y=>?_) ?_;exact(zG rfl rfl);rotate_left;(simp[Rds,zA,lk,Op.operands,Call.operands,RdEq]at Y;go_simp;with_reducible rfl);simp only[Y1,yb]))
         refine V7 (λu w=>∃B,u=.pointer (some ⟨B,0,none⟩)/\w.heap[B]?=some (.cells #[.bool false,.bool false] 175 (0,0))/\wc.heap.size<=B) (λu w w' ⟨B,h1,h2,h3⟩ hk=>⟨B,h1,hk.obj h2 id,h3⟩) rfl ?_ ?_
         .intro a w C hk Y K hK;have HK:=qL hK;clear hK;go_simp;exact HK.o _ _ ((Keep.refl _ _).alloc _) ⟨((Keep.refl qe w).alloc _).cell_some C.1 id,((Keep.refl qe w).alloc _).cell_some C.2.1 id,((Keep.refl qe w).alloc _).cell_some C.2.2.1 id,((Keep.refl qe w).alloc _).cell_some C.2.2.2 id⟩ ⟨w.heap.size,rfl,tq w _,hk.size⟩
         simp only[Y1,yb];intro w C hk;simp only[finG,WM];rintro u ⟨B,rfl,I,L⟩;simp only[wM,Wh];have c0:w.cell? ⟨B,0,none⟩=some (.bool false):=(by simp[World.cell?,I]);have c1:w.cell? ⟨B,1,none⟩=some (.bool false):=(by simp[World.cell?,I]);have f0:w.frozen? ⟨B,0,none⟩=false:=(by simp[World.frozen?,I]);have f1:w.frozen? ⟨B,1,none⟩=false:=(by simp[World.frozen?,I]);clear I C;simp only[Act.put,wu,wR,wS]
         go_wp2
         go_meet
         have F:∀u v,Keep qe wc ((w.setCell ⟨B,0,none⟩ u).setCell ⟨B,1,none⟩ v):=λu v=>((((Keep.refl qe wc).drew).trans hk).setCell (p:=⟨B,0,none⟩) (λh=>by exact absurd h (dK L)) _).setCell (p:=⟨B,1,none⟩) (λh=>by exact absurd h (dK L)) _;exact⟨B,rfl,HP.o.1.at (F _ _) O (λ_ _=>id) (Zp _),HJ.o _ _ _ HP.o.2.1 ((F _ _).mono λ_ _ h=>h.elim),by rw[ax.o];go_simp,by rw[ag.o];go_simp,V0 O (F _ _).size⟩
    case rest=>
     clear A j;obtain⟨Bs,rfl,A,j,am,aE,aM⟩:=hcut;have bt:ye a o=ye a2 o:=A.sa.nxt_eq ha (Zp _);have bu:ye b o=ye b2 o:=A.sb.nxt_eq hb (Zp _);have ah:=qL bt;have ai:=qL bu;clear bt bu T M;obtain⟨pa,aY⟩:∃p,mem a o=p:=⟨_,rfl⟩;obtain⟨pb,aZ⟩:∃p,mem b o=p:=⟨_,rfl⟩;rw[aY]at am;rw[aZ]at aE;have aR:=qL aY;have aS:=qL aZ;clear aY aZ;have ca:=A.bxa.cell;have bI:=A.bxb.lt;have aC:Bs<wc.heap.size:=tr wc _ am
     go_wp2_with fail
     refine(Vs a2 P o _ (A.ra.keep (Zp _) aM λ_ _ _=>rfl)).mono ?_;rintro e w1 ⟨n1,m1,rfl,aj,au⟩;clear ca;have aJ:=A.at (S:=qe) (Keep.of_below' au (Zp _)) aM (λ_ _=>id) (Zp _);have bj:=HJ.o _ _ _ j (Keep.of_below' au (Zp _));have am:=(au.cell (p:=⟨Bs,0,none⟩) aC).trans am;have aE:=(au.cell (p:=⟨Bs,1,none⟩) aC).trans aE;have aN:n0<=w1.heap.size:=V0 aM au.size;have aC:=tr w1 _ am;clear A j au aM;have cb:=aJ.bxb.cell
     go_wp2_with fail
     refine(Vs b2 Z o _ (aJ.rb.keep (Zp _) aN λ_ _ _=>rfl)).mono ?_;rintro e w2 ⟨n2,m2,rfl,ak,av⟩;clear cb;have bn:=aJ.at (S:=qe) (Keep.of_below' av (Zp _)) aN (λ_ _=>id) (Zp _);have aT:=HJ.o _ _ _ bj (Keep.of_below' av (Zp _));have am:=(av.cell (p:=⟨Bs,0,none⟩) aC).trans am;have aE:=(av.cell (p:=⟨Bs,1,none⟩) aC).trans aE;have br:n0<=w2.heap.size:=V0 aN av.size;clear aJ bj av aN;go_upto_region 8 with fail
     go_cut [81] (λbG wx=>∃c:Bool,bG=.bool c/\wx=w2/\qA (c=(m2 && (!m1 || decide (n2<n1)))))
     case first=>
      cases m2
      .go_wp2_with fail
       go_meet
       exact⟨false,rfl,rfl,rfl⟩
      .cases m1
       .go_wp2_with fail
        go_meet
        exact⟨true,rfl,rfl,rfl⟩
       .go_wp2_with fail
        go_meet
        exact⟨_,rfl,rfl,by simp[qA]⟩
     case rest=>
      obtain⟨c,rfl,rfl,C⟩:=hcut;cases c with
      | true=>
        have hm:m2=true/\kv (ye a o) (ye b o)=some n2:=by
         have:=C.o;rw[ah.o,ai.o,aj.o,ak.o];cases m2<;>cases m1<;>simp[kv]at this⊢;omega
        obtain⟨rfl,N⟩:=hm;have N:=qL N;have aX:qA (ye b o=some n2):=(by show _=_;rw[ai.o,ak.o];rfl);clear C aj ak ah ai;have aI:o<n2/\n2<zk:=(by have h:=aX.o;exact⟨xr h,vJ hb h⟩);obtain⟨Q,rfl⟩:∃Q,f=Q+1:=⟨f-1,a8⟩;have E:qA (QU a b (Q+1) o=(⟨o,n2-1⟩,pa,pb)::QU a b Q n2):=by
         show QU a b (Q+1) o=_
         conv=>lhs;unfold QU
         rw[N.o,aR.o,aS.o]
        obtain⟨fn,aQ,ao,aP,hy,hR⟩:=HY.o pre (⟨o,n2-1⟩,pa,pb) wc aT ⟨QU a b Q n2,by rw[X.o,E.o];simp⟩;dsimp only[za1]at hy;have be:IntKind.u64.wrap ((n2:Int)-1)=((n2-1:Nat):Int):=Zj a8 aI.2;obtain⟨y1,an⟩:=xm (n2-1);rw[<-an]at hy be hR;have ay:=qL an;clear an;go_upto_region 13 with fail;refine(Ty (n:=8)).1 ?_
        gi_wp2
        refine hR.mono ?_;rintro e w3 (⟨rfl,aA,aK⟩|⟨rfl,ac⟩)
        .gi_wp2
         go_wp2;go_roundg (zk-n2);case measure=>omega
         case rel=>exact⟨n2,Q,a2,b2,P,Z,pre++[(⟨o,y1⟩,pa,pb)],rfl,aI.2,rfl,bn.at aK br (λk hk h=>h hk) a8,by show yO a b=_;rw[X.o,E.o,ay.o];simp,a8,aA⟩
        .gi_wp2
         go_wp2;refine tA (tN rfl _ _ _) rfl ?_;exact⟨⟨_,rfl⟩,.inr ⟨pre++[(⟨o,y1⟩,pa,pb)],⟨QU a b Q n2,by rw[X.o,E.o,ay.o];simp⟩,ac⟩⟩
      | false=>
        cases m1 with
        | true=>
          have N:qA (kv (ye a o) (ye b o)=some n1):=by
           have:=C.o;show _=_;rw[ah.o,ai.o,aj.o,ak.o];cases m2<;>simp[kv]at this⊢;omega
          have aX:qA (ye a o=some n1):=(by show _=_;rw[ah.o,aj.o];rfl);clear C aj ak ah ai;have aI:o<n1/\n1<zk:=(by have h:=aX.o;exact⟨xr h,vJ ha h⟩);obtain⟨Q,rfl⟩:∃Q,f=Q+1:=⟨f-1,a8⟩;have E:qA (QU a b (Q+1) o=(⟨o,n1-1⟩,pa,pb)::QU a b Q n1):=by
           show QU a b (Q+1) o=_
           conv=>lhs;unfold QU
           rw[N.o,aR.o,aS.o]
          obtain⟨fn,aQ,ao,aP,hy,hR⟩:=HY.o pre (⟨o,n1-1⟩,pa,pb) wc aT ⟨QU a b Q n1,by rw[X.o,E.o];simp⟩;dsimp only[za1]at hy;have be:IntKind.u64.wrap ((n1:Int)-1)=((n1-1:Nat):Int):=Zj a8 aI.2;obtain⟨y1,an⟩:=xm (n1-1);rw[<-an]at hy be hR;have ay:=qL an;clear an;go_upto_region 13 with fail;refine(Ty (n:=8)).1 ?_
          gi_wp2
          refine hR.mono ?_;rintro e w3 (⟨rfl,aA,aK⟩|⟨rfl,ac⟩)
          .gi_wp2
           go_wp2;go_roundg (zk-n1);case measure=>omega
           case rel=>exact⟨n1,Q,a2,b2,P,Z,pre++[(⟨o,y1⟩,pa,pb)],rfl,aI.2,rfl,bn.at aK br (λk hk h=>h hk) a8,by show yO a b=_;rw[X.o,E.o,ay.o];simp,a8,aA⟩
          .gi_wp2
           go_wp2;refine tA (tN rfl _ _ _) rfl ?_;exact⟨⟨_,rfl⟩,.inr ⟨pre++[(⟨o,y1⟩,pa,pb)],⟨QU a b Q n1,by rw[X.o,E.o,ay.o];simp⟩,ac⟩⟩
        | false=>
          have N:qA (kv (ye a o) (ye b o)=none):=by
           have:=C.o;show _=_;rw[ah.o,ai.o,aj.o,ak.o];cases m2<;>simp[kv]at this⊢
          clear C aj ak ah ai;obtain⟨Q,rfl⟩:∃Q,f=Q+1:=⟨f-1,a8⟩;have E:qA (QU a b (Q+1) o=[(⟨o,zk-1⟩,pa,pb)]):=by
           show QU a b (Q+1) o=_
           conv=>lhs;unfold QU
           rw[N.o,aR.o,aS.o]
          obtain⟨fn,aQ,ao,aP,hy,hR⟩:=HY.o pre (⟨o,zk-1⟩,pa,pb) wc aT ⟨[],by rw[X.o,E.o];simp⟩;dsimp only[za1]at hy;rw[show ((zk-1:Nat):Int)=18446744073709551615 from rfl]at hy;go_upto_region 13 with fail;refine(Ty (n:=8)).1 ?_
          gi_wp2
          refine hR.mono ?_;rintro e w3 (⟨rfl,aA,aK⟩|⟨rfl,ac⟩)
          .gi_wp2
           go_wp2;refine tA (tN rfl _ _ _) rfl ?_;exact⟨⟨_,rfl⟩,.inl (by rw[X.o,E.o];exact aA)⟩
          .gi_wp2
           go_wp2;refine tA (tN rfl _ _ _) rfl ?_;exact⟨⟨_,rfl⟩,.inr ⟨pre++[(⟨o,zk-1⟩,pa,pb)],⟨[],by rw[X.o,E.o];simp⟩,ac⟩⟩
attribute [local go_sem] Oper.semAt_some
def Jd(l:List Iv):List Nat:=l.flatMap λs=>[s.lo,s.hi+1]
def ZY(l:List Iv):(Jd l).length=2*l.length:=by
 induction l with
 |nil=>rfl
 |cons s l ih=>simp[Jd]at ih⊢;omega
def zah{l:List Iv}{x y:Nat}(h:ye l x=some y):y∈Jd l:=by
 induction l with
 |nil=>cases h
 | cons s l ih=>
   unfold ye at h;split at h
   .cases h;simp[Jd]
   .split at h
    .cases h;simp[Jd]
    .have:=ih h;simp[Jd]at this⊢;exact .inr (.inr this)
def YV(l:List Nat)(x:Nat):Nat:=l.countP λy=>decide (x<y)
def ZX(l:List Nat){x y:Nat}(h:x<y):YV l y<=YV l x:=by
 unfold YV;exact List.countP_mono_left λz _ hz=>by simp at hz⊢;omega
def zcr{l:List Nat}{x y:Nat}(h:x<y)(j:y∈l):YV l y+1<=YV l x:=by
 induction l with
 |nil=>cases j
 | cons z l ih=>
   unfold YV;rw[List.countP_cons,List.countP_cons];rcases V3.1 j with rfl|j
   .have:=ZX l h;unfold YV at this;simp[h];omega
   .have:=ih j;unfold YV at this;by_cases o:y<z
    .have u:x<z:=a8;simp[o,u];omega
    .simp[o];omega
def Qs(a b:List Iv):∀(f x:Nat),(QU a b f x).length<=YV (Jd a) x+YV (Jd b) x+1
 |0,_=>X3 _
 | f+1,x=>by
   unfold QU;cases h:kv (ye a x) (ye b x)with
   |none=>simp
   | some y=>
     have ih:=Qs a b f y;have:YV (Jd a) y+YV (Jd b) y+1<=YV (Jd a) x+YV (Jd b) x:=by
      have j:ye a x=some y\/ye b x=some y:=by
       cases ea:ye a x<;>cases eb:ye b x<;>rw[ea,eb]at h<;>simp only[kv]at h
       .cases h
       .exact .inr h
       .exact .inl h
       .split at h
        .exact .inr h
        .exact .inl h
      rcases j with h|h
      .have:=zcr (xr h) (zah h);have:=ZX (Jd b) (xr h);omega
      .have:=zcr (xr h) (zah h);have:=ZX (Jd a) (xr h);omega
     simp;omega
def jF(a b:List Iv):(yO a b).length<=2*(a.length+b.length)+1:=by
 have j:=Qs a b zk 0;have o:YV (Jd a) 0<=2*a.length:=by rw[<-ZY];exact U7
 have u:YV (Jd b) 0<=2*b.length:=by rw[<-ZY];exact U7
 unfold yO;omega
def J9(j:List Iv)(s:Iv):(Q8 j s).length<=j.length+1:=by
 unfold Q8;split
 .simp
 .rename_i t ht;split
  .have:j≠[]:=(by intro e;subst e;simp at ht);have:=wX.2 this;simp;try omega
  .simp
def jD(f:Q9)(o:List (Iv×Bool×Bool)):∀j:List Iv,(qg f j o).length<=j.length+o.length:=by
 induction o with
 |nil=>intro j;simp[qg]
 | cons x o ih=>
   intro j;obtain⟨s,p,q⟩:=x;simp only[qg];by_cases e:f p q=true
   .have u:=ih (Q8 j s);have w:=J9 j s;rw[Vm e];simp only[ww];omega
   .have u:=ih j;rw[Vq e];simp only[ww];omega
def xq{f:Q9}{a b:List Iv}:∀(pre:List (Iv×Bool×Bool))(x:Nat)(j:List Iv)(y:Iv×Bool×Bool)(r:List (Iv×Bool×Bool)),Cov a b x (pre++y::r)->Nrm j->(∀t∈j,t.hi<x) ->
 Nrm (qg f j pre)/\(∀t∈qg f j pre,t.hi<y.1.lo)/\y.1.lo<=y.1.hi/\y.1.hi<zk
 |[],x,j,(s,p,q),r,⟨h1,h2,h3,_⟩,ho,ht=>⟨ho,λt h=>by have:=ht t h;show t.hi<s.lo;omega,by show s.lo<=s.hi;omega,h3⟩
 | (s,p,q)::pre,x,j,y,r,⟨h1,h2,h3,_,h5⟩,ho,ht=>by
   simp only[qg];have g:=Xm (s:=s) ho (λt h=>by have:=ht t h;omega) a8 h3;split
   .exact xq pre _ _ y r h5 g.1 λt h=>by have:=g.2.2 t h;omega
   .exact xq pre _ _ y r h5 ho λt h=>by have:=ht t h;omega
def zcT(o:List Iv)(t:Iv)(hi:Nat):(xw (o++[t])).set (o.length*2+1) (.int .u64 hi)=xw (o++[⟨t.lo,hi⟩]):=by rw[vy,vy,List.set_append_right _ _ (by rw[y6];omega),y6];congr 1;rw[show o.length*2+1-o.length*2=1 from by omega];rfl
def OwnR.last{base:Nat}{w:World}{B:Option Addr}{n j:Nat}{o:List Iv}{t:Iv}(h:OwnR base w (.slice B n j) (o++[t])):
 ∃g,base<=g/\B=some ⟨g,0,none⟩/\o.length+1<=j/\j<=maxLen/\w.cell? ⟨g,o.length*2,none⟩=some (.int .u64 t.lo)/\w.cell? ⟨g,o.length*2+1,none⟩=some (.int .u64 t.hi)/\t.lo<zk/\t.hi<zk:=by
 have hb:=h.2 t b6;have u:=h.1;rcases id u.2 with⟨_,G⟩|⟨g,C,F,E,I,K,J,H,_⟩
 .simp at G
 .simp only[Value.slice.injEq]at E;obtain⟨rfl,rfl,rfl⟩:=E;have A:=vz (o++[t]) o.length b6;simp only[List.getElem_concat_length]at A;refine⟨g,I,rfl,dK J,H,?_,?_,hb⟩
  .rw[u.cellAt _ b6];exact A.1
  .rw[u.cellAt _ a9];exact A.2
def OwnR.setHi{base:Nat}{w:World}{g n j:Nat}{o:List Iv}{t:Iv}(h:OwnR base w (.slice (some ⟨g,0,none⟩) n j) (o++[t]))(E:n=o.length+1)(hi:Nat)(C:hi<zk):
 OwnR base (w.setCell ⟨g,o.length*2+1,none⟩ (.int .u64 hi)) (.slice (some ⟨g,0,none⟩) n j) (o++[⟨t.lo,hi⟩]):=by
 subst E;have B:=h.1;simp only[wi,ww,Wt,wn]at B;have:=(B.stored (o.length*2+1) (.int .u64 hi)).1;rw[zcT]at this;refine⟨dK this,λu A=>?_⟩;simp at A;rcases A with A|rfl
 .exact h.2 u (by simp[A])
 .exact⟨(h.2 t b6).1,C⟩
def vG(f:Q9)(E:Nat)(aX:∀ao w,(callFunc E ao).run xt w=.ok (.enter E ao) w)
 (aT:∀p q w,Calls xt E #[.agg #[.bool p,.bool q]] w λe Q=>e=.returned (.bool (f p q))/\Below w.heap.size w Q)
 (a b:List Iv) (va vb:Value) (w:World) (ha:Nrm a) (hb:Nrm b) (ra:RdR 0 w.heap.size w va a) (rb:RdR 0 w.heap.size w vb b) (aY:a.length+b.length<=1073741824) :
 Calls xt 101 #[va,vb,.func (.func E) #[] #[]] w λe Q=>∃v,e=.returned v/\OwnR w.heap.size Q v (qy f a b)/\Below w.heap.size w Q:=by
 obtain⟨aa,ca,rfl,_⟩:=id ra;obtain⟨ab,cb,rfl,_⟩:=id rb;refine callsIn_wide.1 (Td (n:=9) func101 rfl trivial ?_ rfl);simp only[ntmps101,WC,ww,Wt,Nat.reduceAdd,Nat.reduceSub,uu,uv,uJ,ux,Y1,yb]
 gi_wp2_with (refine⟨trivial,?_⟩;gi_at_call 139;refine(callsIn_wide.2 (Xi _ _ _ _ _ _ _)).mono ?_;rintro e Q ⟨rfl,rfl⟩)
 obtain⟨W0,O⟩:=xn (((((w.alloc (Obj.cells #[Value.func (Fn.func E) #[] #[]] 176)).alloc (Obj.cells #[Value.slice none 0 0] 24)).alloc (Obj.cells #[Value.slice aa a.length ca] 24)).alloc (Obj.cells #[Value.slice ab b.length cb] 24)));have bc:W0.heap.size=w.heap.size+4:=by rw[<-O];simp
 have b0:Boxed W0 w.heap.size 176 (Value.func (Fn.func E) #[] #[]):=by rw[<-O];exact(((tX w _ _).alloc _).alloc _).alloc _
 have b1:Boxed W0 (w.heap.size+1) 24 (Value.slice none 0 0):=by rw[<-O];have:=tX (w.alloc (Obj.cells #[Value.func (Fn.func E) #[] #[]] 176)) 24 (Value.slice none 0 0);rw[tx]at this;exact(this.alloc _).alloc _
 have b2:Boxed W0 (w.heap.size+1+1) 24 (Value.slice aa a.length ca):=by rw[<-O];have:=tX ((w.alloc (Obj.cells #[Value.func (Fn.func E) #[] #[]] 176)).alloc (Obj.cells #[Value.slice none 0 0] 24)) 24 (Value.slice aa a.length ca);simp only[tx]at this;exact this.alloc _
 have b3:Boxed W0 (w.heap.size+1+1+1) 24 (Value.slice ab b.length cb):=by rw[<-O];have:=tX (((w.alloc (Obj.cells #[Value.func (Fn.func E) #[] #[]] 176)).alloc (Obj.cells #[Value.slice none 0 0] 24)).alloc (Obj.cells #[Value.slice aa a.length ca] 24)) 24 (Value.slice ab b.length cb);simp only[tx]at this;exact this
 have ax:Below w.heap.size w W0:=by rw[<-O];exact((((tv _ _).alloc (Zp _) _).alloc b6 _).alloc a9 _).alloc a9 _
 rw [O];clear O;have ag:=j4 ha hb;have aS:=jF a b;refine ziP (w:=W0) 169 #[.pointer (some ⟨w.heap.size+1+1,0,none⟩),.pointer (some ⟨w.heap.size+1+1+1,0,none⟩)] rfl (enters_of func169 dL rfl) za1 (λ_=>rfl)
  (λk=>k=w.heap.size+1+1\/k=w.heap.size+1+1+1) (λk=>k<w.heap.size\/k=w.heap.size+1+1\/k=w.heap.size+1+1+1) (yO a b) ?hit
  (λk=>k=w.heap.size+1\/w.heap.size+6<=k) (λk hk=>a8) a8 ⟨a8,a8⟩
  (λpre W=>(∃v,Boxed W (w.heap.size+1) 24 v/\OwnR (w.heap.size+6) W v (qg f [] pre))/\Boxed W w.heap.size 176 (Value.func (Fn.func E) #[] #[])/\Below w.heap.size w W)
  (λ_ _ _=>False) ?hI (λ_ _ _ _ h _=>h) ⟨⟨_,b1,OwnR.nil _ _⟩,b0,ax⟩
  (λpre x a' W=>((∃v,Boxed W (w.heap.size+1) 24 v/\OwnR (w.heap.size+6) W v (qg f [] pre))/\Boxed W w.heap.size 176 (Value.func (Fn.func E) #[] #[])/\Below w.heap.size w W) /\
    ∃L Bs,W.heap[L]?=some (.cells #[.int .u64 x.1.lo,.int .u64 x.1.hi] 61 (0,0))/\W.heap[Bs]?=some (.cells #[.bool x.2.1,.bool x.2.2] 175 (0,0))/\w.heap.size+6<=L/\w.heap.size+6<=Bs /\
    a'={ tmps:=#[Value.slice aa a.length ca,Value.slice ab b.length cb,Value.func (Fn.func E) #[] #[],undef,undef,Value.pointer (some ⟨w.heap.size,0,none⟩),Value.slice none 0 0,Value.pointer (some ⟨w.heap.size+1,0,none⟩),Value.pointer (some ⟨L,0,none⟩),Value.pointer (some ⟨Bs,0,none⟩),undef,Value.slice aa a.length ca,Value.slice ab b.length cb,Value.func (Fn.func 169) #[] #[Value.pointer (some ⟨w.heap.size+1+1,0,none⟩),Value.pointer (some ⟨w.heap.size+1+1+1,0,none⟩)],.agg #[.int .u64 x.1.lo,.int .u64 x.1.hi],.agg #[.bool x.2.1,.bool x.2.2],undef,undef,undef,undef,undef,undef,undef,undef,undef,undef,undef,undef,undef,undef,undef,undef,undef,undef,undef,undef,undef,undef,undef,undef,undef,undef,undef,undef,undef],defers:=[] })
  ?hAx ?hassign ?hbody ?hdone (λ_ _ _ _ h _=>h.elim)
 case hit=>
  intro W hk _;exact J7 a b _ _ (w.heap.size+1+1) (w.heap.size+1+1+1) w.heap.size W ha hb a8 a8 a8
   ⟨hk.boxed b2 id,hk.boxed b3 id,ra.below (ax.trans (hk.below a8 λ_ _=>id)) (Zp _),rb.below (ax.trans (hk.below a8 λ_ _=>id)) (Zp _),Suf.refl _ _,Suf.refl _ _⟩
 case hI=>rintro pre A B ⟨⟨v,h1,h2⟩,h3,T⟩ hk;exact⟨⟨v,hk.boxed h1 a8,h2.keep hk (λg hg=>a8)⟩,hk.boxed h3 a8,T.trans (hk.below T.size λk hk=>a8)⟩
 case hAx=>rintro pre x a' A B ⟨⟨⟨v,h1,h2⟩,h3,T⟩,L,Bs,hp,hs,aF,aG,rfl⟩ hk;exact⟨⟨⟨v,hk.boxed h1 a8,h2.keep hk (λg hg=>a8)⟩,hk.boxed h3 a8,T.trans (hk.below T.size λk hk=>a8)⟩,L,Bs,hk.obj hp a8,hk.obj hs a8,aF,aG,rfl⟩
 case hassign=>
  rintro l pre ⟨⟨lo,hi⟩,p,q⟩ W Z aQ ⟨⟨v,h1,h2⟩,h3,T⟩;clear Z;dsimp only[za1]
  gi_wp2
  have aP:∀o1 o2,Keep (λk=>k=w.heap.size+1\/w.heap.size+6<=k) W ((W.alloc o1).alloc o2):=λo1 o2=>((Keep.refl _ _).alloc _).alloc _;refine⟨aP _ _,⟨⟨v,(h1.alloc _).alloc _,(h2.keep ((Keep.refl qe W).alloc _) λ_ _=>id).keep ((Keep.refl qe _).alloc _) λ_ _=>id⟩,(h3.alloc _).alloc _,(T.alloc T.size _).alloc (by simp;have:=T.size;omega) _⟩,
   W.heap.size,W.heap.size+1,?_,?_,a8,a8,rfl⟩
  .exact(tw _ _ _ b6).trans (tq W _)
  .have:=tq (W.alloc (.cells #[.int .u64 lo,.int .u64 hi] 61)) (.cells #[.bool p,.bool q] 175)
   rwa[tx]at this
 case hbody=>
  rintro l pre x a' W ⟨r,Z⟩ aQ ⟨⟨⟨v,h1,h2⟩,h3,T⟩,L,Bs,hp,hs,aF,aG,rfl⟩;obtain⟨⟨lo,hi⟩,p,q⟩:=x;obtain⟨m1,m2,m3,m4⟩:=xq (f:=f) pre 0 [] (⟨lo,hi⟩,p,q) r (by rw[show pre++(⟨lo,hi⟩,p,q)::r=yO a b from by rw[<-Z];simp];exact ag) trivial (λ_ h=>by cases h);have aR:=jD f pre [];have ba:pre.length+1<=(yO a b).length:=(by rw[<-Z];simp);have c3:=h3.cell;have aL:W.cell? ⟨Bs,0,none⟩=some (.bool p):=(by simp[World.cell?,hs]);have aM:W.cell? ⟨Bs,1,none⟩=some (.bool q):=(by simp[World.cell?,hs]);obtain⟨i0,aB,aI,aJ,aK⟩:=tR Tryz.infoIv;have HM:=qL (And.intro Z (And.intro ag (And.intro aS (And.intro m1 (And.intro m2 m3)))));dsimp only at m3 m4;clear Z ag m1 m2 hs
  gi_wp2_with fail
  refine⟨trivial,CallsIn.mono (T1 l (callsIn_wide.2 (aT p q W))) ?_⟩;rintro e W1 ⟨rfl,ay⟩;have Y:Keep qe W W1:=Keep.of_below' ay (Zp _);have N:=Y.boxed h1 id;have af:=h2.keep Y λ_ _=>id;have V:=Y.boxed h3 id;have J:=T.trans (ay.mono T.size);have aE:=Y.obj hp id;have au:w.heap.size+6<=W1.heap.size:=(by have:=Y.size;omega);have ai:=qL Y;clear ay Y h1 h2 h3 T hp c3 aL aM;obtain⟨az,ah⟩:=xm (qg f [] pre);rw[<-ah]at af aR;have HO:=qL ah;clear ah;have c1:=N.cell;have U:W1.cell? ⟨L,0,none⟩=some (.int .u64 lo):=(by simp[World.cell?,aE]);have M:W1.cell? ⟨L,1,none⟩=some (.int .u64 hi):=(by simp[World.cell?,aE]);cases ht:f p q with
  | false=>
    have HT:=qL ht
    gi_wp2
    exact⟨ai.o.mono λ_ _ h=>h.elim,⟨v,N,by rw[yf];simp only[qg,HT.o,<-HO.o];exact af⟩,V,J⟩
  | true=>
    have HT:=qL ht;obtain⟨ad,aj,rfl⟩:=af.val;have HH:=qL af;clear af;rcases Uw az with rfl|⟨F,t,rfl⟩
    .gi_wp2_with fail
     refine Kh (Sw:=qe) (λ_=>trivial) 11 45 (λ_=>True) dL dL rfl trivial ?_;simp only[wP,Wb];repeat (first
      |(refine V5 (λ_=>trivial) ?_ rfl (λa w I _ H=>?_) ?_;rotate_left;(simp[Rds,zA,lk,Op.operands,Call.operands,RdEq]at H;go_simp;with_reducible rfl);simp only[Y1,yb])
      |(refine jI rfl ?_ ?_;(first|exact .inl (zG rfl rfl)|exact .inr (zG rfl rfl));simp only[Y1,yb])
      |(refine QQ (λ_=>trivial) rfl ?_ ?_ (λa w I _ H=>?_) ?_;exact(zG rfl rfl);rotate_left;(simp[Rds,zA,lk,Op.operands,Call.operands,RdEq]at H;go_simp;with_reducible rfl);simp only[Y1,yb]))
     intro C _ P;simp only[finG,WM,Y1,yb,wM,Wh,WO];simp only[Act.put,wu,wR,wS];have j:Keep qe W1 C:=((Keep.refl qe W1).drew).trans P;have e1:=j.boxed N id;have e3:=j.boxed V id;have e4:=J.trans (j.below J.size λ_ _=>id);have eo:=(HH.o).keep j λ_ _=>id;have S:=qL (And.intro eo (And.intro e3 e4));have d1:=e1.cell;have d2:C.cell? ⟨L,0,none⟩=some (.int .u64 lo):=j.cell_some U id;have d3:C.cell? ⟨L,1,none⟩=some (.int .u64 hi):=j.cell_some M id;have aD:w.heap.size+6<=C.heap.size:=V0 au j.size;have ae:=qL j;clear P j e3 e4 eo c1 U M N V J
     gi_wp2_with (gi_at_builtin;go_loud (refine TB _ rfl _ _ 24 rfl (w.heap.size+6) 61 i0 (.agg #[.int .u64 0,.int .u64 0]) 2 16 underlying24 aB aI aJ aK rfl b8 _ _ _ rfl (S.o.1.1.alloc _) ⟨C.heap.size,0,none⟩ 1 1 [.int .u64 lo,.int .u64 hi] rfl rfl (kw (cs:=#[.int .u64 lo,.int .u64 hi]) (t := 61) (fr:=(0,0)) (tq C _)) dH (by unfold maxLen;first|decide|omega) (by first|decide|omega) (by rw[tx];omega) ?_);intro v' w3 G X _;obtain⟨g',aA,rfl⟩:=TW G;obtain⟨q1,q2,q3,q4⟩:=qO e1 b8 S.o.1.1 G X;have aU:=q1.cell;have aV:=q1.frozen)
     refine⟨((ai.o.trans ae.o).mono λ_ _ h=>h.elim).trans (q4.mono λk _ h=>h),⟨_,q2,?_⟩,q4.boxed S.o.2.1 a8,S.o.2.2.trans (q4.below S.o.2.2.size λk _=>a8)⟩;rw[yf];simp only[qg,HT.o,UM,<-HO.o];exact S.o.1.snoc ⟨by show lo<zk;omega,by show hi<zk;omega⟩ q3
    .simp only[Ux,wi,ww,Wt,wn]at *;obtain⟨g,aO,rfl,aW,aN,aq,ar,be⟩:=HH.o.last;have an:t.lo<=t.hi/\t.hi<zk:=by have:=NF.lo_ge HM.o.2.2.2.1 t (by rw[<-HO.o];simp);exact⟨this.2.1,this.2.2⟩
     have aH:t.hi<lo:=HM.o.2.2.2.2.1 t (by rw[<-HO.o];simp);have aw:W1.cell? ⟨g,F.length*2,none⟩=some (.int .u64 t.lo):=aq;have ak:W1.cell? ⟨g,F.length*2+1,none⟩=some (.int .u64 t.hi):=ar;clear aq ar;unfold maxLen at aN;have aZ:((F.length:Nat):Int)<(F.length:Int)+1:=a8
     gi_wp2_with fail
     by_cases ac:t.hi+1=lo
     .have hrel:(((relate t ⟨lo,hi⟩:Nat):Int) == 1)=true:=(by have:relate t ⟨lo,hi⟩=1:=(by unfold relate;rw[Vm aH,Vm ac]);rw[this];rfl);have av:=qL ac;clear ac;refine Kh (Sw:=qe) (λ_=>trivial) 11 45 (λQ=>Q.cell? ⟨w.heap.size+1,0,none⟩=some (.slice (some ⟨g,0,none⟩) (F.length+1) aj)/\Q.cell? ⟨g,F.length*2,none⟩=some (.int .u64 t.lo)/\Q.cell? ⟨g,F.length*2+1,none⟩=some (.int .u64 t.hi)/\Q.cell? ⟨L,0,none⟩=some (.int .u64 lo)/\Q.cell? ⟨L,1,none⟩=some (.int .u64 hi)) dL dL rfl ⟨c1,aw,ak,U,M⟩ ?_;simp only[wP,Wb];repeat (first
       |(refine V5 (λ_=>trivial) ?_ rfl (λa w I _ H=>?_) ?_;rotate_left;(simp[Rds,zA,lk,Op.operands,Call.operands,RdEq]at H;go_simp;with_reducible rfl);simp only[Y1,yb])
       |(refine jI rfl ?_ ?_;(first|exact .inl (zG rfl rfl)|exact .inr (zG rfl rfl));simp only[Y1,yb])
       |(refine QQ (λ_=>trivial) rfl ?_ ?_ (λa w I _ H=>?_) ?_;exact(zG rfl rfl);rotate_left;(simp[Rds,zA,lk,Op.operands,Call.operands,RdEq]at H;go_simp;with_reducible rfl);simp only[Y1,yb]))
      refine zhg (λu _=>u=.int .i64 ((relate t ⟨lo,hi⟩:Nat):Int)) (yj _) rfl (zG rfl rfl) ?_ ?_
      .intro a2 C I hk H K hK;have HK:=qL hK;clear hK;simp[Rds,zA,lk,Op.operands,Call.operands,RdEq]at H;refine⟨λ_ _=>trivial,?_⟩;go_simp;refine CallsIn.mono (T1 l (callsIn_wide.2 (QF t ⟨lo,hi⟩ _ an.1 (by show lo<=hi;omega) an.2 (by show hi<zk;omega)))) ?_;rintro e w3 ⟨rfl,hb⟩;have o:Keep qe C w3:=Keep.of_below' hb (Zp _);exact HK.o _ _ o ⟨o.cell_some I.1 id,o.cell_some I.2.1 id,o.cell_some I.2.2.1 id,o.cell_some I.2.2.2.1 id,o.cell_some I.2.2.2.2 id⟩ rfl
      simp only[Y1,yb];repeat (first
       |(refine V5 (λ_=>trivial) ?_ rfl (λa w I _ H=>?_) ?_;rotate_left;(simp[Rds,zA,lk,Op.operands,Call.operands,RdEq]at H;go_simp;with_reducible rfl);simp only[Y1,yb])
       |(refine jI rfl ?_ ?_;(first|exact .inl (zG rfl rfl)|exact .inr (zG rfl rfl));simp only[Y1,yb])
       |(refine QQ (λ_=>trivial) rfl ?_ ?_ (λa w I _ H=>?_) ?_;exact(zG rfl rfl);rotate_left;(simp[Rds,zA,lk,Op.operands,Call.operands,RdEq]at H;go_simp;with_reducible rfl);simp only[Y1,yb]))
      intro C _ P;simp only[finG,WM,Y1,yb,wM,Wh,WO];simp only[Act.put,wu,wR,wS];have j:Keep qe W1 C:=((Keep.refl qe W1).drew).trans P;have e1:=j.boxed N id;have e3:=j.boxed V id;have e4:=J.trans (j.below J.size λ_ _=>id);have eo:=(HH.o).keep j λ_ _=>id;have er:C.ownsRow (w.heap.size+6) 61 2 (.slice (some ⟨g,0,none⟩) (F.length+1) aj) (F.length+1) (xw (F++[t])):=(by have:=eo.1;simpa using this);have ER:=qL er;have S:=qL (And.intro eo (And.intro e3 e4));have d1:=e1.cell;have d3:C.cell? ⟨L,1,none⟩=some (.int .u64 hi):=j.cell_some M id;have d4:C.cell? ⟨g,F.length*2+1,none⟩=some (.int .u64 t.hi):=j.cell_some ak id;have d5:C.frozen? ⟨g,F.length*2+1,none⟩=false:=er.frozenAt _;have ae:=qL j;clear P j e3 e4 eo er c1 U M aw ak N V J
      gi_wp2
      have am:Keep (λk=>k=g) C (C.setCell ⟨g,F.length*2+1,none⟩ (.int .u64 hi)):=(Keep.refl (λk=>k=g) C).setCell (p:=⟨g,F.length*2+1,none⟩) (λ_=>rfl) _;refine⟨((ai.o.trans ae.o).mono λ_ _ h=>h.elim).trans (am.mono λk _ h=>.inr (by rw[h];exact aO)),⟨_,am.boxed e1 a8,?_⟩,am.boxed S.o.2.1 a8,S.o.2.2.trans (am.below S.o.2.2.size λk hk=>a8)⟩;rw[yf];simp only[qg,HT.o,UM,<-HO.o];rw[show Q8 (F++[t]) ⟨lo,hi⟩=F++[⟨t.lo,hi⟩] from by unfold Q8;rw[uZ];simp only;rw[Vm av.o,tc]];exact S.o.1.setHi rfl hi a8
     .have hrel:(((relate t ⟨lo,hi⟩:Nat):Int) == 1)=false:=(by have:relate t ⟨lo,hi⟩=0:=(by unfold relate;rw[Vm aH,Vq ac]);rw[this];rfl);have av:=qL ac;clear ac;refine Kh (Sw:=qe) (λ_=>trivial) 11 45 (λQ=>Q.cell? ⟨w.heap.size+1,0,none⟩=some (.slice (some ⟨g,0,none⟩) (F.length+1) aj)/\Q.cell? ⟨g,F.length*2,none⟩=some (.int .u64 t.lo)/\Q.cell? ⟨g,F.length*2+1,none⟩=some (.int .u64 t.hi)/\Q.cell? ⟨L,0,none⟩=some (.int .u64 lo)/\Q.cell? ⟨L,1,none⟩=some (.int .u64 hi)) dL dL rfl ⟨c1,aw,ak,U,M⟩ ?_;simp only[wP,Wb];repeat (first
       |(refine V5 (λ_=>trivial) ?_ rfl (λa w I _ H=>?_) ?_;rotate_left;(simp[Rds,zA,lk,Op.operands,Call.operands,RdEq]at H;go_simp;with_reducible rfl);simp only[Y1,yb])
       |(refine jI rfl ?_ ?_;(first|exact .inl (zG rfl rfl)|exact .inr (zG rfl rfl));simp only[Y1,yb])
       |(refine QQ (λ_=>trivial) rfl ?_ ?_ (λa w I _ H=>?_) ?_;exact(zG rfl rfl);rotate_left;(simp[Rds,zA,lk,Op.operands,Call.operands,RdEq]at H;go_simp;with_reducible rfl);simp only[Y1,yb]))
      refine zhg (λu _=>u=.int .i64 ((relate t ⟨lo,hi⟩:Nat):Int)) (yj _) rfl (zG rfl rfl) ?_ ?_
      .intro a2 C I hk H K hK;have HK:=qL hK;clear hK;simp[Rds,zA,lk,Op.operands,Call.operands,RdEq]at H;refine⟨λ_ _=>trivial,?_⟩;go_simp;refine CallsIn.mono (T1 l (callsIn_wide.2 (QF t ⟨lo,hi⟩ _ an.1 (by show lo<=hi;omega) an.2 (by show hi<zk;omega)))) ?_;rintro e w3 ⟨rfl,hb⟩;have o:Keep qe C w3:=Keep.of_below' hb (Zp _);exact HK.o _ _ o ⟨o.cell_some I.1 id,o.cell_some I.2.1 id,o.cell_some I.2.2.1 id,o.cell_some I.2.2.2.1 id,o.cell_some I.2.2.2.2 id⟩ rfl
      simp only[Y1,yb];repeat (first
       |(refine V5 (λ_=>trivial) ?_ rfl (λa w I _ H=>?_) ?_;rotate_left;(simp[Rds,zA,lk,Op.operands,Call.operands,RdEq]at H;go_simp;with_reducible rfl);simp only[Y1,yb])
       |(refine jI rfl ?_ ?_;(first|exact .inl (zG rfl rfl)|exact .inr (zG rfl rfl));simp only[Y1,yb])
       |(refine QQ (λ_=>trivial) rfl ?_ ?_ (λa w I _ H=>?_) ?_;exact(zG rfl rfl);rotate_left;(simp[Rds,zA,lk,Op.operands,Call.operands,RdEq]at H;go_simp;with_reducible rfl);simp only[Y1,yb]))
      intro C _ P;simp only[finG,WM,Y1,yb,wM,Wh,WO];simp only[Act.put,wu,wR,wS];have j:Keep qe W1 C:=((Keep.refl qe W1).drew).trans P;have e1:=j.boxed N id;have e3:=j.boxed V id;have e4:=J.trans (j.below J.size λ_ _=>id);have eo:=(HH.o).keep j λ_ _=>id;have er:C.ownsRow (w.heap.size+6) 61 2 (.slice (some ⟨g,0,none⟩) (F.length+1) aj) (F.length+1) (xw (F++[t])):=(by have:=eo.1;simpa using this);have ER:=qL er;have S:=qL (And.intro eo (And.intro e3 e4));have d1:=e1.cell;have d2:C.cell? ⟨L,0,none⟩=some (.int .u64 lo):=j.cell_some U id;have d3:C.cell? ⟨L,1,none⟩=some (.int .u64 hi):=j.cell_some M id;have aD:w.heap.size+6<=C.heap.size:=V0 au j.size;have ae:=qL j;clear P j e3 e4 eo er c1 U M N V J
      gi_wp2_with (gi_at_builtin;go_loud (refine TB _ rfl _ _ 24 rfl (w.heap.size+6) 61 i0 (.agg #[.int .u64 0,.int .u64 0]) 2 16 underlying24 aB aI aJ aK rfl b8 _ _ _ rfl (ER.o.alloc _) ⟨C.heap.size,0,none⟩ 1 1 [.int .u64 lo,.int .u64 hi] rfl rfl (kw (cs:=#[.int .u64 lo,.int .u64 hi]) (t := 61) (fr:=(0,0)) (tq C _)) dH (by unfold maxLen;first|decide|omega) (by first|decide|omega) (by rw[tx];omega) ?_);intro v' w3 G X _;obtain⟨g',aA,rfl⟩:=TW G;obtain⟨q1,q2,q3,q4⟩:=qO e1 b8 ER.o G X;have aU:=q1.cell;have aV:=q1.frozen)
      refine⟨((ai.o.trans ae.o).mono λ_ _ h=>h.elim).trans (q4.mono λk _ h=>h),⟨_,q2,?_⟩,q4.boxed S.o.2.1 a8,S.o.2.2.trans (q4.below S.o.2.2.size λk _=>a8)⟩;rw[yf];simp only[qg,HT.o,UM,<-HO.o];rw[show Q8 (F++[t]) ⟨lo,hi⟩=F++[t]++[⟨lo,hi⟩] from by unfold Q8;rw[uZ];simp only;rw[Vq av.o]];exact S.o.1.snoc ⟨by show lo<zk;omega,by show hi<zk;omega⟩ (dK q3)
 case hdone=>
  rintro W ⟨⟨v,h1,h2⟩,h3,T⟩ hD;have I:=h1.cell
  gi_wp2
  refine⟨b6,.inl ⟨_,_,rfl,Tf hD,?_⟩⟩;have aC:Keep (λk=>k=W0.heap.size) W (W.putObj W0.heap.size (.deferred none)):=(Keep.refl (λk=>k=W0.heap.size) W).putObj (λ_=>rfl) _;exact⟨_,tL rfl _ _ _,v,rfl,(h2.keep aC λg hg=>a8).mono a8,T.trans (aC.below T.size λk hk=>a8)⟩
attribute [local go_sem] Oper.semAt_some
def zn(p q:Bool):Bool:=p || q
def fMeet(p q:Bool):Bool:=p && q
def zm(p q:Bool):Bool:=p && !q
def V4(a b:List Iv)(o u:Value)(w:World)(E:Nrm a)(hb:Nrm b)(ra:RdR 0 w.heap.size w o a)(rb:RdR 0 w.heap.size w u b)(j:a.length+b.length<=1073741824):
 Calls xt 108 #[o,u] w λe A=>∃v,e=.returned v/\OwnR w.heap.size A v (qy zn a b)/\Below w.heap.size w A:=by
 have B:=vG zn 148 (enters_of func148 dL rfl) Kq a b o u w E hb ra rb j;have C:=qL B;clear B;obtain⟨F,H,rfl,_⟩:=ra;obtain⟨G,I,rfl,_⟩:=rb;go_enter func108,ntmps108
 go_wp2_with (go_at_call 101;refine C.o.mono ?_;rintro e A ⟨v,rfl,J,hb⟩)
 go_ret;exact⟨_,rfl,‹_›,‹_›⟩
def JW(a b:List Iv)(o u:Value)(w:World)(E:Nrm a)(hb:Nrm b)(ra:RdR 0 w.heap.size w o a)(rb:RdR 0 w.heap.size w u b)(j:a.length+b.length<=1073741824):
 Calls xt 61 #[o,u] w λe A=>∃v,e=.returned v/\OwnR w.heap.size A v (qy fMeet a b)/\Below w.heap.size w A:=by
 have B:=vG fMeet 102 (enters_of func102 dL rfl) zbP a b o u w E hb ra rb j;have C:=qL B;clear B;obtain⟨F,H,rfl,_⟩:=ra;obtain⟨G,I,rfl,_⟩:=rb;go_enter func61,ntmps61
 go_wp2_with (go_at_call 101;refine C.o.mono ?_;rintro e A ⟨v,rfl,J,hb⟩)
 go_ret;exact⟨_,rfl,‹_›,‹_›⟩
def Zu(a b:List Iv)(o u:Value)(w:World)(E:Nrm a)(hb:Nrm b)(ra:RdR 0 w.heap.size w o a)(rb:RdR 0 w.heap.size w u b)(j:a.length+b.length<=1073741824):
 Calls xt 194 #[o,u] w λe A=>∃v,e=.returned v/\OwnR w.heap.size A v (qy zm a b)/\Below w.heap.size w A:=by
 have B:=vG zm 208 (enters_of func208 dL rfl) Kp a b o u w E hb ra rb j;have C:=qL B;clear B;obtain⟨F,H,rfl,_⟩:=ra;obtain⟨G,I,rfl,_⟩:=rb;go_enter func194,ntmps194
 go_wp2_with (go_at_call 101;refine C.o.mono ?_;rintro e A ⟨v,rfl,J,hb⟩)
 go_ret;exact⟨_,rfl,‹_›,‹_›⟩
def ziL{w:World}{B:Nat}{s:Iv}(h:w.heap[B]?=some (.cells #[.int .u64 s.lo,.int .u64 s.hi] 61 (0,0)))(j:s.lo<zk)(o:s.hi<zk):RdR 0 w.heap.size w (.slice (some ⟨B,0,none⟩) 1 1) [s]:=by
 refine⟨_,1,rfl,b6,b8,λ_=>⟨B,0,rfl,X3 _,(Yf.1 h).1,λi hi=>?_⟩⟩;obtain rfl:i=0:=dK hi
 exact⟨by simp[World.cell?,h],by simp[World.cell?,h],j,o⟩
def zbn(a:List Iv)(C:Value)(s:Iv)(w:World)(F:Nrm a)(hs:s.lo<=s.hi)(u:s.hi<zk)(ra:RdR 0 w.heap.size w C a)(B:a.length<=1073741823):
 Calls xt 152 #[C,.agg #[.int .u64 s.lo,.int .u64 s.hi]] w λe E=>∃v,e=.returned v/\OwnR w.heap.size E v (qy zm [s] a)/\Below w.heap.size w E:=by
 obtain⟨I,J,rfl,_⟩:=id ra;go_enter func152,ntmps152
 go_wp2_with fail
 obtain⟨A,o⟩:=xn (((w.alloc (Obj.cells #[Value.int IntKind.u64 s.lo,Value.int IntKind.u64 s.hi] 61)).alloc (Obj.cells #[Value.int IntKind.u64 s.lo,Value.int IntKind.u64 s.hi] 61)));have j:Below w.heap.size w A:=by rw[<-o];exact((tv _ _).alloc (Zp _) _).alloc b6 _
 have G:A.heap[w.heap.size+1]?=some (.cells #[.int .u64 s.lo,.int .u64 s.hi] 61 (0,0)):=by
  rw[<-o];have:=tq (w.alloc (Obj.cells #[Value.int IntKind.u64 s.lo,Value.int IntKind.u64 s.hi] 61)) (Obj.cells #[Value.int IntKind.u64 s.lo,Value.int IntKind.u64 s.hi] 61);rwa[tx]at this
 rw[o];clear o;refine(Zu [s] a _ _ A ⟨X3 _,hs,u,trivial⟩ F (ziL G a8 u) ((ra.below j (Zp _)).keep (Zp _) j.size λ_ _ _=>rfl) a9).mono ?_;rintro e K ⟨v,rfl,H,hb⟩
 go_wp2;go_ret;exact⟨_,rfl,H.mono j.size,j.trans (hb.mono j.size)⟩
end
section
def xR(f:Q9)(a b:List Iv):(qy f a b).length<=2*(a.length+b.length)+1:=V0 (jD f _ _) (by simpa using jF a b)
structure En where
 rep:Nat
 max:Nat
 holes:List Iv
deriving DecidableEq
def En.ext'{e f:En}(j:e.rep=f.rep)(o:e.max=f.max)(u:e.holes=f.holes):e=f:=by cases e;cases f;simp_all
def zO(e:En):Prop:=Nrm e.holes/\(∀s∈e.holes,s.hi<=e.max)/\e.max<zk/\e.rep<zk
def qG{m n:Nat}(h:m<=n)(j:n<zk):Nrm [⟨m,n⟩]:=⟨X3 _,h,j,trivial⟩
def jl(m n x:Nat):mem [⟨m,n⟩] x=(decide (m<=x) && decide (x<=n)):=by simp[mem]
def kn(e:En):List Iv:=qy zm [⟨0,e.max⟩] e.holes
def qT{e:En}(h:zO e):Nrm (kn e):=qH (qG (X3 _) h.2.2.1) h.1
def vC{e:En}(h:zO e){x:Nat}(j:x<zk):mem (kn e) x=(decide (x<=e.max) && !mem e.holes x):=by unfold kn;rw[qj (qG (X3 _) h.2.2.1) h.1 j,jl];simp[zm]
def QV(l:List Iv):Nat:=match l.getLast? with
 |some s=>s.hi
 |none=>0
def Kr{l:List Iv}(h:0<l.length):l[l.length-1].hi=QV l:=by unfold QV;rw[UW,Zv a8]
def x9{l:List Iv}(o:Nrm l)(h:l≠[]):mem l (QV l)=true/\QV l<zk:=by have j:0<l.length:=wX.2 h;have:=NF.lo_ge o l[l.length-1] (XE _);rw[<-Kr j];exact⟨qf.2 ⟨_,XE _,this.2.1,Zp _⟩,this.2.2⟩
def zek{l:List Iv}(o:Nrm l){x:Nat}(w:mem l x=true):x<=QV l:=by
 obtain⟨s,hs,A,u⟩:=qf.1 w;have j:l≠[]:=by intro e;subst e;cases hs
 obtain⟨k,t,rfl⟩:=Uw l |>.resolve_left j;unfold QV;rw[Ux]at *;rw[uZ];rcases wF.1 hs with h|h
 .have:=o.last_lt s h;have:=(NF.lo_ge o t b6).2.1;simp only;omega
 .simp at h;subst h;exact u
def Qi(r:Nat)(l:List Iv):En×Bool:=if l=[] then (⟨0,0,[]⟩,false) else (⟨r,QV l,qy zm [⟨0,QV l⟩] l⟩,true)
def qD{r:Nat}{l:List Iv}(h:l≠[]):Qi r l=(⟨r,QV l,qy zm [⟨0,QV l⟩] l⟩,true):=Vq h
def zaj(r:Nat)(l:List Iv):(Qi r l).2=decide (l≠[]):=by
 unfold Qi;split
 .rename_i h;simp[h]
 .rename_i h;simp[h]
def k9{r:Nat}{l:List Iv}(A:r<zk)(o:Nrm l):zO (Qi r l).1:=by
 by_cases h:l=[]
 .subst h;exact⟨trivial,(λ_ h=>by cases h),xM,xM⟩
 .rw[qD h];have ht:=(x9 o h).2;have w:Nrm (qy zm [⟨0,QV l⟩] l):=qH (qG (X3 _) ht) o;refine⟨w,λs hs=>?_,ht,A⟩;have u:=NF.lo_ge w s hs;have j:mem (qy zm [⟨0,QV l⟩] l) s.hi=true:=qf.2 ⟨s,hs,u.2.1,Zp _⟩;rw[qj (qG (X3 _) ht) o u.2.2,jl]at j;simp[zm]at j;exact j.1
def JO{r:Nat}{l:List Iv}(A:r<zk)(o:Nrm l)(h:l≠[]):kn (Qi r l).1=l:=by
 have u:=k9 A o;refine Nrm.unique (qT u) o λx w=>?_;rw[vC u w];rw[qD h];have ht:=(x9 o h).2;simp only;rw[qj (qG (X3 _) ht) o w,jl];simp only[zm];by_cases j:x<=QV l
 .simp[j]
 .have:mem l x=false:=by
   cases e:mem l x with
   |false=>rfl
   |true=>exact absurd (zek o e) j
  simp[j,this]
def YP(e:En):Prop:=zO e/\∀s∈e.holes,s.hi<e.max
def zeO{e:En}(h:YP e):mem e.holes e.max=false:=by
 cases h':mem e.holes e.max with
 |false=>rfl
 |true=>obtain⟨s,hs,_,j⟩:=qf.1 h';have:=h.2 s hs;omega
def jO{e:En}(h:YP e):kn e≠[]/\QV (kn e)=e.max:=by
 have u:mem (kn e) e.max=true:=by rw[vC h.1 h.1.2.2.1,zeO h];simp
 have j:kn e≠[]:=by intro w;rw[w]at u;cases u
 refine⟨j,?_⟩;have A:=zek (qT h.1) u;have o:=x9 (qT h.1) j;rw[vC h.1 o.2]at o;simp at o;omega
def ZM{e:En}(h:YP e):Qi e.rep (kn e)=(e,true):=by
 obtain⟨u,o⟩:=jO h;rw[qD u,o];have:qy zm [⟨0,e.max⟩] (kn e)=e.holes:=by
  refine vK (qG (X3 _) h.1.2.2.1) (qT h.1) h.1.1 λx w=>?_;rw[vC h.1 w,jl];simp only[zm];by_cases j:x<=e.max
  .simp[j]
  .have:mem e.holes x=false:=by
    cases h':mem e.holes x with
    |false=>rfl
    |true=>obtain⟨s,hs,_,o⟩:=qf.1 h';have:=h.1.2.1 s hs;omega
   simp[j,this]
 rw[this]
def zak{r:Nat}{l:List Iv}(A:r<zk)(o:Nrm l)(h:l≠[]):YP (Qi r l).1:=by
 refine⟨k9 A o,λs hs=>?_⟩;have w:=k9 A o;have E:=w.2.1 s hs;rcases uD E with B|B
 .exact B
 .have u:mem (Qi r l).1.holes (Qi r l).1.max=true:=qf.2 ⟨s,hs,by have:=NF.lo_ge w.1 s hs;omega,a8⟩;have C:=x9 o h;have j:mem (kn (Qi r l).1) (QV l)=true:=(by rw[JO A o h];exact C.1);rw[vC w C.2]at j;rw[qD h]at u j;simp only at u j;rw[u]at j;simp at j
def Jm{e:En}(h:zO e){l:List Iv}{s:Iv}(hs:e.holes=l++[s])(G:e.max<=s.hi)(F:0<s.lo):zO ⟨e.rep,s.lo-1,l⟩/\kn ⟨e.rep,s.lo-1,l⟩=kn e:=by
 have u:Nrm (l++[s]):=hs▸h.1;have E:=NF.lo_ge u s b6;have o:zO ⟨e.rep,s.lo-1,l⟩:=by
  refine⟨u.init,λt ht=>?_,?_,h.2.2.2⟩
  .have:=u.last_lt t ht;simp only;omega
  .simp only;omega
 refine⟨o,Nrm.unique (qT o) (qT h) λx A=>?_⟩;have w:s.hi=e.max:=by have:=h.2.1 s (by rw[hs];simp);omega
 rw[vC o A,vC h A,hs,yd,mem_one' s x];simp only;by_cases j:x<=s.lo-1
 .have e1:x<=e.max:=a8;have e2:¬s.lo<=x:=a8;simp[j,e1,e2]
 .by_cases C:x<=e.max
  .have e2:s.lo<=x:=a8;have B:x<=s.hi:=a8;simp[j,e2,B]
  .simp[j,C]
where mem_one' (s:Iv) (x:Nat):mem [s] x=(decide (s.lo<=x) && decide (x<=s.hi)):=by simp[mem]
def Jl{e:En}(h:zO e){l:List Iv}{s:Iv}(hs:e.holes=l++[s])(w:e.max<=s.hi)(u:s.lo=0):kn e=[]:=by
 refine Nrm.unique (qT h) trivial λx o=>?_;rw[vC h o,hs,yd];by_cases j:x<=e.max
 .have:mem [s] x=true:=qf.2 ⟨s,b6,a8,a8⟩;simp[this]
 .simp[j]
def Xb{e:En}(h:zO e)(j:e.holes=[]):YP e:=⟨h,λs hs=>by rw[j]at hs;cases hs⟩
def zcc{e:En}(h:zO e){l:List Iv}{s:Iv}(hs:e.holes=l++[s])(u:s.hi<e.max):YP e:=by
 refine⟨h,λt ht=>?_⟩;rw[hs]at ht;have o:Nrm (l++[s]):=hs▸h.1;have w:=NF.lo_ge o s b6;rcases wF.1 ht with j|j
 .have:=o.last_lt t j;omega
 .simp at j;subst j;exact u
def J0(r:Nat)(l:List Iv):(Qi r l).1.holes.length<=2*l.length+3:=by
 by_cases h:l=[]
 .subst h;simp[Qi]
 .rw[qD h];have:=xR zm [⟨0,QV l⟩] l;simp at this⊢;omega
def kW(e:En):(kn e).length<=2*e.holes.length+3:=by have:=xR zm [⟨0,e.max⟩] e.holes;simp at this;unfold kn;omega
end
section
open Go.RowKit
def rdE(u:Nat)(w:World)(b o:Nat)(e:En):Prop:=w.cell? ⟨b,o,none⟩=some (.int .u64 e.rep)/\w.cell? ⟨b,o+1,none⟩=some (.int .u64 e.max)/\(∃j,w.cell? ⟨b,o+2,none⟩=some j/\RdR 0 u w j e.holes)/\e.rep<zk/\e.max<zk
def RdV(j:Nat)(w:World)(v:Value)(l:List En):Prop:=RdSl 3 (rdE j) 0 j w v l
def RdV.keep{j:Nat}{w w':World}{v:Value}{l:List En}(h:RdV j w v l)(hb:∀k,k<j->w'.heap[k]?=w.heap[k]?):RdV j w' v l:=
 RdSl.keep h (Zp _) (Zp _) λb o x _ h2 ⟨c0,c1,⟨hv,c2,c3⟩,c4⟩=>
  ⟨(tp (a:=⟨b,o,none⟩) (hb b h2)).trans c0,(tp (a:=⟨b,o+1,none⟩) (hb b h2)).trans c1,⟨hv,(tp (a:=⟨b,o+2,none⟩) (hb b h2)).trans c2,c3.keep (Zp _) (Zp _) λb _ h=>hb b h⟩,c4⟩
def zC(e:En):List Nat:=e.rep::e.max::e.holes.length::e.holes.flatMap λs=>[s.lo,s.hi]
def zv(v:List En):List Nat:=v.length::v.flatMap zC
def PtE(u j:Nat)(A B:World):Prop:=A.heap.size<=B.heap.size/\∀k,k<A.heap.size->(k<u\/k=j\/∃o f t,A.heap[k]?=some (.cells o t f)/\(t = 181 \/ t = 61))->B.heap[k]?=A.heap[k]?
def RdV.pt{j u:Nat}{w o:World}{v:Value}{l:List En}(h:RdV j w v l)(A:PtE j u w o)(B:j<=w.heap.size):RdV j o v l:=h.keep λk hk=>A.2 k a8 (.inl hk)
def zko(x y z:Int)(w:World):(Instr.index 292 (.agg #[.int .u64 x,.int .u64 y,.int .u64 z]) (.int .i64 0)).run xt w=.ok (.int .u64 x) w:=dL
def zkp(x y z:Int)(w:World):(Instr.index 292 (.agg #[.int .u64 x,.int .u64 y,.int .u64 z]) (.int .i64 1)).run xt w=.ok (.int .u64 y) w:=dL
def zkq(x y z:Int)(w:World):(Instr.index 292 (.agg #[.int .u64 x,.int .u64 y,.int .u64 z]) (.int .i64 2)).run xt w=.ok (.int .u64 z) w:=dL
def zfR{v:List En}{k:Nat}(h:k<v.length):zv v=(v.length::(v.take k).flatMap zC)++zC v[k]++(v.drop (k+1)).flatMap zC:=by
 unfold zv
 conv=>lhs;rw[<-Wd k v,vD h,Wq,Wk]
 simp
def Vt(v:List En)(va:Value)(Bv C:Nat)(W0:World)(hv:RdV C W0 va v)(hb:Boxed W0 Bv 57 va)(aG:C<=W0.heap.size):
 v7 xt 215 #[.pointer (some ⟨Bv,0,none⟩)] (λx:Nat=>#[.int .u64 x]) (λ_=>False) (PtE C Bv) (zv v) W0:=by
 intro l J Jx hJ ar hY h0;refine callsIn_wide.2 ?_;show Calls xt 215 #[.func (.yield l) #[] #[],.pointer (some ⟨Bv,0,none⟩)] W0 _;have HJ:=qL hJ;have bp:=qL ar;have HY:=qL hY;have HV:=qL hv;clear hJ ar hY;have bw:=hv.len;obtain⟨av,M,rfl,bc,aC,af⟩:=hv;unfold maxLen at aC;have hM:=zw;have bz:IntKind.u64.wrap ((v.length:Nat):Int)=(v.length:Int):=ZR a8;have aZ:=hb.cell;obtain⟨fn,L,u,I,U,O⟩:=HY.o [] v.length W0 h0 ⟨v.flatMap zC,rfl⟩;dsimp only at U;clear hM;go_enter func215,ntmps215
 go_upto_region 0 with fail
 refine(Ty (n:=8)).1 ?_
 gi_wp2
 refine O.mono ?_;rintro e w1 (⟨rfl,ao,X⟩|⟨rfl,au⟩)
 .gi_wp2
  have aA:Boxed w1 Bv 57 (.slice av v.length M):=(X.2 Bv hb.lt (.inr (.inl rfl))).trans hb;have ak:=qL (HV.o.pt X aG);have aH:C<=w1.heap.size:=V0 aG X.1;have ba:=aA.cell;clear U O aZ hb aA h0
  go_wp2_with fail
  go_loopg [17] v.length (λg x wr=>∃k:Nat,k<=v.length/\g=v.length-k/\x=.int .i64 k/\J (v.length::(v.take k).flatMap zC) wr/\RdV C wr (.slice av v.length M) v/\C<=wr.heap.size)
  case atStart=>exact⟨0,X3 _,rfl,rfl,dK ao,ak.o,aH⟩
  case round=>
   obtain⟨k,hk,rfl,rfl,V,aU,bu⟩:=hrel;obtain⟨wo,bj⟩:=xm (wr);subst bj;clear ao ak aH X ba af;by_cases Y:k<v.length
   .obtain⟨a',an,az,_,_,aB⟩:=aU;obtain⟨b,Z,aV,_,aX,S⟩:=aB (by intro e;subst e;simp at Y);obtain⟨rfl,_,rfl⟩:av=a'/\v.length=v.length/\M=an:=(dK az);subst aV;obtain⟨c0,c1,⟨hv,c2,ai⟩,bg,bi⟩:=S k Y;have aN:qA (RdV C wo (.slice (some ⟨b,Z,none⟩) v.length M) v):=⟨_,_,rfl,bc,by unfold maxLen;exact aC,λ_=>⟨b,Z,rfl,X3 _,aX,S⟩⟩;have HE:qA (∃e,e=v[k]):=⟨_,rfl⟩;obtain⟨e,he⟩:=HE.o;rw[<-he]at c0 c1 ai bg bi;have HK:=qL he;have bt:=ai.len;obtain⟨ah,w,rfl,aE,ag,K⟩:=ai;unfold maxLen at ag;have bA:IntKind.u64.wrap ((e.holes.length:Nat):Int)=(e.holes.length:Int):=ZR (by rw[zw];omega);have HH:qA (RdR 0 C wo (.slice ah e.holes.length w) e.holes):=⟨_,_,rfl,aE,by unfold maxLen;exact ag,K⟩;clear aB S he HE az K;have HP:qA (zv v=(v.length::(v.take k).flatMap zC)++zC e++(v.drop (k+1)).flatMap zC):=(by show zv v=_;rw[HK.o];exact zfR Y)
    go_wp2_with fail
    go_loopg [30] 3 (λg x wr=>((g=3/\x=.int .i64 0/\J (v.length::(v.take k).flatMap zC) wr)\/(g=2/\x=.int .i64 1/\J ((v.length::(v.take k).flatMap zC)++[e.rep]) wr)\/(g=1/\x=.int .i64 2/\J ((v.length::(v.take k).flatMap zC)++[e.rep,e.max]) wr)\/(g=0/\x=.int .i64 3/\J ((v.length::(v.take k).flatMap zC)++[e.rep,e.max,e.holes.length]) wr)) /\
     RdV C wr (.slice (some ⟨b,Z,none⟩) v.length M) v/\C<=wr.heap.size/\wr.heap[wo.heap.size]?=some (.cells #[.int .u64 e.rep,.int .u64 e.max,.slice ah e.holes.length w] 181 (0,0))/\RdR 0 C wr (.slice ah e.holes.length w) e.holes)
    case atStart=>exact⟨.inl ⟨rfl,rfl,HJ.o _ _ _ V ((Keep.refl _ _).alloc _)⟩,aN.o.keep λj hj=>tw _ _ _ a8,a9,tq _ _,HH.o.keep (Zp _) (Zp _) λj _ hj=>tw _ _ _ a8⟩
    case round=>
     obtain⟨aD,Q,F,B,P⟩:=hrel;clear V;have i0:=zko;have i1:=zkp;have i2:=zkq;rcases aD with⟨rfl,rfl,E⟩|⟨rfl,rfl,E⟩|⟨rfl,rfl,E⟩|⟨rfl,rfl,E⟩
     .obtain⟨fn,L,u,I,U,O⟩:=HY.o ((v.length::(v.take k).flatMap zC)) e.rep wr E ⟨e.max::e.holes.length::(e.holes.flatMap λs=>[s.lo,s.hi])++(v.drop (k+1)).flatMap zC,by rw[HP.o];simp[zC]⟩;try dsimp only at U
      go_upto_region 7 with fail
      refine(Ty (n:=8)).1 ?_
      gi_wp2
      refine O.mono ?_;rintro e' w3 (⟨rfl,G,o⟩|⟨rfl,A⟩)
      .gi_wp2
       go_wp2;go_roundg 2;case measure=>omega
       case rel=>exact⟨.inr (.inl ⟨rfl,rfl,dK G⟩),Q.pt o F,V0 F o.1,(o.2 _ (Yf.1 B).1 (.inr (.inr ⟨_,_,_,B,.inl rfl⟩))).trans B,P.keep (Zp _) (Zp _) λj _ hj=>o.2 j a8 (.inl hj)⟩
      .gi_wp2
       go_wp2;refine tA (tN rfl _ _ _) rfl ?_;exact⟨⟨_,rfl⟩,.inr ⟨((v.length::(v.take k).flatMap zC))++[e.rep],⟨e.max::e.holes.length::(e.holes.flatMap λs=>[s.lo,s.hi])++(v.drop (k+1)).flatMap zC,by rw[HP.o];simp[zC]⟩,A⟩⟩
     .obtain⟨fn,L,u,I,U,O⟩:=HY.o ((v.length::(v.take k).flatMap zC)++[e.rep]) e.max wr E ⟨e.holes.length::(e.holes.flatMap λs=>[s.lo,s.hi])++(v.drop (k+1)).flatMap zC,by rw[HP.o];simp[zC]⟩;try dsimp only at U
      go_upto_region 7 with fail
      refine(Ty (n:=8)).1 ?_
      gi_wp2
      refine O.mono ?_;rintro e' w3 (⟨rfl,G,o⟩|⟨rfl,A⟩)
      .gi_wp2
       go_wp2;go_roundg 1;case measure=>omega
       case rel=>exact⟨.inr (.inr (.inl ⟨rfl,rfl,dK G⟩)),Q.pt o F,V0 F o.1,(o.2 _ (Yf.1 B).1 (.inr (.inr ⟨_,_,_,B,.inl rfl⟩))).trans B,P.keep (Zp _) (Zp _) λj _ hj=>o.2 j a8 (.inl hj)⟩
      .gi_wp2
       go_wp2;refine tA (tN rfl _ _ _) rfl ?_;exact⟨⟨_,rfl⟩,.inr ⟨((v.length::(v.take k).flatMap zC)++[e.rep])++[e.max],⟨e.holes.length::(e.holes.flatMap λs=>[s.lo,s.hi])++(v.drop (k+1)).flatMap zC,by rw[HP.o];simp[zC]⟩,A⟩⟩
     .obtain⟨fn,L,u,I,U,O⟩:=HY.o ((v.length::(v.take k).flatMap zC)++[e.rep,e.max]) e.holes.length wr E ⟨(e.holes.flatMap λs=>[s.lo,s.hi])++(v.drop (k+1)).flatMap zC,by rw[HP.o];simp[zC]⟩;try dsimp only at U
      go_upto_region 7 with fail
      refine(Ty (n:=8)).1 ?_
      gi_wp2
      refine O.mono ?_;rintro e' w3 (⟨rfl,G,o⟩|⟨rfl,A⟩)
      .gi_wp2
       go_wp2;go_roundg 0;case measure=>omega
       case rel=>exact⟨.inr (.inr (.inr (⟨rfl,rfl,dK G⟩))),Q.pt o F,V0 F o.1,(o.2 _ (Yf.1 B).1 (.inr (.inr ⟨_,_,_,B,.inl rfl⟩))).trans B,P.keep (Zp _) (Zp _) λj _ hj=>o.2 j a8 (.inl hj)⟩
      .gi_wp2
       go_wp2;refine tA (tN rfl _ _ _) rfl ?_;exact⟨⟨_,rfl⟩,.inr ⟨((v.length::(v.take k).flatMap zC)++[e.rep,e.max])++[e.holes.length],⟨(e.holes.flatMap λs=>[s.lo,s.hi])++(v.drop (k+1)).flatMap zC,by rw[HP.o];simp[zC]⟩,A⟩⟩
     .have d0:wr.cell? ⟨wo.heap.size,2,none⟩=some (.slice ah e.holes.length w):=(by simp[World.cell?,B])
      go_wp2_with fail
      go_loopg [41] e.holes.length (λg x wr=>∃j:Nat,j<=e.holes.length/\g=e.holes.length-j/\x=.int .i64 j/\J (((v.length::(v.take k).flatMap zC)++[e.rep,e.max,e.holes.length])++(e.holes.take j).flatMap λs=>[s.lo,s.hi]) wr/\RdV C wr (.slice (some ⟨b,Z,none⟩) v.length M) v/\C<=wr.heap.size/\RdR 0 C wr (.slice ah e.holes.length w) e.holes)
      case atStart=>exact⟨0,X3 _,rfl,rfl,dK E,Q,F,P⟩
      case round=>
       obtain⟨j,hj,rfl,rfl,aq,ae,aI,aT⟩:=hrel;clear E Q F P d0 B;obtain⟨N,aJ⟩:∃wo,wo=wr:=⟨_,rfl⟩;subst aJ;by_cases T:j<e.holes.length
       .obtain⟨aO,ad,ay,_,_,ab⟩:=aT;obtain⟨bh,ac,ax,_,aW,H⟩:=ab (by intro e';rw[e']at T;simp at T);obtain⟨rfl,rfl⟩:ah=aO/\w=ad:=(dK ay);subst ax;obtain⟨c3,c4,s1,s2⟩:=H j T;obtain⟨s,hs⟩:=xm (e.holes[j]);rw[<-hs]at c3 c4 s1 s2;have HS:=qL hs;have aL:qA (RdR 0 C N (.slice (some ⟨bh,ac,none⟩) e.holes.length w) e.holes):=⟨_,_,rfl,aE,by unfold maxLen;exact ag,λ_=>⟨bh,ac,rfl,X3 _,aW,H⟩⟩;clear hs ab H ay;have aM:=qL ae;clear ae;have aQ:=HJ.o _ _ _ aq ((Keep.refl _ N).alloc (.cells #[.int .u64 s.lo,.int .u64 s.hi] 61));have HF:qA (zv v=((v.length::(v.take k).flatMap zC)++[e.rep,e.max,e.holes.length])++((e.holes.take j).flatMap λs=>[s.lo,s.hi])++[s.lo,s.hi]++(((e.holes.drop (j+1)).flatMap λs=>[s.lo,s.hi])++(v.drop (k+1)).flatMap zC)):=by
         show zv v=_;rw[HP.o];unfold zC
         conv=>lhs;rw[<-Wd j e.holes,vD T,<-HS.o]
         simp;omega
        obtain⟨fn,L,u,I,U,O⟩:=HY.o (((v.length::(v.take k).flatMap zC)++[e.rep,e.max,e.holes.length])++((e.holes.take j).flatMap λs=>[s.lo,s.hi])) s.lo _ aQ ⟨s.hi::(((e.holes.drop (j+1)).flatMap λs=>[s.lo,s.hi])++(v.drop (k+1)).flatMap zC),by rw[HF.o];simp only[wU,yb,Y1]⟩;try dsimp only at U
        go_upto_region 12 with fail
        refine(Ty (n:=8)).1 ?_
        gi_wp2
        refine O.mono ?_;rintro e' w3 (⟨rfl,G,o⟩|⟨rfl,A⟩)
        .have aY:w3.heap[N.heap.size]?=some (.cells #[.int .u64 s.lo,.int .u64 s.hi] 61 (0,0)):=(o.2 _ b6 (.inr (.inr ⟨_,_,_,tq _ _,.inr rfl⟩))).trans (tq _ _);have br:w3.cell? ⟨N.heap.size,1,none⟩=some (.int .u64 s.hi):=(by simp[World.cell?,aY]);have be:C<=w3.heap.size:=V0 aI (V0 b6 o.1);have aK:qA (∀q,q<C->w3.heap[q]?=N.heap[q]?):=λq hq=>(o.2 q a9 (.inl hq)).trans (tw _ _ _ a8);obtain⟨bq,bn,am,aP,bl,aS⟩:=HY.o ((((v.length::(v.take k).flatMap zC)++[e.rep,e.max,e.holes.length])++((e.holes.take j).flatMap λs=>[s.lo,s.hi]))++[s.lo]) s.hi w3 G ⟨(((e.holes.drop (j+1)).flatMap λs=>[s.lo,s.hi])++(v.drop (k+1)).flatMap zC),by rw[HF.o];simp only[wU,yb,Y1]⟩;try dsimp only at bl
         clear U O
         gi_wp2
         refine aS.mono ?_;rintro e2 w4 (⟨rfl,aR,aF⟩|⟨rfl,aw⟩)
         .gi_wp2
          go_wp2;go_roundg (e.holes.length-(j+1));case measure=>omega
          case rel=>have aj:∀q,q<C->w4.heap[q]?=N.heap[q]?:=λq hq=>(aF.2 q a8 (.inl hq)).trans (aK.o q hq);refine⟨j+1,a8,rfl,by go_num,?_,aM.o.keep aj,V0 be aF.1,aL.o.keep (Zp _) (Zp _) λq _ hq=>aj q hq⟩;rw[X4 T,Wq,<-HS.o];simpa using aR
         .gi_wp2
          go_wp2;refine tA (tN rfl _ _ _) rfl ?_;exact⟨⟨_,rfl⟩,.inr ⟨_,⟨(((e.holes.drop (j+1)).flatMap λs=>[s.lo,s.hi])++(v.drop (k+1)).flatMap zC),by rw[HF.o];simp only[wU,yb,Y1]⟩,aw⟩⟩
        .gi_wp2
         refine⟨λf hf=>(by cases hf),?_⟩
         gi_wp2
         go_wp2;refine tA (tN rfl _ _ _) rfl ?_;exact⟨⟨_,rfl⟩,.inr ⟨_,⟨s.hi::(((e.holes.drop (j+1)).flatMap λs=>[s.lo,s.hi])++(v.drop (k+1)).flatMap zC),by rw[HF.o];simp only[wU,yb,Y1]⟩,A⟩⟩
       .obtain rfl:j=e.holes.length:=a8
        go_wp2;go_roundg (v.length-(k+1));case measure=>omega
        case rel=>refine⟨k+1,a8,rfl,by go_num,?_,ae,aI⟩;rw[X4 Y,Wq,<-HK.o];simpa[zC]using aq
   .obtain rfl:k=v.length:=a8
    go_wp2;refine bodyPost_end (tN rfl _ _ _) rfl ?_;rw[wm (Zp _)]at V;exact⟨⟨_,rfl⟩,.inl V⟩
 .gi_wp2
  go_wp2;refine tA (tN rfl _ _ _) rfl ?_;exact⟨⟨_,rfl⟩,.inr ⟨[v.length],⟨v.flatMap zC,rfl⟩,au⟩⟩
attribute [local go_sem] Oper.semAt_some
def Vu(a:Option Addr)(n c:Nat)(w:World):Calls xt 210 #[.slice a n c] w λe j=>e=.returned (.func (.func 215) #[] #[.pointer (some ⟨w.heap.size,0,none⟩)])/\j=w.alloc (.cells #[.slice a n c] 57):=by
 go_enter func210,ntmps210
 go_wp2;go_ret;exact⟨rfl,rfl⟩
def OwnN(base:Nat)(w:World)(v:Value)(j:List Nat):Prop:=w.ownsRow base 36 1 v j.length (j.map λx=>.int .u64 (x:Nat))
def OwnN.nil(base:Nat)(w:World):OwnN base w (.slice none 0 0) []:=tV _ _ _ _
def OwnN.keep{base:Nat}{S:Nat->Prop}{w w':World}{v:Value}{l:List Nat}(h:OwnN base w v l)(hb:Keep S w w')(hs:∀g,base<=g->g<w.heap.size->¬S g):OwnN base w' v l:=
 hb.ownsRow h λg j=>hs g (h.lt g j).1 (h.lt g j).2
def OwnN.mono{base j:Nat}{w:World}{v:Value}{l:List Nat}(h:OwnN base w v l)(hb:j<=base):OwnN j w v l:=by
 refine⟨h.1,?_⟩;rcases h.2 with B|⟨g,o,u,C,A,r⟩
 .exact .inl B
 .exact .inr ⟨g,o,u,C,V0 hb A,r⟩
def SN(j:Nat)(A B:World):Prop:=(∃v,Boxed A j 128 v)/\Keep (λk=>k=j\/(j+4<=k/\∃o f,A.heap[k]?=some (.cells o 36 f))) A B
def SN.pt{C:Nat}{A B:World}(h:SN C A B):PtE C (C+1) A B:=by
 obtain⟨⟨v,G⟩,hk⟩:=h;refine⟨hk.size,λk u j=>hk.block k u ?_⟩;rintro(rfl|⟨I,E,f,o⟩)
 .rcases j with j|j|⟨E,f,t,j,ht⟩
  .omega
  .omega
  .have w:A.heap[k]?=some (.cells #[v] 128 (0,0)):=G;rw[w]at j;cases j;rcases ht with ht|ht<;>cases ht
 .rcases j with j|j|⟨F,H,t,j,ht⟩
  .omega
  .omega
  .rw[o]at j;cases j;rcases ht with ht|ht<;>cases ht
def Q5{W E:World}{w:Nat}{v B:Value}{N ys:List Nat}{C:Obj}
 (H:Boxed W w 128 v) (u:OwnN (w+4) W v N) (A:E.ownsRow (w+4) 36 1 B ys.length (ys.map λx=>.int .u64 (x:Nat))) (o:(W.alloc C).grownBy E v.ownBlock) :
 Boxed (E.setCell ⟨w,0,none⟩ B) w 128 B/\OwnN (w+4) (E.setCell ⟨w,0,none⟩ B) B ys/\SN w W (E.setCell ⟨w,0,none⟩ B):=by
 have G : 128 ≠ 36 :=b8
 obtain⟨O,K,L,P⟩:=qO H G u A o;refine⟨K,L,⟨v,H⟩,?_⟩;refine Keep.setCell (p:=⟨w,0,none⟩) ?_ (λ_=>.inl rfl) _;refine((Keep.refl _ W).alloc C).grown o λj F _=>.inr ⟨(u.lt j F).1,?_⟩;rcases u.2 with⟨rfl,_⟩|⟨g,I,J,rfl,Q,M,_⟩
 .cases F
 .have:g=j:=(by simpa[Value.ownBlock]using F);subst this;exact⟨_,_,M⟩
def Tryz.infoU:(xt.info? 36).map (λi=>(i.zero,i.size,i.bytes))=some (some (Value.int .u64 0),1,8):=dL
def Q4(v:List En)(va:Value)(w:World)(hv:RdV w.heap.size w va v)(ac:(zv v).length<=1073741824):
 Calls xt 197 #[va] w λe w'=>∃u,e=.returned u/\OwnN w.heap.size w' u (zv v)/\Below w.heap.size w w':=by
 have HV:=qL hv;obtain⟨O,L,rfl,_⟩:=hv;refine callsIn_wide.1 (Td (n:=9) func197 rfl trivial ?_ rfl);simp only[ntmps197,WC,ww,Wt,Nat.reduceAdd,Nat.reduceSub,uu,uv,uJ,ux,Y1,yb]
 gi_wp2_with (refine⟨trivial,?_⟩;gi_at_call 210;refine(callsIn_wide.2 (Vu _ _ _ _)).mono ?_;rintro e w' ⟨rfl,rfl⟩)
 obtain⟨K,J⟩:=xn (((w.alloc (Obj.cells #[Value.slice none 0 0] 128)).alloc (Obj.cells #[Value.slice O v.length L] 57)));have ad:K.heap.size=w.heap.size+2:=by rw[<-J];simp
 have b0:Boxed K w.heap.size 128 (Value.slice none 0 0):=by rw[<-J];exact(tX w _ _).alloc _
 have b1:Boxed K (w.heap.size+1) 57 (Value.slice O v.length L):=by rw[<-J];have:=tX (w.alloc (Obj.cells #[Value.slice none 0 0] 128)) 57 (Value.slice O v.length L);rw[tx]at this;exact this
 have P:Below w.heap.size w K:=by rw[<-J];exact((tv _ _).alloc (Zp _) _).alloc b6 _
 try simp only[tx]
 rw [J];clear J;refine Xt (w:=K) 215 #[.pointer (some ⟨w.heap.size+1,0,none⟩)] rfl (enters_of func215 dL rfl) (λx:Nat=>#[.int .u64 x]) (λ_=>rfl)
  (λ_=>False) (PtE w.heap.size (w.heap.size+1)) (zv v) ?hit
  (SN w.heap.size) (λA B h k hk M=>h.2.block k M (by rintro(e|⟨e,_⟩)<;>omega)) (λA B h=>h.pt)
  ?hPt ?hPt0 ⟨id,id⟩
  (λpre W=>(∃u,Boxed W w.heap.size 128 u/\OwnN (w.heap.size+4) W u pre)/\Below w.heap.size w W)
  (λ_ _ _=>False) ?hI (λ_ _ _ _ h _=>h) ⟨⟨_,b0,OwnN.nil _ _⟩,P⟩
  (λpre x S W=>((∃u,Boxed W w.heap.size 128 u/\OwnN (w.heap.size+4) W u pre)/\Below w.heap.size w W) /\
    S={ tmps:=#[Value.slice O v.length L,undef,Value.slice none 0 0,Value.pointer (some ⟨w.heap.size,0,none⟩),.int .u64 (x:Nat),Value.slice O v.length L,Value.func (Fn.func 215) #[] #[Value.pointer (some ⟨w.heap.size+1,0,none⟩)],.int .u64 (x:Nat),undef,undef,undef,undef,undef],defers:=[] })
  ?hAx ?hassign ?hbody ?hdone (λ_ _ _ _ h _=>h.elim)
 case hit=>intro W hk _;exact Vt v _ (w.heap.size+1) w.heap.size W (RdV.keep HV.o λk V=>((P.trans (hk.below a8 λ_ _=>id)).block k V)) (hk.boxed b1 id) (by have:=hk.size;omega)
 case hPt=>
  rintro A B C ⟨F,I⟩ ⟨G,h4⟩;refine⟨V0 F G,λk hk E=>?_⟩;have e1:=I k hk E;refine(h4 k a8 ?_).trans e1;rcases E with E|E|⟨cs,f,t,E,ht⟩
  .exact .inl E
  .exact .inr (.inl E)
  .exact .inr (.inr ⟨cs,f,t,by rw[e1];exact E,ht⟩)
 case hPt0=>
  rintro A B hk ⟨o,ho⟩;refine⟨hk.size,λk M E=>hk.block k M ?_⟩;rintro rfl;rcases E with E|E|⟨cs,f,t,E,ht⟩
  .omega
  .omega
  .rw[ho]at E;cases E
 case hI=>rintro pre A B ⟨⟨u,F,I⟩,G⟩ U;have hk:Keep (λk=>k=K.heap.size\/k=K.heap.size+1) A B:=U.mono λ_ _ h=>h.elim False.elim id;exact⟨⟨u,hk.boxed F a8,I.keep hk (λg hg _=>a8)⟩,G.trans (hk.below G.size λk hk=>a8)⟩
 case hAx=>rintro pre x S A B ⟨⟨⟨u,F,I⟩,G⟩,rfl⟩ hk;exact⟨⟨⟨u,hk.boxed F a8,I.keep hk (λg hg _=>a8)⟩,G.trans (hk.below G.size λk hk=>a8)⟩,rfl⟩
 case hassign=>
  rintro l pre x W N M ⟨⟨u,F,I⟩,G⟩;clear N
  gi_wp2
  exact⟨⟨⟨u,F⟩,Keep.refl _ _⟩,⟨⟨u,F,I⟩,G⟩,trivial⟩
 case hbody=>
  rintro l pre x S W N M ⟨⟨⟨u,F,I⟩,G⟩,rfl⟩;have E:=F.cell;have hf:=F.frozen;obtain⟨i0,T,X,Y,Z⟩:=tR Tryz.infoU;have hl:pre.length+1<=(zv v).length:=(by have:=N.length_le;simpa using this)
  gi_wp2_with (gi_at_builtin;refine TB _ rfl _ _ 128 rfl (w.heap.size+4) 36 i0 (.int .u64 0) 1 8 underlying128 T X Y Z rfl b8 _ _ _ rfl (I.alloc _) ⟨W.heap.size,0,none⟩ 1 1 [.int .u64 (x:Nat)] rfl rfl (kw (cs:=#[.int .u64 (x:Nat)]) (t := 36) (fr:=(0,0)) (tq W _)) dH c8 a8 (by rw[tx];omega) ?_;intro v' w3 j H _;obtain⟨g',ab,rfl⟩:=TW j;obtain⟨q2,q3,q4⟩:=Q5 (ys:=pre++[x]) F I (dK j) H;have ae:=(qO F b8 I j H).1.cell;have af:=(qO F b8 I j H).1.frozen)
  exact⟨q4,⟨_,q2,q3⟩,G.trans (q4.2.below G.size λk hk=>by rintro(e|⟨e,_⟩)<;>omega)⟩
 case hdone=>
  rintro W ⟨⟨u,F,I⟩,G⟩ hD;have E:=F.cell
  gi_wp2
  refine⟨b6,.inl ⟨_,_,rfl,Tf hD,?_⟩⟩;have Q:Keep (λk=>k=K.heap.size) W (W.putObj K.heap.size (.deferred none)):=(Keep.refl (λk=>k=K.heap.size) W).putObj (λ_=>rfl) _;exact⟨_,tL rfl _ _ _,u,rfl,OwnN.mono (I.keep Q λg hg _=>a8) a8,G.trans (Q.below G.size λk hk=>a8)⟩
end
end Go.Proofs.YtmpnbdhadjfbhaaGreatDoor
