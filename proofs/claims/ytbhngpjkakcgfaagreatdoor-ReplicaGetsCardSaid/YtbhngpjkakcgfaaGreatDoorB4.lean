import Derived.Deep.LoopGhost
import Derived.Deep.DeepCutAuto
import Derived.Deep.CutBlock
import Derived.Test.YtbhngpjkakcgfaaGreatDoorB3
set_option maxHeartbeats 16000000
set_option linter.all false
set_option maxRecDepth 100000
namespace Go.Proofs.YtbhngpjkakcgfaaGreatDoor
def dG{p:Prop}(h:p:=by simp [Value.oneCell']):p:=h
def tz:=@Go.bodyPost_ret
def tK:=@Go.results_tmp
def tL:=@Go.results_none
def tQ:=@Go.info_parts
def tU:=@Go.Boxed.new
def Ta:=@Go.callsIn_of_wp_marks
def Tc:=@Go.run_takeDeferred
def Tv:=@Go.wpIn_wide
def TA:=@Go.wpListIn_append_own
def TW:=@Go.ownsRow_succ
def T1:=@Go.CallsIn.inRound
open Go.Proofs.Tryz renaming prog->xT
section
open Go.RowKit
def Suf(a j:List Iv)(x:Nat):Prop:=∃d,a=d++j/\∀s∈d,s.hi<x
def Suf.refl(a:List Iv)(x:Nat):Suf a a x:=⟨[],rfl,λ_ h=>by cases h⟩
def Suf.mono{a j:List Iv}{x y:Nat}(h:Suf a j x)(A:x<=y):Suf a j y:=by obtain⟨d,u,w⟩:=h;exact⟨d,u,λs hs=>by have:=w s hs;omega⟩
def Suf.drop{a j:List Iv}{s:Iv}{x:Nat}(h:Suf a (s::j) x)(hs:s.hi<x):Suf a j x:=by obtain⟨d,u,w⟩:=h;exact⟨d++[s],by simp[u],λt ht=>by simp at ht;rcases ht with ht|rfl;exact w t ht;exact hs⟩
def Suf.mem_eq{a j:List Iv}{x z:Nat}(h:Suf a j x)(hz:x<=z):mem a z=mem j z:=by
 obtain⟨d,rfl,u⟩:=h;rw[yd];have:mem d z=false:=by
  cases e:mem d z with
  |false=>rfl
  |true=>obtain⟨s,hs,_,w⟩:=qf.1 e;have:=u s hs;omega
 rw[this,uz]
def Suf.nrm{a j:List Iv}{x n:Nat}(u:NF n a)(h:Suf a j x):NF n j:=by
 obtain⟨d,rfl,w⟩:=h;clear w;induction d generalizing n with
 |nil=>exact u
 |cons s d ih=>exact ih u.tail
def Suf.nxt_eq{a j:List Iv}{x z n:Nat}(w:NF n a)(h:Suf a j x)(hz:x<=z):ye a z=ye j z:=by
 obtain⟨d,rfl,u⟩:=h;induction d generalizing n with
 |nil=>rfl
 |cons s d ih=>rw[yb,zdt (by have:=u s b6;omega) w.2.1];exact ih (λt ht=>u t (by simp[ht])) w.2.2.2
def Qg{j:List Iv}{s:Iv}{x n:Nat}(u:NF n (s::j))(h:x<=s.hi):mem (s::j) x=decide (s.lo<=x):=by rw[mem_cons,u.2.2.2.mem_lt a8];simp[h]
def za1(x:Iv×Bool×Bool):Array Value:=#[.agg #[.int .u64 x.1.lo,.int .u64 x.1.hi],.agg #[.bool x.2.1,.bool x.2.2]]
structure PInv(a b:List Iv)(Ba Bb n0:Nat)(w:World)(x:Nat)(a' b':List Iv)(va vb:Value):Prop where
 bxa:Boxed w Ba 26 va
 bxb:Boxed w Bb 26 vb
 ra:RdR 0 n0 w va a'
 rb:RdR 0 n0 w vb b'
 sa:Suf a a' x
 sb:Suf b b' x
def PInv.at{a b:List Iv}{j u n0:Nat}{S:Nat->Prop}{w H:World}{x y:Nat}{B C:List Iv}{F G:Value}(h:PInv a b j u n0 w x B C F G)(hk:Keep S w H)(I:n0<=w.heap.size)(hs:∀k,k<n0\/k=j\/k=u->¬S k)(E:x<=y):
 PInv a b j u n0 H y B C F G:=
 ⟨hk.boxed h.bxa (hs _ (.inr (.inl rfl))),hk.boxed h.bxb (hs _ (.inr (.inr rfl))),h.ra.keep (Zp _) (Zp _) λb _ A=>hk.block b a8 (hs b (.inl A)),
  h.rb.keep (Zp _) (Zp _) λb _ A=>hk.block b a8 (hs b (.inl A)),h.sa.mono E,h.sb.mono E⟩
def PInv.setA{a b:List Iv}{u A y:Nat}{w:World}{x:Nat}{s:Iv}{B E:List Iv}{I j F:Value}(h:PInv a b u A y w x (s::B) E I F)(J:y<=u)(C:u≠A)(hs:s.hi<x)(H:RdR 0 y w j B):
 PInv a b u A y (w.setCell ⟨u,0,none⟩ j) x B E j F:=
 ⟨h.bxa.set j,h.bxb.other C.symm j,H.keep (Zp _) (Zp _) λb _ G=>tx _ _ _ _ (by show b≠u;omega),
  h.rb.keep (Zp _) (Zp _) λb _ G=>tx _ _ _ _ (by show b≠u;omega),h.sa.drop hs,h.sb⟩
def PInv.setB{a b:List Iv}{A u y:Nat}{w:World}{x:Nat}{s:Iv}{E B:List Iv}{F I j:Value}(h:PInv a b A u y w x E (s::B) F I)(J:y<=u)(C:A≠u)(hs:s.hi<x)(H:RdR 0 y w j B):
 PInv a b A u y (w.setCell ⟨u,0,none⟩ j) x E B F j:=
 ⟨h.bxa.other C j,h.bxb.set j,h.ra.keep (Zp _) (Zp _) λb _ G=>tx _ _ _ _ (by show b≠u;omega),
  H.keep (Zp _) (Zp _) λb _ G=>tx _ _ _ _ (by show b≠u;omega),h.sa,h.sb.drop hs⟩
def Fit(j:List Iv)(x:Nat):Prop:=∀s r,j=s::r->x<=s.hi
def RdR.tail{hi:Nat}{w:World}{y:Option Addr}{n u:Nat}{s:Iv}{l:List Iv}(h:RdR 0 hi w (.slice y n u) (s::l)):
 ∃b j,y=some ⟨b,j,none⟩/\n=l.length+1/\b<hi/\rdIv w b j s/\l.length+1<=u/\u<=maxLen/\RdR 0 hi w (.slice (if u=1 then some ⟨b,j,none⟩ else some ⟨b,j+2,none⟩) l.length (u-1)) l:=by
 obtain⟨a,c,G,A,E,F⟩:=h;obtain⟨rfl,rfl,rfl⟩:y=a/\n=(s::l).length/\u=c:=dJ G
 obtain⟨b,j,rfl,_,hb,C⟩:=F b6;refine⟨b,j,rfl,rfl,hb,(by have:=C 0 b6;rwa[Nat.zero_mul,ue]at this),dJ A,E,?_⟩;refine⟨_,_,rfl,by simp at A;omega,a8,λB=>?_⟩;have H:0<l.length:=wW.2 B;refine⟨b,j+2,by rw[Vm (by simp at A;omega)],X3 _,hb,λi hi=>?_⟩;have:=C (i+1) a9;rw[show j+(i+1)*2=j+2+i*2 from by omega]at this;simpa using this
def J7(a b:List Iv)(bz bA:Value)(U V n0:Nat)(W0:World)(ha:Nrm a)(hb:Nrm b)(aO:U≠V)(bh:n0<=U)(bi:n0<=V)
 (bg:PInv a b U V n0 W0 0 a b bz bA) :
 zbY xT 176 #[.pointer (some ⟨U,0,none⟩),.pointer (some ⟨V,0,none⟩)] za1 (λk=>k=U\/k=V) (λk=>k<n0\/k=U\/k=V) (yO a b) W0:=by
 intro l J Jx hJ bl hY h0;refine callsIn_wide.2 ?_;show Calls xT 176 #[.func (.yield l) #[] #[],.pointer (some ⟨U,0,none⟩),.pointer (some ⟨V,0,none⟩)] W0 _;have HJ:=qL hJ;have bH:=qL bl;have HY:=qL hY;clear hJ bl hY;go_enter Tryz.func176,Tryz.ntmps176
 go_wp2_with fail
 go_loopg [4] zk (λg x wr=>∃(y f:Nat) (a' b':List Iv) (va vb:Value) (pre:List (Iv×Bool×Bool)),x=.int .u64 y/\y<zk/\g=zk-y/\PInv a b U V n0 wr y a' b' va vb/\qA (yO a b=pre++QU a b f y)/\zk<=f+y/\J pre wr)
 case atStart=>exact⟨0,zk,a,b,bz,bA,[],rfl,xM,rfl,bg,rfl,a8,h0⟩
 case round=>
  obtain⟨y,f,a',b',va,vb,pre,rfl,hx,rfl,A,X,hf,j⟩:=hrel;clear h0 bg
  go_upto_block 2 with fail
  go_cut [] (λwc=>∃a2 P,PInv a b U V n0 wc y a2 b' P vb/\Fit a2 y/\J pre wc)
  case first=>
   go_wp2_with fail
   go_loopg [] a'.length (λg wl=>∃(a2:List Iv) (P:Value),g=a2.length/\PInv a b U V n0 wl y a2 b' P vb/\J pre wl)
   case atStart=>exact⟨a',va,rfl,A,j⟩
   case round=>
    clear A j;obtain⟨a2,P,rfl,A,j⟩:=hrel;have bC:=A.bxa.cell;have bE:=A.bxa.frozen;have G:=A.ra;cases a2 with
    | nil=>
      obtain⟨ad,az,rfl,_⟩:=G
      go_wp2
      go_meet
      exact⟨[],_,A,(λ_ _ e=>by cases e),j⟩
    | cons s r=>
      have aH:=G;obtain⟨ad,az,rfl,_⟩:=aH;obtain⟨bb,bF,rfl,_,bB,hs,bp,aV,aG⟩:=G.tail;obtain⟨c1,c2,s1,s2⟩:=hs;have HT:=qL aG;clear G aG;unfold maxLen at aV;by_cases aD:s.hi<y
      .by_cases h1:az=1
       .subst h1;obtain rfl:r=[]:=wH a8
        go_wp2;go_roundg 0;case measure=>simp
        case rel=>exact⟨[],_,rfl,A.setA bh aO aD (by have:=HT.o;simpa using this),HJ.o _ _ _ j ((Keep.refl _ _).setCell (p:=⟨U,0,none⟩) (λ_=>.inl rfl) _)⟩
       .go_wp2;go_roundg r.length;case measure=>simp
        case rel=>exact⟨r,_,rfl,A.setA bh aO aD (by have:=HT.o;rw[Vm h1]at this;simpa using this),HJ.o _ _ _ j ((Keep.refl _ _).setCell (p:=⟨U,0,none⟩) (λ_=>.inl rfl) _)⟩
      .go_wp2
       go_meet
       exact⟨s::r,_,A,(λ_ _ e=>by cases e;omega),j⟩
  case rest=>
   clear A j;obtain⟨a2,P,A,T,j⟩:=hcut
   go_upto_block 4 with fail
   go_cut [] (λwc=>∃b2 Z,PInv a b U V n0 wc y a2 b2 P Z/\Fit b2 y/\J pre wc)
   case first=>
    go_wp2_with fail
    go_loopg [] b'.length (λg wl=>∃(b2:List Iv) (Z:Value),g=b2.length/\PInv a b U V n0 wl y a2 b2 P Z/\J pre wl)
    case atStart=>exact⟨b',vb,rfl,A,j⟩
    case round=>
     clear A j;obtain⟨b2,Z,rfl,A,j⟩:=hrel;have bC:=A.bxb.cell;have bE:=A.bxb.frozen;have G:=A.rb;cases b2 with
     | nil=>
       obtain⟨ad,az,rfl,_⟩:=G
       go_wp2
       go_meet
       exact⟨[],_,A,(λ_ _ e=>by cases e),j⟩
     | cons s r=>
       have aH:=G;obtain⟨ad,az,rfl,_⟩:=aH;obtain⟨bb,bF,rfl,_,bB,hs,bp,aV,aG⟩:=G.tail;obtain⟨c1,c2,s1,s2⟩:=hs;have HT:=qL aG;clear G aG;unfold maxLen at aV;by_cases aD:s.hi<y
       .by_cases h1:az=1
        .subst h1;obtain rfl:r=[]:=wH a8
         go_wp2;go_roundg 0;case measure=>simp
         case rel=>exact⟨[],_,rfl,A.setB bi aO aD (by have:=HT.o;simpa using this),HJ.o _ _ _ j ((Keep.refl _ _).setCell (p:=⟨V,0,none⟩) (λ_=>.inr rfl) _)⟩
        .go_wp2;go_roundg r.length;case measure=>simp
         case rel=>exact⟨r,_,rfl,A.setB bi aO aD (by have:=HT.o;rw[Vm h1]at this;simpa using this),HJ.o _ _ _ j ((Keep.refl _ _).setCell (p:=⟨V,0,none⟩) (λ_=>.inr rfl) _)⟩
       .go_wp2
        go_meet
        exact⟨s::r,_,A,(λ_ _ e=>by cases e;omega),j⟩
   case rest=>
    clear A j;obtain⟨b2,Z,A,M,j⟩:=hcut;go_upto_region 5 with fail
    go_cut [5] (λs5 wd=>∃Bs,s5=.pointer (some ⟨Bs,0,none⟩)/\PInv a b U V n0 wd y a2 b2 P Z/\J pre wd/\wd.cell? ⟨Bs,0,none⟩=some (.bool (mem a y))/\wd.cell? ⟨Bs,1,none⟩=some (.bool (mem b y))/\n0<=wd.heap.size)
    case first=>
     have aL:=A.sa.mem_eq (Zp _);have ae:=A.sb.mem_eq (Zp _);have aW:=A.sa.nrm ha;have aw:=A.sb.nrm hb;have ca:=A.bxa.cell;have cb:=A.bxb.cell;have aq:=A.bxa.lt;have ar:=A.bxb.lt;have G:=A.ra;have af:=A.rb;cases a2 with
     | nil=>
       obtain⟨ad,ab,rfl,_⟩:=G;have ax:=qL aL;clear aL aW;cases b2 with
       | nil=>
         obtain⟨bd,H,rfl,_⟩:=af;have ag:=qL ae;clear ae aw;have O:n0<=wc.heap.size:=a8;have HP:=qL (And.intro A (And.intro j (And.intro T M)));clear A T M aq ar hf;refine Kg (Sw:=qe) 24 99 (λw'=>w'.cell? ⟨U,0,none⟩=some (.slice ad 0 ab)/\w'.cell? ⟨V,0,none⟩=some (.slice bd 0 H)) dK dK rfl ⟨ca,cb⟩ ?_;simp only[wP,Wb];repeat (first
          |(refine zev ?_ rfl (λa w C _ Y=>?_) ?_;rotate_left;(simp[Rds,zA,lk,Op.operands,Call.operands,RdEq]at Y;go_simp;with_reducible rfl);simp only[Y1,yb])
          |(refine jI rfl ?_ ?_;(first|exact .inl (zG rfl rfl)|exact .inr (zG rfl rfl));simp only[Y1,yb])
          |(refine V6 rfl ?_ ?_ (λa w C _ Y=>?_) ?_;exact(zG rfl rfl);rotate_left;(simp[Rds,zA,lk,Op.operands,Call.operands,RdEq]at Y;go_simp;with_reducible rfl);simp only[Y1,yb]))
         refine V7 (λu w=>∃B,u=.pointer (some ⟨B,0,none⟩)/\w.heap[B]?=some (.cells #[.bool false,.bool false] 203 (0,0))/\wc.heap.size<=B) (λu w w' ⟨B,h1,h2,h3⟩ hk=>⟨B,h1,hk.obj h2 id,h3⟩) rfl ?_ ?_
         .intro a w C hk Y K hK;have HK:=qL hK;clear hK;go_simp;exact HK.o _ _ ((Keep.refl _ _).alloc _) ⟨((Keep.refl qe w).alloc _).cell_some C.1 id,((Keep.refl qe w).alloc _).cell_some C.2 id⟩ ⟨w.heap.size,rfl,tp w _,hk.size⟩
         simp only[Y1,yb];intro w C hk;simp only[finG,WR];rintro u ⟨B,rfl,I,L⟩;simp only[wN,Wh];have c0:w.cell? ⟨B,0,none⟩=some (.bool false):=(by simp[World.cell?,I]);have c1:w.cell? ⟨B,1,none⟩=some (.bool false):=(by simp[World.cell?,I]);have f0:w.frozen? ⟨B,0,none⟩=false:=(by simp[World.frozen?,I]);have f1:w.frozen? ⟨B,1,none⟩=false:=(by simp[World.frozen?,I]);clear I C;simp only[Act.put,wB,wS,wT]
         go_wp2
         go_meet
         have F:∀u v,Keep qe wc ((w.setCell ⟨B,0,none⟩ u).setCell ⟨B,1,none⟩ v):=λu v=>((((Keep.refl qe wc).drew).trans hk).setCell (p:=⟨B,0,none⟩) (λh=>by exact absurd h (dJ L)) _).setCell (p:=⟨B,1,none⟩) (λh=>by exact absurd h (dJ L)) _;exact⟨B,rfl,HP.o.1.at (F _ _) O (λ_ _=>id) (Zp _),HJ.o _ _ _ HP.o.2.1 ((F _ _).mono λ_ _ h=>h.elim),by rw[ax.o];go_simp,by rw[ag.o];go_simp,V0 O (F _ _).size⟩
       | cons t r2=>
         have bc:=af;obtain⟨bd,H,rfl,_⟩:=bc;obtain⟨bb,ob,rfl,_,_,aF,aU,aB,_⟩:=af.tail;have ag:=qL (ae.trans (Qg aw (M _ _ rfl)));have ct:=aF.1;unfold maxLen at aB;clear ae aw af aF;have O:n0<=wc.heap.size:=a8;have HP:=qL (And.intro A (And.intro j (And.intro T M)));clear A T M aq ar hf;refine Kg (Sw:=qe) 24 99 (λw'=>w'.cell? ⟨U,0,none⟩=some (.slice ad 0 ab)/\w'.cell? ⟨V,0,none⟩=some (.slice (some ⟨bb,ob,none⟩) (r2.length+1) H)/\w'.cell? ⟨bb,ob,none⟩=some (.int .u64 t.lo)) dK dK rfl ⟨ca,cb,ct⟩ ?_;simp only[wP,Wb];repeat (first
          |(refine zev ?_ rfl (λa w C _ Y=>?_) ?_;rotate_left;(simp[Rds,zA,lk,Op.operands,Call.operands,RdEq]at Y;go_simp;with_reducible rfl);simp only[Y1,yb])
          |(refine jI rfl ?_ ?_;(first|exact .inl (zG rfl rfl)|exact .inr (zG rfl rfl));simp only[Y1,yb])
          |(refine V6 rfl ?_ ?_ (λa w C _ Y=>?_) ?_;exact(zG rfl rfl);rotate_left;(simp[Rds,zA,lk,Op.operands,Call.operands,RdEq]at Y;go_simp;with_reducible rfl);simp only[Y1,yb]))
         refine V7 (λu w=>∃B,u=.pointer (some ⟨B,0,none⟩)/\w.heap[B]?=some (.cells #[.bool false,.bool false] 203 (0,0))/\wc.heap.size<=B) (λu w w' ⟨B,h1,h2,h3⟩ hk=>⟨B,h1,hk.obj h2 id,h3⟩) rfl ?_ ?_
         .intro a w C hk Y K hK;have HK:=qL hK;clear hK;go_simp;exact HK.o _ _ ((Keep.refl _ _).alloc _) ⟨((Keep.refl qe w).alloc _).cell_some C.1 id,((Keep.refl qe w).alloc _).cell_some C.2.1 id,((Keep.refl qe w).alloc _).cell_some C.2.2 id⟩ ⟨w.heap.size,rfl,tp w _,hk.size⟩
         simp only[Y1,yb];intro w C hk;simp only[finG,WR];rintro u ⟨B,rfl,I,L⟩;simp only[wN,Wh];have c0:w.cell? ⟨B,0,none⟩=some (.bool false):=(by simp[World.cell?,I]);have c1:w.cell? ⟨B,1,none⟩=some (.bool false):=(by simp[World.cell?,I]);have f0:w.frozen? ⟨B,0,none⟩=false:=(by simp[World.frozen?,I]);have f1:w.frozen? ⟨B,1,none⟩=false:=(by simp[World.frozen?,I]);clear I C;simp only[Act.put,wB,wS,wT]
         go_wp2
         go_meet
         have F:∀u v,Keep qe wc ((w.setCell ⟨B,0,none⟩ u).setCell ⟨B,1,none⟩ v):=λu v=>((((Keep.refl qe wc).drew).trans hk).setCell (p:=⟨B,0,none⟩) (λh=>by exact absurd h (dJ L)) _).setCell (p:=⟨B,1,none⟩) (λh=>by exact absurd h (dJ L)) _;exact⟨B,rfl,HP.o.1.at (F _ _) O (λ_ _=>id) (Zp _),HJ.o _ _ _ HP.o.2.1 ((F _ _).mono λ_ _ h=>h.elim),by rw[ax.o];go_simp,by rw[ag.o];go_simp,V0 O (F _ _).size⟩
     | cons s r1=>
       have aH:=G;obtain⟨ad,ab,rfl,_⟩:=aH;obtain⟨ba,oa,rfl,_,_,bw,bD,bq,_⟩:=G.tail;have ax:=qL (aL.trans (Qg aW (T _ _ rfl)));have cs:=bw.1;unfold maxLen at bq;clear aL aW G bw;cases b2 with
       | nil=>
         obtain⟨bd,H,rfl,_⟩:=af;have ag:=qL ae;clear ae aw;have O:n0<=wc.heap.size:=a8;have HP:=qL (And.intro A (And.intro j (And.intro T M)));clear A T M aq ar hf;refine Kg (Sw:=qe) 24 99 (λw'=>w'.cell? ⟨U,0,none⟩=some (.slice (some ⟨ba,oa,none⟩) (r1.length+1) ab)/\w'.cell? ⟨V,0,none⟩=some (.slice bd 0 H)/\w'.cell? ⟨ba,oa,none⟩=some (.int .u64 s.lo)) dK dK rfl ⟨ca,cb,cs⟩ ?_;simp only[wP,Wb];repeat (first
          |(refine zev ?_ rfl (λa w C _ Y=>?_) ?_;rotate_left;(simp[Rds,zA,lk,Op.operands,Call.operands,RdEq]at Y;go_simp;with_reducible rfl);simp only[Y1,yb])
          |(refine jI rfl ?_ ?_;(first|exact .inl (zG rfl rfl)|exact .inr (zG rfl rfl));simp only[Y1,yb])
          |(refine V6 rfl ?_ ?_ (λa w C _ Y=>?_) ?_;exact(zG rfl rfl);rotate_left;(simp[Rds,zA,lk,Op.operands,Call.operands,RdEq]at Y;go_simp;with_reducible rfl);simp only[Y1,yb]))
         refine V7 (λu w=>∃B,u=.pointer (some ⟨B,0,none⟩)/\w.heap[B]?=some (.cells #[.bool false,.bool false] 203 (0,0))/\wc.heap.size<=B) (λu w w' ⟨B,h1,h2,h3⟩ hk=>⟨B,h1,hk.obj h2 id,h3⟩) rfl ?_ ?_
         .intro a w C hk Y K hK;have HK:=qL hK;clear hK;go_simp;exact HK.o _ _ ((Keep.refl _ _).alloc _) ⟨((Keep.refl qe w).alloc _).cell_some C.1 id,((Keep.refl qe w).alloc _).cell_some C.2.1 id,((Keep.refl qe w).alloc _).cell_some C.2.2 id⟩ ⟨w.heap.size,rfl,tp w _,hk.size⟩
         simp only[Y1,yb];intro w C hk;simp only[finG,WR];rintro u ⟨B,rfl,I,L⟩;simp only[wN,Wh];have c0:w.cell? ⟨B,0,none⟩=some (.bool false):=(by simp[World.cell?,I]);have c1:w.cell? ⟨B,1,none⟩=some (.bool false):=(by simp[World.cell?,I]);have f0:w.frozen? ⟨B,0,none⟩=false:=(by simp[World.frozen?,I]);have f1:w.frozen? ⟨B,1,none⟩=false:=(by simp[World.frozen?,I]);clear I C;simp only[Act.put,wB,wS,wT]
         go_wp2
         go_meet
         have F:∀u v,Keep qe wc ((w.setCell ⟨B,0,none⟩ u).setCell ⟨B,1,none⟩ v):=λu v=>((((Keep.refl qe wc).drew).trans hk).setCell (p:=⟨B,0,none⟩) (λh=>by exact absurd h (dJ L)) _).setCell (p:=⟨B,1,none⟩) (λh=>by exact absurd h (dJ L)) _;exact⟨B,rfl,HP.o.1.at (F _ _) O (λ_ _=>id) (Zp _),HJ.o _ _ _ HP.o.2.1 ((F _ _).mono λ_ _ h=>h.elim),by rw[ax.o];go_simp,by rw[ag.o];go_simp,V0 O (F _ _).size⟩
       | cons t r2=>
         have bc:=af;obtain⟨bd,H,rfl,_⟩:=bc;obtain⟨bb,ob,rfl,_,_,aF,aU,aB,_⟩:=af.tail;have ag:=qL (ae.trans (Qg aw (M _ _ rfl)));have ct:=aF.1;unfold maxLen at aB;clear ae aw af aF;have O:n0<=wc.heap.size:=a8;have HP:=qL (And.intro A (And.intro j (And.intro T M)));clear A T M aq ar hf;refine Kg (Sw:=qe) 24 99 (λw'=>w'.cell? ⟨U,0,none⟩=some (.slice (some ⟨ba,oa,none⟩) (r1.length+1) ab)/\w'.cell? ⟨V,0,none⟩=some (.slice (some ⟨bb,ob,none⟩) (r2.length+1) H)/\w'.cell? ⟨ba,oa,none⟩=some (.int .u64 s.lo)/\w'.cell? ⟨bb,ob,none⟩=some (.int .u64 t.lo)) dK dK rfl ⟨ca,cb,cs,ct⟩ ?_;simp only[wP,Wb];repeat (first
          |(refine zev ?_ rfl (λa w C _ Y=>?_) ?_;rotate_left;(simp[Rds,zA,lk,Op.operands,Call.operands,RdEq]at Y;go_simp;with_reducible rfl);simp only[Y1,yb])
          |(refine jI rfl ?_ ?_;(first|exact .inl (zG rfl rfl)|exact .inr (zG rfl rfl));simp only[Y1,yb])
          |(refine V6 rfl ?_ ?_ (λa w C _ Y=>?_) ?_;exact(zG rfl rfl);rotate_left;(simp[Rds,zA,lk,Op.operands,Call.operands,RdEq]at Y;go_simp;with_reducible rfl);simp only[Y1,yb]))
         refine V7 (λu w=>∃B,u=.pointer (some ⟨B,0,none⟩)/\w.heap[B]?=some (.cells #[.bool false,.bool false] 203 (0,0))/\wc.heap.size<=B) (λu w w' ⟨B,h1,h2,h3⟩ hk=>⟨B,h1,hk.obj h2 id,h3⟩) rfl ?_ ?_
         .intro a w C hk Y K hK;have HK:=qL hK;clear hK;go_simp;exact HK.o _ _ ((Keep.refl _ _).alloc _) ⟨((Keep.refl qe w).alloc _).cell_some C.1 id,((Keep.refl qe w).alloc _).cell_some C.2.1 id,((Keep.refl qe w).alloc _).cell_some C.2.2.1 id,((Keep.refl qe w).alloc _).cell_some C.2.2.2 id⟩ ⟨w.heap.size,rfl,tp w _,hk.size⟩
         simp only[Y1,yb];intro w C hk;simp only[finG,WR];rintro u ⟨B,rfl,I,L⟩;simp only[wN,Wh];have c0:w.cell? ⟨B,0,none⟩=some (.bool false):=(by simp[World.cell?,I]);have c1:w.cell? ⟨B,1,none⟩=some (.bool false):=(by simp[World.cell?,I]);have f0:w.frozen? ⟨B,0,none⟩=false:=(by simp[World.frozen?,I]);have f1:w.frozen? ⟨B,1,none⟩=false:=(by simp[World.frozen?,I]);clear I C;simp only[Act.put,wB,wS,wT]
         go_wp2
         go_meet
         have F:∀u v,Keep qe wc ((w.setCell ⟨B,0,none⟩ u).setCell ⟨B,1,none⟩ v):=λu v=>((((Keep.refl qe wc).drew).trans hk).setCell (p:=⟨B,0,none⟩) (λh=>by exact absurd h (dJ L)) _).setCell (p:=⟨B,1,none⟩) (λh=>by exact absurd h (dJ L)) _;exact⟨B,rfl,HP.o.1.at (F _ _) O (λ_ _=>id) (Zp _),HJ.o _ _ _ HP.o.2.1 ((F _ _).mono λ_ _ h=>h.elim),by rw[ax.o];go_simp,by rw[ag.o];go_simp,V0 O (F _ _).size⟩
    case rest=>
     clear A j;obtain⟨Bs,rfl,A,j,am,aE,aM⟩:=hcut;have bt:ye a y=ye a2 y:=A.sa.nxt_eq ha (Zp _);have bu:ye b y=ye b2 y:=A.sb.nxt_eq hb (Zp _);have ah:=qL bt;have ai:=qL bu;clear bt bu T M;obtain⟨pa,aY⟩:∃p,mem a y=p:=⟨_,rfl⟩;obtain⟨pb,aZ⟩:∃p,mem b y=p:=⟨_,rfl⟩;rw[aY]at am;rw[aZ]at aE;have aR:=qL aY;have aS:=qL aZ;clear aY aZ;have ca:=A.bxa.cell;have bI:=A.bxb.lt;have aC:Bs<wc.heap.size:=tq wc _ am
     go_wp2_with fail
     refine(Vs a2 P y _ (A.ra.keep (Zp _) aM λ_ _ _=>rfl)).mono ?_;rintro e w1 ⟨n1,m1,rfl,aj,au⟩;clear ca;have aJ:=A.at (S:=qe) (Keep.of_below' au (Zp _)) aM (λ_ _=>id) (Zp _);have bj:=HJ.o _ _ _ j (Keep.of_below' au (Zp _));have am:=(au.cell (p:=⟨Bs,0,none⟩) aC).trans am;have aE:=(au.cell (p:=⟨Bs,1,none⟩) aC).trans aE;have aN:n0<=w1.heap.size:=V0 aM au.size;have aC:=tq w1 _ am;clear A j au aM;have cb:=aJ.bxb.cell
     go_wp2_with fail
     refine(Vs b2 Z y _ (aJ.rb.keep (Zp _) aN λ_ _ _=>rfl)).mono ?_;rintro e w2 ⟨n2,m2,rfl,ak,av⟩;clear cb;have bn:=aJ.at (S:=qe) (Keep.of_below' av (Zp _)) aN (λ_ _=>id) (Zp _);have aT:=HJ.o _ _ _ bj (Keep.of_below' av (Zp _));have am:=(av.cell (p:=⟨Bs,0,none⟩) aC).trans am;have aE:=(av.cell (p:=⟨Bs,1,none⟩) aC).trans aE;have br:n0<=w2.heap.size:=V0 aN av.size;clear aJ bj av aN;go_upto_region 8 with fail
     go_cut [81] (λbG wx=>∃c:Bool,bG=.bool c/\wx=w2/\qA (c=(m2 && (!m1 || decide (n2<n1)))))
     case first=>
      cases m2
      .go_wp2_with fail
       go_meet
       exact⟨false,rfl,rfl,rfl⟩
      .cases m1
       .go_wp2_with fail
        go_meet
        exact⟨true,rfl,rfl,rfl⟩
       .go_wp2_with fail
        go_meet
        exact⟨_,rfl,rfl,by simp[qA]⟩
     case rest=>
      obtain⟨c,rfl,rfl,C⟩:=hcut;cases c with
      | true=>
        have hm:m2=true/\kv (ye a y) (ye b y)=some n2:=by
         have:=C.o;rw[ah.o,ai.o,aj.o,ak.o];cases m2<;>cases m1<;>simp[kv]at this⊢;omega
        obtain⟨rfl,N⟩:=hm;have N:=qL N;have aX:qA (ye b y=some n2):=(by show _=_;rw[ai.o,ak.o];rfl);clear C aj ak ah ai;have aI:y<n2/\n2<zk:=(by have h:=aX.o;exact⟨xr h,vJ hb h⟩);obtain⟨Q,rfl⟩:∃Q,f=Q+1:=⟨f-1,a8⟩;have E:qA (QU a b (Q+1) y=(⟨y,n2-1⟩,pa,pb)::QU a b Q n2):=by
         show QU a b (Q+1) y=_
         conv=>lhs;unfold QU
         rw[N.o,aR.o,aS.o]
        obtain⟨fn,aQ,ao,aP,hy,hR⟩:=HY.o pre (⟨y,n2-1⟩,pa,pb) wc aT ⟨QU a b Q n2,by rw[X.o,E.o];simp⟩;dsimp only[za1]at hy;have be:IntKind.u64.wrap ((n2:Int)-1)=((n2-1:Nat):Int):=Zj a8 aI.2;obtain⟨y1,an⟩:=xm (n2-1);rw[<-an]at hy be hR;have ay:=qL an;clear an;go_upto_region 13 with fail;refine(Tv (n:=8)).1 ?_
        gi_wp2
        refine hR.mono ?_;rintro e w3 (⟨rfl,aA,aK⟩|⟨rfl,ac⟩)
        .gi_wp2
         go_wp2;go_roundg (zk-n2);case measure=>omega
         case rel=>exact⟨n2,Q,a2,b2,P,Z,pre++[(⟨y,y1⟩,pa,pb)],rfl,aI.2,rfl,bn.at aK br (λk hk h=>h hk) a8,by show yO a b=_;rw[X.o,E.o,ay.o];simp,a8,aA⟩
        .gi_wp2
         go_wp2;refine tz (tL rfl _ _ _) rfl ?_;exact⟨⟨_,rfl⟩,.inr ⟨pre++[(⟨y,y1⟩,pa,pb)],⟨QU a b Q n2,by rw[X.o,E.o,ay.o];simp⟩,ac⟩⟩
      | false=>
        cases m1 with
        | true=>
          have N:qA (kv (ye a y) (ye b y)=some n1):=by
           have:=C.o;show _=_;rw[ah.o,ai.o,aj.o,ak.o];cases m2<;>simp[kv]at this⊢;omega
          have aX:qA (ye a y=some n1):=(by show _=_;rw[ah.o,aj.o];rfl);clear C aj ak ah ai;have aI:y<n1/\n1<zk:=(by have h:=aX.o;exact⟨xr h,vJ ha h⟩);obtain⟨Q,rfl⟩:∃Q,f=Q+1:=⟨f-1,a8⟩;have E:qA (QU a b (Q+1) y=(⟨y,n1-1⟩,pa,pb)::QU a b Q n1):=by
           show QU a b (Q+1) y=_
           conv=>lhs;unfold QU
           rw[N.o,aR.o,aS.o]
          obtain⟨fn,aQ,ao,aP,hy,hR⟩:=HY.o pre (⟨y,n1-1⟩,pa,pb) wc aT ⟨QU a b Q n1,by rw[X.o,E.o];simp⟩;dsimp only[za1]at hy;have be:IntKind.u64.wrap ((n1:Int)-1)=((n1-1:Nat):Int):=Zj a8 aI.2;obtain⟨y1,an⟩:=xm (n1-1);rw[<-an]at hy be hR;have ay:=qL an;clear an;go_upto_region 13 with fail;refine(Tv (n:=8)).1 ?_
          gi_wp2
          refine hR.mono ?_;rintro e w3 (⟨rfl,aA,aK⟩|⟨rfl,ac⟩)
          .gi_wp2
           go_wp2;go_roundg (zk-n1);case measure=>omega
           case rel=>exact⟨n1,Q,a2,b2,P,Z,pre++[(⟨y,y1⟩,pa,pb)],rfl,aI.2,rfl,bn.at aK br (λk hk h=>h hk) a8,by show yO a b=_;rw[X.o,E.o,ay.o];simp,a8,aA⟩
          .gi_wp2
           go_wp2;refine tz (tL rfl _ _ _) rfl ?_;exact⟨⟨_,rfl⟩,.inr ⟨pre++[(⟨y,y1⟩,pa,pb)],⟨QU a b Q n1,by rw[X.o,E.o,ay.o];simp⟩,ac⟩⟩
        | false=>
          have N:qA (kv (ye a y) (ye b y)=none):=by
           have:=C.o;show _=_;rw[ah.o,ai.o,aj.o,ak.o];cases m2<;>simp[kv]at this⊢
          clear C aj ak ah ai;obtain⟨Q,rfl⟩:∃Q,f=Q+1:=⟨f-1,a8⟩;have E:qA (QU a b (Q+1) y=[(⟨y,zk-1⟩,pa,pb)]):=by
           show QU a b (Q+1) y=_
           conv=>lhs;unfold QU
           rw[N.o,aR.o,aS.o]
          obtain⟨fn,aQ,ao,aP,hy,hR⟩:=HY.o pre (⟨y,zk-1⟩,pa,pb) wc aT ⟨[],by rw[X.o,E.o];simp⟩;dsimp only[za1]at hy;rw[show ((zk-1:Nat):Int)=18446744073709551615 from rfl]at hy;go_upto_region 13 with fail;refine(Tv (n:=8)).1 ?_
          gi_wp2
          refine hR.mono ?_;rintro e w3 (⟨rfl,aA,aK⟩|⟨rfl,ac⟩)
          .gi_wp2
           go_wp2;refine tz (tL rfl _ _ _) rfl ?_;exact⟨⟨_,rfl⟩,.inl (by rw[X.o,E.o];exact aA)⟩
          .gi_wp2
           go_wp2;refine tz (tL rfl _ _ _) rfl ?_;exact⟨⟨_,rfl⟩,.inr ⟨pre++[(⟨y,zk-1⟩,pa,pb)],⟨[],by rw[X.o,E.o];simp⟩,ac⟩⟩
attribute [local go_sem] Oper.semAt_some
def Jd(l:List Iv):List Nat:=l.flatMap λs=>[s.lo,s.hi+1]
def ZY(l:List Iv):(Jd l).length=2*l.length:=by
 induction l with
 |nil=>rfl
 |cons s l ih=>simp[Jd]at ih⊢;omega
def zah{l:List Iv}{x y:Nat}(h:ye l x=some y):y∈Jd l:=by
 induction l with
 |nil=>cases h
 | cons s l ih=>
   unfold ye at h;split at h
   .cases h;simp[Jd]
   .split at h
    .cases h;simp[Jd]
    .have:=ih h;simp[Jd]at this⊢;exact .inr (.inr this)
def YV(l:List Nat)(x:Nat):Nat:=l.countP λy=>decide (x<y)
def ZX(l:List Nat){x y:Nat}(h:x<y):YV l y<=YV l x:=by
 unfold YV;exact List.countP_mono_left λz _ hz=>by simp at hz⊢;omega
def zcr{l:List Nat}{x y:Nat}(h:x<y)(j:y∈l):YV l y+1<=YV l x:=by
 induction l with
 |nil=>cases j
 | cons z l ih=>
   unfold YV;rw[List.countP_cons,List.countP_cons];rcases wh.1 j with rfl|j
   .have:=ZX l h;unfold YV at this;simp[h];omega
   .have:=ih j;unfold YV at this;by_cases u:y<z
    .have w:x<z:=a8;simp[u,w];omega
    .simp[u];omega
def Qs(a b:List Iv):∀(f x:Nat),(QU a b f x).length<=YV (Jd a) x+YV (Jd b) x+1
 |0,_=>X3 _
 | f+1,x=>by
   unfold QU;cases h:kv (ye a x) (ye b x)with
   |none=>simp
   | some y=>
     have ih:=Qs a b f y;have:YV (Jd a) y+YV (Jd b) y+1<=YV (Jd a) x+YV (Jd b) x:=by
      have j:ye a x=some y\/ye b x=some y:=by
       cases ea:ye a x<;>cases eb:ye b x<;>rw[ea,eb]at h<;>simp only[kv]at h
       .cases h
       .exact .inr h
       .exact .inl h
       .split at h
        .exact .inr h
        .exact .inl h
      rcases j with h|h
      .have:=zcr (xr h) (zah h);have:=ZX (Jd b) (xr h);omega
      .have:=zcr (xr h) (zah h);have:=ZX (Jd a) (xr h);omega
     simp;omega
def jF(a b:List Iv):(yO a b).length<=2*(a.length+b.length)+1:=by
 have j:=Qs a b zk 0;have u:YV (Jd a) 0<=2*a.length:=by rw[<-ZY];exact U6
 have w:YV (Jd b) 0<=2*b.length:=by rw[<-ZY];exact U6
 unfold yO;omega
def J9(j:List Iv)(s:Iv):(Q8 j s).length<=j.length+1:=by
 unfold Q8;split
 .simp
 .rename_i t ht;split
  .have:j≠[]:=(by intro e;subst e;simp at ht);have:=wW.2 this;simp;try omega
  .simp
def jD(f:Bool->Bool->Bool)(u:List (Iv×Bool×Bool)):∀j:List Iv,(qg f j u).length<=j.length+u.length:=by
 induction u with
 |nil=>intro j;simp[qg]
 | cons x u ih=>
   intro j;obtain⟨s,p,q⟩:=x;simp only[qg];by_cases e:f p q=true
   .have w:=ih (Q8 j s);have y:=J9 j s;rw[vj e];simp only[wy];omega
   .have w:=ih j;rw[Vm e];simp only[wy];omega
def xq{f:Bool->Bool->Bool}{a b:List Iv}:∀(pre:List (Iv×Bool×Bool))(x:Nat)(j:List Iv)(y:Iv×Bool×Bool)(r:List (Iv×Bool×Bool)),Cov a b x (pre++y::r)->Nrm j->(∀t∈j,t.hi<x) ->
 Nrm (qg f j pre)/\(∀t∈qg f j pre,t.hi<y.1.lo)/\y.1.lo<=y.1.hi/\y.1.hi<zk
 |[],x,j,(s,p,q),r,⟨h1,h2,h3,_⟩,ho,ht=>⟨ho,λt h=>by have:=ht t h;show t.hi<s.lo;omega,by show s.lo<=s.hi;omega,h3⟩
 | (s,p,q)::pre,x,j,y,r,⟨h1,h2,h3,_,h5⟩,ho,ht=>by
   simp only[qg];have g:=Xm (s:=s) ho (λt h=>by have:=ht t h;omega) a8 h3;split
   .exact xq pre _ _ y r h5 g.1 λt h=>by have:=g.2.2 t h;omega
   .exact xq pre _ _ y r h5 ho λt h=>by have:=ht t h;omega
def zcT(o:List Iv)(t:Iv)(hi:Nat):(xw (o++[t])).set (o.length*2+1) (.int .u64 hi)=xw (o++[⟨t.lo,hi⟩]):=by rw[vy,vy,List.set_append_right _ _ (by rw[y6];omega),y6];congr 1;rw[show o.length*2+1-o.length*2=1 from by omega];rfl
def OwnR.last{base:Nat}{w:World}{A:Option Addr}{n j:Nat}{o:List Iv}{t:Iv}(h:OwnR base w (.slice A n j) (o++[t])):
 ∃g,base<=g/\A=some ⟨g,0,none⟩/\o.length+1<=j/\j<=maxLen/\w.cell? ⟨g,o.length*2,none⟩=some (.int .u64 t.lo)/\w.cell? ⟨g,o.length*2+1,none⟩=some (.int .u64 t.hi)/\t.lo<zk/\t.hi<zk:=by
 have hb:=h.2 t b6;have u:=h.1;rcases id u.2 with⟨_,F⟩|⟨g,B,E,C,H,J,I,G,_⟩
 .simp at F
 .simp only[Value.slice.injEq]at C;obtain⟨rfl,rfl,rfl⟩:=C;have y:=vz (o++[t]) o.length b6;simp only[List.getElem_concat_length]at y;refine⟨g,H,rfl,dJ I,G,?_,?_,hb⟩
  .rw[u.cellAt _ b6];exact y.1
  .rw[u.cellAt _ a9];exact y.2
def OwnR.setHi{base:Nat}{w:World}{g n j:Nat}{o:List Iv}{t:Iv}(h:OwnR base w (.slice (some ⟨g,0,none⟩) n j) (o++[t]))(C:n=o.length+1)(hi:Nat)(B:hi<zk):
 OwnR base (w.setCell ⟨g,o.length*2+1,none⟩ (.int .u64 hi)) (.slice (some ⟨g,0,none⟩) n j) (o++[⟨t.lo,hi⟩]):=by
 subst C;have A:=h.1;simp only[wk,wy,Wx,wn]at A;have:=(A.stored (o.length*2+1) (.int .u64 hi)).1;rw[zcT]at this;refine⟨dJ this,λu y=>?_⟩;simp at y;rcases y with y|rfl
 .exact h.2 u (by simp[y])
 .exact⟨(h.2 t b6).1,B⟩
def vG(f:Bool->Bool->Bool)(E:Nat)(aX:∀ao w,(callFunc E ao).run xT w=.ok (.enter E ao) w)
 (aT:∀p q w,Calls xT E #[.agg #[.bool p,.bool q]] w λe Q=>e=.returned (.bool (f p q))/\Below w.heap.size w Q)
 (a b:List Iv) (va vb:Value) (w:World) (ha:Nrm a) (hb:Nrm b) (ra:RdR 0 w.heap.size w va a) (rb:RdR 0 w.heap.size w vb b) (aY:a.length+b.length<=1073741824) :
 Calls xT 114 #[va,vb,.func (.func E) #[] #[]] w λe Q=>∃v,e=.returned v/\OwnR w.heap.size Q v (qy f a b)/\Below w.heap.size w Q:=by
 obtain⟨aa,ca,rfl,_⟩:=id ra;obtain⟨ab,cb,rfl,_⟩:=id rb;refine callsIn_wide.1 (Ta (n:=9) Tryz.func114 rfl trivial ?_ rfl);simp only[Tryz.ntmps114,WD,wy,Wx,Nat.reduceAdd,Nat.reduceSub,ur,ut,uH,uw,Y1,yb]
 gi_wp2_with (refine⟨trivial,?_⟩;gi_at_call 145;refine(callsIn_wide.2 (Xi _ _ _ _ _ _ _)).mono ?_;rintro e Q ⟨rfl,rfl⟩)
 obtain⟨W0,O⟩:=xt (((((w.alloc (Obj.cells #[Value.func (Fn.func E) #[] #[]] 204)).alloc (Obj.cells #[Value.slice none 0 0] 26)).alloc (Obj.cells #[Value.slice aa a.length ca] 26)).alloc (Obj.cells #[Value.slice ab b.length cb] 26)));have bc:W0.heap.size=w.heap.size+4:=by rw[<-O];simp
 have b0:Boxed W0 w.heap.size 204 (Value.func (Fn.func E) #[] #[]):=by rw[<-O];exact(((tU w _ _).alloc _).alloc _).alloc _
 have b1:Boxed W0 (w.heap.size+1) 26 (Value.slice none 0 0):=by rw[<-O];have:=tU (w.alloc (Obj.cells #[Value.func (Fn.func E) #[] #[]] 204)) 26 (Value.slice none 0 0);rw[tw]at this;exact(this.alloc _).alloc _
 have b2:Boxed W0 (w.heap.size+1+1) 26 (Value.slice aa a.length ca):=by rw[<-O];have:=tU ((w.alloc (Obj.cells #[Value.func (Fn.func E) #[] #[]] 204)).alloc (Obj.cells #[Value.slice none 0 0] 26)) 26 (Value.slice aa a.length ca);simp only[tw]at this;exact this.alloc _
 have b3:Boxed W0 (w.heap.size+1+1+1) 26 (Value.slice ab b.length cb):=by rw[<-O];have:=tU (((w.alloc (Obj.cells #[Value.func (Fn.func E) #[] #[]] 204)).alloc (Obj.cells #[Value.slice none 0 0] 26)).alloc (Obj.cells #[Value.slice aa a.length ca] 26)) 26 (Value.slice ab b.length cb);simp only[tw]at this;exact this
 have ax:Below w.heap.size w W0:=by rw[<-O];exact((((tu _ _).alloc (Zp _) _).alloc b6 _).alloc a9 _).alloc a9 _
 rw [O];clear O;have ag:=j4 ha hb;have aS:=jF a b;refine ziP (w:=W0) 176 #[.pointer (some ⟨w.heap.size+1+1,0,none⟩),.pointer (some ⟨w.heap.size+1+1+1,0,none⟩)] rfl (enters_of Tryz.func176 dK rfl) za1 (λ_=>rfl)
  (λk=>k=w.heap.size+1+1\/k=w.heap.size+1+1+1) (λk=>k<w.heap.size\/k=w.heap.size+1+1\/k=w.heap.size+1+1+1) (yO a b) ?hit
  (λk=>k=w.heap.size+1\/w.heap.size+6<=k) (λk hk=>a8) a8 ⟨a8,a8⟩
  (λpre W=>(∃v,Boxed W (w.heap.size+1) 26 v/\OwnR (w.heap.size+6) W v (qg f [] pre))/\Boxed W w.heap.size 204 (Value.func (Fn.func E) #[] #[])/\Below w.heap.size w W)
  (λ_ _ _=>False) ?hI (λ_ _ _ _ h _=>h) ⟨⟨_,b1,OwnR.nil _ _⟩,b0,ax⟩
  (λpre x a' W=>((∃v,Boxed W (w.heap.size+1) 26 v/\OwnR (w.heap.size+6) W v (qg f [] pre))/\Boxed W w.heap.size 204 (Value.func (Fn.func E) #[] #[])/\Below w.heap.size w W) /\
    ∃L Bs,W.heap[L]?=some (.cells #[.int .u64 x.1.lo,.int .u64 x.1.hi] 58 (0,0))/\W.heap[Bs]?=some (.cells #[.bool x.2.1,.bool x.2.2] 203 (0,0))/\w.heap.size+6<=L/\w.heap.size+6<=Bs /\
    a'={ tmps:=#[Value.slice aa a.length ca,Value.slice ab b.length cb,Value.func (Fn.func E) #[] #[],undef,undef,Value.pointer (some ⟨w.heap.size,0,none⟩),Value.slice none 0 0,Value.pointer (some ⟨w.heap.size+1,0,none⟩),Value.pointer (some ⟨L,0,none⟩),Value.pointer (some ⟨Bs,0,none⟩),undef,Value.slice aa a.length ca,Value.slice ab b.length cb,Value.func (Fn.func 176) #[] #[Value.pointer (some ⟨w.heap.size+1+1,0,none⟩),Value.pointer (some ⟨w.heap.size+1+1+1,0,none⟩)],.agg #[.int .u64 x.1.lo,.int .u64 x.1.hi],.agg #[.bool x.2.1,.bool x.2.2],undef,undef,undef,undef,undef,undef,undef,undef,undef,undef,undef,undef,undef,undef,undef,undef,undef,undef,undef,undef,undef,undef,undef,undef,undef,undef,undef,undef,undef],defers:=[] })
  ?hAx ?hassign ?hbody ?hdone (λ_ _ _ _ h _=>h.elim)
 case hit=>
  intro W hk _;exact J7 a b _ _ (w.heap.size+1+1) (w.heap.size+1+1+1) w.heap.size W ha hb a8 a8 a8
   ⟨hk.boxed b2 id,hk.boxed b3 id,ra.below (ax.trans (hk.below a8 λ_ _=>id)) (Zp _),rb.below (ax.trans (hk.below a8 λ_ _=>id)) (Zp _),Suf.refl _ _,Suf.refl _ _⟩
 case hI=>rintro pre A B ⟨⟨v,h1,h2⟩,h3,T⟩ hk;exact⟨⟨v,hk.boxed h1 a8,h2.keep hk (λg hg=>a8)⟩,hk.boxed h3 a8,T.trans (hk.below T.size λk hk=>a8)⟩
 case hAx=>rintro pre x a' A B ⟨⟨⟨v,h1,h2⟩,h3,T⟩,L,Bs,hp,hs,aF,aG,rfl⟩ hk;exact⟨⟨⟨v,hk.boxed h1 a8,h2.keep hk (λg hg=>a8)⟩,hk.boxed h3 a8,T.trans (hk.below T.size λk hk=>a8)⟩,L,Bs,hk.obj hp a8,hk.obj hs a8,aF,aG,rfl⟩
 case hassign=>
  rintro l pre ⟨⟨lo,hi⟩,p,q⟩ W Z aQ ⟨⟨v,h1,h2⟩,h3,T⟩;clear Z;dsimp only[za1]
  gi_wp2
  have aP:∀o1 o2,Keep (λk=>k=w.heap.size+1\/w.heap.size+6<=k) W ((W.alloc o1).alloc o2):=λo1 o2=>((Keep.refl _ _).alloc _).alloc _;refine⟨aP _ _,⟨⟨v,(h1.alloc _).alloc _,(h2.keep ((Keep.refl qe W).alloc _) λ_ _=>id).keep ((Keep.refl qe _).alloc _) λ_ _=>id⟩,(h3.alloc _).alloc _,(T.alloc T.size _).alloc (by simp;have:=T.size;omega) _⟩,
   W.heap.size,W.heap.size+1,?_,?_,a8,a8,rfl⟩
  .exact(tv _ _ _ b6).trans (tp W _)
  .have:=tp (W.alloc (.cells #[.int .u64 lo,.int .u64 hi] 58)) (.cells #[.bool p,.bool q] 203)
   rwa[tw]at this
 case hbody=>
  rintro l pre x a' W ⟨r,Z⟩ aQ ⟨⟨⟨v,h1,h2⟩,h3,T⟩,L,Bs,hp,hs,aF,aG,rfl⟩;obtain⟨⟨lo,hi⟩,p,q⟩:=x;obtain⟨m1,m2,m3,m4⟩:=xq (f:=f) pre 0 [] (⟨lo,hi⟩,p,q) r (by rw[show pre++(⟨lo,hi⟩,p,q)::r=yO a b from by rw[<-Z];simp];exact ag) trivial (λ_ h=>by cases h);have aR:=jD f pre [];have ba:pre.length+1<=(yO a b).length:=(by rw[<-Z];simp);have c3:=h3.cell;have aL:W.cell? ⟨Bs,0,none⟩=some (.bool p):=(by simp[World.cell?,hs]);have aM:W.cell? ⟨Bs,1,none⟩=some (.bool q):=(by simp[World.cell?,hs]);obtain⟨i0,aB,aI,aJ,aK⟩:=tQ Tryz.infoIv;have HM:=qL (And.intro Z (And.intro ag (And.intro aS (And.intro m1 (And.intro m2 m3)))));dsimp only at m3 m4;clear Z ag m1 m2 hs
  gi_wp2_with fail
  refine⟨trivial,CallsIn.mono (T1 l (callsIn_wide.2 (aT p q W))) ?_⟩;rintro e W1 ⟨rfl,ay⟩;have Y:Keep qe W W1:=Keep.of_below' ay (Zp _);have N:=Y.boxed h1 id;have af:=h2.keep Y λ_ _=>id;have V:=Y.boxed h3 id;have J:=T.trans (ay.mono T.size);have aE:=Y.obj hp id;have au:w.heap.size+6<=W1.heap.size:=(by have:=Y.size;omega);have ai:=qL Y;clear ay Y h1 h2 h3 T hp c3 aL aM;obtain⟨az,ah⟩:=xm (qg f [] pre);rw[<-ah]at af aR;have HO:=qL ah;clear ah;have c1:=N.cell;have U:W1.cell? ⟨L,0,none⟩=some (.int .u64 lo):=(by simp[World.cell?,aE]);have M:W1.cell? ⟨L,1,none⟩=some (.int .u64 hi):=(by simp[World.cell?,aE]);cases ht:f p q with
  | false=>
    have HT:=qL ht
    gi_wp2
    exact⟨ai.o.mono λ_ _ h=>h.elim,⟨v,N,by rw[yf];simp only[qg,HT.o,<-HO.o];exact af⟩,V,J⟩
  | true=>
    have HT:=qL ht;obtain⟨ad,aj,rfl⟩:=af.val;have HH:=qL af;clear af;rcases Ut az with rfl|⟨F,t,rfl⟩
    .gi_wp2_with fail
     refine Kh (Sw:=qe) (λ_=>trivial) 11 45 (λ_=>True) dK dK rfl trivial ?_;simp only[wP,Wb];repeat (first
      |(refine V5 (λ_=>trivial) ?_ rfl (λa w I _ H=>?_) ?_;rotate_left;(simp[Rds,zA,lk,Op.operands,Call.operands,RdEq]at H;go_simp;with_reducible rfl);simp only[Y1,yb])
      |(refine jI rfl ?_ ?_;(first|exact .inl (zG rfl rfl)|exact .inr (zG rfl rfl));simp only[Y1,yb])
      |(refine QQ (λ_=>trivial) rfl ?_ ?_ (λa w I _ H=>?_) ?_;exact(zG rfl rfl);rotate_left;(simp[Rds,zA,lk,Op.operands,Call.operands,RdEq]at H;go_simp;with_reducible rfl);simp only[Y1,yb]))
     intro C _ P;simp only[finG,WR,Y1,yb,wN,Wh,WS];simp only[Act.put,wB,wS,wT];have j:Keep qe W1 C:=((Keep.refl qe W1).drew).trans P;have e1:=j.boxed N id;have e3:=j.boxed V id;have e4:=J.trans (j.below J.size λ_ _=>id);have eo:=(HH.o).keep j λ_ _=>id;have S:=qL (And.intro eo (And.intro e3 e4));have d1:=e1.cell;have d2:C.cell? ⟨L,0,none⟩=some (.int .u64 lo):=j.cell_some U id;have d3:C.cell? ⟨L,1,none⟩=some (.int .u64 hi):=j.cell_some M id;have aD:w.heap.size+6<=C.heap.size:=V0 au j.size;have ae:=qL j;clear P j e3 e4 eo c1 U M N V J
     gi_wp2_with (gi_at_builtin;go_loud (refine TA _ rfl _ _ 26 rfl (w.heap.size+6) 58 i0 (.agg #[.int .u64 0,.int .u64 0]) 2 16 Tryz.underlying26 aB aI aJ aK rfl b8 _ _ _ rfl (S.o.1.1.alloc _) ⟨C.heap.size,0,none⟩ 1 1 [.int .u64 lo,.int .u64 hi] rfl rfl (kw (cs:=#[.int .u64 lo,.int .u64 hi]) (t := 58) (fr:=(0,0)) (tp C _)) dG (by unfold maxLen;first|decide|omega) (by first|decide|omega) (by rw[tw];omega) ?_);intro v' w3 G X _;obtain⟨g',aA,rfl⟩:=TW G;obtain⟨q1,q2,q3,q4⟩:=qO e1 b8 S.o.1.1 G X;have aU:=q1.cell;have aV:=q1.frozen)
     refine⟨((ai.o.trans ae.o).mono λ_ _ h=>h.elim).trans (q4.mono λk _ h=>h),⟨_,q2,?_⟩,q4.boxed S.o.2.1 a8,S.o.2.2.trans (q4.below S.o.2.2.size λk _=>a8)⟩;rw[yf];simp only[qg,HT.o,UL,<-HO.o];exact S.o.1.snoc ⟨by show lo<zk;omega,by show hi<zk;omega⟩ q3
    .simp only[Uu,wk,wy,Wx,wn]at *;obtain⟨g,aO,rfl,aW,aN,aq,ar,be⟩:=HH.o.last;have an:t.lo<=t.hi/\t.hi<zk:=by have:=NF.lo_ge HM.o.2.2.2.1 t (by rw[<-HO.o];simp);exact⟨this.2.1,this.2.2⟩
     have aH:t.hi<lo:=HM.o.2.2.2.2.1 t (by rw[<-HO.o];simp);have aw:W1.cell? ⟨g,F.length*2,none⟩=some (.int .u64 t.lo):=aq;have ak:W1.cell? ⟨g,F.length*2+1,none⟩=some (.int .u64 t.hi):=ar;clear aq ar;unfold maxLen at aN;have aZ:((F.length:Nat):Int)<(F.length:Int)+1:=a8
     gi_wp2_with fail
     by_cases ac:t.hi+1=lo
     .have hrel:(((relate t ⟨lo,hi⟩:Nat):Int) == 1)=true:=(by have:relate t ⟨lo,hi⟩=1:=(by unfold relate;rw[vj aH,vj ac]);rw[this];rfl);have av:=qL ac;clear ac;refine Kh (Sw:=qe) (λ_=>trivial) 11 45 (λQ=>Q.cell? ⟨w.heap.size+1,0,none⟩=some (.slice (some ⟨g,0,none⟩) (F.length+1) aj)/\Q.cell? ⟨g,F.length*2,none⟩=some (.int .u64 t.lo)/\Q.cell? ⟨g,F.length*2+1,none⟩=some (.int .u64 t.hi)/\Q.cell? ⟨L,0,none⟩=some (.int .u64 lo)/\Q.cell? ⟨L,1,none⟩=some (.int .u64 hi)) dK dK rfl ⟨c1,aw,ak,U,M⟩ ?_;simp only[wP,Wb];repeat (first
       |(refine V5 (λ_=>trivial) ?_ rfl (λa w I _ H=>?_) ?_;rotate_left;(simp[Rds,zA,lk,Op.operands,Call.operands,RdEq]at H;go_simp;with_reducible rfl);simp only[Y1,yb])
       |(refine jI rfl ?_ ?_;(first|exact .inl (zG rfl rfl)|exact .inr (zG rfl rfl));simp only[Y1,yb])
       |(refine QQ (λ_=>trivial) rfl ?_ ?_ (λa w I _ H=>?_) ?_;exact(zG rfl rfl);rotate_left;(simp[Rds,zA,lk,Op.operands,Call.operands,RdEq]at H;go_simp;with_reducible rfl);simp only[Y1,yb]))
      refine zhg (λu _=>u=.int .i64 ((relate t ⟨lo,hi⟩:Nat):Int)) (yj _) rfl (zG rfl rfl) ?_ ?_
      .intro a2 C I hk H K hK;have HK:=qL hK;clear hK;simp[Rds,zA,lk,Op.operands,Call.operands,RdEq]at H;refine⟨λ_ _=>trivial,?_⟩;go_simp;refine CallsIn.mono (T1 l (callsIn_wide.2 (QF t ⟨lo,hi⟩ _ an.1 (by show lo<=hi;omega) an.2 (by show hi<zk;omega)))) ?_;rintro e w3 ⟨rfl,hb⟩;have y:Keep qe C w3:=Keep.of_below' hb (Zp _);exact HK.o _ _ y ⟨y.cell_some I.1 id,y.cell_some I.2.1 id,y.cell_some I.2.2.1 id,y.cell_some I.2.2.2.1 id,y.cell_some I.2.2.2.2 id⟩ rfl
      simp only[Y1,yb];repeat (first
       |(refine V5 (λ_=>trivial) ?_ rfl (λa w I _ H=>?_) ?_;rotate_left;(simp[Rds,zA,lk,Op.operands,Call.operands,RdEq]at H;go_simp;with_reducible rfl);simp only[Y1,yb])
       |(refine jI rfl ?_ ?_;(first|exact .inl (zG rfl rfl)|exact .inr (zG rfl rfl));simp only[Y1,yb])
       |(refine QQ (λ_=>trivial) rfl ?_ ?_ (λa w I _ H=>?_) ?_;exact(zG rfl rfl);rotate_left;(simp[Rds,zA,lk,Op.operands,Call.operands,RdEq]at H;go_simp;with_reducible rfl);simp only[Y1,yb]))
      intro C _ P;simp only[finG,WR,Y1,yb,wN,Wh,WS];simp only[Act.put,wB,wS,wT];have j:Keep qe W1 C:=((Keep.refl qe W1).drew).trans P;have e1:=j.boxed N id;have e3:=j.boxed V id;have e4:=J.trans (j.below J.size λ_ _=>id);have eo:=(HH.o).keep j λ_ _=>id;have er:C.ownsRow (w.heap.size+6) 58 2 (.slice (some ⟨g,0,none⟩) (F.length+1) aj) (F.length+1) (xw (F++[t])):=(by have:=eo.1;simpa using this);have ER:=qL er;have S:=qL (And.intro eo (And.intro e3 e4));have d1:=e1.cell;have d3:C.cell? ⟨L,1,none⟩=some (.int .u64 hi):=j.cell_some M id;have d4:C.cell? ⟨g,F.length*2+1,none⟩=some (.int .u64 t.hi):=j.cell_some ak id;have d5:C.frozen? ⟨g,F.length*2+1,none⟩=false:=er.frozenAt _;have ae:=qL j;clear P j e3 e4 eo er c1 U M aw ak N V J
      gi_wp2
      have am:Keep (λk=>k=g) C (C.setCell ⟨g,F.length*2+1,none⟩ (.int .u64 hi)):=(Keep.refl (λk=>k=g) C).setCell (p:=⟨g,F.length*2+1,none⟩) (λ_=>rfl) _;refine⟨((ai.o.trans ae.o).mono λ_ _ h=>h.elim).trans (am.mono λk _ h=>.inr (by rw[h];exact aO)),⟨_,am.boxed e1 a8,?_⟩,am.boxed S.o.2.1 a8,S.o.2.2.trans (am.below S.o.2.2.size λk hk=>a8)⟩;rw[yf];simp only[qg,HT.o,UL,<-HO.o];rw[show Q8 (F++[t]) ⟨lo,hi⟩=F++[⟨t.lo,hi⟩] from by unfold Q8;rw[uX];simp only;rw[vj av.o,tb]];exact S.o.1.setHi rfl hi a8
     .have hrel:(((relate t ⟨lo,hi⟩:Nat):Int) == 1)=false:=(by have:relate t ⟨lo,hi⟩=0:=(by unfold relate;rw[vj aH,Vm ac]);rw[this];rfl);have av:=qL ac;clear ac;refine Kh (Sw:=qe) (λ_=>trivial) 11 45 (λQ=>Q.cell? ⟨w.heap.size+1,0,none⟩=some (.slice (some ⟨g,0,none⟩) (F.length+1) aj)/\Q.cell? ⟨g,F.length*2,none⟩=some (.int .u64 t.lo)/\Q.cell? ⟨g,F.length*2+1,none⟩=some (.int .u64 t.hi)/\Q.cell? ⟨L,0,none⟩=some (.int .u64 lo)/\Q.cell? ⟨L,1,none⟩=some (.int .u64 hi)) dK dK rfl ⟨c1,aw,ak,U,M⟩ ?_;simp only[wP,Wb];repeat (first
       |(refine V5 (λ_=>trivial) ?_ rfl (λa w I _ H=>?_) ?_;rotate_left;(simp[Rds,zA,lk,Op.operands,Call.operands,RdEq]at H;go_simp;with_reducible rfl);simp only[Y1,yb])
       |(refine jI rfl ?_ ?_;(first|exact .inl (zG rfl rfl)|exact .inr (zG rfl rfl));simp only[Y1,yb])
       |(refine QQ (λ_=>trivial) rfl ?_ ?_ (λa w I _ H=>?_) ?_;exact(zG rfl rfl);rotate_left;(simp[Rds,zA,lk,Op.operands,Call.operands,RdEq]at H;go_simp;with_reducible rfl);simp only[Y1,yb]))
      refine zhg (λu _=>u=.int .i64 ((relate t ⟨lo,hi⟩:Nat):Int)) (yj _) rfl (zG rfl rfl) ?_ ?_
      .intro a2 C I hk H K hK;have HK:=qL hK;clear hK;simp[Rds,zA,lk,Op.operands,Call.operands,RdEq]at H;refine⟨λ_ _=>trivial,?_⟩;go_simp;refine CallsIn.mono (T1 l (callsIn_wide.2 (QF t ⟨lo,hi⟩ _ an.1 (by show lo<=hi;omega) an.2 (by show hi<zk;omega)))) ?_;rintro e w3 ⟨rfl,hb⟩;have y:Keep qe C w3:=Keep.of_below' hb (Zp _);exact HK.o _ _ y ⟨y.cell_some I.1 id,y.cell_some I.2.1 id,y.cell_some I.2.2.1 id,y.cell_some I.2.2.2.1 id,y.cell_some I.2.2.2.2 id⟩ rfl
      simp only[Y1,yb];repeat (first
       |(refine V5 (λ_=>trivial) ?_ rfl (λa w I _ H=>?_) ?_;rotate_left;(simp[Rds,zA,lk,Op.operands,Call.operands,RdEq]at H;go_simp;with_reducible rfl);simp only[Y1,yb])
       |(refine jI rfl ?_ ?_;(first|exact .inl (zG rfl rfl)|exact .inr (zG rfl rfl));simp only[Y1,yb])
       |(refine QQ (λ_=>trivial) rfl ?_ ?_ (λa w I _ H=>?_) ?_;exact(zG rfl rfl);rotate_left;(simp[Rds,zA,lk,Op.operands,Call.operands,RdEq]at H;go_simp;with_reducible rfl);simp only[Y1,yb]))
      intro C _ P;simp only[finG,WR,Y1,yb,wN,Wh,WS];simp only[Act.put,wB,wS,wT];have j:Keep qe W1 C:=((Keep.refl qe W1).drew).trans P;have e1:=j.boxed N id;have e3:=j.boxed V id;have e4:=J.trans (j.below J.size λ_ _=>id);have eo:=(HH.o).keep j λ_ _=>id;have er:C.ownsRow (w.heap.size+6) 58 2 (.slice (some ⟨g,0,none⟩) (F.length+1) aj) (F.length+1) (xw (F++[t])):=(by have:=eo.1;simpa using this);have ER:=qL er;have S:=qL (And.intro eo (And.intro e3 e4));have d1:=e1.cell;have d2:C.cell? ⟨L,0,none⟩=some (.int .u64 lo):=j.cell_some U id;have d3:C.cell? ⟨L,1,none⟩=some (.int .u64 hi):=j.cell_some M id;have aD:w.heap.size+6<=C.heap.size:=V0 au j.size;have ae:=qL j;clear P j e3 e4 eo er c1 U M N V J
      gi_wp2_with (gi_at_builtin;go_loud (refine TA _ rfl _ _ 26 rfl (w.heap.size+6) 58 i0 (.agg #[.int .u64 0,.int .u64 0]) 2 16 Tryz.underlying26 aB aI aJ aK rfl b8 _ _ _ rfl (ER.o.alloc _) ⟨C.heap.size,0,none⟩ 1 1 [.int .u64 lo,.int .u64 hi] rfl rfl (kw (cs:=#[.int .u64 lo,.int .u64 hi]) (t := 58) (fr:=(0,0)) (tp C _)) dG (by unfold maxLen;first|decide|omega) (by first|decide|omega) (by rw[tw];omega) ?_);intro v' w3 G X _;obtain⟨g',aA,rfl⟩:=TW G;obtain⟨q1,q2,q3,q4⟩:=qO e1 b8 ER.o G X;have aU:=q1.cell;have aV:=q1.frozen)
      refine⟨((ai.o.trans ae.o).mono λ_ _ h=>h.elim).trans (q4.mono λk _ h=>h),⟨_,q2,?_⟩,q4.boxed S.o.2.1 a8,S.o.2.2.trans (q4.below S.o.2.2.size λk _=>a8)⟩;rw[yf];simp only[qg,HT.o,UL,<-HO.o];rw[show Q8 (F++[t]) ⟨lo,hi⟩=F++[t]++[⟨lo,hi⟩] from by unfold Q8;rw[uX];simp only;rw[Vm av.o]];exact S.o.1.snoc ⟨by show lo<zk;omega,by show hi<zk;omega⟩ (dJ q3)
 case hdone=>
  rintro W ⟨⟨v,h1,h2⟩,h3,T⟩ hD;have I:=h1.cell
  gi_wp2
  refine⟨b6,.inl ⟨_,_,rfl,Tc hD,?_⟩⟩;have aC:Keep (λk=>k=W0.heap.size) W (W.putObj W0.heap.size (.deferred none)):=(Keep.refl (λk=>k=W0.heap.size) W).putObj (λ_=>rfl) _;exact⟨_,tK rfl _ _ _,v,rfl,(h2.keep aC λg hg=>a8).mono a8,T.trans (aC.below T.size λk hk=>a8)⟩
attribute [local go_sem] Oper.semAt_some
def zn(p q:Bool):Bool:=p || q
def fMeet(p q:Bool):Bool:=p && q
def zm(p q:Bool):Bool:=p && !q
def V4(a b:List Iv)(u y:Value)(w:World)(E:Nrm a)(hb:Nrm b)(ra:RdR 0 w.heap.size w u a)(rb:RdR 0 w.heap.size w y b)(j:a.length+b.length<=1073741824):
 Calls xT 121 #[u,y] w λe A=>∃v,e=.returned v/\OwnR w.heap.size A v (qy zn a b)/\Below w.heap.size w A:=by
 have B:=vG zn 154 (enters_of Tryz.func154 dK rfl) Kq a b u y w E hb ra rb j;have C:=qL B;clear B;obtain⟨F,H,rfl,_⟩:=ra;obtain⟨G,I,rfl,_⟩:=rb;go_enter Tryz.func121,Tryz.ntmps121
 go_wp2_with (go_at_call 114;refine C.o.mono ?_;rintro e A ⟨v,rfl,J,hb⟩)
 go_ret;exact⟨_,rfl,‹_›,‹_›⟩
def JW(a b:List Iv)(u y:Value)(w:World)(E:Nrm a)(hb:Nrm b)(ra:RdR 0 w.heap.size w u a)(rb:RdR 0 w.heap.size w y b)(j:a.length+b.length<=1073741824):
 Calls xT 82 #[u,y] w λe A=>∃v,e=.returned v/\OwnR w.heap.size A v (qy fMeet a b)/\Below w.heap.size w A:=by
 have B:=vG fMeet 115 (enters_of Tryz.func115 dK rfl) zbP a b u y w E hb ra rb j;have C:=qL B;clear B;obtain⟨F,H,rfl,_⟩:=ra;obtain⟨G,I,rfl,_⟩:=rb;go_enter Tryz.func82,Tryz.ntmps82
 go_wp2_with (go_at_call 114;refine C.o.mono ?_;rintro e A ⟨v,rfl,J,hb⟩)
 go_ret;exact⟨_,rfl,‹_›,‹_›⟩
def Zu(a b:List Iv)(u y:Value)(w:World)(E:Nrm a)(hb:Nrm b)(ra:RdR 0 w.heap.size w u a)(rb:RdR 0 w.heap.size w y b)(j:a.length+b.length<=1073741824):
 Calls xT 175 #[u,y] w λe A=>∃v,e=.returned v/\OwnR w.heap.size A v (qy zm a b)/\Below w.heap.size w A:=by
 have B:=vG zm 195 (enters_of Tryz.func195 dK rfl) Kp a b u y w E hb ra rb j;have C:=qL B;clear B;obtain⟨F,H,rfl,_⟩:=ra;obtain⟨G,I,rfl,_⟩:=rb;go_enter Tryz.func175,Tryz.ntmps175
 go_wp2_with (go_at_call 114;refine C.o.mono ?_;rintro e A ⟨v,rfl,J,hb⟩)
 go_ret;exact⟨_,rfl,‹_›,‹_›⟩
def ziL{w:World}{B:Nat}{s:Iv}(h:w.heap[B]?=some (.cells #[.int .u64 s.lo,.int .u64 s.hi] 58 (0,0)))(j:s.lo<zk)(u:s.hi<zk):RdR 0 w.heap.size w (.slice (some ⟨B,0,none⟩) 1 1) [s]:=by
 refine⟨_,1,rfl,b6,b8,λ_=>⟨B,0,rfl,X3 _,(XE.1 h).1,λi hi=>?_⟩⟩;obtain rfl:i=0:=dJ hi
 exact⟨by simp[World.cell?,h],by simp[World.cell?,h],j,u⟩
def zbn(a:List Iv)(C:Value)(s:Iv)(w:World)(F:Nrm a)(hs:s.lo<=s.hi)(y:s.hi<zk)(ra:RdR 0 w.heap.size w C a)(B:a.length<=1073741823):
 Calls xT 143 #[C,.agg #[.int .u64 s.lo,.int .u64 s.hi]] w λe E=>∃v,e=.returned v/\OwnR w.heap.size E v (qy zm [s] a)/\Below w.heap.size w E:=by
 obtain⟨I,J,rfl,_⟩:=id ra;go_enter Tryz.func143,Tryz.ntmps143
 go_wp2_with fail
 obtain⟨A,u⟩:=xt (((w.alloc (Obj.cells #[Value.int IntKind.u64 s.lo,Value.int IntKind.u64 s.hi] 58)).alloc (Obj.cells #[Value.int IntKind.u64 s.lo,Value.int IntKind.u64 s.hi] 58)));have j:Below w.heap.size w A:=by rw[<-u];exact((tu _ _).alloc (Zp _) _).alloc b6 _
 have G:A.heap[w.heap.size+1]?=some (.cells #[.int .u64 s.lo,.int .u64 s.hi] 58 (0,0)):=by
  rw[<-u];have:=tp (w.alloc (Obj.cells #[Value.int IntKind.u64 s.lo,Value.int IntKind.u64 s.hi] 58)) (Obj.cells #[Value.int IntKind.u64 s.lo,Value.int IntKind.u64 s.hi] 58);rwa[tw]at this
 rw[u];clear u;refine(Zu [s] a _ _ A ⟨X3 _,hs,y,trivial⟩ F (ziL G a8 y) ((ra.below j (Zp _)).keep (Zp _) j.size λ_ _ _=>rfl) a9).mono ?_;rintro e K ⟨v,rfl,H,hb⟩
 go_wp2;go_ret;exact⟨_,rfl,H.mono j.size,j.trans (hb.mono j.size)⟩
end
section
def xR(f:Bool->Bool->Bool)(a b:List Iv):(qy f a b).length<=2*(a.length+b.length)+1:=V0 (jD f _ _) (by simpa using jF a b)
structure En where
 rep:Nat
 max:Nat
 holes:List Iv
deriving DecidableEq
def En.ext'{e f:En}(j:e.rep=f.rep)(u:e.max=f.max)(w:e.holes=f.holes):e=f:=by cases e;cases f;simp_all
def zO(e:En):Prop:=Nrm e.holes/\(∀s∈e.holes,s.hi<=e.max)/\e.max<zk/\e.rep<zk
def qG{m n:Nat}(h:m<=n)(j:n<zk):Nrm [⟨m,n⟩]:=⟨X3 _,h,j,trivial⟩
def jl(m n x:Nat):mem [⟨m,n⟩] x=(decide (m<=x) && decide (x<=n)):=by simp[mem]
def kn(e:En):List Iv:=qy zm [⟨0,e.max⟩] e.holes
def qT{e:En}(h:zO e):Nrm (kn e):=qH (qG (X3 _) h.2.2.1) h.1
def vC{e:En}(h:zO e){x:Nat}(j:x<zk):mem (kn e) x=(decide (x<=e.max) && !mem e.holes x):=by unfold kn;rw[qj (qG (X3 _) h.2.2.1) h.1 j,jl];simp[zm]
def QV(l:List Iv):Nat:=match l.getLast? with
 |some s=>s.hi
 |none=>0
def Kr{l:List Iv}(h:0<l.length):l[l.length-1].hi=QV l:=by unfold QV;rw[UT,Zv a8]
def x9{l:List Iv}(u:Nrm l)(h:l≠[]):mem l (QV l)=true/\QV l<zk:=by have j:0<l.length:=wW.2 h;have:=NF.lo_ge u l[l.length-1] (Yf _);rw[<-Kr j];exact⟨qf.2 ⟨_,Yf _,this.2.1,Zp _⟩,this.2.2⟩
def zek{l:List Iv}(u:Nrm l){x:Nat}(y:mem l x=true):x<=QV l:=by
 obtain⟨s,hs,A,w⟩:=qf.1 y;have j:l≠[]:=by intro e;subst e;cases hs
 obtain⟨k,t,rfl⟩:=Ut l |>.resolve_left j;unfold QV;rw[Uu]at *;rw[uX];rcases wE.1 hs with h|h
 .have:=u.last_lt s h;have:=(NF.lo_ge u t b6).2.1;simp only;omega
 .simp at h;subst h;exact w
def Qi(r:Nat)(l:List Iv):En×Bool:=if l=[] then (⟨0,0,[]⟩,false) else (⟨r,QV l,qy zm [⟨0,QV l⟩] l⟩,true)
def qD{r:Nat}{l:List Iv}(h:l≠[]):Qi r l=(⟨r,QV l,qy zm [⟨0,QV l⟩] l⟩,true):=Vm h
def zaj(r:Nat)(l:List Iv):(Qi r l).2=decide (l≠[]):=by
 unfold Qi;split
 .rename_i h;simp[h]
 .rename_i h;simp[h]
def k9{r:Nat}{l:List Iv}(A:r<zk)(u:Nrm l):zO (Qi r l).1:=by
 by_cases h:l=[]
 .subst h;exact⟨trivial,(λ_ h=>by cases h),xM,xM⟩
 .rw[qD h];have ht:=(x9 u h).2;have y:Nrm (qy zm [⟨0,QV l⟩] l):=qH (qG (X3 _) ht) u;refine⟨y,λs hs=>?_,ht,A⟩;have w:=NF.lo_ge y s hs;have j:mem (qy zm [⟨0,QV l⟩] l) s.hi=true:=qf.2 ⟨s,hs,w.2.1,Zp _⟩;rw[qj (qG (X3 _) ht) u w.2.2,jl]at j;simp[zm]at j;exact j.1
def JO{r:Nat}{l:List Iv}(A:r<zk)(u:Nrm l)(h:l≠[]):kn (Qi r l).1=l:=by
 have w:=k9 A u;refine Nrm.unique (qT w) u λx y=>?_;rw[vC w y];rw[qD h];have ht:=(x9 u h).2;simp only;rw[qj (qG (X3 _) ht) u y,jl];simp only[zm];by_cases j:x<=QV l
 .simp[j]
 .have:mem l x=false:=by
   cases e:mem l x with
   |false=>rfl
   |true=>exact absurd (zek u e) j
  simp[j,this]
def YP(e:En):Prop:=zO e/\∀s∈e.holes,s.hi<e.max
def zeO{e:En}(h:YP e):mem e.holes e.max=false:=by
 cases h':mem e.holes e.max with
 |false=>rfl
 |true=>obtain⟨s,hs,_,j⟩:=qf.1 h';have:=h.2 s hs;omega
def jO{e:En}(h:YP e):kn e≠[]/\QV (kn e)=e.max:=by
 have w:mem (kn e) e.max=true:=by rw[vC h.1 h.1.2.2.1,zeO h];simp
 have j:kn e≠[]:=by intro y;rw[y]at w;cases w
 refine⟨j,?_⟩;have A:=zek (qT h.1) w;have u:=x9 (qT h.1) j;rw[vC h.1 u.2]at u;simp at u;omega
def ZM{e:En}(h:YP e):Qi e.rep (kn e)=(e,true):=by
 obtain⟨w,u⟩:=jO h;rw[qD w,u];have:qy zm [⟨0,e.max⟩] (kn e)=e.holes:=by
  refine vK (qG (X3 _) h.1.2.2.1) (qT h.1) h.1.1 λx y=>?_;rw[vC h.1 y,jl];simp only[zm];by_cases j:x<=e.max
  .simp[j]
  .have:mem e.holes x=false:=by
    cases h':mem e.holes x with
    |false=>rfl
    |true=>obtain⟨s,hs,_,u⟩:=qf.1 h';have:=h.1.2.1 s hs;omega
   simp[j,this]
 rw[this]
def zak{r:Nat}{l:List Iv}(A:r<zk)(u:Nrm l)(h:l≠[]):YP (Qi r l).1:=by
 refine⟨k9 A u,λs hs=>?_⟩;have y:=k9 A u;have E:=y.2.1 s hs;rcases uC E with B|B
 .exact B
 .have w:mem (Qi r l).1.holes (Qi r l).1.max=true:=qf.2 ⟨s,hs,by have:=NF.lo_ge y.1 s hs;omega,a8⟩;have C:=x9 u h;have j:mem (kn (Qi r l).1) (QV l)=true:=(by rw[JO A u h];exact C.1);rw[vC y C.2]at j;rw[qD h]at w j;simp only at w j;rw[w]at j;simp at j
def Jm{e:En}(h:zO e){l:List Iv}{s:Iv}(hs:e.holes=l++[s])(G:e.max<=s.hi)(F:0<s.lo):zO ⟨e.rep,s.lo-1,l⟩/\kn ⟨e.rep,s.lo-1,l⟩=kn e:=by
 have w:Nrm (l++[s]):=hs▸h.1;have E:=NF.lo_ge w s b6;have u:zO ⟨e.rep,s.lo-1,l⟩:=by
  refine⟨w.init,λt ht=>?_,?_,h.2.2.2⟩
  .have:=w.last_lt t ht;simp only;omega
  .simp only;omega
 refine⟨u,Nrm.unique (qT u) (qT h) λx A=>?_⟩;have y:s.hi=e.max:=by have:=h.2.1 s (by rw[hs];simp);omega
 rw[vC u A,vC h A,hs,yd,mem_one' s x];simp only;by_cases j:x<=s.lo-1
 .have e1:x<=e.max:=a8;have e2:¬s.lo<=x:=a8;simp[j,e1,e2]
 .by_cases C:x<=e.max
  .have e2:s.lo<=x:=a8;have B:x<=s.hi:=a8;simp[j,e2,B]
  .simp[j,C]
where mem_one' (s:Iv) (x:Nat):mem [s] x=(decide (s.lo<=x) && decide (x<=s.hi)):=by simp[mem]
def Jl{e:En}(h:zO e){l:List Iv}{s:Iv}(hs:e.holes=l++[s])(y:e.max<=s.hi)(w:s.lo=0):kn e=[]:=by
 refine Nrm.unique (qT h) trivial λx u=>?_;rw[vC h u,hs,yd];by_cases j:x<=e.max
 .have:mem [s] x=true:=qf.2 ⟨s,b6,a8,a8⟩;simp[this]
 .simp[j]
def Xb{e:En}(h:zO e)(j:e.holes=[]):YP e:=⟨h,λs hs=>by rw[j]at hs;cases hs⟩
def zcc{e:En}(h:zO e){l:List Iv}{s:Iv}(hs:e.holes=l++[s])(w:s.hi<e.max):YP e:=by
 refine⟨h,λt ht=>?_⟩;rw[hs]at ht;have u:Nrm (l++[s]):=hs▸h.1;have y:=NF.lo_ge u s b6;rcases wE.1 ht with j|j
 .have:=u.last_lt t j;omega
 .simp at j;subst j;exact w
def J0(r:Nat)(l:List Iv):(Qi r l).1.holes.length<=2*l.length+3:=by
 by_cases h:l=[]
 .subst h;simp[Qi]
 .rw[qD h];have:=xR zm [⟨0,QV l⟩] l;simp at this⊢;omega
def kW(e:En):(kn e).length<=2*e.holes.length+3:=by have:=xR zm [⟨0,e.max⟩] e.holes;simp at this;unfold kn;omega
end
section
def jn(f:Bool->Bool->Bool)(a b:En):En×Bool:=Qi a.rep (qy f (kn a) (kn b))
variable {f:Bool->Bool->Bool}{a b c:En}
def below(c:Nat):List Iv:=if c=0 then [] else [⟨0,c-1⟩]
def kP(e:En):En×Bool:=Qi e.rep (kn e)
end
section
def zT(v:List En)(r:Nat):List Iv:=match v.find? (λe=>e.rep == r)with
 |some e=>kn e
 |none=>[]
def zsC(v:List En):Prop:=(∀e∈v,zO e)/\v.Pairwise (λa b=>a.rep<b.rep)
def CanV(v:List En):Prop:=(∀e∈v,YP e)/\v.Pairwise (λa b=>a.rep<b.rep)
def CanV.right{v:List En}(h:CanV v):zsC v:=⟨λe j=>(h.1 e j).1,h.2⟩
def knV_nil(r:Nat):zT [] r=[]:=rfl
def qm(e:En)(v:List En)(r:Nat):zT (e::v) r=if e.rep=r then kn e else zT v r:=by
 unfold zT;by_cases h:e.rep=r
 .simp[h]
 .simp[h]
def qC{v:List En}{r:Nat}(h:∀e∈v,e.rep≠r):zT v r=[]:=by
 induction v with
 |nil=>rfl
 |cons e v ih=>rw[qm,Vm (h e b6),ih λj u=>h j (by simp[u])]
def kq{v:List En}(h:v.Pairwise λa b=>a.rep<b.rep){e:En}(w:e∈v):zT v e.rep=kn e:=by
 induction v with
 |nil=>cases w
 | cons x v ih=>
   have u:=wi.1 h;rw[qm];rcases wh.1 w with rfl|j
   .rw[vj rfl]
   .have:=u.1 e j;rw[Vm a8,ih u.2 j]
def qi{v:List En}(h:zsC v)(r:Nat):Nrm (zT v r):=by
 unfold zT;split
 .rename_i e he;exact qT (h.1 e (uE he))
 .trivial
def Zk:∀{a b:List En},CanV a->CanV b->(∀r,zT a r=zT b r)->a=b
 |[],[],_,_,_=>rfl
 |[],y::b,_,hb,h=>by have:=h y.rep;rw[knV_nil,qm,vj rfl]at this;exact absurd this.symm (jO (hb.1 y b6)).1
 |x::a,[],ha,_,h=>by have:=h x.rep;rw[knV_nil,qm,vj rfl]at this;exact absurd this (jO (ha.1 x b6)).1
 | x::a,y::b,ha,hb,h=>by
   have A:=wi.1 ha.2;have B:=wi.1 hb.2;have C:=ha.1 x b6;have E:=hb.1 y b6;have F:x.rep=y.rep:=by
    rcases WK x.rep y.rep with u|u|u
    .have:=h x.rep;rw[qm,vj rfl,qC λe j=>by rcases wh.1 j with rfl|j;omega;have:=B.1 e j;omega]at this;exact absurd this (jO C).1
    .exact u
    .have:=h y.rep;rw[qm (e:=y),vj rfl,qC λe j=>by rcases wh.1 j with rfl|j;omega;have:=A.1 e j;omega]at this;exact absurd this.symm (jO E).1
   have hk:=h x.rep;rw[qm,qm,vj rfl,vj F.symm]at hk;have e1:=ZM C;have e2:=ZM E;rw[hk,F,e2]at e1;have w:x=y:=(by injection e1 with e1;exact e1.symm);subst w;congr 1;refine Zk ⟨λe j=>ha.1 e (by simp[j]),A.2⟩ ⟨λe j=>hb.1 e (by simp[j]),B.2⟩ λr=>?_;by_cases u:x.rep=r
   .rw[qC λe j=>by have:=A.1 e j;omega,qC λe j=>by have:=B.1 e j;omega]
   .have:=h r;rw[qm,qm,Vm u,Vm u]at this;exact this
def Xd(f:Bool->Bool->Bool)(a b:List En)(r:Nat):En×Bool:=Qi r (qy f (zT a r) (zT b r))
def vE(f:Bool->Bool->Bool)(a b:List En)(r:Nat):Option En:=if (Xd f a b r).2 then some (Xd f a b r).1 else none
def zM(v:List En):List Nat:=v.map En.rep
noncomputable def ks (f:Bool->Bool->Bool) (a b:List En):List En:=(srt (zM a++zM b)).filterMap (vE f a b)
def xz{f:Bool->Bool->Bool}{a b:List En}{r:Nat}{e:En}(h:vE f a b r=some e):qy f (zT a r) (zT b r)≠[]/\e=(Xd f a b r).1/\e.rep=r:=by
 unfold vE Xd at h;split at h
 .rename_i h1;rw[zaj]at h1;simp at h1;cases h;exact⟨h1,rfl,by rw[qD h1]⟩
 .cases h
def zad{f:Bool->Bool->Bool}{a b:List En}{r:Nat}(h:qy f (zT a r) (zT b r)≠[]):vE f a b r=some (Xd f a b r).1:=by unfold vE;rw[vj];unfold Xd;rw[zaj];simpa using h
def Xr{a b:List En}(u:zsC a)(hb:zsC b):∀r∈srt (zM a++zM b),r<zk:=λr w=>by
 have:=qr.1 w;simp only[zM,wE,wC]at this;rcases this with⟨e,j,rfl⟩|⟨e,j,rfl⟩
 .exact(u.1 e j).2.2.2
 .exact(hb.1 e j).2.2.2
def xj{g:Nat->Option En}(j:∀r e,g r=some e->e.rep=r):∀{l:List Nat},YN l->(l.filterMap g).Pairwise λa b=>a.rep<b.rep
 |[],_=>List.Pairwise.nil
 | r::l,h=>by
   have u:=wi.1 h;rw[uI];cases e:g r with
   |none=>exact xj j u.2
   |some x=>refine wi.2 ⟨λy B=>?_,xj j u.2⟩;obtain⟨C,w,A⟩:=uf.1 B;rw[j _ _ e,j _ _ A];exact u.1 C w
def Xe(f:Bool->Bool->Bool){a b:List En}(j:zsC a)(hb:zsC b):CanV (ks f a b):=by refine⟨λe y=>?_,xj (λr e h=>(xz h).2.2) (yi _)⟩;obtain⟨r,A,u⟩:=uf.1 y;obtain⟨w,rfl,_⟩:=xz u;exact zak (Xr j hb r A) (qH (qi j r) (qi hb r)) w
def zdv{f:Bool->Bool->Bool}(j:f false false=false):qy f [] []=[]:=
 vK (a:=[]) (b:=[]) trivial trivial trivial λx u=>by simp[j]
def JR{f:Bool->Bool->Bool}(F:f false false=false){a b:List En}(B:zsC a)(hb:zsC b)(r:Nat):zT (ks f a b) r=qy f (zT a r) (zT b r):=by
 by_cases h:qy f (zT a r) (zT b r)=[]
 .rw[h];refine qC λe j w=>?_;obtain⟨H,G,E⟩:=uf.1 j;obtain⟨u,_,y⟩:=xz E;rw[w]at y;subst y;exact u h
 .have C:r∈srt (zM a++zM b):=by
   refine qr.2 (wE.2 ?_);rcases Classical.em (r∈zM a)with u|u
   .exact .inl u
   .rcases Classical.em (r∈zM b)with A|A
    .exact .inr A
    .refine absurd ?_ h;rw[qC (v:=a) λe j w=>u (wC.2 ⟨e,j,w⟩),qC (v:=b) λe j w=>A (wC.2 ⟨e,j,w⟩)];exact zdv F
  have j:(Xd f a b r).1∈ks f a b:=uf.2 ⟨r,C,zad h⟩;have y:(Xd f a b r).1.rep=r:=(xz (zad h)).2.2;have:=kq (Xe f B hb).2 j;rw[y]at this;rw[this];exact JO (Xr B hb r C) (qH (qi B r) (qi hb r)) h
def zoY{f:Bool->Bool->Bool}(w:f false false=false){a b c:List En}(j:zsC a)(hb:zsC b)(u:CanV c)(h:∀r,zT c r=qy f (zT a r) (zT b r)):ks f a b=c:=
 Zk (Xe f j hb) u λr=>by rw[JR w j hb,h]
def QX(e:En):Option En:=if (kP e).2 then some (kP e).1 else none
def zi(v:List En):List En:=v.filterMap QX
def v9{e c:En}(h:QX e=some c):kn e≠[]/\c=(kP e).1/\c.rep=e.rep:=by
 unfold QX kP at h;split at h
 .rename_i h1;rw[zaj]at h1;simp at h1;cases h;exact⟨h1,rfl,by rw[qD h1]⟩
 .cases h
def jN:∀{v:List En},zsC v->CanV (zi v)
 |[],_=>⟨λe h=>(by cases h),List.Pairwise.nil⟩
 | x::v,h=>by
   have p:=wi.1 h.2;obtain⟨u,w⟩:=jN (v:=v) ⟨λe j=>h.1 e (by simp[j]),p.2⟩;unfold zi;rw[uI];cases e:QX x with
   |none=>exact⟨u,w⟩
   | some c=>
     obtain⟨E,rfl,F⟩:=v9 e;have A:=h.1 x b6;refine⟨λe j=>?_,wi.2 ⟨λy C=>?_,w⟩⟩
     .rcases wh.1 j with rfl|j
      .exact zak A.2.2.2 (qT A) E
      .exact u e j
     .obtain⟨z,hz,B⟩:=uf.1 C;obtain⟨_,_,G⟩:=v9 B;rw[F,G];exact p.1 z hz
def ja:∀{v:List En},zsC v->∀r,zT (zi v) r=zT v r
 |[],_,r=>rfl
 | x::v,h,r=>by
   have p:=wi.1 h.2;have y:zsC v:=⟨λe j=>h.1 e (by simp[j]),p.2⟩;have ih:=ja y r;have w:=h.1 x b6;unfold zi at ih⊢;rw[uI,qm];cases e:QX x with
   | none=>
     have hk:kn x=[]:=by
      unfold QX kP at e;rw[zaj]at e;by_cases u:kn x=[]
      .exact u
      .simp[u]at e
     show zT (v.filterMap QX) r=_;rw[ih];split
     .rename_i hr;rw[hk];exact qC λe j=>by have:=p.1 e j;omega
     .rfl
   | some c=>
     obtain⟨A,rfl,B⟩:=v9 e;show zT ((kP x).1::v.filterMap QX) r=_;rw[qm,B,ih];split
     .exact JO w.2.2.2 (qT w) A
     .rfl
section
variable {a b c:List En}
def fU0:zn false false=false:=rfl
def fM0:zm false false=false:=rfl
end
def zdd{f:Bool->Bool->Bool}{a b:List En}:∀e∈ks f a b,e.rep∈srt (zM a++zM b):=λe j=>by unfold ks at j;obtain⟨r,u,h⟩:=uf.1 j;rw[(xz h).2.2];exact u
def BV(n h:Nat)(v:List En):Prop:=zsC v/\v.length<=n/\∀e∈v,e.holes.length<=h
def ji{n h:Nat}{v:List En}(j:BV n h v)(r:Nat):(zT v r).length<=2*h+3:=by
 unfold zT;cases hf:v.find? (λe=>e.rep == r)with
 |none=>simp
 |some e=>have u:=j.2.2 e (uE hf);have w:=kW e;simp only;omega
def BV.mono{n h m k:Nat}{v:List En}(j:BV n h v)(u:n<=m)(w:h<=k):BV m k v:=⟨j.1,V0 j.2.1 u,λe y=>V0 (j.2.2 e y) w⟩
def zl9(r c:Nat):List En:=[(Qi r [⟨c,c⟩]).1]
def zmc{c:Nat}(j:c<zk):Nrm [⟨c,c⟩]:=⟨X3 _,Zp _,j,trivial⟩
def zkS{r c:Nat}(w:r<zk)(u:c<zk):CanV (zl9 r c):=⟨λe j=>by
 simp only[zl9,wI]at j;subst j;exact zak w (zmc u) b6,by simp[zl9]⟩
def zoD{r c:Nat}(w:r<zk)(u:c<zk):BV 1 5 (zl9 r c):=⟨(zkS w u).right,Zp _,λe j=>by
 simp only[zl9,wI]at j;subst j;have:=J0 r [⟨c,c⟩];simpa using this⟩
def zoE{r c:Nat}(w:r<zk)(u:c<zk)(x:Nat):zT (zl9 r c) x=if r=x then [⟨c,c⟩] else []:=by
 have j:(Qi r [⟨c,c⟩]).1.rep=r:=by rw[qD b6]
 unfold zl9;rw[qm,j,knV_nil,JO w (zmc u) b6]
end
section
open Go.RowKit
def v7{α:Type}(P:Program)(F:Nat)(G:Array Value)(u:α->Array Value)(T:Nat->Prop)(E:World->World->Prop)(C:List α)(W:World):Prop:=
 ∀(l:Nat)(J w:List α->World->Prop),
  (∀pre A B,J pre A->Keep T A B->J pre B)->(∀pre A B,w pre A->Keep T A B->w pre B) ->
  (∀pre x y,J pre y->pre++[x] <+: C->YieldAt Fence.wide 7 P l (u x) y λe j=>
    (e=.returned (.bool true)/\J (pre++[x]) j/\E y j)\/(e=.returned (.bool false)/\w (pre++[x]) j)) ->
  J [] W ->
  CallsIn Fence.wide 8 P F (#[.func (.yield l) #[] #[]]++G) W λe j=>(∃v,e=.returned v)/\(J C j\/∃pre,pre <+: C/\w pre j)
def zsL{α:Type}(P:Program)(H:Nat)(I:Array Value)(u:α->Array Value)(T:Nat->Prop)(G:World->World->Prop)(F:List α->α->Prop)(C y:List α->Prop)(W:World):Prop:=
 ∀(l:Nat)(J w:List α->World->Prop),
  (∀pre A B,J pre A->Keep T A B->J pre B)->(∀pre A B,w pre A->Keep T A B->w pre B) ->
  (∀pre x E,J pre E->F pre x->YieldAt Fence.wide 7 P l (u x) E λe j=>
    (e=.returned (.bool true)/\J (pre++[x]) j/\G E j)\/(e=.returned (.bool false)/\w (pre++[x]) j)) ->
  J [] W ->
  CallsIn Fence.wide 8 P H (#[.func (.yield l) #[] #[]]++I) W λe j=>(∃v,e=.returned v)/\((∃pre,C pre/\J pre j)\/∃pre,y pre/\w pre j)
def zgi{α:Type}(S:World->World->Prop)(I:List α->World->Prop)(u:Code->List α->World->Prop)(j:List α)(W:World):Exit->Act->World->Prop
 |.normal,_,W'=>S W W'/\I j W'
 |.ret,_,W'=>S W W'/\u .ret j W'
 |.exit id,_,W'=>S W W'/\u (.exit id) j W'
 |.goto t,_,W'=>S W W'/\u (.goto t) j W'
 |.panic _,_,_=>False
 |.outgrown,_,_=>False
def zsS{α:Type}{P:Program}{g:Operand}{ps:Array Tmp}{assign body:Code}{Q:Exit->Act->World->Prop}{a:Act}{w:World}
 (gf:Nat) (lb:Array Value) (hg:a.eval g=.func (.func gf) #[] lb) (eg:∀af w,(callFunc gf af).run P w=.ok (.enter gf af) w)
 (L:α->Array Value) (aN:∀x,(L x).size=ps.size) (T:Nat->Prop) (Pt:World->World->Prop) (Ok:List α->α->Prop) (ar aq:List α->Prop)
 (aM:∀W,Keep (λ_=>False) w W->W.heap.size=w.heap.size+2->zsL P gf lb L T Pt Ok ar aq W)
 (S:World->World->Prop) (ab:∀A B,S A B->∀k,k=w.heap.size\/k=w.heap.size+1->k<A.heap.size->B.heap[k]?=A.heap[k]?) (au:∀A B,S A B->Pt A B)
 (ai:∀A B C,Pt A B->Pt B C->Pt A C) (ag:∀A B,Keep (λk=>k=w.heap.size+1) A B->(∃o,A.heap[w.heap.size+1]?=some (.loop o))->Pt A B) (ac:¬T w.heap.size/\¬T (w.heap.size+1))
 (I:List α->World->Prop) (Ix:Code->List α->World->Prop)
 (hI:∀pre A B,I pre A->Keep (λk=>T k\/k=w.heap.size\/k=w.heap.size+1) A B->I pre B)
 (U:∀c pre A B,Ix c pre A->Keep (λk=>T k\/k=w.heap.size\/k=w.heap.size+1) A B->Ix c pre B)
 (h0:I [] w)
 (Ax:List α->α->Act->World->Prop)
 (aD:∀pre x a' A B,Ax pre x a' A->Keep (λk=>k=w.heap.size+1) A B->Ax pre x a' B)
 (X:∀l pre x W,Ok pre x->w.heap.size+1<W.heap.size->I pre W ->
   assign.wpIn (Fence.wide.inRound l) 7 P (Exit.then (λa' W'=>S W W'/\Ax pre x a' W') (λ_ _ _=>False)) { tmps:=(ps.zip (L x)).foldl (λt (p,v)=>t.setIfInBounds p v) a.tmps,defers:=[] } W)
 (aj:∀l pre x a' W,Ok pre x->w.heap.size+1<W.heap.size->Ax pre x a' W->body.wpIn (Fence.wide.inRound l) 7 P (zgi S I Ix (pre++[x]) W) a' W)
 (ak:∀pre W,ar pre->I pre W->W.heap[w.heap.size]?=some (.deferred (some []))->Q .normal { a with defers:={ target:=.collected w.heap.size,args:=#[] }::a.defers } W)
 (ao:∀c pre W,aq pre->Ix c pre W->W.heap[w.heap.size]?=some (.deferred (some []))->c.wpIn Fence.wide 9 P Q { a with defers:={ target:=.collected w.heap.size,args:=#[] }::a.defers } W) :
 (Code.rangeFunc g ps assign body).wpIn Fence.wide 9 P Q a w:=by
 refine wpIn_rangeFunc ?_;intro fn aL;rw[show Fence.wide.round=none from rfl];obtain⟨y,j⟩:∃y:LoopState->Option Code->Loop,y=λst pe=>{ state:=st,pending:=pe,fn,tmps:=a.tmps,params:=ps,assign,body,defers:=w.heap.size }:=⟨_,rfl⟩;obtain⟨N,V⟩:=xt ((w.alloc (.deferred (some []))).alloc (.loop (y .ready none)));have aG:N.heap[w.heap.size+1]?=some (.loop (y .ready none)):=by
  rw[<-V];have:=tp (w.alloc (.deferred (some []))) (.loop (y .ready none));rwa[tw]at this
 have aF:N.heap[w.heap.size]?=some (.deferred (some [])):=by rw[<-V];exact(tv _ _ _ b6).trans (tp w _)
 have aw:Keep (λ_=>False) w N:=by rw[<-V];exact((Keep.refl _ _).alloc _).alloc _
 have aO:N.heap.size=w.heap.size+2:=by rw[<-V];simp
 have aE:I [] N:=hI _ _ _ h0 (aw.mono λ_ _ h=>h.elim);refine⟨w.heap.size+1,[{ target:=.collected w.heap.size,args:=#[] }],N,{ target:=.fn (.func gf) lb,args:=#[.func (.yield (w.heap.size+1)) #[] #[]] },N,gf,
  #[.func (.yield (w.heap.size+1)) #[] #[]]++lb,N,?_,?_,?_,?_,λ_=>a8,?_⟩
 .rw[<-V,j];exact run_enterLoop_outer _ _ _ _ _
 .simp only[resolve,hg];simp[go_sem]
 .intro f' _;trivial
 .simp[invoke,go_sem,eg]
 .refine(aM N aw aO (w.heap.size+1)
   (λpre W=>I pre W/\W.heap[w.heap.size+1]?=some (.loop (y .ready none))/\W.heap[w.heap.size]?=some (.deferred (some [])))
   (λpre W=>∃c,Ix c pre W/\W.heap[w.heap.size+1]?=some (.loop (y .done (some c)))/\W.heap[w.heap.size]?=some (.deferred (some [])))
   ?_ ?_ ?_ ⟨aE,aG,aF⟩).mono ?_
  .rintro pre A B ⟨hi,Z,hk⟩ h;exact⟨hI _ _ _ hi (h.mono λ_ _ e=>.inl e),h.obj Z ac.2,h.obj hk ac.1⟩
  .rintro pre A B ⟨c,hi,Z,hk⟩ h;exact⟨c,U _ _ _ _ hi (h.mono λ_ _ e=>.inl e),h.obj Z ac.2,h.obj hk ac.1⟩
  .rintro pre x W ⟨hi,Z,hk⟩ aC;have az:w.heap.size+1<W.heap.size:=(XE.1 Z).1;have hy:=run_yield (P:=P) (args:=L x) Z (by rw[j];exact aN x);rw[j]at hy;refine⟨fn,_,assign,body,hy,roundIn_of_wpIn aL (wpIn_mono (X _ pre x W aC az hi) ?_)⟩;intro e a1 Wa he;cases e with
   | normal=>
     obtain⟨am,aH⟩:=he;have an:Wa.heap[w.heap.size+1]?=some (.loop (y .ready none)):=(ab _ _ am _ (.inr rfl) az).trans Z;have aK:Wa.heap[w.heap.size]?=some (.deferred (some [])):=(ab _ _ am _ (.inl rfl) a8).trans hk;have ah:w.heap.size+1<Wa.heap.size:=(XE.1 an).1;refine⟨_,run_beginRound an (by rw[j]),?_⟩;obtain⟨W2,ad⟩:=xt (Wa.putObj (w.heap.size+1) (.loop { y .ready none with state:=.busy }));rw[ad];have Y:Keep (λk=>k=w.heap.size+1) Wa W2:=(by rw[<-ad];exact(Keep.refl (λk=>k=w.heap.size+1) Wa).putObj (λ_=>rfl) _);have ax:W2.heap[w.heap.size+1]?=some (.loop { y .ready none with state:=.busy }):=(by rw[<-ad];exact To ah);have aI:W2.heap[w.heap.size]?=some (.deferred (some [])):=Y.obj aK a8;refine wpIn_mono (aj _ pre x a1 W2 aC (by rw[<-ad];simpa using ah) (aD _ _ _ _ _ aH Y)) ?_;have fin:∀(E:Option Code)(O:World),S W2 O->∃W4,
      (Instr.endRound (w.heap.size+1) E).run P O=.ok (.bool E.isNone) W4 /\
      W4.heap[w.heap.size+1]?=some (.loop (y (if E.isNone then .ready else .done) E)) /\
      W4.heap[w.heap.size]?=some (.deferred (some []))/\Keep (λk=>k=w.heap.size+1) O W4/\Pt W W4:=λE O u=>by
      have aA:w.heap.size+1<W2.heap.size:=(XE.1 ax).1;have ae:=(ab _ _ u _ (.inr rfl) aA).trans ax;have aJ:=(ab _ _ u _ (.inl rfl) a8).trans aI;have F:=run_endRound (P:=P) E ae;rw[j]at F⊢;have ay:=ae;rw[j]at ay;refine⟨_,F,To (XE.1 ae).1,(tP a8).trans aJ,(Keep.refl (λk=>k=w.heap.size+1) O).putObj (λ_=>rfl) _,?_⟩;exact ai _ _ _ (au _ _ am) (ai _ _ _ (ag _ _ Y ⟨_,an⟩) (ai _ _ _ (au _ _ u) (ag _ _ ((Keep.refl (λk=>k=w.heap.size+1) O).putObj (λ_=>rfl) _) ⟨_,ae⟩)))
     rintro e a3 O hp;cases e with
     |normal=>obtain⟨u,H⟩:=hp;obtain⟨W4,F,K,G,J,M⟩:=fin none O u;exact⟨_,_,F,.inl ⟨rfl,⟨hI _ _ _ H (J.mono λ_ _ e=>.inr (.inr e)),K,G⟩,M⟩⟩
     |ret=>obtain⟨u,H⟩:=hp;obtain⟨W4,F,K,G,J,M⟩:=fin (some .ret) O u;exact⟨_,_,F,.inr ⟨rfl,.ret,U _ _ _ _ H (J.mono λ_ _ e=>.inr (.inr e)),K,G⟩⟩
     |exit id=>obtain⟨u,H⟩:=hp;obtain⟨W4,F,K,G,J,M⟩:=fin (some (.exit id)) O u;exact⟨_,_,F,.inr ⟨rfl,.exit id,U _ _ _ _ H (J.mono λ_ _ e=>.inr (.inr e)),K,G⟩⟩
     |goto t=>obtain⟨u,H⟩:=hp;obtain⟨W4,F,K,G,J,M⟩:=fin (some (.goto t)) O u;exact⟨_,_,F,.inr ⟨rfl,.goto t,U _ _ _ _ H (J.mono λ_ _ e=>.inr (.inr e)),K,G⟩⟩
     |panic ch=>exact hp.elim
     |outgrown=>exact hp.elim
   |ret=>exact he.elim
   |exit id=>exact he.elim
   |goto t=>exact he.elim
   |panic ch=>exact he.elim
   |outgrown=>exact he.elim
  .rintro e W2 ⟨⟨v,rfl⟩,(⟨pre,av,hi,Z,hk⟩|⟨pre,aB,c,hi,Z,hk⟩)⟩
   .have F:=T3 (P:=P) Z (by rw[j];simp);refine⟨none,_,by rw[j]at F;exact F,ak _ _ av (hI _ _ _ hi ((Keep.refl _ _).putObj (λ_=>.inr (.inr rfl)) _)) ((tP a8).trans hk)⟩
   .have F:=T3 (P:=P) Z (by rw[j];simp);refine⟨some c,_,by rw[j]at F;exact F,ao c pre _ aB (U _ _ _ _ hi ((Keep.refl _ _).putObj (λ_=>.inr (.inr rfl)) _)) ((tP a8).trans hk)⟩
def Xt{α:Type}{P:Program}{g:Operand}{ps:Array Tmp}{j G:Code}{Q:Exit->Act->World->Prop}{a:Act}{w:World}
 (V:Nat) (lb:Array Value) (hg:a.eval g=.func (.func V) #[] lb) (eg:∀F w,(callFunc V F).run P w=.ok (.enter V F) w)
 (u:α->Array Value) (ag:∀x,(u x).size=ps.size) (T:Nat->Prop) (H:World->World->Prop) (E:List α)
 (af:∀W,Keep (λ_=>False) w W->W.heap.size=w.heap.size+2->v7 P V lb u T H E W)
 (S:World->World->Prop) (ac:∀A B,S A B->∀k,k=w.heap.size\/k=w.heap.size+1->k<A.heap.size->B.heap[k]?=A.heap[k]?) (ad:∀A B,S A B->H A B)
 (ab:∀A B C,H A B->H B C->H A C) (X:∀A B,Keep (λk=>k=w.heap.size+1) A B->(∃o,A.heap[w.heap.size+1]?=some (.loop o))->H A B) (ae:¬T w.heap.size/\¬T (w.heap.size+1))
 (I:List α->World->Prop) (U:Code->List α->World->Prop)
 (hI:∀pre A B,I pre A->Keep (λk=>T k\/k=w.heap.size\/k=w.heap.size+1) A B->I pre B)
 (Z:∀c pre A B,U c pre A->Keep (λk=>T k\/k=w.heap.size\/k=w.heap.size+1) A B->U c pre B)
 (h0:I [] w)
 (O:List α->α->Act->World->Prop)
 (Y:∀pre x K A B,O pre x K A->Keep (λk=>k=w.heap.size+1) A B->O pre x K B)
 (y:∀l pre x W,pre++[x] <+: E->w.heap.size+1<W.heap.size->I pre W ->
   j.wpIn (Fence.wide.inRound l) 7 P (Exit.then (λK W'=>S W W'/\O pre x K W') (λ_ _ _=>False)) { tmps:=(ps.zip (u x)).foldl (λt (p,v)=>t.setIfInBounds p v) a.tmps,defers:=[] } W)
 (L:∀l pre x K W,pre++[x] <+: E->w.heap.size+1<W.heap.size->O pre x K W->G.wpIn (Fence.wide.inRound l) 7 P (zgi S I U (pre++[x]) W) K W)
 (M:∀W,I E W->W.heap[w.heap.size]?=some (.deferred (some []))->Q .normal { a with defers:={ target:=.collected w.heap.size,args:=#[] }::a.defers } W)
 (N:∀c pre W,pre <+: E->U c pre W->W.heap[w.heap.size]?=some (.deferred (some []))->c.wpIn Fence.wide 9 P Q { a with defers:={ target:=.collected w.heap.size,args:=#[] }::a.defers } W) :
 (Code.rangeFunc g ps j G).wpIn Fence.wide 9 P Q a w:=
 zsS V lb hg eg u ag T H (λpre x=>pre++[x] <+: E) (·=E) (· <+: E) (λW h1 h2 l J Jx q1 q2 q3 q4=>(af W h1 h2 l J Jx q1 q2 q3 q4).mono λ_ _ h=>⟨h.1,h.2.imp (λh=>⟨E,rfl,h⟩) id⟩) S ac ad ab X ae I U hI Z h0 O Y y L (λpre W e=>by subst e;exact M W) N
def rdE(u:Nat)(w:World)(b o:Nat)(e:En):Prop:=w.cell? ⟨b,o,none⟩=some (.int .u64 e.rep)/\w.cell? ⟨b,o+1,none⟩=some (.int .u64 e.max)/\(∃j,w.cell? ⟨b,o+2,none⟩=some j/\RdR 0 u w j e.holes)/\e.rep<zk/\e.max<zk
def RdV(j:Nat)(w:World)(v:Value)(l:List En):Prop:=RdSl 3 (rdE j) 0 j w v l
def RdV.keep{j:Nat}{w w':World}{v:Value}{l:List En}(h:RdV j w v l)(hb:∀k,k<j->w'.heap[k]?=w.heap[k]?):RdV j w' v l:=
 RdSl.keep h (Zp _) (Zp _) λb o x _ h2 ⟨c0,c1,⟨hv,c2,c3⟩,c4⟩=>
  ⟨(tn (a:=⟨b,o,none⟩) (hb b h2)).trans c0,(tn (a:=⟨b,o+1,none⟩) (hb b h2)).trans c1,⟨hv,(tn (a:=⟨b,o+2,none⟩) (hb b h2)).trans c2,c3.keep (Zp _) (Zp _) λb _ h=>hb b h⟩,c4⟩
end
end Go.Proofs.YtbhngpjkakcgfaaGreatDoor
