import Derived.Sort.Walk13
import Derived.Sort.WalkA14
import Derived.Sort.AssemblyPlain
import Derived.WalkMore
import Derived.Test.YtbhngpjkakcgfaaGreatDoorB10
set_option maxHeartbeats 16000000
set_option linter.all false
set_option maxRecDepth 100000
namespace Go.Proofs.YtbhngpjkakcgfaaGreatDoor
def Tg:=@Go.wpList_append_own_at
def TX:=@Go.wpList_plain
def T6:=@Go.Sort.rd_lim_le
open Go.Proofs.Tryz renaming prog->xT
section
open Go.RowKit Go.Sort
structure CalU:Prop where
 ins:∀(zc off cap a b:Nat)(d:Array Int)(w:World),Holds zg w zc off d->a<=b->b<=d.size->d.size<4611686018427387904 ->
  Calls xT 164 #[.slice (some ⟨zc,off,none⟩) d.size cap,.int .i64 a,.int .i64 b] w λe w'=>e=.returned (.tuple #[])/\∃n,w'=putRow zg (Sort.ahead w n) zc off (insertionSort ltInt d a b)
 brk:∀(zc off cap a b:Nat)(d:Array Int)(w:World),Holds zg w zc off d->zc<w.heap.size->a<=b->b<=d.size->d.size<4611686018427387904 ->
  Calls xT 166 #[.slice (some ⟨zc,off,none⟩) d.size cap,.int .i64 a,.int .i64 b] w λe w'=>e=.returned (.tuple #[])/\∃n os,w'=grow (putRow zg (Sort.ahead w n) zc off (breakPatterns d a b)) os
 piv:∀(zc off cap a b:Nat)(d:Array Int)(w:World),Holds zg w zc off d->zc<w.heap.size->a<b->b<=d.size->d.size<4611686018427387904 ->
  Calls xT 167 #[.slice (some ⟨zc,off,none⟩) d.size cap,.int .i64 a,.int .i64 b] w λe w'=>e=.returned (.tuple #[.int .i64 (choosePivot ltInt d a b).1,.int .i64 (hintCode (choosePivot ltInt d a b).2)])/\∃n os,w'=grow (Sort.ahead w n) os
 par:∀(zc off cap a b:Nat)(d:Array Int)(w:World),Holds zg w zc off d->a<b->b<=d.size->d.size<4611686018427387904 ->
  Calls xT 169 #[.slice (some ⟨zc,off,none⟩) d.size cap,.int .i64 a,.int .i64 b] w λe w'=>e=.returned (.bool (partialInsertionSort ltInt d a b).2)/\∃n,w'=putRow zg (Sort.ahead w n) zc off (partialInsertionSort ltInt d a b).1
 peq:∀(zc off cap a b pivot:Nat)(d:Array Int)(w:World),Holds zg w zc off d->a<=pivot->pivot<b->b<=d.size->d.size<4611686018427387904 ->
  Calls xT 171 #[.slice (some ⟨zc,off,none⟩) d.size cap,.int .i64 a,.int .i64 b,.int .i64 pivot] w λe w'=>e=.returned (.int .i64 (partitionEqual ltInt d a b pivot).1)/\∃n,w'=putRow zg (Sort.ahead w n) zc off (partitionEqual ltInt d a b pivot).2
 prt:∀(zc off cap a b pivot:Nat)(d:Array Int)(w:World),Holds zg w zc off d->a<=pivot->pivot<b->b<=d.size->d.size<4611686018427387904 ->
  Calls xT 172 #[.slice (some ⟨zc,off,none⟩) d.size cap,.int .i64 a,.int .i64 b,.int .i64 pivot] w λe w'=>e=.returned (.tuple #[.int .i64 (partition ltInt d a b pivot).1,.bool (partition ltInt d a b pivot).2.1])/\∃n,w'=putRow zg (Sort.ahead w n) zc off (partition ltInt d a b pivot).2.2
structure PlnU:Prop where
 swo:SWO ltInt
 ins:insertionSort_stmt ltInt
 par:partialInsertionSort_stmt ltInt
 prt:partition_stmt ltInt
 peq:partitionEqual_stmt ltInt
 pdq:pdq_stmt ltInt
set_option maxRecDepth 1000000 in
def QJ(C:CalU)(S:PlnU):∀(N zc I L a b K:Nat)(d:Array Int)(w:World),b-a<N->Holds zg w zc I d->zc<w.heap.size->a<=b->b<=d.size->d.size<4611686018427387904->K<4611686018427387904->Below ltInt a b d ->
 Calls xT 139 #[.slice (some ⟨zc,I,none⟩) d.size L,.int .i64 a,.int .i64 b,.int .i64 K] w λe w'=>e=.returned (.tuple #[])/\At zg w zc I (pdq ltInt d a b K true true) w':=by
 intro N;induction N with
 |zero=>intro _ _ _ _ _ _ _ _ h;exact absurd h (Ue _)
 | succ N ih=>
   intro zc I L a b K d w hN hH G aV hb br Z az;go_enter Tryz.func139,Tryz.ntmps139
   go_wp2;go_loopg [1,2,3,8,9] (b-a) (λk s1 s2 T s8 s9 wr=>∃(u y j:Nat) (E F:Bool) (B:Array Int),s1=.int .i64 u/\s2=.int .i64 y/\T=.int .i64 j/\s8=.bool E/\s9=.bool F /\
    u<=y/\y<=d.size/\y-u<=k/\k<=b-a/\j<=K/\B.size=d.size/\Below ltInt u y B/\At zg w zc I B wr/\pdq ltInt B u y j E F=pdq ltInt d a b K true true)
   case atStart=>exact⟨a,b,K,true,true,d,rfl,rfl,rfl,rfl,rfl,aV,hb,Zp _,Zp _,Zp _,rfl,az,At.refl hH,rfl⟩
   case round=>
    obtain⟨u,y,j,E,F,B,rfl,rfl,rfl,rfl,rfl,M,aW,hk,bq,P,J,aJ,ae,aP⟩:=hrel;obtain⟨aA,aC⟩:=ae.holds hH J G;have A:qA (pdq ltInt B u y j E F=pdq ltInt d a b K true true):=aP;clear aP;by_cases ac:y-u<=12
    ·
     have aI:(y:Int)-(u:Int)<=12:=a8;have hc:=C.ins zc I L u y B wr aA M a8 a8;rw[J]at hc
     go_wp2_with (go_at_call 164;refine hc.mono ?_;rintro e w1 ⟨rfl,an⟩)
     (try simp only[Exit.inBlock,Exit.then]);refine tz (tL rfl _ _ _) rfl ?_
     refine⟨rfl,?_⟩;rw[<-A.o,pdq_small ac];exact ae.step G (S.ins S.swo B u y M a8).1.1 an
    ·have aI:¬((y:Int)-(u:Int)<=12):=a8;by_cases am:j=0
     ·
      subst am;have hc:=ZK zc I d.size L B J u y wr aA M a8 a8
      go_wp2_with (go_at_call 165;refine hc.mono ?_;rintro e w1 ⟨rfl,an⟩)
      (try simp only[Exit.inBlock,Exit.then]);refine tz (tL rfl _ _ _) rfl ?_
      refine⟨rfl,?_⟩;rw[<-A.o,pdq_heap ac rfl];exact ae.step G (heapSort_holds S.swo B u y M a8).1.1 an
     ·have bn:¬((j:Int)=0):=a8;obtain⟨s1,B1,bp,s2,B2,Q,T,B3⟩:=rd_facts (limit:=j) (wb:=E) (wp:=F) S.swo S.par reverseRange_holds (show u<y by omega) (show y<=B.size by omega) aJ
      go_upto_if 35 with fail
      go_cut [3] from 19 (λT wc=>T=.int .i64 (rd ltInt B u y j E F).lim/\At zg w zc I (rd ltInt B u y j E F).d1 wc)
      case first=>
       cases E
       .have hc:=C.brk zc I L u y B wr aA aC M a8 a8;rw[J]at hc
        go_wp2_with (go_at_call 166;refine hc.mono ?_;rintro e w1 ⟨rfl,an⟩)
        go_meet
        case rel=>refine⟨?_,ae.stepG G s1 an⟩;show Value.int .i64 ((j:Int)-1)=Value.int .i64 ((j-1:Nat):Int);congr 1;omega
       .go_wp2_with fail
        go_meet
        case rel=>exact⟨rfl,ae⟩
      case rest=>
       obtain⟨rfl,aq⟩:=hcut;obtain⟨aS,aD⟩:=aq.holds hH (s1.trans J) G;have aO:Calls xT 167 #[.slice (some ⟨zc,I,none⟩) d.size L,.int .i64 u,.int .i64 y] wc λe w'=>e=.returned (.tuple #[.int .i64 (rd ltInt B u y j E F).c.1,.int .i64 (hintCode (rd ltInt B u y j E F).c.2)])/\∃n os,w'=grow (Sort.ahead wc n) os:=(by have:=C.piv zc I L u y (rd ltInt B u y j E F).d1 wc aS aD a8 a8 a8;rw[s1,J]at this;exact this)
       go_upto_if 50 with(go_at_call 167;refine aO.mono ?_;rintro e w2 ⟨rfl,bg⟩)
       have af:At zg w zc I (rd ltInt B u y j E F).d1 w2:=aq.same hH (s1.trans J) G bg;obtain⟨aT,aX⟩:=af.holds hH (s1.trans J) G
       go_cut [11,12] from 19 (λbi aH wc=>bi=.int .i64 (rd ltInt B u y j E F).pivot/\aH=.int .i64 (hintCode (rd ltInt B u y j E F).hint)/\At zg w zc I (rd ltInt B u y j E F).d2 wc)
       case first=>
        by_cases hh:(rd ltInt B u y j E F).c.2=.decreasing
        .have aE:hintCode (rd ltInt B u y j E F).c.2=2:=(by rw[hh];rfl);obtain⟨e2,ay,ax⟩:=rd_dec hh;have ar:=jB zc I L (rd ltInt B u y j E F).d1 u y w2 aT M a8 a8;rw[s1,J]at ar
         go_wp2_with (go_at_call 168;refine ar.mono ?_;rintro e w3 ⟨rfl,bh⟩)
         go_meet
         case rel=>refine⟨?_,by rw[ax];rfl,by rw[e2];exact af.step G (by rw[<-e2,s2,s1]) bh⟩;rw[ay];congr 1;omega
        .have aE:¬(hintCode (rd ltInt B u y j E F).c.2=2):=λh=>hh (hintCode_two h);obtain⟨e2,ay,ax⟩:=rd_not hh
         go_wp2_with fail
         go_meet
         case rel=>exact⟨by rw[ay],by rw[ax],by rw[e2];exact af⟩
       case rest=>
        obtain⟨rfl,rfl,Y⟩:=hcut;obtain⟨aU,aY⟩:=Y.holds hH (s2.trans J) G;go_upto_region 15 with fail
        go_cut [12,68] from 19 (λaH bj wx=>aH=.int .i64 (hintCode (rd ltInt B u y j E F).hint)/\bj=.bool (E && F && decide ((rd ltInt B u y j E F).hint=.increasing))/\wx=wc)
        case first=>
         cases E<;>cases F<;>cases hh3:(rd ltInt B u y j _ _).hint <;>
          (have ao:=ud hintCode hh3
           simp only[hintCode]at ao
           go_wp2_with fail
           go_meet
           exact⟨by simp[hh3,hintCode],by simp[hh3,hintCode],rfl⟩)
        case rest=>
         obtain⟨rfl,rfl,rfl⟩:=hcut
         go_upto_if 68 with fail
         go_cut [] from 19 (λwx=>(rd ltInt B u y j E F).pi.2=false/\At zg w zc I (rd ltInt B u y j E F).pi.1 wx)
         case first=>
          cases h68:(E && F && decide ((rd ltInt B u y j E F).hint=.increasing))
          .have ab:=rd_pi_no h68
           go_wp2_with fail
           go_meet
           case rel=>exact⟨by rw[ab],by rw[ab];exact Y⟩
          .have ab:=rd_pi_yes h68;have au:=C.par zc I L u y (rd ltInt B u y j E F).d2 wc aU a8 a8 a8;rw[s2,J,<-ab]at au
           go_wp2_with (go_at_call 169;refine au.mono ?_;rintro e w4 ⟨rfl,aQ⟩)
           all_goals first
            | (have V:(rd ltInt B u y j E F).pi.2=false:=by rw[ab];assumption
               go_meet
               exact⟨V,Y.step G (by rw[T,s2]) aQ⟩)
            | (have V:(rd ltInt B u y j E F).pi.2=true:=by rw[ab];assumption
               (try simp only[Exit.inBlock,Exit.then]);refine tz (tL rfl _ _ _) rfl ?_
               refine⟨rfl,?_⟩;rw[<-A.o,pdq_done ac am V];exact Y.step G (by rw[T,s2]) aQ)
         case rest=>
          obtain⟨V,ag⟩:=hcut;obtain⟨aK,aZ⟩:=ag.holds hH (T.trans J) G;have bc:∀t,t<d.size->wc.cell? ⟨zc,I+t,none⟩=some (.int .u64 (rd ltInt B u y j E F).pi.1[t]!):=λt ht=>(aK t a8).1;have be:∀t,t<d.size->wc.frozen? ⟨zc,I+t,none⟩=false:=λt ht=>(aK t a8).2;go_upto_region 17 with fail
          go_cut [87] from 19 (λbl wx=>bl=.bool (decide (u > 0) && !ltInt (rd ltInt B u y j E F).pi.1[u-1]! (rd ltInt B u y j E F).pi.1[(rd ltInt B u y j E F).pivot]!)/\At zg w zc I (rd ltInt B u y j E F).pi.1 wx)
          case first=>
           rcases Wi u with aB|aB
           .have aN:decide ((u:Int) > 0)=false:=Wy a8
            go_big_quiet (first|(go_at_call 170;refine tC (za _ _ _)))
            go_wp2_with fail
            go_meet
            case rel=>exact⟨by simp[aB],ag.ahead nq⟩
           .have aN:(u:Int) > 0:=a8
            go_big_quiet (first|(go_at_call 170;refine tC (za _ _ _)))
            go_wp2_with fail
            go_meet
            case rel=>exact⟨by simp[aB],ag.ahead nq⟩
          case rest=>
           obtain⟨rfl,ah⟩:=hcut;obtain⟨aL,ba⟩:=ah.holds hH (T.trans J) G;clear bc be;cases h87:(decide (u > 0) && !ltInt (rd ltInt B u y j E F).pi.1[u-1]! (rd ltInt B u y j E F).pi.1[(rd ltInt B u y j E F).pivot]!)
           ·
            obtain⟨H,ap,U,O⟩:∃H ap U,partition ltInt (rd ltInt B u y j E F).pi.1 u y (rd ltInt B u y j E F).pivot=(H,ap,U):=⟨(partition ltInt (rd ltInt B u y j E F).pi.1 u y (rd ltInt B u y j E F).pivot).1,(partition ltInt (rd ltInt B u y j E F).pi.1 u y (rd ltInt B u y j E F).pivot).2.1,(partition ltInt (rd ltInt B u y j E F).pi.1 u y (rd ltInt B u y j E F).pivot).2.2,rfl⟩;obtain⟨r1,r2,r3,r4,r5,r6,r7⟩:=round_part S.swo S.prt Q.1 Q.2 (show y<=(rd ltInt B u y j E F).pi.1.size by omega) B3 O;have aw:=C.prt zc I L u y (rd ltInt B u y j E F).pivot (rd ltInt B u y j E F).pi.1 wc aL Q.1 Q.2 a8 a8;rw[T,J,O]at aw;have X:qA (partition ltInt (rd ltInt B u y j E F).pi.1 u y (rd ltInt B u y j E F).pivot=(H,ap,U)):=O;clear O
            go_upto_if 113 with(go_at_call 172;refine aw.mono ?_;rintro e w7 ⟨rfl,aF⟩)
            have O:=X.o;have ai:At zg w zc I U w7:=ah.step G r3 aF;obtain⟨aM,aj⟩:=ai.holds hH (r3.trans (T.trans J)) G;by_cases h4:H-u<y-H
            .have aR:(H:Int)-(u:Int)<(y:Int)-(H:Int):=a8;have ak:=ih zc I L u H (rd ltInt B u y j E F).lim U w7 a8 aM aj a8 a8 a8 (Nat.lt_of_le_of_lt (V0 T6 P) Z) r4;rw[r3,T,J]at ak;obtain⟨pL,sL⟩:=S.pdq S.swo U u H (rd ltInt B u y j E F).lim true true a8 a8 r4
             go_wp2_with (go_at_call 139;refine ak.mono ?_;rintro e w8 ⟨rfl,aG⟩)
             go_roundg (y-(H+1));case measure=>omega
             case rel=>
              refine⟨H+1,y,(rd ltInt B u y j E F).lim,decide (H-u≥(y-u)/8),ap,pdq ltInt U u H (rd ltInt B u y j E F).lim true true,b6,rfl,rfl,?_,rfl,a8,a8,Zp _,a8,V0 T6 P,by rw[pL.1,r3,T,J],(r6 _ pL sL).1,ai.stepG G pL.1 aG,?_⟩
              .exact ud Value.bool (eighth a8 a8)
              .rw[<-A.o,pdq_left ac am V h87 (by rw[O];exact⟨r1,r2⟩) (by rw[O];exact h4),O]
            .have aR:¬((H:Int)-(u:Int)<(y:Int)-(H:Int)):=a8;have ak:=ih zc I L (H+1) y (rd ltInt B u y j E F).lim U w7 a8 aM aj a8 a8 a8 (Nat.lt_of_le_of_lt (V0 T6 P) Z) r5;rw[r3,T,J]at ak;obtain⟨pL,sL⟩:=S.pdq S.swo U (H+1) y (rd ltInt B u y j E F).lim true true a8 a8 r5
             go_wp2_with (go_at_call 139;refine ak.mono ?_;rintro e w8 ⟨rfl,aG⟩)
             go_roundg (H-u);case measure=>omega
             case rel=>
              refine⟨u,H,(rd ltInt B u y j E F).lim,decide (y-H≥(y-u)/8),ap,pdq ltInt U (H+1) y (rd ltInt B u y j E F).lim true true,rfl,rfl,rfl,?_,rfl,a8,a8,Zp _,a8,V0 T6 P,by rw[pL.1,r3,T,J],(r7 _ pL sL).1,ai.stepG G pL.1 aG,?_⟩
              .exact ud Value.bool (eighth a8 a8)
              .rw[<-A.o,pdq_right ac am V h87 (by rw[O];exact⟨r1,r2⟩) (by rw[O];exact h4),O]
           ·
            have ad:=h87;simp only[Vq,wG,Wn]at ad;obtain⟨H,U,O⟩:∃H U,partitionEqual ltInt (rd ltInt B u y j E F).pi.1 u y (rd ltInt B u y j E F).pivot=(H,U):=⟨(partitionEqual ltInt (rd ltInt B u y j E F).pi.1 u y (rd ltInt B u y j E F).pivot).1,(partitionEqual ltInt (rd ltInt B u y j E F).pi.1 u y (rd ltInt B u y j E F).pivot).2,rfl⟩;obtain⟨r1,r2,r3,r4,_⟩:=round_eq S.swo S.peq ad.1 Q.1 Q.2 (show y<=(rd ltInt B u y j E F).pi.1.size by omega) B3 ad.2 O;have av:=C.peq zc I L u y (rd ltInt B u y j E F).pivot (rd ltInt B u y j E F).pi.1 wc aL Q.1 Q.2 a8 a8;rw[T,J,O]at av;have X:qA (partitionEqual ltInt (rd ltInt B u y j E F).pi.1 u y (rd ltInt B u y j E F).pivot=(H,U)):=O;clear O
            go_wp2_with (go_at_call 171;refine av.mono ?_;rintro e w7 ⟨rfl,aF⟩)
            go_roundg (y-H);case measure=>omega
            case rel=>have O:=X.o;exact⟨H,y,(rd ltInt B u y j E F).lim,E,F,U,rfl,rfl,rfl,rfl,rfl,r2,aW,Zp _,a8,V0 T6 P,by rw[r3,T,J],r4,ah.step G r3 aF,by rw[<-A.o,pdq_eq ac am V h87 (by rw[O];exact⟨r1,r2⟩),O]⟩
def VC:Prop:=∀(zc u y a b j:Nat)(d:Array Int)(w:World),Holds zg w zc u d->zc<w.heap.size->a<=b->b<=d.size->d.size<4611686018427387904->j<4611686018427387904->Below ltInt a b d ->
 Calls xT 139 #[.slice (some ⟨zc,u,none⟩) d.size y,.int .i64 a,.int .i64 b,.int .i64 j] w λe w'=>
  e=.returned (.tuple #[])/\∃n os,w'=grow (putRow zg (Sort.ahead w n) zc u (Sort.pdq ltInt d a b j true true)) os
def VV(B:VC)(zc j u:Nat)(d:Array Int)(w:World)(E:Holds zg w zc j d)(A:zc<w.heap.size)(C:d.size<4611686018427387904):
 Calls xT 102 #[.slice (some ⟨zc,j,none⟩) d.size u] w λe w'=>e=.returned (.tuple #[])/\∃n os,w'=grow (putRow zg (Sort.ahead w n) zc j (Sort.sort ltInt d)) os:=by
 have F:qA (Holds zg w zc j d):=E;clear E;have y:∀w,Calls xT 140 #[.int .u64 (d.size:Int)] w λe w'=>e=.returned (.int .i64 (bitsLen d.size:Nat))/\w'=w:=λw=>by
  have h:=ZC (d.size:Int) w a8 a8
  rwa[Int.toNat_natCast,bitLen_eq _ a8]at h
 have hk:bitsLen d.size<=62:=(bitsLen_le_iff d.size 62).2 a8;go_enter Tryz.func102,Tryz.ntmps102
 go_wp2_with (first
  |(go_at_call 140;refine(y _).mono ?_;rintro e w' ⟨rfl,rfl⟩)
  |(go_at_call 139;refine(B zc j u 0 d.size (bitsLen d.size) d _ (by exact F.o) (by exact A) (X3 _) (Zp _) C a8 (Or.inl rfl)).mono ?_;rintro e w' ⟨rfl,n,os,rfl⟩))
 go_end0
 exact⟨rfl,n,os,rfl⟩
def zmk:CalU where
 ins:=vV
 brk:=vU
 piv:=j6
 par:=yE
 peq:=yz
 prt:=xJ
def znh:PlnU where
 swo:=swo_ltInt
 ins:=insertionSort_holds
 par:=partialInsertionSort_holds
 prt:=partition_holds _
 peq:=partitionEqual_holds _
 pdq:=pdq_sorts _
def J5:VC:=λzc C u a b j d w F hb y A B G E=>
 QJ zmk znh (b-a+1) zc C u a b j d w a8 F hb y A B G E
def Xx(j:List Int):Sort.sort ltInt j.toArray=(j.mergeSort λx y=>decide (x<=y)).toArray:=by rw[<-sortInt j]
def j7(zc j u:Nat)(B:List Int)(w:World)(E:Holds zg w zc j B.toArray)(A:zc<w.heap.size)(C:B.length<4611686018427387904):
 Calls xT 102 #[.slice (some ⟨zc,j,none⟩) B.length u] w λe w'=>
  e=.returned (.tuple #[])/\∃n os,w'=grow (putRow zg (Sort.ahead w n) zc j (B.mergeSort λx y=>decide (x<=y)).toArray) os:=by
 have h:=VV J5 zc j u B.toArray w E A (dJ C);rw[Xx]at h;simpa using h
end
section
open Go.RowKit
attribute [local go_sem] Oper.semAt_some
abbrev Sv:=Option Addr×Nat×Nat
abbrev Fv:=Sv×Sv
def sv(x:Sv):Value:=.slice x.1 x.2.1 x.2.2
def Y4(p:Nat×Fv):Array Value:=#[.int .i64 (p.1:Nat),.agg #[sv p.2.1,sv p.2.2]]
def wl(j:Nat->Bool):Nat->List Fv->List (Nat×Fv)
 |_,[]=>[]
 |n,f::r=>if j n=true then (n,f)::wl j (n+1) r else wl j (n+1) r
def Kw(j:Nat->Bool):∀(l r:List Fv)(n:Nat),wl j n (l++r)=wl j n l++wl j (n+l.length) r
 |[],r,n=>by simp[wl]
 | f::l,r,n=>by
   have:=Kw j l r (n+1);rw[yb,wl,wl,this,wy,show n+1+l.length=n+(l.length+1) by omega];split<;>simp
def XF{hit:Nat->Bool}{l:List Fv}{k:Nat}(h:k<l.length):wl hit 0 (l.take (k+1))=wl hit 0 (l.take k)++(if hit k=true then [(k,l[k])] else []):=by rw[X4 h,Kw,Wd,W5 a8,wn];simp[wl]
def zi8{j:Nat->Bool}{l:List Fv}{k:Nat}(h:k<l.length)(w:j k=true):wl j 0 (l.take k)++[(k,l[k])] <+: wl j 0 l:=by
 have u:=XF (hit:=j) h;rw[vj w]at u;rw[<-u]
 conv=>rhs;rw[<-Wc (k+1) l,Kw]
 exact List.prefix_append _ _
def PtF(y u j:Nat)(A B:World):Prop:=A.heap.size<=B.heap.size/\∀k,k<A.heap.size->(k<y\/k=u\/k=j\/∃w f,A.heap[k]?=some (.cells w 72 f))->B.heap[k]?=A.heap[k]?
def zeF(B:Nat)(w:World)(A:Option Addr)(u:Nat)(y:List Fv):Prop:=y.length<=u/\u<=maxLen/\(y≠[]->∃b j,A=some ⟨b,j,none⟩/\b<B/\∀i (h:i<y.length),w.cell? ⟨b,j+i*2,none⟩=some (sv y[i].1)/\w.cell? ⟨b,j+i*2+1,none⟩=some (sv y[i].2))
def zew(A:List Fv)(C:Nat->Bool)(av:Option Addr)(af Bk ok H oi Q item:Nat)(I:World)(ao:zeF Q I av af A)
 (aj:I.cell? ⟨Bk,ok,none⟩=some (.slice av A.length af)) (ai:I.cell? ⟨H,oi,none⟩=some (.int .u64 (item:Nat))) (an:Q<=I.heap.size)
 (P:∀(w:World)(i:Nat)(h:i<A.length),(∀k,k<Q->w.heap[k]?=I.heap[k]?)->Q<=w.heap.size->Calls xT 33 #[sv A[i].1,.int .u64 (item:Nat)] w λe w'=>e=.returned (.bool (C i))/\Below w.heap.size w w') :
 v7 xT 106 #[.pointer (some ⟨Bk,ok,none⟩),.pointer (some ⟨H,oi,none⟩)] Y4 (λ_=>False) (PtF Q Bk H) (wl C 0 A) I:=by
 intro l J Jx hJ ag hY h0;refine callsIn_wide.2 ?_;show Calls xT 106 #[.func (.yield l) #[] #[],.pointer (some ⟨Bk,ok,none⟩),.pointer (some ⟨H,oi,none⟩)] I _;have HJ:=qL hJ;have aB:=qL ag;have HY:=qL hY;have HH:=qL P;obtain⟨aC,ax,F⟩:=ao;have T:=qL F;unfold maxLen at ax;have aw:=aj;clear hJ ag hY P F;go_enter Tryz.func106,Tryz.ntmps106
 go_wp2_with fail
 go_loopg [8] A.length (λg x wr=>∃k:Nat,k<=A.length/\g=A.length-k/\x=.int .i64 k/\J (wl C 0 (A.take k)) wr/\(∀j,j<Q->wr.heap[j]?=I.heap[j]?)/\wr.cell? ⟨H,oi,none⟩=some (.int .u64 (item:Nat))/\Q<=wr.heap.size)
 case atStart=>exact⟨0,X3 _,rfl,rfl,by simpa[wl]using h0,λ_ _=>rfl,ai,an⟩
 case round=>
  obtain⟨k,hk,rfl,rfl,K,B,M,ay⟩:=hrel;clear h0 aw aj ai an;by_cases y:k<A.length
  .obtain⟨b,N,au,ak,O⟩:=T.o (λe=>by rw[e]at y;simp at y);subst au;obtain⟨c0,c1⟩:=O k y;have V:=XF (hit:=C) y;have G:C k=true->_:=zi8 y;have hH:=λw=>HH.o w k y;obtain⟨⟨⟨a0,m0,q0⟩,⟨Y,m1,q1⟩⟩,hf⟩:∃f,f=A[k]:=⟨_,rfl⟩;rw[<-hf]at c0 c1 V G;simp only[<-hf]at hH;simp only[sv]at c0 c1 hH;have d0:wr.cell? ⟨b,N+k*2,none⟩=some (.slice a0 m0 q0):=(tn (a:=⟨b,N+k*2,none⟩) (B b ak)).trans c0;have d1:wr.cell? ⟨b,N+k*2+1,none⟩=some (.slice Y m1 q1):=(tn (a:=⟨b,N+k*2+1,none⟩) (B b ak)).trans c1;have e0:(wr.alloc (.cells #[.slice a0 m0 q0,.slice Y m1 q1] 72 (0,0))).cell? ⟨H,oi,none⟩=some (.int .u64 (item:Nat)):=(tn (a:=⟨H,oi,none⟩) (tv _ _ _ (tq _ _ M))).trans M;have ae:=qL V;have HP:=qL G;have E:=qL B;have S:=qL M;have ab:=qL hH;have ac:=qL K;clear O V G B M hH c0 c1 hf K;have ad:qA (∀j,j<Q->(wr.alloc (.cells #[.slice a0 m0 q0,.slice Y m1 q1] 72 (0,0))).heap[j]?=I.heap[j]?):=qL λj Z=>(tv _ _ _ a8).trans (E.o j Z);go_upto_region 3 with fail;refine(Tv (n:=8)).1 ?_;cases hh:C k with
   | false=>
     gi_wp2_with (refine⟨trivial,?_⟩;gi_at_call 33;refine(callsIn_wide.2 (ab.o _ ad.o a9)).mono ?_;rw[hh];rintro e X ⟨rfl,L⟩)
     refine⟨λ_ h=>(by cases h),?_⟩
     gi_wp2
     go_wp2;go_roundg (A.length-(k+1));case measure=>omega
     case rel=>have u:Keep (λ_=>False) wr X:=((Keep.refl _ _).alloc _).trans (Keep.of_below' L (Zp _));refine⟨k+1,y,rfl,b6,?_,λj Z=>(u.block j a8 id).trans (E.o j Z),u.cell_some S.o id,V0 ay u.size⟩;rw[ae.o,hh];simp only[uD,UZ,wZ];exact HJ.o _ _ _ ac.o u
   | true=>
     gi_wp2_with (refine⟨trivial,?_⟩;gi_at_call 33;refine(callsIn_wide.2 (ab.o _ ad.o a9)).mono ?_;rw[hh];rintro e X ⟨rfl,L⟩
                  have u:Keep (λ_=>False) wr X:=((Keep.refl _ _).alloc _).trans (Keep.of_below' L (Zp _));have am:X.heap[wr.heap.size]?=some (.cells #[.slice a0 m0 q0,.slice Y m1 q1] 72 (0,0)):=(L.block _ b6).trans (tp _ _);have x0:X.cell? ⟨wr.heap.size,0,none⟩=some (.slice a0 m0 q0):=(by simp[World.cell?,am]);have x1:X.cell? ⟨wr.heap.size,1,none⟩=some (.slice Y m1 q1):=(by simp[World.cell?,am]);obtain⟨fn,aA,aq,az,hy,hR⟩:=HY.o _ (k,((a0,m0,q0),(Y,m1,q1))) X (HJ.o _ _ _ ac.o u) (HP.o hh);simp only[Y4,sv]at hy)
     refine hR.mono ?_;rintro e w3 (⟨rfl,ar,U⟩|⟨rfl,ah⟩)
     .gi_wp2
      go_wp2;go_roundg (A.length-(k+1));case measure=>omega
      case rel=>refine⟨k+1,y,rfl,b6,?_,λj Z=>(U.2 j (by have:=u.size;omega) (.inl Z)).trans ((u.block j a8 id).trans (E.o j Z)),(tn (a:=⟨H,oi,none⟩) (U.2 H (vw (tq _ _ S.o) u.size) (.inr (.inr (.inl rfl))))).trans (u.cell_some S.o id),by have:=u.size;have:=U.1;omega⟩;rw[ae.o,hh];simpa using ar
     .gi_wp2
      go_wp2;refine tz (tL rfl _ _ _) rfl ?_;exact⟨⟨_,rfl⟩,.inr ⟨_,HP.o hh,ah⟩⟩
  .obtain rfl:k=A.length:=a8
   go_wp2_with fail
   go_end0
   rw[Wp]at K;exact⟨⟨_,rfl⟩,.inl K⟩
attribute [local go_sem] Oper.semAt_some
def zaB(n:Nat)(W:World)(k:Nat):Prop:=n<=k/\∃j f,W.heap[k]?=some (.cells j 3 f)
def SF(j:Nat)(t:TypeId)(A B:World):Prop:=(∃v,Boxed A j t v)/\Keep (λk=>k=j\/zaB (j+4) A k) A B
def SF.pt{u F E:Nat}{t:TypeId}{A B:World}(h:SF u t A B)(K:F<u)(L:E<u)(ht:t ≠ 72)(hi : 3 ≠ 72):PtF u F E A B:=by
 obtain⟨⟨v,I⟩,hk⟩:=h;refine⟨hk.size,λk y j=>hk.block k y ?_⟩;rintro(rfl|⟨M,G,f,w⟩)
 .rcases j with j|j|j|⟨G,f,j⟩
  .omega
  .omega
  .omega
  .have C:A.heap[k]?=some (.cells #[v] t (0,0)):=I;rw[C]at j;cases j;exact ht rfl
 .rcases j with j|j|j|⟨H,J,j⟩
  .omega
  .omega
  .omega
  .rw[w]at j;cases j
def X8{α:Type}(V:Nat)(lb:Array Value)(Bk Bi:Nat)(xs:List (Nat×Fv))(w:World)(J:Option Addr)(K:Nat)(eg:∀T w,(callFunc V T).run xT w=.ok (.enter V T) w)
 (hit:∀W,Below w.heap.size w W->v7 xT V lb Y4 (λ_=>False) (PtF w.heap.size Bk Bi) xs W) (au:Bk<w.heap.size) (ar:Bi<w.heap.size)
 (E:World->Value->α->Prop) (step:α->Nat×Fv->α) (a0:α) (af:∀W,Below w.heap.size w W->E W (.slice J 0 K) a0) (ah:∀W u a,E W u a->∃ad n c,u=.slice ad n c)
 (ag:∀A B u a,E A u a->Keep (λk=>k=w.heap.size\/k=w.heap.size+2\/k=w.heap.size+3) A B->E B u a)
 (N:∀W u pre p,pre++[p] <+: xs->w.heap.size+4<=W.heap.size->Below w.heap.size w W->E W u (pre.foldl step a0)->Calls xT 151 #[u,.int .i64 (p.1:Nat),.agg #[sv p.2.1,sv p.2.2]] W λe W'=>
   ∃u',e=.returned u'/\E W' u' (step (pre.foldl step a0) p)/\Keep (zaB (w.heap.size+4) W) W W') :
 Calls xT 150 #[.func (.func V) #[] lb,.slice J 0 K,.func (.func 151) #[] #[]] w λe w'=>∃u,e=.returned u/\E w' u (xs.foldl step a0)/\Below w.heap.size w w':=by
 have an:=qL hit;have ak:=qL af;have U:=qL ah;have M:=qL ag;have aq:=qL N;clear hit af ah ag N;refine callsIn_wide.1 (Ta (n:=9) Tryz.func150 rfl trivial ?_ rfl);simp only[Tryz.ntmps150,WD,wy,Wx,Nat.reduceAdd,Nat.reduceSub,ur,ut,uH,uw,Y1,yb]
 gi_wp2
 obtain⟨I,L⟩:=xt (((w.alloc (Obj.cells #[Value.slice J 0 K] 70)).alloc (Obj.cells #[Value.func (Fn.func 151) #[] #[]] 232)));have ay:I.heap.size=w.heap.size+2:=by rw[<-L];simp
 have b0:Boxed I w.heap.size 70 (Value.slice J 0 K):=by rw[<-L];exact(tU w _ _).alloc _
 have b1:Boxed I (w.heap.size+1) 232 (Value.func (Fn.func 151) #[] #[]):=by rw[<-L];have:=tU (w.alloc (Obj.cells #[Value.slice J 0 K] 70)) 232 (Value.func (Fn.func 151) #[] #[]);rw[tw]at this;exact this
 have X:Below w.heap.size w I:=by rw[<-L];exact((tu _ _).alloc (Zp _) _).alloc b6 _
 try simp only[tw]
 rw [L];clear L;refine Xt (w:=I) V lb rfl eg Y4 (λ_=>rfl) (λ_=>False) (PtF w.heap.size Bk Bi) xs ?hit
  (SF w.heap.size 70) (λA B h k hk O=>h.2.block k O (by rintro(e|⟨e,_⟩)<;>omega)) (λA B h=>h.pt au ar b8 b8)
  ?hPt ?hPt0 ⟨id,id⟩
  (λpre W=>(∃u,Boxed W w.heap.size 70 u/\E W u (pre.foldl step a0))/\Boxed W (w.heap.size+1) 232 (Value.func (Fn.func 151) #[] #[])/\Below w.heap.size w W)
  (λ_ _ _=>False) ?hI (λ_ _ _ _ h _=>h) ⟨⟨_,b0,ak.o _ X⟩,b1,X⟩
  (λpre x a' W=>((∃u,Boxed W w.heap.size 70 u/\E W u (pre.foldl step a0))/\Boxed W (w.heap.size+1) 232 (Value.func (Fn.func 151) #[] #[])/\Below w.heap.size w W) /\
    ∃Q,W.heap[Q]?=some (.cells #[sv x.2.1,sv x.2.2] 72 (0,0))/\I.heap.size+2<=Q /\
    a'={ tmps:=#[Value.func (Fn.func V) #[] lb,Value.slice J 0 K,Value.func (Fn.func 151) #[] #[],undef,Value.pointer (some ⟨w.heap.size,0,none⟩),Value.pointer (some ⟨w.heap.size+1,0,none⟩),Value.slice none 0 0,.int .i64 (x.1:Nat),Value.pointer (some ⟨Q,0,none⟩),Value.func (Fn.func V) #[] lb,.int .i64 (x.1:Nat),.agg #[sv x.2.1,sv x.2.2],undef,undef,undef,undef,undef,undef],defers:=[] })
  ?hAx ?hassign ?hbody ?hdone (λ_ _ _ _ h _=>h.elim)
 case hit=>intro W hk ax;exact an.o W (X.trans (hk.below a8 λ_ _=>id))
 case hPt=>
  rintro A B C ⟨j,G⟩ ⟨H,y⟩;refine⟨V0 j H,λk hk F=>?_⟩;have e1:=G k hk F;refine(y k a8 ?_).trans e1;rcases F with F|F|F|⟨cs,f,F⟩
  .exact .inl F
  .exact .inr (.inl F)
  .exact .inr (.inr (.inl F))
  .exact .inr (.inr (.inr ⟨cs,f,by rw[e1];exact F⟩))
 case hPt0=>
  rintro A B hk ⟨o,ho⟩;refine⟨hk.size,λk O F=>hk.block k O ?_⟩;rintro rfl;rcases F with F|F|F|⟨cs,f,F⟩
  .omega
  .omega
  .omega
  .rw[ho]at F;cases F
 case hI=>rintro pre A B ⟨⟨u,j,G⟩,H,y⟩ av;have hk:Keep (λk=>k=I.heap.size\/k=I.heap.size+1) A B:=av.mono λ_ _ h=>h.elim False.elim id;exact⟨⟨u,hk.boxed j a8,M.o _ _ _ _ G (hk.mono λk _ h=>a8)⟩,hk.boxed H a8,y.trans (hk.below y.size λk hk=>a8)⟩
 case hAx=>rintro pre x a' A B ⟨⟨⟨u,j,G⟩,H,y⟩,Q,h5,h6,rfl⟩ hk;exact⟨⟨⟨u,hk.boxed j a8,M.o _ _ _ _ G (hk.mono λk _ h=>a8)⟩,hk.boxed H a8,y.trans (hk.below y.size λk hk=>a8)⟩,Q,hk.obj h5 a8,h6,rfl⟩
 case hassign=>
  rintro l pre ⟨i,⟨⟨x0,x1,x2⟩,⟨y0,y1,y2⟩⟩⟩ W ac O ⟨⟨u,j,G⟩,H,y⟩;clear ac;dsimp only[Y4,sv];have HX:=qL (And.intro j (And.intro G (And.intro H y)));clear j G H y
  gi_wp2
  obtain⟨j,G,H,y⟩:=HX.o;have P:∀o S,Keep S W (W.alloc o):=λo S=>(Keep.refl _ _).alloc _;refine⟨⟨⟨u,j⟩,P _ _⟩,⟨⟨u,(P _ (λ_=>False)).boxed j id,M.o _ _ _ _ G (P _ _)⟩,(P _ (λ_=>False)).boxed H id,y.alloc y.size _⟩,W.heap.size,tp W _,a8,rfl⟩
 case hbody=>
  rintro l pre ⟨i,⟨⟨x0,x1,x2⟩,⟨y0,y1,y2⟩⟩⟩ a' W ac O ⟨⟨⟨u,j,G⟩,H,y⟩,Q,h5,h6,rfl⟩;obtain⟨ua,un,uc,rfl⟩:=U.o _ _ _ G;have ae:=aq.o W _ pre _ ac a8 y G;dsimp only[sv]at ae h5⊢;have c0:=j.cell;have c1:=H.cell;have c2:W.cell? ⟨Q,0,none⟩=some (.slice x0 x1 x2):=(by simp[World.cell?,h5]);have c3:W.cell? ⟨Q,1,none⟩=some (.slice y0 y1 y2):=(by simp[World.cell?,h5]);have HS:=qL ae;have HX:=qL (And.intro j (And.intro H y));clear ae j G H y h5
  gi_wp2_with (refine⟨trivial,?_⟩;gi_at_call 151;refine(callsIn_wide.2 HS.o).mono ?_;rintro e W1 ⟨u',rfl,Y,Z⟩
               obtain⟨va,vn,vc,rfl⟩:=U.o _ _ _ Y;have j:Boxed W1 w.heap.size 70 (.slice ua un uc):=Z.boxed HX.o.1 (λh=>by have:=h.1;omega);have d0:=j.cell;have d1:=j.frozen;have am:=qL Y;have ao:=qL Z;have aj:=qL j;clear Y Z j)
  have aw:Keep (λk=>k=w.heap.size) W1 (W1.setCell ⟨w.heap.size,0,none⟩ (.slice va vn vc)):=(Keep.refl (λk=>k=w.heap.size) W1).setCell (p:=⟨w.heap.size,0,none⟩) (λ_=>rfl) _;obtain⟨j,H,y⟩:=HX.o;have ab:Keep (λk=>k=w.heap.size\/zaB (w.heap.size+4) W k) W (W1.setCell ⟨w.heap.size,0,none⟩ (.slice va vn vc)):=(ao.o.mono λk _ h=>.inr h).setCell (p:=⟨w.heap.size,0,none⟩) (λ_=>.inl rfl) _;refine⟨⟨⟨_,j⟩,ab⟩,⟨_,aj.o.set _,?_⟩,ab.boxed H (by rintro(e|⟨e,_⟩)<;>omega),y.trans (ab.below y.size λk hk=>by rintro(e|⟨e,_⟩)<;>omega)⟩;rw[WX];exact M.o _ _ _ _ am.o (aw.mono λk _ h=>.inl h)
 case hdone=>
  rintro W ⟨⟨u,j,G⟩,H,y⟩ hD;obtain⟨ua,un,uc,rfl⟩:=U.o _ _ _ G;have F:=j.cell;have HX:=qL (And.intro G y);clear j G H y
  gi_wp2
  refine⟨b6,.inl ⟨_,_,rfl,Tc hD,?_⟩⟩;have ai:Keep (λk=>k=I.heap.size) W (W.putObj I.heap.size (.deferred none)):=(Keep.refl (λk=>k=I.heap.size) W).putObj (λ_=>rfl) _;exact⟨_,tK rfl _ _ _,_,rfl,M.o _ _ _ _ HX.o.1 (ai.mono λk _ h=>a8),HX.o.2.trans (ai.below HX.o.2.size λk hk=>a8)⟩
def X7{α:Type}(V:Nat)(lb:Array Value)(Bk Bi:Nat)(xs:List (Nat×Fv))(w:World)(J:Option Addr)(K:Nat)(eg:∀T w,(callFunc V T).run xT w=.ok (.enter V T) w)
 (hit:∀W,Below w.heap.size w W->v7 xT V lb Y4 (λ_=>False) (PtF w.heap.size Bk Bi) xs W) (au:Bk<w.heap.size) (ar:Bi<w.heap.size)
 (E:World->Value->α->Prop) (step:α->Nat×Fv->α) (a0:α) (af:∀W,Below w.heap.size w W->E W (.slice J 0 K) a0) (ah:∀W u a,E W u a->∃ad n c,u=.slice ad n c)
 (ag:∀A B u a,E A u a->Keep (λk=>k=w.heap.size\/k=w.heap.size+2\/k=w.heap.size+3) A B->E B u a)
 (N:∀W u pre p,pre++[p] <+: xs->w.heap.size+4<=W.heap.size->Below w.heap.size w W->E W u (pre.foldl step a0)->Calls xT 186 #[u,.int .i64 (p.1:Nat),.agg #[sv p.2.1,sv p.2.2]] W λe W'=>
   ∃u',e=.returned u'/\E W' u' (step (pre.foldl step a0) p)/\Keep (zaB (w.heap.size+4) W) W W') :
 Calls xT 185 #[.func (.func V) #[] lb,.slice J 0 K,.func (.func 186) #[] #[]] w λe w'=>∃u,e=.returned u/\E w' u (xs.foldl step a0)/\Below w.heap.size w w':=by
 have an:=qL hit;have ak:=qL af;have U:=qL ah;have M:=qL ag;have aq:=qL N;clear hit af ah ag N;refine callsIn_wide.1 (Ta (n:=9) Tryz.func185 rfl trivial ?_ rfl);simp only[Tryz.ntmps185,WD,wy,Wx,Nat.reduceAdd,Nat.reduceSub,ur,ut,uH,uw,Y1,yb]
 gi_wp2
 obtain⟨I,L⟩:=xt (((w.alloc (Obj.cells #[Value.slice J 0 K] 208)).alloc (Obj.cells #[Value.func (Fn.func 186) #[] #[]] 267)));have ay:I.heap.size=w.heap.size+2:=by rw[<-L];simp
 have b0:Boxed I w.heap.size 208 (Value.slice J 0 K):=by rw[<-L];exact(tU w _ _).alloc _
 have b1:Boxed I (w.heap.size+1) 267 (Value.func (Fn.func 186) #[] #[]):=by rw[<-L];have:=tU (w.alloc (Obj.cells #[Value.slice J 0 K] 208)) 267 (Value.func (Fn.func 186) #[] #[]);rw[tw]at this;exact this
 have X:Below w.heap.size w I:=by rw[<-L];exact((tu _ _).alloc (Zp _) _).alloc b6 _
 try simp only[tw]
 rw [L];clear L;refine Xt (w:=I) V lb rfl eg Y4 (λ_=>rfl) (λ_=>False) (PtF w.heap.size Bk Bi) xs ?hit
  (SF w.heap.size 208) (λA B h k hk O=>h.2.block k O (by rintro(e|⟨e,_⟩)<;>omega)) (λA B h=>h.pt au ar b8 b8)
  ?hPt ?hPt0 ⟨id,id⟩
  (λpre W=>(∃u,Boxed W w.heap.size 208 u/\E W u (pre.foldl step a0))/\Boxed W (w.heap.size+1) 267 (Value.func (Fn.func 186) #[] #[])/\Below w.heap.size w W)
  (λ_ _ _=>False) ?hI (λ_ _ _ _ h _=>h) ⟨⟨_,b0,ak.o _ X⟩,b1,X⟩
  (λpre x a' W=>((∃u,Boxed W w.heap.size 208 u/\E W u (pre.foldl step a0))/\Boxed W (w.heap.size+1) 267 (Value.func (Fn.func 186) #[] #[])/\Below w.heap.size w W) /\
    ∃Q,W.heap[Q]?=some (.cells #[sv x.2.1,sv x.2.2] 72 (0,0))/\I.heap.size+2<=Q /\
    a'={ tmps:=#[Value.func (Fn.func V) #[] lb,Value.slice J 0 K,Value.func (Fn.func 186) #[] #[],undef,Value.pointer (some ⟨w.heap.size,0,none⟩),Value.pointer (some ⟨w.heap.size+1,0,none⟩),Value.slice none 0 0,.int .i64 (x.1:Nat),Value.pointer (some ⟨Q,0,none⟩),Value.func (Fn.func V) #[] lb,.int .i64 (x.1:Nat),.agg #[sv x.2.1,sv x.2.2],undef,undef,undef,undef,undef,undef],defers:=[] })
  ?hAx ?hassign ?hbody ?hdone (λ_ _ _ _ h _=>h.elim)
 case hit=>intro W hk ax;exact an.o W (X.trans (hk.below a8 λ_ _=>id))
 case hPt=>
  rintro A B C ⟨j,G⟩ ⟨H,y⟩;refine⟨V0 j H,λk hk F=>?_⟩;have e1:=G k hk F;refine(y k a8 ?_).trans e1;rcases F with F|F|F|⟨cs,f,F⟩
  .exact .inl F
  .exact .inr (.inl F)
  .exact .inr (.inr (.inl F))
  .exact .inr (.inr (.inr ⟨cs,f,by rw[e1];exact F⟩))
 case hPt0=>
  rintro A B hk ⟨o,ho⟩;refine⟨hk.size,λk O F=>hk.block k O ?_⟩;rintro rfl;rcases F with F|F|F|⟨cs,f,F⟩
  .omega
  .omega
  .omega
  .rw[ho]at F;cases F
 case hI=>rintro pre A B ⟨⟨u,j,G⟩,H,y⟩ av;have hk:Keep (λk=>k=I.heap.size\/k=I.heap.size+1) A B:=av.mono λ_ _ h=>h.elim False.elim id;exact⟨⟨u,hk.boxed j a8,M.o _ _ _ _ G (hk.mono λk _ h=>a8)⟩,hk.boxed H a8,y.trans (hk.below y.size λk hk=>a8)⟩
 case hAx=>rintro pre x a' A B ⟨⟨⟨u,j,G⟩,H,y⟩,Q,h5,h6,rfl⟩ hk;exact⟨⟨⟨u,hk.boxed j a8,M.o _ _ _ _ G (hk.mono λk _ h=>a8)⟩,hk.boxed H a8,y.trans (hk.below y.size λk hk=>a8)⟩,Q,hk.obj h5 a8,h6,rfl⟩
 case hassign=>
  rintro l pre ⟨i,⟨⟨x0,x1,x2⟩,⟨y0,y1,y2⟩⟩⟩ W ac O ⟨⟨u,j,G⟩,H,y⟩;clear ac;dsimp only[Y4,sv];have HX:=qL (And.intro j (And.intro G (And.intro H y)));clear j G H y
  gi_wp2
  obtain⟨j,G,H,y⟩:=HX.o;have P:∀o S,Keep S W (W.alloc o):=λo S=>(Keep.refl _ _).alloc _;refine⟨⟨⟨u,j⟩,P _ _⟩,⟨⟨u,(P _ (λ_=>False)).boxed j id,M.o _ _ _ _ G (P _ _)⟩,(P _ (λ_=>False)).boxed H id,y.alloc y.size _⟩,W.heap.size,tp W _,a8,rfl⟩
 case hbody=>
  rintro l pre ⟨i,⟨⟨x0,x1,x2⟩,⟨y0,y1,y2⟩⟩⟩ a' W ac O ⟨⟨⟨u,j,G⟩,H,y⟩,Q,h5,h6,rfl⟩;obtain⟨ua,un,uc,rfl⟩:=U.o _ _ _ G;have ae:=aq.o W _ pre _ ac a8 y G;dsimp only[sv]at ae h5⊢;have c0:=j.cell;have c1:=H.cell;have c2:W.cell? ⟨Q,0,none⟩=some (.slice x0 x1 x2):=(by simp[World.cell?,h5]);have c3:W.cell? ⟨Q,1,none⟩=some (.slice y0 y1 y2):=(by simp[World.cell?,h5]);have HS:=qL ae;have HX:=qL (And.intro j (And.intro H y));clear ae j G H y h5
  gi_wp2_with (refine⟨trivial,?_⟩;gi_at_call 186;refine(callsIn_wide.2 HS.o).mono ?_;rintro e W1 ⟨u',rfl,Y,Z⟩
               obtain⟨va,vn,vc,rfl⟩:=U.o _ _ _ Y;have j:Boxed W1 w.heap.size 208 (.slice ua un uc):=Z.boxed HX.o.1 (λh=>by have:=h.1;omega);have d0:=j.cell;have d1:=j.frozen;have am:=qL Y;have ao:=qL Z;have aj:=qL j;clear Y Z j)
  have aw:Keep (λk=>k=w.heap.size) W1 (W1.setCell ⟨w.heap.size,0,none⟩ (.slice va vn vc)):=(Keep.refl (λk=>k=w.heap.size) W1).setCell (p:=⟨w.heap.size,0,none⟩) (λ_=>rfl) _;obtain⟨j,H,y⟩:=HX.o;have ab:Keep (λk=>k=w.heap.size\/zaB (w.heap.size+4) W k) W (W1.setCell ⟨w.heap.size,0,none⟩ (.slice va vn vc)):=(ao.o.mono λk _ h=>.inr h).setCell (p:=⟨w.heap.size,0,none⟩) (λ_=>.inl rfl) _;refine⟨⟨⟨_,j⟩,ab⟩,⟨_,aj.o.set _,?_⟩,ab.boxed H (by rintro(e|⟨e,_⟩)<;>omega),y.trans (ab.below y.size λk hk=>by rintro(e|⟨e,_⟩)<;>omega)⟩;rw[WX];exact M.o _ _ _ _ am.o (aw.mono λk _ h=>.inl h)
 case hdone=>
  rintro W ⟨⟨u,j,G⟩,H,y⟩ hD;obtain⟨ua,un,uc,rfl⟩:=U.o _ _ _ G;have F:=j.cell;have HX:=qL (And.intro G y);clear j G H y
  gi_wp2
  refine⟨b6,.inl ⟨_,_,rfl,Tc hD,?_⟩⟩;have ai:Keep (λk=>k=I.heap.size) W (W.putObj I.heap.size (.deferred none)):=(Keep.refl (λk=>k=I.heap.size) W).putObj (λ_=>rfl) _;exact⟨_,tK rfl _ _ _,_,rfl,M.o _ _ _ _ HX.o.1 (ai.mono λk _ h=>a8),HX.o.2.trans (ai.below HX.o.2.size λk hk=>a8)⟩
def zgV(P:Program)(y:Nat)(w:List Nat)(id:Nat)(u:Array Oper)(j:Bool):PC:=(qx P y w (.region id u j)).getD .sk
def zgW(c:Operand):PO:=(po c).getD (.c .und)
def pcT(P:Program)(u:Nat)(j:List Nat)(k:Nat)(X:PC):Code->PC
 |.region id ops draw=>if id=k then X else zgV P u j id ops draw
 |.seq a b=>.sq (pcT P u j k X a) (pcT P u j k X b)
 |.cond c a b=>.cd (zgW c) (pcT P u j k X a) (pcT P u j k X b)
 |.block id a=>.bk id (pcT P u j k X a)
 |.loop a=>.lp [] (pcT P u j k X a)
 |.exit id=>.ex id
 |.ret=>.rt
 |.scope a=>pcT P u j k X a
 |_=>.sk
def zhs{P:Program}{f:FuncId}{fn:Func}(C:P.funcs[f]?=some fn)(j:List Nat){u:List PV}{r:PV}(n:Nat)(w:zbo P fn j n=true)(E:u.length=n)(y:∀p∈u,p.own=none)(k:Nat)(X:PC){c:Code}(B:xN fn=c)(F:qx P fn.ntmps j c=some (pcT P fn.ntmps j k X c))(A:pW P fn.ntmps True (pcT P fn.ntmps j k X c) (jG (zgk P fn) r) ⟨qQ 0 u,[]⟩):Cn P f u r:=by refine zgM C j n w E y ?_;unfold zbt;rw[B,F,WQ];exact A
attribute [local go_sem] Oper.semAt_some
def zsw{w:World}{g:Nat}{u:Array Value}{T:TypeId}(h:w.heap[g]?=some (.cells u T (0,0)))(i:Nat)(v:Value):(w.setCell ⟨g,i,none⟩ v).heap[g]?=some (.cells (u.setIfInBounds i v) T (0,0)):=by obtain⟨j,hk⟩:=XE.1 h;show (w.heap.modify g _)[g]?=_;rw[We (by rw[Array.size_modify];exact j),Array.getElem_modify_self,hk];simp
structure Kd(base:Nat)(w w':World):Prop where
 below:Below base w w'
 cell:∀a v,w.cell? a=some v->∃v',w'.cell? a=some v'/\(v'=v\/((∃m,v=.int .u64 m)/\∃m',v'=.int .u64 m'))
 frz:∀a v,w.cell? a=some v->w'.frozen? a=w.frozen? a
def NumAt(S:Nat->Prop)(w:World)(b o:Nat):Prop:=S b/\∃m,w.cell? ⟨b,o,none⟩=some (.int .u64 m)/\w.frozen? ⟨b,o,none⟩=false
def MuR(f:Qk)(sz:Nat)(v:Value)(n:Nat):Prop:=∃a u,v=.slice a n u/\n<=u/\u<=maxLen/\(n≠0->∃b w,a=some ⟨b,w,none⟩/\∀j,j<n->f b (w+j*sz))
def MuI(S:Nat->Prop)(w:World)(v:Value):Prop:=∃n,MuR (λb o=>NumAt S w b o/\NumAt S w b (o+1)) 2 v n
def MuE(S:Nat->Prop)(w:World)(v:Value):Prop:=∃n,MuR (λb o=>NumAt S w b o/\NumAt S w b (o+1)/\∃h,w.cell? ⟨b,o+2,none⟩=some h/\MuI S w h) 3 v n
def MuF(S:Nat->Prop)(w:World)(v:Value):Prop:=∃n,MuR (λb o=>(∃h,w.cell? ⟨b,o,none⟩=some h/\MuI S w h)/\∃h,w.cell? ⟨b,o+1,none⟩=some h/\MuE S w h) 2 v n
def MuR.imp{f g:Qk}{sz n:Nat}{v:Value}(h:MuR f sz v n)(hi:∀b o,f b o->g b o):MuR g sz v n:=by obtain⟨a,u,y,A,B,C⟩:=h;refine⟨a,u,y,A,B,λG=>?_⟩;obtain⟨b,w,e,E⟩:=C G;exact⟨b,w,e,λj F=>hi _ _ (E j F)⟩
def MuR.nil{f:Qk}{sz:Nat}:MuR f sz (.slice none 0 0) 0:=⟨none,0,rfl,Zp _,b8,λh=>absurd rfl h⟩
section
variable {S T:Nat->Prop}{base b o:Nat}{w w':World}{v:Value}
def NumAt.mono(h:NumAt S w b o)(j:∀b,S b->T b):NumAt T w b o:=⟨j _ h.1,h.2⟩
def NumAt.same(h:NumAt S w b o)(hb:∀b,S b->b<w.heap.size->w'.heap[b]?=w.heap[b]?):NumAt S w' b o:=⟨h.1,by
 obtain⟨y,m,j,u⟩:=h;have e:=hb b y (tq _ _ j);exact⟨m,(tn (a:=⟨b,o,none⟩) e).trans j,by simp only[World.frozen?,e]at u⊢;exact u⟩⟩
def MuI.mono(h:MuI S w v)(j:∀b,S b->T b):MuI T w v:=
 h.imp λ_ h=>h.imp λ_ _ h=>⟨h.1.mono j,h.2.mono j⟩
def MuI.same(h:MuI S w v)(hb:∀b,S b->b<w.heap.size->w'.heap[b]?=w.heap[b]?):MuI S w' v:=
 h.imp λ_ h=>h.imp λ_ _ h=>⟨h.1.same hb,h.2.same hb⟩
def MuE.mono(h:MuE S w v)(j:∀b,S b->T b):MuE T w v:=
 h.imp λ_ h=>h.imp λ_ _ h=>⟨h.1.mono j,h.2.1.mono j,h.2.2.imp λ_ g=>⟨g.1,g.2.mono j⟩⟩
def MuE.same(h:MuE S w v)(hb:∀b,S b->b<w.heap.size->w'.heap[b]?=w.heap[b]?):MuE S w' v:=
 h.imp λ_ h=>h.imp λb _ h=>⟨h.1.same hb,h.2.1.same hb,h.2.2.imp λ_ g=>⟨(tn (hb b h.1.1 (tq _ _ g.1))).trans g.1,g.2.same hb⟩⟩
def MuF.mono(h:MuF S w v)(j:∀b,S b->T b):MuF T w v:=
 h.imp λ_ h=>h.imp λ_ _ h=>⟨h.1.imp λ_ g=>⟨g.1,g.2.mono j⟩,h.2.imp λ_ g=>⟨g.1,g.2.mono j⟩⟩
end
def wpList_append_copy{w:World}{O:Array Oper}{rest:List Oper}{o:Oper}{a:Act}{Q:Exit->Act->World->Prop}(L:o.guard=none)(s x:Operand)
 (ho:o.op=.call { callee:=.builtin .append,args:=#[s,x],argTypes:=#[26,26] }) (i:TypeInfo) (z:Value) (y:Nat)
 (hi:xT.info? 58 = some i) (hz:i.zero=some z) (G:i.size=2) (X:i.bytes=y) (V:y<=64) (hzs:z.cells.size=2)
 (B:Nat) (hs:a.eval s=.slice (some ⟨B,0,none⟩) 0 0) (hB:w.heap[B]?=some (.cells #[] 58 (0,0))) (N:Nat) (ab:N<=B)
 {v:Value} {l:List Iv} (hx:a.eval x=v) (hr:RdR 0 w.heap.size w v l) (hl:l.length<=1099511627776)
 (h:∀S w',OwnR N w' S l->Below B w w'->wpList xT O Q rest (a.put o.dst S) w') :
 wpList xT O Q (o::rest) a w:=by
 have ae:B<w.heap.size:=(XE.1 hB).1;have A:w.ownsRow N 58 2 (.slice (some ⟨B,0,none⟩) 0 0) 0 []:=⟨rfl,.inr ⟨B,0,#[],rfl,ab,hB,Zp _,b8,rfl,rfl⟩⟩;have I:=hr.bound;obtain⟨T,U,rfl,ag,af,Y⟩:=hr;cases T with
 | none=>
   obtain rfl:l=[]:=by
    cases l with
    |nil=>rfl
    |cons s l=>obtain⟨b,C,e,_⟩:=Y b6;cases e
   refine TX L λK hK=>?_;have E:OwnR N w (.slice (some ⟨B,0,none⟩) 0 0) []:=⟨A,b6⟩;have hq:=hK _ _ (h _ _ E (tu _ _));clear A Y I h hK E;simp only[Wx]at hx;unfold Oper.wp execOp;simp only[ho,resolve,invoke,builtin,tG,tI,tA,ug,Wz,W7,hs,hx];go_simp;exact hq
 | some T=>
   refine Tg (P:=xT) w L s x 26 ho N 58 i z 2 y Tryz.underlying26 hi hz G X hzs b8 _ 0 [] hs A T l.length U (xw l) hx (y6 l) ?_ ?_ c8 ?_ a8 ?_
   .intro j u M;have Z:j<l.length*2:=by
     have:=(Zw.1 M).1
     rwa[y6]at this
    have ac:l≠[]:=(by intro e;subst e;simp at Z);obtain⟨b,C,e,_,_,F⟩:=Y ac;cases e;have H:(⟨b,C,none⟩:Addr).add j=⟨b,C+j,none⟩:=by unfold Addr.add;split<;>simp_all
    rw[H];have hk:j/2<l.length:=a8;obtain⟨g1,g2,_⟩:=F (j/2) hk;obtain⟨f1,f2⟩:=vz l (j/2) hk;rcases UO j with h0|h0
    .have e:j/2*2=j:=a8;rw[e]at g1 f1;rw[f1]at M;cases M;exact g1
    .have e:j/2*2+1=j:=a8;rw[show C+j/2*2+1=C+j from by omega]at g2;rw[e]at f2;rw[f2]at M;cases M;exact g2
   .intro u hu;simp[xw]at hu;obtain⟨s,_,rfl|rfl⟩:=hu<;>rfl
   .calc (0+l.length)*y<=1099511627776*64:=UP a8 V
     _<=140737488355328:=b8
   .intro S w' ho J _ hv;refine h S w' ⟨?_,I⟩ ⟨J.os,J.tape,J.output,J.size,λk hk=>J.block k a8 (by simp[Value.ownBlock];omega)⟩;simpa using ho
def zff(b:Addr)(n c:Nat)(w:World):(binOp .eql 26 (.slice (some b) n c) (.slice none 0 0)).run xT w=.ok (.bool false) w:=dK
def zqL(n c:Nat)(w:World):(binOp .eql 26 (.slice none n c) (.slice none 0 0)).run xT w=.ok (.bool true) w:=dK
def zeX{w:World}{v:Value}{l:List Iv}(H:RdR 0 w.heap.size w v l)(O:l.length<=1099511627776):
 Calls xT 89 #[v] w λe w'=>∃E,e=.returned E/\OwnR w.heap.size w' E l/\Below w.heap.size w w':=by
 obtain⟨S,y,A,B,C⟩:=tQ Tryz.infoIv;have L:=qL H;obtain⟨a,u,rfl,M,N,F⟩:=H;cases a with
 | none=>
   have I:=qL (show l=[] from wU λP=>by obtain⟨b,T,e,_⟩:=F P;cases e);have Q:=zqL l.length u;clear M N F y A B C;go_enter Tryz.func89,Tryz.ntmps89
   go_wp2;go_ret;exact⟨_,rfl,by rw[I.o];exact OwnR.nil _ _,tu _ _⟩
 | some b=>
   clear F;have J:qA (RdR 0 (w.alloc (.cells #[] 58)).heap.size (w.alloc (.cells #[] 58)) (.slice (some b) l.length u) l):=qL (L.o.keep (Zp _) b6 λj _ h=>tv _ _ _ h);have K:=tp w (.cells #[] 58 (0,0));have Q:=zff b l.length u;go_enter Tryz.func89,Tryz.ntmps89
   go_wp2_with (at_builtin;refine wpList_append_copy rfl _ _ rfl S (.agg #[.int .u64 0,.int .u64 0]) 16 y A B C b8 rfl w.heap.size rfl K w.heap.size (Zp _) rfl J.o O ?_;intro E w' ho G)
   go_ret;exact⟨E,rfl,ho,((tu _ w).alloc (Zp _) (.cells #[] 58 (0,0))).trans G⟩
def zii{P:Program}{I:Nat}{ms:List Nat}{c:Code}{U:PC}(Y:qx P I ms c=some U){D0 D:Qk}{w0 w:World}(C:GL D0 w0)(a:Act)(L:Fr ⟨w0,D0,λ_=>False,C,a.defers⟩ D w)(X:∀b o,D b o->b<w.heap.size){rb:Nat}(M:w0.heap.size<=rb){x:Value}{p:PV}{e:TypeId}(K:w.heap[rb]?=some (.cells #[x] e (0,0)))(hx:Dat D w x p)(T:x.oneCell'=true)(J:∀o,¬D rb o)
 (N:a.tmps.size=I) (F:List (Nat×PV)) (O:∀t,(yr F t=.bx 0 0/\zB a t=.pointer (some ⟨rb,0,none⟩))\/Dat D w (zB a t) (yr F t)) (G:∀t,(yr F t).own=none) (hp:p.own=none) {Q:PX->PS->Prop} (S:pW P I True U Q ⟨F,[[p]]⟩) :
 c.wp P (QL ⟨w0,D0,λ_=>False,C,a.defers⟩ I Q) a w:=by
 have E:∀u q,zQ ⟨D,λ_=>rb⟩ ⟨F,[[p]]⟩ (zB a) w u q->q.own=none:=by
  rintro u q (⟨t,rfl,rfl⟩|⟨i,j,V,y,A,_⟩)
  .exact G t
  .match i,y with
   |0,y=>
     cases y;match j,A with
     |0,A=>cases A;exact hp
     |j+1,A=>simp at A
   |i+1,y=>simp at y
 refine Ql (B:=⟨w0,D0,λ_=>False,C,a.defers⟩) (λ_ _ h=>h) c U Y Q ⟨F,[[p]]⟩ ⟨D,λ_=>rb⟩ a w S ⟨⟨λt=>?_,λi V hi=>?_,λi j hi Z _=>?_,λu q h=>zr (E u q h),λu q u' q' b h _ ho=>absurd (E u q h) ho,λu q b i h ho=>absurd (E u q h) ho,X,λi _ o=>J o,L⟩,rfl,N⟩
 .show Rel D (λ_=>rb) 1 w (zB a t) (yr F t);rcases O t with⟨y,A⟩|h
  .rw[y,A];exact .inl (.inr ⟨0,0,rfl,b8,rfl⟩)
  .exact .dat h
 .match i,hi with
  |0,hi=>
    cases hi;refine⟨.inl M,#[x],e,K,rfl,λj q H=>?_⟩;match j,H with
    |0,H=>cases H;exact⟨.dat hx,T⟩
    |j+1,H=>simp at H
  |i+1,hi=>simp at hi
 .simp at hi Z;omega
def zih{P:Program}{nt:Nat}{c:Code}(G:(qx P nt [] c).isSome=true){D0 D:Qk}{w0 w:World}(j:GL D0 w0)(a:Act)(F:Fr ⟨w0,D0,λ_=>False,j,a.defers⟩ D w)(L:∀b o,D b o->b<w.heap.size){rb:Nat}(H:w0.heap.size<=rb){x:Value}{p:PV}{e:TypeId}(E:w.heap[rb]?=some (.cells #[x] e (0,0)))(N:Dat D w x p)(K:x.oneCell'=true)(C:∀o,¬D rb o)
 (I:a.tmps.size=nt) (B:List (Nat×PV)) (J:∀t,(yr B t=.bx 0 0/\zB a t=.pointer (some ⟨rb,0,none⟩))\/Dat D w (zB a t) (yr B t)) (u:∀t,(yr B t).own=none) (M:p.own=none) {Q:PX->PS->Prop} (A:pW P nt True ((qx P nt [] c).getD .sk) Q ⟨B,[[p]]⟩) :
 c.wp P (QL ⟨w0,D0,λ_=>False,j,a.defers⟩ nt Q) a w:=by
 obtain⟨O,y⟩:=wY.1 G;rw[y]at A;exact zii y j a F L H E N K C I B J u M A
def zfM{P:Program}{fn:Func}{Q:Nat}{x y:RV}{B:Bs}(U:yc P fn.results.toList=some [x,y]){p q:PV}{e:Exit}{a:Act}{w:World}(h:QL B Q (jG [x,y] (.tup [p,q])) e a w):
 (e=.normal\/e=.ret)/\a.defers=B.df/\∃(v:Value) (A:Qk),(results fn a.tmps).run P w=.ok v w/\Fr B A w/\(∀b o,A b o->b<w.heap.size)/\Dat A w v (.tup [p,q]):=by
 have H:∀s g,RA B Q g s a w->jC [x,y] s (.tup [p,q])->a.defers=B.df/\∃(v:Value) (A:Qk),(results fn a.tmps).run P w=.ok v w/\Fr B A w/\(∀b o,A b o->b<w.heap.size)/\Dat A w v (.tup [p,q]):=by
  intro s g K G;obtain⟨J,L,_⟩:=K;have j:(match YJ s [x,y]with|some S=>S.all PV.resD=true/\SubP 0 (.tup (S.map PV.sh)) (.tup [p,q])|none=>False):=by cases x<;>exact G
  have M:∀{I u},YJ s I=some u->u.length=I.length:=by
   intro I;induction I with
   |nil=>intro u h;cases h;rfl
   |cons x l ih=>intro u h;simp only[YJ,Z3,ZZ]at h;obtain⟨p,_,Y,N,rfl⟩:=h;simp[ih N]
  cases E:YJ s [x,y]with
  |none=>rw[E]at j;exact j.elim
  | some u=>
    rw[E]at j;obtain⟨F,C⟩:=j;obtain⟨us,V,O,_,X⟩:=Kj J U E F;have T:us.length=2:=(by rw[O,M E];rfl);match us,T with
    |[u1,u2],_=>refine⟨L,.tuple #[u1,u2],g.D,xZ fn _ V,J.fr,J.dlt,ze2 (ρ:=g.ρ) (SubP.rel C (nb:=0) (.dat (.tup _ _ (by simp[<-O]) λi p E=>?_)))⟩;simp only[wj,ZZ]at E;obtain⟨q,N,rfl⟩:=E;have:=X i q N;simpa[Q9]using this
 cases e with
 |normal=>obtain⟨s,g,F,C⟩:=h;exact⟨.inl rfl,H s g F C⟩
 |ret=>obtain⟨s,g,F,C⟩:=h;exact⟨.inr rfl,H s g F C⟩
 |exit id=>obtain⟨s,g,F,C⟩:=h;exact C.elim
 |goto l=>exact h.elim
 |panic ch=>exact h.elim
 |outgrown=>exact h.elim
end
section
open Go.RowKit
instance kpoW:Pl.Kpo World:=⟨Keep qe,λw=>Keep.refl _ w,λ_ _ _ h k=>h.trans k⟩
namespace Pl
variable {Ω:Type}[Kpo Ω]
def walkE_mono{j:Oper->Act->Ω->(Act->Ω->Prop)->Prop}{a0:Act}{w0:Ω}{C:Ω->Prop}{E u:List (Option Tmp×VP Ω)->Prop}(w:∀env,E env->u env):∀(l:List Oper)(env:List (Option Tmp×VP Ω)),walkE j a0 w0 C E l env->walkE j a0 w0 C u l env
 |[],env,h=>w env h
 |o::l,env,⟨V,h1,h2,h3⟩=>⟨V,h1,h2,walkE_mono w l _ h3⟩
omit [Kpo Ω] in
def finG_mono{F j:Act->Ω->Prop}{w:Ω}(hF:∀a w,F a w->j a w):∀(env:List (Option Tmp×VP Ω))(a:Act),finG F w env a->finG j w env a
 |[],a,h=>hF a w h
 |(none,_)::r,a,h=>finG_mono hF r a h
 |(some d,V)::r,a,h=>λu y=>finG_mono hF r _ (h u y)
section
variable {P:Program}{Q:Exit->Act->World->Prop}{a0:Act}{w0:World}{C:World->Prop}{E:List (Option Tmp×VP World)->Prop}{l:List Oper}{o:Oper}{env:List (Option Tmp×VP World)}{f:Nat->Nat}
def wdetK(v:Value)(B:o.guard=none)(h:∀a w,C w->Keep qe w0 w->Rds env a0 (zA o) a w->(execOp a.eval o).run P w=.ok (.value v) w)
 (F:walkE (xC P Q) a0 w0 C E l (env++[(o.dst,λu _=>u=v)])):walkE (xC P Q) a0 w0 C E (jA f o::l) env:=
 ⟨λu _=>u=v,λ_ _ _ h _=>h,by
  have j:(jA f o).guard=none:=(by simp[jA,B]);unfold stepOk;rw[j];intro a w y hk G K A;show (jA f o).wp P a w K Q;rw[Xq];show o.upon P a K Q ((execOp a.eval o).run P w);rw[h a w y hk G];exact A v w (Keep.refl _ _) y rfl,F⟩
def wgenK(V:VP World)(hs:∀u w w',V u w->Keep qe w w'->V u w')(B:o.guard=none)
 (h:headOk (xC P Q) a0 w0 C env o V) (F:walkE (xC P Q) a0 w0 C E l (env++[(o.dst,V)])):walkE (xC P Q) a0 w0 C E (jA f o::l) env:=
 ⟨V,hs,by
  have j:(jA f o).guard=none:=(by simp[jA,B]);unfold stepOk;rw[j];intro a w A hk G K y;show (jA f o).wp P a w K Q;rw[Xq];exact h a w A hk G K y,F⟩
end
end Pl
def znC{P:Program}{id:Nat}{l:List Oper}{Q:Exit->Act->World->Prop}{a:Act}{w:World}(σ:List Nat)(y nt:Nat)(C:World->Prop)(hm:P.follows .mixedOrders=true)(hp:q9 l.length σ=true)
 (V:(zck (z8 l σ).toArray y 1 nt && yK (z8 l σ).toArray (y+1))=true) (ac:a.tmps.size=nt) (hC:C w.drew) (j u:Oper) (hcut:(z8 l σ)[y+1]?=some j) (N:(z8 l σ)[y]?=some u) (ab:j.guard=none) (O:u.guard=none) (H:List Oper) (M:(z8 l σ).drop (y+2)=H)
 (h:Pl.walkE (xC P Q) a w.drew C (λenv=>(∀w',C w'->Keep qe w.drew w'->Pl.finG (λa w=>wpList P (z8 l σ).toArray Q (j::H) a w) w' env a)/\∀w',C w'->Keep qe w.drew w'->Pl.finG (λa w=>j.wp P a w (λa w=>wpList P (z8 l σ).toArray Q (u::H) a w) Q) w' (env.take y) a) ((z8 l σ).take (y+1)) []):(Code.region id l.toArray true).wp P Q a w:=by
 refine TT hm ?_;refine xd hp ?_;generalize z8 l σ=L at *;rw[Vq]at V;obtain⟨ad,T,hR,G,A,F⟩:=KI V.1;have hs:y+2<=L.length:=dJ T
 have Z:L.drop (y+1)=j::H:=by rw[vD a8,M];rw[Zv a8]at hcut;rw[wD hcut]
 obtain⟨U,E⟩:∃U:Nat->Act->World->Prop,U=λc=>match c with|0=>wpList P L.toArray Q (u::H)|_=>wpList P L.toArray Q H:=⟨_,rfl⟩
 refine Pl.greadyC (Ω:=World) (ops:=L.toArray) (nh:=y) (r:=1) (a0:=a) (w0:=w.drew) (C:=C) rfl (xC P Q) (wpOp P L.toArray Q) (wpAny P .any L.toArray Q) (λa w=>Q .normal a w) (λk a w=>wpList P L.toArray Q (L.drop k) a w)
  ?_ (λi K K' a w hk hs=>Tt hk hs) (λB a w I J=>⟨I,J⟩) (λae B a w I J=>⟨I,J⟩) ?_ ?_ ad hR G A F V.2 T U ?_ ?_ ac hC (Pl.walkE_mono ?_ _ _ h)
 .intro i o K a w ho hs;unfold wpOp;simp only[ho];split
  .rename_i hw;rw[vj hw]at hs;exact .inl hs
  .rename_i hw;rw[Vm hw]at hs;exact hs
 .intro k a w hk ht;have S:k<L.length:=(dJ hk);simp only[vD S,wpList]at ht;unfold wpOp;simp only[wF,Zv S];exact ht
 .intro a w ht;simpa[wpList]using ht
 .intro c a w Y ht;obtain rfl:c=0:=a8;rw[E]at ht⊢;simp only[wpList,vj (show Region.wanted u (yielded L.toArray a.tmps)=true by simp[Region.wanted,O])]at ht;unfold wpOp;simp only[wF,ue,N];rw[vj (show Region.wanted u (yielded L.toArray a.tmps)=true by simp[Region.wanted,O])];exact ht
 .intro a w ht;rw[E]at ht;show wpList P L.toArray Q (L.drop (y+2)) a w;rw[M];exact ht
 .rintro env ⟨I,J⟩;refine⟨λw' Y hk=>?_,λc Y w' X hk=>?_⟩
  .rw[Z];exact I w' Y hk
  .obtain rfl:c=0:=a8;refine Pl.finG_mono (λa w h=>?_) _ _ (J w' X hk);unfold wpOp;simp only[wF,hcut];rw[vj (show Region.wanted j (yielded L.toArray a.tmps)=true by simp[Region.wanted,ab]),E];exact .inl h
end
section
open Go.RowKit
attribute [local go_sem] Oper.semAt_some
def zex(a:Option Addr)(n c item:Nat)(w:World):Calls xT 69 #[.slice a n c,.int .u64 (item:Nat)] w λe w'=>e=.returned (.func (.func 106) #[] #[.pointer (some ⟨w.heap.size,0,none⟩),.pointer (some ⟨w.heap.size+1,0,none⟩)])/\w'=(w.alloc (.cells #[.slice a n c] 24)).alloc (.cells #[.int .u64 (item:Nat)] 38):=by
 go_enter Tryz.func69,Tryz.ntmps69
 go_wp2;go_ret;exact⟨rfl,rfl⟩
def znR{α:Type}{q:α->Bool}{l j:List α}(h:l <+: j)(u:l.any q=true):j.any q=true:=by obtain⟨r,rfl⟩:=h;rw[UE,u];rfl
def SH(n:Nat)(A B:World):Prop:=(∃v,Boxed A n 4 v)/\Keep (λk=>k=n) A B
def SH.pt{n E C y:Nat}{A B:World}(h:SH n A B)(J:E<=n)(F:C≠n)(G:y≠n):PtF E C y A B:=by
 obtain⟨⟨v,H⟩,hk⟩:=h;refine⟨hk.size,λk u j=>hk.block k u ?_⟩;rintro rfl;rcases j with j|j|j|⟨I,f,j⟩
 .omega
 .exact F j.symm
 .exact G j.symm
 .have w:A.heap[k]?=some (.cells #[v] 4 (0,0)):=H;rw[w]at j;cases j
def zn5(O:Option Addr)(T P item r c:Nat)(xs:List (Nat×Fv))(q:Nat×Fv->Bool)(w:World)
 (hit:∀W,(∀k,k<w.heap.size->W.heap[k]?=w.heap[k]?)->w.heap.size+5<=W.heap.size->W.cell? ⟨w.heap.size+3,0,none⟩=some (.slice O T P)->W.cell? ⟨w.heap.size+4,0,none⟩=some (.int .u64 (item:Nat)) ->
   v7 xT 106 #[.pointer (some ⟨w.heap.size+3,0,none⟩),.pointer (some ⟨w.heap.size+4,0,none⟩)] Y4 (λ_=>False) (PtF w.heap.size (w.heap.size+3) (w.heap.size+4)) xs W)
 (Q:∀W p,p∈xs->Below w.heap.size w W->Calls xT 70 #[sv p.2.2,.int .u64 (r:Nat),.int .u64 (c:Nat)] W λe W'=>e=.returned (.bool (q p))/\Below W.heap.size W W') :
 Calls xT 34 #[.slice O T P,.int .u64 (item:Nat),.int .u64 (r:Nat),.int .u64 (c:Nat)] w λe w'=>e=.returned (.bool (xs.any q))/\Below w.heap.size w w':=by
 have ae:=qL hit;have HH:=qL Q;clear hit Q;refine callsIn_wide.1 (Ta (n:=9) Tryz.func34 rfl trivial ?_ rfl);simp only[Tryz.ntmps34,WD,wy,Wx,Nat.reduceAdd,Nat.reduceSub,ur,ut,uH,uw,Y1,yb]
 gi_wp2_with (refine⟨trivial,?_⟩;gi_at_call 69;refine(callsIn_wide.2 (zex _ _ _ _ _)).mono ?_;rintro e w' ⟨rfl,rfl⟩)
 obtain⟨y,F⟩:=xt ((((((w.alloc (Obj.cells #[.int .u64 (r:Nat)] 38)).alloc (Obj.cells #[.int .u64 (c:Nat)] 38)).alloc (Obj.cells #[.bool false] 4)).alloc (Obj.cells #[.slice O T P] 24)).alloc (Obj.cells #[.int .u64 (item:Nat)] 38)));have ag:y.heap.size=w.heap.size+5:=by rw[<-F];simp
 have b0:Boxed y w.heap.size 38 (.int .u64 (r:Nat)):=by rw[<-F];exact((((tU w _ _).alloc _).alloc _).alloc _).alloc _
 have b1:Boxed y (w.heap.size+1) 38 (.int .u64 (c:Nat)):=by rw[<-F];have:=tU (w.alloc (Obj.cells #[.int .u64 (r:Nat)] 38)) 38 (.int .u64 (c:Nat));rw[tw]at this;exact((this.alloc _).alloc _).alloc _
 have b2:Boxed y (w.heap.size+2) 4 (.bool false):=by rw[<-F];have:=tU ((w.alloc (Obj.cells #[.int .u64 (r:Nat)] 38)).alloc (Obj.cells #[.int .u64 (c:Nat)] 38)) 4 (.bool false);simp only[tw]at this;exact(this.alloc _).alloc _
 have b3:Boxed y (w.heap.size+3) 24 (.slice O T P):=by rw[<-F];have:=tU (((w.alloc (Obj.cells #[.int .u64 (r:Nat)] 38)).alloc (Obj.cells #[.int .u64 (c:Nat)] 38)).alloc (Obj.cells #[.bool false] 4)) 24 (.slice O T P);simp only[tw]at this;exact this.alloc _
 have b4:Boxed y (w.heap.size+4) 38 (.int .u64 (item:Nat)):=by rw[<-F];have:=tU ((((w.alloc (Obj.cells #[.int .u64 (r:Nat)] 38)).alloc (Obj.cells #[.int .u64 (c:Nat)] 38)).alloc (Obj.cells #[.bool false] 4)).alloc (Obj.cells #[.slice O T P] 24)) 38 (.int .u64 (item:Nat));simp only[tw]at this;exact this
 have ab:Below w.heap.size w y:=by rw[<-F];exact(((((tu _ _).alloc (Zp _) _).alloc b6 _).alloc a9 _).alloc a9 _).alloc a9 _
 try simp only[tw]
 rw [F];clear F;refine Xt (w:=y) 106 #[.pointer (some ⟨w.heap.size+3,0,none⟩),.pointer (some ⟨w.heap.size+4,0,none⟩)] rfl (enters_of Tryz.func106 dK rfl) Y4 (λ_=>rfl)
  (λ_=>False) (PtF w.heap.size (w.heap.size+3) (w.heap.size+4)) xs ?hit
  (SH (w.heap.size+2)) (λA B h k hk L=>h.2.block k L a8) (λA B h=>h.pt a8 a8 a8)
  ?hPt ?hPt0 ⟨id,id⟩
  (λpre W=>Boxed W w.heap.size 38 (.int .u64 (r:Nat))/\Boxed W (w.heap.size+1) 38 (.int .u64 (c:Nat))/\Boxed W (w.heap.size+2) 4 (.bool false)/\Below w.heap.size w W/\qA (pre.any q=false))
  (λcd pre W=>cd=.ret/\Boxed W (w.heap.size+2) 4 (.bool true)/\Below w.heap.size w W/\qA (pre.any q=true)) ?hI ?hIx ⟨b0,b1,b2,ab,qL rfl⟩
  (λpre x a' W=>(Boxed W w.heap.size 38 (.int .u64 (r:Nat))/\Boxed W (w.heap.size+1) 38 (.int .u64 (c:Nat))/\Boxed W (w.heap.size+2) 4 (.bool false)/\Below w.heap.size w W/\qA (pre.any q=false)) /\
    ∃U,W.heap[U]?=some (.cells #[sv x.2.1,sv x.2.2] 72 (0,0))/\y.heap.size+2<=U /\
    a'={ tmps:=#[.slice O T P,.int .u64 (item:Nat),.int .u64 (r:Nat),.int .u64 (c:Nat),undef,undef,.pointer (some ⟨w.heap.size,0,none⟩),.pointer (some ⟨w.heap.size+1,0,none⟩),.pointer (some ⟨w.heap.size+2,0,none⟩),undef,.pointer (some ⟨U,0,none⟩),.slice O T P,.int .u64 (item:Nat),.func (.func 106) #[] #[.pointer (some ⟨w.heap.size+3,0,none⟩),.pointer (some ⟨w.heap.size+4,0,none⟩)],.int .i64 (x.1:Nat),.agg #[sv x.2.1,sv x.2.2],undef,undef,undef,undef,undef],defers:=[] })
  ?hAx ?hassign ?hbody ?hdone ?hstop
 case hit=>intro W hk af;exact ae.o W (λk h=>(hk.block k a8 id).trans (ab.block k h)) a8 (hk.boxed b3 id).cell (hk.boxed b4 id).cell
 case hPt=>
  rintro A B C ⟨H,K⟩ ⟨j,u⟩;refine⟨V0 H j,λk hk G=>?_⟩;have e1:=K k hk G;refine(u k a8 ?_).trans e1;rcases G with G|G|G|⟨cs,f,G⟩
  .exact .inl G
  .exact .inr (.inl G)
  .exact .inr (.inr (.inl G))
  .exact .inr (.inr (.inr ⟨cs,f,by rw[e1];exact G⟩))
 case hPt0=>
  rintro A B hk ⟨o,ho⟩;refine⟨hk.size,λk L G=>hk.block k L ?_⟩;rintro rfl;rcases G with G|G|G|⟨cs,f,G⟩
  .omega
  .omega
  .omega
  .rw[ho]at G;cases G
 case hI=>rintro pre A B ⟨H,K,j,u,E⟩ V;have hk:Keep (λk=>k=y.heap.size\/k=y.heap.size+1) A B:=V.mono λ_ _ h=>h.elim False.elim id;exact⟨hk.boxed H a8,hk.boxed K a8,hk.boxed j a8,u.trans (hk.below u.size λk hk=>a8),E⟩
 case hIx=>rintro cd pre A B ⟨H,j,u,E⟩ V;have hk:Keep (λk=>k=y.heap.size\/k=y.heap.size+1) A B:=V.mono λ_ _ h=>h.elim False.elim id;exact⟨H,hk.boxed j a8,u.trans (hk.below u.size λk hk=>a8),E⟩
 case hAx=>rintro pre x a' A B ⟨⟨H,K,j,u,E⟩,U,h6,h7,rfl⟩ hk;exact⟨⟨hk.boxed H a8,hk.boxed K a8,hk.boxed j a8,u.trans (hk.below u.size λk hk=>a8),E⟩,U,hk.obj h6 a8,h7,rfl⟩
 case hassign=>
  rintro l pre ⟨i,⟨⟨x0,x1,x2⟩,⟨Y,Z,y2⟩⟩⟩ W X L hI;clear X;dsimp only[Y4,sv];have HX:=qL hI;clear hI
  gi_wp2
  obtain⟨H,K,j,u,E⟩:=HX.o;have N:∀o S,Keep S W (W.alloc o):=λo S=>(Keep.refl _ _).alloc _;exact⟨⟨⟨_,j⟩,N _ _⟩,⟨(N _ (λ_=>False)).boxed H id,(N _ (λ_=>False)).boxed K id,(N _ (λ_=>False)).boxed j id,u.alloc u.size _,E⟩,W.heap.size,tp W _,a8,rfl⟩
 case hbody=>
  rintro l pre ⟨i,⟨⟨x0,x1,x2⟩,⟨Y,Z,y2⟩⟩⟩ a' W X L ⟨⟨H,K,j,u,E⟩,U,h6,h7,rfl⟩;have hm:(i,((x0,x1,x2),(Y,Z,y2)))∈xs:=X.subset b6;have J:=HH.o W _ hm u;dsimp only[sv]at J h6⊢;have c0:=H.cell;have c1:=K.cell;have c3:W.cell? ⟨U,1,none⟩=some (.slice Y Z y2):=(by simp[World.cell?,h6]);have ad:(pre++[(i,((x0,x1,x2),(Y,Z,y2)))]).any q=q (i,((x0,x1,x2),(Y,Z,y2))):=(by rw[UE,E.o];simp);have HN:=qL ad;have HX:=qL (And.intro j u);have HY:=qL (And.intro H K);clear ad H K u E h6;cases hq:q (i,((x0,x1,x2),(Y,Z,y2)))with
  | true=>
    rw[hq]at J HN;have HS:=qL J;clear J hq j
    gi_wp2_with (refine⟨trivial,?_⟩;gi_at_call 70;refine(callsIn_wide.2 HS.o).mono ?_;rintro e W1 ⟨rfl,I⟩
                 have k1:Keep (λ_=>False) W W1:=Keep.of_below' I (Zp _);have j:=k1.boxed HX.o.1 id;have f3:=j.frozen;have d3:=j.cell)
    refine⟨⟨⟨_,HX.o.1⟩,(Keep.of_below' (S:=λk=>k=w.heap.size+2) I (Zp _)).setCell (p:=⟨w.heap.size+2,0,none⟩) (λ_=>rfl) _⟩,rfl,j.set _,(HX.o.2.trans (I.mono HX.o.2.size)).setCell b6 _,HN⟩
  | false=>
    rw[hq]at J HN;have HS:=qL J;clear J hq j
    gi_wp2_with (refine⟨trivial,?_⟩;gi_at_call 70;refine(callsIn_wide.2 HS.o).mono ?_;rintro e W1 ⟨rfl,I⟩)
    have k1:Keep (λ_=>False) W W1:=Keep.of_below' I (Zp _);exact⟨⟨⟨_,HX.o.1⟩,Keep.of_below' I (Zp _)⟩,k1.boxed HY.o.1 id,k1.boxed HY.o.2 id,k1.boxed HX.o.1 id,HX.o.2.trans (I.mono HX.o.2.size),HN⟩
 case hdone=>
  rintro W ⟨H,K,j,u,E⟩ hD;have c4:=j.cell;have f4:=j.frozen;have HX:=qL (And.intro j (And.intro u E.o));clear H K j u E
  gi_wp2
  obtain⟨j,u,E⟩:=HX.o;refine⟨b6,.inl ⟨_,_,rfl,Tc (by rw[tx _ _ _ _ a9];exact hD),?_⟩⟩;have M:Keep (λk=>k=w.heap.size+2\/k=y.heap.size) W ((W.setCell ⟨w.heap.size+2,0,none⟩ (.bool false)).putObj y.heap.size (.deferred none)):=((Keep.refl (λk=>k=w.heap.size+2\/k=y.heap.size) W).setCell (p:=⟨w.heap.size+2,0,none⟩) (λ_=>.inl rfl) _).putObj (λ_=>.inr rfl) _;have hr:((W.setCell ⟨w.heap.size+2,0,none⟩ (.bool false)).putObj y.heap.size (.deferred none)).cell? ⟨w.heap.size+2,0,none⟩=some (.bool false):=(by refine(tn ?_).trans (j.set (.bool false)).cell;exact tP (by show w.heap.size+2≠_;omega));refine⟨.bool false,by simp[results,Tryz.results34,go_sem,hr],?_,u.trans (M.below u.size λk hk=>a8)⟩;rw[E]
 case hstop=>
  rintro cd pre W ac ⟨rfl,j,u,E⟩ hD;have c4:=j.cell;have HX:=qL (And.intro j (And.intro u E.o));clear j u E
  gi_wp2
  obtain⟨j,u,E⟩:=HX.o;refine⟨b6,.inl ⟨_,_,rfl,Tc hD,?_⟩⟩;have M:Keep (λk=>k=y.heap.size) W (W.putObj y.heap.size (.deferred none)):=(Keep.refl (λk=>k=y.heap.size) W).putObj (λ_=>rfl) _;have hr:=(M.boxed j a8).cell;refine⟨.bool true,by simp[results,Tryz.results34,go_sem,hr],?_,u.trans (M.below u.size λk hk=>a8)⟩;rw[znR ac E]
def OwnI(base:Nat)(w:World)(v:Value)(j:List Nat):Prop:=w.ownsRow base 3 1 v j.length (j.map λx=>.int .i64 (x:Nat))
def OwnI.nil(base:Nat)(w:World):OwnI base w (.slice none 0 0) []:=tS _ _ _ _
def OwnI.keep{base:Nat}{S:Nat->Prop}{w w':World}{v:Value}{l:List Nat}(h:OwnI base w v l)(hb:Keep S w w')(hs:∀g,base<=g->g<w.heap.size->¬S g):OwnI base w' v l:=
 hb.ownsRow h λg j=>hs g (h.lt g j).1 (h.lt g j).2
def OwnI.shape{base:Nat}{w:World}{v:Value}{l:List Nat}(h:OwnI base w v l):∃j n c,v=.slice j n c:=by
 rcases h.2 with⟨rfl,_⟩|⟨g,u,y,rfl,_⟩
 .exact⟨_,_,_,rfl⟩
 .exact⟨_,_,_,rfl⟩
def Tryz.infoInt:(xT.info? 3).map (λi=>(i.zero,i.size,i.bytes))=some (some (Value.int .i64 0),1,8):=dK
def JY(base:Nat)(W:World)(v:Value)(l:List Nat)(i:Nat)(w y:Value)(u:OwnI base W v l)(C:base<=W.heap.size)(U:l.length<=1099511627776):
 Calls xT 186 #[v,.int .i64 (i:Nat),.agg #[w,y]] W λe M=>∃L,e=.returned L/\OwnI base M L (l++[i])/\Keep (λk=>base<=k/\∃P f,W.heap[k]?=some (.cells P 3 f)) W M:=by
 obtain⟨T,F,I,J,K⟩:=tQ Tryz.infoInt;have A:=qL u;obtain⟨N,n,c,rfl⟩:=u.shape;clear u;go_enter Tryz.func186,Tryz.ntmps186
 have G:Keep (λ_=>False) W ((W.alloc (.cells #[w,y] 72)).alloc (.cells #[.int .i64 (i:Nat)] 3)):=((Keep.refl _ W).alloc _).alloc _;have H:((W.alloc (.cells #[w,y] 72)).alloc (.cells #[.int .i64 (i:Nat)] 3)).heap[W.heap.size+1]?=some (.cells #[.int .i64 (i:Nat)] 3 (0,0)):=by
  have:=tp (W.alloc (.cells #[w,y] 72)) (.cells #[.int .i64 (i:Nat)] 3)
  rwa[tw]at this
 have B:=qL (A.o.keep G λ_ _ _=>id)
 go_wp2_with (at_builtin;refine Tg _ rfl _ _ 208 rfl base 3 T (.int .i64 0) 1 8 Tryz.underlying208 F I J K rfl b8 _ _ _ rfl B.o ⟨W.heap.size+1,0,none⟩ 1 1 [.int .i64 (i:Nat)] rfl rfl (kw (cs:=#[.int .i64 (i:Nat)]) (t := 3) (fr:=(0,0)) H) dG c8 a8 a9 ?_;intro L V ho E _ _)
 go_ret;refine⟨_,rfl,by unfold OwnI;simpa using ho,(((Keep.refl _ W).alloc _).alloc _).grown E λk hk _=>?_⟩;have j:(Value.slice N n c).ownBlock=some k:=hk;refine⟨(A.o.lt k j).1,?_⟩;rcases A.o.2 with⟨e,_⟩|⟨g,O,Q,e,_,S,_⟩
 .rw[e]at j;cases j
 .rw[e]at j;have:g=k:=(by simpa[Value.ownBlock]using j);subst this;exact⟨_,_,S⟩
end
namespace As
open Go.RowKit Go.Extern.Stop Go.Stop Go.Extern
def noAsD(v:Value)(j:TypeId)(w:World):(Instr.typeAssert (.iface 127 v) j 194 true).run xT w=.ok (.tuple #[.nilIface,.bool false]) w:=tY Tryz.underlying194 dK dK v j w
def hasUwD(v:Value)(j:TypeId)(w:World):(Instr.typeAssert (.iface 127 v) j 179 true).run xT w=.ok (.tuple #[.iface 127 v,.bool true]) w:=run_typeAssert_hasB Tryz.underlying179 dK v j w
def typeOfD(v:Value)(w:World):(ReflectliteType.typeOf #[.iface 127 v]).run xT w=.ok (.iface 174 (.agg #[.pointer (some ⟨1,127,none⟩)])) w:=dK
def assignableDN(w:World):(ReflectliteType.relation "AssignableTo" ReflectliteType.assignableTo #[.agg #[.pointer (some ⟨1,127,none⟩)],.iface 174 (.agg #[.pointer (some ⟨1,49,none⟩)])]).run xT w=.ok (.bool false) w:=dK
def assignableDF(w:World):(ReflectliteType.relation "AssignableTo" ReflectliteType.assignableTo #[.agg #[.pointer (some ⟨1,127,none⟩)],.iface 174 (.agg #[.pointer (some ⟨1,96,none⟩)])]).run xT w=.ok (.bool false) w:=dK
def methodUnwrapD(s:ByteArray)(e:Value)(w:World):(Go.method 417 127 (.agg #[.string s,e]) "Unwrap").run xT w=.ok (234,.agg #[.string s,e]) w:=dK
def as_DN(s:ByteArray)(c k:Int)(t:Addr)(y:Value)(w:World)(C:w.cell? ⟨0,0,none⟩=some (.iface 174 (.agg #[.pointer (some ⟨1,44,none⟩)])))(j:w.cell? t=some y)(A:w.frozen? t=false):
 Calls xT 36 #[.iface 127 (.agg #[.string s,.iface 96 (.agg #[.int .i64 c,.int .i64 k])]),.iface 94 (.pointer (some t))] w λev w'=>ev=.returned (.bool true)/\w'=((((((w.alloc (.cells #[.pointer (some t)] 94)).alloc (.cells #[.pointer (some ⟨1,94,none⟩),.pointer (some ⟨w.heap.size,0,none⟩),.int .u64 150] 147)).alloc (.cells #[.pointer (some ⟨1,94,none⟩),.pointer (some ⟨w.heap.size,0,none⟩),.int .u64 150] 147)).alloc (.cells #[.string s,.iface 96 (.agg #[.int .i64 c,.int .i64 k])] 127)).alloc (.cells #[.int .i64 c,.int .i64 k] 96)).alloc (.cells #[.int .i64 c] 49)).setCell t (.int .i64 c):=by
 have Y:=λa w=>xt0 a w;have Z:=λa w=>xt1 a w;have h8:=λa w=>xt2 a w;have J:=λa w=>xt3 a w;have L:=λa w=>xt4 a w;have M:=λa w=>xt5 a w;have G:=λa w=>xt6 a w;have K:=λa w=>xt7 a w;have H:=λa w=>xt8 a w;have I:=λa w=>xt9 a w;have tO:=typeOfN;have tF:=typeOfF;have T:=assignableFN;have mU:=methodUnwrap;have nA:=noAs;have hU:=hasUw;have tD:=typeOfD;have S:=assignableDN;have mD:=methodUnwrapD;have nD:=noAsD;have hD:=hasUwD;have mA:=methodAssignableTo;have a25:=assignableN;have Q:=valueOfN;have V:=valueOfNp;have X:=typeNp;have mK:=methodKind;have mE:=methodElem;have mI:=methodImplements;have P:=kindNp;have k25:=kindN;have E:=elemNp;have O:=implementsN;have n8:=isNilNp ⟨w.heap.size,0,none⟩ t ((w.alloc (.cells #[.pointer (some t)] 94)).alloc (.cells #[.pointer (some ⟨1,94,none⟩),.pointer (some ⟨w.heap.size,0,none⟩),.int .u64 150] 147)) b6;have B:0<w.heap.size:=by
  rcases Wi w.heap.size with F|h
  .simp[World.cell?,F]at C
  .exact h
 have N:((w.alloc (.cells #[.pointer (some t)] 94)).alloc (.cells #[.pointer (some ⟨1,94,none⟩),.pointer (some ⟨w.heap.size,0,none⟩),.int .u64 150] 147)).cell? ⟨0,0,none⟩=some (.iface 174 (.agg #[.pointer (some ⟨1,44,none⟩)])):=by rw[tr _ _ ⟨0,0,none⟩ b6,tr _ _ ⟨0,0,none⟩ B];exact C
 have u:t.block<w.heap.size:=by
  rcases wK t.block w.heap.size with h|h
  .exact h
  .simp[World.cell?,W6 h]at j
 have U:=elemVNp ⟨w.heap.size,0,none⟩ t (((((w.alloc (.cells #[.pointer (some t)] 94)).alloc (.cells #[.pointer (some ⟨1,94,none⟩),.pointer (some ⟨w.heap.size,0,none⟩),.int .u64 150] 147)).alloc (.cells #[.pointer (some ⟨1,94,none⟩),.pointer (some ⟨w.heap.size,0,none⟩),.int .u64 150] 147)).alloc (.cells #[.string s,.iface 96 (.agg #[.int .i64 c,.int .i64 k])] 127)).alloc (.cells #[.int .i64 c,.int .i64 k] 96)) (by rw[tr _ _ ⟨w.heap.size,0,none⟩ a9,tr _ _ ⟨w.heap.size,0,none⟩ a9,tr _ _ ⟨w.heap.size,0,none⟩ a9];simp);have st:=setN t ⟨w.heap.size+1+1+1+1+1,0,none⟩ c y ((((((w.alloc (.cells #[.pointer (some t)] 94)).alloc (.cells #[.pointer (some ⟨1,94,none⟩),.pointer (some ⟨w.heap.size,0,none⟩),.int .u64 150] 147)).alloc (.cells #[.pointer (some ⟨1,94,none⟩),.pointer (some ⟨w.heap.size,0,none⟩),.int .u64 150] 147)).alloc (.cells #[.string s,.iface 96 (.agg #[.int .i64 c,.int .i64 k])] 127)).alloc (.cells #[.int .i64 c,.int .i64 k] 96)).alloc (.cells #[.int .i64 c] 49))
  (by rw[tW _ _ _ _ b6];rfl)
  (by rw[tr _ _ t a9,tr _ _ t a9,tr _ _ t a9,tr _ _ t a9,tr _ _ t a9,tr _ _ t u];exact j)
  (by rw[tB _ _ t a9,tB _ _ t a9,tB _ _ t a9,tB _ _ t a9,tB _ _ t a9,tB _ _ t (Uo u)];exact A)
 go_enter Tryz.func36,Tryz.ntmps36
 go_wp2;refine Tn 3 ?_;rw[tZ]
 go_wp2;rw[tZ]
 go_wp2;rw[tZ]
 go_wp2;go_ret;exact⟨rfl,rfl⟩
end As
namespace As
open Go.RowKit Go.Extern.Stop Go.Stop Go.Extern
def as_DF(s:ByteArray)(c k:Int)(T:Nat)(w:World)(y:w.cell? ⟨0,0,none⟩=some (.iface 174 (.agg #[.pointer (some ⟨1,44,none⟩)])))(A:(w.cell? ⟨T,0,none⟩).isSome=true)(Q:(w.cell? ⟨T,1,none⟩).isSome=true)(C:w.frozen? ⟨T,0,none⟩=false)(E:w.frozen? ⟨T,1,none⟩=false):
 Calls xT 36 #[.iface 127 (.agg #[.string s,.iface 96 (.agg #[.int .i64 c,.int .i64 k])]),.iface 154 (.pointer (some ⟨T,0,none⟩))] w λev w'=>ev=.returned (.bool true)/\w'=(((((w.alloc (.cells #[.pointer (some ⟨T,0,none⟩)] 154)).alloc (.cells #[.pointer (some ⟨1,154,none⟩),.pointer (some ⟨w.heap.size,0,none⟩),.int .u64 150] 147)).alloc (.cells #[.pointer (some ⟨1,154,none⟩),.pointer (some ⟨w.heap.size,0,none⟩),.int .u64 150] 147)).alloc (.cells #[.string s,.iface 96 (.agg #[.int .i64 c,.int .i64 k])] 127)).alloc (.cells #[.int .i64 c,.int .i64 k] 96)).setCells T 0 [.int .i64 c,.int .i64 k]:=by
 have Z:=λa w=>xt0 a w;have h7:=λa w=>xt1 a w;have h8:=λa w=>xt2 a w;have J:=λa w=>xt3 a w;have L:=λa w=>xt4 a w;have M:=λa w=>xt5 a w;have G:=λa w=>xt6 a w;have K:=λa w=>xt7 a w;have H:=λa w=>xt8 a w;have I:=λa w=>xt9 a w;have tO:=typeOfF;have tD:=typeOfD;have U:=assignableDF;have mD:=methodUnwrapD;have nD:=noAsD;have hD:=hasUwD;have mA:=methodAssignableTo;have a25:=assignableF;have S:=valueOfF;have X:=valueOfFp;have Y:=typeFp;have mK:=methodKind;have mE:=methodElem;have mI:=methodImplements;have P:=kindFp;have k25:=kindF;have B:=elemFp;have O:=implementsF;have n8:=isNilFp ⟨w.heap.size,0,none⟩ ⟨T,0,none⟩ ((w.alloc (.cells #[.pointer (some ⟨T,0,none⟩)] 154)).alloc (.cells #[.pointer (some ⟨1,154,none⟩),.pointer (some ⟨w.heap.size,0,none⟩),.int .u64 150] 147)) b6;have u:0<w.heap.size:=by
  rcases Wi w.heap.size with F|h
  .simp[World.cell?,F]at y
  .exact h
 have N:((w.alloc (.cells #[.pointer (some ⟨T,0,none⟩)] 154)).alloc (.cells #[.pointer (some ⟨1,154,none⟩),.pointer (some ⟨w.heap.size,0,none⟩),.int .u64 150] 147)).cell? ⟨0,0,none⟩=some (.iface 174 (.agg #[.pointer (some ⟨1,44,none⟩)])):=by rw[tr _ _ ⟨0,0,none⟩ b6,tr _ _ ⟨0,0,none⟩ u];exact y
 have j:T<w.heap.size:=by
  rcases wK T w.heap.size with h|h
  .exact h
  .simp[World.cell?,W6 h]at A
 have V:=elemVFp ⟨w.heap.size,0,none⟩ ⟨T,0,none⟩ ((((w.alloc (.cells #[.pointer (some ⟨T,0,none⟩)] 154)).alloc (.cells #[.pointer (some ⟨1,154,none⟩),.pointer (some ⟨w.heap.size,0,none⟩),.int .u64 150] 147)).alloc (.cells #[.pointer (some ⟨1,154,none⟩),.pointer (some ⟨w.heap.size,0,none⟩),.int .u64 150] 147)).alloc (.cells #[.string s,.iface 96 (.agg #[.int .i64 c,.int .i64 k])] 127)) (by rw[tr _ _ ⟨w.heap.size,0,none⟩ a9,tr _ _ ⟨w.heap.size,0,none⟩ a9];simp);have st:=setF T (w.heap.size+1+1+1+1) c k (((((w.alloc (.cells #[.pointer (some ⟨T,0,none⟩)] 154)).alloc (.cells #[.pointer (some ⟨1,154,none⟩),.pointer (some ⟨w.heap.size,0,none⟩),.int .u64 150] 147)).alloc (.cells #[.pointer (some ⟨1,154,none⟩),.pointer (some ⟨w.heap.size,0,none⟩),.int .u64 150] 147)).alloc (.cells #[.string s,.iface 96 (.agg #[.int .i64 c,.int .i64 k])] 127)).alloc (.cells #[.int .i64 c,.int .i64 k] 96))
  (by rw[tW _ _ _ _ b6];rfl)
  (by rw[tW _ _ _ _ b6];rfl)
  (by rw[tr _ _ ⟨T,0,none⟩ a9,tr _ _ ⟨T,0,none⟩ a9,tr _ _ ⟨T,0,none⟩ a9,tr _ _ ⟨T,0,none⟩ a9,tr _ _ ⟨T,0,none⟩ j];exact A)
  (by rw[tr _ _ ⟨T,1,none⟩ a9,tr _ _ ⟨T,1,none⟩ a9,tr _ _ ⟨T,1,none⟩ a9,tr _ _ ⟨T,1,none⟩ a9,tr _ _ ⟨T,1,none⟩ j];exact Q)
  (by rw[tB _ _ ⟨T,0,none⟩ a9,tB _ _ ⟨T,0,none⟩ a9,tB _ _ ⟨T,0,none⟩ a9,tB _ _ ⟨T,0,none⟩ a9,tB _ _ ⟨T,0,none⟩ (Uo j)];exact C)
  (by rw[tB _ _ ⟨T,1,none⟩ a9,tB _ _ ⟨T,1,none⟩ a9,tB _ _ ⟨T,1,none⟩ a9,tB _ _ ⟨T,1,none⟩ a9,tB _ _ ⟨T,1,none⟩ (Uo j)];exact E)
 go_enter Tryz.func36,Tryz.ntmps36
 go_wp2;refine Tn 2 ?_;rw[tZ]
 go_wp2;rw[tZ]
 go_wp2;go_ret;exact⟨rfl,rfl⟩
end As
namespace As
open Go.RowKit Go.Extern.Stop Go.Stop Go.Extern
def noIsF(v:Value)(j:TypeId)(w:World):(Instr.typeAssert (.iface 96 v) j 176 true).run xT w=.ok (.tuple #[.nilIface,.bool false]) w:=tY Tryz.underlying176 dK dK v j w
def methodComparable(h:Value)(w:World):(Go.method 417 174 (.agg #[h]) "Comparable").run xT w=.ok (240,.agg #[h]) w:=dK
def eqFN(x y:Value)(w:World):(binOp .eql 44 (.iface 96 x) (.iface 49 y)).run xT w=.ok (.bool false) w:=dK
def comparableN(w:World):(ReflectliteType.method (λt=>do Rtype.noPackHeld "Comparable" t;(λa:TypeInfo=>Value.bool a.comparable) <$> typeInfo t) #[.agg #[.pointer (some ⟨1,49,none⟩)]]).run xT w=.ok (.bool true) w:=dK
end As
end Go.Proofs.YtbhngpjkakcgfaaGreatDoor
