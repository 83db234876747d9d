import Derived.Sort.Walk11
import Derived.Sort.Walk13
import Derived.Sort.WalkA14
import Derived.Sort.AssemblyPlain
import Derived.Maps.Own
import Derived.Maps.Views
import Derived.Maps.RangeWalk
import Derived.Test.YtmpnbdhadjfbhaaGreatDoorB11
set_option maxHeartbeats 16000000
set_option linter.all false
set_option maxRecDepth 100000
namespace Go.Proofs.YtmpnbdhadjfbhaaGreatDoor
def tT:=@Go.World.cell?_setCell_same
def Th:=@Go.World.cell?_setCell_other
def TE:=@Go.wpList_next_ranges
def TJ:=@Go.wpList_range_own
def TN:=@Go.Sort.medianAdjacent_count
def TP:=@Go.Sort.medianAdjacent_mem
def T6:=@Go.Sort.rd_lim_le
open Go.Proofs.Tryz
open Go.Proofs.Tryz renaming prog->xt
section
open Go.RowKit Go.Sort
def Y2(w:World)(N S:Nat):∃os,putRow (Value.int .i64) (Sort.ahead (w.alloc (.cells #[.int .i64 0] 3)) N) w.heap.size 0 (one S)=grow (Sort.ahead w N) os:=by rw[alloc_eq_grow,ahead_grow];obtain⟨os,_,h⟩:=putRow_grow_new (Value.int .i64) (Sort.ahead w N) #[.cells #[.int .i64 0] 3] w.heap.size 0 (one S) (Zp _);exact⟨os,h⟩
def ZI(zc o u:Nat)(d:Array Int)(w:World)(M:Holds zg w zc o d)(F:zc<w.heap.size)(P:d.size<4611686018427387904):
 ∃C:Nat->Nat->World,
  w.alloc (.cells #[.int .i64 0] 3)=C 0 0 /\
  (∀N S:Nat,(C N S).cell? ⟨w.heap.size,0,none⟩=some (.int .i64 (S:Int))) /\
  (∀N S:Nat,∃os,C N S=grow (Sort.ahead w N) os) /\
  (∀x s N:Nat,1<=x->x+1<d.size->s+3<4611686018427387904->Calls xt 206 #[.slice (some ⟨zc,o,none⟩) d.size u,.int .i64 (x:Int),.pointer (some ⟨w.heap.size,0,none⟩)] (C N s) λe w'=>
    e=.returned (.int .i64 ((medianAdjacent ltInt d x s).1:Int))/\∃G,w'=C G (medianAdjacent ltInt d x s).2) /\
  (∀x y z s N:Nat,x<d.size->y<d.size->z<d.size->s+3<4611686018427387904->Calls xt 207 #[.slice (some ⟨zc,o,none⟩) d.size u,.int .i64 (x:Int),.int .i64 (y:Int),.int .i64 (z:Int),.pointer (some ⟨w.heap.size,0,none⟩)] (C N s) λe w'=>
    e=.returned (.int .i64 ((median ltInt d x y z s).1:Int))/\∃G,w'=C G (median ltInt d x y z s).2):=by
 have B:w.heap.size≠zc:=a8
 have E:Holds zg (w.alloc (.cells #[.int .i64 0] 3)) zc o d:=by rw[alloc_eq_grow];exact holds_grow _ _ _ _ _ _ F M
 have A:Holds (Value.int .i64) (w.alloc (.cells #[.int .i64 0] 3)) w.heap.size 0 (one 0):=λj O=>by obtain rfl:j=0:=(dK O);simp
 refine⟨λN S=>putRow (Value.int .i64) (Sort.ahead (w.alloc (.cells #[.int .i64 0] 3)) N) w.heap.size 0 (one S),(Te _ _ _ _ _ A).symm,λN S=>(one_cell (holds_one (n:=N) (t:=S) A)).1,λN S=>Y2 w N S,?_,?_⟩
 .intro x s N H I hs;refine(vf d _ rfl zc o u x w.heap.size 0 s _ (qR E B) H I a8 B (holds_one A) a8).mono ?_;rintro e w' ⟨J,n,K⟩;exact⟨J,N+n,by rw[K,one_one]⟩
 .intro x y z s N H I L hs;refine(jH d _ rfl zc o u x y z w.heap.size 0 s _ (qR E B) H I L B (holds_one A) a8).mono ?_;rintro e w' ⟨J,n,K⟩;exact⟨J,N+n,by rw[K,one_one]⟩
def j6(zc C E a b:Nat)(d:Array Int)(w:World)(hH:Holds zg w zc C d)(ad:zc<w.heap.size)(ag:a<b)(hb:b<=d.size)(ae:d.size<4611686018427387904):
 Calls xt 186 #[.slice (some ⟨zc,C,none⟩) d.size E,.int .i64 a,.int .i64 b] w λe w'=>
  e=.returned (.tuple #[.int .i64 (choosePivot ltInt d a b).1,.int .i64 (hintCode (choosePivot ltInt d a b).2)])/\∃n os,w'=grow (Sort.ahead w n) os:=by
 obtain⟨F,ac,cS,hG,S,Z⟩:=ZI zc C E d w hH ad ae;clear hH;rw[choosePivot_eq];obtain⟨I,hI⟩:∃I:Nat,I=a+(b-a)/4*1:=⟨_,rfl⟩;obtain⟨J,T⟩:∃J:Nat,J=a+(b-a)/4*2:=⟨_,rfl⟩;obtain⟨K,hK⟩:∃K:Nat,K=a+(b-a)/4*3:=⟨_,rfl⟩;have eI:((a:Int)+((b:Int)-(a:Int))/4)=(I:Int):=a8
 have eJ:((a:Int)+((b:Int)-(a:Int))/4*2)=(J:Int):=a8
 have eK:((a:Int)+((b:Int)-(a:Int))/4*3)=(K:Int):=a8
 by_cases h8:b-a≥8
 .by_cases ab:b-a≥50
  ·
   obtain⟨U,O,G⟩:∃U O,medianAdjacent ltInt d I 0=(U,O):=⟨_,_,rfl⟩;obtain⟨V,P,H⟩:∃V P,medianAdjacent ltInt d J O=(V,P):=⟨_,_,rfl⟩;obtain⟨X,Y,h3⟩:∃X Y,medianAdjacent ltInt d K P=(X,Y):=⟨_,_,rfl⟩;obtain⟨p,s,Q⟩:∃p s,median ltInt d U V X Y=(p,s):=⟨_,_,rfl⟩;have o:rawPivot ltInt d a b=(p,s):=(by simp only[rawPivot,Vm h8,Vm ab,<-hI,<-T,<-hK,G,H,h3,Q]);have m1:=TP ltInt d I 0;rw[G]at m1;have m2:=TP ltInt d J O;rw[H]at m2;have m3:=TP ltInt d K P;rw[h3]at m3;have n1:=TN ltInt d I 0;rw[G]at n1;have n2:=TN ltInt d J O;rw[H]at n2;have n3:=TN ltInt d K P;rw[h3]at n3;simp only[]at m1 m2 m3 n1 n2 n3;have c1:Calls xt 206 #[.slice (some ⟨zc,C,none⟩) d.size E,.int .i64 (I:Int),.pointer (some ⟨w.heap.size,0,none⟩)] (F 0 0) λe w'=>e=.returned (.int .i64 (U:Int))/\∃M,w'=F M O:=(by have h:=S I 0 0 a8 a8 a8;rw[G]at h;exact h);have c2:∀N,Calls xt 206 #[.slice (some ⟨zc,C,none⟩) d.size E,.int .i64 (J:Int),.pointer (some ⟨w.heap.size,0,none⟩)] (F N O) λe w'=>e=.returned (.int .i64 (V:Int))/\∃M,w'=F M P:=λN=>(by have h:=S J O N a8 a8 a8;rw[H]at h;exact h);have c3:∀N,Calls xt 206 #[.slice (some ⟨zc,C,none⟩) d.size E,.int .i64 (K:Int),.pointer (some ⟨w.heap.size,0,none⟩)] (F N P) λe w'=>e=.returned (.int .i64 (X:Int))/\∃M,w'=F M Y:=λN=>(by have h:=S K P N a8 a8 a8;rw[h3]at h;exact h)
   have c4:∀N,Calls xt 207 #[.slice (some ⟨zc,C,none⟩) d.size E,.int .i64 (U:Int),.int .i64 (V:Int),.int .i64 (X:Int),.pointer (some ⟨w.heap.size,0,none⟩)] (F N Y) λe w'=>e=.returned (.int .i64 (p:Int))/\∃M,w'=F M s:=λN=>(by have h:=Z U V X Y N a8 a8 a8 a8;rw[Q]at h;exact h);rw[o];obtain⟨u,j⟩:∃u:Int,u=hintCode (hintOf s):=⟨_,rfl⟩;have A:s=0->u=1:=λh=>(by rw[j,h];rfl);have B:s=12->u=2:=λh=>(by rw[j,h];rfl);have L:s≠0->s≠12->u=0:=λG H=>(by rw[j];unfold hintOf;rw[Vq G,Vq H];rfl);show Calls xt 186 _ w λe w'=>e=.returned (.tuple #[.int .i64 (p:Int),.int .i64 (hintCode (hintOf s))])/\∃n os,w'=grow (Sort.ahead w n) os;rw[<-j];clear j o;clear G H h3 Q S Z hI T hK m1 m2 m3;go_enter func186,ntmps186
   go_wp2_with (first
    |(go_at_call_has 206 (Value.int .i64 (I:Int));refine c1.mono ?_;rintro e w' ⟨rfl,N1,rfl⟩)
    |(go_at_call_has 206 (Value.int .i64 (J:Int));refine(c2 _).mono ?_;rintro e w' ⟨rfl,N2,rfl⟩)
    |(go_at_call_has 206 (Value.int .i64 (K:Int));refine(c3 _).mono ?_;rintro e w' ⟨rfl,N3,rfl⟩)
    |(go_at_call 207;refine(c4 _).mono ?_;rintro e w' ⟨rfl,N4,rfl⟩))
   all_goals
    go_ret2
    refine⟨?_,_,hG _ _⟩;first
     | (have e0:(s:Int)=0:=of_beq_int b9
        rw[A a8];rfl)
     | (have e1:(s:Int)=12:=of_beq_int b9
        rw[B a8];rfl)
     | (have e0:(s:Int)≠0:=of_bne_int b9
        have e1:(s:Int)≠12:=of_bne_int b9;rw[L a8 a8];rfl)
     |(rw[A a8];rfl)
  ·
   obtain⟨p,s,Q⟩:∃p s,median ltInt d I J K 0=(p,s):=⟨_,_,rfl⟩;have o:rawPivot ltInt d a b=(p,s):=(by simp only[rawPivot,Vm h8,Vq ab,<-hI,<-T,<-hK,Q]);have c4:Calls xt 207 #[.slice (some ⟨zc,C,none⟩) d.size E,.int .i64 (I:Int),.int .i64 (J:Int),.int .i64 (K:Int),.pointer (some ⟨w.heap.size,0,none⟩)] (F 0 0) λe w'=>e=.returned (.int .i64 (p:Int))/\∃M,w'=F M s:=(by have h:=Z I J K 0 0 a8 a8 a8 a8;rw[Q]at h;exact h);rw[o];obtain⟨u,j⟩:∃u:Int,u=hintCode (hintOf s):=⟨_,rfl⟩;have A:s=0->u=1:=λh=>(by rw[j,h];rfl);have B:s=12->u=2:=λh=>(by rw[j,h];rfl);have L:s≠0->s≠12->u=0:=λG H=>(by rw[j];unfold hintOf;rw[Vq G,Vq H];rfl);show Calls xt 186 _ w λe w'=>e=.returned (.tuple #[.int .i64 (p:Int),.int .i64 (hintCode (hintOf s))])/\∃n os,w'=grow (Sort.ahead w n) os;rw[<-j];clear j o;clear Q S Z hI T hK;go_enter func186,ntmps186
   go_wp2_with (first|(go_at_call 207;refine c4.mono ?_;rintro e w' ⟨rfl,N4,rfl⟩))
   all_goals
    go_ret2
    refine⟨?_,_,hG _ _⟩;first
     | (have e0:(s:Int)=0:=of_beq_int b9
        rw[A a8];rfl)
     | (have e1:(s:Int)=12:=of_beq_int b9
        rw[B a8];rfl)
     | (have e0:(s:Int)≠0:=of_bne_int b9
        have e1:(s:Int)≠12:=of_bne_int b9;rw[L a8 a8];rfl)
     |(rw[A a8];rfl)
 ·
  obtain⟨p,hp⟩:∃p:Nat,p=J:=⟨_,rfl⟩;obtain⟨s,hs⟩:∃s:Nat,s=0:=⟨_,rfl⟩;have o:rawPivot ltInt d a b=(p,s):=(by simp only[rawPivot,Vq h8,<-T,hp,hs]);rw[o];obtain⟨u,j⟩:∃u:Int,u=hintCode (hintOf s):=⟨_,rfl⟩;have A:s=0->u=1:=λh=>(by rw[j,h];rfl);have B:s=12->u=2:=λh=>(by rw[j,h];rfl);have L:s≠0->s≠12->u=0:=λG H=>(by rw[j];unfold hintOf;rw[Vq G,Vq H];rfl);show Calls xt 186 _ w λe w'=>e=.returned (.tuple #[.int .i64 (p:Int),.int .i64 (hintCode (hintOf s))])/\∃n os,w'=grow (Sort.ahead w n) os;rw[<-j];clear j o;subst hp;clear S Z hI T hK;have af:w.alloc (.cells #[.int .i64 0] 3)=F 0 s:=(by rw[hs];exact ac);clear ac;go_enter func186,ntmps186
  go_wp2;all_goals
   go_ret2
   refine⟨?_,_,hG _ _⟩;first
    | (have e0:(s:Int)=0:=of_beq_int b9
       rw[A a8];rfl)
    | (have e1:(s:Int)=12:=of_beq_int b9
       rw[B a8];rfl)
    | (have e0:(s:Int)≠0:=of_bne_int b9
       have e1:(s:Int)≠12:=of_bne_int b9;rw[L a8 a8];rfl)
    |(rw[A a8];rfl)
structure CalU:Prop where
 ins:∀(zc off cap a b:Nat)(d:Array Int)(w:World),Holds zg w zc off d->a<=b->b<=d.size->d.size<4611686018427387904 ->
  Calls xt 183 #[.slice (some ⟨zc,off,none⟩) d.size cap,.int .i64 a,.int .i64 b] w λe w'=>e=.returned (.tuple #[])/\∃n,w'=putRow zg (Sort.ahead w n) zc off (insertionSort ltInt d a b)
 brk:∀(zc off cap a b:Nat)(d:Array Int)(w:World),Holds zg w zc off d->zc<w.heap.size->a<=b->b<=d.size->d.size<4611686018427387904 ->
  Calls xt 185 #[.slice (some ⟨zc,off,none⟩) d.size cap,.int .i64 a,.int .i64 b] w λe w'=>e=.returned (.tuple #[])/\∃n os,w'=grow (putRow zg (Sort.ahead w n) zc off (breakPatterns d a b)) os
 piv:∀(zc off cap a b:Nat)(d:Array Int)(w:World),Holds zg w zc off d->zc<w.heap.size->a<b->b<=d.size->d.size<4611686018427387904 ->
  Calls xt 186 #[.slice (some ⟨zc,off,none⟩) d.size cap,.int .i64 a,.int .i64 b] w λe w'=>e=.returned (.tuple #[.int .i64 (choosePivot ltInt d a b).1,.int .i64 (hintCode (choosePivot ltInt d a b).2)])/\∃n os,w'=grow (Sort.ahead w n) os
 par:∀(zc off cap a b:Nat)(d:Array Int)(w:World),Holds zg w zc off d->a<b->b<=d.size->d.size<4611686018427387904 ->
  Calls xt 188 #[.slice (some ⟨zc,off,none⟩) d.size cap,.int .i64 a,.int .i64 b] w λe w'=>e=.returned (.bool (partialInsertionSort ltInt d a b).2)/\∃n,w'=putRow zg (Sort.ahead w n) zc off (partialInsertionSort ltInt d a b).1
 peq:∀(zc off cap a b pivot:Nat)(d:Array Int)(w:World),Holds zg w zc off d->a<=pivot->pivot<b->b<=d.size->d.size<4611686018427387904 ->
  Calls xt 190 #[.slice (some ⟨zc,off,none⟩) d.size cap,.int .i64 a,.int .i64 b,.int .i64 pivot] w λe w'=>e=.returned (.int .i64 (partitionEqual ltInt d a b pivot).1)/\∃n,w'=putRow zg (Sort.ahead w n) zc off (partitionEqual ltInt d a b pivot).2
 prt:∀(zc off cap a b pivot:Nat)(d:Array Int)(w:World),Holds zg w zc off d->a<=pivot->pivot<b->b<=d.size->d.size<4611686018427387904 ->
  Calls xt 191 #[.slice (some ⟨zc,off,none⟩) d.size cap,.int .i64 a,.int .i64 b,.int .i64 pivot] w λe w'=>e=.returned (.tuple #[.int .i64 (partition ltInt d a b pivot).1,.bool (partition ltInt d a b pivot).2.1])/\∃n,w'=putRow zg (Sort.ahead w n) zc off (partition ltInt d a b pivot).2.2
structure PlnU:Prop where
 swo:SWO ltInt
 ins:insertionSort_stmt ltInt
 par:partialInsertionSort_stmt ltInt
 prt:partition_stmt ltInt
 peq:partitionEqual_stmt ltInt
 pdq:pdq_stmt ltInt
set_option maxRecDepth 1000000 in
def QJ(C:CalU)(S:PlnU):∀(N zc I L a b K:Nat)(d:Array Int)(w:World),b-a<N->Holds zg w zc I d->zc<w.heap.size->a<=b->b<=d.size->d.size<4611686018427387904->K<4611686018427387904->Below ltInt a b d ->
 Calls xt 150 #[.slice (some ⟨zc,I,none⟩) d.size L,.int .i64 a,.int .i64 b,.int .i64 K] w λe w'=>e=.returned (.tuple #[])/\At zg w zc I (pdq ltInt d a b K true true) w':=by
 intro N;induction N with
 |zero=>intro _ _ _ _ _ _ _ _ h;exact absurd h (Uh _)
 | succ N ih=>
   intro zc I L a b K d w hN hH G aV hb br Z az;go_enter func150,ntmps150
   go_wp2;go_loopg [1,2,3,8,9] (b-a) (λk s1 s2 T s8 s9 wr=>∃(o u j:Nat) (E F:Bool) (B:Array Int),s1=.int .i64 o/\s2=.int .i64 u/\T=.int .i64 j/\s8=.bool E/\s9=.bool F /\
    o<=u/\u<=d.size/\u-o<=k/\k<=b-a/\j<=K/\B.size=d.size/\Below ltInt o u B/\At zg w zc I B wr/\pdq ltInt B o u j E F=pdq ltInt d a b K true true)
   case atStart=>exact⟨a,b,K,true,true,d,rfl,rfl,rfl,rfl,rfl,aV,hb,Zp _,Zp _,Zp _,rfl,az,At.refl hH,rfl⟩
   case round=>
    obtain⟨o,u,j,E,F,B,rfl,rfl,rfl,rfl,rfl,M,aW,hk,bq,P,J,aJ,ae,aP⟩:=hrel;obtain⟨aA,aC⟩:=ae.holds hH J G;have A:qA (pdq ltInt B o u j E F=pdq ltInt d a b K true true):=aP;clear aP;by_cases ac:u-o<=12
    ·
     have aI:(u:Int)-(o:Int)<=12:=a8;have hc:=C.ins zc I L o u B wr aA M a8 a8;rw[J]at hc
     go_wp2_with (go_at_call 183;refine hc.mono ?_;rintro e w1 ⟨rfl,an⟩)
     (try simp only[Exit.inBlock,Exit.then]);refine tA (tN rfl _ _ _) rfl ?_
     refine⟨rfl,?_⟩;rw[<-A.o,pdq_small ac];exact ae.step G (S.ins S.swo B o u M a8).1.1 an
    ·have aI:¬((u:Int)-(o:Int)<=12):=a8;by_cases am:j=0
     ·
      subst am;have hc:=ZK zc I d.size L B J o u wr aA M a8 a8
      go_wp2_with (go_at_call 184;refine hc.mono ?_;rintro e w1 ⟨rfl,an⟩)
      (try simp only[Exit.inBlock,Exit.then]);refine tA (tN rfl _ _ _) rfl ?_
      refine⟨rfl,?_⟩;rw[<-A.o,pdq_heap ac rfl];exact ae.step G (heapSort_holds S.swo B o u M a8).1.1 an
     ·have bn:¬((j:Int)=0):=a8;obtain⟨s1,B1,bp,s2,B2,Q,T,B3⟩:=rd_facts (limit:=j) (wb:=E) (wp:=F) S.swo S.par reverseRange_holds (show o<u by omega) (show u<=B.size by omega) aJ
      go_upto_if 35 with fail
      go_cut [3] from 19 (λT wc=>T=.int .i64 (rd ltInt B o u j E F).lim/\At zg w zc I (rd ltInt B o u j E F).d1 wc)
      case first=>
       cases E
       .have hc:=C.brk zc I L o u B wr aA aC M a8 a8;rw[J]at hc
        go_wp2_with (go_at_call 185;refine hc.mono ?_;rintro e w1 ⟨rfl,an⟩)
        go_meet
        case rel=>refine⟨?_,ae.stepG G s1 an⟩;show Value.int .i64 ((j:Int)-1)=Value.int .i64 ((j-1:Nat):Int);congr 1;omega
       .go_wp2_with fail
        go_meet
        case rel=>exact⟨rfl,ae⟩
      case rest=>
       obtain⟨rfl,aq⟩:=hcut;obtain⟨aS,aD⟩:=aq.holds hH (s1.trans J) G;have aO:Calls xt 186 #[.slice (some ⟨zc,I,none⟩) d.size L,.int .i64 o,.int .i64 u] wc λe w'=>e=.returned (.tuple #[.int .i64 (rd ltInt B o u j E F).c.1,.int .i64 (hintCode (rd ltInt B o u j E F).c.2)])/\∃n os,w'=grow (Sort.ahead wc n) os:=(by have:=C.piv zc I L o u (rd ltInt B o u j E F).d1 wc aS aD a8 a8 a8;rw[s1,J]at this;exact this)
       go_upto_if 50 with(go_at_call 186;refine aO.mono ?_;rintro e w2 ⟨rfl,bg⟩)
       have af:At zg w zc I (rd ltInt B o u j E F).d1 w2:=aq.same hH (s1.trans J) G bg;obtain⟨aT,aX⟩:=af.holds hH (s1.trans J) G
       go_cut [11,12] from 19 (λbi aH wc=>bi=.int .i64 (rd ltInt B o u j E F).pivot/\aH=.int .i64 (hintCode (rd ltInt B o u j E F).hint)/\At zg w zc I (rd ltInt B o u j E F).d2 wc)
       case first=>
        by_cases hh:(rd ltInt B o u j E F).c.2=.decreasing
        .have aE:hintCode (rd ltInt B o u j E F).c.2=2:=(by rw[hh];rfl);obtain⟨e2,ay,ax⟩:=rd_dec hh;have ar:=jB zc I L (rd ltInt B o u j E F).d1 o u w2 aT M a8 a8;rw[s1,J]at ar
         go_wp2_with (go_at_call 187;refine ar.mono ?_;rintro e w3 ⟨rfl,bh⟩)
         go_meet
         case rel=>refine⟨?_,by rw[ax];rfl,by rw[e2];exact af.step G (by rw[<-e2,s2,s1]) bh⟩;rw[ay];congr 1;omega
        .have aE:¬(hintCode (rd ltInt B o u j E F).c.2=2):=λh=>hh (hintCode_two h);obtain⟨e2,ay,ax⟩:=rd_not hh
         go_wp2_with fail
         go_meet
         case rel=>exact⟨by rw[ay],by rw[ax],by rw[e2];exact af⟩
       case rest=>
        obtain⟨rfl,rfl,Y⟩:=hcut;obtain⟨aU,aY⟩:=Y.holds hH (s2.trans J) G;go_upto_region 15 with fail
        go_cut [12,68] from 19 (λaH bj wx=>aH=.int .i64 (hintCode (rd ltInt B o u j E F).hint)/\bj=.bool (E && F && decide ((rd ltInt B o u j E F).hint=.increasing))/\wx=wc)
        case first=>
         cases E<;>cases F<;>cases hh3:(rd ltInt B o u j _ _).hint <;>
          (have ao:=WR hintCode hh3
           simp only[hintCode]at ao
           go_wp2_with fail
           go_meet
           exact⟨by simp[hh3,hintCode],by simp[hh3,hintCode],rfl⟩)
        case rest=>
         obtain⟨rfl,rfl,rfl⟩:=hcut
         go_upto_if 68 with fail
         go_cut [] from 19 (λwx=>(rd ltInt B o u j E F).pi.2=false/\At zg w zc I (rd ltInt B o u j E F).pi.1 wx)
         case first=>
          cases h68:(E && F && decide ((rd ltInt B o u j E F).hint=.increasing))
          .have ab:=rd_pi_no h68
           go_wp2_with fail
           go_meet
           case rel=>exact⟨by rw[ab],by rw[ab];exact Y⟩
          .have ab:=rd_pi_yes h68;have au:=C.par zc I L o u (rd ltInt B o u j E F).d2 wc aU a8 a8 a8;rw[s2,J,<-ab]at au
           go_wp2_with (go_at_call 188;refine au.mono ?_;rintro e w4 ⟨rfl,aQ⟩)
           all_goals first
            | (have V:(rd ltInt B o u j E F).pi.2=false:=by rw[ab];assumption
               go_meet
               exact⟨V,Y.step G (by rw[T,s2]) aQ⟩)
            | (have V:(rd ltInt B o u j E F).pi.2=true:=by rw[ab];assumption
               (try simp only[Exit.inBlock,Exit.then]);refine tA (tN rfl _ _ _) rfl ?_
               refine⟨rfl,?_⟩;rw[<-A.o,pdq_done ac am V];exact Y.step G (by rw[T,s2]) aQ)
         case rest=>
          obtain⟨V,ag⟩:=hcut;obtain⟨aK,aZ⟩:=ag.holds hH (T.trans J) G;have bc:∀t,t<d.size->wc.cell? ⟨zc,I+t,none⟩=some (.int .u64 (rd ltInt B o u j E F).pi.1[t]!):=λt ht=>(aK t a8).1;have be:∀t,t<d.size->wc.frozen? ⟨zc,I+t,none⟩=false:=λt ht=>(aK t a8).2;go_upto_region 17 with fail
          go_cut [87] from 19 (λbl wx=>bl=.bool (decide (o > 0) && !ltInt (rd ltInt B o u j E F).pi.1[o-1]! (rd ltInt B o u j E F).pi.1[(rd ltInt B o u j E F).pivot]!)/\At zg w zc I (rd ltInt B o u j E F).pi.1 wx)
          case first=>
           rcases Wl o with aB|aB
           .have aN:decide ((o:Int) > 0)=false:=WE a8
            go_big_quiet (first|(go_at_call 189;refine tE (za _ _ _)))
            go_wp2_with fail
            go_meet
            case rel=>exact⟨by simp[aB],ag.ahead nq⟩
           .have aN:(o:Int) > 0:=a8
            go_big_quiet (first|(go_at_call 189;refine tE (za _ _ _)))
            go_wp2_with fail
            go_meet
            case rel=>exact⟨by simp[aB],ag.ahead nq⟩
          case rest=>
           obtain⟨rfl,ah⟩:=hcut;obtain⟨aL,ba⟩:=ah.holds hH (T.trans J) G;clear bc be;cases h87:(decide (o > 0) && !ltInt (rd ltInt B o u j E F).pi.1[o-1]! (rd ltInt B o u j E F).pi.1[(rd ltInt B o u j E F).pivot]!)
           ·
            obtain⟨H,ap,U,O⟩:∃H ap U,partition ltInt (rd ltInt B o u j E F).pi.1 o u (rd ltInt B o u j E F).pivot=(H,ap,U):=⟨(partition ltInt (rd ltInt B o u j E F).pi.1 o u (rd ltInt B o u j E F).pivot).1,(partition ltInt (rd ltInt B o u j E F).pi.1 o u (rd ltInt B o u j E F).pivot).2.1,(partition ltInt (rd ltInt B o u j E F).pi.1 o u (rd ltInt B o u j E F).pivot).2.2,rfl⟩;obtain⟨r1,r2,r3,r4,r5,r6,r7⟩:=round_part S.swo S.prt Q.1 Q.2 (show u<=(rd ltInt B o u j E F).pi.1.size by omega) B3 O;have aw:=C.prt zc I L o u (rd ltInt B o u j E F).pivot (rd ltInt B o u j E F).pi.1 wc aL Q.1 Q.2 a8 a8;rw[T,J,O]at aw;have X:qA (partition ltInt (rd ltInt B o u j E F).pi.1 o u (rd ltInt B o u j E F).pivot=(H,ap,U)):=O;clear O
            go_upto_if 113 with(go_at_call 191;refine aw.mono ?_;rintro e w7 ⟨rfl,aF⟩)
            have O:=X.o;have ai:At zg w zc I U w7:=ah.step G r3 aF;obtain⟨aM,aj⟩:=ai.holds hH (r3.trans (T.trans J)) G;by_cases h4:H-o<u-H
            .have aR:(H:Int)-(o:Int)<(u:Int)-(H:Int):=a8;have ak:=ih zc I L o H (rd ltInt B o u j E F).lim U w7 a8 aM aj a8 a8 a8 (Nat.lt_of_le_of_lt (V0 T6 P) Z) r4;rw[r3,T,J]at ak;obtain⟨pL,sL⟩:=S.pdq S.swo U o H (rd ltInt B o u j E F).lim true true a8 a8 r4
             go_wp2_with (go_at_call 150;refine ak.mono ?_;rintro e w8 ⟨rfl,aG⟩)
             go_roundg (u-(H+1));case measure=>omega
             case rel=>
              refine⟨H+1,u,(rd ltInt B o u j E F).lim,decide (H-o≥(u-o)/8),ap,pdq ltInt U o H (rd ltInt B o u j E F).lim true true,b6,rfl,rfl,?_,rfl,a8,a8,Zp _,a8,V0 T6 P,by rw[pL.1,r3,T,J],(r6 _ pL sL).1,ai.stepG G pL.1 aG,?_⟩
              .exact WR Value.bool (eighth a8 a8)
              .rw[<-A.o,pdq_left ac am V h87 (by rw[O];exact⟨r1,r2⟩) (by rw[O];exact h4),O]
            .have aR:¬((H:Int)-(o:Int)<(u:Int)-(H:Int)):=a8;have ak:=ih zc I L (H+1) u (rd ltInt B o u j E F).lim U w7 a8 aM aj a8 a8 a8 (Nat.lt_of_le_of_lt (V0 T6 P) Z) r5;rw[r3,T,J]at ak;obtain⟨pL,sL⟩:=S.pdq S.swo U (H+1) u (rd ltInt B o u j E F).lim true true a8 a8 r5
             go_wp2_with (go_at_call 150;refine ak.mono ?_;rintro e w8 ⟨rfl,aG⟩)
             go_roundg (H-o);case measure=>omega
             case rel=>
              refine⟨o,H,(rd ltInt B o u j E F).lim,decide (u-H≥(u-o)/8),ap,pdq ltInt U (H+1) u (rd ltInt B o u j E F).lim true true,rfl,rfl,rfl,?_,rfl,a8,a8,Zp _,a8,V0 T6 P,by rw[pL.1,r3,T,J],(r7 _ pL sL).1,ai.stepG G pL.1 aG,?_⟩
              .exact WR Value.bool (eighth a8 a8)
              .rw[<-A.o,pdq_right ac am V h87 (by rw[O];exact⟨r1,r2⟩) (by rw[O];exact h4),O]
           ·
            have ad:=h87;simp only[VS,wG,Wo]at ad;obtain⟨H,U,O⟩:∃H U,partitionEqual ltInt (rd ltInt B o u j E F).pi.1 o u (rd ltInt B o u j E F).pivot=(H,U):=⟨(partitionEqual ltInt (rd ltInt B o u j E F).pi.1 o u (rd ltInt B o u j E F).pivot).1,(partitionEqual ltInt (rd ltInt B o u j E F).pi.1 o u (rd ltInt B o u j E F).pivot).2,rfl⟩;obtain⟨r1,r2,r3,r4,_⟩:=round_eq S.swo S.peq ad.1 Q.1 Q.2 (show u<=(rd ltInt B o u j E F).pi.1.size by omega) B3 ad.2 O;have av:=C.peq zc I L o u (rd ltInt B o u j E F).pivot (rd ltInt B o u j E F).pi.1 wc aL Q.1 Q.2 a8 a8;rw[T,J,O]at av;have X:qA (partitionEqual ltInt (rd ltInt B o u j E F).pi.1 o u (rd ltInt B o u j E F).pivot=(H,U)):=O;clear O
            go_wp2_with (go_at_call 190;refine av.mono ?_;rintro e w7 ⟨rfl,aF⟩)
            go_roundg (u-H);case measure=>omega
            case rel=>have O:=X.o;exact⟨H,u,(rd ltInt B o u j E F).lim,E,F,U,rfl,rfl,rfl,rfl,rfl,r2,aW,Zp _,a8,V0 T6 P,by rw[r3,T,J],r4,ah.step G r3 aF,by rw[<-A.o,pdq_eq ac am V h87 (by rw[O];exact⟨r1,r2⟩),O]⟩
def VC:Prop:=∀(zc o u a b j:Nat)(d:Array Int)(w:World),Holds zg w zc o d->zc<w.heap.size->a<=b->b<=d.size->d.size<4611686018427387904->j<4611686018427387904->Below ltInt a b d ->
 Calls xt 150 #[.slice (some ⟨zc,o,none⟩) d.size u,.int .i64 a,.int .i64 b,.int .i64 j] w λe w'=>
  e=.returned (.tuple #[])/\∃n os,w'=grow (putRow zg (Sort.ahead w n) zc o (Sort.pdq ltInt d a b j true true)) os
def VV(B:VC)(zc j o:Nat)(d:Array Int)(w:World)(E:Holds zg w zc j d)(A:zc<w.heap.size)(C:d.size<4611686018427387904):
 Calls xt 110 #[.slice (some ⟨zc,j,none⟩) d.size o] w λe w'=>e=.returned (.tuple #[])/\∃n os,w'=grow (putRow zg (Sort.ahead w n) zc j (Sort.sort ltInt d)) os:=by
 have F:qA (Holds zg w zc j d):=E;clear E;have u:∀w,Calls xt 151 #[.int .u64 (d.size:Int)] w λe w'=>e=.returned (.int .i64 (bitsLen d.size:Nat))/\w'=w:=λw=>by
  have h:=ZC (d.size:Int) w a8 a8
  rwa[Int.toNat_natCast,bitLen_eq _ a8]at h
 have hk:bitsLen d.size<=62:=(bitsLen_le_iff d.size 62).2 a8;go_enter func110,ntmps110
 go_wp2_with (first
  |(go_at_call 151;refine(u _).mono ?_;rintro e w' ⟨rfl,rfl⟩)
  |(go_at_call 150;refine(B zc j o 0 d.size (bitsLen d.size) d _ (by exact F.o) (by exact A) (X3 _) (Zp _) C a8 (Or.inl rfl)).mono ?_;rintro e w' ⟨rfl,n,os,rfl⟩))
 go_end0
 exact⟨rfl,n,os,rfl⟩
def zmk:CalU where
 ins:=vV
 brk:=vU
 piv:=j6
 par:=yE
 peq:=yz
 prt:=xJ
def znh:PlnU where
 swo:=swo_ltInt
 ins:=insertionSort_holds
 par:=partialInsertionSort_holds
 prt:=partition_holds _
 peq:=partitionEqual_holds _
 pdq:=pdq_sorts _
def J5:VC:=λzc C o a b j d w F hb u A B G E=>
 QJ zmk znh (b-a+1) zc C o a b j d w a8 F hb u A B G E
def Xx(j:List Int):Sort.sort ltInt j.toArray=(j.mergeSort λx y=>decide (x<=y)).toArray:=by rw[<-sortInt j]
def j7(zc j o:Nat)(A:List Int)(w:World)(C:Holds zg w zc j A.toArray)(u:zc<w.heap.size)(B:A.length<4611686018427387904):
 Calls xt 110 #[.slice (some ⟨zc,j,none⟩) A.length o] w λe w'=>
  e=.returned (.tuple #[])/\∃n os,w'=grow (putRow zg (Sort.ahead w n) zc j (A.mergeSort λx y=>decide (x<=y)).toArray) os:=by
 have h:=VV J5 zc j o A.toArray w C u (dK B);rw[Xx]at h;simpa using h
end
section
open Go.RowKit
abbrev Wm:=World×List Nat×Nat
@[reducible] def zsK (Sw:Nat->Prop):Pl.Kpo Wm:=⟨λx y=>Keep Sw x.1 y.1/\(∀k∈x.2.1,k∈y.2.1)/\(1∈x.2.1->y.2.2=x.2.2),λx=>⟨Keep.refl _ _,λ_ h=>h,λ_=>rfl⟩,λa b c h k=>⟨h.1.trans k.1,λ_ e=>k.2.1 _ (h.2.1 _ e),λe=>(k.2.2 (h.2.1 _ e)).trans (h.2.2 e)⟩⟩
def opX(mk:Oper->Option Nat)(P:Program)(Q:Exit->Act->World->Prop)(o:Oper)(a:Act)(x:Wm)(K:Act->Wm->Prop):Prop:=
 match mk o with
 |none=>o.wp P a x.1 (λj w'=>K j (w',x.2)) Q
 |some k=>k∉x.2.1->∃g,o.wp P a x.1 (λj w'=>K j (w',k::x.2.1,g)) Q
def zvT(l:List Oper)(mk:Oper->Option Nat):Bool:=(List.range l.length).all λi=>(List.range l.length).all λj=>decide (i=j) || (match mk (l.getD i default)with|none=>true|some k=>!(mk (l.getD j default) == some k))
def zvg{l:List Oper}{mk:Oper->Option Nat}(h:zvT l mk=true){i j k:Nat}(hi:i<l.length)(w:j<l.length)(o:mk (l.getD i default)=some k)(u:mk (l.getD j default)=some k):i=j:=by unfold zvT at h;simp only[wN,WS]at h;have h:=h i hi j w;rw[o,u]at h;simpa using h
def zuu(l:List Oper)(mk:Oper->Option Nat)(x:Wm):Prop:=∀i,i<l.length->∀k,mk (l.getD i default)=some k->(l.getD i default).guard=none->k∈x.2.1
def zvo{Sw:Nat->Prop}{P:Program}{id:Nat}{l:List Oper}{Q:Exit->Act->World->Prop}{a:Act}{w:World}(mk:Oper->Option Nat)(nt:Nat)(C:Wm->Prop)(hm:P.follows .mixedOrders=true)
 (G:(xk l.toArray l.length nt && yK l.toArray l.length && zvT l mk)=true) (X:a.tmps.size=nt) (hC:C (w.drew,[],0))
 (h:@Pl.walkG Wm (zsK Sw) (opX mk P Q) a (w.drew,[],0) C (λa x=>l.length=l.length/\(zuu l mk x->Q .normal a x.1)) l []):(Code.region id l.toArray true).wp P Q a w:=by
 simp only[VS]at G;refine TT hm ?_;have ab:=@Pl.gready Wm (zsK Sw) l.toArray l.length a (w.drew,[],0) C nt l rfl (opX mk P Q)
  (λi K a x=>(∀k,mk (l.getD i default)=some k->k∉x.2.1)->wpOp P l.toArray Q i (λI w'=>∃r:List Nat×Nat,(∀k∈r.1,k∈x.2.1\/mk (l.getD i default)=some k)/\(∀k∈x.2.1,k∈r.1)/\(∀k,mk (l.getD i default)=some k->(l.getD i default).guard=none->k∈r.1)/\K I (w',r)) a x.1)
  (λE u a x=>u.size=l.length->(∀k∈x.2.1,∃j,j<l.length/\u.getD j false=true/\mk (l.getD j default)=some k)->(∀j,u.getD j false=true->∀k,mk (l.getD j default)=some k->(l.getD j default).guard=none->k∈x.2.1)->wpAny P .any l.toArray Q E u a x.1)
  (λa x=>zuu l mk x->Q .normal a x.1) (λk a x=>k=l.length/\(zuu l mk x->Q .normal a x.1)) ?_ ?_ ?_ ?_ ?_ ?_ G.1.1 G.1.2 X hC (by rw[Wr];exact h)
 .simpa using ab b6 (λk hk=>by cases hk) (λj H=>by
   simp only[wC,uq]at H;split at H<;>cases H)
 .intro i o K a x ho hs hk;have hd:l.getD i default=o:=by rw[wI]at ho;rw[vj,ho];rfl
  unfold wpOp;simp only[ho];split
  .rename_i hw;rw[Vm hw]at hs;left;unfold opX at hs;rw[hd]at hk⊢;cases hmo:mk o with
   |none=>simp only[hmo]at hs;exact Tx (λI w' h=>⟨x.2,λk h=>.inl h,λk h=>h,(λk h=>by cases h),h⟩) hs
   |some k=>simp only[hmo]at hs;obtain⟨g,hs⟩:=hs (hk k hmo);exact Tx (λI w' h=>⟨(k::x.2.1,g),λO h=>(V3.1 h).elim (λe=>.inr (by rw[e])) .inl,λO h=>Wj _ h,(λO h _=>by cases h;exact WJ),h⟩) hs
  .rename_i hw;rw[Vq hw]at hs;refine⟨x.2,λk h=>.inl h,λk h=>h,λk _ B=>?_,hs⟩;rw[hd]at B;exact absurd (by simp[Region.wanted,B]) hw
 .intro i K K' a x hk hs V;exact Tv (λI w' ⟨r,F,J,h3,h4⟩=>⟨r,F,J,h3,hk _ _ h4⟩) (hs V)
 .intro u a x F J hz S M;refine⟨F,J λi hi k hk B=>M i ?_ k hk B⟩;cases hf:u.getD i false with
  |true=>rfl
  |false=>obtain⟨O,A⟩:=qh G.1.2 (dK hz) i (dK hi) hf;rw[F]at A;cases A
 .intro E u a x F J hz S M;refine⟨λhr=>F hr λi hi k hk B=>M i ?_ k hk B,λi hi=>?_⟩
  .cases hf:u.getD i false with
   |true=>rfl
   |false=>obtain⟨O,A⟩:=qh G.1.2 (dK hz) i (dK hi) hf;rw[hr]at A;cases A
  obtain⟨Y,U,_,_⟩:=zo hi;have L:i<l.length:=(dK U);have V:∀k,mk (l.getD i default)=some k->k∉x.2.1:=λk hk T=>(by obtain⟨j,Z,N,j3⟩:=S k T;have:=zvg G.2 L Z hk j3;subst this;rw[(zx Y).1]at N;cases N);refine Tv (λI w'=>?_) (J i hi V);rintro⟨r,r1,r2,r3,r4⟩;refine r4 (dK hz) (λk hk=>?_) λj H k hk B=>?_
  .rcases r1 k hk with h|h
   .obtain⟨j,Z,N,j3⟩:=S k h;refine⟨j,Z,?_,j3⟩;by_cases e:j=i
    .subst e;exact zl (zx Y).2
    .rw[zj e];exact N
   .exact⟨i,L,zl (zx Y).2,h⟩
  .by_cases e:j=i
   .subst e;exact r3 k hk B
   .rw[zj e]at H;exact r2 k (M j H k hk B)
 .rintro k a x hk ⟨rfl,_⟩;simp at hk
 .rintro a x ⟨_,h⟩;exact h
section
variable {Sw:Nat->Prop}{mk:Oper->Option Nat}{P:Program}{Q:Exit->Act->World->Prop}{a0:Act}{x0:Wm}{C:Wm->Prop}{F:Act->Wm->Prop}{l:List Oper}{o:Oper}{env:List (Option Tmp×Pl.VP Wm)}
def zvB(v:Value)(j:mk o=none)(h:∀a w,Keep Sw x0.1 w.1->@Pl.Rds Wm env a0 (zA o) a w->(execOp a.eval o).run P w.1=.ok (.value v) w.1):@Pl.headOk Wm (zsK Sw) (opX mk P Q) a0 x0 C env o (λu _=>u=v):=by intro a w B hk E K A;unfold opX;rw[j];show o.upon P a _ Q ((execOp a.eval o).run P w.1);rw[h a w hk.1 E];exact A v w ((zsK Sw).refl _) B rfl
def ztp(v:Value)(j:mk o=none)(A:o.guard=none)(h:∀a (w:Wm),Keep Sw x0.1 w.1->@Pl.Rds Wm env a0 (zA o) a w->(execOp a.eval o).run P w.1=.ok (.value v) w.1)
 (B:@Pl.walkG Wm (zsK Sw) (opX mk P Q) a0 x0 C F l (env++[(o.dst,λu _=>u=v)])):@Pl.walkG Wm (zsK Sw) (opX mk P Q) a0 x0 C F (o::l) env:=
 ⟨_,λ_ _ _ h _=>h,by unfold Pl.stepOk;rw[A];exact zvB v j h,B⟩
def ztS{j:Nat}{d:Option Tmp}{v y:Value}(h:env[j]?=some (d,λu _=>u=v))(e:v=y):@Pl.isV Wm env j y:=by unfold Pl.isV;rw[h];exact λu _ h=>h.trans e
def zvI{j:Nat}{b:Bool}(v:Value)(A:mk o=none)(B:o.guard=some (j,b))(E:@Pl.isV Wm env j (.bool b))(h:∀a (w:Wm),Keep Sw x0.1 w.1->@Pl.Rds Wm env a0 (zA o) a w->(execOp a.eval o).run P w.1=.ok (.value v) w.1)
 (G:@Pl.walkG Wm (zsK Sw) (opX mk P Q) a0 x0 C F l (env++[(o.dst,λu _=>u=v)])):@Pl.walkG Wm (zsK Sw) (opX mk P Q) a0 x0 C F (o::l) env:=
 ⟨_,λ_ _ _ h _=>h,by unfold Pl.stepOk;rw[B];exact .inl ⟨E,zvB v A h⟩,G⟩
def zt0(V:Pl.VP Wm)(hs:∀u w w',V u w->(zsK Sw).kp w w'->V u w')(j:o.guard=none)
 (h:@Pl.headOk Wm (zsK Sw) (opX mk P Q) a0 x0 C env o V) (A:@Pl.walkG Wm (zsK Sw) (opX mk P Q) a0 x0 C F l (env++[(o.dst,V)])):@Pl.walkG Wm (zsK Sw) (opX mk P Q) a0 x0 C F (o::l) env:=
 ⟨V,hs,by unfold Pl.stepOk;rw[j];exact h,A⟩
def zws{j:Nat}{b:Bool}(V:Pl.VP Wm)(hs:∀u w w',V u w->(zsK Sw).kp w w'->V u w')(A:o.guard=some (j,b))(B:@Pl.isV Wm env j (.bool b))
 (h:@Pl.headOk Wm (zsK Sw) (opX mk P Q) a0 x0 C env o V) (E:@Pl.walkG Wm (zsK Sw) (opX mk P Q) a0 x0 C F l (env++[(o.dst,V)])):@Pl.walkG Wm (zsK Sw) (opX mk P Q) a0 x0 C F (o::l) env:=
 ⟨V,hs,by unfold Pl.stepOk;rw[A];exact .inl ⟨B,h⟩,E⟩
end
structure HX(w0:World)(R:World->World->Prop)(y z:Array Value)(t:TypeId)(x:Wm):Prop where
 pre:0∉x.2.1->Below w0.heap.size w0 x.1
 post:0∈x.2.1->∃w5 w6,Below w0.heap.size w0 w5/\R w5 w6/\w6.heap.size<=x.1.heap.size/\Keep (λk=>1∈x.2.1/\k=x.2.2) w6 x.1/\(1∈x.2.1->x.2.2<w5.heap.size\/w6.heap.size<=x.2.2)
 var:1∈x.2.1->w0.heap.size<=x.2.2/\x.1.heap[x.2.2]?=some (.cells (if 2∈x.2.1 then y else z) t (0,0))
 two:2∈x.2.1->1∈x.2.1
section
variable {S Sw:Nat->Prop}{mk:Oper->Option Nat}{P:Program}{Q:Exit->Act->World->Prop}{a0:Act}{w0:World}{R:World->World->Prop}{y z:Array Value}{t:TypeId}{o:Oper}{env:List (Option Tmp×Pl.VP Wm)}
def HX.start:HX w0 R y z t (w0.drew,[],0):=⟨λ_=>(tv _ _).drew,(λh=>by cases h),(λh=>by cases h),(λh=>by cases h)⟩
def zue{f:FuncId}{c:Call}{N:Array Value}{v:Value}(L:mk o=some 0)(ho:o.op=.call c)(Z:c.callee=.value (.func f))(hv:∀a (x:Wm),@Pl.Rds Wm env a0 (zA o) a x->c.args.map a.eval=N)(he:∀j w,(callFunc f j).run P w=.ok (.enter f j) w)
 (C:∀W,Below w0.heap.size w0 W->Calls P f N W λe w'=>e=.returned v/\R W w') (Y:∀A B,R A B->Keep S A B) (F:∀k,S k->Sw k/\k<w0.heap.size) :
 @Pl.headOk Wm (zsK Sw) (opX mk P Q) a0 (w0.drew,[],0) (HX w0 R y z t) env o (λu x=>u=v/\0∈x.2.1):=by
 intro a x J hk hr K X;unfold opX;rw[L];intro V;refine⟨x.2.2,?_⟩;have O:=J.pre V;have M:(execOp a.eval o).run P x.1=.ok (.enter f N) x.1:=by simp only[execOp,ho,resolve,Z,hv a x hr,Deferred.ofValue,Act.eval,tH,tJ,tB,invoke];simpa using he _ _
 unfold Oper.wp;rw[M,Tc];refine(C _ O).mono ?_;rintro e w' ⟨rfl,E⟩;have G:=Y _ _ E;have H:∀{k},k≠0->k∈(0::x.2.1)->k∈x.2.1:=λhk h=>(V3.1 h).resolve_left hk;refine X v (w',0::x.2.1,x.2.2) ⟨G.mono λk _ h=>(F k h).1,λk h=>Wj _ h,λ_=>rfl⟩ ⟨λh=>absurd WJ h,λ_=>⟨x.1,w',O,E,Zp _,Keep.refl _ _,λh=>.inl (Yf.1 (J.var (H b8 h)).2).1⟩,λh=>?_,λh=>Wj _ (J.two (H b8 h))⟩ ⟨rfl,WJ⟩;obtain⟨T,U⟩:=J.var (H b8 h);refine⟨T,?_⟩;have:=G.obj U λh=>by have:=(F _ h).2;omega
 by_cases I:2∈x.2.1
 .rw[Vm I]at this;rw[Vm (Wj _ I)];exact this
 .rw[Vq I]at this;rw[Vq λh=>I (H b8 h)];exact this
def zuX(C:mk o=some 1)(j:∀(a:Act)(w:World),(execOp a.eval o).run P w=.ok (.value (.pointer (some ⟨w.heap.size,0,none⟩))) (w.alloc (.cells z t))):
 @Pl.headOk Wm (zsK Sw) (opX mk P Q) a0 (w0.drew,[],0) (HX w0 R y z t) env o (λu x=>u=.pointer (some ⟨x.2.2,0,none⟩)/\1∈x.2.1):=by
 intro a x E hk S K M;unfold opX;rw[C];intro B;refine⟨x.1.heap.size,?_⟩;have F:∀{k},k≠1->k∈(1::x.2.1)->k∈x.2.1:=λhk h=>(V3.1 h).resolve_left hk;have A:w0.heap.size<=x.1.heap.size:=hk.1.size;unfold Oper.wp;rw[j];refine M _ (x.1.alloc (.cells z t),1::x.2.1,x.1.heap.size) ⟨(Keep.refl _ _).alloc _,λk h=>Wj _ h,λh=>absurd h B⟩ ⟨λh=>(E.pre λL=>h (Wj _ L)).alloc A _,λh=>?_,λ_=>⟨A,?_⟩,λ_=>WJ⟩ ⟨rfl,WJ⟩
 .obtain⟨N,O,G,H,I,J,_⟩:=E.post (F b8 h);exact⟨N,O,G,H,by simp only[tx];omega,(J.mono λk _ h=>absurd h.1 B).alloc _,λ_=>.inr I⟩
 .rw[Vq λh=>B (E.two (F b8 h))];exact tq _ _
def zuY(B:mk o=some 2)(E:∀a (x:Wm),@Pl.Rds Wm env a0 (zA o) a x->1∈x.2.1/\∀w,w.heap[x.2.2]?=some (.cells z t (0,0))->∃w',(execOp a.eval o).run P w=.ok .skip w'/\w'.heap[x.2.2]?=some (.cells y t (0,0))/\Keep (λk=>k=x.2.2) w w')(A:∀k,w0.heap.size<=k->Sw k):
 @Pl.headOk Wm (zsK Sw) (opX mk P Q) a0 (w0.drew,[],0) (HX w0 R y z t) env o (λ_ _=>True):=by
 intro a x G hk O K M;unfold opX;rw[B];intro L;refine⟨x.2.2,?_⟩;have N:∀{k},k≠2->k∈(2::x.2.1)->k∈x.2.1:=λhk h=>(V3.1 h).resolve_left hk;obtain⟨u,F⟩:=E a x O;obtain⟨H,I⟩:=G.var u;rw[Vq L]at I;obtain⟨w',C,S,j⟩:=F x.1 I;unfold Oper.wp;rw[C];refine M _ (w',2::x.2.1,x.2.2) ⟨j.mono λk _ e=>A k (by rw[e];exact H),λk h=>Wj _ h,λ_=>rfl⟩ ⟨λh=>(G.pre λJ=>h (Wj _ J)).trans (j.below (by have:=hk.1.size;exact this) λk hk e=>a8),λh=>?_,λ_=>⟨H,by rw[Vm WJ];exact S⟩,λ_=>Wj _ u⟩ trivial;obtain⟨Z,w6,T,U,V,X,Y⟩:=G.post (N b8 h);exact⟨Z,w6,T,U,V0 V j.size,(X.mono λk _ e=>⟨Wj _ e.1,e.2⟩).trans (j.mono λk _ e=>⟨Wj _ u,e⟩),λ_=>Y u⟩
end
def mkD(c:Nat)(v:Option Nat)(s:Bool)(o:Oper):Option Nat:=match o.dst with
 |some d=>if d=c then some 0 else if some d=v then some 1 else none
 |none=>if s=true then some 2 else none
def exM{α:Type}{A B v:α}{q:Prop}:(∃u,(A=u/\B=u)/\u=v/\q)->A=v/\B=v:=λ⟨_,h,e,_⟩=>by rw[<-e];exact h
def zt6{Sw:Nat->Prop}{c:Value}{k:Nat}:∀(u:Value)(w w':Wm),(fun(u:Value) (x:Wm)=>u=c/\k∈x.2.1) u w->(zsK Sw).kp w w'->(fun(u:Value) (x:Wm)=>u=c/\k∈x.2.1) u w':=λ_ _ _ h hk=>⟨h.1,hk.2.1 _ h.2⟩
def zwr{Sw:Nat->Prop}:∀(u:Value)(w w':Wm),(fun(u:Value) (x:Wm)=>u=.pointer (some ⟨x.2.2,0,none⟩)/\1∈x.2.1) u w->(zsK Sw).kp w w'->(fun(u:Value) (x:Wm)=>u=.pointer (some ⟨x.2.2,0,none⟩)/\1∈x.2.1) u w':=λ_ _ _ h hk=>⟨by rw[hk.2.2 h.2];exact h.1,hk.2.1 _ h.2⟩
def xds{G o:Prop}(k:o)(e:Hd o->G:=by
 intro u;repeat (first
  |(refine ztp ?_ rfl rfl (λa m hk j=>?_) ?_;rotate_left;(have q:=(‹qA (∀m:Wm,Keep _ _ m.1->_)›).o m hk;(first|obtain⟨_,_,_⟩:=q|obtain⟨_,_⟩:=q);simp[Pl.Rds,zA,Pl.lk,Op.operands,Call.operands,RdEq]at j;(first|replace j:=exM j|replace j:=And.intro j.1 (exM j.2)|skip);go_simp;with_reducible rfl);simp only[Y1,yb])
  |(refine zvI ?_ rfl rfl (ztS rfl rfl) (λa m hk j=>?_) ?_;rotate_left;(have q:=(‹qA (∀m:Wm,Keep _ _ m.1->_)›).o m hk;(first|obtain⟨_,_,_⟩:=q|obtain⟨_,_⟩:=q);simp[Pl.Rds,zA,Pl.lk,Op.operands,Call.operands,RdEq]at j;(first|replace j:=exM j|replace j:=And.intro j.1 (exM j.2)|skip);go_simp;with_reducible rfl);simp only[Y1,yb]))
 exact u.h):G:=e ⟨k⟩
end
section
open Go.RowKit Go.Maps
attribute [local go_sem] Oper.semAt_some
def rW(v:Value):Option (DataW Value×List MemPlace):=some (.held v,[])
def kQ(r:Nat):Lit:=.int .u64 (r:Nat)
def ztm(D:DataW Value)(x:Nat):Prop:=has D (kQ x)=true/\x<zk
def ztD(D:DataW Value)(pre:List Nat):Prop:=pre.Nodup/\∀x∈pre,ztm D x
def zwl:Keyed xt 36 := int_keyed underlying36
def zwL{r:Nat}(h:r<zk):keyOf xt 36 (.int .u64 (r:Nat))=some (kQ r):=by rw[zw]at h;refine keyOf_int_mk underlying36 ?_;simp[Lit.wf,IntKind.min,IntKind.max,IntKind.signed,IntKind.bits];omega
def zwJ:∀(j:Value)(kl:Lit),keyOf xt 36 j=some kl->∃x:{r:Nat // r<zk},j=Value.int .u64 (x.1:Nat):=λj kl h=>by obtain⟨x,rfl,_,o⟩:=Maps.keyOf_int_inv underlying36 h;simp[Lit.wf,IntKind.min,IntKind.max,IntKind.signed,IntKind.bits]at o;refine⟨⟨x.toNat,by rw[zw];omega⟩,?_⟩;rw[th a8]
def zvt{left:Lit->Bool}{r x:Nat}:(left (kQ r) && !(kQ r).sameKey (kQ x))=(left (kQ r) && !decide (r=x)):=by
 have h:(kQ r).sameKey (kQ x)=decide (r=x):=by simp[kQ,Lit.sameKey];omega
 rw[h]
def zvm{w w':World}{b r n YV:Nat}{D:DataW Value}{left:Lit->Bool}(h:w.ranges xt 36 rW b r n D left YV)(hb:w'.heap[b]?=w.heap[b]?)(H:w'.heap[r]?=w.heap[r]?):w'.ranges xt 36 rW b r n D left YV:=by obtain⟨B,j,o,u,A,C,F,hs,G,E,rest⟩:=h;exact⟨B,j,o,u,A,hb.trans C,F,hs,G,H.trans E,rest⟩
def zwN{w w':World}{b n:Nat}{D:DataW Value}(h:w.ownsMap xt 36 rW b n D)(hb:w'.heap[b]?=w.heap[b]?):w'.ownsMap xt 36 rW b n D:=by obtain⟨o,j,u,r⟩:=h;exact⟨o,j,hb.trans u,r⟩
def PtM(j:Nat)(A B:World):Prop:=A.heap.size<=B.heap.size/\∀k,k<A.heap.size->(k<j\/∃b s e c,A.heap[k]?=some (.mapIter b s e c))->B.heap[k]?=A.heap[k]?
def zuF{t B Bv n0:Nat}{j:World}{D:DataW Value}(w:j.ownsMap xt 36 rW B t D)(Y:Boxed j Bv 82 (.map (some B)))(h1:B<n0)(h2:Bv<n0)(h3:n0<=j.heap.size):
 zsL xt 111 #[.pointer (some ⟨Bv,0,none⟩)] (λx:Nat=>#[.int .u64 x]) (λk=>k=j.heap.size) (PtM n0) (λpre x=>x∉pre/\ztm D x) (λpre=>pre.Nodup/\∀x,x∈pre↔ztm D x) (λ_=>True) j:=by
 intro l' J Jx hJ aq hY h0;refine callsIn_wide.2 ?_;show Calls xt 111 #[.func (.yield l') #[] #[],.pointer (some ⟨Bv,0,none⟩)] j _;have HJ:=qL hJ;have HY:=qL hY;have HO:=qL w;have c0:=Y.cell;clear hJ hY w aq Y;go_enter func111,ntmps111
 go_wp2_with (at_range;refine TJ _ rfl _ 82 rfl 36 47 zwl underlying82 rW B t D rfl HO.o ?_;intro w2 A G aA)
 have ab:=HJ.o [] _ _ h0 ((Keep.refl _ j).grown G λk e=>by cases e);have U:∀k,k<n0->w2.heap[k]?=j.heap[k]?:=λk hk=>G.block k a8 b6;clear h0 G c0;go_loopg [3] (Maps.size D) (λg x wr=>∃left pre,wr.ranges xt 36 rW B j.heap.size t D left g/\(∀r,left (kQ r)=true↔has D (kQ r)=true/\r∉pre)/\pre.Nodup/\(∀r∈pre,ztm D r)/\J pre wr/\(∀k,k<n0->wr.heap[k]?=j.heap[k]?));case atStart=>exact⟨_,[],A,λr=>b6,US,λr h=>(by cases h),ab,U⟩
 case round=>
  obtain⟨left,pre,ai,ad,ah,Z,hj,X⟩:=hrel;have O:=qL ai;have E:=qL ad;have N:=qL ah;have L:=qL Z;have M:=qL hj;have am:=qL X;clear A ai ad ah Z hj X ab U
  go_wp2_with (first
   |(at_next;refine TE _ rfl _ rfl 36 zwl rW (λr:{r:Nat // r<zk}=>Value.int .u64 (r.1:Nat)) (λc:Value=>c) zwJ (λv y _=>⟨v,rfl⟩) B j.heap.size t D left gk rfl O.o ?_ ?_)
   |go_in)
  .intro ay av
   go_wp2_with fail
   go_end0
   refine⟨⟨_,rfl⟩,.inl ⟨pre,⟨N.o,λx=>⟨L.o x,λhx=>wV λhn=>?_⟩⟩,M.o⟩⟩;have:=(E.o x).2 ⟨hx.1,hn⟩;rw[av]at this;cases this
  .intro x hx c kl y ys w3 S u ae hv ar C af H aB az;obtain rfl:kl=kQ x:=by have:=(zwL hx).symm.trans u;simpa using this.symm
   have o:=(E.o x).1 ae;have ac:=HJ.o pre _ _ M.o ((Keep.refl (λk=>k=j.heap.size) wr).grown H λk e _=>by cases e;rfl);have V:∀k,k<n0->w3.heap[k]?=j.heap[k]?:=λk hk=>(H.block k (by have:=O.o.lt;omega) (λe=>by cases e;omega)).trans (am.o k hk);obtain⟨fn,ax,aj,aw,hy,hR⟩:=HY.o pre x w3 ac ⟨o.2,o.1,hx⟩;have P:=qL C;have ak:=qL V;have Q:=qL o;have an:=qL af;clear C V ac o ae H u hv ar af;go_upto_region 3 with fail;refine(Ty (n:=8)).1 ?_
   gi_wp2
   refine hR.mono ?_;rintro e w4 (⟨rfl,ao,F⟩|⟨rfl,T⟩)
   .gi_wp2
    go_wp2_with fail
    go_roundg S;case measure=>exact an.o
    case rel=>
     have I:=P.o;have ag:=I.lt;have au:∃b s e c,w3.heap[j.heap.size]?=some (.mapIter b s e c):=(by obtain⟨_,_,_,_,_,_,_,_,_,h,_⟩:=I;exact⟨_,_,_,_,h⟩);refine⟨_,pre++[x],zvm I (F.2 _ a8 (.inl h1)) (F.2 _ ag (.inr au)),λr=>?_,?_,λr K=>?_,ao,λk hk=>(F.2 k a8 (.inl hk)).trans (ak.o k hk)⟩
     .rw[zvt,VS,E.o r];by_cases e:r=x
      .subst e;simp
      .simp[e]
     .refine Ur.2 ⟨N.o,b6,λa ha b hb e=>?_⟩;simp only[wH]at hb;rw[hb]at e;exact Q.o.2 (e▸ha)
     .rcases wF.1 K with K|K
      .exact L.o r K
      .simp only[wH]at K;rw[K];exact⟨Q.o.1,hx⟩
   .gi_wp2
    go_wp2;refine tA (tN rfl _ _ _) rfl ?_;exact⟨⟨_,rfl⟩,.inr ⟨_,trivial,T⟩⟩
def zuG(B:Nat)(w:World):Calls xt 68 #[.map (some B)] w λe w'=>e=.returned (.func (.func 111) #[] #[.pointer (some ⟨w.heap.size,0,none⟩)])/\w'=w.alloc (.cells #[.map (some B)] 82):=by
 go_enter func68,ntmps68
 go_wp2;go_ret;exact⟨rfl,rfl⟩
def SN.ptM{C:Nat}{A B:World}(h:SN C A B):PtM C A B:=by
 obtain⟨⟨v,E⟩,hk⟩:=h;have w:A.heap[C]?=some (.cells #[v] 128 (0,0)):=E;refine⟨hk.size,λk u j=>hk.block k u ?_⟩;rintro(rfl|⟨G,F,f,o⟩)
 .rcases j with j|⟨_,_,_,_,j⟩
  .omega
  .rw[w]at j;cases j
 .rcases j with j|⟨_,_,_,_,j⟩
  .omega
  .rw[o]at j;cases j
def ztF{t B Q:Nat}{w:World}{D:DataW Value}(P:w.ownsMap xt 36 rW B t D)(U:Boxed w Q 82 (.map (some B)))(hl:∀pre,ztD D pre->pre.length<=1000000):
 Calls xt 149 #[.slice none 0 0,.func (.func 111) #[] #[.pointer (some ⟨Q,0,none⟩)]] w λe w'=>∃u pre,e=.returned u/\OwnN w.heap.size w' u pre/\ztD D pre/\(∀x,x∈pre↔ztm D x)/\Below w.heap.size w w':=by
 have T:=U.lt;have hB:=P.lt;refine callsIn_wide.1 (Td (n:=9) func149 rfl trivial ?_ rfl);simp only[ntmps149,WC,ww,Wt,Nat.reduceAdd,Nat.reduceSub,uu,uv,uJ,ux,Y1,yb]
 gi_wp2
 obtain⟨N,J⟩:=xn (w.alloc (Obj.cells #[Value.slice none 0 0] 128));have ah:N.heap.size=w.heap.size+1:=by rw[<-J];simp
 have b0:Boxed N w.heap.size 128 (Value.slice none 0 0):=by rw[<-J];exact tX w _ _
 have S:Below w.heap.size w N:=by rw[<-J];exact(tv _ _).alloc (Zp _) _
 try simp only[tx]
 rw [J];clear J;refine zsS (w:=N) 111 #[.pointer (some ⟨Q,0,none⟩)] rfl (enters_of func111 dL rfl) (λx:Nat=>#[.int .u64 x]) (λ_=>rfl)
  (λk=>k=w.heap.size+3) (PtM w.heap.size) (λpre x=>x∉pre/\ztm D x) (λpre=>pre.Nodup/\∀x,x∈pre↔ztm D x) (λ_=>True) ?hit
  (SN w.heap.size) (λA B h k hk K=>h.2.block k K (by rintro(e|⟨e,_⟩)<;>omega)) (λA B h=>h.ptM)
  ?hPt ?hPt0 a8
  (λpre W=>(∃u,Boxed W w.heap.size 128 u/\OwnN (w.heap.size+4) W u pre)/\ztD D pre/\Below w.heap.size w W)
  (λ_ _ _=>False) ?hI (λ_ _ _ _ h _=>h) ⟨⟨_,b0,OwnN.nil _ _⟩,⟨US,λx h=>(by cases h)⟩,S⟩
  (λpre x Y W=>((∃u,Boxed W w.heap.size 128 u/\OwnN (w.heap.size+4) W u pre)/\ztD D pre/\Below w.heap.size w W) /\
    Y={ tmps:=#[Value.slice none 0 0,Value.func (Fn.func 111) #[] #[Value.pointer (some ⟨Q,0,none⟩)],Value.pointer (some ⟨w.heap.size,0,none⟩),undef,Value.slice none 0 0,.int .u64 (x:Nat),Value.func (Fn.func 111) #[] #[Value.pointer (some ⟨Q,0,none⟩)],.int .u64 (x:Nat),undef,undef,undef,undef,undef],defers:=[] })
  ?hAx ?hassign ?hbody ?hdone (λ_ _ _ _ h _=>h.elim)
 case hit=>intro W hk ag;have Z:=S.trans (hk.below a8 λ_ _=>id);have h:=zuF (n0:=w.heap.size) (zwN P (Z.block _ hB)) ((Z.block _ T).trans U) hB T Z.size;rw[show W.heap.size=w.heap.size+3 by omega]at h;exact h
 case hPt=>rintro A B C ⟨E,H⟩ ⟨F,h4⟩;refine⟨V0 E F,λk hk M=>?_⟩;have e1:=H k hk M;exact(h4 k a8 (M.imp id λ⟨b,s,e,c,h⟩=>⟨b,s,e,c,e1.trans h⟩)).trans e1
 case hPt0=>
  rintro A B hk ⟨o,ho⟩;refine⟨hk.size,λk K M=>hk.block k K ?_⟩;rintro rfl;rcases M with M|⟨_,_,_,_,M⟩
  .omega
  .rw[ho]at M;cases M
 case hI=>rintro pre A B ⟨⟨u,E,H⟩,I,F⟩ hk;exact⟨⟨u,hk.boxed E a8,H.keep hk (λg hg _=>a8)⟩,I,F.trans (hk.below F.size λk hk=>a8)⟩
 case hAx=>rintro pre x Y A B ⟨⟨⟨u,E,H⟩,I,F⟩,rfl⟩ hk;exact⟨⟨⟨u,hk.boxed E a8,H.keep hk (λg hg _=>a8)⟩,I,F.trans (hk.below F.size λk hk=>a8)⟩,rfl⟩
 case hassign=>
  rintro l pre x W L K ⟨⟨u,E,H⟩,I,F⟩;clear L
  gi_wp2
  exact⟨⟨⟨u,E⟩,Keep.refl _ _⟩,⟨⟨u,E,H⟩,I,F⟩,trivial⟩
 case hbody=>
  rintro l' pre x Y W L K ⟨⟨⟨u,E,H⟩,I,F⟩,rfl⟩;have M:=E.cell;have hf:=E.frozen;obtain⟨i0,ab,ac,ad,ae⟩:=tR Tryz.infoU;have hl:=hl _ I;have X:qA (ztD D (pre++[x])):=qL ⟨Ur.2 ⟨I.1,b6,λa ha b hb e=>by simp only[wH]at hb;exact L.1 (hb▸e▸ha)⟩,λy hy=>(wF.1 hy).elim (I.2 y) λh=>by simp only[wH]at h;rw[h];exact L.2⟩;clear I L
  gi_wp2_with (gi_at_builtin;refine TB _ rfl _ _ 128 rfl (w.heap.size+4) 36 i0 (.int .u64 0) 1 8 underlying128 ab ac ad ae rfl b8 _ _ _ rfl (H.alloc _) ⟨W.heap.size,0,none⟩ 1 1 [.int .u64 (x:Nat)] rfl rfl (kw (cs:=#[.int .u64 (x:Nat)]) (t := 36) (fr:=(0,0)) (tq W _)) dH c8 a8 (by rw[tx];omega) ?_;intro v' w3 j G _;obtain⟨g',af,rfl⟩:=TW j;obtain⟨q2,q3,q4⟩:=Q5 (ys:=pre++[x]) E H (dK j) G;have ai:=(qO E b8 H j G).1.cell;have aj:=(qO E b8 H j G).1.frozen)
  exact⟨q4,⟨_,q2,q3⟩,X.o,F.trans (q4.2.below F.size λk hk=>by rintro(e|⟨e,_⟩)<;>omega)⟩
 case hdone=>
  rintro pre W ⟨_,O⟩ ⟨⟨u,E,H⟩,I,F⟩ hD;have M:=E.cell;have HF:=qL O;have HM:=qL I;clear O I
  gi_wp2
  refine⟨b6,.inl ⟨_,_,rfl,Tf hD,?_⟩⟩;have V:Keep (λk=>k=N.heap.size) W (W.putObj N.heap.size (.deferred none)):=(Keep.refl (λk=>k=N.heap.size) W).putObj (λ_=>rfl) _;exact⟨_,tL rfl _ _ _,u,pre,rfl,OwnN.mono (H.keep V λg hg _=>a8) a8,HM.o,HF.o,F.trans (V.below F.size λk hk=>a8)⟩
end
section
open Go.RowKit
structure Kd(base:Nat)(w w':World):Prop where
 below:Below base w w'
 cell:∀a v,w.cell? a=some v->∃v',w'.cell? a=some v'/\(v'=v\/((∃m,v=.int .u64 m)/\∃m',v'=.int .u64 m'))
 frz:∀a v,w.cell? a=some v->w'.frozen? a=w.frozen? a
def Kd.refl(base:Nat)(w:World):Kd base w w:=⟨tv _ _,λa v h=>⟨v,h,.inl rfl⟩,λ_ _ _=>rfl⟩
def Kd.trans{base:Nat}{w C E:World}(h:Kd base w C)(g:Kd base C E):Kd base w E:=by
 refine⟨h.below.trans g.below,λa v u=>?_,λa v u=>?_⟩
 .obtain⟨B,A,o⟩:=h.cell a v u;obtain⟨H,F,j⟩:=g.cell a B A;refine⟨H,F,?_⟩;rcases j with rfl|⟨⟨m,G⟩,j⟩
  .exact o
  .rcases o with rfl|⟨o,_⟩
   .exact .inr ⟨⟨m,G⟩,j⟩
   .exact .inr ⟨o,j⟩
 .obtain⟨B,A,_⟩:=h.cell a v u;exact(g.frz a B A).trans (h.frz a v u)
def Kd.of_below{base:Nat}{w w':World}(h:Below w.heap.size w w')(hb:base<=w.heap.size):Kd base w w':=by
 refine⟨h.mono hb,λa v o=>?_,λa v o=>?_⟩
 .have j:=tr _ _ o;exact⟨v,(tp (h.block _ j)).trans o,.inl rfl⟩
 .have j:=tr _ _ o;unfold World.frozen?;rw[h.block _ j]
def Kd.alloc{base:Nat}{w j:World}(h:Kd base w j)(hb:base<=j.heap.size)(o:Obj):Kd base w (j.alloc o):=
 h.trans (Kd.of_below ((tv _ j).alloc (Zp _) o) hb)
def Kd.set{base:Nat}{w j:World}(h:Kd base w j){b o:Nat}{m:Int}(hb:base<=b)(A:j.cell? ⟨b,o,none⟩=some (.int .u64 m))(x:Int):Kd base w (j.setCell ⟨b,o,none⟩ (.int .u64 x)):=by
 refine h.trans ⟨(tv _ j).setCell hb _,λa v u=>?_,λa v _=>?_⟩
 .by_cases e:a=⟨b,o,none⟩
  .subst e;rw[A]at u;cases u;exact⟨_,tT _ _ _ A,.inr ⟨⟨m,rfl⟩,x,rfl⟩⟩
  .exact⟨v,(Th _ _ _ _ (Ug e)).trans u,.inl rfl⟩
 .simp
def Kd.keep{base:Nat}{w w':World}(h:Kd base w w'){a:Addr}{v:Value}(B:w.cell? a=some v)(A:∀m,v≠.int .u64 m):w'.cell? a=some v:=by
 obtain⟨C,j,o⟩:=h.cell a v B;rcases o with rfl|⟨⟨m,u⟩,_⟩
 .exact j
 .exact absurd u (A m)
def Kd.num{base:Nat}{w w':World}(h:Kd base w w'){a:Addr}{m:Int}(o:w.cell? a=some (.int .u64 m))(B:w.frozen? a=false):∃j,w'.cell? a=some (.int .u64 j)/\w'.frozen? a=false:=by
 obtain⟨C,u,A⟩:=h.cell a _ o;refine(show ∃j,C=.int .u64 j from ?_).elim λj e=>⟨j,e▸u,(h.frz a _ o).trans B⟩;rcases A with rfl|⟨_,j,e⟩
 .exact⟨m,rfl⟩
 .exact⟨j,e⟩
def NumAt(S:Nat->Prop)(w:World)(b o:Nat):Prop:=S b/\∃m,w.cell? ⟨b,o,none⟩=some (.int .u64 m)/\w.frozen? ⟨b,o,none⟩=false
def MuR(f:xT)(sz:Nat)(v:Value)(n:Nat):Prop:=∃a o,v=.slice a n o/\n<=o/\o<=maxLen/\(n≠0->∃b u,a=some ⟨b,u,none⟩/\∀j,j<n->f b (u+j*sz))
def MuI(S:Nat->Prop)(w:World)(v:Value):Prop:=∃n,MuR (λb o=>NumAt S w b o/\NumAt S w b (o+1)) 2 v n
def MuE(S:Nat->Prop)(w:World)(v:Value):Prop:=∃n,MuR (λb o=>NumAt S w b o/\NumAt S w b (o+1)/\∃h,w.cell? ⟨b,o+2,none⟩=some h/\MuI S w h) 3 v n
def MuF(S:Nat->Prop)(w:World)(v:Value):Prop:=∃n,MuR (λb o=>(∃h,w.cell? ⟨b,o,none⟩=some h/\MuI S w h)/\∃h,w.cell? ⟨b,o+1,none⟩=some h/\MuE S w h) 2 v n
def MuR.imp{f g:xT}{sz n:Nat}{v:Value}(h:MuR f sz v n)(hi:∀b o,f b o->g b o):MuR g sz v n:=by obtain⟨a,u,A,B,C,E⟩:=h;refine⟨a,u,A,B,C,λH=>?_⟩;obtain⟨b,w,e,F⟩:=E H;exact⟨b,w,e,λj G=>hi _ _ (F j G)⟩
def MuR.nil{f:xT}{sz:Nat}:MuR f sz (.slice none 0 0) 0:=⟨none,0,rfl,Zp _,b8,λh=>absurd rfl h⟩
section
variable {S T:Nat->Prop}{base b o:Nat}{w w':World}{v:Value}
def NumAt.kd(h:NumAt S w b o)(k:Kd base w w'):NumAt S w' b o:=⟨h.1,by
 obtain⟨_,m,j,u⟩:=h;exact k.num j u⟩
def NumAt.mono(h:NumAt S w b o)(j:∀b,S b->T b):NumAt T w b o:=⟨j _ h.1,h.2⟩
def MuI.kd(h:MuI S w v)(k:Kd base w w'):MuI S w' v:=
 h.imp λ_ h=>h.imp λ_ _ h=>⟨h.1.kd k,h.2.kd k⟩
def MuI.mono(h:MuI S w v)(j:∀b,S b->T b):MuI T w v:=
 h.imp λ_ h=>h.imp λ_ _ h=>⟨h.1.mono j,h.2.mono j⟩
def MuI.slice(h:MuI S w v):∀m,v≠.int .u64 m:=by obtain⟨n,a,j,rfl,_⟩:=h;intro m e;cases e
def MuE.slice(h:MuE S w v):∀m,v≠.int .u64 m:=by obtain⟨n,a,j,rfl,_⟩:=h;intro m e;cases e
def MuE.kd(h:MuE S w v)(k:Kd base w w'):MuE S w' v:=
 h.imp λ_ h=>h.imp λ_ _ h=>⟨h.1.kd k,h.2.1.kd k,h.2.2.imp λ_ g=>⟨k.keep g.1 g.2.slice,g.2.kd k⟩⟩
def MuF.kd(h:MuF S w v)(k:Kd base w w'):MuF S w' v:=
 h.imp λ_ h=>h.imp λ_ _ h=>⟨h.1.imp λ_ g=>⟨k.keep g.1 g.2.slice,g.2.kd k⟩,h.2.imp λ_ g=>⟨k.keep g.1 g.2.slice,g.2.kd k⟩⟩
end
def OwnR.mu{base:Nat}{w:World}{v:Value}{l:List Iv}(h:OwnR base w v l):MuI (λb=>base<=b/\b<w.heap.size) w v:=by
 obtain⟨ho,_⟩:=h;rcases ho.2 with⟨rfl,O⟩|⟨g,B,C,rfl,G,F,N,M,hs,ht⟩
 .exact⟨0,MuR.nil⟩
 .refine⟨l.length,some ⟨g,0,none⟩,B,rfl,N,M,λ_=>⟨g,0,rfl,λj L=>?_⟩⟩;have A:∀i x,(xw l)[i]?=some x->w.cell? ⟨g,i,none⟩=some x/\w.frozen? ⟨g,i,none⟩=false:=λi x u=>by
   rw[<-ht]at u;have E:C[i]?=some x:=by
    rw[wt]at u;split at u
    .simpa using u
    .cases u
   simp[World.cell?,World.frozen?,F,E]
  obtain⟨J,K⟩:=vz l j L;obtain⟨H,I⟩:=A _ _ J;obtain⟨b1,b2⟩:=A _ _ K;simp only[wn];have o:=(Yf.1 F).1;exact⟨⟨⟨G,o⟩,_,H,I⟩,⟨G,o⟩,_,b1,b2⟩
end
namespace As
open Go.RowKit Go.Extern.Stop Go.Stop Go.Extern
def noIsN(v:Value)(j:TypeId)(w:World):(Instr.typeAssert (.iface 66 v) j 192 true).run xt w=.ok (.tuple #[.nilIface,.bool false]) w:=t8 underlying192 dL dL v j w
def noUwN(v:Value)(j:TypeId)(w:World):(Instr.typeAssert (.iface 66 v) j 195 true).run xt w=.ok (.tuple #[.nilIface,.bool false]) w:=t8 Tryz.underlying195 dL dL v j w
def noUmN(v:Value)(j:TypeId)(w:World):(Instr.typeAssert (.iface 66 v) j 197 true).run xt w=.ok (.tuple #[.nilIface,.bool false]) w:=t8 underlying197 dL dL v j w
def eqN2(c t:Int)(w:World):(binOp .eql 41 (.iface 66 (.int .i64 c)) (.iface 66 (.int .i64 t))).run xt w=.ok (.bool (c == t)) w:=dL
def is_FN(c k t:Int)(w:World):Calls xt 84 #[.iface 115 (.agg #[.int .i64 c,.int .i64 k]),.iface 66 (.int .i64 t),.bool true] w λev w'=>ev=.returned (.bool (c == t))/\Below w.heap.size w w':=by
 have F:=eqFN;have u:=eqN2 c t;have C:=noIsF;have E:=noIsN;have G:=noUwN;have B:=noUmN;have hF:=hasUw;have A:=methodUnwrap;obtain⟨r,j⟩:=xm ((c == t));rw[<-j]at u;have o:=qL j;clear j;go_enter func84,ntmps84
 go_wp2;refine To 3 ?_;rw[Ta]
 go_wp2;rw[Ta];cases r with
 |false=>go_wp2;refine tA (tL rfl _ _ _) rfl ?_;rw[<-o.o];exact⟨rfl,(tv _ w).alloc (Zp _) _⟩
 |true=>go_wp2;refine tA (tL rfl _ _ _) rfl ?_;rw[<-o.o];exact⟨rfl,(tv _ w).alloc (Zp _) _⟩
def Is_FN(c k t:Int)(w:World):Calls xt 43 #[.iface 115 (.agg #[.int .i64 c,.int .i64 k]),.iface 66 (.int .i64 t)] w λev w'=>ev=.returned (.bool (c == t))/\Below w.heap.size w w':=by
 have j:=@run_callFunc_extern xt 83 _ ReflectliteType.typeOf func83 dL dL dL dL
 have o:=@run_callFunc_extern xt 244 _ (ReflectliteType.method (λt=>do Rtype.noPackHeld "Comparable" t;pure (.bool (<-typeInfo t).comparable))) func244 dL dL dL dL
 have B:=typeOfN;have A:=methodComparable;have u:=comparableN;go_enter func43,ntmps43
 go_wp2_with (first
  |(go_at_call 84;refine(is_FN c k t _).mono ?_;rintro e w' ⟨rfl,hb⟩)
  |go_in)
 go_ret;exact⟨rfl,hb⟩
def eqNil(t:TypeId)(v:Value)(w:World):(binOp .eql 41 .nilIface (.iface t v)).run xt w=.ok (.bool false) w:=dL
def Is_nil(t:Int)(w:World):Calls xt 43 #[.nilIface,.iface 66 (.int .i64 t)] w λev w'=>ev=.returned (.bool false)/\w'=w:=by
 have q:=eqNil;go_enter func43,ntmps43
 go_wp2;go_ret;exact⟨rfl,rfl⟩
end As
end Go.Proofs.YtmpnbdhadjfbhaaGreatDoor
