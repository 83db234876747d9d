import Derived.Sort.Walk11
import Derived.Sort.Walk13
import Derived.Sort.WalkA14
import Derived.Sort.AssemblyPlain
import Derived.Maps.Own
import Derived.Maps.Views
import Derived.Maps.RangeWalk
import Derived.Test.YtmpnbdhadjfbhaaGreatDoorB11
set_option maxHeartbeats 16000000
set_option linter.all false
set_option maxRecDepth 100000
namespace Go.Proofs.YtmpnbdhadjfbhaaGreatDoor
def TB:=@Go.wpList_next_ranges
def TG:=@Go.wpList_range_own
def TK:=@Go.Sort.medianAdjacent_count
def TM:=@Go.Sort.medianAdjacent_mem
def T3:=@Go.Sort.rd_lim_le
open Go.Proofs.Tryz
open Go.Proofs.Tryz renaming prog->xT
section
open Go.RowKit Go.Sort
def Y2(w:World)(N S:Nat):∃os,putRow (Value.int .i64) (Sort.ahead (w.alloc (.cells #[.int .i64 0] 3)) N) w.heap.size 0 (one S)=grow (Sort.ahead w N) os:=by rw[alloc_eq_grow,ahead_grow];obtain⟨os,_,h⟩:=putRow_grow_new (Value.int .i64) (Sort.ahead w N) #[.cells #[.int .i64 0] 3] w.heap.size 0 (one S) (Zp _);exact⟨os,h⟩
def ZI(zc o u:Nat)(d:Array Int)(w:World)(O:Holds zg w zc o d)(F:zc<w.heap.size)(Q:d.size<4611686018427387904):
 ∃C:Nat->Nat->World,
  w.alloc (.cells #[.int .i64 0] 3)=C 0 0 /\
  (∀N S:Nat,(C N S).cell? ⟨w.heap.size,0,none⟩=some (.int .i64 (S:Int))) /\
  (∀N S:Nat,∃os,C N S=grow (Sort.ahead w N) os) /\
  (∀x s N:Nat,1<=x->x+1<d.size->s+3<4611686018427387904->Calls xT 206 #[.slice (some ⟨zc,o,none⟩) d.size u,.int .i64 (x:Int),.pointer (some ⟨w.heap.size,0,none⟩)] (C N s) λe G=>
    e=.returned (.int .i64 ((medianAdjacent ltInt d x s).1:Int))/\∃H,G=C H (medianAdjacent ltInt d x s).2) /\
  (∀x y z s N:Nat,x<d.size->y<d.size->z<d.size->s+3<4611686018427387904->Calls xT 207 #[.slice (some ⟨zc,o,none⟩) d.size u,.int .i64 (x:Int),.int .i64 (y:Int),.int .i64 (z:Int),.pointer (some ⟨w.heap.size,0,none⟩)] (C N s) λe G=>
    e=.returned (.int .i64 ((median ltInt d x y z s).1:Int))/\∃H,G=C H (median ltInt d x y z s).2):=by
 have B:w.heap.size≠zc:=a8
 have E:Holds zg (w.alloc (.cells #[.int .i64 0] 3)) zc o d:=by rw[alloc_eq_grow];exact holds_grow _ _ _ _ _ _ F O
 have A:Holds (Value.int .i64) (w.alloc (.cells #[.int .i64 0] 3)) w.heap.size 0 (one 0):=λj P=>by obtain rfl:j=0:=(dJ P);simp
 refine⟨λN S=>putRow (Value.int .i64) (Sort.ahead (w.alloc (.cells #[.int .i64 0] 3)) N) w.heap.size 0 (one S),(Ta _ _ _ _ _ A).symm,λN S=>(one_cell (holds_one (n:=N) (t:=S) A)).1,λN S=>Y2 w N S,?_,?_⟩
 .intro x s N I J hs;refine(vf d _ rfl zc o u x w.heap.size 0 s _ (qR E B) I J a8 B (holds_one A) a8).mono ?_;rintro e G ⟨K,n,L⟩;exact⟨K,N+n,by rw[L,one_one]⟩
 .intro x y z s N I J M hs;refine(jH d _ rfl zc o u x y z w.heap.size 0 s _ (qR E B) I J M B (holds_one A) a8).mono ?_;rintro e G ⟨K,n,L⟩;exact⟨K,N+n,by rw[L,one_one]⟩
def j6(zc C E a b:Nat)(d:Array Int)(w:World)(hH:Holds zg w zc C d)(ad:zc<w.heap.size)(ag:a<b)(hb:b<=d.size)(ae:d.size<4611686018427387904):
 Calls xT 186 #[.slice (some ⟨zc,C,none⟩) d.size E,.int .i64 a,.int .i64 b] w λe u=>
  e=.returned (.tuple #[.int .i64 (choosePivot ltInt d a b).1,.int .i64 (hintCode (choosePivot ltInt d a b).2)])/\∃n os,u=grow (Sort.ahead w n) os:=by
 obtain⟨F,ac,cS,hG,S,Y⟩:=ZI zc C E d w hH ad ae;clear hH;rw[choosePivot_eq];obtain⟨I,hI⟩:∃I:Nat,I=a+(b-a)/4*1:=⟨_,rfl⟩;obtain⟨J,T⟩:∃J:Nat,J=a+(b-a)/4*2:=⟨_,rfl⟩;obtain⟨K,hK⟩:∃K:Nat,K=a+(b-a)/4*3:=⟨_,rfl⟩;have eI:((a:Int)+((b:Int)-(a:Int))/4)=(I:Int):=a8
 have eJ:((a:Int)+((b:Int)-(a:Int))/4*2)=(J:Int):=a8
 have eK:((a:Int)+((b:Int)-(a:Int))/4*3)=(K:Int):=a8
 by_cases h8:b-a≥8
 .by_cases ab:b-a≥50
  ·
   obtain⟨i1,O,G⟩:∃i1 O,medianAdjacent ltInt d I 0=(i1,O):=⟨_,_,rfl⟩;obtain⟨U,P,H⟩:∃U P,medianAdjacent ltInt d J O=(U,P):=⟨_,_,rfl⟩;obtain⟨V,X,h3⟩:∃V X,medianAdjacent ltInt d K P=(V,X):=⟨_,_,rfl⟩;obtain⟨p,s,Q⟩:∃p s,median ltInt d i1 U V X=(p,s):=⟨_,_,rfl⟩;have o:rawPivot ltInt d a b=(p,s):=(by simp only[rawPivot,vD h8,vD ab,<-hI,<-T,<-hK,G,H,h3,Q]);have m1:=TM ltInt d I 0;rw[G]at m1;have m2:=TM ltInt d J O;rw[H]at m2;have m3:=TM ltInt d K P;rw[h3]at m3;have n1:=TK ltInt d I 0;rw[G]at n1;have n2:=TK ltInt d J O;rw[H]at n2;have n3:=TK ltInt d K P;rw[h3]at n3;simp only[]at m1 m2 m3 n1 n2 n3;have c1:Calls xT 206 #[.slice (some ⟨zc,C,none⟩) d.size E,.int .i64 (I:Int),.pointer (some ⟨w.heap.size,0,none⟩)] (F 0 0) λe u=>e=.returned (.int .i64 (i1:Int))/\∃M,u=F M O:=(by have h:=S I 0 0 a8 a8 a8;rw[G]at h;exact h);have c2:∀N,Calls xT 206 #[.slice (some ⟨zc,C,none⟩) d.size E,.int .i64 (J:Int),.pointer (some ⟨w.heap.size,0,none⟩)] (F N O) λe u=>e=.returned (.int .i64 (U:Int))/\∃M,u=F M P:=λN=>(by have h:=S J O N a8 a8 a8;rw[H]at h;exact h);have c3:∀N,Calls xT 206 #[.slice (some ⟨zc,C,none⟩) d.size E,.int .i64 (K:Int),.pointer (some ⟨w.heap.size,0,none⟩)] (F N P) λe u=>e=.returned (.int .i64 (V:Int))/\∃M,u=F M X:=λN=>(by have h:=S K P N a8 a8 a8;rw[h3]at h;exact h)
   have c4:∀N,Calls xT 207 #[.slice (some ⟨zc,C,none⟩) d.size E,.int .i64 (i1:Int),.int .i64 (U:Int),.int .i64 (V:Int),.pointer (some ⟨w.heap.size,0,none⟩)] (F N X) λe u=>e=.returned (.int .i64 (p:Int))/\∃M,u=F M s:=λN=>(by have h:=Y i1 U V X N a8 a8 a8 a8;rw[Q]at h;exact h);rw[o];obtain⟨y,j⟩:∃y:Int,y=hintCode (hintOf s):=⟨_,rfl⟩;have A:s=0->y=1:=λh=>(by rw[j,h];rfl);have B:s=12->y=2:=λh=>(by rw[j,h];rfl);have L:s≠0->s≠12->y=0:=λG H=>(by rw[j];unfold hintOf;rw[Vq G,Vq H];rfl);show Calls xT 186 _ w λe u=>e=.returned (.tuple #[.int .i64 (p:Int),.int .i64 (hintCode (hintOf s))])/\∃n os,u=grow (Sort.ahead w n) os;rw[<-j];clear j o;clear G H h3 Q S Y hI T hK m1 m2 m3;go_enter func186,ntmps186
   go_wp2_with (first
    |(go_at_call_has 206 (Value.int .i64 (I:Int));refine c1.mono ?_;rintro e u ⟨rfl,N1,rfl⟩)
    |(go_at_call_has 206 (Value.int .i64 (J:Int));refine(c2 _).mono ?_;rintro e u ⟨rfl,N2,rfl⟩)
    |(go_at_call_has 206 (Value.int .i64 (K:Int));refine(c3 _).mono ?_;rintro e u ⟨rfl,N3,rfl⟩)
    |(go_at_call 207;refine(c4 _).mono ?_;rintro e u ⟨rfl,N4,rfl⟩))
   all_goals
    go_ret2
    refine⟨?_,_,hG _ _⟩;first
     | (have Z:(s:Int)=0:=of_beq_int b9
        rw[A a8];rfl)
     | (have e1:(s:Int)=12:=of_beq_int b9
        rw[B a8];rfl)
     | (have Z:(s:Int)≠0:=of_bne_int b9
        have e1:(s:Int)≠12:=of_bne_int b9;rw[L a8 a8];rfl)
     |(rw[A a8];rfl)
  ·
   obtain⟨p,s,Q⟩:∃p s,median ltInt d I J K 0=(p,s):=⟨_,_,rfl⟩;have o:rawPivot ltInt d a b=(p,s):=(by simp only[rawPivot,vD h8,Vq ab,<-hI,<-T,<-hK,Q]);have c4:Calls xT 207 #[.slice (some ⟨zc,C,none⟩) d.size E,.int .i64 (I:Int),.int .i64 (J:Int),.int .i64 (K:Int),.pointer (some ⟨w.heap.size,0,none⟩)] (F 0 0) λe u=>e=.returned (.int .i64 (p:Int))/\∃M,u=F M s:=(by have h:=Y I J K 0 0 a8 a8 a8 a8;rw[Q]at h;exact h);rw[o];obtain⟨y,j⟩:∃y:Int,y=hintCode (hintOf s):=⟨_,rfl⟩;have A:s=0->y=1:=λh=>(by rw[j,h];rfl);have B:s=12->y=2:=λh=>(by rw[j,h];rfl);have L:s≠0->s≠12->y=0:=λG H=>(by rw[j];unfold hintOf;rw[Vq G,Vq H];rfl);show Calls xT 186 _ w λe u=>e=.returned (.tuple #[.int .i64 (p:Int),.int .i64 (hintCode (hintOf s))])/\∃n os,u=grow (Sort.ahead w n) os;rw[<-j];clear j o;clear Q S Y hI T hK;go_enter func186,ntmps186
   go_wp2_with (first|(go_at_call 207;refine c4.mono ?_;rintro e u ⟨rfl,N4,rfl⟩))
   all_goals
    go_ret2
    refine⟨?_,_,hG _ _⟩;first
     | (have Z:(s:Int)=0:=of_beq_int b9
        rw[A a8];rfl)
     | (have e1:(s:Int)=12:=of_beq_int b9
        rw[B a8];rfl)
     | (have Z:(s:Int)≠0:=of_bne_int b9
        have e1:(s:Int)≠12:=of_bne_int b9;rw[L a8 a8];rfl)
     |(rw[A a8];rfl)
 ·
  obtain⟨p,hp⟩:∃p:Nat,p=J:=⟨_,rfl⟩;obtain⟨s,hs⟩:∃s:Nat,s=0:=⟨_,rfl⟩;have o:rawPivot ltInt d a b=(p,s):=(by simp only[rawPivot,Vq h8,<-T,hp,hs]);rw[o];obtain⟨y,j⟩:∃y:Int,y=hintCode (hintOf s):=⟨_,rfl⟩;have A:s=0->y=1:=λh=>(by rw[j,h];rfl);have B:s=12->y=2:=λh=>(by rw[j,h];rfl);have L:s≠0->s≠12->y=0:=λG H=>(by rw[j];unfold hintOf;rw[Vq G,Vq H];rfl);show Calls xT 186 _ w λe u=>e=.returned (.tuple #[.int .i64 (p:Int),.int .i64 (hintCode (hintOf s))])/\∃n os,u=grow (Sort.ahead w n) os;rw[<-j];clear j o;subst hp;clear S Y hI T hK;have af:w.alloc (.cells #[.int .i64 0] 3)=F 0 s:=(by rw[hs];exact ac);clear ac;go_enter func186,ntmps186
  go_wp2;all_goals
   go_ret2
   refine⟨?_,_,hG _ _⟩;first
    | (have Z:(s:Int)=0:=of_beq_int b9
       rw[A a8];rfl)
    | (have e1:(s:Int)=12:=of_beq_int b9
       rw[B a8];rfl)
    | (have Z:(s:Int)≠0:=of_bne_int b9
       have e1:(s:Int)≠12:=of_bne_int b9;rw[L a8 a8];rfl)
    |(rw[A a8];rfl)
structure CalU:Prop where
 ins:∀(zc off cap a b:Nat)(d:Array Int)(w:World),Holds zg w zc off d->a<=b->b<=d.size->d.size<4611686018427387904 ->
  Calls xT 183 #[.slice (some ⟨zc,off,none⟩) d.size cap,.int .i64 a,.int .i64 b] w λe w'=>e=.returned (.tuple #[])/\∃n,w'=putRow zg (Sort.ahead w n) zc off (insertionSort ltInt d a b)
 brk:∀(zc off cap a b:Nat)(d:Array Int)(w:World),Holds zg w zc off d->zc<w.heap.size->a<=b->b<=d.size->d.size<4611686018427387904 ->
  Calls xT 185 #[.slice (some ⟨zc,off,none⟩) d.size cap,.int .i64 a,.int .i64 b] w λe w'=>e=.returned (.tuple #[])/\∃n os,w'=grow (putRow zg (Sort.ahead w n) zc off (breakPatterns d a b)) os
 piv:∀(zc off cap a b:Nat)(d:Array Int)(w:World),Holds zg w zc off d->zc<w.heap.size->a<b->b<=d.size->d.size<4611686018427387904 ->
  Calls xT 186 #[.slice (some ⟨zc,off,none⟩) d.size cap,.int .i64 a,.int .i64 b] w λe w'=>e=.returned (.tuple #[.int .i64 (choosePivot ltInt d a b).1,.int .i64 (hintCode (choosePivot ltInt d a b).2)])/\∃n os,w'=grow (Sort.ahead w n) os
 par:∀(zc off cap a b:Nat)(d:Array Int)(w:World),Holds zg w zc off d->a<b->b<=d.size->d.size<4611686018427387904 ->
  Calls xT 188 #[.slice (some ⟨zc,off,none⟩) d.size cap,.int .i64 a,.int .i64 b] w λe w'=>e=.returned (.bool (partialInsertionSort ltInt d a b).2)/\∃n,w'=putRow zg (Sort.ahead w n) zc off (partialInsertionSort ltInt d a b).1
 peq:∀(zc off cap a b pivot:Nat)(d:Array Int)(w:World),Holds zg w zc off d->a<=pivot->pivot<b->b<=d.size->d.size<4611686018427387904 ->
  Calls xT 190 #[.slice (some ⟨zc,off,none⟩) d.size cap,.int .i64 a,.int .i64 b,.int .i64 pivot] w λe w'=>e=.returned (.int .i64 (partitionEqual ltInt d a b pivot).1)/\∃n,w'=putRow zg (Sort.ahead w n) zc off (partitionEqual ltInt d a b pivot).2
 prt:∀(zc off cap a b pivot:Nat)(d:Array Int)(w:World),Holds zg w zc off d->a<=pivot->pivot<b->b<=d.size->d.size<4611686018427387904 ->
  Calls xT 191 #[.slice (some ⟨zc,off,none⟩) d.size cap,.int .i64 a,.int .i64 b,.int .i64 pivot] w λe w'=>e=.returned (.tuple #[.int .i64 (partition ltInt d a b pivot).1,.bool (partition ltInt d a b pivot).2.1])/\∃n,w'=putRow zg (Sort.ahead w n) zc off (partition ltInt d a b pivot).2.2
structure PlnU:Prop where
 swo:SWO ltInt
 ins:insertionSort_stmt ltInt
 par:partialInsertionSort_stmt ltInt
 prt:partition_stmt ltInt
 peq:partitionEqual_stmt ltInt
 pdq:pdq_stmt ltInt
set_option maxRecDepth 1000000 in
def QJ(C:CalU)(S:PlnU):∀(N zc H K a b J:Nat)(d:Array Int)(w:World),b-a<N->Holds zg w zc H d->zc<w.heap.size->a<=b->b<=d.size->d.size<4611686018427387904->J<4611686018427387904->Below ltInt a b d ->
 Calls xT 150 #[.slice (some ⟨zc,H,none⟩) d.size K,.int .i64 a,.int .i64 b,.int .i64 J] w λe w'=>e=.returned (.tuple #[])/\At zg w zc H (pdq ltInt d a b J true true) w':=by
 intro N;induction N with
 |zero=>intro _ _ _ _ _ _ _ _ h;exact absurd h (Uh _)
 | succ N ih=>
   intro zc H K a b J d w hN hH F aU hb bq Y ay;go_enter func150,ntmps150
   go_wp2;go_loopg [1,2,3,8,9] (b-a) (λk s1 s2 Q s8 s9 wr=>∃(o u j:Nat) (B E:Bool) (y:Array Int),s1=.int .i64 o/\s2=.int .i64 u/\Q=.int .i64 j/\s8=.bool B/\s9=.bool E /\
    o<=u/\u<=d.size/\u-o<=k/\k<=b-a/\j<=J/\y.size=d.size/\Below ltInt o u y/\At zg w zc H y wr/\pdq ltInt y o u j B E=pdq ltInt d a b J true true)
   case atStart=>exact⟨a,b,J,true,true,d,rfl,rfl,rfl,rfl,rfl,aU,hb,Zp _,Zp _,Zp _,rfl,ay,At.refl hH,rfl⟩
   case round=>
    obtain⟨o,u,j,B,E,y,rfl,rfl,rfl,rfl,rfl,L,aV,hk,bp,O,I,aI,ad,aO⟩:=hrel;obtain⟨az,aB⟩:=ad.holds hH I F;have A:qA (pdq ltInt y o u j B E=pdq ltInt d a b J true true):=aO;clear aO;by_cases ab:u-o<=12
    ·
     have aH:(u:Int)-(o:Int)<=12:=a8;have hc:=C.ins zc H K o u y wr az L a8 a8;rw[I]at hc
     go_wp2_with (go_at_call 183;refine hc.mono ?_;rintro e w1 ⟨rfl,am⟩)
     (try simp only[Exit.inBlock,Exit.then]);refine tz (tK rfl _ _ _) rfl ?_
     refine⟨rfl,?_⟩;rw[<-A.o,pdq_small ab];exact ad.step F (S.ins S.swo y o u L a8).1.1 am
    ·have aH:¬((u:Int)-(o:Int)<=12):=a8;by_cases ak:j=0
     ·
      subst ak;have hc:=ZK zc H d.size K y I o u wr az L a8 a8
      go_wp2_with (go_at_call 184;refine hc.mono ?_;rintro e w1 ⟨rfl,am⟩)
      (try simp only[Exit.inBlock,Exit.then]);refine tz (tK rfl _ _ _) rfl ?_
      refine⟨rfl,?_⟩;rw[<-A.o,pdq_heap ab rfl];exact ad.step F (heapSort_holds S.swo y o u L a8).1.1 am
     ·have bl:¬((j:Int)=0):=a8;obtain⟨s1,B1,bn,s2,B2,P,Q,B3⟩:=rd_facts (limit:=j) (wb:=B) (wp:=E) S.swo S.par reverseRange_holds (show o<u by omega) (show u<=y.size by omega) aI
      go_upto_if 35 with fail
      go_cut [3] from 19 (λQ wc=>Q=.int .i64 (rd ltInt y o u j B E).lim/\At zg w zc H (rd ltInt y o u j B E).d1 wc)
      case first=>
       cases B
       .have hc:=C.brk zc H K o u y wr az aB L a8 a8;rw[I]at hc
        go_wp2_with (go_at_call 185;refine hc.mono ?_;rintro e w1 ⟨rfl,am⟩)
        go_meet
        case rel=>refine⟨?_,ad.stepG F s1 am⟩;show Value.int .i64 ((j:Int)-1)=Value.int .i64 ((j-1:Nat):Int);congr 1;omega
       .go_wp2_with fail
        go_meet
        case rel=>exact⟨rfl,ad⟩
      case rest=>
       obtain⟨rfl,ao⟩:=hcut;obtain⟨aR,aC⟩:=ao.holds hH (s1.trans I) F;have aN:Calls xT 186 #[.slice (some ⟨zc,H,none⟩) d.size K,.int .i64 o,.int .i64 u] wc λe w'=>e=.returned (.tuple #[.int .i64 (rd ltInt y o u j B E).c.1,.int .i64 (hintCode (rd ltInt y o u j B E).c.2)])/\∃n os,w'=grow (Sort.ahead wc n) os:=(by have:=C.piv zc H K o u (rd ltInt y o u j B E).d1 wc aR aC a8 a8 a8;rw[s1,I]at this;exact this)
       go_upto_if 50 with(go_at_call 186;refine aN.mono ?_;rintro e w2 ⟨rfl,be⟩)
       have ae:At zg w zc H (rd ltInt y o u j B E).d1 w2:=ao.same hH (s1.trans I) F be;obtain⟨aS,aW⟩:=ae.holds hH (s1.trans I) F
       go_cut [11,12] from 19 (λbh aG wc=>bh=.int .i64 (rd ltInt y o u j B E).pivot/\aG=.int .i64 (hintCode (rd ltInt y o u j B E).hint)/\At zg w zc H (rd ltInt y o u j B E).d2 wc)
       case first=>
        by_cases hh:(rd ltInt y o u j B E).c.2=.decreasing
        .have aD:hintCode (rd ltInt y o u j B E).c.2=2:=(by rw[hh];rfl);obtain⟨e2,ax,aw⟩:=rd_dec hh;have aq:=jB zc H K (rd ltInt y o u j B E).d1 o u w2 aS L a8 a8;rw[s1,I]at aq
         go_wp2_with (go_at_call 187;refine aq.mono ?_;rintro e w3 ⟨rfl,bg⟩)
         go_meet
         case rel=>refine⟨?_,by rw[aw];rfl,by rw[e2];exact ae.step F (by rw[<-e2,s2,s1]) bg⟩;rw[ax];congr 1;omega
        .have aD:¬(hintCode (rd ltInt y o u j B E).c.2=2):=λh=>hh (hintCode_two h);obtain⟨e2,ax,aw⟩:=rd_not hh
         go_wp2_with fail
         go_meet
         case rel=>exact⟨by rw[ax],by rw[aw],by rw[e2];exact ae⟩
       case rest=>
        obtain⟨rfl,rfl,V⟩:=hcut;obtain⟨aT,aX⟩:=V.holds hH (s2.trans I) F;go_upto_region 15 with fail
        go_cut [12,68] from 19 (λaG bi wx=>aG=.int .i64 (hintCode (rd ltInt y o u j B E).hint)/\bi=.bool (B && E && decide ((rd ltInt y o u j B E).hint=.increasing))/\wx=wc)
        case first=>
         cases B<;>cases E<;>cases hh3:(rd ltInt y o u j _ _).hint <;>
          (have an:=W8 hintCode hh3
           simp only[hintCode]at an
           go_wp2_with fail
           go_meet
           exact⟨by simp[hh3,hintCode],by simp[hh3,hintCode],rfl⟩)
        case rest=>
         obtain⟨rfl,rfl,rfl⟩:=hcut
         go_upto_if 68 with fail
         go_cut [] from 19 (λwx=>(rd ltInt y o u j B E).pi.2=false/\At zg w zc H (rd ltInt y o u j B E).pi.1 wx)
         case first=>
          cases h68:(B && E && decide ((rd ltInt y o u j B E).hint=.increasing))
          .have Z:=rd_pi_no h68
           go_wp2_with fail
           go_meet
           case rel=>exact⟨by rw[Z],by rw[Z];exact V⟩
          .have Z:=rd_pi_yes h68;have ar:=C.par zc H K o u (rd ltInt y o u j B E).d2 wc aT a8 a8 a8;rw[s2,I,<-Z]at ar
           go_wp2_with (go_at_call 188;refine ar.mono ?_;rintro e w4 ⟨rfl,aP⟩)
           all_goals first
            | (have U:(rd ltInt y o u j B E).pi.2=false:=by rw[Z];assumption
               go_meet
               exact⟨U,V.step F (by rw[Q,s2]) aP⟩)
            | (have U:(rd ltInt y o u j B E).pi.2=true:=by rw[Z];assumption
               (try simp only[Exit.inBlock,Exit.then]);refine tz (tK rfl _ _ _) rfl ?_
               refine⟨rfl,?_⟩;rw[<-A.o,pdq_done ab ak U];exact V.step F (by rw[Q,s2]) aP)
         case rest=>
          obtain⟨U,af⟩:=hcut;obtain⟨aJ,aY⟩:=af.holds hH (Q.trans I) F;have ba:∀t,t<d.size->wc.cell? ⟨zc,H+t,none⟩=some (.int .u64 (rd ltInt y o u j B E).pi.1[t]!):=λt ht=>(aJ t a8).1;have bc:∀t,t<d.size->wc.frozen? ⟨zc,H+t,none⟩=false:=λt ht=>(aJ t a8).2;go_upto_region 17 with fail
          go_cut [87] from 19 (λbj wx=>bj=.bool (decide (o > 0) && !ltInt (rd ltInt y o u j B E).pi.1[o-1]! (rd ltInt y o u j B E).pi.1[(rd ltInt y o u j B E).pivot]!)/\At zg w zc H (rd ltInt y o u j B E).pi.1 wx)
          case first=>
           rcases WC o with aA|aA
           .have aM:decide ((o:Int) > 0)=false:=WB a8
            go_big_quiet (first|(go_at_call 189;refine tB (za _ _ _)))
            go_wp2_with fail
            go_meet
            case rel=>exact⟨by simp[aA],af.ahead nq⟩
           .have aM:(o:Int) > 0:=a8
            go_big_quiet (first|(go_at_call 189;refine tB (za _ _ _)))
            go_wp2_with fail
            go_meet
            case rel=>exact⟨by simp[aA],af.ahead nq⟩
          case rest=>
           obtain⟨rfl,ag⟩:=hcut;obtain⟨aK,aZ⟩:=ag.holds hH (Q.trans I) F;clear ba bc;cases h87:(decide (o > 0) && !ltInt (rd ltInt y o u j B E).pi.1[o-1]! (rd ltInt y o u j B E).pi.1[(rd ltInt y o u j B E).pivot]!)
           ·
            obtain⟨G,ap,T,M⟩:∃G ap T,partition ltInt (rd ltInt y o u j B E).pi.1 o u (rd ltInt y o u j B E).pivot=(G,ap,T):=⟨(partition ltInt (rd ltInt y o u j B E).pi.1 o u (rd ltInt y o u j B E).pivot).1,(partition ltInt (rd ltInt y o u j B E).pi.1 o u (rd ltInt y o u j B E).pivot).2.1,(partition ltInt (rd ltInt y o u j B E).pi.1 o u (rd ltInt y o u j B E).pivot).2.2,rfl⟩;obtain⟨r1,r2,r3,r4,r5,r6,r7⟩:=round_part S.swo S.prt P.1 P.2 (show u<=(rd ltInt y o u j B E).pi.1.size by omega) B3 M;have av:=C.prt zc H K o u (rd ltInt y o u j B E).pivot (rd ltInt y o u j B E).pi.1 wc aK P.1 P.2 a8 a8;rw[Q,I,M]at av;have X:qA (partition ltInt (rd ltInt y o u j B E).pi.1 o u (rd ltInt y o u j B E).pivot=(G,ap,T)):=M;clear M
            go_upto_if 113 with(go_at_call 191;refine av.mono ?_;rintro e w7 ⟨rfl,aE⟩)
            have M:=X.o;have ah:At zg w zc H T w7:=ag.step F r3 aE;obtain⟨aL,ai⟩:=ah.holds hH (r3.trans (Q.trans I)) F;by_cases h4:G-o<u-G
            .have aQ:(G:Int)-(o:Int)<(u:Int)-(G:Int):=a8;have aj:=ih zc H K o G (rd ltInt y o u j B E).lim T w7 a8 aL ai a8 a8 a8 (Nat.lt_of_le_of_lt (V1 T3 O) Y) r4;rw[r3,Q,I]at aj;obtain⟨pL,sL⟩:=S.pdq S.swo T o G (rd ltInt y o u j B E).lim true true a8 a8 r4
             go_wp2_with (go_at_call 150;refine aj.mono ?_;rintro e w8 ⟨rfl,aF⟩)
             go_roundg (u-(G+1));case measure=>omega
             case rel=>
              refine⟨G+1,u,(rd ltInt y o u j B E).lim,decide (G-o≥(u-o)/8),ap,pdq ltInt T o G (rd ltInt y o u j B E).lim true true,b6,rfl,rfl,?_,rfl,a8,a8,Zp _,a8,V1 T3 O,by rw[pL.1,r3,Q,I],(r6 _ pL sL).1,ah.stepG F pL.1 aF,?_⟩
              .exact W8 Value.bool (eighth a8 a8)
              .rw[<-A.o,pdq_left ab ak U h87 (by rw[M];exact⟨r1,r2⟩) (by rw[M];exact h4),M]
            .have aQ:¬((G:Int)-(o:Int)<(u:Int)-(G:Int)):=a8;have aj:=ih zc H K (G+1) u (rd ltInt y o u j B E).lim T w7 a8 aL ai a8 a8 a8 (Nat.lt_of_le_of_lt (V1 T3 O) Y) r5;rw[r3,Q,I]at aj;obtain⟨pL,sL⟩:=S.pdq S.swo T (G+1) u (rd ltInt y o u j B E).lim true true a8 a8 r5
             go_wp2_with (go_at_call 150;refine aj.mono ?_;rintro e w8 ⟨rfl,aF⟩)
             go_roundg (G-o);case measure=>omega
             case rel=>
              refine⟨o,G,(rd ltInt y o u j B E).lim,decide (u-G≥(u-o)/8),ap,pdq ltInt T (G+1) u (rd ltInt y o u j B E).lim true true,rfl,rfl,rfl,?_,rfl,a8,a8,Zp _,a8,V1 T3 O,by rw[pL.1,r3,Q,I],(r7 _ pL sL).1,ah.stepG F pL.1 aF,?_⟩
              .exact W8 Value.bool (eighth a8 a8)
              .rw[<-A.o,pdq_right ab ak U h87 (by rw[M];exact⟨r1,r2⟩) (by rw[M];exact h4),M]
           ·
            have ac:=h87;simp only[V0,wG,Wk]at ac;obtain⟨G,T,M⟩:∃G T,partitionEqual ltInt (rd ltInt y o u j B E).pi.1 o u (rd ltInt y o u j B E).pivot=(G,T):=⟨(partitionEqual ltInt (rd ltInt y o u j B E).pi.1 o u (rd ltInt y o u j B E).pivot).1,(partitionEqual ltInt (rd ltInt y o u j B E).pi.1 o u (rd ltInt y o u j B E).pivot).2,rfl⟩;obtain⟨r1,r2,r3,r4,_⟩:=round_eq S.swo S.peq ac.1 P.1 P.2 (show u<=(rd ltInt y o u j B E).pi.1.size by omega) B3 ac.2 M;have au:=C.peq zc H K o u (rd ltInt y o u j B E).pivot (rd ltInt y o u j B E).pi.1 wc aK P.1 P.2 a8 a8;rw[Q,I,M]at au;have X:qA (partitionEqual ltInt (rd ltInt y o u j B E).pi.1 o u (rd ltInt y o u j B E).pivot=(G,T)):=M;clear M
            go_wp2_with (go_at_call 190;refine au.mono ?_;rintro e w7 ⟨rfl,aE⟩)
            go_roundg (u-G);case measure=>omega
            case rel=>have M:=X.o;exact⟨G,u,(rd ltInt y o u j B E).lim,B,E,T,rfl,rfl,rfl,rfl,rfl,r2,aV,Zp _,a8,V1 T3 O,by rw[r3,Q,I],r4,ag.step F r3 aE,by rw[<-A.o,pdq_eq ab ak U h87 (by rw[M];exact⟨r1,r2⟩),M]⟩
def VC:Prop:=∀(zc o u a b j:Nat)(d:Array Int)(w:World),Holds zg w zc o d->zc<w.heap.size->a<=b->b<=d.size->d.size<4611686018427387904->j<4611686018427387904->Below ltInt a b d ->
 Calls xT 150 #[.slice (some ⟨zc,o,none⟩) d.size u,.int .i64 a,.int .i64 b,.int .i64 j] w λe y=>
  e=.returned (.tuple #[])/\∃n os,y=grow (putRow zg (Sort.ahead w n) zc o (Sort.pdq ltInt d a b j true true)) os
def VV(A:VC)(zc j o:Nat)(d:Array Int)(w:World)(E:Holds zg w zc j d)(y:zc<w.heap.size)(C:d.size<4611686018427387904):
 Calls xT 110 #[.slice (some ⟨zc,j,none⟩) d.size o] w λe B=>e=.returned (.tuple #[])/\∃n os,B=grow (putRow zg (Sort.ahead w n) zc j (Sort.sort ltInt d)) os:=by
 have F:qA (Holds zg w zc j d):=E;clear E;have u:∀w,Calls xT 151 #[.int .u64 (d.size:Int)] w λe B=>e=.returned (.int .i64 (bitsLen d.size:Nat))/\B=w:=λw=>by
  have h:=ZC (d.size:Int) w a8 a8
  rwa[Int.toNat_natCast,bitLen_eq _ a8]at h
 have hk:bitsLen d.size<=62:=(bitsLen_le_iff d.size 62).2 a8;go_enter func110,ntmps110
 go_wp2_with (first
  |(go_at_call 151;refine(u _).mono ?_;rintro e B ⟨rfl,rfl⟩)
  |(go_at_call 150;refine(A zc j o 0 d.size (bitsLen d.size) d _ (by exact F.o) (by exact y) (X4 _) (Zp _) C a8 (Or.inl rfl)).mono ?_;rintro e B ⟨rfl,n,os,rfl⟩))
 go_end0
 exact⟨rfl,n,os,rfl⟩
def zmk:CalU where
 ins:=vV
 brk:=vU
 piv:=j6
 par:=yE
 peq:=yz
 prt:=xJ
def znh:PlnU where
 swo:=swo_ltInt
 ins:=insertionSort_holds
 par:=partialInsertionSort_holds
 prt:=partition_holds _
 peq:=partitionEqual_holds _
 pdq:=pdq_sorts _
def J5:VC:=λzc B o a b j d w E hb u y A F C=>
 QJ zmk znh (b-a+1) zc B o a b j d w a8 E hb u y A F C
def Xx(j:List Int):Sort.sort ltInt j.toArray=(j.mergeSort λx y=>decide (x<=y)).toArray:=by rw[<-sortInt j]
def j7(zc j o:Nat)(A:List Int)(w:World)(C:Holds zg w zc j A.toArray)(u:zc<w.heap.size)(B:A.length<4611686018427387904):
 Calls xT 110 #[.slice (some ⟨zc,j,none⟩) A.length o] w λe E=>
  e=.returned (.tuple #[])/\∃n os,E=grow (putRow zg (Sort.ahead w n) zc j (A.mergeSort λx y=>decide (x<=y)).toArray) os:=by
 have h:=VV J5 zc j o A.toArray w C u (dJ B);rw[Xx]at h;simpa using h
end
namespace As
open Go.RowKit Go.Extern.Stop Go.Stop Go.Extern
def noAsD(v:Value)(j:TypeId)(w:World):(Instr.typeAssert (.iface 145 v) j 208 true).run xT w=.ok (.tuple #[.nilIface,.bool false]) w:=tX Tryz.underlying208 dK dK v j w
def hasUwD(v:Value)(j:TypeId)(w:World):(Instr.typeAssert (.iface 145 v) j 195 true).run xT w=.ok (.tuple #[.iface 145 v,.bool true]) w:=run_typeAssert_hasB Tryz.underlying195 dK v j w
def typeOfD(v:Value)(w:World):(ReflectliteType.typeOf #[.iface 145 v]).run xT w=.ok (.iface 190 (.agg #[.pointer (some ⟨1,145,none⟩)])) w:=dK
def assignableDN(w:World):(ReflectliteType.relation "AssignableTo" ReflectliteType.assignableTo #[.agg #[.pointer (some ⟨1,145,none⟩)],.iface 190 (.agg #[.pointer (some ⟨1,66,none⟩)])]).run xT w=.ok (.bool false) w:=dK
def assignableDF(w:World):(ReflectliteType.relation "AssignableTo" ReflectliteType.assignableTo #[.agg #[.pointer (some ⟨1,145,none⟩)],.iface 190 (.agg #[.pointer (some ⟨1,115,none⟩)])]).run xT w=.ok (.bool false) w:=dK
def methodUnwrapD(s:ByteArray)(e:Value)(w:World):(Go.method 421 145 (.agg #[.string s,e]) "Unwrap").run xT w=.ok (238,.agg #[.string s,e]) w:=dK
def as_DN(s:ByteArray)(c k:Int)(t:Addr)(y:Value)(w:World)(B:w.cell? ⟨0,0,none⟩=some (.iface 190 (.agg #[.pointer (some ⟨1,41,none⟩)])))(o:w.cell? t=some y)(A:w.frozen? t=false):
 Calls xT 47 #[.iface 145 (.agg #[.string s,.iface 115 (.agg #[.int .i64 c,.int .i64 k])]),.iface 108 (.pointer (some t))] w λev P=>ev=.returned (.bool true)/\P=((((((w.alloc (.cells #[.pointer (some t)] 108)).alloc (.cells #[.pointer (some ⟨1,108,none⟩),.pointer (some ⟨w.heap.size,0,none⟩),.int .u64 150] 159)).alloc (.cells #[.pointer (some ⟨1,108,none⟩),.pointer (some ⟨w.heap.size,0,none⟩),.int .u64 150] 159)).alloc (.cells #[.string s,.iface 115 (.agg #[.int .i64 c,.int .i64 k])] 145)).alloc (.cells #[.int .i64 c,.int .i64 k] 115)).alloc (.cells #[.int .i64 c] 66)).setCell t (.int .i64 c):=by
 have X:=λa w=>xt0 a w;have Y:=λa w=>xt1 a w;have Z:=λa w=>xt2 a w;have H:=λa w=>xt3 a w;have J:=λa w=>xt4 a w;have K:=λa w=>xt5 a w;have E:=λa w=>xt6 a w;have I:=λa w=>xt7 a w;have F:=λa w=>xt8 a w;have G:=λa w=>xt9 a w;have tO:=typeOfN;have tF:=typeOfF;have S:=assignableFN;have mU:=methodUnwrap;have nA:=noAs;have hU:=hasUw;have tD:=typeOfD;have Q:=assignableDN;have mD:=methodUnwrapD;have nD:=noAsD;have hD:=hasUwD;have mA:=methodAssignableTo;have a25:=assignableN;have O:=valueOfN;have U:=valueOfNp;have V:=typeNp;have mK:=methodKind;have mE:=methodElem;have mI:=methodImplements;have N:=kindNp;have k25:=kindN;have C:=elemNp;have M:=implementsN;have n8:=isNilNp ⟨w.heap.size,0,none⟩ t ((w.alloc (.cells #[.pointer (some t)] 108)).alloc (.cells #[.pointer (some ⟨1,108,none⟩),.pointer (some ⟨w.heap.size,0,none⟩),.int .u64 150] 159)) b6;have j:0<w.heap.size:=tp w ⟨0,0,none⟩ B;have L:((w.alloc (.cells #[.pointer (some t)] 108)).alloc (.cells #[.pointer (some ⟨1,108,none⟩),.pointer (some ⟨w.heap.size,0,none⟩),.int .u64 150] 159)).cell? ⟨0,0,none⟩=some (.iface 190 (.agg #[.pointer (some ⟨1,41,none⟩)])):=by rw[tq _ _ ⟨0,0,none⟩ (by rw[tv];exact uh j),tq _ _ ⟨0,0,none⟩ j];exact B
 have u:t.block<w.heap.size:=by
  rcases wJ t.block w.heap.size with h|h
  .exact h
  .simp[World.cell?,W5 h]at o
 have T:=elemVNp ⟨w.heap.size,0,none⟩ t (((((w.alloc (.cells #[.pointer (some t)] 108)).alloc (.cells #[.pointer (some ⟨1,108,none⟩),.pointer (some ⟨w.heap.size,0,none⟩),.int .u64 150] 159)).alloc (.cells #[.pointer (some ⟨1,108,none⟩),.pointer (some ⟨w.heap.size,0,none⟩),.int .u64 150] 159)).alloc (.cells #[.string s,.iface 115 (.agg #[.int .i64 c,.int .i64 k])] 145)).alloc (.cells #[.int .i64 c,.int .i64 k] 115)) (by rw[tq _ _ ⟨w.heap.size,0,none⟩ a9,tq _ _ ⟨w.heap.size,0,none⟩ a9,tq _ _ ⟨w.heap.size,0,none⟩ a9];simp);have st:=setN t ⟨w.heap.size+1+1+1+1+1,0,none⟩ c y ((((((w.alloc (.cells #[.pointer (some t)] 108)).alloc (.cells #[.pointer (some ⟨1,108,none⟩),.pointer (some ⟨w.heap.size,0,none⟩),.int .u64 150] 159)).alloc (.cells #[.pointer (some ⟨1,108,none⟩),.pointer (some ⟨w.heap.size,0,none⟩),.int .u64 150] 159)).alloc (.cells #[.string s,.iface 115 (.agg #[.int .i64 c,.int .i64 k])] 145)).alloc (.cells #[.int .i64 c,.int .i64 k] 115)).alloc (.cells #[.int .i64 c] 66))
  (by rw[tV _ _ _ _ b6];rfl)
  (by rw[tq _ _ t a9,tq _ _ t a9,tq _ _ t a9,tq _ _ t a9,tq _ _ t a9,tq _ _ t u];exact o)
  (by rw[tA _ _ t a9,tA _ _ t a9,tA _ _ t a9,tA _ _ t a9,tA _ _ t a9,tA _ _ t (Up u)];exact A)
 go_enter func47,ntmps47
 go_wp2;refine Tj 3 ?_;rw[tY]
 go_wp2;rw[tY]
 go_wp2;rw[tY]
 go_wp2;go_ret;exact⟨rfl,rfl⟩
end As
namespace As
open Go.RowKit Go.Extern.Stop Go.Stop Go.Extern
def as_DF(s:ByteArray)(c k:Int)(T:Nat)(w:World)(u:w.cell? ⟨0,0,none⟩=some (.iface 190 (.agg #[.pointer (some ⟨1,41,none⟩)])))(y:(w.cell? ⟨T,0,none⟩).isSome=true)(O:(w.cell? ⟨T,1,none⟩).isSome=true)(B:w.frozen? ⟨T,0,none⟩=false)(C:w.frozen? ⟨T,1,none⟩=false):
 Calls xT 47 #[.iface 145 (.agg #[.string s,.iface 115 (.agg #[.int .i64 c,.int .i64 k])]),.iface 167 (.pointer (some ⟨T,0,none⟩))] w λev Q=>ev=.returned (.bool true)/\Q=(((((w.alloc (.cells #[.pointer (some ⟨T,0,none⟩)] 167)).alloc (.cells #[.pointer (some ⟨1,167,none⟩),.pointer (some ⟨w.heap.size,0,none⟩),.int .u64 150] 159)).alloc (.cells #[.pointer (some ⟨1,167,none⟩),.pointer (some ⟨w.heap.size,0,none⟩),.int .u64 150] 159)).alloc (.cells #[.string s,.iface 115 (.agg #[.int .i64 c,.int .i64 k])] 145)).alloc (.cells #[.int .i64 c,.int .i64 k] 115)).setCells T 0 [.int .i64 c,.int .i64 k]:=by
 have Y:=λa w=>xt0 a w;have Z:=λa w=>xt1 a w;have h8:=λa w=>xt2 a w;have H:=λa w=>xt3 a w;have J:=λa w=>xt4 a w;have K:=λa w=>xt5 a w;have E:=λa w=>xt6 a w;have I:=λa w=>xt7 a w;have F:=λa w=>xt8 a w;have G:=λa w=>xt9 a w;have tO:=typeOfF;have tD:=typeOfD;have S:=assignableDF;have mD:=methodUnwrapD;have nD:=noAsD;have hD:=hasUwD;have mA:=methodAssignableTo;have a25:=assignableF;have P:=valueOfF;have V:=valueOfFp;have X:=typeFp;have mK:=methodKind;have mE:=methodElem;have mI:=methodImplements;have N:=kindFp;have k25:=kindF;have A:=elemFp;have M:=implementsF;have n8:=isNilFp ⟨w.heap.size,0,none⟩ ⟨T,0,none⟩ ((w.alloc (.cells #[.pointer (some ⟨T,0,none⟩)] 167)).alloc (.cells #[.pointer (some ⟨1,167,none⟩),.pointer (some ⟨w.heap.size,0,none⟩),.int .u64 150] 159)) b6;have o:0<w.heap.size:=tp w ⟨0,0,none⟩ u;have L:((w.alloc (.cells #[.pointer (some ⟨T,0,none⟩)] 167)).alloc (.cells #[.pointer (some ⟨1,167,none⟩),.pointer (some ⟨w.heap.size,0,none⟩),.int .u64 150] 159)).cell? ⟨0,0,none⟩=some (.iface 190 (.agg #[.pointer (some ⟨1,41,none⟩)])):=by rw[tq _ _ ⟨0,0,none⟩ (by rw[tv];exact uh o),tq _ _ ⟨0,0,none⟩ o];exact u
 have j:T<w.heap.size:=by
  rcases wJ T w.heap.size with h|h
  .exact h
  .simp[World.cell?,W5 h]at y
 have U:=elemVFp ⟨w.heap.size,0,none⟩ ⟨T,0,none⟩ ((((w.alloc (.cells #[.pointer (some ⟨T,0,none⟩)] 167)).alloc (.cells #[.pointer (some ⟨1,167,none⟩),.pointer (some ⟨w.heap.size,0,none⟩),.int .u64 150] 159)).alloc (.cells #[.pointer (some ⟨1,167,none⟩),.pointer (some ⟨w.heap.size,0,none⟩),.int .u64 150] 159)).alloc (.cells #[.string s,.iface 115 (.agg #[.int .i64 c,.int .i64 k])] 145)) (by rw[tq _ _ ⟨w.heap.size,0,none⟩ a9,tq _ _ ⟨w.heap.size,0,none⟩ a9];simp);have st:=setF T (w.heap.size+1+1+1+1) c k (((((w.alloc (.cells #[.pointer (some ⟨T,0,none⟩)] 167)).alloc (.cells #[.pointer (some ⟨1,167,none⟩),.pointer (some ⟨w.heap.size,0,none⟩),.int .u64 150] 159)).alloc (.cells #[.pointer (some ⟨1,167,none⟩),.pointer (some ⟨w.heap.size,0,none⟩),.int .u64 150] 159)).alloc (.cells #[.string s,.iface 115 (.agg #[.int .i64 c,.int .i64 k])] 145)).alloc (.cells #[.int .i64 c,.int .i64 k] 115))
  (by rw[tV _ _ _ _ b6];rfl)
  (by rw[tV _ _ _ _ b6];rfl)
  (by rw[tq _ _ ⟨T,0,none⟩ a9,tq _ _ ⟨T,0,none⟩ a9,tq _ _ ⟨T,0,none⟩ a9,tq _ _ ⟨T,0,none⟩ a9,tq _ _ ⟨T,0,none⟩ j];exact y)
  (by rw[tq _ _ ⟨T,1,none⟩ a9,tq _ _ ⟨T,1,none⟩ a9,tq _ _ ⟨T,1,none⟩ a9,tq _ _ ⟨T,1,none⟩ a9,tq _ _ ⟨T,1,none⟩ j];exact O)
  (by rw[tA _ _ ⟨T,0,none⟩ a9,tA _ _ ⟨T,0,none⟩ a9,tA _ _ ⟨T,0,none⟩ a9,tA _ _ ⟨T,0,none⟩ a9,tA _ _ ⟨T,0,none⟩ (Up j)];exact B)
  (by rw[tA _ _ ⟨T,1,none⟩ a9,tA _ _ ⟨T,1,none⟩ a9,tA _ _ ⟨T,1,none⟩ a9,tA _ _ ⟨T,1,none⟩ a9,tA _ _ ⟨T,1,none⟩ (Up j)];exact C)
 go_enter func47,ntmps47
 go_wp2;refine Tj 2 ?_;rw[tY]
 go_wp2;rw[tY]
 go_wp2;go_ret;exact⟨rfl,rfl⟩
end As
namespace As
open Go.RowKit Go.Extern.Stop Go.Stop Go.Extern
def noIsF(v:Value)(j:TypeId)(w:World):(Instr.typeAssert (.iface 115 v) j 192 true).run xT w=.ok (.tuple #[.nilIface,.bool false]) w:=tX underlying192 dK dK v j w
def methodComparable(h:Value)(w:World):(Go.method 421 190 (.agg #[h]) "Comparable").run xT w=.ok (244,.agg #[h]) w:=dK
def eqFN(x y:Value)(w:World):(binOp .eql 41 (.iface 115 x) (.iface 66 y)).run xT w=.ok (.bool false) w:=dK
def comparableN(w:World):(ReflectliteType.method (λt=>do Rtype.noPackHeld "Comparable" t;(λa:TypeInfo=>Value.bool a.comparable) <$> typeInfo t) #[.agg #[.pointer (some ⟨1,66,none⟩)]]).run xT w=.ok (.bool true) w:=dK
end As
namespace As
open Go.RowKit Go.Extern.Stop Go.Stop Go.Extern
def noIsN(v:Value)(j:TypeId)(w:World):(Instr.typeAssert (.iface 66 v) j 192 true).run xT w=.ok (.tuple #[.nilIface,.bool false]) w:=tX underlying192 dK dK v j w
def noUwN(v:Value)(j:TypeId)(w:World):(Instr.typeAssert (.iface 66 v) j 195 true).run xT w=.ok (.tuple #[.nilIface,.bool false]) w:=tX Tryz.underlying195 dK dK v j w
def noUmN(v:Value)(j:TypeId)(w:World):(Instr.typeAssert (.iface 66 v) j 197 true).run xT w=.ok (.tuple #[.nilIface,.bool false]) w:=tX underlying197 dK dK v j w
def eqN2(c t:Int)(w:World):(binOp .eql 41 (.iface 66 (.int .i64 c)) (.iface 66 (.int .i64 t))).run xT w=.ok (.bool (c == t)) w:=dK
def is_FN(c k t:Int)(w:World):Calls xT 84 #[.iface 115 (.agg #[.int .i64 c,.int .i64 k]),.iface 66 (.int .i64 t),.bool true] w λev y=>ev=.returned (.bool (c == t))/\Below w.heap.size w y:=by
 have F:=eqFN;have u:=eqN2 c t;have C:=noIsF;have E:=noIsN;have G:=noUwN;have B:=noUmN;have hF:=hasUw;have A:=methodUnwrap;obtain⟨r,j⟩:=xm ((c == t));rw[<-j]at u;have o:=qL j;clear j;go_enter func84,ntmps84
 go_wp2;refine Tj 3 ?_;rw[tY]
 go_wp2;rw[tY];cases r with
 |false=>go_wp2;refine tz (tJ rfl _ _ _) rfl ?_;rw[<-o.o];exact⟨rfl,(tr _ w).alloc (Zp _) _⟩
 |true=>go_wp2;refine tz (tJ rfl _ _ _) rfl ?_;rw[<-o.o];exact⟨rfl,(tr _ w).alloc (Zp _) _⟩
def Is_FN(c k t:Int)(w:World):Calls xT 43 #[.iface 115 (.agg #[.int .i64 c,.int .i64 k]),.iface 66 (.int .i64 t)] w λev j=>ev=.returned (.bool (c == t))/\Below w.heap.size w j:=by
 have o:=@run_callFunc_extern xT 83 _ ReflectliteType.typeOf func83 dK dK dK dK
 have u:=@run_callFunc_extern xT 244 _ (ReflectliteType.method (λt=>do Rtype.noPackHeld "Comparable" t;pure (.bool (<-typeInfo t).comparable))) func244 dK dK dK dK
 have B:=typeOfN;have A:=methodComparable;have y:=comparableN;go_enter func43,ntmps43
 go_wp2_with (first
  |(go_at_call 84;refine(is_FN c k t _).mono ?_;rintro e j ⟨rfl,hb⟩)
  |go_in)
 go_ret;exact⟨rfl,hb⟩
def eqNil(t:TypeId)(v:Value)(w:World):(binOp .eql 41 .nilIface (.iface t v)).run xT w=.ok (.bool false) w:=dK
def Is_nil(t:Int)(w:World):Calls xT 43 #[.nilIface,.iface 66 (.int .i64 t)] w λev j=>ev=.returned (.bool false)/\j=w:=by
 have q:=eqNil;go_enter func43,ntmps43
 go_wp2;go_ret;exact⟨rfl,rfl⟩
end As
section
open Go.RowKit Go.Maps
attribute [local go_sem] Oper.semAt_some
def rW(v:Value):Option (DataW Value×List MemPlace):=some (.held v,[])
def kQ(r:Nat):Lit:=.int .u64 (r:Nat)
def ztm(D:DataW Value)(x:Nat):Prop:=has D (kQ x)=true/\x<zk
def ztD(D:DataW Value)(pre:List Nat):Prop:=pre.Nodup/\∀x∈pre,ztm D x
def zwl:Keyed xT 36 := int_keyed underlying36
def zwL{r:Nat}(h:r<zk):keyOf xT 36 (.int .u64 (r:Nat))=some (kQ r):=by rw[zw]at h;refine keyOf_int_mk underlying36 ?_;simp[Lit.wf,IntKind.min,IntKind.max,IntKind.signed,IntKind.bits];omega
def zwJ:∀(j:Value)(kl:Lit),keyOf xT 36 j=some kl->∃x:{r:Nat // r<zk},j=Value.int .u64 (x.1:Nat):=λj kl h=>by obtain⟨x,rfl,_,o⟩:=Maps.keyOf_int_inv underlying36 h;simp[Lit.wf,IntKind.min,IntKind.max,IntKind.signed,IntKind.bits]at o;refine⟨⟨x.toNat,by rw[zw];omega⟩,?_⟩;rw[tg a8]
def zvt{left:Lit->Bool}{r x:Nat}:(left (kQ r) && !(kQ r).sameKey (kQ x))=(left (kQ r) && !decide (r=x)):=by
 have h:(kQ r).sameKey (kQ x)=decide (r=x):=by simp[kQ,Lit.sameKey];omega
 rw[h]
def zvm{w y:World}{b r n YV:Nat}{D:DataW Value}{left:Lit->Bool}(h:w.ranges xT 36 rW b r n D left YV)(hb:y.heap[b]?=w.heap[b]?)(H:y.heap[r]?=w.heap[r]?):y.ranges xT 36 rW b r n D left YV:=by obtain⟨B,j,o,u,A,C,F,hs,G,E,rest⟩:=h;exact⟨B,j,o,u,A,hb.trans C,F,hs,G,H.trans E,rest⟩
def zwN{w o:World}{b n:Nat}{D:DataW Value}(h:w.ownsMap xT 36 rW b n D)(hb:o.heap[b]?=w.heap[b]?):o.ownsMap xT 36 rW b n D:=by obtain⟨u,j,y,r⟩:=h;exact⟨u,j,hb.trans y,r⟩
def PtM(j:Nat)(A B:World):Prop:=A.heap.size<=B.heap.size/\∀k,k<A.heap.size->(k<j\/∃b s e c,A.heap[k]?=some (.mapIter b s e c))->B.heap[k]?=A.heap[k]?
def zuF{t B Bv n0:Nat}{j:World}{D:DataW Value}(w:j.ownsMap xT 36 rW B t D)(Y:Boxed j Bv 82 (.map (some B)))(h1:B<n0)(h2:Bv<n0)(h3:n0<=j.heap.size):
 zsL xT 111 #[.pointer (some ⟨Bv,0,none⟩)] (λx:Nat=>#[.int .u64 x]) (λk=>k=j.heap.size) (PtM n0) (λpre x=>x∉pre/\ztm D x) (λpre=>pre.Nodup/\∀x,x∈pre↔ztm D x) (λ_=>True) j:=by
 intro l' J Jx hJ aq hY h0;refine callsIn_wide.2 ?_;show Calls xT 111 #[.func (.yield l') #[] #[],.pointer (some ⟨Bv,0,none⟩)] j _;have HJ:=qL hJ;have HY:=qL hY;have HO:=qL w;have c0:=Y.cell;clear hJ hY w aq Y;go_enter func111,ntmps111
 go_wp2_with (at_range;refine TG _ rfl _ 82 rfl 36 47 zwl underlying82 rW B t D rfl HO.o ?_;intro w2 A G aA)
 have ab:=HJ.o [] _ _ h0 ((Keep.refl _ j).grown G λk e=>by cases e);have U:∀k,k<n0->w2.heap[k]?=j.heap[k]?:=λk hk=>G.block k a8 b6;clear h0 G c0;go_loopg [3] (Maps.size D) (λg x wr=>∃left pre,wr.ranges xT 36 rW B j.heap.size t D left g/\(∀r,left (kQ r)=true↔has D (kQ r)=true/\r∉pre)/\pre.Nodup/\(∀r∈pre,ztm D r)/\J pre wr/\(∀k,k<n0->wr.heap[k]?=j.heap[k]?));case atStart=>exact⟨_,[],A,λr=>b6,UP,λr h=>(by cases h),ab,U⟩
 case round=>
  obtain⟨left,pre,ai,ad,ah,Z,hj,X⟩:=hrel;have O:=qL ai;have E:=qL ad;have N:=qL ah;have L:=qL Z;have M:=qL hj;have am:=qL X;clear A ai ad ah Z hj X ab U
  go_wp2_with (first
   |(at_next;refine TB _ rfl _ rfl 36 zwl rW (λr:{r:Nat // r<zk}=>Value.int .u64 (r.1:Nat)) (λc:Value=>c) zwJ (λv y _=>⟨v,rfl⟩) B j.heap.size t D left gk rfl O.o ?_ ?_)
   |go_in)
  .intro ay av
   go_wp2_with fail
   go_end0
   refine⟨⟨_,rfl⟩,.inl ⟨pre,⟨N.o,λx=>⟨L.o x,λhx=>wT λhn=>?_⟩⟩,M.o⟩⟩;have:=(E.o x).2 ⟨hx.1,hn⟩;rw[av]at this;cases this
  .intro x hx c kl y ys w3 S u ae hv ar C af H aB az;obtain rfl:kl=kQ x:=by have:=(zwL hx).symm.trans u;simpa using this.symm
   have o:=(E.o x).1 ae;have ac:=HJ.o pre _ _ M.o ((Keep.refl (λk=>k=j.heap.size) wr).grown H λk e _=>by cases e;rfl);have V:∀k,k<n0->w3.heap[k]?=j.heap[k]?:=λk hk=>(H.block k (by have:=O.o.lt;omega) (λe=>by cases e;omega)).trans (am.o k hk);obtain⟨fn,ax,aj,aw,hy,hR⟩:=HY.o pre x w3 ac ⟨o.2,o.1,hx⟩;have P:=qL C;have ak:=qL V;have Q:=qL o;have an:=qL af;clear C V ac o ae H u hv ar af;go_upto_region 3 with fail;refine(Tt (n:=8)).1 ?_
   gi_wp2
   refine hR.mono ?_;rintro e w4 (⟨rfl,ao,F⟩|⟨rfl,T⟩)
   .gi_wp2
    go_wp2_with fail
    go_roundg S;case measure=>exact an.o
    case rel=>
     have I:=P.o;have ag:=I.lt;have au:∃b s e c,w3.heap[j.heap.size]?=some (.mapIter b s e c):=(by obtain⟨_,_,_,_,_,_,_,_,_,h,_⟩:=I;exact⟨_,_,_,_,h⟩);refine⟨_,pre++[x],zvm I (F.2 _ a8 (.inl h1)) (F.2 _ ag (.inr au)),λr=>?_,?_,λr K=>?_,ao,λk hk=>(F.2 k a8 (.inl hk)).trans (ak.o k hk)⟩
     .rw[zvt,V0,E.o r];by_cases e:r=x
      .subst e;simp
      .simp[e]
     .refine Uq.2 ⟨N.o,b6,λa ha b hb e=>?_⟩;simp only[wD]at hb;rw[hb]at e;exact Q.o.2 (e▸ha)
     .rcases wC.1 K with K|K
      .exact L.o r K
      .simp only[wD]at K;rw[K];exact⟨Q.o.1,hx⟩
   .gi_wp2
    go_wp2;refine tz (tK rfl _ _ _) rfl ?_;exact⟨⟨_,rfl⟩,.inr ⟨_,trivial,T⟩⟩
def zuG(B:Nat)(w:World):Calls xT 68 #[.map (some B)] w λe j=>e=.returned (.func (.func 111) #[] #[.pointer (some ⟨w.heap.size,0,none⟩)])/\j=w.alloc (.cells #[.map (some B)] 82):=by
 go_enter func68,ntmps68
 go_wp2;go_ret;exact⟨rfl,rfl⟩
def SN.ptM{y:Nat}{A B:World}(h:SN y A B):PtM y A B:=by
 obtain⟨⟨v,C⟩,hk⟩:=h;have w:A.heap[y]?=some (.cells #[v] 128 (0,0)):=C;refine⟨hk.size,λk u j=>hk.block k u ?_⟩;rintro(rfl|⟨F,E,f,o⟩)
 .rcases j with j|⟨_,_,_,_,j⟩
  .omega
  .rw[w]at j;cases j
 .rcases j with j|⟨_,_,_,_,j⟩
  .omega
  .rw[o]at j;cases j
def ztF{t B Q:Nat}{w:World}{D:DataW Value}(P:w.ownsMap xT 36 rW B t D)(U:Boxed w Q 82 (.map (some B)))(hl:∀pre,ztD D pre->pre.length<=1000000):
 Calls xT 149 #[.slice none 0 0,.func (.func 111) #[] #[.pointer (some ⟨Q,0,none⟩)]] w λe w'=>∃u pre,e=.returned u/\OwnN w.heap.size w' u pre/\ztD D pre/\(∀x,x∈pre↔ztm D x)/\Below w.heap.size w w':=by
 have T:=U.lt;have hB:=P.lt;refine callsIn_wide.1 (t9 (n:=9) func149 rfl trivial ?_ rfl);simp only[ntmps149,WA,wv,Ww,Nat.reduceAdd,Nat.reduceSub,uu,uv,uG,uw,Yf,yb]
 gi_wp2
 obtain⟨N,J⟩:=xt (w.alloc (Obj.cells #[Value.slice none 0 0] 128));have ah:N.heap.size=w.heap.size+1:=by rw[<-J];simp
 have b0:Boxed N w.heap.size 128 (Value.slice none 0 0):=by rw[<-J];exact tT w _ _
 have S:Below w.heap.size w N:=by rw[<-J];exact(tr _ _).alloc (Zp _) _
 try simp only[tv]
 rw [J];clear J;refine zsS (w:=N) 111 #[.pointer (some ⟨Q,0,none⟩)] rfl (enters_of func111 dK rfl) (λx:Nat=>#[.int .u64 x]) (λ_=>rfl)
  (λk=>k=w.heap.size+3) (PtM w.heap.size) (λpre x=>x∉pre/\ztm D x) (λpre=>pre.Nodup/\∀x,x∈pre↔ztm D x) (λ_=>True) ?hit
  (SN w.heap.size) (λA B h k hk K=>h.2.block k K (by rintro(e|⟨e,_⟩)<;>omega)) (λA B h=>h.ptM)
  ?hPt ?hPt0 a8
  (λpre W=>(∃u,Boxed W w.heap.size 128 u/\OwnN (w.heap.size+4) W u pre)/\ztD D pre/\Below w.heap.size w W)
  (λ_ _ _=>False) ?hI (λ_ _ _ _ h _=>h) ⟨⟨_,b0,OwnN.nil _ _⟩,⟨UP,λx h=>(by cases h)⟩,S⟩
  (λpre x Y W=>((∃u,Boxed W w.heap.size 128 u/\OwnN (w.heap.size+4) W u pre)/\ztD D pre/\Below w.heap.size w W) /\
    Y={ tmps:=#[Value.slice none 0 0,Value.func (Fn.func 111) #[] #[Value.pointer (some ⟨Q,0,none⟩)],Value.pointer (some ⟨w.heap.size,0,none⟩),undef,Value.slice none 0 0,.int .u64 (x:Nat),Value.func (Fn.func 111) #[] #[Value.pointer (some ⟨Q,0,none⟩)],.int .u64 (x:Nat),undef,undef,undef,undef,undef],defers:=[] })
  ?hAx ?hassign ?hbody ?hdone (λ_ _ _ _ h _=>h.elim)
 case hit=>intro W hk ag;have Z:=S.trans (hk.below a8 λ_ _=>id);have h:=zuF (n0:=w.heap.size) (zwN P (Z.block _ hB)) ((Z.block _ T).trans U) hB T Z.size;rw[show W.heap.size=w.heap.size+3 by omega]at h;exact h
 case hPt=>rintro A B C ⟨E,H⟩ ⟨F,h4⟩;refine⟨V1 E F,λk hk M=>?_⟩;have e1:=H k hk M;exact(h4 k a8 (M.imp id λ⟨b,s,e,c,h⟩=>⟨b,s,e,c,e1.trans h⟩)).trans e1
 case hPt0=>
  rintro A B hk ⟨o,ho⟩;refine⟨hk.size,λk K M=>hk.block k K ?_⟩;rintro rfl;rcases M with M|⟨_,_,_,_,M⟩
  .omega
  .rw[ho]at M;cases M
 case hI=>rintro pre A B ⟨⟨u,E,H⟩,I,F⟩ hk;exact⟨⟨u,hk.boxed E a8,H.keep hk (λg hg _=>a8)⟩,I,F.trans (hk.below F.size λk hk=>a8)⟩
 case hAx=>rintro pre x Y A B ⟨⟨⟨u,E,H⟩,I,F⟩,rfl⟩ hk;exact⟨⟨⟨u,hk.boxed E a8,H.keep hk (λg hg _=>a8)⟩,I,F.trans (hk.below F.size λk hk=>a8)⟩,rfl⟩
 case hassign=>
  rintro l pre x W L K ⟨⟨u,E,H⟩,I,F⟩;clear L
  gi_wp2
  exact⟨⟨⟨u,E⟩,Keep.refl _ _⟩,⟨⟨u,E,H⟩,I,F⟩,trivial⟩
 case hbody=>
  rintro l' pre x Y W L K ⟨⟨⟨u,E,H⟩,I,F⟩,rfl⟩;have M:=E.cell;have hf:=E.frozen;obtain⟨i0,ab,ac,ad,ae⟩:=tP Tryz.infoU;have hl:=hl _ I;have X:qA (ztD D (pre++[x])):=qL ⟨Uq.2 ⟨I.1,b6,λa ha b hb e=>by simp only[wD]at hb;exact L.1 (hb▸e▸ha)⟩,λy hy=>(wC.1 hy).elim (I.2 y) λh=>by simp only[wD]at h;rw[h];exact L.2⟩;clear I L
  gi_wp2_with (gi_at_builtin;refine Ty _ rfl _ _ 128 rfl (w.heap.size+4) 36 i0 (.int .u64 0) 1 8 underlying128 ab ac ad ae rfl b8 _ _ _ rfl (H.alloc _) ⟨W.heap.size,0,none⟩ 1 1 [.int .u64 (x:Nat)] rfl rfl (kw (cs:=#[.int .u64 (x:Nat)]) (t := 36) (fr:=(0,0)) (tn W _)) dG c8 a8 (by rw[tv];omega) ?_;intro v' w3 j G _;obtain⟨g',af,rfl⟩:=TT j;obtain⟨q2,q3,q4⟩:=Q5 (ys:=pre++[x]) E H (dJ j) G;have ai:=(qO E b8 H j G).1.cell;have aj:=(qO E b8 H j G).1.frozen)
  exact⟨q4,⟨_,q2,q3⟩,X.o,F.trans (q4.2.below F.size λk hk=>by rintro(e|⟨e,_⟩)<;>omega)⟩
 case hdone=>
  rintro pre W ⟨_,O⟩ ⟨⟨u,E,H⟩,I,F⟩ hD;have M:=E.cell;have HF:=qL O;have HM:=qL I;clear O I
  gi_wp2
  refine⟨b6,.inl ⟨_,_,rfl,Tb hD,?_⟩⟩;have V:Keep (λk=>k=N.heap.size) W (W.putObj N.heap.size (.deferred none)):=(Keep.refl (λk=>k=N.heap.size) W).putObj (λ_=>rfl) _;exact⟨_,tJ rfl _ _ _,u,pre,rfl,OwnN.mono (H.keep V λg hg _=>a8) a8,HM.o,HF.o,F.trans (V.below F.size λk hk=>a8)⟩
end
section
open Go.RowKit
abbrev Wm:=World×List Nat×Nat
@[reducible] def zsK (Sw:Nat->Prop):Pl.Kpo Wm:=⟨λx y=>Keep Sw x.1 y.1/\(∀k∈x.2.1,k∈y.2.1)/\(1∈x.2.1->y.2.2=x.2.2),λx=>⟨Keep.refl _ _,λ_ h=>h,λ_=>rfl⟩,λa b c h k=>⟨h.1.trans k.1,λ_ e=>k.2.1 _ (h.2.1 _ e),λe=>(k.2.2 (h.2.1 _ e)).trans (h.2.2 e)⟩⟩
def opX(mk:Oper->Option Nat)(P:Program)(Q:Exit->Act->World->Prop)(o:Oper)(a:Act)(x:Wm)(K:Act->Wm->Prop):Prop:=
 match mk o with
 |none=>o.wp P a x.1 (λj u=>K j (u,x.2)) Q
 |some k=>k∉x.2.1->∃g,o.wp P a x.1 (λj u=>K j (u,k::x.2.1,g)) Q
def zvT(l:List Oper)(mk:Oper->Option Nat):Bool:=(List.range l.length).all λi=>(List.range l.length).all λj=>decide (i=j) || (match mk (l.getD i default)with|none=>true|some k=>!(mk (l.getD j default) == some k))
def zvg{l:List Oper}{mk:Oper->Option Nat}(h:zvT l mk=true){i j k:Nat}(hi:i<l.length)(w:j<l.length)(o:mk (l.getD i default)=some k)(u:mk (l.getD j default)=some k):i=j:=by unfold zvT at h;simp only[wK,WO]at h;have h:=h i hi j w;rw[o,u]at h;simpa using h
def zuu(l:List Oper)(mk:Oper->Option Nat)(x:Wm):Prop:=∀i,i<l.length->∀k,mk (l.getD i default)=some k->(l.getD i default).guard=none->k∈x.2.1
def zvo{Sw:Nat->Prop}{P:Program}{id:Nat}{l:List Oper}{Q:Exit->Act->World->Prop}{a:Act}{w:World}(mk:Oper->Option Nat)(nt:Nat)(C:Wm->Prop)(hm:P.follows .mixedOrders=true)
 (F:(xk l.toArray l.length nt && yK l.toArray l.length && zvT l mk)=true) (X:a.tmps.size=nt) (hC:C (w.drew,[],0))
 (h:@Pl.walkG Wm (zsK Sw) (opX mk P Q) a (w.drew,[],0) C (λa x=>l.length=l.length/\(zuu l mk x->Q .normal a x.1)) l []):(Code.region id l.toArray true).wp P Q a w:=by
 simp only[V0]at F;refine TQ hm ?_;have ab:=@Pl.gready Wm (zsK Sw) l.toArray l.length a (w.drew,[],0) C nt l rfl (opX mk P Q)
  (λi K a x=>(∀k,mk (l.getD i default)=some k->k∉x.2.1)->wpOp P l.toArray Q i (λH L=>∃r:List Nat×Nat,(∀k∈r.1,k∈x.2.1\/mk (l.getD i default)=some k)/\(∀k∈x.2.1,k∈r.1)/\(∀k,mk (l.getD i default)=some k->(l.getD i default).guard=none->k∈r.1)/\K H (L,r)) a x.1)
  (λB u a x=>u.size=l.length->(∀k∈x.2.1,∃j,j<l.length/\u.getD j false=true/\mk (l.getD j default)=some k)->(∀j,u.getD j false=true->∀k,mk (l.getD j default)=some k->(l.getD j default).guard=none->k∈x.2.1)->wpAny P .any l.toArray Q B u a x.1)
  (λa x=>zuu l mk x->Q .normal a x.1) (λk a x=>k=l.length/\(zuu l mk x->Q .normal a x.1)) ?_ ?_ ?_ ?_ ?_ ?_ F.1.1 F.1.2 X hC (by rw[Wo];exact h)
 .simpa using ab b6 (λk hk=>by cases hk) (λj G=>by
   simp only[wu,uq]at G;split at G<;>cases G)
 .intro i o K a x ho hs hk;have hd:l.getD i default=o:=by rw[wF]at ho;rw[vw,ho];rfl
  unfold wpOp;simp only[ho];split
  .rename_i hw;rw[vD hw]at hs;left;unfold opX at hs;rw[hd]at hk⊢;cases hmo:mk o with
   |none=>simp only[hmo]at hs;exact Tu (λH L h=>⟨x.2,λk h=>.inl h,λk h=>h,(λk h=>by cases h),h⟩) hs
   |some k=>simp only[hmo]at hs;obtain⟨g,hs⟩:=hs (hk k hmo);exact Tu (λH L h=>⟨(k::x.2.1,g),λO h=>(wi.1 h).elim (λe=>.inr (by rw[e])) .inl,λO h=>Wn _ h,(λO h _=>by cases h;exact WG),h⟩) hs
  .rename_i hw;rw[Vq hw]at hs;refine⟨x.2,λk h=>.inl h,λk h=>h,λk _ A=>?_,hs⟩;rw[hd]at A;exact absurd (by simp[Region.wanted,A]) hw
 .intro i K K' a x hk hs V;exact Tq (λH L ⟨r,E,I,h3,h4⟩=>⟨r,E,I,h3,hk _ _ h4⟩) (hs V)
 .intro u a x E I hz S M;refine⟨E,I λi hi k hk A=>M i ?_ k hk A⟩;cases hf:u.getD i false with
  |true=>rfl
  |false=>obtain⟨O,y⟩:=qh F.1.2 (dJ hz) i (dJ hi) hf;rw[E]at y;cases y
 .intro B u a x E I hz S M;refine⟨λhr=>E hr λi hi k hk A=>M i ?_ k hk A,λi hi=>?_⟩
  .cases hf:u.getD i false with
   |true=>rfl
   |false=>obtain⟨O,y⟩:=qh F.1.2 (dJ hz) i (dJ hi) hf;rw[hr]at y;cases y
  obtain⟨Y,U,_,_⟩:=zo hi;have J:i<l.length:=(dJ U);have V:∀k,mk (l.getD i default)=some k->k∉x.2.1:=λk hk T=>(by obtain⟨j,Z,N,j3⟩:=S k T;have:=zvg F.2 J Z hk j3;subst this;rw[(zx Y).1]at N;cases N);refine Tq (λH L=>?_) (I i hi V);rintro⟨r,r1,r2,r3,r4⟩;refine r4 (dJ hz) (λk hk=>?_) λj G k hk A=>?_
  .rcases r1 k hk with h|h
   .obtain⟨j,Z,N,j3⟩:=S k h;refine⟨j,Z,?_,j3⟩;by_cases e:j=i
    .subst e;exact zl (zx Y).2
    .rw[zj e];exact N
   .exact⟨i,J,zl (zx Y).2,h⟩
  .by_cases e:j=i
   .subst e;exact r3 k hk A
   .rw[zj e]at G;exact r2 k (M j G k hk A)
 .rintro k a x hk ⟨rfl,_⟩;simp at hk
 .rintro a x ⟨_,h⟩;exact h
section
variable {Sw:Nat->Prop}{mk:Oper->Option Nat}{P:Program}{Q:Exit->Act->World->Prop}{a0:Act}{x0:Wm}{C:Wm->Prop}{F:Act->Wm->Prop}{l:List Oper}{o:Oper}{env:List (Option Tmp×Pl.VP Wm)}
def zvB(v:Value)(j:mk o=none)(h:∀a w,Keep Sw x0.1 w.1->@Pl.Rds Wm env a0 (zA o) a w->(execOp a.eval o).run P w.1=.ok (.value v) w.1):@Pl.headOk Wm (zsK Sw) (opX mk P Q) a0 x0 C env o (λu _=>u=v):=by intro a w A hk B K y;unfold opX;rw[j];show o.upon P a _ Q ((execOp a.eval o).run P w.1);rw[h a w hk.1 B];exact y v w ((zsK Sw).refl _) A rfl
def ztp(v:Value)(j:mk o=none)(y:o.guard=none)(h:∀a (w:Wm),Keep Sw x0.1 w.1->@Pl.Rds Wm env a0 (zA o) a w->(execOp a.eval o).run P w.1=.ok (.value v) w.1)
 (A:@Pl.walkG Wm (zsK Sw) (opX mk P Q) a0 x0 C F l (env++[(o.dst,λu _=>u=v)])):@Pl.walkG Wm (zsK Sw) (opX mk P Q) a0 x0 C F (o::l) env:=
 ⟨_,λ_ _ _ h _=>h,by unfold Pl.stepOk;rw[y];exact zvB v j h,A⟩
def ztS{j:Nat}{d:Option Tmp}{v y:Value}(h:env[j]?=some (d,λu _=>u=v))(e:v=y):@Pl.isV Wm env j y:=by unfold Pl.isV;rw[h];exact λu _ h=>h.trans e
def zvI{j:Nat}{b:Bool}(v:Value)(y:mk o=none)(A:o.guard=some (j,b))(B:@Pl.isV Wm env j (.bool b))(h:∀a (w:Wm),Keep Sw x0.1 w.1->@Pl.Rds Wm env a0 (zA o) a w->(execOp a.eval o).run P w.1=.ok (.value v) w.1)
 (E:@Pl.walkG Wm (zsK Sw) (opX mk P Q) a0 x0 C F l (env++[(o.dst,λu _=>u=v)])):@Pl.walkG Wm (zsK Sw) (opX mk P Q) a0 x0 C F (o::l) env:=
 ⟨_,λ_ _ _ h _=>h,by unfold Pl.stepOk;rw[A];exact .inl ⟨B,zvB v y h⟩,E⟩
def zt0(V:Pl.VP Wm)(hs:∀u w j,V u w->(zsK Sw).kp w j->V u j)(y:o.guard=none)
 (h:@Pl.headOk Wm (zsK Sw) (opX mk P Q) a0 x0 C env o V) (A:@Pl.walkG Wm (zsK Sw) (opX mk P Q) a0 x0 C F l (env++[(o.dst,V)])):@Pl.walkG Wm (zsK Sw) (opX mk P Q) a0 x0 C F (o::l) env:=
 ⟨V,hs,by unfold Pl.stepOk;rw[y];exact h,A⟩
def zws{j:Nat}{b:Bool}(V:Pl.VP Wm)(hs:∀u w y,V u w->(zsK Sw).kp w y->V u y)(A:o.guard=some (j,b))(B:@Pl.isV Wm env j (.bool b))
 (h:@Pl.headOk Wm (zsK Sw) (opX mk P Q) a0 x0 C env o V) (E:@Pl.walkG Wm (zsK Sw) (opX mk P Q) a0 x0 C F l (env++[(o.dst,V)])):@Pl.walkG Wm (zsK Sw) (opX mk P Q) a0 x0 C F (o::l) env:=
 ⟨V,hs,by unfold Pl.stepOk;rw[A];exact .inl ⟨B,h⟩,E⟩
end
structure HX(w0:World)(R:World->World->Prop)(y z:Array Value)(t:TypeId)(x:Wm):Prop where
 pre:0∉x.2.1->Below w0.heap.size w0 x.1
 post:0∈x.2.1->∃w5 w6,Below w0.heap.size w0 w5/\R w5 w6/\w6.heap.size<=x.1.heap.size/\Keep (λk=>1∈x.2.1/\k=x.2.2) w6 x.1/\(1∈x.2.1->x.2.2<w5.heap.size\/w6.heap.size<=x.2.2)
 var:1∈x.2.1->w0.heap.size<=x.2.2/\x.1.heap[x.2.2]?=some (.cells (if 2∈x.2.1 then y else z) t (0,0))
 two:2∈x.2.1->1∈x.2.1
section
variable {S Sw:Nat->Prop}{mk:Oper->Option Nat}{P:Program}{Q:Exit->Act->World->Prop}{a0:Act}{w0:World}{R:World->World->Prop}{y z:Array Value}{t:TypeId}{o:Oper}{env:List (Option Tmp×Pl.VP Wm)}
def HX.start:HX w0 R y z t (w0.drew,[],0):=⟨λ_=>(tr _ _).drew,(λh=>by cases h),(λh=>by cases h),(λh=>by cases h)⟩
def zue{f:FuncId}{c:Call}{O:Array Value}{v:Value}(M:mk o=some 0)(ho:o.op=.call c)(hc:c.callee=.value (.func f))(hv:∀a (x:Wm),@Pl.Rds Wm env a0 (zA o) a x->c.args.map a.eval=O)(he:∀j w,(callFunc f j).run P w=.ok (.enter f j) w)
 (C:∀W,Below w0.heap.size w0 W->Calls P f O W λe L=>e=.returned v/\R W L) (Z:∀A B,R A B->Keep S A B) (F:∀k,S k->Sw k/\k<w0.heap.size) :
 @Pl.headOk Wm (zsK Sw) (opX mk P Q) a0 (w0.drew,[],0) (HX w0 R y z t) env o (λu x=>u=v/\0∈x.2.1):=by
 intro a x J hk hr K Y;unfold opX;rw[M];intro X;refine⟨x.2.2,?_⟩;have T:=J.pre X;have N:(execOp a.eval o).run P x.1=.ok (.enter f O) x.1:=by simp only[execOp,ho,resolve,hc,hv a x hr,Deferred.ofValue,Act.eval,tE,tH,tx,invoke];simpa using he _ _
 unfold Oper.wp;rw[N,t8];refine(C _ T).mono ?_;rintro e L ⟨rfl,E⟩;have G:=Z _ _ E;have H:∀{k},k≠0->k∈(0::x.2.1)->k∈x.2.1:=λhk h=>(wi.1 h).resolve_left hk;refine Y v (L,0::x.2.1,x.2.2) ⟨G.mono λk _ h=>(F k h).1,λk h=>Wn _ h,λ_=>rfl⟩ ⟨λh=>absurd WG h,λ_=>⟨x.1,L,T,E,Zp _,Keep.refl _ _,λh=>.inl (XV.1 (J.var (H b8 h)).2).1⟩,λh=>?_,λh=>Wn _ (J.two (H b8 h))⟩ ⟨rfl,WG⟩;obtain⟨U,V⟩:=J.var (H b8 h);refine⟨U,?_⟩;have:=G.obj V λh=>by have:=(F _ h).2;omega
 by_cases I:2∈x.2.1
 .rw[vD I]at this;rw[vD (Wn _ I)];exact this
 .rw[Vq I]at this;rw[Vq λh=>I (H b8 h)];exact this
def zuX(C:mk o=some 1)(j:∀(a:Act)(w:World),(execOp a.eval o).run P w=.ok (.value (.pointer (some ⟨w.heap.size,0,none⟩))) (w.alloc (.cells z t))):
 @Pl.headOk Wm (zsK Sw) (opX mk P Q) a0 (w0.drew,[],0) (HX w0 R y z t) env o (λu x=>u=.pointer (some ⟨x.2.2,0,none⟩)/\1∈x.2.1):=by
 intro a x E hk S K M;unfold opX;rw[C];intro B;refine⟨x.1.heap.size,?_⟩;have F:∀{k},k≠1->k∈(1::x.2.1)->k∈x.2.1:=λhk h=>(wi.1 h).resolve_left hk;have A:w0.heap.size<=x.1.heap.size:=hk.1.size;unfold Oper.wp;rw[j];refine M _ (x.1.alloc (.cells z t),1::x.2.1,x.1.heap.size) ⟨(Keep.refl _ _).alloc _,λk h=>Wn _ h,λh=>absurd h B⟩ ⟨λh=>(E.pre λL=>h (Wn _ L)).alloc A _,λh=>?_,λ_=>⟨A,?_⟩,λ_=>WG⟩ ⟨rfl,WG⟩
 .obtain⟨N,O,G,H,I,J,_⟩:=E.post (F b8 h);exact⟨N,O,G,H,by simp only[tv];omega,(J.mono λk _ h=>absurd h.1 B).alloc _,λ_=>.inr I⟩
 .rw[Vq λh=>B (E.two (F b8 h))];exact tn _ _
def zuY(C:mk o=some 2)(F:∀a (x:Wm),@Pl.Rds Wm env a0 (zA o) a x->1∈x.2.1/\∀w,w.heap[x.2.2]?=some (.cells z t (0,0))->∃u,(execOp a.eval o).run P w=.ok .skip u/\u.heap[x.2.2]?=some (.cells y t (0,0))/\Keep (λk=>k=x.2.2) w u)(B:∀k,w0.heap.size<=k->Sw k):
 @Pl.headOk Wm (zsK Sw) (opX mk P Q) a0 (w0.drew,[],0) (HX w0 R y z t) env o (λ_ _=>True):=by
 intro a x H hk S K N;unfold opX;rw[C];intro M;refine⟨x.2.2,?_⟩;have O:∀{k},k≠2->k∈(2::x.2.1)->k∈x.2.1:=λhk h=>(wi.1 h).resolve_left hk;obtain⟨A,G⟩:=F a x S;obtain⟨I,J⟩:=H.var A;rw[Vq M]at J;obtain⟨u,E,T,j⟩:=G x.1 J;unfold Oper.wp;rw[E];refine N _ (u,2::x.2.1,x.2.2) ⟨j.mono λk _ e=>B k (by rw[e];exact I),λk h=>Wn _ h,λ_=>rfl⟩ ⟨λh=>(H.pre λL=>h (Wn _ L)).trans (j.below (by have:=hk.1.size;exact this) λk hk e=>a8),λh=>?_,λ_=>⟨I,by rw[vD WG];exact T⟩,λ_=>Wn _ A⟩ trivial;obtain⟨w5,w6,U,V,X,Y,Z⟩:=H.post (O b8 h);exact⟨w5,w6,U,V,V1 X j.size,(Y.mono λk _ e=>⟨Wn _ e.1,e.2⟩).trans (j.mono λk _ e=>⟨Wn _ A,e⟩),λ_=>Z A⟩
end
def mkD(c:Nat)(v:Option Nat)(s:Bool)(o:Oper):Option Nat:=match o.dst with
 |some d=>if d=c then some 0 else if some d=v then some 1 else none
 |none=>if s=true then some 2 else none
def exM{α:Type}{A B v:α}{q:Prop}:(∃u,(A=u/\B=u)/\u=v/\q)->A=v/\B=v:=λ⟨_,h,e,_⟩=>by rw[<-e];exact h
def zt6{Sw:Nat->Prop}{c:Value}{k:Nat}:∀(u:Value)(w j:Wm),(fun(u:Value) (x:Wm)=>u=c/\k∈x.2.1) u w->(zsK Sw).kp w j->(fun(u:Value) (x:Wm)=>u=c/\k∈x.2.1) u j:=λ_ _ _ h hk=>⟨h.1,hk.2.1 _ h.2⟩
def zwr{Sw:Nat->Prop}:∀(u:Value)(w j:Wm),(fun(u:Value) (x:Wm)=>u=.pointer (some ⟨x.2.2,0,none⟩)/\1∈x.2.1) u w->(zsK Sw).kp w j->(fun(u:Value) (x:Wm)=>u=.pointer (some ⟨x.2.2,0,none⟩)/\1∈x.2.1) u j:=λ_ _ _ h hk=>⟨by rw[hk.2.2 h.2];exact h.1,hk.2.1 _ h.2⟩
end
end Go.Proofs.YtmpnbdhadjfbhaaGreatDoor
