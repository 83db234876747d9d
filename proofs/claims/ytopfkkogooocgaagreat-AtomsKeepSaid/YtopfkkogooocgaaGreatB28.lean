import Derived.Sort.Walk11
import Derived.Sort.Walk13
import Derived.Sort.WalkA14
import Derived.Sort.AssemblyPlain
import Derived.Test.YtopfkkogooocgaaGreatB27
set_option maxHeartbeats 16000000
set_option linter.unusedVariables false
set_option linter.unusedSimpArgs false
namespace Go.Proofs.YtopfkkogooocgaaGreat
open Go.RowKit Go.Sort
theorem Y2 (w:World) (N S:Nat):∃ os,putRow (Value.int .i64) (Sort.ahead (w.alloc (.cells #[.int .i64 0] 3)) N) w.heap.size 0 (one S)=grow (Sort.ahead w N) os:=by
 rw [alloc_eq_grow,ahead_grow]
 obtain⟨os,_,h⟩:=putRow_grow_new (Value.int .i64) (Sort.ahead w N) #[.cells #[.int .i64 0] 3] w.heap.size 0 (one S) (Nat.le_refl _)
 exact⟨os,h⟩
theorem ZI (zc off cap:Nat) (d:Array Int) (w:World) (hH:Holds zg w zc off d) (hblk:zc<w.heap.size) (hsz:d.size<4611686018427387904) :
 ∃ Wc:Nat->Nat->World,
  w.alloc (.cells #[.int .i64 0] 3)=Wc 0 0 /\
  (∀ N S:Nat,(Wc N S).cell? ⟨w.heap.size,0,none⟩=some (.int .i64 (S:Int))) /\
  (∀ N S:Nat,∃ os,Wc N S=grow (Sort.ahead w N) os) /\
  (∀ x s N:Nat,1<=x->x+1<d.size->s+3<4611686018427387904->Calls Tryz.prog 94 #[.slice (some ⟨zc,off,none⟩) d.size cap,.int .i64 (x:Int),.pointer (some ⟨w.heap.size,0,none⟩)] (Wc N s) fun e w'=>
    e=.returned (.int .i64 ((medianAdjacent ltInt d x s).1:Int))/\∃ N',w'=Wc N' (medianAdjacent ltInt d x s).2) /\
  (∀ x y z s N:Nat,x<d.size->y<d.size->z<d.size->s+3<4611686018427387904->Calls Tryz.prog 95 #[.slice (some ⟨zc,off,none⟩) d.size cap,.int .i64 (x:Int),.int .i64 (y:Int),.int .i64 (z:Int),.pointer (some ⟨w.heap.size,0,none⟩)] (Wc N s) fun e w'=>
    e=.returned (.int .i64 ((median ltInt d x y z s).1:Int))/\∃ N',w'=Wc N' (median ltInt d x y z s).2):=by
 have hne:w.heap.size≠zc:=by omega
 have hH0:Holds zg (w.alloc (.cells #[.int .i64 0] 3)) zc off d:=by rw [alloc_eq_grow];exact holds_grow _ _ _ _ _ _ hblk hH
 have hS0:Holds (Value.int .i64) (w.alloc (.cells #[.int .i64 0] 3)) w.heap.size 0 (one 0):=fun j hj=>by
  obtain rfl:j=0:=by simpa using hj
  simp
 refine⟨fun N S=>putRow (Value.int .i64) (Sort.ahead (w.alloc (.cells #[.int .i64 0] 3)) N) w.heap.size 0 (one S),(putRow_self _ _ _ _ _ hS0).symm,fun N S=>(one_cell (holds_one (n:=N) (t:=S) hS0)).1,fun N S=>Y2 w N S,?_,?_⟩
 ·intro x s N h1 h2 hs
  refine(so_medianAdjacent_int d _ rfl zc off cap x w.heap.size 0 s _ (qR hH0 hne) h1 h2 (by omega) hne (holds_one hS0) (by omega)).mono ?_
  rintro e w' ⟨he,n,hw⟩
  exact⟨he,N+n,by rw [hw,one_one]⟩
 ·intro x y z s N h1 h2 h3 hs
  refine(jH d _ rfl zc off cap x y z w.heap.size 0 s _ (qR hH0 hne) h1 h2 h3 hne (holds_one hS0) (by omega)).mono ?_
  rintro e w' ⟨he,n,hw⟩
  exact⟨he,N+n,by rw [hw,one_one]⟩
set_option maxRecDepth 100000 in
theorem j6 (zc off cap a b:Nat) (d:Array Int) (w:World) (hH:Holds zg w zc off d) (hblk:zc<w.heap.size) (hab:a<b) (hb:b<=d.size) (hsz:d.size<4611686018427387904) :
 Calls Tryz.prog 73 #[.slice (some ⟨zc,off,none⟩) d.size cap,.int .i64 a,.int .i64 b] w fun e w'=>
  e=.returned (.tuple #[.int .i64 (choosePivot ltInt d a b).1,.int .i64 (hintCode (choosePivot ltInt d a b).2)])/\∃ n os,w'=grow (Sort.ahead w n) os:=by
 obtain⟨Wc,hW0,cS,hG,MA,MD⟩:=ZI zc off cap d w hH hblk hsz
 clear hH
 rw [choosePivot_eq]
 obtain⟨I,hI⟩:∃ I:Nat,I=a+(b - a) / 4 * 1:=⟨_,rfl⟩
 obtain⟨J,hJ⟩:∃ J:Nat,J=a+(b - a) / 4 * 2:=⟨_,rfl⟩
 obtain⟨K,hK⟩:∃ K:Nat,K=a+(b - a) / 4 * 3:=⟨_,rfl⟩
 have eI:((a:Int)+((b:Int) - (a:Int)) / 4)=(I:Int):=by omega
 have eJ:((a:Int)+((b:Int) - (a:Int)) / 4 * 2)=(J:Int):=by omega
 have eK:((a:Int)+((b:Int) - (a:Int)) / 4 * 3)=(K:Int):=by omega
 by_cases h8:b - a ≥ 8
 ·by_cases h50:b - a ≥ 50
  ·
   obtain⟨i1,s1,h1⟩:∃ i1 s1,medianAdjacent ltInt d I 0=(i1,s1):=⟨_,_,rfl⟩
   obtain⟨j1,s2,h2⟩:∃ j1 s2,medianAdjacent ltInt d J s1=(j1,s2):=⟨_,_,rfl⟩
   obtain⟨k1,s3,h3⟩:∃ k1 s3,medianAdjacent ltInt d K s2=(k1,s3):=⟨_,_,rfl⟩
   obtain⟨p,s,h4⟩:∃ p s,median ltInt d i1 j1 k1 s3=(p,s):=⟨_,_,rfl⟩
   have hraw:rawPivot ltInt d a b=(p,s):=by simp only [rawPivot,if_pos h8,if_pos h50,<-hI,<-hJ,<-hK,h1,h2,h3,h4]
   have m1:=medianAdjacent_mem ltInt d I 0;rw [h1] at m1
   have m2:=medianAdjacent_mem ltInt d J s1;rw [h2] at m2
   have m3:=medianAdjacent_mem ltInt d K s2;rw [h3] at m3
   have n1:=medianAdjacent_count ltInt d I 0;rw [h1] at n1
   have n2:=medianAdjacent_count ltInt d J s1;rw [h2] at n2
   have n3:=medianAdjacent_count ltInt d K s2;rw [h3] at n3
   simp only [] at m1 m2 m3 n1 n2 n3
   have c1:Calls Tryz.prog 94 #[.slice (some ⟨zc,off,none⟩) d.size cap,.int .i64 (I:Int),.pointer (some ⟨w.heap.size,0,none⟩)] (Wc 0 0) fun e w'=>e=.returned (.int .i64 (i1:Int))/\∃ N',w'=Wc N' s1:=by
    have h:=MA I 0 0 (by omega) (by omega) (by omega);rw [h1] at h;exact h
   have c2:∀ N,Calls Tryz.prog 94 #[.slice (some ⟨zc,off,none⟩) d.size cap,.int .i64 (J:Int),.pointer (some ⟨w.heap.size,0,none⟩)] (Wc N s1) fun e w'=>e=.returned (.int .i64 (j1:Int))/\∃ N',w'=Wc N' s2:=fun N=>by
    have h:=MA J s1 N (by omega) (by omega) (by omega);rw [h2] at h;exact h
   have c3:∀ N,Calls Tryz.prog 94 #[.slice (some ⟨zc,off,none⟩) d.size cap,.int .i64 (K:Int),.pointer (some ⟨w.heap.size,0,none⟩)] (Wc N s2) fun e w'=>e=.returned (.int .i64 (k1:Int))/\∃ N',w'=Wc N' s3:=fun N=>by
    have h:=MA K s2 N (by omega) (by omega) (by omega);rw [h3] at h;exact h
   have c4:∀ N,Calls Tryz.prog 95 #[.slice (some ⟨zc,off,none⟩) d.size cap,.int .i64 (i1:Int),.int .i64 (j1:Int),.int .i64 (k1:Int),.pointer (some ⟨w.heap.size,0,none⟩)] (Wc N s3) fun e w'=>e=.returned (.int .i64 (p:Int))/\∃ N',w'=Wc N' s:=fun N=>by
    have h:=MD i1 j1 k1 s3 N (by omega) (by omega) (by omega) (by omega);rw [h4] at h;exact h
   rw [hraw]
   obtain⟨Hc,hHc⟩:∃ Hc:Int,Hc=hintCode (hintOf s):=⟨_,rfl⟩
   have hh0:s=0->Hc=1:=fun h=>by rw [hHc,h];rfl
   have hh12:s=12->Hc=2:=fun h=>by rw [hHc,h];rfl
   have hhx:s≠0->s≠12->Hc=0:=fun h1 h2=>by rw [hHc];unfold hintOf;rw [if_neg h1,if_neg h2];rfl
   show Calls Tryz.prog 73 _ w fun e w'=>e=.returned (.tuple #[.int .i64 (p:Int),.int .i64 (hintCode (hintOf s))])/\∃ n os,w'=grow (Sort.ahead w n) os
   rw [<-hHc]
   clear hHc hraw
   clear h1 h2 h3 h4 MA MD hI hJ hK m1 m2 m3
   go_enter Tryz.func73,Tryz.ntmps73
   go_wp2_with (first
    | (go_at_call_has 94 (Value.int .i64 (I:Int));refine c1.mono ?_;rintro e w' ⟨rfl,N1,rfl⟩)
    | (go_at_call_has 94 (Value.int .i64 (J:Int));refine(c2 _).mono ?_;rintro e w' ⟨rfl,N2,rfl⟩)
    | (go_at_call_has 94 (Value.int .i64 (K:Int));refine(c3 _).mono ?_;rintro e w' ⟨rfl,N3,rfl⟩)
    | (go_at_call 95;refine(c4 _).mono ?_;rintro e w' ⟨rfl,N4,rfl⟩))
   all_goals
    go_ret2
    refine⟨?_,_,hG _ _⟩
    first
     | (have e0:(s:Int)=0:=of_beq_int (by assumption)
        rw [hh0 (by omega)];rfl)
     | (have e1:(s:Int)=12:=of_beq_int (by assumption)
        rw [hh12 (by omega)];rfl)
     | (have e0:(s:Int)≠0:=of_bne_int (by assumption)
        have e1:(s:Int)≠12:=of_bne_int (by assumption)
        rw [hhx (by omega) (by omega)];rfl)
     | (rw [hh0 (by omega)];rfl)
  ·
   obtain⟨p,s,h4⟩:∃ p s,median ltInt d I J K 0=(p,s):=⟨_,_,rfl⟩
   have hraw:rawPivot ltInt d a b=(p,s):=by simp only [rawPivot,if_pos h8,if_neg h50,<-hI,<-hJ,<-hK,h4]
   have c4:Calls Tryz.prog 95 #[.slice (some ⟨zc,off,none⟩) d.size cap,.int .i64 (I:Int),.int .i64 (J:Int),.int .i64 (K:Int),.pointer (some ⟨w.heap.size,0,none⟩)] (Wc 0 0) fun e w'=>e=.returned (.int .i64 (p:Int))/\∃ N',w'=Wc N' s:=by
    have h:=MD I J K 0 0 (by omega) (by omega) (by omega) (by omega);rw [h4] at h;exact h
   rw [hraw]
   obtain⟨Hc,hHc⟩:∃ Hc:Int,Hc=hintCode (hintOf s):=⟨_,rfl⟩
   have hh0:s=0->Hc=1:=fun h=>by rw [hHc,h];rfl
   have hh12:s=12->Hc=2:=fun h=>by rw [hHc,h];rfl
   have hhx:s≠0->s≠12->Hc=0:=fun h1 h2=>by rw [hHc];unfold hintOf;rw [if_neg h1,if_neg h2];rfl
   show Calls Tryz.prog 73 _ w fun e w'=>e=.returned (.tuple #[.int .i64 (p:Int),.int .i64 (hintCode (hintOf s))])/\∃ n os,w'=grow (Sort.ahead w n) os
   rw [<-hHc]
   clear hHc hraw
   clear h4 MA MD hI hJ hK
   go_enter Tryz.func73,Tryz.ntmps73
   go_wp2_with (first | (go_at_call 95;refine c4.mono ?_;rintro e w' ⟨rfl,N4,rfl⟩))
   all_goals
    go_ret2
    refine⟨?_,_,hG _ _⟩
    first
     | (have e0:(s:Int)=0:=of_beq_int (by assumption)
        rw [hh0 (by omega)];rfl)
     | (have e1:(s:Int)=12:=of_beq_int (by assumption)
        rw [hh12 (by omega)];rfl)
     | (have e0:(s:Int)≠0:=of_bne_int (by assumption)
        have e1:(s:Int)≠12:=of_bne_int (by assumption)
        rw [hhx (by omega) (by omega)];rfl)
     | (rw [hh0 (by omega)];rfl)
 ·
  obtain⟨p,hp⟩:∃ p:Nat,p=J:=⟨_,rfl⟩
  obtain⟨s,hs⟩:∃ s:Nat,s=0:=⟨_,rfl⟩
  have hraw:rawPivot ltInt d a b=(p,s):=by simp only [rawPivot,if_neg h8,<-hJ,hp,hs]
  rw [hraw]
  obtain⟨Hc,hHc⟩:∃ Hc:Int,Hc=hintCode (hintOf s):=⟨_,rfl⟩
  have hh0:s=0->Hc=1:=fun h=>by rw [hHc,h];rfl
  have hh12:s=12->Hc=2:=fun h=>by rw [hHc,h];rfl
  have hhx:s≠0->s≠12->Hc=0:=fun h1 h2=>by rw [hHc];unfold hintOf;rw [if_neg h1,if_neg h2];rfl
  show Calls Tryz.prog 73 _ w fun e w'=>e=.returned (.tuple #[.int .i64 (p:Int),.int .i64 (hintCode (hintOf s))])/\∃ n os,w'=grow (Sort.ahead w n) os
  rw [<-hHc]
  clear hHc hraw
  subst hp
  clear MA MD hI hJ hK
  have hW0':w.alloc (.cells #[.int .i64 0] 3)=Wc 0 s:=by rw [hs];exact hW0
  clear hW0
  go_enter Tryz.func73,Tryz.ntmps73
  go_wp2
  all_goals
   go_ret2
   refine⟨?_,_,hG _ _⟩
   first
    | (have e0:(s:Int)=0:=of_beq_int (by assumption)
       rw [hh0 (by omega)];rfl)
    | (have e1:(s:Int)=12:=of_beq_int (by assumption)
       rw [hh12 (by omega)];rfl)
    | (have e0:(s:Int)≠0:=of_bne_int (by assumption)
       have e1:(s:Int)≠12:=of_bne_int (by assumption)
       rw [hhx (by omega) (by omega)];rfl)
    | (rw [hh0 (by omega)];rfl)
structure CalU:Prop where
 ins:∀(zc off cap a b:Nat) (d:Array Int) (w:World),Holds zg w zc off d->a<=b->b<=d.size->d.size<4611686018427387904 ->
  Calls Tryz.prog 70 #[.slice (some ⟨zc,off,none⟩) d.size cap,.int .i64 a,.int .i64 b] w fun e w'=>e=.returned (.tuple #[])/\∃ n,w'=putRow zg (Sort.ahead w n) zc off (insertionSort ltInt d a b)
 brk:∀(zc off cap a b:Nat) (d:Array Int) (w:World),Holds zg w zc off d->zc<w.heap.size->a<=b->b<=d.size->d.size<4611686018427387904 ->
  Calls Tryz.prog 72 #[.slice (some ⟨zc,off,none⟩) d.size cap,.int .i64 a,.int .i64 b] w fun e w'=>e=.returned (.tuple #[])/\∃ n os,w'=grow (putRow zg (Sort.ahead w n) zc off (breakPatterns d a b)) os
 piv:∀(zc off cap a b:Nat) (d:Array Int) (w:World),Holds zg w zc off d->zc<w.heap.size->a<b->b<=d.size->d.size<4611686018427387904 ->
  Calls Tryz.prog 73 #[.slice (some ⟨zc,off,none⟩) d.size cap,.int .i64 a,.int .i64 b] w fun e w'=>e=.returned (.tuple #[.int .i64 (choosePivot ltInt d a b).1,.int .i64 (hintCode (choosePivot ltInt d a b).2)])/\∃ n os,w'=grow (Sort.ahead w n) os
 par:∀(zc off cap a b:Nat) (d:Array Int) (w:World),Holds zg w zc off d->a<b->b<=d.size->d.size<4611686018427387904 ->
  Calls Tryz.prog 75 #[.slice (some ⟨zc,off,none⟩) d.size cap,.int .i64 a,.int .i64 b] w fun e w'=>e=.returned (.bool (partialInsertionSort ltInt d a b).2)/\∃ n,w'=putRow zg (Sort.ahead w n) zc off (partialInsertionSort ltInt d a b).1
 peq:∀(zc off cap a b pivot:Nat) (d:Array Int) (w:World),Holds zg w zc off d->a<=pivot->pivot<b->b<=d.size->d.size<4611686018427387904 ->
  Calls Tryz.prog 77 #[.slice (some ⟨zc,off,none⟩) d.size cap,.int .i64 a,.int .i64 b,.int .i64 pivot] w fun e w'=>e=.returned (.int .i64 (partitionEqual ltInt d a b pivot).1)/\∃ n,w'=putRow zg (Sort.ahead w n) zc off (partitionEqual ltInt d a b pivot).2
 prt:∀(zc off cap a b pivot:Nat) (d:Array Int) (w:World),Holds zg w zc off d->a<=pivot->pivot<b->b<=d.size->d.size<4611686018427387904 ->
  Calls Tryz.prog 78 #[.slice (some ⟨zc,off,none⟩) d.size cap,.int .i64 a,.int .i64 b,.int .i64 pivot] w fun e w'=>e=.returned (.tuple #[.int .i64 (partition ltInt d a b pivot).1,.bool (partition ltInt d a b pivot).2.1])/\∃ n,w'=putRow zg (Sort.ahead w n) zc off (partition ltInt d a b pivot).2.2
structure PlnU:Prop where
 swo:SWO ltInt
 ins:insertionSort_stmt ltInt
 par:partialInsertionSort_stmt ltInt
 prt:partition_stmt ltInt
 peq:partitionEqual_stmt ltInt
 pdq:pdq_stmt ltInt
set_option maxRecDepth 1000000 in
theorem QJ (C:CalU) (S:PlnU):∀(N zc off cap a b limit:Nat) (d:Array Int) (w:World),b - a<N->Holds zg w zc off d->zc<w.heap.size->a<=b->b<=d.size->d.size<4611686018427387904->limit<4611686018427387904->Below ltInt a b d ->
 Calls Tryz.prog 54 #[.slice (some ⟨zc,off,none⟩) d.size cap,.int .i64 a,.int .i64 b,.int .i64 limit] w fun e w'=>e=.returned (.tuple #[])/\At zg w zc off (pdq ltInt d a b limit true true) w':=by
 intro N
 induction N with
 | zero=>intro _ _ _ _ _ _ _ _ h;exact absurd h (Nat.not_lt_zero _)
 | succ N ih=>
   intro zc off cap a b limit d w hN hH hblk hab hb hsz hlimit hBel0
   go_enter Tryz.func54,Tryz.ntmps54
   go_wp2
   go_loopg [1,2,3,8,9] (b - a) (fun k s1 s2 s3 s8 s9 wr=>∃(a' b' lim:Nat) (wb wp:Bool) (dk:Array Int),s1=.int .i64 a'/\s2=.int .i64 b'/\s3=.int .i64 lim/\s8=.bool wb/\s9=.bool wp /\
    a'<=b'/\b'<=d.size/\b' - a'<=k/\k<=b - a/\lim<=limit/\dk.size=d.size/\Below ltInt a' b' dk/\At zg w zc off dk wr/\pdq ltInt dk a' b' lim wb wp=pdq ltInt d a b limit true true)
   case atStart=>exact⟨a,b,limit,true,true,d,rfl,rfl,rfl,rfl,rfl,hab,hb,Nat.le_refl _,Nat.le_refl _,Nat.le_refl _,rfl,hBel0,At.refl hH,rfl⟩
   case round=>
    obtain⟨a',b',lim,wb,wp,dk,rfl,rfl,rfl,rfl,rfl,hab',hb',hk,hkN,hlim,hds,hBel,hAt,heq⟩:=hrel
    obtain⟨hHk,hblk'⟩:=hAt.holds hH hds hblk
    have A:Aside (pdq ltInt dk a' b' lim wb wp=pdq ltInt d a b limit true true):=heq
    clear heq
    by_cases h12:b' - a'<=12
    ·
     have h12z:(b':Int) - (a':Int)<=12:=by omega
     have hc:=C.ins zc off cap a' b' dk wr hHk hab' (by omega) (by omega)
     rw [hds] at hc
     go_wp2_with (go_at_call 70;refine hc.mono ?_;rintro e w1 ⟨rfl,hw1⟩)
     (try simp only [Exit.inBlock,Exit.then]);refine bodyPost_ret (results_none rfl _ _ _) rfl ?_
     refine⟨rfl,?_⟩
     rw [<-A.out,pdq_small h12]
     exact hAt.step hblk (S.ins S.swo dk a' b' hab' (by omega)).1.1 hw1
    ·have h12z:¬((b':Int) - (a':Int)<=12):=by omega
     by_cases hl0:lim=0
     ·
      subst hl0
      have hc:=ZK zc off d.size cap dk hds a' b' wr hHk hab' (by omega) (by omega)
      go_wp2_with (go_at_call 71;refine hc.mono ?_;rintro e w1 ⟨rfl,hw1⟩)
      (try simp only [Exit.inBlock,Exit.then]);refine bodyPost_ret (results_none rfl _ _ _) rfl ?_
      refine⟨rfl,?_⟩
      rw [<-A.out,pdq_heap h12 rfl]
      exact hAt.step hblk (heapSort_holds S.swo dk a' b' hab' (by omega)).1.1 hw1
     ·have hl0z:¬((lim:Int)=0):=by omega
      obtain⟨s1,B1,hc1,s2,B2,hpv,s3,B3⟩:=rd_facts (limit:=lim) (wb:=wb) (wp:=wp) S.swo S.par reverseRange_holds (show a'<b' by omega) (show b'<=dk.size by omega) hBel
      go_upto_if 35 with fail
      go_cut [3] from 19 (fun s3 wc=>s3=.int .i64 (rd ltInt dk a' b' lim wb wp).lim/\At zg w zc off (rd ltInt dk a' b' lim wb wp).d1 wc)
      case first=>
       cases wb
       ·have hc:=C.brk zc off cap a' b' dk wr hHk hblk' hab' (by omega) (by omega)
        rw [hds] at hc
        go_wp2_with (go_at_call 72;refine hc.mono ?_;rintro e w1 ⟨rfl,hw1⟩)
        go_meet
        case rel=>
         refine⟨?_,hAt.stepG hblk s1 hw1⟩
         show Value.int .i64 ((lim:Int) - 1)=Value.int .i64 ((lim - 1:Nat):Int)
         congr 1
         omega
       ·go_wp2_with fail
        go_meet
        case rel=>exact⟨rfl,hAt⟩
      case rest=>
       obtain⟨rfl,hAt1⟩:=hcut
       obtain⟨hH1,hblk1⟩:=hAt1.holds hH (s1.trans hds) hblk
       have hc17:Calls Tryz.prog 73 #[.slice (some ⟨zc,off,none⟩) d.size cap,.int .i64 a',.int .i64 b'] wc fun e w'=>e=.returned (.tuple #[.int .i64 (rd ltInt dk a' b' lim wb wp).c.1,.int .i64 (hintCode (rd ltInt dk a' b' lim wb wp).c.2)])/\∃ n os,w'=grow (Sort.ahead wc n) os:=by
        have:=C.piv zc off cap a' b' (rd ltInt dk a' b' lim wb wp).d1 wc hH1 hblk1 (by omega) (by omega) (by omega)
        rw [s1,hds] at this
        exact this
       go_upto_if 50 with(go_at_call 73;refine hc17.mono ?_;rintro e w2 ⟨rfl,hw2⟩)
       have hAt2:At zg w zc off (rd ltInt dk a' b' lim wb wp).d1 w2:=hAt1.same hH (s1.trans hds) hblk hw2
       obtain⟨hH2,hblk2⟩:=hAt2.holds hH (s1.trans hds) hblk
       go_cut [11,12] from 19 (fun s11 s12 wc=>s11=.int .i64 (rd ltInt dk a' b' lim wb wp).pivot/\s12=.int .i64 (hintCode (rd ltInt dk a' b' lim wb wp).hint)/\At zg w zc off (rd ltInt dk a' b' lim wb wp).d2 wc)
       case first=>
        by_cases hh:(rd ltInt dk a' b' lim wb wp).c.2=.decreasing
        ·have hcode:hintCode (rd ltInt dk a' b' lim wb wp).c.2=2:=by rw [hh];rfl
         obtain⟨e2,epv,eht⟩:=rd_dec hh
         have hc18:=jB zc off cap (rd ltInt dk a' b' lim wb wp).d1 a' b' w2 hH2 hab' (by omega) (by omega)
         rw [s1,hds] at hc18
         go_wp2_with (go_at_call 74;refine hc18.mono ?_;rintro e w3 ⟨rfl,hw3⟩)
         go_meet
         case rel=>
          refine⟨?_,by rw [eht];rfl,by rw [e2];exact hAt2.step hblk (by rw [<-e2,s2,s1]) hw3⟩
          rw [epv]
          congr 1
          omega
        ·have hcode:¬(hintCode (rd ltInt dk a' b' lim wb wp).c.2=2):=fun h=>hh (hintCode_two h)
         obtain⟨e2,epv,eht⟩:=rd_not hh
         go_wp2_with fail
         go_meet
         case rel=>exact⟨by rw [epv],by rw [eht],by rw [e2];exact hAt2⟩
       case rest=>
        obtain⟨rfl,rfl,hAt3⟩:=hcut
        obtain⟨hH3,hblk3⟩:=hAt3.holds hH (s2.trans hds) hblk
        go_upto_region 15 with fail
        go_cut [12,68] from 19 (fun s12 s68 wx=>s12=.int .i64 (hintCode (rd ltInt dk a' b' lim wb wp).hint)/\s68=.bool (wb && wp && decide ((rd ltInt dk a' b' lim wb wp).hint=.increasing))/\wx=wc)
        case first=>
         cases wb<;>cases wp<;>cases hh3:(rd ltInt dk a' b' lim _ _).hint <;>
          (have hcode3:=congrArg hintCode hh3
           simp only [hintCode] at hcode3
           go_wp2_with fail
           go_meet
           exact⟨by simp [hh3,hintCode],by simp [hh3,hintCode],rfl⟩)
        case rest=>
         obtain⟨rfl,rfl,rfl⟩:=hcut
         go_upto_if 68 with fail
         go_cut [] from 19 (fun wx=>(rd ltInt dk a' b' lim wb wp).pi.2=false/\At zg w zc off (rd ltInt dk a' b' lim wb wp).pi.1 wx)
         case first=>
          cases h68:(wb && wp && decide ((rd ltInt dk a' b' lim wb wp).hint=.increasing))
          ·have epi:=rd_pi_no h68
           go_wp2_with fail
           go_meet
           case rel=>exact⟨by rw [epi],by rw [epi];exact hAt3⟩
          ·have epi:=rd_pi_yes h68
           have hc19:=C.par zc off cap a' b' (rd ltInt dk a' b' lim wb wp).d2 wc hH3 (by omega) (by omega) (by omega)
           rw [s2,hds,<-epi] at hc19
           go_wp2_with (go_at_call 75;refine hc19.mono ?_;rintro e w4 ⟨rfl,hw4⟩)
           all_goals first
            | (have hp2:(rd ltInt dk a' b' lim wb wp).pi.2=false:=by rw [epi];assumption
               go_meet
               exact⟨hp2,hAt3.step hblk (by rw [s3,s2]) hw4⟩)
            | (have hp2:(rd ltInt dk a' b' lim wb wp).pi.2=true:=by rw [epi];assumption
               (try simp only [Exit.inBlock,Exit.then]);refine bodyPost_ret (results_none rfl _ _ _) rfl ?_
               refine⟨rfl,?_⟩
               rw [<-A.out,pdq_done h12 hl0 hp2]
               exact hAt3.step hblk (by rw [s3,s2]) hw4)
         case rest=>
          obtain⟨hp2,hAt5⟩:=hcut
          obtain⟨hH5,hblk5⟩:=hAt5.holds hH (s3.trans hds) hblk
          have hcw:∀ t,t<d.size->wc.cell? ⟨zc,off+t,none⟩=some (.int .u64 (rd ltInt dk a' b' lim wb wp).pi.1[t]!):=fun t ht=>(hH5 t (by omega)).1
          have hfw:∀ t,t<d.size->wc.frozen? ⟨zc,off+t,none⟩=false:=fun t ht=>(hH5 t (by omega)).2
          go_upto_region 17 with fail
          go_cut [87] from 19 (fun s87 wx=>s87=.bool (decide (a' > 0) && !ltInt (rd ltInt dk a' b' lim wb wp).pi.1[a' - 1]! (rd ltInt dk a' b' lim wb wp).pi.1[(rd ltInt dk a' b' lim wb wp).pivot]!)/\At zg w zc off (rd ltInt dk a' b' lim wb wp).pi.1 wx)
          case first=>
           rcases Nat.eq_zero_or_pos a' with ha0 | ha0
           ·have ha0z:decide ((a':Int) > 0)=false:=decide_eq_false (by omega)
            go_big_quiet (first | (go_at_call 76;refine Calls.quiet_of_same (za _ _ _)))
            go_wp2_with fail
            go_meet
            case rel=>exact⟨by simp [ha0],hAt5.ahead nq⟩
           ·have ha0z:(a':Int) > 0:=by omega
            go_big_quiet (first | (go_at_call 76;refine Calls.quiet_of_same (za _ _ _)))
            go_wp2_with fail
            go_meet
            case rel=>exact⟨by simp [ha0],hAt5.ahead nq⟩
          case rest=>
           obtain⟨rfl,hAt6⟩:=hcut
           obtain⟨hH6,hblk6⟩:=hAt6.holds hH (s3.trans hds) hblk
           clear hcw hfw
           cases h87:(decide (a' > 0) && !ltInt (rd ltInt dk a' b' lim wb wp).pi.1[a' - 1]! (rd ltInt dk a' b' lim wb wp).pi.1[(rd ltInt dk a' b' lim wb wp).pivot]!)
           ·
            obtain⟨mid,ap,d4,hx⟩:∃ mid ap d4,partition ltInt (rd ltInt dk a' b' lim wb wp).pi.1 a' b' (rd ltInt dk a' b' lim wb wp).pivot=(mid,ap,d4):=⟨(partition ltInt (rd ltInt dk a' b' lim wb wp).pi.1 a' b' (rd ltInt dk a' b' lim wb wp).pivot).1,(partition ltInt (rd ltInt dk a' b' lim wb wp).pi.1 a' b' (rd ltInt dk a' b' lim wb wp).pivot).2.1,(partition ltInt (rd ltInt dk a' b' lim wb wp).pi.1 a' b' (rd ltInt dk a' b' lim wb wp).pivot).2.2,rfl⟩
            obtain⟨r1,r2,r3,r4,r5,r6,r7⟩:=round_part S.swo S.prt hpv.1 hpv.2 (show b'<=(rd ltInt dk a' b' lim wb wp).pi.1.size by omega) B3 hx
            have hc22:=C.prt zc off cap a' b' (rd ltInt dk a' b' lim wb wp).pivot (rd ltInt dk a' b' lim wb wp).pi.1 wc hH6 hpv.1 hpv.2 (by omega) (by omega)
            rw [s3,hds,hx] at hc22
            have X:Aside (partition ltInt (rd ltInt dk a' b' lim wb wp).pi.1 a' b' (rd ltInt dk a' b' lim wb wp).pivot=(mid,ap,d4)):=hx
            clear hx
            go_upto_if 113 with(go_at_call 78;refine hc22.mono ?_;rintro e w7 ⟨rfl,hw7⟩)
            have hx:=X.out
            have hAt7:At zg w zc off d4 w7:=hAt6.step hblk r3 hw7
            obtain⟨hH7,hblk7⟩:=hAt7.holds hH (r3.trans (s3.trans hds)) hblk
            by_cases h4:mid - a'<b' - mid
            ·have h4z:(mid:Int) - (a':Int)<(b':Int) - (mid:Int):=by omega
             have hih:=ih zc off cap a' mid (rd ltInt dk a' b' lim wb wp).lim d4 w7 (by omega) hH7 hblk7 (by omega) (by omega) (by omega) (Nat.lt_of_le_of_lt (Nat.le_trans rd_lim_le hlim) hlimit) r4
             rw [r3,s3,hds] at hih
             obtain⟨pL,sL⟩:=S.pdq S.swo d4 a' mid (rd ltInt dk a' b' lim wb wp).lim true true (by omega) (by omega) r4
             go_wp2_with (go_at_call 54;refine hih.mono ?_;rintro e w8 ⟨rfl,hw8⟩)
             go_roundg (b' - (mid+1))
             case measure=>omega
             case rel=>
              refine⟨mid+1,b',(rd ltInt dk a' b' lim wb wp).lim,decide (mid - a' ≥ (b' - a') / 8),ap,pdq ltInt d4 a' mid (rd ltInt dk a' b' lim wb wp).lim true true,by simp,rfl,rfl,?_,rfl,by omega,by omega,Nat.le_refl _,by omega,Nat.le_trans rd_lim_le hlim,by rw [pL.1,r3,s3,hds],(r6 _ pL sL).1,hAt7.stepG hblk pL.1 hw8,?_⟩
              ·exact congrArg Value.bool (eighth (by omega) (by omega))
              ·rw [<-A.out,pdq_left h12 hl0 hp2 h87 (by rw [hx];exact⟨r1,r2⟩) (by rw [hx];exact h4),hx]
            ·have h4z:¬((mid:Int) - (a':Int)<(b':Int) - (mid:Int)):=by omega
             have hih:=ih zc off cap (mid+1) b' (rd ltInt dk a' b' lim wb wp).lim d4 w7 (by omega) hH7 hblk7 (by omega) (by omega) (by omega) (Nat.lt_of_le_of_lt (Nat.le_trans rd_lim_le hlim) hlimit) r5
             rw [r3,s3,hds] at hih
             obtain⟨pL,sL⟩:=S.pdq S.swo d4 (mid+1) b' (rd ltInt dk a' b' lim wb wp).lim true true (by omega) (by omega) r5
             go_wp2_with (go_at_call 54;refine hih.mono ?_;rintro e w8 ⟨rfl,hw8⟩)
             go_roundg (mid - a')
             case measure=>omega
             case rel=>
              refine⟨a',mid,(rd ltInt dk a' b' lim wb wp).lim,decide (b' - mid ≥ (b' - a') / 8),ap,pdq ltInt d4 (mid+1) b' (rd ltInt dk a' b' lim wb wp).lim true true,rfl,rfl,rfl,?_,rfl,by omega,by omega,Nat.le_refl _,by omega,Nat.le_trans rd_lim_le hlim,by rw [pL.1,r3,s3,hds],(r7 _ pL sL).1,hAt7.stepG hblk pL.1 hw8,?_⟩
              ·exact congrArg Value.bool (eighth (by omega) (by omega))
              ·rw [<-A.out,pdq_right h12 hl0 hp2 h87 (by rw [hx];exact⟨r1,r2⟩) (by rw [hx];exact h4),hx]
           ·
            have h87':=h87
            simp only [Bool.and_eq_true,decide_eq_true_eq,Bool.not_eq_true'] at h87'
            obtain⟨mid,d4,hx⟩:∃ mid d4,partitionEqual ltInt (rd ltInt dk a' b' lim wb wp).pi.1 a' b' (rd ltInt dk a' b' lim wb wp).pivot=(mid,d4):=⟨(partitionEqual ltInt (rd ltInt dk a' b' lim wb wp).pi.1 a' b' (rd ltInt dk a' b' lim wb wp).pivot).1,(partitionEqual ltInt (rd ltInt dk a' b' lim wb wp).pi.1 a' b' (rd ltInt dk a' b' lim wb wp).pivot).2,rfl⟩
            obtain⟨r1,r2,r3,r4,_⟩:=round_eq S.swo S.peq h87'.1 hpv.1 hpv.2 (show b'<=(rd ltInt dk a' b' lim wb wp).pi.1.size by omega) B3 h87'.2 hx
            have hc21:=C.peq zc off cap a' b' (rd ltInt dk a' b' lim wb wp).pivot (rd ltInt dk a' b' lim wb wp).pi.1 wc hH6 hpv.1 hpv.2 (by omega) (by omega)
            rw [s3,hds,hx] at hc21
            have X:Aside (partitionEqual ltInt (rd ltInt dk a' b' lim wb wp).pi.1 a' b' (rd ltInt dk a' b' lim wb wp).pivot=(mid,d4)):=hx
            clear hx
            go_wp2_with (go_at_call 77;refine hc21.mono ?_;rintro e w7 ⟨rfl,hw7⟩)
            go_roundg (b' - mid)
            case measure=>omega
            case rel=>
             have hx:=X.out
             exact⟨mid,b',(rd ltInt dk a' b' lim wb wp).lim,wb,wp,d4,rfl,rfl,rfl,rfl,rfl,r2,hb',Nat.le_refl _,by omega,Nat.le_trans rd_lim_le hlim,by rw [r3,s3,hds],r4,hAt6.step hblk r3 hw7,by rw [<-A.out,pdq_eq h12 hl0 hp2 h87 (by rw [hx];exact⟨r1,r2⟩),hx]⟩
def VC:Prop:=∀(zc off cap a b limit:Nat) (d:Array Int) (w:World),Holds zg w zc off d->zc<w.heap.size->a<=b->b<=d.size->d.size<4611686018427387904->limit<4611686018427387904->Below ltInt a b d ->
 Calls Tryz.prog 54 #[.slice (some ⟨zc,off,none⟩) d.size cap,.int .i64 a,.int .i64 b,.int .i64 limit] w fun e w'=>
  e=.returned (.tuple #[])/\∃ n os,w'=grow (putRow zg (Sort.ahead w n) zc off (Sort.pdq ltInt d a b limit true true)) os
set_option maxRecDepth 100000 in
theorem VV (hpdq:VC) (zc off cap:Nat) (d:Array Int) (w:World) (hH:Holds zg w zc off d) (hblk:zc<w.heap.size) (hsz:d.size<4611686018427387904) :
 Calls Tryz.prog 32 #[.slice (some ⟨zc,off,none⟩) d.size cap] w fun e w'=>e=.returned (.tuple #[])/\∃ n os,w'=grow (putRow zg (Sort.ahead w n) zc off (Sort.sort ltInt d)) os:=by
 have HH:Hid (Holds zg w zc off d):=hH
 clear hH
 have hLen:∀ w,Calls Tryz.prog 55 #[.int .u64 (d.size:Int)] w fun e w'=>e=.returned (.int .i64 (bitsLen d.size:Nat))/\w'=w:=fun w=>by
  have h:=ZC (d.size:Int) w (by omega) (by omega)
  rwa [Int.toNat_natCast,bitLen_eq _ (by omega)] at h
 have hk:bitsLen d.size<=62:=(bitsLen_le_iff d.size 62).2 (by omega)
 go_enter Tryz.func32,Tryz.ntmps32
 go_wp2_with (first
  | (go_at_call 55;refine(hLen _).mono ?_;rintro e w' ⟨rfl,rfl⟩)
  | (go_at_call 54;refine(hpdq zc off cap 0 d.size (bitsLen d.size) d _ (by exact HH.out) (by exact hblk) (Nat.zero_le _) (Nat.le_refl _) hsz (by omega) (Or.inl rfl)).mono ?_;rintro e w' ⟨rfl,n,os,rfl⟩))
 go_end0
 exact⟨rfl,n,os,rfl⟩
theorem zmk:CalU where
 ins:=vV
 brk:=vU
 piv:=j6
 par:=yE
 peq:=yz
 prt:=xJ
theorem znh:PlnU where
 swo:=swo_ltInt
 ins:=insertionSort_holds
 par:=partialInsertionSort_holds
 prt:=partition_holds _
 peq:=partitionEqual_holds _
 pdq:=pdq_sorts _
theorem J5:VC:=fun zc off cap a b limit d w hH hb hab hbd hsz hl hB=>
 QJ zmk znh (b - a+1) zc off cap a b limit d w (by omega) hH hb hab hbd hsz hl hB
theorem Xx (zs:List Int):Sort.sort ltInt zs.toArray=(zs.mergeSort fun x y=>decide (x<=y)).toArray:=by
 rw [<-sortInt zs]
theorem j7 (zc off cap:Nat) (zs:List Int) (w:World) (hH:Holds zg w zc off zs.toArray) (hblk:zc<w.heap.size) (hsz:zs.length<4611686018427387904) :
 Calls Tryz.prog 32 #[.slice (some ⟨zc,off,none⟩) zs.length cap] w fun e w'=>
  e=.returned (.tuple #[])/\∃ n os,w'=grow (putRow zg (Sort.ahead w n) zc off (zs.mergeSort fun x y=>decide (x<=y)).toArray) os:=by
 have h:=VV J5 zc off cap zs.toArray w hH hblk (by simpa using hsz)
 rw [Xx] at h
 simpa using h
end Go.Proofs.YtopfkkogooocgaaGreat
