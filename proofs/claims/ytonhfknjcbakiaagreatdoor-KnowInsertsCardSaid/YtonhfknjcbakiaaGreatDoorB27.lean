import Derived.Sort.Walk11
import Derived.Sort.Walk13
import Derived.Sort.WalkA14
import Derived.Sort.AssemblyPlain
import Derived.Test.YtonhfknjcbakiaaGreatDoorB26
set_option maxHeartbeats 16000000
set_option linter.unusedVariables false
set_option linter.unusedSimpArgs false
namespace Go.Proofs.YtonhfknjcbakiaaGreatDoor
open Go.RowKit Go.Sort
theorem Y2 (w:World) (N S:Nat):∃ os,putRow (Value.int .i64) (Sort.ahead (w.alloc (.cells #[.int .i64 0] 3)) N) w.heap.size 0 (one S)=grow (Sort.ahead w N) os:=by
 rw [alloc_eq_grow,ahead_grow]
 obtain⟨os,_,h⟩:=putRow_grow_new (Value.int .i64) (Sort.ahead w N) #[.cells #[.int .i64 0] 3] w.heap.size 0 (one S) (Nat.le_refl _)
 exact⟨os,h⟩
theorem ZI (zc a u:Nat) (d:Array Int) (w:World) (O:Holds zg w zc a d) (F:zc<w.heap.size) (Q:d.size<4611686018427387904) :
 ∃ C:Nat->Nat->World,
  w.alloc (.cells #[.int .i64 0] 3)=C 0 0 /\
  (∀ N S:Nat,(C N S).cell? ⟨w.heap.size,0,none⟩=some (.int .i64 (S:Int))) /\
  (∀ N S:Nat,∃ os,C N S=grow (Sort.ahead w N) os) /\
  (∀ x s N:Nat,1<=x->x+1<d.size->s+3<4611686018427387904->Calls Tryz.prog 235 #[.slice (some ⟨zc,a,none⟩) d.size u,.int .i64 (x:Int),.pointer (some ⟨w.heap.size,0,none⟩)] (C N s) fun e G=>
    e=.returned (.int .i64 ((medianAdjacent ltInt d x s).1:Int))/\∃ H,G=C H (medianAdjacent ltInt d x s).2) /\
  (∀ x y z s N:Nat,x<d.size->y<d.size->z<d.size->s+3<4611686018427387904->Calls Tryz.prog 236 #[.slice (some ⟨zc,a,none⟩) d.size u,.int .i64 (x:Int),.int .i64 (y:Int),.int .i64 (z:Int),.pointer (some ⟨w.heap.size,0,none⟩)] (C N s) fun e G=>
    e=.returned (.int .i64 ((median ltInt d x y z s).1:Int))/\∃ H,G=C H (median ltInt d x y z s).2):=by
 have B:w.heap.size≠zc:=by omega
 have E:Holds zg (w.alloc (.cells #[.int .i64 0] 3)) zc a d:=by rw [alloc_eq_grow];exact holds_grow _ _ _ _ _ _ F O
 have A:Holds (Value.int .i64) (w.alloc (.cells #[.int .i64 0] 3)) w.heap.size 0 (one 0):=fun j P=>by
  obtain rfl:j=0:=by simpa using P
  simp
 refine⟨fun N S=>putRow (Value.int .i64) (Sort.ahead (w.alloc (.cells #[.int .i64 0] 3)) N) w.heap.size 0 (one S),(putRow_self _ _ _ _ _ A).symm,fun N S=>(one_cell (holds_one (n:=N) (t:=S) A)).1,fun N S=>Y2 w N S,?_,?_⟩
 ·intro x s N I J hs
  refine(vf d _ rfl zc a u x w.heap.size 0 s _ (qR E B) I J (by omega) B (holds_one A) (by omega)).mono ?_
  rintro e G ⟨K,n,L⟩
  exact⟨K,N+n,by rw [L,one_one]⟩
 ·intro x y z s N I J M hs
  refine(jH d _ rfl zc a u x y z w.heap.size 0 s _ (qR E B) I J M B (holds_one A) (by omega)).mono ?_
  rintro e G ⟨K,n,L⟩
  exact⟨K,N+n,by rw [L,one_one]⟩
set_option maxRecDepth 100000 in
theorem j6 (zc E F a b:Nat) (d:Array Int) (w:World) (hH:Holds zg w zc E d) (ad:zc<w.heap.size) (ag:a<b) (hb:b<=d.size) (ae:d.size<4611686018427387904) :
 Calls Tryz.prog 221 #[.slice (some ⟨zc,E,none⟩) d.size F,.int .i64 a,.int .i64 b] w fun e y=>
  e=.returned (.tuple #[.int .i64 (choosePivot ltInt d a b).1,.int .i64 (hintCode (choosePivot ltInt d a b).2)])/\∃ n os,y=grow (Sort.ahead w n) os:=by
 obtain⟨G,ac,cS,hG,T,MD⟩:=ZI zc E F d w hH ad ae
 clear hH
 rw [choosePivot_eq]
 obtain⟨I,hI⟩:∃ I:Nat,I=a+(b - a) / 4 * 1:=⟨_,rfl⟩
 obtain⟨J,U⟩:∃ J:Nat,J=a+(b - a) / 4 * 2:=⟨_,rfl⟩
 obtain⟨K,hK⟩:∃ K:Nat,K=a+(b - a) / 4 * 3:=⟨_,rfl⟩
 have eI:((a:Int)+((b:Int) - (a:Int)) / 4)=(I:Int):=by omega
 have eJ:((a:Int)+((b:Int) - (a:Int)) / 4 * 2)=(J:Int):=by omega
 have eK:((a:Int)+((b:Int) - (a:Int)) / 4 * 3)=(K:Int):=by omega
 by_cases h8:b - a ≥ 8
 ·by_cases ab:b - a ≥ 50
  ·
   obtain⟨V,P,H⟩:∃ V P,medianAdjacent ltInt d I 0=(V,P):=⟨_,_,rfl⟩
   obtain⟨X,Q,L⟩:∃ X Q,medianAdjacent ltInt d J P=(X,Q):=⟨_,_,rfl⟩
   obtain⟨Y,Z,h3⟩:∃ Y Z,medianAdjacent ltInt d K Q=(Y,Z):=⟨_,_,rfl⟩
   obtain⟨p,s,S⟩:∃ p s,median ltInt d V X Y Z=(p,s):=⟨_,_,rfl⟩
   have u:rawPivot ltInt d a b=(p,s):=by simp only [rawPivot,if_pos h8,if_pos ab,<-hI,<-U,<-hK,H,L,h3,S]
   have m1:=medianAdjacent_mem ltInt d I 0;rw [H] at m1
   have m2:=medianAdjacent_mem ltInt d J P;rw [L] at m2
   have m3:=medianAdjacent_mem ltInt d K Q;rw [h3] at m3
   have n1:=medianAdjacent_count ltInt d I 0;rw [H] at n1
   have n2:=medianAdjacent_count ltInt d J P;rw [L] at n2
   have n3:=medianAdjacent_count ltInt d K Q;rw [h3] at n3
   simp only [] at m1 m2 m3 n1 n2 n3
   have c1:Calls Tryz.prog 235 #[.slice (some ⟨zc,E,none⟩) d.size F,.int .i64 (I:Int),.pointer (some ⟨w.heap.size,0,none⟩)] (G 0 0) fun e y=>e=.returned (.int .i64 (V:Int))/\∃ O,y=G O P:=by
    have h:=T I 0 0 (by omega) (by omega) (by omega);rw [H] at h;exact h
   have c2:∀ N,Calls Tryz.prog 235 #[.slice (some ⟨zc,E,none⟩) d.size F,.int .i64 (J:Int),.pointer (some ⟨w.heap.size,0,none⟩)] (G N P) fun e y=>e=.returned (.int .i64 (X:Int))/\∃ O,y=G O Q:=fun N=>by
    have h:=T J P N (by omega) (by omega) (by omega);rw [L] at h;exact h
   have c3:∀ N,Calls Tryz.prog 235 #[.slice (some ⟨zc,E,none⟩) d.size F,.int .i64 (K:Int),.pointer (some ⟨w.heap.size,0,none⟩)] (G N Q) fun e y=>e=.returned (.int .i64 (Y:Int))/\∃ O,y=G O Z:=fun N=>by
    have h:=T K Q N (by omega) (by omega) (by omega);rw [h3] at h;exact h
   have c4:∀ N,Calls Tryz.prog 236 #[.slice (some ⟨zc,E,none⟩) d.size F,.int .i64 (V:Int),.int .i64 (X:Int),.int .i64 (Y:Int),.pointer (some ⟨w.heap.size,0,none⟩)] (G N Z) fun e y=>e=.returned (.int .i64 (p:Int))/\∃ O,y=G O s:=fun N=>by
    have h:=MD V X Y Z N (by omega) (by omega) (by omega) (by omega);rw [S] at h;exact h
   rw [u]
   obtain⟨A,j⟩:∃ A:Int,A=hintCode (hintOf s):=⟨_,rfl⟩
   have B:s=0->A=1:=fun h=>by rw [j,h];rfl
   have C:s=12->A=2:=fun h=>by rw [j,h];rfl
   have M:s≠0->s≠12->A=0:=fun H L=>by rw [j];unfold hintOf;rw [if_neg H,if_neg L];rfl
   show Calls Tryz.prog 221 _ w fun e y=>e=.returned (.tuple #[.int .i64 (p:Int),.int .i64 (hintCode (hintOf s))])/\∃ n os,y=grow (Sort.ahead w n) os
   rw [<-j]
   clear j u
   clear H L h3 S T MD hI U hK m1 m2 m3
   go_enter Tryz.func221,Tryz.ntmps221
   go_wp2_with (first
    | (go_at_call_has 235 (Value.int .i64 (I:Int));refine c1.mono ?_;rintro e y ⟨rfl,N1,rfl⟩)
    | (go_at_call_has 235 (Value.int .i64 (J:Int));refine(c2 _).mono ?_;rintro e y ⟨rfl,N2,rfl⟩)
    | (go_at_call_has 235 (Value.int .i64 (K:Int));refine(c3 _).mono ?_;rintro e y ⟨rfl,N3,rfl⟩)
    | (go_at_call 236;refine(c4 _).mono ?_;rintro e y ⟨rfl,N4,rfl⟩))
   all_goals
    go_ret2
    refine⟨?_,_,hG _ _⟩
    first
     | (have e0:(s:Int)=0:=of_beq_int (by assumption)
        rw [B (by omega)];rfl)
     | (have e1:(s:Int)=12:=of_beq_int (by assumption)
        rw [C (by omega)];rfl)
     | (have e0:(s:Int)≠0:=of_bne_int (by assumption)
        have e1:(s:Int)≠12:=of_bne_int (by assumption)
        rw [M (by omega) (by omega)];rfl)
     | (rw [B (by omega)];rfl)
  ·
   obtain⟨p,s,S⟩:∃ p s,median ltInt d I J K 0=(p,s):=⟨_,_,rfl⟩
   have u:rawPivot ltInt d a b=(p,s):=by simp only [rawPivot,if_pos h8,if_neg ab,<-hI,<-U,<-hK,S]
   have c4:Calls Tryz.prog 236 #[.slice (some ⟨zc,E,none⟩) d.size F,.int .i64 (I:Int),.int .i64 (J:Int),.int .i64 (K:Int),.pointer (some ⟨w.heap.size,0,none⟩)] (G 0 0) fun e y=>e=.returned (.int .i64 (p:Int))/\∃ O,y=G O s:=by
    have h:=MD I J K 0 0 (by omega) (by omega) (by omega) (by omega);rw [S] at h;exact h
   rw [u]
   obtain⟨A,j⟩:∃ A:Int,A=hintCode (hintOf s):=⟨_,rfl⟩
   have B:s=0->A=1:=fun h=>by rw [j,h];rfl
   have C:s=12->A=2:=fun h=>by rw [j,h];rfl
   have M:s≠0->s≠12->A=0:=fun H L=>by rw [j];unfold hintOf;rw [if_neg H,if_neg L];rfl
   show Calls Tryz.prog 221 _ w fun e y=>e=.returned (.tuple #[.int .i64 (p:Int),.int .i64 (hintCode (hintOf s))])/\∃ n os,y=grow (Sort.ahead w n) os
   rw [<-j]
   clear j u
   clear S T MD hI U hK
   go_enter Tryz.func221,Tryz.ntmps221
   go_wp2_with (first | (go_at_call 236;refine c4.mono ?_;rintro e y ⟨rfl,N4,rfl⟩))
   all_goals
    go_ret2
    refine⟨?_,_,hG _ _⟩
    first
     | (have e0:(s:Int)=0:=of_beq_int (by assumption)
        rw [B (by omega)];rfl)
     | (have e1:(s:Int)=12:=of_beq_int (by assumption)
        rw [C (by omega)];rfl)
     | (have e0:(s:Int)≠0:=of_bne_int (by assumption)
        have e1:(s:Int)≠12:=of_bne_int (by assumption)
        rw [M (by omega) (by omega)];rfl)
     | (rw [B (by omega)];rfl)
 ·
  obtain⟨p,hp⟩:∃ p:Nat,p=J:=⟨_,rfl⟩
  obtain⟨s,hs⟩:∃ s:Nat,s=0:=⟨_,rfl⟩
  have u:rawPivot ltInt d a b=(p,s):=by simp only [rawPivot,if_neg h8,<-U,hp,hs]
  rw [u]
  obtain⟨A,j⟩:∃ A:Int,A=hintCode (hintOf s):=⟨_,rfl⟩
  have B:s=0->A=1:=fun h=>by rw [j,h];rfl
  have C:s=12->A=2:=fun h=>by rw [j,h];rfl
  have M:s≠0->s≠12->A=0:=fun H L=>by rw [j];unfold hintOf;rw [if_neg H,if_neg L];rfl
  show Calls Tryz.prog 221 _ w fun e y=>e=.returned (.tuple #[.int .i64 (p:Int),.int .i64 (hintCode (hintOf s))])/\∃ n os,y=grow (Sort.ahead w n) os
  rw [<-j]
  clear j u
  subst hp
  clear T MD hI U hK
  have af:w.alloc (.cells #[.int .i64 0] 3)=G 0 s:=by rw [hs];exact ac
  clear ac
  go_enter Tryz.func221,Tryz.ntmps221
  go_wp2
  all_goals
   go_ret2
   refine⟨?_,_,hG _ _⟩
   first
    | (have e0:(s:Int)=0:=of_beq_int (by assumption)
       rw [B (by omega)];rfl)
    | (have e1:(s:Int)=12:=of_beq_int (by assumption)
       rw [C (by omega)];rfl)
    | (have e0:(s:Int)≠0:=of_bne_int (by assumption)
       have e1:(s:Int)≠12:=of_bne_int (by assumption)
       rw [M (by omega) (by omega)];rfl)
    | (rw [B (by omega)];rfl)
structure CalU:Prop where
 ins:∀(zc off cap a b:Nat) (d:Array Int) (w:World),Holds zg w zc off d->a<=b->b<=d.size->d.size<4611686018427387904 ->
  Calls Tryz.prog 218 #[.slice (some ⟨zc,off,none⟩) d.size cap,.int .i64 a,.int .i64 b] w fun e w'=>e=.returned (.tuple #[])/\∃ n,w'=putRow zg (Sort.ahead w n) zc off (insertionSort ltInt d a b)
 brk:∀(zc off cap a b:Nat) (d:Array Int) (w:World),Holds zg w zc off d->zc<w.heap.size->a<=b->b<=d.size->d.size<4611686018427387904 ->
  Calls Tryz.prog 220 #[.slice (some ⟨zc,off,none⟩) d.size cap,.int .i64 a,.int .i64 b] w fun e w'=>e=.returned (.tuple #[])/\∃ n os,w'=grow (putRow zg (Sort.ahead w n) zc off (breakPatterns d a b)) os
 piv:∀(zc off cap a b:Nat) (d:Array Int) (w:World),Holds zg w zc off d->zc<w.heap.size->a<b->b<=d.size->d.size<4611686018427387904 ->
  Calls Tryz.prog 221 #[.slice (some ⟨zc,off,none⟩) d.size cap,.int .i64 a,.int .i64 b] w fun e w'=>e=.returned (.tuple #[.int .i64 (choosePivot ltInt d a b).1,.int .i64 (hintCode (choosePivot ltInt d a b).2)])/\∃ n os,w'=grow (Sort.ahead w n) os
 par:∀(zc off cap a b:Nat) (d:Array Int) (w:World),Holds zg w zc off d->a<b->b<=d.size->d.size<4611686018427387904 ->
  Calls Tryz.prog 223 #[.slice (some ⟨zc,off,none⟩) d.size cap,.int .i64 a,.int .i64 b] w fun e w'=>e=.returned (.bool (partialInsertionSort ltInt d a b).2)/\∃ n,w'=putRow zg (Sort.ahead w n) zc off (partialInsertionSort ltInt d a b).1
 peq:∀(zc off cap a b pivot:Nat) (d:Array Int) (w:World),Holds zg w zc off d->a<=pivot->pivot<b->b<=d.size->d.size<4611686018427387904 ->
  Calls Tryz.prog 224 #[.slice (some ⟨zc,off,none⟩) d.size cap,.int .i64 a,.int .i64 b,.int .i64 pivot] w fun e w'=>e=.returned (.int .i64 (partitionEqual ltInt d a b pivot).1)/\∃ n,w'=putRow zg (Sort.ahead w n) zc off (partitionEqual ltInt d a b pivot).2
 prt:∀(zc off cap a b pivot:Nat) (d:Array Int) (w:World),Holds zg w zc off d->a<=pivot->pivot<b->b<=d.size->d.size<4611686018427387904 ->
  Calls Tryz.prog 225 #[.slice (some ⟨zc,off,none⟩) d.size cap,.int .i64 a,.int .i64 b,.int .i64 pivot] w fun e w'=>e=.returned (.tuple #[.int .i64 (partition ltInt d a b pivot).1,.bool (partition ltInt d a b pivot).2.1])/\∃ n,w'=putRow zg (Sort.ahead w n) zc off (partition ltInt d a b pivot).2.2
structure PlnU:Prop where
 swo:SWO ltInt
 ins:insertionSort_stmt ltInt
 par:partialInsertionSort_stmt ltInt
 prt:partition_stmt ltInt
 peq:partitionEqual_stmt ltInt
 pdq:pdq_stmt ltInt
set_option maxRecDepth 1000000 in
theorem QJ (C:CalU) (S:PlnU):∀(N zc I L a b K:Nat) (d:Array Int) (w:World),b - a<N->Holds zg w zc I d->zc<w.heap.size->a<=b->b<=d.size->d.size<4611686018427387904->K<4611686018427387904->Below ltInt a b d ->
 Calls Tryz.prog 211 #[.slice (some ⟨zc,I,none⟩) d.size L,.int .i64 a,.int .i64 b,.int .i64 K] w fun e w'=>e=.returned (.tuple #[])/\At zg w zc I (pdq ltInt d a b K true true) w':=by
 intro N
 induction N with
 | zero=>intro _ _ _ _ _ _ _ _ h;exact absurd h (Nat.not_lt_zero _)
 | succ N ih=>
   intro zc I L a b K d w hN hH G aV hb bn Z az
   go_enter Tryz.func211,Tryz.ntmps211
   go_wp2
   go_loopg [1,2,3,8,9] (b - a) (fun k s1 s2 T s8 s9 wr=>∃(u y j:Nat) (E F:Bool) (B:Array Int),s1=.int .i64 u/\s2=.int .i64 y/\T=.int .i64 j/\s8=.bool E/\s9=.bool F /\
    u<=y/\y<=d.size/\y - u<=k/\k<=b - a/\j<=K/\B.size=d.size/\Below ltInt u y B/\At zg w zc I B wr/\pdq ltInt B u y j E F=pdq ltInt d a b K true true)
   case atStart=>exact⟨a,b,K,true,true,d,rfl,rfl,rfl,rfl,rfl,aV,hb,Nat.le_refl _,Nat.le_refl _,Nat.le_refl _,rfl,az,At.refl hH,rfl⟩
   case round=>
    obtain⟨u,y,j,E,F,B,rfl,rfl,rfl,rfl,rfl,M,aW,hk,bm,P,J,aJ,ae,aP⟩:=hrel
    obtain⟨aA,aC⟩:=ae.holds hH J G
    have A:Aside (pdq ltInt B u y j E F=pdq ltInt d a b K true true):=aP
    clear aP
    by_cases ac:y - u<=12
    ·
     have aI:(y:Int) - (u:Int)<=12:=by omega
     have hc:=C.ins zc I L u y B wr aA M (by omega) (by omega)
     rw [J] at hc
     go_wp2_with (go_at_call 218;refine hc.mono ?_;rintro e w1 ⟨rfl,an⟩)
     (try simp only [Exit.inBlock,Exit.then]);refine bodyPost_ret (results_none rfl _ _ _) rfl ?_
     refine⟨rfl,?_⟩
     rw [<-A.out,pdq_small ac]
     exact ae.step G (S.ins S.swo B u y M (by omega)).1.1 an
    ·have aI:¬((y:Int) - (u:Int)<=12):=by omega
     by_cases am:j=0
     ·
      subst am
      have hc:=ZK zc I d.size L B J u y wr aA M (by omega) (by omega)
      go_wp2_with (go_at_call 219;refine hc.mono ?_;rintro e w1 ⟨rfl,an⟩)
      (try simp only [Exit.inBlock,Exit.then]);refine bodyPost_ret (results_none rfl _ _ _) rfl ?_
      refine⟨rfl,?_⟩
      rw [<-A.out,pdq_heap ac rfl]
      exact ae.step G (heapSort_holds S.swo B u y M (by omega)).1.1 an
     ·have bj:¬((j:Int)=0):=by omega
      obtain⟨s1,B1,bl,s2,B2,Q,T,B3⟩:=rd_facts (limit:=j) (wb:=E) (wp:=F) S.swo S.par reverseRange_holds (show u<y by omega) (show y<=B.size by omega) aJ
      go_upto_if 35 with fail
      go_cut [3] from 19 (fun T wc=>T=.int .i64 (rd ltInt B u y j E F).lim/\At zg w zc I (rd ltInt B u y j E F).d1 wc)
      case first=>
       cases E
       ·have hc:=C.brk zc I L u y B wr aA aC M (by omega) (by omega)
        rw [J] at hc
        go_wp2_with (go_at_call 220;refine hc.mono ?_;rintro e w1 ⟨rfl,an⟩)
        go_meet
        case rel=>
         refine⟨?_,ae.stepG G s1 an⟩
         show Value.int .i64 ((j:Int) - 1)=Value.int .i64 ((j - 1:Nat):Int)
         congr 1
         omega
       ·go_wp2_with fail
        go_meet
        case rel=>exact⟨rfl,ae⟩
      case rest=>
       obtain⟨rfl,aq⟩:=hcut
       obtain⟨aS,aD⟩:=aq.holds hH (s1.trans J) G
       have aO:Calls Tryz.prog 221 #[.slice (some ⟨zc,I,none⟩) d.size L,.int .i64 u,.int .i64 y] wc fun e w'=>e=.returned (.tuple #[.int .i64 (rd ltInt B u y j E F).c.1,.int .i64 (hintCode (rd ltInt B u y j E F).c.2)])/\∃ n os,w'=grow (Sort.ahead wc n) os:=by
        have:=C.piv zc I L u y (rd ltInt B u y j E F).d1 wc aS aD (by omega) (by omega) (by omega)
        rw [s1,J] at this
        exact this
       go_upto_if 50 with(go_at_call 221;refine aO.mono ?_;rintro e w2 ⟨rfl,be⟩)
       have af:At zg w zc I (rd ltInt B u y j E F).d1 w2:=aq.same hH (s1.trans J) G be
       obtain⟨aT,aX⟩:=af.holds hH (s1.trans J) G
       go_cut [11,12] from 19 (fun bg aH wc=>bg=.int .i64 (rd ltInt B u y j E F).pivot/\aH=.int .i64 (hintCode (rd ltInt B u y j E F).hint)/\At zg w zc I (rd ltInt B u y j E F).d2 wc)
       case first=>
        by_cases hh:(rd ltInt B u y j E F).c.2=.decreasing
        ·have aE:hintCode (rd ltInt B u y j E F).c.2=2:=by rw [hh];rfl
         obtain⟨e2,ay,ax⟩:=rd_dec hh
         have ar:=jB zc I L (rd ltInt B u y j E F).d1 u y w2 aT M (by omega) (by omega)
         rw [s1,J] at ar
         go_wp2_with (go_at_call 222;refine ar.mono ?_;rintro e w3 ⟨rfl,bf⟩)
         go_meet
         case rel=>
          refine⟨?_,by rw [ax];rfl,by rw [e2];exact af.step G (by rw [<-e2,s2,s1]) bf⟩
          rw [ay]
          congr 1
          omega
        ·have aE:¬(hintCode (rd ltInt B u y j E F).c.2=2):=fun h=>hh (hintCode_two h)
         obtain⟨e2,ay,ax⟩:=rd_not hh
         go_wp2_with fail
         go_meet
         case rel=>exact⟨by rw [ay],by rw [ax],by rw [e2];exact af⟩
       case rest=>
        obtain⟨rfl,rfl,Y⟩:=hcut
        obtain⟨aU,aY⟩:=Y.holds hH (s2.trans J) G
        go_upto_region 15 with fail
        go_cut [12,68] from 19 (fun aH bh wx=>aH=.int .i64 (hintCode (rd ltInt B u y j E F).hint)/\bh=.bool (E && F && decide ((rd ltInt B u y j E F).hint=.increasing))/\wx=wc)
        case first=>
         cases E<;>cases F<;>cases hh3:(rd ltInt B u y j _ _).hint <;>
          (have ao:=congrArg hintCode hh3
           simp only [hintCode] at ao
           go_wp2_with fail
           go_meet
           exact⟨by simp [hh3,hintCode],by simp [hh3,hintCode],rfl⟩)
        case rest=>
         obtain⟨rfl,rfl,rfl⟩:=hcut
         go_upto_if 68 with fail
         go_cut [] from 19 (fun wx=>(rd ltInt B u y j E F).pi.2=false/\At zg w zc I (rd ltInt B u y j E F).pi.1 wx)
         case first=>
          cases h68:(E && F && decide ((rd ltInt B u y j E F).hint=.increasing))
          ·have ab:=rd_pi_no h68
           go_wp2_with fail
           go_meet
           case rel=>exact⟨by rw [ab],by rw [ab];exact Y⟩
          ·have ab:=rd_pi_yes h68
           have au:=C.par zc I L u y (rd ltInt B u y j E F).d2 wc aU (by omega) (by omega) (by omega)
           rw [s2,J,<-ab] at au
           go_wp2_with (go_at_call 223;refine au.mono ?_;rintro e w4 ⟨rfl,aQ⟩)
           all_goals first
            | (have V:(rd ltInt B u y j E F).pi.2=false:=by rw [ab];assumption
               go_meet
               exact⟨V,Y.step G (by rw [T,s2]) aQ⟩)
            | (have V:(rd ltInt B u y j E F).pi.2=true:=by rw [ab];assumption
               (try simp only [Exit.inBlock,Exit.then]);refine bodyPost_ret (results_none rfl _ _ _) rfl ?_
               refine⟨rfl,?_⟩
               rw [<-A.out,pdq_done ac am V]
               exact Y.step G (by rw [T,s2]) aQ)
         case rest=>
          obtain⟨V,ag⟩:=hcut
          obtain⟨aK,aZ⟩:=ag.holds hH (T.trans J) G
          have bb:∀ t,t<d.size->wc.cell? ⟨zc,I+t,none⟩=some (.int .u64 (rd ltInt B u y j E F).pi.1[t]!):=fun t ht=>(aK t (by omega)).1
          have bc:∀ t,t<d.size->wc.frozen? ⟨zc,I+t,none⟩=false:=fun t ht=>(aK t (by omega)).2
          go_upto_region 17 with fail
          go_cut [87] from 19 (fun bi wx=>bi=.bool (decide (u > 0) && !ltInt (rd ltInt B u y j E F).pi.1[u - 1]! (rd ltInt B u y j E F).pi.1[(rd ltInt B u y j E F).pivot]!)/\At zg w zc I (rd ltInt B u y j E F).pi.1 wx)
          case first=>
           rcases Nat.eq_zero_or_pos u with aB | aB
           ·have aN:decide ((u:Int) > 0)=false:=decide_eq_false (by omega)
            go_big_quiet (first | (go_at_call 207;refine Calls.quiet_of_same (so_cmp_Less_int _ _ _)))
            go_wp2_with fail
            go_meet
            case rel=>exact⟨by simp [aB],ag.ahead nq⟩
           ·have aN:(u:Int) > 0:=by omega
            go_big_quiet (first | (go_at_call 207;refine Calls.quiet_of_same (so_cmp_Less_int _ _ _)))
            go_wp2_with fail
            go_meet
            case rel=>exact⟨by simp [aB],ag.ahead nq⟩
          case rest=>
           obtain⟨rfl,ah⟩:=hcut
           obtain⟨aL,ba⟩:=ah.holds hH (T.trans J) G
           clear bb bc
           cases h87:(decide (u > 0) && !ltInt (rd ltInt B u y j E F).pi.1[u - 1]! (rd ltInt B u y j E F).pi.1[(rd ltInt B u y j E F).pivot]!)
           ·
            obtain⟨H,ap,U,O⟩:∃ H ap U,partition ltInt (rd ltInt B u y j E F).pi.1 u y (rd ltInt B u y j E F).pivot=(H,ap,U):=⟨(partition ltInt (rd ltInt B u y j E F).pi.1 u y (rd ltInt B u y j E F).pivot).1,(partition ltInt (rd ltInt B u y j E F).pi.1 u y (rd ltInt B u y j E F).pivot).2.1,(partition ltInt (rd ltInt B u y j E F).pi.1 u y (rd ltInt B u y j E F).pivot).2.2,rfl⟩
            obtain⟨r1,r2,r3,r4,r5,r6,r7⟩:=round_part S.swo S.prt Q.1 Q.2 (show y<=(rd ltInt B u y j E F).pi.1.size by omega) B3 O
            have aw:=C.prt zc I L u y (rd ltInt B u y j E F).pivot (rd ltInt B u y j E F).pi.1 wc aL Q.1 Q.2 (by omega) (by omega)
            rw [T,J,O] at aw
            have X:Aside (partition ltInt (rd ltInt B u y j E F).pi.1 u y (rd ltInt B u y j E F).pivot=(H,ap,U)):=O
            clear O
            go_upto_if 113 with(go_at_call 225;refine aw.mono ?_;rintro e w7 ⟨rfl,aF⟩)
            have O:=X.out
            have ai:At zg w zc I U w7:=ah.step G r3 aF
            obtain⟨aM,aj⟩:=ai.holds hH (r3.trans (T.trans J)) G
            by_cases h4:H - u<y - H
            ·have aR:(H:Int) - (u:Int)<(y:Int) - (H:Int):=by omega
             have ak:=ih zc I L u H (rd ltInt B u y j E F).lim U w7 (by omega) aM aj (by omega) (by omega) (by omega) (Nat.lt_of_le_of_lt (Nat.le_trans rd_lim_le P) Z) r4
             rw [r3,T,J] at ak
             obtain⟨pL,sL⟩:=S.pdq S.swo U u H (rd ltInt B u y j E F).lim true true (by omega) (by omega) r4
             go_wp2_with (go_at_call 211;refine ak.mono ?_;rintro e w8 ⟨rfl,aG⟩)
             go_roundg (y - (H+1))
             case measure=>omega
             case rel=>
              refine⟨H+1,y,(rd ltInt B u y j E F).lim,decide (H - u ≥ (y - u) / 8),ap,pdq ltInt U u H (rd ltInt B u y j E F).lim true true,by simp,rfl,rfl,?_,rfl,by omega,by omega,Nat.le_refl _,by omega,Nat.le_trans rd_lim_le P,by rw [pL.1,r3,T,J],(r6 _ pL sL).1,ai.stepG G pL.1 aG,?_⟩
              ·exact congrArg Value.bool (eighth (by omega) (by omega))
              ·rw [<-A.out,pdq_left ac am V h87 (by rw [O];exact⟨r1,r2⟩) (by rw [O];exact h4),O]
            ·have aR:¬((H:Int) - (u:Int)<(y:Int) - (H:Int)):=by omega
             have ak:=ih zc I L (H+1) y (rd ltInt B u y j E F).lim U w7 (by omega) aM aj (by omega) (by omega) (by omega) (Nat.lt_of_le_of_lt (Nat.le_trans rd_lim_le P) Z) r5
             rw [r3,T,J] at ak
             obtain⟨pL,sL⟩:=S.pdq S.swo U (H+1) y (rd ltInt B u y j E F).lim true true (by omega) (by omega) r5
             go_wp2_with (go_at_call 211;refine ak.mono ?_;rintro e w8 ⟨rfl,aG⟩)
             go_roundg (H - u)
             case measure=>omega
             case rel=>
              refine⟨u,H,(rd ltInt B u y j E F).lim,decide (y - H ≥ (y - u) / 8),ap,pdq ltInt U (H+1) y (rd ltInt B u y j E F).lim true true,rfl,rfl,rfl,?_,rfl,by omega,by omega,Nat.le_refl _,by omega,Nat.le_trans rd_lim_le P,by rw [pL.1,r3,T,J],(r7 _ pL sL).1,ai.stepG G pL.1 aG,?_⟩
              ·exact congrArg Value.bool (eighth (by omega) (by omega))
              ·rw [<-A.out,pdq_right ac am V h87 (by rw [O];exact⟨r1,r2⟩) (by rw [O];exact h4),O]
           ·
            have ad:=h87
            simp only [Bool.and_eq_true,decide_eq_true_eq,Bool.not_eq_true'] at ad
            obtain⟨H,U,O⟩:∃ H U,partitionEqual ltInt (rd ltInt B u y j E F).pi.1 u y (rd ltInt B u y j E F).pivot=(H,U):=⟨(partitionEqual ltInt (rd ltInt B u y j E F).pi.1 u y (rd ltInt B u y j E F).pivot).1,(partitionEqual ltInt (rd ltInt B u y j E F).pi.1 u y (rd ltInt B u y j E F).pivot).2,rfl⟩
            obtain⟨r1,r2,r3,r4,_⟩:=round_eq S.swo S.peq ad.1 Q.1 Q.2 (show y<=(rd ltInt B u y j E F).pi.1.size by omega) B3 ad.2 O
            have av:=C.peq zc I L u y (rd ltInt B u y j E F).pivot (rd ltInt B u y j E F).pi.1 wc aL Q.1 Q.2 (by omega) (by omega)
            rw [T,J,O] at av
            have X:Aside (partitionEqual ltInt (rd ltInt B u y j E F).pi.1 u y (rd ltInt B u y j E F).pivot=(H,U)):=O
            clear O
            go_wp2_with (go_at_call 224;refine av.mono ?_;rintro e w7 ⟨rfl,aF⟩)
            go_roundg (y - H)
            case measure=>omega
            case rel=>
             have O:=X.out
             exact⟨H,y,(rd ltInt B u y j E F).lim,E,F,U,rfl,rfl,rfl,rfl,rfl,r2,aW,Nat.le_refl _,by omega,Nat.le_trans rd_lim_le P,by rw [r3,T,J],r4,ah.step G r3 aF,by rw [<-A.out,pdq_eq ac am V h87 (by rw [O];exact⟨r1,r2⟩),O]⟩
def VC:Prop:=∀(zc u y a b j:Nat) (d:Array Int) (w:World),Holds zg w zc u d->zc<w.heap.size->a<=b->b<=d.size->d.size<4611686018427387904->j<4611686018427387904->Below ltInt a b d ->
 Calls Tryz.prog 211 #[.slice (some ⟨zc,u,none⟩) d.size y,.int .i64 a,.int .i64 b,.int .i64 j] w fun e A=>
  e=.returned (.tuple #[])/\∃ n os,A=grow (putRow zg (Sort.ahead w n) zc u (Sort.pdq ltInt d a b j true true)) os
set_option maxRecDepth 100000 in
theorem VV (A:VC) (zc a j:Nat) (d:Array Int) (w:World) (E:Holds zg w zc a d) (y:zc<w.heap.size) (C:d.size<4611686018427387904) :
 Calls Tryz.prog 198 #[.slice (some ⟨zc,a,none⟩) d.size j] w fun e B=>e=.returned (.tuple #[])/\∃ n os,B=grow (putRow zg (Sort.ahead w n) zc a (Sort.sort ltInt d)) os:=by
 have F:Hid (Holds zg w zc a d):=E
 clear E
 have u:∀ w,Calls Tryz.prog 212 #[.int .u64 (d.size:Int)] w fun e B=>e=.returned (.int .i64 (bitsLen d.size:Nat))/\B=w:=fun w=>by
  have h:=ZC (d.size:Int) w (by omega) (by omega)
  rwa [Int.toNat_natCast,bitLen_eq _ (by omega)] at h
 have hk:bitsLen d.size<=62:=(bitsLen_le_iff d.size 62).2 (by omega)
 go_enter Tryz.func198,Tryz.ntmps198
 go_wp2_with (first
  | (go_at_call 212;refine(u _).mono ?_;rintro e B ⟨rfl,rfl⟩)
  | (go_at_call 211;refine(A zc a j 0 d.size (bitsLen d.size) d _ (by exact F.out) (by exact y) (Nat.zero_le _) (Nat.le_refl _) C (by omega) (Or.inl rfl)).mono ?_;rintro e B ⟨rfl,n,os,rfl⟩))
 go_end0
 exact⟨rfl,n,os,rfl⟩
theorem zmk:CalU where
 ins:=vV
 brk:=vU
 piv:=j6
 par:=yE
 peq:=yz
 prt:=xJ
theorem znh:PlnU where
 swo:=swo_ltInt
 ins:=insertionSort_holds
 par:=partialInsertionSort_holds
 prt:=partition_holds _
 peq:=partitionEqual_holds _
 pdq:=pdq_sorts _
theorem J5:VC:=fun zc C u a b j d w F hb y A B hl E=>
 QJ zmk znh (b - a+1) zc C u a b j d w (by omega) F hb y A B hl E
theorem Xx (a:List Int):Sort.sort ltInt a.toArray=(a.mergeSort fun x y=>decide (x<=y)).toArray:=by
 rw [<-sortInt a]
theorem j7 (zc a j:Nat) (A:List Int) (w:World) (C:Holds zg w zc a A.toArray) (u:zc<w.heap.size) (B:A.length<4611686018427387904) :
 Calls Tryz.prog 198 #[.slice (some ⟨zc,a,none⟩) A.length j] w fun e E=>
  e=.returned (.tuple #[])/\∃ n os,E=grow (putRow zg (Sort.ahead w n) zc a (A.mergeSort fun x y=>decide (x<=y)).toArray) os:=by
 have h:=VV J5 zc a j A.toArray w C u (by simpa using B)
 rw [Xx] at h
 simpa using h
end Go.Proofs.YtonhfknjcbakiaaGreatDoor
