import Derived.Sort.Walk13
import Derived.Sort.WalkA14
import Derived.Sort.AssemblyPlain
import Derived.ChangeKeysEq
import Derived.Laws.Concat
import Derived.Test.YtonhfknjcbakiaaGreatDoorB11
set_option maxHeartbeats 16000000
set_option linter.unusedVariables false
set_option linter.unusedSimpArgs false
set_option maxRecDepth 100000
namespace Go.Proofs.YtonhfknjcbakiaaGreatDoor
open Go.RowKit Go.Sort
structure CalU:Prop where
 ins:∀(zc off cap a b:Nat) (d:Array Int) (w:World),Holds zg w zc off d->a<=b->b<=d.size->d.size<4611686018427387904 ->
  Calls Tryz.prog 218 #[.slice (some ⟨zc,off,none⟩) d.size cap,.int .i64 a,.int .i64 b] w fun e w'=>e=.returned (.tuple #[])/\∃ n,w'=putRow zg (Sort.ahead w n) zc off (insertionSort ltInt d a b)
 brk:∀(zc off cap a b:Nat) (d:Array Int) (w:World),Holds zg w zc off d->zc<w.heap.size->a<=b->b<=d.size->d.size<4611686018427387904 ->
  Calls Tryz.prog 220 #[.slice (some ⟨zc,off,none⟩) d.size cap,.int .i64 a,.int .i64 b] w fun e w'=>e=.returned (.tuple #[])/\∃ n os,w'=grow (putRow zg (Sort.ahead w n) zc off (breakPatterns d a b)) os
 piv:∀(zc off cap a b:Nat) (d:Array Int) (w:World),Holds zg w zc off d->zc<w.heap.size->a<b->b<=d.size->d.size<4611686018427387904 ->
  Calls Tryz.prog 221 #[.slice (some ⟨zc,off,none⟩) d.size cap,.int .i64 a,.int .i64 b] w fun e w'=>e=.returned (.tuple #[.int .i64 (choosePivot ltInt d a b).1,.int .i64 (hintCode (choosePivot ltInt d a b).2)])/\∃ n os,w'=grow (Sort.ahead w n) os
 par:∀(zc off cap a b:Nat) (d:Array Int) (w:World),Holds zg w zc off d->a<b->b<=d.size->d.size<4611686018427387904 ->
  Calls Tryz.prog 223 #[.slice (some ⟨zc,off,none⟩) d.size cap,.int .i64 a,.int .i64 b] w fun e w'=>e=.returned (.bool (partialInsertionSort ltInt d a b).2)/\∃ n,w'=putRow zg (Sort.ahead w n) zc off (partialInsertionSort ltInt d a b).1
 peq:∀(zc off cap a b pivot:Nat) (d:Array Int) (w:World),Holds zg w zc off d->a<=pivot->pivot<b->b<=d.size->d.size<4611686018427387904 ->
  Calls Tryz.prog 224 #[.slice (some ⟨zc,off,none⟩) d.size cap,.int .i64 a,.int .i64 b,.int .i64 pivot] w fun e w'=>e=.returned (.int .i64 (partitionEqual ltInt d a b pivot).1)/\∃ n,w'=putRow zg (Sort.ahead w n) zc off (partitionEqual ltInt d a b pivot).2
 prt:∀(zc off cap a b pivot:Nat) (d:Array Int) (w:World),Holds zg w zc off d->a<=pivot->pivot<b->b<=d.size->d.size<4611686018427387904 ->
  Calls Tryz.prog 225 #[.slice (some ⟨zc,off,none⟩) d.size cap,.int .i64 a,.int .i64 b,.int .i64 pivot] w fun e w'=>e=.returned (.tuple #[.int .i64 (partition ltInt d a b pivot).1,.bool (partition ltInt d a b pivot).2.1])/\∃ n,w'=putRow zg (Sort.ahead w n) zc off (partition ltInt d a b pivot).2.2
structure PlnU:Prop where
 swo:SWO ltInt
 ins:insertionSort_stmt ltInt
 par:partialInsertionSort_stmt ltInt
 prt:partition_stmt ltInt
 peq:partitionEqual_stmt ltInt
 pdq:pdq_stmt ltInt
set_option maxRecDepth 1000000 in
theorem QJ (C:CalU) (S:PlnU):∀(N zc off cap a b limit:Nat) (d:Array Int) (w:World),b - a<N->Holds zg w zc off d->zc<w.heap.size->a<=b->b<=d.size->d.size<4611686018427387904->limit<4611686018427387904->Below ltInt a b d ->
 Calls Tryz.prog 211 #[.slice (some ⟨zc,off,none⟩) d.size cap,.int .i64 a,.int .i64 b,.int .i64 limit] w fun e w'=>e=.returned (.tuple #[])/\At zg w zc off (pdq ltInt d a b limit true true) w':=by
 intro N
 induction N with
 | zero=>intro _ _ _ _ _ _ _ _ h;exact absurd h (Nat.not_lt_zero _)
 | succ N ih=>
   intro zc off cap a b limit d w hN hH hblk hab hb hsz hlimit hBel0
   go_enter Tryz.func211,Tryz.ntmps211
   go_wp2
   go_loopg [1,2,3,8,9] (b - a) (fun k s1 s2 s3 s8 s9 wr=>∃(a' b' lim:Nat) (wb wp:Bool) (dk:Array Int),s1=.int .i64 a'/\s2=.int .i64 b'/\s3=.int .i64 lim/\s8=.bool wb/\s9=.bool wp /\
    a'<=b'/\b'<=d.size/\b' - a'<=k/\k<=b - a/\lim<=limit/\dk.size=d.size/\Below ltInt a' b' dk/\At zg w zc off dk wr/\pdq ltInt dk a' b' lim wb wp=pdq ltInt d a b limit true true)
   case atStart=>exact⟨a,b,limit,true,true,d,rfl,rfl,rfl,rfl,rfl,hab,hb,Nat.le_refl _,Nat.le_refl _,Nat.le_refl _,rfl,hBel0,At.refl hH,rfl⟩
   case round=>
    obtain⟨a',b',lim,wb,wp,dk,rfl,rfl,rfl,rfl,rfl,hab',hb',hk,hkN,hlim,hds,hBel,hAt,heq⟩:=hrel
    obtain⟨hHk,hblk'⟩:=hAt.holds hH hds hblk
    have A:Aside (pdq ltInt dk a' b' lim wb wp=pdq ltInt d a b limit true true):=heq
    clear heq
    by_cases h12:b' - a'<=12
    ·
     have h12z:(b':Int) - (a':Int)<=12:=by omega
     have hc:=C.ins zc off cap a' b' dk wr hHk hab' (by omega) (by omega)
     rw [hds] at hc
     go_wp2_with (go_at_call 218;refine hc.mono ?_;rintro e w1 ⟨rfl,hw1⟩)
     (try simp only [Exit.inBlock,Exit.then]);refine bodyPost_ret (results_none rfl _ _ _) rfl ?_
     refine⟨rfl,?_⟩
     rw [<-A.out,pdq_small h12]
     exact hAt.step hblk (S.ins S.swo dk a' b' hab' (by omega)).1.1 hw1
    ·have h12z:¬((b':Int) - (a':Int)<=12):=by omega
     by_cases hl0:lim=0
     ·
      subst hl0
      have hc:=ZK zc off d.size cap dk hds a' b' wr hHk hab' (by omega) (by omega)
      go_wp2_with (go_at_call 219;refine hc.mono ?_;rintro e w1 ⟨rfl,hw1⟩)
      (try simp only [Exit.inBlock,Exit.then]);refine bodyPost_ret (results_none rfl _ _ _) rfl ?_
      refine⟨rfl,?_⟩
      rw [<-A.out,pdq_heap h12 rfl]
      exact hAt.step hblk (heapSort_holds S.swo dk a' b' hab' (by omega)).1.1 hw1
     ·have hl0z:¬((lim:Int)=0):=by omega
      obtain⟨s1,B1,hc1,s2,B2,hpv,s3,B3⟩:=rd_facts (limit:=lim) (wb:=wb) (wp:=wp) S.swo S.par reverseRange_holds (show a'<b' by omega) (show b'<=dk.size by omega) hBel
      go_upto_if 35 with fail
      go_cut [3] from 19 (fun s3 wc=>s3=.int .i64 (rd ltInt dk a' b' lim wb wp).lim/\At zg w zc off (rd ltInt dk a' b' lim wb wp).d1 wc)
      case first=>
       cases wb
       ·have hc:=C.brk zc off cap a' b' dk wr hHk hblk' hab' (by omega) (by omega)
        rw [hds] at hc
        go_wp2_with (go_at_call 220;refine hc.mono ?_;rintro e w1 ⟨rfl,hw1⟩)
        go_meet
        case rel=>
         refine⟨?_,hAt.stepG hblk s1 hw1⟩
         show Value.int .i64 ((lim:Int) - 1)=Value.int .i64 ((lim - 1:Nat):Int)
         congr 1
         omega
       ·go_wp2_with fail
        go_meet
        case rel=>exact⟨rfl,hAt⟩
      case rest=>
       obtain⟨rfl,hAt1⟩:=hcut
       obtain⟨hH1,hblk1⟩:=hAt1.holds hH (s1.trans hds) hblk
       have hc17:Calls Tryz.prog 221 #[.slice (some ⟨zc,off,none⟩) d.size cap,.int .i64 a',.int .i64 b'] wc fun e w'=>e=.returned (.tuple #[.int .i64 (rd ltInt dk a' b' lim wb wp).c.1,.int .i64 (hintCode (rd ltInt dk a' b' lim wb wp).c.2)])/\∃ n os,w'=grow (Sort.ahead wc n) os:=by
        have:=C.piv zc off cap a' b' (rd ltInt dk a' b' lim wb wp).d1 wc hH1 hblk1 (by omega) (by omega) (by omega)
        rw [s1,hds] at this
        exact this
       go_upto_if 50 with(go_at_call 221;refine hc17.mono ?_;rintro e w2 ⟨rfl,hw2⟩)
       have hAt2:At zg w zc off (rd ltInt dk a' b' lim wb wp).d1 w2:=hAt1.same hH (s1.trans hds) hblk hw2
       obtain⟨hH2,hblk2⟩:=hAt2.holds hH (s1.trans hds) hblk
       go_cut [11,12] from 19 (fun s11 s12 wc=>s11=.int .i64 (rd ltInt dk a' b' lim wb wp).pivot/\s12=.int .i64 (hintCode (rd ltInt dk a' b' lim wb wp).hint)/\At zg w zc off (rd ltInt dk a' b' lim wb wp).d2 wc)
       case first=>
        by_cases hh:(rd ltInt dk a' b' lim wb wp).c.2=.decreasing
        ·have hcode:hintCode (rd ltInt dk a' b' lim wb wp).c.2=2:=by rw [hh];rfl
         obtain⟨e2,epv,eht⟩:=rd_dec hh
         have hc18:=jB zc off cap (rd ltInt dk a' b' lim wb wp).d1 a' b' w2 hH2 hab' (by omega) (by omega)
         rw [s1,hds] at hc18
         go_wp2_with (go_at_call 222;refine hc18.mono ?_;rintro e w3 ⟨rfl,hw3⟩)
         go_meet
         case rel=>
          refine⟨?_,by rw [eht];rfl,by rw [e2];exact hAt2.step hblk (by rw [<-e2,s2,s1]) hw3⟩
          rw [epv]
          congr 1
          omega
        ·have hcode:¬(hintCode (rd ltInt dk a' b' lim wb wp).c.2=2):=fun h=>hh (hintCode_two h)
         obtain⟨e2,epv,eht⟩:=rd_not hh
         go_wp2_with fail
         go_meet
         case rel=>exact⟨by rw [epv],by rw [eht],by rw [e2];exact hAt2⟩
       case rest=>
        obtain⟨rfl,rfl,hAt3⟩:=hcut
        obtain⟨hH3,hblk3⟩:=hAt3.holds hH (s2.trans hds) hblk
        go_upto_region 15 with fail
        go_cut [12,68] from 19 (fun s12 s68 wx=>s12=.int .i64 (hintCode (rd ltInt dk a' b' lim wb wp).hint)/\s68=.bool (wb && wp && decide ((rd ltInt dk a' b' lim wb wp).hint=.increasing))/\wx=wc)
        case first=>
         cases wb<;>cases wp<;>cases hh3:(rd ltInt dk a' b' lim _ _).hint <;>
          (have hcode3:=congrArg hintCode hh3
           simp only [hintCode] at hcode3
           go_wp2_with fail
           go_meet
           exact⟨by simp [hh3,hintCode],by simp [hh3,hintCode],rfl⟩)
        case rest=>
         obtain⟨rfl,rfl,rfl⟩:=hcut
         go_upto_if 68 with fail
         go_cut [] from 19 (fun wx=>(rd ltInt dk a' b' lim wb wp).pi.2=false/\At zg w zc off (rd ltInt dk a' b' lim wb wp).pi.1 wx)
         case first=>
          cases h68:(wb && wp && decide ((rd ltInt dk a' b' lim wb wp).hint=.increasing))
          ·have epi:=rd_pi_no h68
           go_wp2_with fail
           go_meet
           case rel=>exact⟨by rw [epi],by rw [epi];exact hAt3⟩
          ·have epi:=rd_pi_yes h68
           have hc19:=C.par zc off cap a' b' (rd ltInt dk a' b' lim wb wp).d2 wc hH3 (by omega) (by omega) (by omega)
           rw [s2,hds,<-epi] at hc19
           go_wp2_with (go_at_call 223;refine hc19.mono ?_;rintro e w4 ⟨rfl,hw4⟩)
           all_goals first
            | (have hp2:(rd ltInt dk a' b' lim wb wp).pi.2=false:=by rw [epi];assumption
               go_meet
               exact⟨hp2,hAt3.step hblk (by rw [s3,s2]) hw4⟩)
            | (have hp2:(rd ltInt dk a' b' lim wb wp).pi.2=true:=by rw [epi];assumption
               (try simp only [Exit.inBlock,Exit.then]);refine bodyPost_ret (results_none rfl _ _ _) rfl ?_
               refine⟨rfl,?_⟩
               rw [<-A.out,pdq_done h12 hl0 hp2]
               exact hAt3.step hblk (by rw [s3,s2]) hw4)
         case rest=>
          obtain⟨hp2,hAt5⟩:=hcut
          obtain⟨hH5,hblk5⟩:=hAt5.holds hH (s3.trans hds) hblk
          have hcw:∀ t,t<d.size->wc.cell? ⟨zc,off+t,none⟩=some (.int .u64 (rd ltInt dk a' b' lim wb wp).pi.1[t]!):=fun t ht=>(hH5 t (by omega)).1
          have hfw:∀ t,t<d.size->wc.frozen? ⟨zc,off+t,none⟩=false:=fun t ht=>(hH5 t (by omega)).2
          go_upto_region 17 with fail
          go_cut [87] from 19 (fun s87 wx=>s87=.bool (decide (a' > 0) && !ltInt (rd ltInt dk a' b' lim wb wp).pi.1[a' - 1]! (rd ltInt dk a' b' lim wb wp).pi.1[(rd ltInt dk a' b' lim wb wp).pivot]!)/\At zg w zc off (rd ltInt dk a' b' lim wb wp).pi.1 wx)
          case first=>
           rcases Nat.eq_zero_or_pos a' with ha0 | ha0
           ·have ha0z:decide ((a':Int) > 0)=false:=decide_eq_false (by omega)
            go_big_quiet (first | (go_at_call 207;refine Calls.quiet_of_same (so_cmp_Less_int _ _ _)))
            go_wp2_with fail
            go_meet
            case rel=>exact⟨by simp [ha0],hAt5.ahead nq⟩
           ·have ha0z:(a':Int) > 0:=by omega
            go_big_quiet (first | (go_at_call 207;refine Calls.quiet_of_same (so_cmp_Less_int _ _ _)))
            go_wp2_with fail
            go_meet
            case rel=>exact⟨by simp [ha0],hAt5.ahead nq⟩
          case rest=>
           obtain⟨rfl,hAt6⟩:=hcut
           obtain⟨hH6,hblk6⟩:=hAt6.holds hH (s3.trans hds) hblk
           clear hcw hfw
           cases h87:(decide (a' > 0) && !ltInt (rd ltInt dk a' b' lim wb wp).pi.1[a' - 1]! (rd ltInt dk a' b' lim wb wp).pi.1[(rd ltInt dk a' b' lim wb wp).pivot]!)
           ·
            obtain⟨mid,ap,d4,hx⟩:∃ mid ap d4,partition ltInt (rd ltInt dk a' b' lim wb wp).pi.1 a' b' (rd ltInt dk a' b' lim wb wp).pivot=(mid,ap,d4):=⟨(partition ltInt (rd ltInt dk a' b' lim wb wp).pi.1 a' b' (rd ltInt dk a' b' lim wb wp).pivot).1,(partition ltInt (rd ltInt dk a' b' lim wb wp).pi.1 a' b' (rd ltInt dk a' b' lim wb wp).pivot).2.1,(partition ltInt (rd ltInt dk a' b' lim wb wp).pi.1 a' b' (rd ltInt dk a' b' lim wb wp).pivot).2.2,rfl⟩
            obtain⟨r1,r2,r3,r4,r5,r6,r7⟩:=round_part S.swo S.prt hpv.1 hpv.2 (show b'<=(rd ltInt dk a' b' lim wb wp).pi.1.size by omega) B3 hx
            have hc22:=C.prt zc off cap a' b' (rd ltInt dk a' b' lim wb wp).pivot (rd ltInt dk a' b' lim wb wp).pi.1 wc hH6 hpv.1 hpv.2 (by omega) (by omega)
            rw [s3,hds,hx] at hc22
            have X:Aside (partition ltInt (rd ltInt dk a' b' lim wb wp).pi.1 a' b' (rd ltInt dk a' b' lim wb wp).pivot=(mid,ap,d4)):=hx
            clear hx
            go_upto_if 113 with(go_at_call 225;refine hc22.mono ?_;rintro e w7 ⟨rfl,hw7⟩)
            have hx:=X.out
            have hAt7:At zg w zc off d4 w7:=hAt6.step hblk r3 hw7
            obtain⟨hH7,hblk7⟩:=hAt7.holds hH (r3.trans (s3.trans hds)) hblk
            by_cases h4:mid - a'<b' - mid
            ·have h4z:(mid:Int) - (a':Int)<(b':Int) - (mid:Int):=by omega
             have hih:=ih zc off cap a' mid (rd ltInt dk a' b' lim wb wp).lim d4 w7 (by omega) hH7 hblk7 (by omega) (by omega) (by omega) (Nat.lt_of_le_of_lt (Nat.le_trans rd_lim_le hlim) hlimit) r4
             rw [r3,s3,hds] at hih
             obtain⟨pL,sL⟩:=S.pdq S.swo d4 a' mid (rd ltInt dk a' b' lim wb wp).lim true true (by omega) (by omega) r4
             go_wp2_with (go_at_call 211;refine hih.mono ?_;rintro e w8 ⟨rfl,hw8⟩)
             go_roundg (b' - (mid+1))
             case measure=>omega
             case rel=>
              refine⟨mid+1,b',(rd ltInt dk a' b' lim wb wp).lim,decide (mid - a' ≥ (b' - a') / 8),ap,pdq ltInt d4 a' mid (rd ltInt dk a' b' lim wb wp).lim true true,by simp,rfl,rfl,?_,rfl,by omega,by omega,Nat.le_refl _,by omega,Nat.le_trans rd_lim_le hlim,by rw [pL.1,r3,s3,hds],(r6 _ pL sL).1,hAt7.stepG hblk pL.1 hw8,?_⟩
              ·exact congrArg Value.bool (eighth (by omega) (by omega))
              ·rw [<-A.out,pdq_left h12 hl0 hp2 h87 (by rw [hx];exact⟨r1,r2⟩) (by rw [hx];exact h4),hx]
            ·have h4z:¬((mid:Int) - (a':Int)<(b':Int) - (mid:Int)):=by omega
             have hih:=ih zc off cap (mid+1) b' (rd ltInt dk a' b' lim wb wp).lim d4 w7 (by omega) hH7 hblk7 (by omega) (by omega) (by omega) (Nat.lt_of_le_of_lt (Nat.le_trans rd_lim_le hlim) hlimit) r5
             rw [r3,s3,hds] at hih
             obtain⟨pL,sL⟩:=S.pdq S.swo d4 (mid+1) b' (rd ltInt dk a' b' lim wb wp).lim true true (by omega) (by omega) r5
             go_wp2_with (go_at_call 211;refine hih.mono ?_;rintro e w8 ⟨rfl,hw8⟩)
             go_roundg (mid - a')
             case measure=>omega
             case rel=>
              refine⟨a',mid,(rd ltInt dk a' b' lim wb wp).lim,decide (b' - mid ≥ (b' - a') / 8),ap,pdq ltInt d4 (mid+1) b' (rd ltInt dk a' b' lim wb wp).lim true true,rfl,rfl,rfl,?_,rfl,by omega,by omega,Nat.le_refl _,by omega,Nat.le_trans rd_lim_le hlim,by rw [pL.1,r3,s3,hds],(r7 _ pL sL).1,hAt7.stepG hblk pL.1 hw8,?_⟩
              ·exact congrArg Value.bool (eighth (by omega) (by omega))
              ·rw [<-A.out,pdq_right h12 hl0 hp2 h87 (by rw [hx];exact⟨r1,r2⟩) (by rw [hx];exact h4),hx]
           ·
            have h87':=h87
            simp only [Bool.and_eq_true,decide_eq_true_eq,Bool.not_eq_true'] at h87'
            obtain⟨mid,d4,hx⟩:∃ mid d4,partitionEqual ltInt (rd ltInt dk a' b' lim wb wp).pi.1 a' b' (rd ltInt dk a' b' lim wb wp).pivot=(mid,d4):=⟨(partitionEqual ltInt (rd ltInt dk a' b' lim wb wp).pi.1 a' b' (rd ltInt dk a' b' lim wb wp).pivot).1,(partitionEqual ltInt (rd ltInt dk a' b' lim wb wp).pi.1 a' b' (rd ltInt dk a' b' lim wb wp).pivot).2,rfl⟩
            obtain⟨r1,r2,r3,r4,_⟩:=round_eq S.swo S.peq h87'.1 hpv.1 hpv.2 (show b'<=(rd ltInt dk a' b' lim wb wp).pi.1.size by omega) B3 h87'.2 hx
            have hc21:=C.peq zc off cap a' b' (rd ltInt dk a' b' lim wb wp).pivot (rd ltInt dk a' b' lim wb wp).pi.1 wc hH6 hpv.1 hpv.2 (by omega) (by omega)
            rw [s3,hds,hx] at hc21
            have X:Aside (partitionEqual ltInt (rd ltInt dk a' b' lim wb wp).pi.1 a' b' (rd ltInt dk a' b' lim wb wp).pivot=(mid,d4)):=hx
            clear hx
            go_wp2_with (go_at_call 224;refine hc21.mono ?_;rintro e w7 ⟨rfl,hw7⟩)
            go_roundg (b' - mid)
            case measure=>omega
            case rel=>
             have hx:=X.out
             exact⟨mid,b',(rd ltInt dk a' b' lim wb wp).lim,wb,wp,d4,rfl,rfl,rfl,rfl,rfl,r2,hb',Nat.le_refl _,by omega,Nat.le_trans rd_lim_le hlim,by rw [r3,s3,hds],r4,hAt6.step hblk r3 hw7,by rw [<-A.out,pdq_eq h12 hl0 hp2 h87 (by rw [hx];exact⟨r1,r2⟩),hx]⟩
end Go.Proofs.YtonhfknjcbakiaaGreatDoor
namespace Go.Proofs.YtonhfknjcbakiaaGreatDoor
open Go.RowKit
attribute [local go_sem] Oper.semAt_some
def zaB (n:Nat) (W:World) (k:Nat):Prop:=n<=k/\∃ cs f,W.heap[k]? = some (.cells cs 3 f)
def SF (n0:Nat) (t:TypeId) (A B:World):Prop:=(∃ v,Boxed A n0 t v)/\Keep (fun k=>k=n0\/zaB (n0+4) A k) A B
theorem SF.pt {n0 Bk Bi:Nat} {t:TypeId} {A B:World} (h:SF n0 t A B) (h1:Bk<n0) (h2:Bi<n0) (ht:t ≠ 34) (hi : 3 ≠ 34):PtF n0 Bk Bi A B:=by
 obtain⟨⟨v,hv⟩,hk⟩:=h
 refine⟨hk.size,fun k hlt hc=>hk.block k hlt ?_⟩
 rintro(rfl | ⟨h4,cs,f,hcs⟩)
 ·rcases hc with hc | hc | hc | ⟨cs,f,hc⟩
  ·omega
  ·omega
  ·omega
  ·have hv':A.heap[k]? = some (.cells #[v] t (0,0)):=hv
   rw [hv'] at hc
   cases hc
   exact ht rfl
 ·rcases hc with hc | hc | hc | ⟨cs2,f2,hc⟩
  ·omega
  ·omega
  ·omega
  ·rw [hcs] at hc
   cases hc
theorem X8 {α:Type} (gf:Nat) (lb:Array Value) (Bk Bi:Nat) (xs:List (Nat × Fv)) (w:World) (ad0:Option Addr) (c0':Nat) (eg:∀ args w,(callFunc gf args).run Tryz.prog w=.ok (.enter gf args) w)
 (hit:∀ W,Below w.heap.size w W->v7 Tryz.prog gf lb Y4 (fun _=>False) (PtF w.heap.size Bk Bi) xs W) (hBk:Bk<w.heap.size) (hBi:Bi<w.heap.size)
 (Inv:World->Value->α->Prop) (step:α->Nat × Fv->α) (a0:α) (hI0:∀ W,Below w.heap.size w W->Inv W (.slice ad0 0 c0') a0) (hIs:∀ W u a,Inv W u a->∃ ad n c,u=.slice ad n c)
 (hIk:∀ A B u a,Inv A u a->Keep (fun k=>k=w.heap.size\/k=w.heap.size+2\/k=w.heap.size+3) A B->Inv B u a)
 (hStep:∀ W u pre p,pre++[p] <+: xs->w.heap.size+4<=W.heap.size->Below w.heap.size w W->Inv W u (pre.foldl step a0)->Calls Tryz.prog 64 #[u,.int .i64 (p.1:Nat),.agg #[sv p.2.1,sv p.2.2]] W fun e W'=>
   ∃ u',e=.returned u'/\Inv W' u' (step (pre.foldl step a0) p)/\Keep (zaB (w.heap.size+4) W) W W') :
 Calls Tryz.prog 62 #[.func (.func gf) #[] lb,.slice ad0 0 c0',.func (.func 64) #[] #[]] w fun e w'=>∃ u,e=.returned u/\Inv w' u (xs.foldl step a0)/\Below w.heap.size w w':=by
 have HIT:=Lib.hid hit
 have HI0:=Lib.hid hI0
 have HIS:=Lib.hid hIs
 have HIK:=Lib.hid hIk
 have HST:=Lib.hid hStep
 clear hit hI0 hIs hIk hStep
 refine callsIn_wide.1 (callsIn_of_wp_marks (n:=9) Tryz.func62 rfl trivial ?_ rfl)
 simp only [Tryz.ntmps62,List.size_toArray,List.length_cons,List.length_nil,Nat.reduceAdd,Nat.reduceSub,Array.replicate_succ,Array.replicate_zero,List.push_toArray,List.append_toArray,List.nil_append,List.cons_append]
 gi_wp2
 obtain⟨W0,hW0⟩:∃ W0,((w.alloc (Obj.cells #[Value.slice ad0 0 c0'] 32)).alloc (Obj.cells #[Value.func (Fn.func 64) #[] #[]] 99))=W0:=⟨_,rfl⟩
 have hsz:W0.heap.size=w.heap.size+2:=by rw [<-hW0];simp
 have b0:Boxed W0 w.heap.size 32 (Value.slice ad0 0 c0'):=by rw [<-hW0];exact(Boxed.new w _ _).alloc _
 have b1:Boxed W0 (w.heap.size+1) 99 (Value.func (Fn.func 64) #[] #[]):=by rw [<-hW0];have:=Boxed.new (w.alloc (Obj.cells #[Value.slice ad0 0 c0'] 32)) 99 (Value.func (Fn.func 64) #[] #[]);rw [World.size_alloc] at this;exact this
 have hB0:Below w.heap.size w W0:=by rw [<-hW0];exact((Below.refl _ _).alloc (Nat.le_refl _) _).alloc (by simp) _
 try simp only [World.size_alloc]
 rw [hW0]
 clear hW0
 refine Xt (w:=W0) gf lb rfl eg Y4 (fun _=>rfl) (fun _=>False) (PtF w.heap.size Bk Bi) xs ?hit
  (SF w.heap.size 32) (fun A B h k hk hlt=>h.2.block k hlt (by rintro(e | ⟨e,_⟩)<;>omega)) (fun A B h=>h.pt hBk hBi (by decide) (by decide))
  ?hPt ?hPt0 ⟨id,id⟩
  (fun pre W=>(∃ u,Boxed W w.heap.size 32 u/\Inv W u (pre.foldl step a0))/\Boxed W (w.heap.size+1) 99 (Value.func (Fn.func 64) #[] #[])/\Below w.heap.size w W)
  (fun _ _ _=>False) ?hI (fun _ _ _ _ h _=>h) ⟨⟨_,b0,HI0.out _ hB0⟩,b1,hB0⟩
  (fun pre x a' W=>((∃ u,Boxed W w.heap.size 32 u/\Inv W u (pre.foldl step a0))/\Boxed W (w.heap.size+1) 99 (Value.func (Fn.func 64) #[] #[])/\Below w.heap.size w W) /\
    ∃ B8,W.heap[B8]? = some (.cells #[sv x.2.1,sv x.2.2] 34 (0,0))/\W0.heap.size+2<=B8 /\
    a'={ tmps:=#[Value.func (Fn.func gf) #[] lb,Value.slice ad0 0 c0',Value.func (Fn.func 64) #[] #[],undef,Value.pointer (some ⟨w.heap.size,0,none⟩),Value.pointer (some ⟨w.heap.size+1,0,none⟩),Value.slice none 0 0,.int .i64 (x.1:Nat),Value.pointer (some ⟨B8,0,none⟩),Value.func (Fn.func gf) #[] lb,.int .i64 (x.1:Nat),.agg #[sv x.2.1,sv x.2.2],undef,undef,undef,undef,undef,undef],defers:=[] })
  ?hAx ?hassign ?hbody ?hdone (fun _ _ _ _ h _=>h.elim)
 case hit=>
  intro W hk hWs
  exact HIT.out W (hB0.trans (hk.below (by omega) fun _ _=>id))
 case hPt=>
  rintro A B C ⟨h1,h2⟩ ⟨h3,h4⟩
  refine⟨Nat.le_trans h1 h3,fun k hk hc=>?_⟩
  have e1:=h2 k hk hc
  refine(h4 k (by omega) ?_).trans e1
  rcases hc with hc | hc | hc | ⟨cs,f,hc⟩
  ·exact .inl hc
  ·exact .inr (.inl hc)
  ·exact .inr (.inr (.inl hc))
  ·exact .inr (.inr (.inr ⟨cs,f,by rw [e1];exact hc⟩))
 case hPt0=>
  rintro A B hk ⟨o,ho⟩
  refine⟨hk.size,fun k hlt hc=>hk.block k hlt ?_⟩
  rintro rfl
  rcases hc with hc | hc | hc | ⟨cs,f,hc⟩
  ·omega
  ·omega
  ·omega
  ·rw [ho] at hc;cases hc
 case hI=>
  rintro pre A B ⟨⟨u,h1,h2⟩,h3,h4⟩ hk0
  have hk:Keep (fun k=>k=W0.heap.size\/k=W0.heap.size+1) A B:=hk0.mono fun _ _ h=>h.elim False.elim id
  exact⟨⟨u,hk.boxed h1 (by omega),HIK.out _ _ _ _ h2 (hk.mono fun k _ h=>by omega)⟩,hk.boxed h3 (by omega),h4.trans (hk.below h4.size fun k hk=>by omega)⟩
 case hAx=>
  rintro pre x a' A B ⟨⟨⟨u,h1,h2⟩,h3,h4⟩,B8,h5,h6,rfl⟩ hk
  exact⟨⟨⟨u,hk.boxed h1 (by omega),HIK.out _ _ _ _ h2 (hk.mono fun k _ h=>by omega)⟩,hk.boxed h3 (by omega),h4.trans (hk.below h4.size fun k hk=>by omega)⟩,B8,hk.obj h5 (by omega),h6,rfl⟩
 case hassign=>
  rintro l pre ⟨i,⟨⟨x0,x1,x2⟩,⟨y0,y1,y2⟩⟩⟩ W hpx hlt ⟨⟨u,h1,h2⟩,h3,h4⟩
  clear hpx
  dsimp only [Y4,sv]
  have HX:=Lib.hid (And.intro h1 (And.intro h2 (And.intro h3 h4)))
  clear h1 h2 h3 h4
  gi_wp2
  obtain⟨h1,h2,h3,h4⟩:=HX.out
  have hka:∀ o S,Keep S W (W.alloc o):=fun o S=>(Keep.refl _ _).alloc _
  refine⟨⟨⟨u,h1⟩,hka _ _⟩,⟨⟨u,(hka _ (fun _=>False)).boxed h1 id,HIK.out _ _ _ _ h2 (hka _ _)⟩,(hka _ (fun _=>False)).boxed h3 id,h4.alloc h4.size _⟩,W.heap.size,World.alloc_heap_new W _,by omega,rfl⟩
 case hbody=>
  rintro l pre ⟨i,⟨⟨x0,x1,x2⟩,⟨y0,y1,y2⟩⟩⟩ a' W hpx hlt ⟨⟨⟨u,h1,h2⟩,h3,h4⟩,B8,h5,h6,rfl⟩
  obtain⟨ua,un,uc,rfl⟩:=HIS.out _ _ _ h2
  have hst:=HST.out W _ pre _ hpx (by omega) h4 h2
  dsimp only [sv] at hst h5 ⊢
  have c0:=h1.cell
  have c1:=h3.cell
  have c2:W.cell? ⟨B8,0,none⟩=some (.slice x0 x1 x2):=by simp [World.cell?,h5]
  have c3:W.cell? ⟨B8,1,none⟩=some (.slice y0 y1 y2):=by simp [World.cell?,h5]
  have HS:=Lib.hid hst
  have HX:=Lib.hid (And.intro h1 (And.intro h3 h4))
  clear hst h1 h2 h3 h4 h5
  gi_wp2_with (refine⟨trivial,?_⟩;gi_at_call 64;refine(callsIn_wide.2 HS.out).mono ?_;rintro e W1 ⟨u',rfl,hi1,hk1⟩
               obtain⟨va,vn,vc,rfl⟩:=HIS.out _ _ _ hi1
               have h1:Boxed W1 w.heap.size 32 (.slice ua un uc):=hk1.boxed HX.out.1 (fun h=>by have:=h.1;omega)
               have d0:=h1.cell
               have d1:=h1.frozen
               have HI1:=Lib.hid hi1
               have HK1:=Lib.hid hk1
               have HB1:=Lib.hid h1
               clear hi1 hk1 h1)
  have hkx:Keep (fun k=>k=w.heap.size) W1 (W1.setCell ⟨w.heap.size,0,none⟩ (.slice va vn vc)):=(Keep.refl (fun k=>k=w.heap.size) W1).setCell (p:=⟨w.heap.size,0,none⟩) (fun _=>rfl) _
  obtain⟨h1,h3,h4⟩:=HX.out
  have hkk:Keep (fun k=>k=w.heap.size\/zaB (w.heap.size+4) W k) W (W1.setCell ⟨w.heap.size,0,none⟩ (.slice va vn vc)):=(HK1.out.mono fun k _ h=>.inr h).setCell (p:=⟨w.heap.size,0,none⟩) (fun _=>.inl rfl) _
  refine⟨⟨⟨_,h1⟩,hkk⟩,⟨_,HB1.out.set _,?_⟩,hkk.boxed h3 (by rintro(e | ⟨e,_⟩)<;>omega),h4.trans (hkk.below h4.size fun k hk=>by rintro(e | ⟨e,_⟩)<;>omega)⟩
  rw [List.foldl_append]
  exact HIK.out _ _ _ _ HI1.out (hkx.mono fun k _ h=>.inl h)
 case hdone=>
  rintro W ⟨⟨u,h1,h2⟩,h3,h4⟩ hD
  obtain⟨ua,un,uc,rfl⟩:=HIS.out _ _ _ h2
  have hc:=h1.cell
  have HX:=Lib.hid (And.intro h2 h4)
  clear h1 h2 h3 h4
  gi_wp2
  refine⟨by simp,.inl ⟨_,_,rfl,run_takeDeferred hD,?_⟩⟩
  have hkD:Keep (fun k=>k=W0.heap.size) W (W.putObj W0.heap.size (.deferred none)):=(Keep.refl (fun k=>k=W0.heap.size) W).putObj (fun _=>rfl) _
  exact⟨_,results_tmp rfl _ _ _,_,rfl,HIK.out _ _ _ _ HX.out.1 (hkD.mono fun k _ h=>by omega),HX.out.2.trans (hkD.below HX.out.2.size fun k hk=>by omega)⟩
theorem X7 {α:Type} (gf:Nat) (lb:Array Value) (Bk Bi:Nat) (xs:List (Nat × Fv)) (w:World) (ad0:Option Addr) (c0':Nat) (eg:∀ args w,(callFunc gf args).run Tryz.prog w=.ok (.enter gf args) w)
 (hit:∀ W,Below w.heap.size w W->v7 Tryz.prog gf lb Y4 (fun _=>False) (PtF w.heap.size Bk Bi) xs W) (hBk:Bk<w.heap.size) (hBi:Bi<w.heap.size)
 (Inv:World->Value->α->Prop) (step:α->Nat × Fv->α) (a0:α) (hI0:∀ W,Below w.heap.size w W->Inv W (.slice ad0 0 c0') a0) (hIs:∀ W u a,Inv W u a->∃ ad n c,u=.slice ad n c)
 (hIk:∀ A B u a,Inv A u a->Keep (fun k=>k=w.heap.size\/k=w.heap.size+2\/k=w.heap.size+3) A B->Inv B u a)
 (hStep:∀ W u pre p,pre++[p] <+: xs->w.heap.size+4<=W.heap.size->Below w.heap.size w W->Inv W u (pre.foldl step a0)->Calls Tryz.prog 107 #[u,.int .i64 (p.1:Nat),.agg #[sv p.2.1,sv p.2.2]] W fun e W'=>
   ∃ u',e=.returned u'/\Inv W' u' (step (pre.foldl step a0) p)/\Keep (zaB (w.heap.size+4) W) W W') :
 Calls Tryz.prog 106 #[.func (.func gf) #[] lb,.slice ad0 0 c0',.func (.func 107) #[] #[]] w fun e w'=>∃ u,e=.returned u/\Inv w' u (xs.foldl step a0)/\Below w.heap.size w w':=by
 have HIT:=Lib.hid hit
 have HI0:=Lib.hid hI0
 have HIS:=Lib.hid hIs
 have HIK:=Lib.hid hIk
 have HST:=Lib.hid hStep
 clear hit hI0 hIs hIk hStep
 refine callsIn_wide.1 (callsIn_of_wp_marks (n:=9) Tryz.func106 rfl trivial ?_ rfl)
 simp only [Tryz.ntmps106,List.size_toArray,List.length_cons,List.length_nil,Nat.reduceAdd,Nat.reduceSub,Array.replicate_succ,Array.replicate_zero,List.push_toArray,List.append_toArray,List.nil_append,List.cons_append]
 gi_wp2
 obtain⟨W0,hW0⟩:∃ W0,((w.alloc (Obj.cells #[Value.slice ad0 0 c0'] 89)).alloc (Obj.cells #[Value.func (Fn.func 107) #[] #[]] 133))=W0:=⟨_,rfl⟩
 have hsz:W0.heap.size=w.heap.size+2:=by rw [<-hW0];simp
 have b0:Boxed W0 w.heap.size 89 (Value.slice ad0 0 c0'):=by rw [<-hW0];exact(Boxed.new w _ _).alloc _
 have b1:Boxed W0 (w.heap.size+1) 133 (Value.func (Fn.func 107) #[] #[]):=by rw [<-hW0];have:=Boxed.new (w.alloc (Obj.cells #[Value.slice ad0 0 c0'] 89)) 133 (Value.func (Fn.func 107) #[] #[]);rw [World.size_alloc] at this;exact this
 have hB0:Below w.heap.size w W0:=by rw [<-hW0];exact((Below.refl _ _).alloc (Nat.le_refl _) _).alloc (by simp) _
 try simp only [World.size_alloc]
 rw [hW0]
 clear hW0
 refine Xt (w:=W0) gf lb rfl eg Y4 (fun _=>rfl) (fun _=>False) (PtF w.heap.size Bk Bi) xs ?hit
  (SF w.heap.size 89) (fun A B h k hk hlt=>h.2.block k hlt (by rintro(e | ⟨e,_⟩)<;>omega)) (fun A B h=>h.pt hBk hBi (by decide) (by decide))
  ?hPt ?hPt0 ⟨id,id⟩
  (fun pre W=>(∃ u,Boxed W w.heap.size 89 u/\Inv W u (pre.foldl step a0))/\Boxed W (w.heap.size+1) 133 (Value.func (Fn.func 107) #[] #[])/\Below w.heap.size w W)
  (fun _ _ _=>False) ?hI (fun _ _ _ _ h _=>h) ⟨⟨_,b0,HI0.out _ hB0⟩,b1,hB0⟩
  (fun pre x a' W=>((∃ u,Boxed W w.heap.size 89 u/\Inv W u (pre.foldl step a0))/\Boxed W (w.heap.size+1) 133 (Value.func (Fn.func 107) #[] #[])/\Below w.heap.size w W) /\
    ∃ B8,W.heap[B8]? = some (.cells #[sv x.2.1,sv x.2.2] 34 (0,0))/\W0.heap.size+2<=B8 /\
    a'={ tmps:=#[Value.func (Fn.func gf) #[] lb,Value.slice ad0 0 c0',Value.func (Fn.func 107) #[] #[],undef,Value.pointer (some ⟨w.heap.size,0,none⟩),Value.pointer (some ⟨w.heap.size+1,0,none⟩),Value.slice none 0 0,.int .i64 (x.1:Nat),Value.pointer (some ⟨B8,0,none⟩),Value.func (Fn.func gf) #[] lb,.int .i64 (x.1:Nat),.agg #[sv x.2.1,sv x.2.2],undef,undef,undef,undef,undef,undef],defers:=[] })
  ?hAx ?hassign ?hbody ?hdone (fun _ _ _ _ h _=>h.elim)
 case hit=>
  intro W hk hWs
  exact HIT.out W (hB0.trans (hk.below (by omega) fun _ _=>id))
 case hPt=>
  rintro A B C ⟨h1,h2⟩ ⟨h3,h4⟩
  refine⟨Nat.le_trans h1 h3,fun k hk hc=>?_⟩
  have e1:=h2 k hk hc
  refine(h4 k (by omega) ?_).trans e1
  rcases hc with hc | hc | hc | ⟨cs,f,hc⟩
  ·exact .inl hc
  ·exact .inr (.inl hc)
  ·exact .inr (.inr (.inl hc))
  ·exact .inr (.inr (.inr ⟨cs,f,by rw [e1];exact hc⟩))
 case hPt0=>
  rintro A B hk ⟨o,ho⟩
  refine⟨hk.size,fun k hlt hc=>hk.block k hlt ?_⟩
  rintro rfl
  rcases hc with hc | hc | hc | ⟨cs,f,hc⟩
  ·omega
  ·omega
  ·omega
  ·rw [ho] at hc;cases hc
 case hI=>
  rintro pre A B ⟨⟨u,h1,h2⟩,h3,h4⟩ hk0
  have hk:Keep (fun k=>k=W0.heap.size\/k=W0.heap.size+1) A B:=hk0.mono fun _ _ h=>h.elim False.elim id
  exact⟨⟨u,hk.boxed h1 (by omega),HIK.out _ _ _ _ h2 (hk.mono fun k _ h=>by omega)⟩,hk.boxed h3 (by omega),h4.trans (hk.below h4.size fun k hk=>by omega)⟩
 case hAx=>
  rintro pre x a' A B ⟨⟨⟨u,h1,h2⟩,h3,h4⟩,B8,h5,h6,rfl⟩ hk
  exact⟨⟨⟨u,hk.boxed h1 (by omega),HIK.out _ _ _ _ h2 (hk.mono fun k _ h=>by omega)⟩,hk.boxed h3 (by omega),h4.trans (hk.below h4.size fun k hk=>by omega)⟩,B8,hk.obj h5 (by omega),h6,rfl⟩
 case hassign=>
  rintro l pre ⟨i,⟨⟨x0,x1,x2⟩,⟨y0,y1,y2⟩⟩⟩ W hpx hlt ⟨⟨u,h1,h2⟩,h3,h4⟩
  clear hpx
  dsimp only [Y4,sv]
  have HX:=Lib.hid (And.intro h1 (And.intro h2 (And.intro h3 h4)))
  clear h1 h2 h3 h4
  gi_wp2
  obtain⟨h1,h2,h3,h4⟩:=HX.out
  have hka:∀ o S,Keep S W (W.alloc o):=fun o S=>(Keep.refl _ _).alloc _
  refine⟨⟨⟨u,h1⟩,hka _ _⟩,⟨⟨u,(hka _ (fun _=>False)).boxed h1 id,HIK.out _ _ _ _ h2 (hka _ _)⟩,(hka _ (fun _=>False)).boxed h3 id,h4.alloc h4.size _⟩,W.heap.size,World.alloc_heap_new W _,by omega,rfl⟩
 case hbody=>
  rintro l pre ⟨i,⟨⟨x0,x1,x2⟩,⟨y0,y1,y2⟩⟩⟩ a' W hpx hlt ⟨⟨⟨u,h1,h2⟩,h3,h4⟩,B8,h5,h6,rfl⟩
  obtain⟨ua,un,uc,rfl⟩:=HIS.out _ _ _ h2
  have hst:=HST.out W _ pre _ hpx (by omega) h4 h2
  dsimp only [sv] at hst h5 ⊢
  have c0:=h1.cell
  have c1:=h3.cell
  have c2:W.cell? ⟨B8,0,none⟩=some (.slice x0 x1 x2):=by simp [World.cell?,h5]
  have c3:W.cell? ⟨B8,1,none⟩=some (.slice y0 y1 y2):=by simp [World.cell?,h5]
  have HS:=Lib.hid hst
  have HX:=Lib.hid (And.intro h1 (And.intro h3 h4))
  clear hst h1 h2 h3 h4 h5
  gi_wp2_with (refine⟨trivial,?_⟩;gi_at_call 107;refine(callsIn_wide.2 HS.out).mono ?_;rintro e W1 ⟨u',rfl,hi1,hk1⟩
               obtain⟨va,vn,vc,rfl⟩:=HIS.out _ _ _ hi1
               have h1:Boxed W1 w.heap.size 89 (.slice ua un uc):=hk1.boxed HX.out.1 (fun h=>by have:=h.1;omega)
               have d0:=h1.cell
               have d1:=h1.frozen
               have HI1:=Lib.hid hi1
               have HK1:=Lib.hid hk1
               have HB1:=Lib.hid h1
               clear hi1 hk1 h1)
  have hkx:Keep (fun k=>k=w.heap.size) W1 (W1.setCell ⟨w.heap.size,0,none⟩ (.slice va vn vc)):=(Keep.refl (fun k=>k=w.heap.size) W1).setCell (p:=⟨w.heap.size,0,none⟩) (fun _=>rfl) _
  obtain⟨h1,h3,h4⟩:=HX.out
  have hkk:Keep (fun k=>k=w.heap.size\/zaB (w.heap.size+4) W k) W (W1.setCell ⟨w.heap.size,0,none⟩ (.slice va vn vc)):=(HK1.out.mono fun k _ h=>.inr h).setCell (p:=⟨w.heap.size,0,none⟩) (fun _=>.inl rfl) _
  refine⟨⟨⟨_,h1⟩,hkk⟩,⟨_,HB1.out.set _,?_⟩,hkk.boxed h3 (by rintro(e | ⟨e,_⟩)<;>omega),h4.trans (hkk.below h4.size fun k hk=>by rintro(e | ⟨e,_⟩)<;>omega)⟩
  rw [List.foldl_append]
  exact HIK.out _ _ _ _ HI1.out (hkx.mono fun k _ h=>.inl h)
 case hdone=>
  rintro W ⟨⟨u,h1,h2⟩,h3,h4⟩ hD
  obtain⟨ua,un,uc,rfl⟩:=HIS.out _ _ _ h2
  have hc:=h1.cell
  have HX:=Lib.hid (And.intro h2 h4)
  clear h1 h2 h3 h4
  gi_wp2
  refine⟨by simp,.inl ⟨_,_,rfl,run_takeDeferred hD,?_⟩⟩
  have hkD:Keep (fun k=>k=W0.heap.size) W (W.putObj W0.heap.size (.deferred none)):=(Keep.refl (fun k=>k=W0.heap.size) W).putObj (fun _=>rfl) _
  exact⟨_,results_tmp rfl _ _ _,_,rfl,HIK.out _ _ _ _ HX.out.1 (hkD.mono fun k _ h=>by omega),HX.out.2.trans (hkD.below HX.out.2.size fun k hk=>by omega)⟩
attribute [local go_sem] Oper.semAt_some
theorem zex (a:Option Addr) (n c item:Nat) (w:World):Calls Tryz.prog 63 #[.slice a n c,.int .u64 (item:Nat)] w fun e w'=>e=.returned (.func (.func 110) #[] #[.pointer (some ⟨w.heap.size,0,none⟩),.pointer (some ⟨w.heap.size+1,0,none⟩)])/\w'=(w.alloc (.cells #[.slice a n c] 23)).alloc (.cells #[.int .u64 (item:Nat)] 24):=by
 go_enter Tryz.func63,Tryz.ntmps63
 go_wp2
 go_ret
 exact⟨rfl,rfl⟩
def SH (n:Nat) (A B:World):Prop:=(∃ v,Boxed A n 4 v)/\Keep (fun k=>k=n) A B
theorem SH.pt {n n0 Bk Bi:Nat} {A B:World} (h:SH n A B) (h0:n0<=n) (h1:Bk≠n) (h2:Bi≠n):PtF n0 Bk Bi A B:=by
 obtain⟨⟨v,hv⟩,hk⟩:=h
 refine⟨hk.size,fun k hlt hc=>hk.block k hlt ?_⟩
 rintro rfl
 rcases hc with hc | hc | hc | ⟨cs,f,hc⟩
 ·omega
 ·exact h1 hc.symm
 ·exact h2 hc.symm
 ·have hv':A.heap[k]? = some (.cells #[v] 4 (0,0)):=hv
  rw [hv'] at hc
  cases hc
def OwnI (base:Nat) (w:World) (v:Value) (xs:List Nat):Prop:=w.ownsRow base 3 1 v xs.length (xs.map fun x=>.int .i64 (x:Nat))
theorem OwnI.nil (base:Nat) (w:World):OwnI base w (.slice none 0 0) []:=World.ownsRow_nil _ _ _ _
theorem OwnI.keep {base:Nat} {S:Nat->Prop} {w w':World} {v:Value} {l:List Nat} (h:OwnI base w v l) (hb:Keep S w w') (hs:∀ g,base<=g->g<w.heap.size->¬ S g):OwnI base w' v l:=
 hb.ownsRow h fun g hg=>hs g (h.lt g hg).1 (h.lt g hg).2
theorem OwnI.shape {base:Nat} {w:World} {v:Value} {l:List Nat} (h:OwnI base w v l):∃ ad n c,v=.slice ad n c:=by
 rcases h.2 with⟨rfl,_⟩ | ⟨g,cap,cur,rfl,_⟩
 ·exact⟨_,_,_,rfl⟩
 ·exact⟨_,_,_,rfl⟩
theorem Tryz.infoInt:(Tryz.prog.info? 3).map (fun i=>(i.zero,i.size,i.bytes))=some (some (Value.int .i64 0),1,8):=by kernel_rfl
theorem JY (base:Nat) (W:World) (v:Value) (l:List Nat) (i:Nat) (x0 x1:Value) (hown:OwnI base W v l) (hbase:base<=W.heap.size) (hl:l.length<=1099511627776) :
 Calls Tryz.prog 107 #[v,.int .i64 (i:Nat),.agg #[x0,x1]] W fun e W'=>∃ v',e=.returned v'/\OwnI base W' v' (l++[i])/\Keep (fun k=>base<=k/\∃ cs f,W.heap[k]? = some (.cells cs 3 f)) W W':=by
 obtain⟨i0,hi0,hz0,hz1,hz2⟩:=info_parts Tryz.infoInt
 have HO:=Lib.hid hown
 obtain⟨ad,n,c,rfl⟩:=hown.shape
 clear hown
 go_enter Tryz.func107,Tryz.ntmps107
 have hk0:Keep (fun _=>False) W ((W.alloc (.cells #[x0,x1] 34)).alloc (.cells #[.int .i64 (i:Nat)] 3)):=((Keep.refl _ W).alloc _).alloc _
 have hnb:((W.alloc (.cells #[x0,x1] 34)).alloc (.cells #[.int .i64 (i:Nat)] 3)).heap[W.heap.size+1]? = some (.cells #[.int .i64 (i:Nat)] 3 (0,0)):=by
  have:=World.alloc_heap_new (W.alloc (.cells #[x0,x1] 34)) (.cells #[.int .i64 (i:Nat)] 3)
  rwa [World.size_alloc] at this
 have HO2:=Lib.hid (HO.out.keep hk0 fun _ _ _=>id)
 go_wp2_with (at_builtin;refine wpList_append_own_at _ rfl _ _ 89 rfl base 3 i0 (.int .i64 0) 1 8 Tryz.underlying89 hi0 hz0 hz1 hz2 rfl (by decide) _ _ _ rfl HO2.out ⟨W.heap.size+1,0,none⟩ 1 1 [.int .i64 (i:Nat)] rfl rfl (kw (cs:=#[.int .i64 (i:Nat)]) (t := 3) (fr:=(0,0)) hnb) (by simp [Value.oneCell']) (by unfold maxLen;omega) (by omega) (by simp;omega) ?_;intro v' w3 ho hgr _ _)
 go_ret
 refine⟨_,rfl,by unfold OwnI;simpa using ho,(((Keep.refl _ W).alloc _).alloc _).grown hgr fun k hk _=>?_⟩
 have hk2:(Value.slice ad n c).ownBlock=some k:=hk
 refine⟨(HO.out.lt k hk2).1,?_⟩
 rcases HO.out.2 with⟨e,_⟩ | ⟨g,cap,cur,e,_,hh,_⟩
 ·rw [e] at hk2;cases hk2
 ·rw [e] at hk2
  have:g=k:=by simpa [Value.ownBlock] using hk2
  subst this
  exact⟨_,_,hh⟩
end Go.Proofs.YtonhfknjcbakiaaGreatDoor
namespace Go.Proofs.YtonhfknjcbakiaaGreatDoor
open Go.RowKit
variable {P:Program} {o:Oper} {D:Nat->Nat->Prop} {ρ:Nat->Nat} {nb:Nat} {s:PS} {a:Act} {w:World}
theorem QC {o:Oper} {t:Tmp} (h:Operand.tmp t ∈ o.op.operands.toList):t ∈ zA o:=by
 unfold zA
 exact List.mem_filterMap.2 ⟨_,h,rfl⟩
theorem Rd.op (h:Rd D ρ s (zB a) (zA o) w) {y:Operand} {y':PO} (hy:po y=some y') (hm:y ∈ o.op.operands.toList):Rel D ρ s.b.length w (a.eval y) (s.ev y'):=
 h.at hy fun t e=>QC (by rw [<-e];exact hm)
theorem kz:∀ {l:List Operand} {ys:List PO},Qu l=some ys->ys.length=l.length/\∀(i:Nat) (y:Operand),l[i]? = some y->∃ y',ys[i]? = some y'/\po y=some y'
 | [],ys,h=>by cases h;exact⟨rfl,fun i y h=>by simp at h⟩
 | x::r,ys,h=>by
   simp only [Qu,Option.bind_eq_some_iff,Option.map_eq_some_iff] at h
   obtain⟨y,hy,l,hl,rfl⟩:=h
   obtain⟨h1,h2⟩:=kz hl
   refine⟨by simp [h1],fun i z hz=>?_⟩
   cases i with
   | zero=>simp at hz;subst hz;exact⟨y,rfl,hy⟩
   | succ i=>simpa using h2 i z (by simpa using hz)
def QS (P:Program) (o:Oper) (D:Nat->Nat->Prop) (ρ:Nat->Nat) (s:PS) (a:Act) (w:World) (K:PV->Prop):Prop:=∃ p,K p/\p.own=none/\Qok P o s ρ D a w p
theorem QS.det {K:PV->Prop} {u:Value} {p:PV} (hr:(execOp a.eval o).run P w=.ok (.value u) w) (h:Rel D ρ s.b.length w u p) (hk:K p) (ho:p.own=none) (hN:p.isN=false:=by rfl):QS P o D ρ s a w K:=⟨p,hk,ho,zby hr h fun _ _ _=>xA hN⟩
theorem QS.strip {K:PV->Prop} {u:Value} {p:PV} (hr:(execOp a.eval o).run P w=.ok (.value u) w) (h:Rel D ρ s.b.length w u p) (hk:K p.strip):QS P o D ρ s a w K:=⟨p.strip,hk,p.strip_own,zby hr h.strip fun _ _ _=>xA p.strip_isN⟩
section
variable {K:PV->Prop} (hR:Rd D ρ s (zB a) (zA o) w)
include hR
theorem zlz {x:Operand} {x':PO} (ho:o.op=.move x\/o.op=.assign x) (hx:po x=some x') (hk:PK.q P s (.mv x') K):QS P o D ρ s a w K:=by
 have hr:(execOp a.eval o).run P w=.ok (.value (a.eval x)) w:=by rcases ho with ho | ho<;>simp [execOp,ho]
 have hm:x ∈ o.op.operands.toList:=by rcases ho with ho | ho<;>simp [ho,Op.operands]
 have hrel:=hR.op hx hm
 cases x' with
 | t i=>
   have hxt:x=.tmp i:=by cases x<;>first | (cases hx;rfl) | cases hx
   subst hxt
   simp only [PK.q] at hk
   rcases PV.pre_or i (s.get i) with e | ⟨es,n,m,e1,e2⟩
   ·rw [e] at hk
    exact .strip hr hrel hk
   ·rw [e2] at hk
    have hrel2:Rel D ρ s.b.length w (zB a i) (.sl es (.r n m)):=e1 ▸ hrel
    obtain⟨ad,cap,sz,b,off,f,e3,c1,c2,c3,c4,c5,c6,c7⟩:=hrel2.inv_sl
    refine⟨_,hk,rfl,zby hr ?_ fun x0 n0 hN=>⟨ad,es.length,cap,?_,?_⟩⟩
    ·show Rel D ρ s.b.length w (zB a i) _
     rw [e3]
     exact .dat (.sl ad cap sz es _ b off f c1 (fun h=>by cases h) c3 c4 c5 c6 c7)
    ·have:=(hN.2 i (QC hm)).2 (by rw [e1];simp [PV.own])
     rw [this,e3]
    ·exact e3
 | c p=>exact .strip hr hrel hk
 | f p=>exact .strip hr hrel hk
theorem zny {c x y:Operand} {c' x' y':PO} (ho:o.op=.pick c x y) (hc:po c=some c') (hx:po x=some x') (hy:po y=some y')
 (hk:qV (s.ev c') fun b=>(b=true->K (s.ev x').strip)/\(b=false->K (s.ev y').strip)):QS P o D ρ s a w K:=by
 obtain⟨b,e1,_,h1,h2⟩:=xE hk (hR.op hc (by simp [ho,Op.operands]))
 cases b with
 | true=>exact .strip (by simp [execOp,ho,e1,asBool]) (hR.op hx (by simp [ho,Op.operands])) (h1 rfl)
 | false=>exact .strip (by simp [execOp,ho,e1,asBool]) (hR.op hy (by simp [ho,Op.operands])) (h2 rfl)
theorem zlv {op:BinOp} {t t':TypeId} {x y:Operand} {x' y':PO} (ho:o.op=.binOp op t x y t') (hx:po x=some x') (hy:po y=some y') (hk:QB op (s.ev x') (s.ev y') K):QS P o D ρ s a w K:=by
 obtain⟨r,h1,h2⟩:=zdX (P:=P) t x y hk (hR.op hx (by simp [ho,Op.operands])) (hR.op hy (by simp [ho,Op.operands]))
 refine .det (u:=r) ?_ (.dat (.v _)) h2 rfl
 simp only [execOp,ho,Sem.run_bind,h1,Result.andThen_ok,Sem.run_pure]
theorem zlu {op:BinOp} {t t':TypeId} {x y:Operand} {x' y':PO} (ho:o.op=.binOp op t x y t') (hop:op=.eql\/op=.neq) (ht:P.underlying t=some .bool) (hx:po x=some x') (hy:po y=some y')
 (hk:qV (s.ev x') fun a=>qV (s.ev y') fun b=>K (.v (.bool ((op == .neq) != (a == b))))):QS P o D ρ s a w K:=by
 obtain⟨m,e1,_,h1⟩:=xE hk (hR.op hx (by simp [ho,Op.operands]))
 obtain⟨n,e2,_,h2⟩:=xE h1 (hR.op hy (by simp [ho,Op.operands]))
 refine .det ?_ (.dat (.v _)) h2 rfl
 have hb:=JD (P:=P) (w:=w) ht m n
 rcases hop with rfl | rfl
 ·simp only [execOp,ho,Sem.run_bind,e1,e2,kh,Result.andThen_ok,Sem.run_pure,binOp,hb]
  cases m<;>cases n<;>rfl
 ·simp only [execOp,ho,Sem.run_bind,e1,e2,kh,Result.andThen_ok,Sem.run_pure,binOp,hb]
  cases m<;>cases n<;>rfl
theorem zpV {op:BinOp} {t t':TypeId} {x y:Operand} {x' y':PO} (ho:o.op=.binOp op t x y t') (hop:zoQ op=true) (hx:po x=some x') (hy:po y=some y') (hk:PK.q P s (.sb op x' y') K):QS P o D ρ s a w K:=by
 have hrx:=hR.op hx (by simp [ho,Op.operands])
 have hry:=hR.op hy (by simp [ho,Op.operands])
 simp only [PK.q] at hk
 unfold qsb at hk
 split at hk
 ·rename_i p q ex ey
  rw [ex] at hrx
  rw [ey] at hry
  have e1:=hrx.v_inv
  have e2:=hry.v_inv
  obtain⟨hs,hk⟩:=hk
  have hadd:=run_string_add_sum (P:=P) (w:=w) p q hs
  cases op<;>first
   | exact absurd hop (by decide)
   | (refine .det ?_ (.dat (.v _)) hk rfl;simp [execOp,ho,e1,e2,eqGuard,binOp,hadd];done)
   | (refine .det ?_ (.dat (.v _)) hk rfl;simp [execOp,ho,e1,e2,eqGuard,binOp,Op.stringOp])
 ·exact hk.elim
theorem zlB {op:BinOp} {t t':TypeId} {x:Operand} {x':PO} {ms} (ho:o.op=.binOp op t x (.const .nilIface) t') (hop:op=.eql\/op=.neq) (ht:P.underlying t=some (.interface ms)) (hx:po x=some x')
 (hk:PK.q P s (.nil (op == .neq) x') K):QS P o D ρ s a w K:=by
 have hr:=hR.op hx (by simp [ho,Op.operands])
 simp only [PK.q] at hk
 split at hk
 ·rename_i e
  rw [e] at hr
  have e1:=hr.v_inv
  refine .det ?_ (.dat (.v _)) hk rfl
  have hc:a.eval (.const .nilIface)=.nilIface:=rfl
  rcases hop with rfl | rfl<;>simp only [execOp,ho,Sem.run_bind,e1,hc,X1,Result.andThen_ok,Sem.run_pure,binOp,za3 ht]<;>rfl
 ·rename_i tt pp e
  rw [e] at hr
  obtain⟨v,e1,_⟩:=hr.inv_ifc
  refine .det ?_ (.dat (.v _)) hk rfl
  have hc:a.eval (.const .nilIface)=.nilIface:=rfl
  rcases hop with rfl | rfl<;>simp only [execOp,ho,Sem.run_bind,e1,hc,Y5,Result.andThen_ok,Sem.run_pure,binOp,JE ht]<;>rfl
 ·exact hk.elim
theorem zlC {t:TypeId} {x:Operand} {x':PO} (ho:o.op=.unOp .not t x) (hx:po x=some x') (hk:qV (s.ev x') fun b=>K (.v (.bool (!b)))):QS P o D ρ s a w K:=by
 obtain⟨b,e1,_,h1⟩:=xE hk (hR.op hx (by simp [ho,Op.operands]))
 exact .det (by simp [execOp,ho,e1,Op.unary]) (.dat (.v _)) h1 rfl
theorem zlA {t:TypeId} {x:Operand} {x':PO} (ho:o.op=.unOp .neg t x) (hx:po x=some x') (hk:QB .sub (.v (.int .i64 0)) (s.ev x') K):QS P o D ρ s a w K:=by
 have hr:=hR.op hx (by simp [ho,Op.operands])
 unfold QB at hk
 split at hk
 ·rename_i k1 n1 k2 n2 e1 e2
  cases e1
  rw [e2] at hr
  have e3:=hr.v_inv
  obtain⟨rfl,hk⟩:=hk
  have hk2:qar .i64 (0 - n2) K:=hk
  exact .det (u:=.int .i64 (IntKind.i64.wrap (0 - n2))) (by simp [execOp,ho,e3,Op.unary,Op.intArith]) (.dat (.v _)) (kC hk2) rfl
 ·exact hk.elim
theorem znn {t t':TypeId} {x:Operand} {x':PO} {k k':IntKind} (ho:o.op=.convert t t' x) (h1:P.underlying t=some (.int k')) (h2:P.underlying t'=some (.int k)) (hx:po x=some x') (hk:vR (s.ev x') fun _ n=>K (.v (.int k (k.wrap n)))):QS P o D ρ s a w K:=by
 obtain⟨j,n,e1,_,h3⟩:=yu hk (hR.op hx (by simp [ho,Op.operands]))
 exact .det (by simp [execOp,ho,e1,convert,run_underlying h1,run_underlying h2,Conv.intToInt]) (.dat (.v _)) h3 rfl
theorem znp {t:TypeId} {x:Operand} {x':PO} {f:Nat} {fs:Array Field} {fd:Field} {i:TypeInfo} (ho:o.op=.fieldAddr t x f) (h1:P.underlying t=some (.struct fs)) (h2:fs[f]? = some fd) (h3:P.info? fd.type=some i) (h4:i.size≠0)
 (hx:po x=some x') (hk:PK.q P s (.fa x' fd.offset) K):QS P o D ρ s a w K:=by
 have hr:=hR.op hx (by simp [ho,Op.operands])
 simp only [PK.q] at hk
 split at hk
 ·rename_i i' o' e
  rw [e] at hr
  obtain⟨hi,e1⟩:=hr.inv_bx
  refine .det (u:=.pointer (some ⟨ρ i',o'+fd.offset,none⟩)) ?_ (.inl (.inr ⟨_,_,rfl,hi,rfl⟩)) hk rfl
  simp [execOp,ho,e1,Instr.fieldAt,run_underlying h1,h2,Instr.sureAddr,fieldPlace,zE h3,h4,zh]
 ·rename_i cs o' e
  rw [e] at hr
  obtain⟨b,off,u,e1,hc,hd⟩:=hr.inv_cp
  refine .det (u:=.pointer (some ⟨b,off+(o'+fd.offset),none⟩)) ?_ (.dat (.cp b off cs _ u hc hd)) hk rfl
  simp [execOp,ho,e1,Instr.fieldAt,run_underlying h1,h2,Instr.sureAddr,fieldPlace,zE h3,h4,zh,Nat.add_assoc]
 ·exact hk.elim
theorem znr {t e:TypeId} {x y:Operand} {x' y':PO} {i:TypeInfo} (ho:o.op=.indexAddr t x y) (h1:P.underlying t=some (.slice e)) (h3:P.info? e=some i) (hx:po x=some x') (hy:po y=some y') (hk:PK.q P s (.ia x' y' i.size) K):QS P o D ρ s a w K:=by
 simp only [PK.q] at hk
 obtain⟨es,k,ex,h4⟩:=y8 hk
 obtain⟨j,n,e2,_,hn,h5⟩:=yu h4 (hR.op hy (by simp [ho,Op.operands]))
 have hr:=hR.op hx (by simp [ho,Op.operands])
 rw [ex] at hr
 obtain⟨ad,cap,sz,b,off,f,e1,hc,hz,hm,ha,hsz,hD,hd⟩:=hr.inv_sl
 split at h5
 ·rename_i el hel
  obtain⟨hl,h6⟩:=h5
  have hlt:n.toNat<es.length:=(List.getElem?_eq_some_iff.1 hel).1
  have hsz':sz=i.size:=(hsz _ _ hel).symm.trans hl
  have had:=ha (by intro e;subst e;simp at hlt)
  refine .det (u:=.pointer (some ⟨b,off+n.toNat * i.size,none⟩)) ?_ (.dat ?_) h6 rfl
  ·have hin:n<es.length:=by omega
   simp [execOp,ho,e1,e2,Instr.indexAt,asIntOf,run_underlying h1,had,hn,hin,zE h3,zh]
  ·have:=Dat.cp (D:=D) (w:=w) b (off+n.toNat * i.size) el 0 (fun j=>f (n.toNat * i.size+j)) (fun j hj=>?_) (fun j p hp=>?_)
   ·simpa using this
   ·rw [hl] at hj
    have hlt2:n.toNat * i.size+j<es.length * sz:=by
     rw [hsz']
     calc n.toNat * i.size+j<n.toNat * i.size+i.size:=by omega
      _=(n.toNat+1) * i.size:=by rw [Nat.add_mul];omega
      _<=es.length * i.size:=Nat.mul_le_mul_right _ hlt
    have:=hD _ hlt2
    rw [Nat.add_assoc];exact this
   ·have:=hd _ _ _ _ hel hp
    rw [hsz'] at this;exact this
 ·exact h5.elim
theorem zni {t e:TypeId} {x y:Operand} {x' y':PO} {i:TypeInfo} {m:Nat} (ho:o.op=.indexAddr t x y) (h1:P.underlying t=some (.array m e)) (h3:P.info? e=some i) (hx:po x=some x') (hy:po y=some y') (hk:PK.q P s (.aa x' y' m i.size) K):QS P o D ρ s a w K:=by
 simp only [PK.q] at hk
 obtain⟨j,n,e2,_,hn,h5⟩:=yu hk (hR.op hy (by simp [ho,Op.operands]))
 have hr:=hR.op hx (by simp [ho,Op.operands])
 split at h5
 ·rename_i i' o' e
  rw [e] at hr
  obtain⟨hi,e1⟩:=hr.inv_bx
  refine .det (u:=.pointer (some ⟨ρ i',o'+n.toNat * i.size,none⟩)) ?_ (.inl (.inr ⟨_,_,rfl,hi,rfl⟩)) h5 rfl
  simp [execOp,ho,e1,e2,Instr.indexAt,asIntOf,run_underlying h1,Instr.sureAddr,hn.1,hn.2,zE h3,zh]
 ·rename_i cs o' e
  rw [e] at hr
  obtain⟨b,off,u,e1,hc,hd⟩:=hr.inv_cp
  refine .det (u:=.pointer (some ⟨b,off+(o'+n.toNat * i.size),none⟩)) ?_ (.dat (.cp b off cs _ u hc hd)) h5 rfl
  simp [execOp,ho,e1,e2,Instr.indexAt,asIntOf,run_underlying h1,Instr.sureAddr,hn.1,hn.2,zE h3,zh,Nat.add_assoc]
 ·exact h5.elim
theorem zns {t e:TypeId} {x y:Operand} {x' y':PO} {ag:Bool} {m n':Nat} (ho:o.op=.index t x y) (h1:P.underlying t=some (.array m e)) (h3:XH P e=some (ag,n')) (hx:po x=some x') (hy:po y=some y') (hk:PK.q P s (.ix x' y' m ag n') K):QS P o D ρ s a w K:=by
 simp only [PK.q] at hk
 obtain⟨j,n,e2,_,hn,h5⟩:=yu hk (hR.op hy (by simp [ho,Op.operands]))
 have hr:=hR.op hx (by simp [ho,Op.operands])
 split at h5
 ·rename_i cs e
  rw [e] at hr
  obtain⟨vs,e1,hz,hc,hd⟩:=hr.inv_agg
  obtain⟨u,p,g1,g2,g3⟩:=VJ (P:=P) h3 h5 hz hc hd
  obtain⟨i,d,k1,k2,k3,k4⟩:=vT h3
  refine .strip (u:=u) (p:=p) ?_ (.dat g2) g3
  rw [<-k4] at g1
  simp [execOp,ho,e1,e2,Instr.index,asIntOf,run_underlying h1,hn.1,hn.2,zE k1,g1]
 ·exact h5.elim
theorem znq {t:TypeId} {x:Operand} {x':PO} {f:Nat} {fs:Array Field} {fd:Field} {ag:Bool} {n':Nat} (ho:o.op=.field t x f) (h1:P.underlying t=some (.struct fs)) (h2:fs[f]? = some fd) (h3:XH P fd.type=some (ag,n'))
 (hx:po x=some x') (hk:PK.q P s (.fl x' fd.offset ag n') K):QS P o D ρ s a w K:=by
 simp only [PK.q] at hk
 have hr:=hR.op hx (by simp [ho,Op.operands])
 split at hk
 ·rename_i cs e
  rw [e] at hr
  obtain⟨vs,e1,hz,hc,hd⟩:=hr.inv_agg
  obtain⟨u,p,g1,g2,g3⟩:=VJ (P:=P) h3 hk hz hc hd
  refine .strip (u:=u) (p:=p) ?_ (.dat g2) g3
  simp [execOp,ho,e1,Instr.field,run_underlying h1,h2,asAgg,g1]
 ·exact hk.elim
theorem znt {t:TypeId} {x:Operand} {x':PO} {ag:Bool} {n':Nat} (ho:o.op=.load t x) (h3:XH P t=some (ag,n')) (hx:po x=some x') (hk:PK.q P s (.ld x' ag n') K):QS P o D ρ s a w K:=by
 simp only [PK.q] at hk
 have hr:=hR.op hx (by simp [ho,Op.operands])
 split at hk
 ·rename_i cs o' e
  rw [e] at hr
  obtain⟨b,off,u,e1,hc,hd⟩:=hr.inv_cp
  have hall:ag=true->zY ((cs.drop o').take n')=true:=fun _=>by
   unfold zY
   rw [List.all_eq_true]
   intro p hp
   obtain⟨j,hj⟩:=List.getElem?_of_mem (List.mem_of_mem_drop (List.mem_of_mem_take hp))
   exact(hd j p hj).isD
  obtain⟨u',p,g1,g2,g3⟩:=Qv (P:=P) (ρ:=ρ) (nb:=s.b.length) h3 hk (fun j hj=>(hc j hj).2) (fun j p hp=>.dat (D:=D) (hd j p hp)) hall
  exact .strip (u:=u') (p:=p) (by simp [execOp,ho,e1,Instr.loadAt,Instr.sureAddr,g1]) g2 g3
 ·rename_i i' o' e
  rw [e] at hr
  obtain⟨hi,e1⟩:=hr.inv_bx
  split at hk
  ·rename_i cs hcs
   obtain⟨vs,e',hv,hz,hb⟩:=hR.boxes i' cs hcs
   have hcell:∀ j,j<cs.length->w.cell? ⟨ρ i',0+j,none⟩=some (vs.getD j undef)/\(vs.getD j undef).oneCell'=true:=fun j hj=>by
    refine⟨?_,(hb j _ (List.getElem?_eq_getElem hj)).2⟩
    simp only [World.cell?,hv]
    simp [show j<vs.size by omega]
   obtain⟨u',p,g1,g2,g3⟩:=Qv (P:=P) (D:=D) (ρ:=ρ) (nb:=s.b.length) h3 hk.2 hcell (fun j p hp=>(hb j p hp).1) (fun _=>hk.1)
   rw [Nat.zero_add] at g1
   exact .strip (u:=u') (p:=p) (by simp [execOp,ho,e1,Instr.loadAt,Instr.sureAddr,g1]) g2 g3
  ·exact hk.elim
 ·exact hk.elim
omit hR in
theorem K7 {t:TypeId} (h:jX P t=true):∃ k,P.underlying t=some (.int k):=by
 unfold jX at h
 split at h
 ·exact⟨_,by assumption⟩
 ·cases h
omit hR in
theorem ky {t:TypeId} (h:jX P t=true) {cs:Array Value} {o:Nat} {v:Value} (hv:cs[o]? = some v):(part t cs o).run P w=.ok v w:=by
 obtain⟨k,hu⟩:=K7 h
 simp [part,xy hu,Qb,hv]
omit hR in
theorem KT {t:TypeId} (h:jX P t=true) (d:Nat) (k:IntKind) (m n:Int):(Op.equalIn (d+1) t (.int k m) (.int k n)).run P w=.ok (decide (m=n)) w:=by
 obtain⟨kk,hu⟩:=K7 h
 rw [run_equalIn_int w d t k kk m n hu]
 congr 1
omit hR in
theorem KS (d:Nat) {vs us:Array Value}:∀(fs:List Field) (i:Nat) (xs ys:List PV),K8 P i fs=true->xs.length=fs.length->jy xs ys->(∀ j v,xs[j]? = some (.v v)->vs[i+j]? = some v)->(∀ j v,ys[j]? = some (.v v)->us[i+j]? = some v)->(Op.eqFields (d+1) vs us fs).run P w=.ok (xQ xs ys) w
 | [],i,xs,ys,_,hl,_,_,_=>by
   obtain rfl:xs=[]:=List.length_eq_zero_iff.1 hl
   simp [Op.eqFields,xQ]
 | f::fs,i,xs,ys,hi,hl,hc,hv,hu=>by
   unfold K8 at hi
   simp only [Bool.and_eq_true,bne_iff_ne,ne_eq,beq_iff_eq] at hi
   obtain⟨⟨⟨h1,h2⟩,h3⟩,h4⟩:=hi
   unfold jy at hc
   split at hc
   ·cases hl
   ·rename_i k a r k' b r'
    obtain⟨rfl,hc⟩:=hc
    have e1:=hv 0 _ rfl
    have e2:=hu 0 _ rfl
    rw [Nat.add_zero,<-h2] at e1 e2
    have ih:=KS d (vs:=vs) (us:=us) fs (i+1) r r' h4 (by simpa using hl) hc (fun j v h=>by have:=hv (j+1) v h;rwa [show i+(j+1)=i+1+j by omega] at this) (fun j v h=>by have:=hu (j+1) v h;rwa [show i+(j+1)=i+1+j by omega] at this)
    simp only [Op.eqFields,h1,ne_eq,not_false_eq_true,if_true,Sem.run_bind,ky (P:=P) (w:=w) h3 e1,ky (P:=P) (w:=w) h3 e2,Result.andThen_ok,KT (P:=P) (w:=w) h3 d k a b]
    by_cases hab:a=b
    ·simp [hab,ih,xQ]
    ·simp [hab,xQ]
   ·cases hc
omit hR in
theorem KR (d:Nat) {e:TypeId} (he:jX P e=true) {vs us:Array Value}:∀(xs ys:List PV) (i:Nat),jy xs ys->(∀ j v,xs[j]? = some (.v v)->vs[i+j]? = some v)->(∀ j v,ys[j]? = some (.v v)->us[i+j]? = some v)->(Op.eqItems (d+1) e 1 vs us (List.range' i xs.length)).run P w=.ok (xQ xs ys) w
 | [],ys,i,_,_,_=>by simp [Op.eqItems,xQ]
 | x::xs,ys,i,hc,hv,hu=>by
   unfold jy at hc
   split at hc
   ·rename_i h
    cases h
   ·rename_i k a r k' b r' h
    cases h
    obtain⟨rfl,hc⟩:=hc
    have e1:=hv 0 _ rfl
    have e2:=hu 0 _ rfl
    rw [Nat.add_zero] at e1 e2
    have ih:=KR d he (vs:=vs) (us:=us) xs r' (i+1) hc (fun j v h=>by have:=hv (j+1) v h;rwa [show i+(j+1)=i+1+j by omega] at this) (fun j v h=>by have:=hu (j+1) v h;rwa [show i+(j+1)=i+1+j by omega] at this)
    simp only [List.length_cons,List.range'_succ,Op.eqItems,Sem.run_bind,Nat.mul_one,ky (P:=P) (w:=w) he e1,ky (P:=P) (w:=w) he e2,Result.andThen_ok,KT (P:=P) (w:=w) he d k a b]
    by_cases hab:a=b
    ·simp [hab,ih,xQ]
    ·simp [hab,xQ]
   ·cases hc
omit hR in
theorem zfc {t:TypeId} {n:Nat} (ht:za9 P t=some n) {vs us:Array Value} {xs ys:List PV} (hl:xs.length=n) (hc:jy xs ys) (hv:∀ j v,xs[j]? = some (.v v)->vs[0+j]? = some v) (hu:∀ j v,ys[j]? = some (.v v)->us[0+j]? = some v):(Op.equal t (.agg vs) (.agg us)).run P w=.ok (xQ xs ys) w/\∀ op ox oy,(eqGuard op t ox oy (.agg vs) (.agg us)).run P w=.ok () w:=by
 unfold za9 at ht
 split at ht
 ·rename_i fs hf
  split at ht
  ·rename_i hcond
   simp only [Bool.and_eq_true,Bool.not_eq_true'] at hcond
   obtain⟨⟨h1,h2⟩,h3⟩:=hcond
   cases ht
   have hfo:P.fieldsOf t=fs:=by unfold Program.fieldsOf;rw [hf]
   refine⟨?_,fun op ox oy=>run_eqGuard_agg w op t ox oy vs us h3⟩
   show (Op.equalIn (9998+1+1) t _ _).run P w=_
   rw [run_equalIn_agg w _ t vs us (by rw [hfo];exact hf) h2,hfo]
   exact KS _ _ 0 xs ys h1 (by simpa using hl) hc hv hu
  ·cases ht
 ·rename_i m e hf
  split at ht
  ·rename_i hcond
   simp only [Bool.and_eq_true,Bool.not_eq_true',beq_iff_eq] at hcond
   obtain⟨⟨⟨h1,h2⟩,h3⟩,h4⟩:=hcond
   cases ht
   obtain⟨i,hi⟩:=Option.isSome_iff_exists.1 h2
   refine⟨?_,fun op ox oy=>run_eqGuard_agg w op t ox oy vs us h4⟩
   show (Op.equalIn (9998+1+1) t _ _).run P w=_
   rw [run_equalIn_array w _ vs us hf hi,h3,List.range_eq_range',<-hl]
   exact KR _ h1 xs ys 0 hc hv hu
  ·cases ht
 ·cases ht
omit hR in
theorem KU:∀ {xs ys:List PV},jy xs ys->(∀ p ∈ xs,∃ v,p=.v v)/\∀ p ∈ ys,∃ v,p=.v v
 | [],[],_=>⟨by simp,by simp⟩
 | [],_::_,h=>by simp [jy] at h
 | x::xs,ys,h=>by
   unfold jy at h
   split at h
   ·rename_i e
    cases e
   ·rename_i e
    cases e
    obtain⟨i1,i2⟩:=KU h.2
    exact⟨fun p hp=>(List.mem_cons.1 hp).elim (fun e=>⟨_,e⟩) (i1 p),fun p hp=>(List.mem_cons.1 hp).elim (fun e=>⟨_,e⟩) (i2 p)⟩
   ·cases h
theorem zlx {op:BinOp} {t t':TypeId} {x y:Operand} {x' y':PO} (ho:o.op=.binOp op t x y t') (hop:op=.eql\/op=.neq) (ht:(za9 P t).isSome=true) (hx:po x=some x') (hy:po y=some y') (hk:zbz (op == .neq) ((za9 P t).getD 0) (s.ev x') (s.ev y') K):QS P o D ρ s a w K:=by
 have hrx:=hR.op hx (by simp [ho,Op.operands])
 have hry:=hR.op hy (by simp [ho,Op.operands])
 obtain⟨n,hn⟩:=Option.isSome_iff_exists.1 ht
 rw [hn] at hk
 unfold zbz at hk
 split at hk
 ·rename_i xs ys ex ey
  obtain⟨⟨hl,hc⟩,hk⟩:=hk
  rw [ex] at hrx
  rw [ey] at hry
  have get:∀ {u:Value} {ps:List PV},(∀ p ∈ ps,∃ v,p=.v v)->Rel D ρ s.b.length w u (.agg ps)->∃ vs:Array Value,u=.agg vs/\∀ j v,ps[j]? = some (.v v)->vs[0+j]? = some v:=fun hall h=>by
   obtain⟨vs,rfl,hz,_,hd⟩:=h.inv_agg
   refine⟨vs,rfl,fun j v hj=>?_⟩
   have h0:=hd j _ hj
   have hj':j<vs.size:=by rw [hz];exact(List.getElem?_eq_some_iff.1 hj).1
   rw [Array.getD_eq_getD_getElem?,Array.getElem?_eq_getElem hj',Option.getD_some] at h0
   rw [Nat.zero_add,Array.getElem?_eq_getElem hj']
   generalize vs[j]=z at h0
   cases h0
   rfl
  obtain⟨a1,a2⟩:=KU hc
  obtain⟨vs,e1,hv⟩:=get a1 hrx
  obtain⟨us,e2,hu⟩:=get a2 hry
  obtain⟨r1,r2⟩:=zfc (P:=P) (w:=w) hn hl hc hv hu
  refine .det ?_ (.dat (.v _)) hk rfl
  rcases hop with rfl | rfl
  ·simp only [execOp,ho,Sem.run_bind,e1,e2,r2,Result.andThen_ok,Sem.run_pure,binOp,r1]
   cases xQ xs ys<;>rfl
  ·simp only [execOp,ho,Sem.run_bind,e1,e2,r2,Result.andThen_ok,Sem.run_pure,binOp,r1]
   cases xQ xs ys<;>rfl
 ·exact hk.elim
theorem znu {t:TypeId} {e:TypeId} {x:Operand} {x':PO} {c:Call} (ho:o.op=.call c) (hc:c.callee=.builtin .len) (ha:c.args=#[x]) (hat:c.argTypes=#[t]) (h1:P.underlying t=some (.slice e)) (hx:po x=some x')
 (hk:QA (s.ev x') fun es=>K (.v (.int .i64 es.length))):QS P o D ρ s a w K:=by
 obtain⟨es,k,ex,h4⟩:=y8 hk
 have hr:=hR.op hx (by simp [ho,Op.operands,Call.operands,hc,ha])
 rw [ex] at hr
 obtain⟨ad,cap,sz,b,off,f,e1,_⟩:=hr.inv_sl
 refine .det (u:=.int .i64 es.length) ?_ (.dat (.v _)) h4 rfl
 simp [execOp,ho,resolve,hc,ha,hat,invoke,builtin,Builtin.len_,run_underlying h1,e1,goInt]
theorem zno {x:Operand} {x':PO} {i:Nat} (ho:o.op=.extract x i) (hx:po x=some x') (hk:PK.q P s (.ex x' i) K):QS P o D ρ s a w K:=by
 simp only [PK.q] at hk
 have hr:=hR.op hx (by simp [ho,Op.operands])
 split at hk
 ·rename_i cs e
  rw [e] at hr
  obtain⟨vs,e1,hz,hd⟩:=hr.inv_tup
  split at hk
  ·rename_i p hp
   have hi:i<vs.size:=Y7 hz hp
   refine .strip (u:=vs.getD i undef) (p:=p) ?_ (.dat (hd i p hp)) hk
   simp [execOp,ho,e1,Instr.extract,hi]
  ·exact hk.elim
 ·exact hk.elim
theorem znx {x:Operand} {x':PO} (ho:o.op=.nilCheck x) (hx:po x=some x') (hk:PK.q P s (.nc x') K):QS P o D ρ s a w K:=by
 simp only [PK.q] at hk
 have hr:=hR.op hx (by simp [ho,Op.operands])
 split at hk
 ·rename_i i o' e
  rw [e] at hr
  obtain⟨hi,e1⟩:=hr.inv_bx
  exact .det (by simp [execOp,ho,e1]) hr hk rfl
 ·rename_i cs o' e
  rw [e] at hr
  obtain⟨b,off,u,e1,hc,hd⟩:=hr.inv_cp
  exact .det (by simp [execOp,ho,e1]) hr hk rfl
 ·exact hk.elim
theorem znw {t:TypeId} {d:TypeDesc} {x:Operand} {x':PO} (ho:o.op=.makeInterface t x) (h1:P.underlying t=some d) (h2:∀ ms,d≠.interface ms) (hx:po x=some x') (hk:PK.q P s (.mi t x') K):QS P o D ρ s a w K:=by
 simp only [PK.q] at hk
 have hr:=hR.op hx (by simp [ho,Op.operands])
 split at hk
 ·rename_i hd
  refine .det (u:=.iface t (a.eval x)) ?_ (.dat (.ifc _ _ _ (hr.data hd).sh)) hk rfl
  simp only [execOp,ho,Sem.run_bind,Instr.makeInterface,run_underlying h1,Result.andThen_ok]
  cases d<;>first | rfl | exact absurd rfl (h2 _)
 ·exact hk.elim
theorem znv {f:Fn} {fs cs:Array Operand} {fs' cs':List PO} (ho:o.op=.makeFunc f fs cs) (h1:Qu fs.toList=some fs') (h2:Qu cs.toList=some cs') (hk:PK.q P s (.mf f fs' cs') K):QS P o D ρ s a w K:=by
 simp only [PK.q,Bool.and_eq_true,List.all_eq_true,Bool.or_eq_true] at hk
 obtain⟨⟨hd,hd2⟩,hk⟩:=hk
 obtain⟨l1,p1⟩:=kz h1
 obtain⟨l2,p2⟩:=kz h2
 have key:∀ {ys:Array Operand} {ys':List PO},ys'.length=ys.toList.length->(∀(i:Nat) (y:Operand),ys.toList[i]? = some y->∃ y',ys'[i]? = some y'/\po y=some y')->(∀ x ∈ ys',(s.ev x).sh.isD=true\/(s.ev x).sh.isB=true)->(∀ y ∈ ys.toList,y ∈ o.op.operands.toList) ->
  ∀(i:Nat) q,(ys'.map fun x=>(s.ev x).sh)[i]? = some q->Rel1 D ρ s.b.length w ((ys.map a.eval).getD i undef) q:=by
  intro ys ys' hl hp hdd hop i q hq
  simp only [List.getElem?_map,Option.map_eq_some_iff] at hq
  obtain⟨x',hx',rfl⟩:=hq
  have hi:i<ys.toList.length:=by rw [<-hl];exact(List.getElem?_eq_some_iff.1 hx').1
  obtain⟨y',hy',hpo⟩:=hp i _ (List.getElem?_eq_getElem hi)
  rw [hx'] at hy'
  cases hy'
  have hr:Rel D ρ s.b.length w (a.eval ys.toList[i]) (s.ev x').sh:=by
   have:=hR.op hpo (hop _ (List.getElem_mem hi))
   rcases hdd x' (List.mem_of_getElem? hx') with h | h
   ·exact .dat ((this.data (by rwa [PV.sh_isD] at h)).sh)
   ·rcases this with(this | ⟨i,o,e,h1,h2⟩) | ⟨f,va,vb,fs,cs,e,_⟩
    ·exact .dat this.sh
    ·exact .inl (.inr ⟨i,o,by rw [e];rfl,h1,h2⟩)
    ·rw [e] at h;cases h
  have e:(ys.map a.eval).getD i undef=a.eval ys.toList[i]:=by
   have:i<ys.size:=by simpa using hi
   simp [this]
  rw [e]
  rcases hdd x' (List.mem_of_getElem? hx') with h | h
  ·exact .inl (hr.data h)
  ·rcases hr with hr | ⟨f,va,vb,fs,cs,e,_⟩
   ·exact hr
   ·rw [e] at h;cases h
 refine .det (u:=.func f (fs.map a.eval) (cs.map a.eval)) (by simp [execOp,ho,Instr.makeFunc]) (.inr ⟨f,_,_,_,_,rfl,rfl,by simpa using l1.symm,by simpa using l2.symm,?_,?_⟩) hk rfl
 ·exact key l1 p1 hd fun y hy=>by simp only [ho,Op.operands,Array.toList_append,List.mem_append];exact .inl hy
 ·exact key l2 p2 hd2 fun y hy=>by simp only [ho,Op.operands,Array.toList_append,List.mem_append];exact .inr hy
theorem zly {m:Bool} {x y:Operand} {x' y':PO} {c:Call} (ho:o.op=.call c) (hc:c.callee=.builtin (if m then .max else .min)) (ha:c.args=#[x,y]) (hx:po x=some x') (hy:po y=some y') (hk:PK.q P s (.mm m x' y') K):QS P o D ρ s a w K:=by
 simp only [PK.q] at hk
 obtain⟨k,m1,e1,_,h4⟩:=yu hk (hR.op hx (by simp [ho,Op.operands,Call.operands,hc,ha]))
 obtain⟨k',m2,e2,_,rfl,h5⟩:=yu h4 (hR.op hy (by simp [ho,Op.operands,Call.operands,hc,ha]))
 refine .det ?_ (.dat (.v _)) h5 rfl
 cases m
 ·simp [execOp,ho,resolve,hc,ha,invoke,builtin,Builtin.min_,e1,e2,Builtin.min2]
 ·simp [execOp,ho,resolve,hc,ha,invoke,builtin,Builtin.max_,e1,e2,Builtin.max2]
end
end Go.Proofs.YtonhfknjcbakiaaGreatDoor
namespace Go.Proofs.YtonhfknjcbakiaaGreatDoor
open Go.RowKit
attribute [local go_sem] Oper.semAt_some
def Jd (l:List Iv):List Nat:=l.flatMap fun s=>[s.lo,s.hi+1]
theorem ZY (l:List Iv):(Jd l).length=2 * l.length:=by
 induction l with
 | nil=>rfl
 | cons s l ih=>simp [Jd] at ih ⊢;omega
theorem zah {l:List Iv} {x y:Nat} (h:ye l x=some y):y ∈ Jd l:=by
 induction l with
 | nil=>cases h
 | cons s l ih=>
   unfold ye at h
   split at h
   ·cases h;simp [Jd]
   ·split at h
    ·cases h;simp [Jd]
    ·have:=ih h;simp [Jd] at this ⊢;exact .inr (.inr this)
def YV (l:List Nat) (x:Nat):Nat:=l.countP fun y=>decide (x<y)
theorem ZX (l:List Nat) {x y:Nat} (h:x<y):YV l y<=YV l x:=by
 unfold YV
 exact List.countP_mono_left fun z _ hz=>by simp at hz ⊢;omega
theorem zcr {l:List Nat} {x y:Nat} (h:x<y) (hm:y ∈ l):YV l y+1<=YV l x:=by
 induction l with
 | nil=>cases hm
 | cons z l ih=>
   unfold YV
   rw [List.countP_cons,List.countP_cons]
   rcases List.mem_cons.1 hm with rfl | hm
   ·have:=ZX l h
    unfold YV at this
    simp [h];omega
   ·have:=ih hm
    unfold YV at this
    by_cases h1:y<z
    ·have h2:x<z:=by omega
     simp [h1,h2];omega
    ·simp [h1];omega
theorem Qs (a b:List Iv):∀(f x:Nat),(QU a b f x).length<=YV (Jd a) x+YV (Jd b) x+1
 | 0,_=>Nat.zero_le _
 | f+1,x=>by
   unfold QU
   cases h:kv (ye a x) (ye b x) with
   | none=>simp
   | some y=>
     have ih:=Qs a b f y
     have:YV (Jd a) y+YV (Jd b) y+1<=YV (Jd a) x+YV (Jd b) x:=by
      have key:ye a x=some y\/ye b x=some y:=by
       cases ea:ye a x<;>cases eb:ye b x<;>rw [ea,eb] at h<;>simp only [kv] at h
       ·cases h
       ·exact .inr h
       ·exact .inl h
       ·split at h
        ·exact .inr h
        ·exact .inl h
      rcases key with h | h
      ·have:=zcr (xr h) (zah h)
       have:=ZX (Jd b) (xr h)
       omega
      ·have:=zcr (xr h) (zah h)
       have:=ZX (Jd a) (xr h)
       omega
     simp;omega
theorem jF (a b:List Iv):(yO a b).length<=2 * (a.length+b.length)+1:=by
 have h1:=Qs a b zk 0
 have h2:YV (Jd a) 0<=2 * a.length:=by rw [<-ZY];exact List.countP_le_length
 have h3:YV (Jd b) 0<=2 * b.length:=by rw [<-ZY];exact List.countP_le_length
 unfold yO;omega
theorem J9 (out:List Iv) (s:Iv):(Q8 out s).length<=out.length+1:=by
 unfold Q8
 split
 ·simp
 ·rename_i t ht
  split
  ·have:out≠[]:=by intro e;subst e;simp at ht
   have:=List.length_pos_iff.2 this
   simp
   try omega
  ·simp
theorem jD (f:Bool->Bool->Bool) (xs:List (Iv × Bool × Bool)):∀ out:List Iv,(qg f out xs).length<=out.length+xs.length:=by
 induction xs with
 | nil=>intro out;simp [qg]
 | cons x xs ih=>
   intro out
   obtain⟨s,p,q⟩:=x
   simp only [qg]
   by_cases e:f p q=true
   ·have h1:=ih (Q8 out s)
    have h2:=J9 out s
    rw [if_pos e]
    simp only [List.length_cons];omega
   ·have h1:=ih out
    rw [if_neg e]
    simp only [List.length_cons];omega
theorem xq {f:Bool->Bool->Bool} {a b:List Iv}:∀(pre:List (Iv × Bool × Bool)) (x:Nat) (out:List Iv) (y:Iv × Bool × Bool) (r:List (Iv × Bool × Bool)),Cov a b x (pre++y::r)->Nrm out->(∀ t ∈ out,t.hi<x) ->
 Nrm (qg f out pre)/\(∀ t ∈ qg f out pre,t.hi<y.1.lo)/\y.1.lo<=y.1.hi/\y.1.hi<zk
 | [],x,out,(s,p,q),r,⟨h1,h2,h3,_⟩,ho,ht=>⟨ho,fun t h=>by have:=ht t h;show t.hi<s.lo;omega,by show s.lo<=s.hi;omega,h3⟩
 | (s,p,q)::pre,x,out,y,r,⟨h1,h2,h3,_,h5⟩,ho,ht=>by
   simp only [qg]
   have g:=Xm (s:=s) ho (fun t h=>by have:=ht t h;omega) (by omega) h3
   split
   ·exact xq pre _ _ y r h5 g.1 fun t h=>by have:=g.2.2 t h;omega
   ·exact xq pre _ _ y r h5 ho fun t h=>by have:=ht t h;omega
theorem zcT (o:List Iv) (t:Iv) (hi:Nat):(xw (o++[t])).set (o.length * 2+1) (.int .u64 hi)=xw (o++[⟨t.lo,hi⟩]):=by
 rw [vy,vy,List.set_append_right _ _ (by rw [y6];omega),y6]
 congr 1
 rw [show o.length * 2+1 - o.length * 2=1 from by omega]
 rfl
theorem OwnR.last {base:Nat} {w:World} {ad:Option Addr} {n cap:Nat} {o:List Iv} {t:Iv} (h:OwnR base w (.slice ad n cap) (o++[t])) :
 ∃ g,base<=g/\ad=some ⟨g,0,none⟩/\o.length+1<=cap/\cap<=maxLen/\w.cell? ⟨g,o.length * 2,none⟩=some (.int .u64 t.lo)/\w.cell? ⟨g,o.length * 2+1,none⟩=some (.int .u64 t.hi)/\t.lo<zk/\t.hi<zk:=by
 have hb:=h.2 t (by simp)
 have h1:=h.1
 rcases id h1.2 with⟨_,h0⟩ | ⟨g,cap',cur,hv,hg,hh,hn,hc,_⟩
 ·simp at h0
 ·simp only [Value.slice.injEq] at hv
  obtain⟨rfl,rfl,rfl⟩:=hv
  have hf:=vz (o++[t]) o.length (by simp)
  simp only [List.getElem_concat_length] at hf
  refine⟨g,hg,rfl,by simpa using hn,hc,?_,?_,hb⟩
  ·rw [h1.cellAt _ (by simp)];exact hf.1
  ·rw [h1.cellAt _ (by simp;omega)];exact hf.2
theorem OwnR.setHi {base:Nat} {w:World} {g n cap:Nat} {o:List Iv} {t:Iv} (h:OwnR base w (.slice (some ⟨g,0,none⟩) n cap) (o++[t])) (hn:n=o.length+1) (hi:Nat) (hh:hi<zk) :
 OwnR base (w.setCell ⟨g,o.length * 2+1,none⟩ (.int .u64 hi)) (.slice (some ⟨g,0,none⟩) n cap) (o++[⟨t.lo,hi⟩]):=by
 subst hn
 have h1:=h.1
 simp only [List.length_append,List.length_cons,List.length_nil,Nat.zero_add] at h1
 have:=(h1.stored (o.length * 2+1) (.int .u64 hi)).1
 rw [zcT] at this
 refine⟨by simpa using this,fun u hu=>?_⟩
 simp at hu
 rcases hu with hu | rfl
 ·exact h.2 u (by simp [hu])
 ·exact⟨(h.2 t (by simp)).1,hh⟩
theorem vG (f:Bool->Bool->Bool) (fid:Nat) (hent:∀ args w,(callFunc fid args).run Tryz.prog w=.ok (.enter fid args) w)
 (htk:∀ p q w,Calls Tryz.prog fid #[.agg #[.bool p,.bool q]] w fun e w'=>e=.returned (.bool (f p q))/\Below w.heap.size w w')
 (a b:List Iv) (va vb:Value) (w:World) (ha:Nrm a) (hb:Nrm b) (ra:RdR 0 w.heap.size w va a) (rb:RdR 0 w.heap.size w vb b) (hlen:a.length+b.length<=1073741824) :
 Calls Tryz.prog 114 #[va,vb,.func (.func fid) #[] #[]] w fun e w'=>∃ v,e=.returned v/\OwnR w.heap.size w' v (qy f a b)/\Below w.heap.size w w':=by
 obtain⟨aa,ca,rfl,_⟩:=id ra
 obtain⟨ab,cb,rfl,_⟩:=id rb
 refine callsIn_wide.1 (callsIn_of_wp_marks (n:=9) Tryz.func114 rfl trivial ?_ rfl)
 simp only [Tryz.ntmps114,List.size_toArray,List.length_cons,List.length_nil,Nat.reduceAdd,Nat.reduceSub,Array.replicate_succ,Array.replicate_zero,List.push_toArray,List.append_toArray,List.nil_append,List.cons_append]
 gi_wp2_with (refine⟨trivial,?_⟩;gi_at_call 161;refine(callsIn_wide.2 (Xi _ _ _ _ _ _ _)).mono ?_;rintro e w' ⟨rfl,rfl⟩)
 obtain⟨W0,hW0⟩:∃ W0,((((w.alloc (Obj.cells #[Value.func (Fn.func fid) #[] #[]] 140)).alloc (Obj.cells #[Value.slice none 0 0] 30)).alloc (Obj.cells #[Value.slice aa a.length ca] 30)).alloc (Obj.cells #[Value.slice ab b.length cb] 30))=W0:=⟨_,rfl⟩
 have hsz:W0.heap.size=w.heap.size+4:=by rw [<-hW0];simp
 have b0:Boxed W0 w.heap.size 140 (Value.func (Fn.func fid) #[] #[]):=by rw [<-hW0];exact(((Boxed.new w _ _).alloc _).alloc _).alloc _
 have b1:Boxed W0 (w.heap.size+1) 30 (Value.slice none 0 0):=by rw [<-hW0];have:=Boxed.new (w.alloc (Obj.cells #[Value.func (Fn.func fid) #[] #[]] 140)) 30 (Value.slice none 0 0);rw [World.size_alloc] at this;exact(this.alloc _).alloc _
 have b2:Boxed W0 (w.heap.size+1+1) 30 (Value.slice aa a.length ca):=by rw [<-hW0];have:=Boxed.new ((w.alloc (Obj.cells #[Value.func (Fn.func fid) #[] #[]] 140)).alloc (Obj.cells #[Value.slice none 0 0] 30)) 30 (Value.slice aa a.length ca);simp only [World.size_alloc] at this;exact this.alloc _
 have b3:Boxed W0 (w.heap.size+1+1+1) 30 (Value.slice ab b.length cb):=by rw [<-hW0];have:=Boxed.new (((w.alloc (Obj.cells #[Value.func (Fn.func fid) #[] #[]] 140)).alloc (Obj.cells #[Value.slice none 0 0] 30)).alloc (Obj.cells #[Value.slice aa a.length ca] 30)) 30 (Value.slice ab b.length cb);simp only [World.size_alloc] at this;exact this
 have hB0:Below w.heap.size w W0:=by rw [<-hW0];exact((((Below.refl _ _).alloc (Nat.le_refl _) _).alloc (by simp) _).alloc (by simp;omega) _).alloc (by simp;omega) _
 rw [hW0]
 clear hW0
 have hcov:=j4 ha hb
 have hpl:=jF a b
 refine ziP (w:=W0) 194 #[.pointer (some ⟨w.heap.size+1+1,0,none⟩),.pointer (some ⟨w.heap.size+1+1+1,0,none⟩)] rfl (enters_of Tryz.func194 (by kernel_rfl) rfl) za1 (fun _=>rfl)
  (fun k=>k=w.heap.size+1+1\/k=w.heap.size+1+1+1) (fun k=>k<w.heap.size\/k=w.heap.size+1+1\/k=w.heap.size+1+1+1) (yO a b) ?hit
  (fun k=>k=w.heap.size+1\/w.heap.size+6<=k) (fun k hk=>by omega) (by omega) ⟨by omega,by omega⟩
  (fun pre W=>(∃ v,Boxed W (w.heap.size+1) 30 v/\OwnR (w.heap.size+6) W v (qg f [] pre))/\Boxed W w.heap.size 140 (Value.func (Fn.func fid) #[] #[])/\Below w.heap.size w W)
  (fun _ _ _=>False) ?hI (fun _ _ _ _ h _=>h) ⟨⟨_,b1,OwnR.nil _ _⟩,b0,hB0⟩
  (fun pre x a' W=>((∃ v,Boxed W (w.heap.size+1) 30 v/\OwnR (w.heap.size+6) W v (qg f [] pre))/\Boxed W w.heap.size 140 (Value.func (Fn.func fid) #[] #[])/\Below w.heap.size w W) /\
    ∃ Bp Bs,W.heap[Bp]? = some (.cells #[.int .u64 x.1.lo,.int .u64 x.1.hi] 36 (0,0))/\W.heap[Bs]? = some (.cells #[.bool x.2.1,.bool x.2.2] 139 (0,0))/\w.heap.size+6<=Bp/\w.heap.size+6<=Bs /\
    a'={ tmps:=#[Value.slice aa a.length ca,Value.slice ab b.length cb,Value.func (Fn.func fid) #[] #[],undef,undef,Value.pointer (some ⟨w.heap.size,0,none⟩),Value.slice none 0 0,Value.pointer (some ⟨w.heap.size+1,0,none⟩),Value.pointer (some ⟨Bp,0,none⟩),Value.pointer (some ⟨Bs,0,none⟩),undef,Value.slice aa a.length ca,Value.slice ab b.length cb,Value.func (Fn.func 194) #[] #[Value.pointer (some ⟨w.heap.size+1+1,0,none⟩),Value.pointer (some ⟨w.heap.size+1+1+1,0,none⟩)],.agg #[.int .u64 x.1.lo,.int .u64 x.1.hi],.agg #[.bool x.2.1,.bool x.2.2],undef,undef,undef,undef,undef,undef,undef,undef,undef,undef,undef,undef,undef,undef,undef,undef,undef,undef,undef,undef,undef,undef,undef,undef,undef,undef,undef,undef,undef],defers:=[] })
  ?hAx ?hassign ?hbody ?hdone (fun _ _ _ _ h _=>h.elim)
 case hit=>
  intro W hk _
  exact J7 a b _ _ (w.heap.size+1+1) (w.heap.size+1+1+1) w.heap.size W ha hb (by omega) (by omega) (by omega)
   ⟨hk.boxed b2 id,hk.boxed b3 id,ra.below (hB0.trans (hk.below (by omega) fun _ _=>id)) (Nat.le_refl _),rb.below (hB0.trans (hk.below (by omega) fun _ _=>id)) (Nat.le_refl _),Suf.refl _ _,Suf.refl _ _⟩
 case hI=>
  rintro pre A B ⟨⟨v,h1,h2⟩,h3,h4⟩ hk
  exact⟨⟨v,hk.boxed h1 (by omega),h2.keep hk (fun g hg=>by omega)⟩,hk.boxed h3 (by omega),h4.trans (hk.below h4.size fun k hk=>by omega)⟩
 case hAx=>
  rintro pre x a' A B ⟨⟨⟨v,h1,h2⟩,h3,h4⟩,Bp,Bs,hp,hs,hp6,hs6,rfl⟩ hk
  exact⟨⟨⟨v,hk.boxed h1 (by omega),h2.keep hk (fun g hg=>by omega)⟩,hk.boxed h3 (by omega),h4.trans (hk.below h4.size fun k hk=>by omega)⟩,Bp,Bs,hk.obj hp (by omega),hk.obj hs (by omega),hp6,hs6,rfl⟩
 case hassign=>
  rintro l pre ⟨⟨lo,hi⟩,p,q⟩ W hpx hlt ⟨⟨v,h1,h2⟩,h3,h4⟩
  clear hpx
  dsimp only [za1]
  gi_wp2
  have hka:∀ o1 o2,Keep (fun k=>k=w.heap.size+1\/w.heap.size+6<=k) W ((W.alloc o1).alloc o2):=fun o1 o2=>((Keep.refl _ _).alloc _).alloc _
  refine⟨hka _ _,⟨⟨v,(h1.alloc _).alloc _,(h2.keep ((Keep.refl qe W).alloc _) fun _ _=>id).keep ((Keep.refl qe _).alloc _) fun _ _=>id⟩,(h3.alloc _).alloc _,(h4.alloc h4.size _).alloc (by simp;have:=h4.size;omega) _⟩,
   W.heap.size,W.heap.size+1,?_,?_,by omega,by omega,rfl⟩
  ·exact(Below.heap_alloc _ _ _ (by simp)).trans (World.alloc_heap_new W _)
  ·have:=World.alloc_heap_new (W.alloc (.cells #[.int .u64 lo,.int .u64 hi] 36)) (.cells #[.bool p,.bool q] 139)
   rwa [World.size_alloc] at this
 case hbody=>
  rintro l pre x a' W ⟨r,hpx⟩ hlt ⟨⟨⟨v,h1,h2⟩,h3,h4⟩,Bp,Bs,hp,hs,hp6,hs6,rfl⟩
  obtain⟨⟨lo,hi⟩,p,q⟩:=x
  obtain⟨m1,m2,m3,m4⟩:=xq (f:=f) pre 0 [] (⟨lo,hi⟩,p,q) r (by rw [show pre++(⟨lo,hi⟩,p,q)::r=yO a b from by rw [<-hpx];simp];exact hcov) trivial (fun _ h=>by cases h)
  have hml:=jD f pre []
  have hpr:pre.length+1<=(yO a b).length:=by rw [<-hpx];simp
  have c3:=h3.cell
  have cs0:W.cell? ⟨Bs,0,none⟩=some (.bool p):=by simp [World.cell?,hs]
  have cs1:W.cell? ⟨Bs,1,none⟩=some (.bool q):=by simp [World.cell?,hs]
  obtain⟨i0,hi0,hz0,hz1,hz2⟩:=info_parts Tryz.infoIv
  have HM:=Lib.hid (And.intro hpx (And.intro hcov (And.intro hpl (And.intro m1 (And.intro m2 m3)))))
  dsimp only at m3 m4
  clear hpx hcov m1 m2 hs
  gi_wp2_with fail
  refine⟨trivial,CallsIn.mono (CallsIn.inRound l (callsIn_wide.2 (htk p q W))) ?_⟩
  rintro e W1 ⟨rfl,hb1⟩
  have hk1:Keep qe W W1:=Keep.of_below' hb1 (Nat.le_refl _)
  have h1':=hk1.boxed h1 id
  have h2':=h2.keep hk1 fun _ _=>id
  have h3':=hk1.boxed h3 id
  have h4':=h4.trans (hb1.mono h4.size)
  have hp':=hk1.obj hp id
  have hlt':w.heap.size+6<=W1.heap.size:=by have:=hk1.size;omega
  have HK1:=Lib.hid hk1
  clear hb1 hk1 h1 h2 h3 h4 hp c3 cs0 cs1
  obtain⟨out,hout⟩:∃ out,out=qg f [] pre:=⟨_,rfl⟩
  rw [<-hout] at h2' hml
  have HO:=Lib.hid hout
  clear hout
  have c1:=h1'.cell
  have cp0:W1.cell? ⟨Bp,0,none⟩=some (.int .u64 lo):=by simp [World.cell?,hp']
  have cp1:W1.cell? ⟨Bp,1,none⟩=some (.int .u64 hi):=by simp [World.cell?,hp']
  cases ht:f p q with
  | false=>
    have HT:=Lib.hid ht
    gi_wp2
    exact⟨HK1.out.mono fun _ _ h=>h.elim,⟨v,h1',by rw [yf];simp only [qg,HT.out,<-HO.out];exact h2'⟩,h3',h4'⟩
  | true=>
    have HT:=Lib.hid ht
    obtain⟨ad,cap,rfl⟩:=h2'.val
    have HH:=Lib.hid h2'
    clear h2'
    rcases List.eq_nil_or_concat out with rfl | ⟨o',t,rfl⟩
    ·gi_wp2_with fail
     refine Kh (Sw:=qe) (fun _=>trivial) 11 45 (fun _=>True) (by kernel_rfl) (by kernel_rfl) rfl trivial ?_
     simp only [List.take_succ_cons,List.take_zero]
     repeat (first
      | (refine V5 (fun _=>trivial) ?_ rfl (fun a w hc _ hr=>?_) ?_;rotate_left;(simp [Rds,zA,lk,Op.operands,Call.operands,RdEq] at hr;go_simp;with_reducible rfl);dsimp only [List.nil_append,List.cons_append])
      | (refine jI rfl ?_ ?_;(first | exact .inl (zG rfl rfl) | exact .inr (zG rfl rfl));dsimp only [List.nil_append,List.cons_append])
      | (refine QQ (fun _=>trivial) rfl ?_ ?_ (fun a w hc _ hr=>?_) ?_;exact(zG rfl rfl);rotate_left;(simp [Rds,zA,lk,Op.operands,Call.operands,RdEq] at hr;go_simp;with_reducible rfl);dsimp only [List.nil_append,List.cons_append]))
     intro w2 _ hk2
     simp only [finG,forall_eq,List.nil_append,List.cons_append,List.drop_succ_cons,List.drop_zero,List.drop_nil]
     simp only [Act.put,List.setIfInBounds_toArray,List.set_cons_succ,List.set_cons_zero]
     have hk2':Keep qe W1 w2:=((Keep.refl qe W1).drew).trans hk2
     have e1:=hk2'.boxed h1' id
     have e3:=hk2'.boxed h3' id
     have e4:=h4'.trans (hk2'.below h4'.size fun _ _=>id)
     have eo:=(HH.out).keep hk2' fun _ _=>id
     have HE:=Lib.hid (And.intro eo (And.intro e3 e4))
     have d1:=e1.cell
     have d2:w2.cell? ⟨Bp,0,none⟩=some (.int .u64 lo):=hk2'.cell_some cp0 id
     have d3:w2.cell? ⟨Bp,1,none⟩=some (.int .u64 hi):=hk2'.cell_some cp1 id
     have hlt2:w.heap.size+6<=w2.heap.size:=Nat.le_trans hlt' hk2'.size
     have HK2:=Lib.hid hk2'
     clear hk2 hk2' e3 e4 eo c1 cp0 cp1 h1' h3' h4'
     gi_wp2_with (gi_at_builtin;go_loud (refine wpListIn_append_own _ rfl _ _ 30 rfl (w.heap.size+6) 36 i0 (.agg #[.int .u64 0,.int .u64 0]) 2 16 Tryz.underlying30 hi0 hz0 hz1 hz2 rfl (by decide) _ _ _ rfl (HE.out.1.1.alloc _) ⟨w2.heap.size,0,none⟩ 1 1 [.int .u64 lo,.int .u64 hi] rfl rfl (kw (cs:=#[.int .u64 lo,.int .u64 hi]) (t := 36) (fr:=(0,0)) (World.alloc_heap_new w2 _)) (by simp [Value.oneCell']) (by unfold maxLen;first | decide | omega) (by first | decide | omega) (by rw [World.size_alloc];omega) ?_);intro v' w3 hown' hgrow _;obtain⟨g',cap',rfl⟩:=ownsRow_succ hown';obtain⟨q1,q2,q3,q4⟩:=qO e1 (by decide) HE.out.1.1 hown' hgrow;have q1c:=q1.cell;have q1f:=q1.frozen)
     refine⟨((HK1.out.trans HK2.out).mono fun _ _ h=>h.elim).trans (q4.mono fun k _ h=>h),⟨_,q2,?_⟩,q4.boxed HE.out.2.1 (by omega),HE.out.2.2.trans (q4.below HE.out.2.2.size fun k _=>by omega)⟩
     rw [yf]
     simp only [qg,HT.out,if_true,<-HO.out]
     exact HE.out.1.snoc ⟨by show lo<zk;omega,by show hi<zk;omega⟩ q3
    ·simp only [List.concat_eq_append,List.length_append,List.length_cons,List.length_nil,Nat.zero_add] at *
     obtain⟨g,hgb,rfl,hcap,hcm,hct0,hct1,htb⟩:=HH.out.last
     have htl:t.lo<=t.hi/\t.hi<zk:=by
      have:=NF.lo_ge HM.out.2.2.2.1 t (by rw [<-HO.out];simp)
      exact⟨this.2.1,this.2.2⟩
     have hts:t.hi<lo:=HM.out.2.2.2.2.1 t (by rw [<-HO.out];simp)
     have ct0:W1.cell? ⟨g,o'.length * 2,none⟩=some (.int .u64 t.lo):=hct0
     have ct1:W1.cell? ⟨g,o'.length * 2+1,none⟩=some (.int .u64 t.hi):=hct1
     clear hct0 hct1
     unfold maxLen at hcm
     have hix:((o'.length:Nat):Int)<(o'.length:Int)+1:=by omega
     gi_wp2_with fail
     by_cases htt:t.hi+1=lo
     ·have hrel:(((zR t ⟨lo,hi⟩:Nat):Int) == 1)=true:=by
       have:zR t ⟨lo,hi⟩=1:=by unfold zR;rw [if_pos hts,if_pos htt]
       rw [this];rfl
      have HTT:=Lib.hid htt
      clear htt
      refine Kh (Sw:=qe) (fun _=>trivial) 11 45 (fun w'=>w'.cell? ⟨w.heap.size+1,0,none⟩=some (.slice (some ⟨g,0,none⟩) (o'.length+1) cap)/\w'.cell? ⟨g,o'.length * 2,none⟩=some (.int .u64 t.lo)/\w'.cell? ⟨g,o'.length * 2+1,none⟩=some (.int .u64 t.hi)/\w'.cell? ⟨Bp,0,none⟩=some (.int .u64 lo)/\w'.cell? ⟨Bp,1,none⟩=some (.int .u64 hi)) (by kernel_rfl) (by kernel_rfl) rfl ⟨c1,ct0,ct1,cp0,cp1⟩ ?_
      simp only [List.take_succ_cons,List.take_zero]
      repeat (first
       | (refine V5 (fun _=>trivial) ?_ rfl (fun a w hc _ hr=>?_) ?_;rotate_left;(simp [Rds,zA,lk,Op.operands,Call.operands,RdEq] at hr;go_simp;with_reducible rfl);dsimp only [List.nil_append,List.cons_append])
       | (refine jI rfl ?_ ?_;(first | exact .inl (zG rfl rfl) | exact .inr (zG rfl rfl));dsimp only [List.nil_append,List.cons_append])
       | (refine QQ (fun _=>trivial) rfl ?_ ?_ (fun a w hc _ hr=>?_) ?_;exact(zG rfl rfl);rotate_left;(simp [Rds,zA,lk,Op.operands,Call.operands,RdEq] at hr;go_simp;with_reducible rfl);dsimp only [List.nil_append,List.cons_append]))
      refine zhg (fun u _=>u=.int .i64 ((zR t ⟨lo,hi⟩:Nat):Int)) (yj _) rfl (zG rfl rfl) ?_ ?_
      ·intro a2 w2 hc hk hr K hK
       have HK:=Lib.hid hK
       clear hK
       simp [Rds,zA,lk,Op.operands,Call.operands,RdEq] at hr
       refine⟨fun _ _=>trivial,?_⟩
       go_simp
       refine CallsIn.mono (CallsIn.inRound l (callsIn_wide.2 (QF t ⟨lo,hi⟩ _ htl.1 (by show lo<=hi;omega) htl.2 (by show hi<zk;omega)))) ?_
       rintro e w3 ⟨rfl,hb⟩
       have hkb:Keep qe w2 w3:=Keep.of_below' hb (Nat.le_refl _)
       exact HK.out _ _ hkb ⟨hkb.cell_some hc.1 id,hkb.cell_some hc.2.1 id,hkb.cell_some hc.2.2.1 id,hkb.cell_some hc.2.2.2.1 id,hkb.cell_some hc.2.2.2.2 id⟩ rfl
      dsimp only [List.nil_append,List.cons_append]
      repeat (first
       | (refine V5 (fun _=>trivial) ?_ rfl (fun a w hc _ hr=>?_) ?_;rotate_left;(simp [Rds,zA,lk,Op.operands,Call.operands,RdEq] at hr;go_simp;with_reducible rfl);dsimp only [List.nil_append,List.cons_append])
       | (refine jI rfl ?_ ?_;(first | exact .inl (zG rfl rfl) | exact .inr (zG rfl rfl));dsimp only [List.nil_append,List.cons_append])
       | (refine QQ (fun _=>trivial) rfl ?_ ?_ (fun a w hc _ hr=>?_) ?_;exact(zG rfl rfl);rotate_left;(simp [Rds,zA,lk,Op.operands,Call.operands,RdEq] at hr;go_simp;with_reducible rfl);dsimp only [List.nil_append,List.cons_append]))
      intro w2 _ hk2
      simp only [finG,forall_eq,List.nil_append,List.cons_append,List.drop_succ_cons,List.drop_zero,List.drop_nil]
      simp only [Act.put,List.setIfInBounds_toArray,List.set_cons_succ,List.set_cons_zero]
      have hk2':Keep qe W1 w2:=((Keep.refl qe W1).drew).trans hk2
      have e1:=hk2'.boxed h1' id
      have e3:=hk2'.boxed h3' id
      have e4:=h4'.trans (hk2'.below h4'.size fun _ _=>id)
      have eo:=(HH.out).keep hk2' fun _ _=>id
      have er:w2.ownsRow (w.heap.size+6) 36 2 (.slice (some ⟨g,0,none⟩) (o'.length+1) cap) (o'.length+1) (xw (o'++[t])):=by have:=eo.1;simpa using this
      have ER:=Lib.hid er
      have HE:=Lib.hid (And.intro eo (And.intro e3 e4))
      have d1:=e1.cell
      have d3:w2.cell? ⟨Bp,1,none⟩=some (.int .u64 hi):=hk2'.cell_some cp1 id
      have d4:w2.cell? ⟨g,o'.length * 2+1,none⟩=some (.int .u64 t.hi):=hk2'.cell_some ct1 id
      have d5:w2.frozen? ⟨g,o'.length * 2+1,none⟩=false:=er.frozenAt _
      have HK2:=Lib.hid hk2'
      clear hk2 hk2' e3 e4 eo er c1 cp0 cp1 ct0 ct1 h1' h3' h4'
      gi_wp2
      have hkg:Keep (fun k=>k=g) w2 (w2.setCell ⟨g,o'.length * 2+1,none⟩ (.int .u64 hi)):=(Keep.refl (fun k=>k=g) w2).setCell (p:=⟨g,o'.length * 2+1,none⟩) (fun _=>rfl) _
      refine⟨((HK1.out.trans HK2.out).mono fun _ _ h=>h.elim).trans (hkg.mono fun k _ h=>.inr (by rw [h];exact hgb)),⟨_,hkg.boxed e1 (by omega),?_⟩,hkg.boxed HE.out.2.1 (by omega),HE.out.2.2.trans (hkg.below HE.out.2.2.size fun k hk=>by omega)⟩
      rw [yf]
      simp only [qg,HT.out,if_true,<-HO.out]
      rw [show Q8 (o'++[t]) ⟨lo,hi⟩=o'++[⟨t.lo,hi⟩] from by unfold Q8;rw [List.getLast?_concat];simp only;rw [if_pos HTT.out,List.dropLast_concat]]
      exact HE.out.1.setHi rfl hi (by omega)
     ·have hrel:(((zR t ⟨lo,hi⟩:Nat):Int) == 1)=false:=by
       have:zR t ⟨lo,hi⟩=0:=by unfold zR;rw [if_pos hts,if_neg htt]
       rw [this];rfl
      have HTT:=Lib.hid htt
      clear htt
      refine Kh (Sw:=qe) (fun _=>trivial) 11 45 (fun w'=>w'.cell? ⟨w.heap.size+1,0,none⟩=some (.slice (some ⟨g,0,none⟩) (o'.length+1) cap)/\w'.cell? ⟨g,o'.length * 2,none⟩=some (.int .u64 t.lo)/\w'.cell? ⟨g,o'.length * 2+1,none⟩=some (.int .u64 t.hi)/\w'.cell? ⟨Bp,0,none⟩=some (.int .u64 lo)/\w'.cell? ⟨Bp,1,none⟩=some (.int .u64 hi)) (by kernel_rfl) (by kernel_rfl) rfl ⟨c1,ct0,ct1,cp0,cp1⟩ ?_
      simp only [List.take_succ_cons,List.take_zero]
      repeat (first
       | (refine V5 (fun _=>trivial) ?_ rfl (fun a w hc _ hr=>?_) ?_;rotate_left;(simp [Rds,zA,lk,Op.operands,Call.operands,RdEq] at hr;go_simp;with_reducible rfl);dsimp only [List.nil_append,List.cons_append])
       | (refine jI rfl ?_ ?_;(first | exact .inl (zG rfl rfl) | exact .inr (zG rfl rfl));dsimp only [List.nil_append,List.cons_append])
       | (refine QQ (fun _=>trivial) rfl ?_ ?_ (fun a w hc _ hr=>?_) ?_;exact(zG rfl rfl);rotate_left;(simp [Rds,zA,lk,Op.operands,Call.operands,RdEq] at hr;go_simp;with_reducible rfl);dsimp only [List.nil_append,List.cons_append]))
      refine zhg (fun u _=>u=.int .i64 ((zR t ⟨lo,hi⟩:Nat):Int)) (yj _) rfl (zG rfl rfl) ?_ ?_
      ·intro a2 w2 hc hk hr K hK
       have HK:=Lib.hid hK
       clear hK
       simp [Rds,zA,lk,Op.operands,Call.operands,RdEq] at hr
       refine⟨fun _ _=>trivial,?_⟩
       go_simp
       refine CallsIn.mono (CallsIn.inRound l (callsIn_wide.2 (QF t ⟨lo,hi⟩ _ htl.1 (by show lo<=hi;omega) htl.2 (by show hi<zk;omega)))) ?_
       rintro e w3 ⟨rfl,hb⟩
       have hkb:Keep qe w2 w3:=Keep.of_below' hb (Nat.le_refl _)
       exact HK.out _ _ hkb ⟨hkb.cell_some hc.1 id,hkb.cell_some hc.2.1 id,hkb.cell_some hc.2.2.1 id,hkb.cell_some hc.2.2.2.1 id,hkb.cell_some hc.2.2.2.2 id⟩ rfl
      dsimp only [List.nil_append,List.cons_append]
      repeat (first
       | (refine V5 (fun _=>trivial) ?_ rfl (fun a w hc _ hr=>?_) ?_;rotate_left;(simp [Rds,zA,lk,Op.operands,Call.operands,RdEq] at hr;go_simp;with_reducible rfl);dsimp only [List.nil_append,List.cons_append])
       | (refine jI rfl ?_ ?_;(first | exact .inl (zG rfl rfl) | exact .inr (zG rfl rfl));dsimp only [List.nil_append,List.cons_append])
       | (refine QQ (fun _=>trivial) rfl ?_ ?_ (fun a w hc _ hr=>?_) ?_;exact(zG rfl rfl);rotate_left;(simp [Rds,zA,lk,Op.operands,Call.operands,RdEq] at hr;go_simp;with_reducible rfl);dsimp only [List.nil_append,List.cons_append]))
      intro w2 _ hk2
      simp only [finG,forall_eq,List.nil_append,List.cons_append,List.drop_succ_cons,List.drop_zero,List.drop_nil]
      simp only [Act.put,List.setIfInBounds_toArray,List.set_cons_succ,List.set_cons_zero]
      have hk2':Keep qe W1 w2:=((Keep.refl qe W1).drew).trans hk2
      have e1:=hk2'.boxed h1' id
      have e3:=hk2'.boxed h3' id
      have e4:=h4'.trans (hk2'.below h4'.size fun _ _=>id)
      have eo:=(HH.out).keep hk2' fun _ _=>id
      have er:w2.ownsRow (w.heap.size+6) 36 2 (.slice (some ⟨g,0,none⟩) (o'.length+1) cap) (o'.length+1) (xw (o'++[t])):=by have:=eo.1;simpa using this
      have ER:=Lib.hid er
      have HE:=Lib.hid (And.intro eo (And.intro e3 e4))
      have d1:=e1.cell
      have d2:w2.cell? ⟨Bp,0,none⟩=some (.int .u64 lo):=hk2'.cell_some cp0 id
      have d3:w2.cell? ⟨Bp,1,none⟩=some (.int .u64 hi):=hk2'.cell_some cp1 id
      have hlt2:w.heap.size+6<=w2.heap.size:=Nat.le_trans hlt' hk2'.size
      have HK2:=Lib.hid hk2'
      clear hk2 hk2' e3 e4 eo er c1 cp0 cp1 h1' h3' h4'
      gi_wp2_with (gi_at_builtin;go_loud (refine wpListIn_append_own _ rfl _ _ 30 rfl (w.heap.size+6) 36 i0 (.agg #[.int .u64 0,.int .u64 0]) 2 16 Tryz.underlying30 hi0 hz0 hz1 hz2 rfl (by decide) _ _ _ rfl (ER.out.alloc _) ⟨w2.heap.size,0,none⟩ 1 1 [.int .u64 lo,.int .u64 hi] rfl rfl (kw (cs:=#[.int .u64 lo,.int .u64 hi]) (t := 36) (fr:=(0,0)) (World.alloc_heap_new w2 _)) (by simp [Value.oneCell']) (by unfold maxLen;first | decide | omega) (by first | decide | omega) (by rw [World.size_alloc];omega) ?_);intro v' w3 hown' hgrow _;obtain⟨g',cap',rfl⟩:=ownsRow_succ hown';obtain⟨q1,q2,q3,q4⟩:=qO e1 (by decide) ER.out hown' hgrow;have q1c:=q1.cell;have q1f:=q1.frozen)
      refine⟨((HK1.out.trans HK2.out).mono fun _ _ h=>h.elim).trans (q4.mono fun k _ h=>h),⟨_,q2,?_⟩,q4.boxed HE.out.2.1 (by omega),HE.out.2.2.trans (q4.below HE.out.2.2.size fun k _=>by omega)⟩
      rw [yf]
      simp only [qg,HT.out,if_true,<-HO.out]
      rw [show Q8 (o'++[t]) ⟨lo,hi⟩=o'++[t]++[⟨lo,hi⟩] from by unfold Q8;rw [List.getLast?_concat];simp only;rw [if_neg HTT.out]]
      exact HE.out.1.snoc ⟨by show lo<zk;omega,by show hi<zk;omega⟩ (by simpa using q3)
 case hdone=>
  rintro W ⟨⟨v,h1,h2⟩,h3,h4⟩ hD
  have hc:=h1.cell
  gi_wp2
  refine⟨by simp,.inl ⟨_,_,rfl,run_takeDeferred hD,?_⟩⟩
  have hkD:Keep (fun k=>k=W0.heap.size) W (W.putObj W0.heap.size (.deferred none)):=(Keep.refl (fun k=>k=W0.heap.size) W).putObj (fun _=>rfl) _
  exact⟨_,results_tmp rfl _ _ _,v,rfl,(h2.keep hkD fun g hg=>by omega).mono (by omega),h4.trans (hkD.below h4.size fun k hk=>by omega)⟩
end Go.Proofs.YtonhfknjcbakiaaGreatDoor
namespace Go.Proofs.YtonhfknjcbakiaaGreatDoor
open Go.RowKit Go.Sort
def VC:Prop:=∀(zc off cap a b limit:Nat) (d:Array Int) (w:World),Holds zg w zc off d->zc<w.heap.size->a<=b->b<=d.size->d.size<4611686018427387904->limit<4611686018427387904->Below ltInt a b d ->
 Calls Tryz.prog 211 #[.slice (some ⟨zc,off,none⟩) d.size cap,.int .i64 a,.int .i64 b,.int .i64 limit] w fun e w'=>
  e=.returned (.tuple #[])/\∃ n os,w'=grow (putRow zg (Sort.ahead w n) zc off (Sort.pdq ltInt d a b limit true true)) os
theorem VV (hpdq:VC) (zc off cap:Nat) (d:Array Int) (w:World) (hH:Holds zg w zc off d) (hblk:zc<w.heap.size) (hsz:d.size<4611686018427387904) :
 Calls Tryz.prog 198 #[.slice (some ⟨zc,off,none⟩) d.size cap] w fun e w'=>e=.returned (.tuple #[])/\∃ n os,w'=grow (putRow zg (Sort.ahead w n) zc off (Sort.sort ltInt d)) os:=by
 have HH:Hid (Holds zg w zc off d):=hH
 clear hH
 have hLen:∀ w,Calls Tryz.prog 212 #[.int .u64 (d.size:Int)] w fun e w'=>e=.returned (.int .i64 (bitsLen d.size:Nat))/\w'=w:=fun w=>by
  have h:=ZC (d.size:Int) w (by omega) (by omega)
  rwa [Int.toNat_natCast,bitLen_eq _ (by omega)] at h
 have hk:bitsLen d.size<=62:=(bitsLen_le_iff d.size 62).2 (by omega)
 go_enter Tryz.func198,Tryz.ntmps198
 go_wp2_with (first
  | (go_at_call 212;refine(hLen _).mono ?_;rintro e w' ⟨rfl,rfl⟩)
  | (go_at_call 211;refine(hpdq zc off cap 0 d.size (bitsLen d.size) d _ (by exact HH.out) (by exact hblk) (Nat.zero_le _) (Nat.le_refl _) hsz (by omega) (Or.inl rfl)).mono ?_;rintro e w' ⟨rfl,n,os,rfl⟩))
 go_end0
 exact⟨rfl,n,os,rfl⟩
theorem zmk:CalU where
 ins:=vV
 brk:=vU
 piv:=j6
 par:=yE
 peq:=yz
 prt:=xJ
theorem znh:PlnU where
 swo:=swo_ltInt
 ins:=insertionSort_holds
 par:=partialInsertionSort_holds
 prt:=partition_holds _
 peq:=partitionEqual_holds _
 pdq:=pdq_sorts _
theorem J5:VC:=fun zc off cap a b limit d w hH hb hab hbd hsz hl hB=>
 QJ zmk znh (b - a+1) zc off cap a b limit d w (by omega) hH hb hab hbd hsz hl hB
theorem Xx (zs:List Int):Sort.sort ltInt zs.toArray=(zs.mergeSort fun x y=>decide (x<=y)).toArray:=by
 rw [<-sortInt zs]
theorem j7 (zc off cap:Nat) (zs:List Int) (w:World) (hH:Holds zg w zc off zs.toArray) (hblk:zc<w.heap.size) (hsz:zs.length<4611686018427387904) :
 Calls Tryz.prog 198 #[.slice (some ⟨zc,off,none⟩) zs.length cap] w fun e w'=>
  e=.returned (.tuple #[])/\∃ n os,w'=grow (putRow zg (Sort.ahead w n) zc off (zs.mergeSort fun x y=>decide (x<=y)).toArray) os:=by
 have h:=VV J5 zc off cap zs.toArray w hH hblk (by simpa using hsz)
 rw [Xx] at h
 simpa using h
end Go.Proofs.YtonhfknjcbakiaaGreatDoor
