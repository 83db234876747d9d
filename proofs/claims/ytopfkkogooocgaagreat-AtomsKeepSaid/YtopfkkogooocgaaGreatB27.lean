import Derived.Sort.Walk7a
import Derived.Sort.WalkB12
import Derived.Sort.WalkA
import Derived.Sort.WalkA6
import Derived.Sort.WalkC
import Derived.Sort.WalkC4
import Derived.Sort.Walk7
import Derived.Sort.WalkB2
import Derived.Sort.WalkB3
import Derived.Sort.WalkD2
import Derived.Test.YtopfkkogooocgaaGreatB1
set_option maxHeartbeats 16000000
set_option linter.unusedVariables false
set_option linter.unusedSimpArgs false
namespace Go.Proofs.YtopfkkogooocgaaGreat
open Go.RowKit Go.Sort
abbrev zg:Int->Value:=Value.int .u64
theorem Zb (x:Int) (w:World):Calls Tryz.prog 96 #[.int .u64 x] w fun e w'=>e=.returned (.bool false)/\w'=w:=by
 go_enter Tryz.func96,Tryz.ntmps96
 go_wp2
 go_ret
 exact⟨by simp,rfl⟩
theorem za (x y:Int) (w:World):Calls Tryz.prog 76 #[.int .u64 x,.int .u64 y] w fun e w'=>e=.returned (.bool (Sort.ltInt x y))/\w'=w:=by
 go_enter Tryz.func76,Tryz.ntmps76
 go_wp2_with (go_at_call 96;refine(Zb _ _).mono ?_;rintro e w' ⟨rfl,rfl⟩)
 go_ret
 exact⟨rfl,rfl⟩
theorem Zd (rb ro X:Nat) (hX:X<18446744073709551616) (w:World) (hc:w.cell? ⟨rb,ro,none⟩=some (.int .u64 X)) (hf:w.frozen? ⟨rb,ro,none⟩=false) :
 Calls Tryz.prog 93 #[.pointer (some ⟨rb,ro,none⟩)] w fun e w'=>e=.returned (.int .u64 (xorNextN X:Nat))/\w'=(w.setCell ⟨rb,ro,none⟩ (.int .u64 (xorNextN X:Nat))).drewN 3:=by
 obtain⟨A,hA⟩:∃ A:Nat,A=X ^^^ (X * 8192 % 18446744073709551616):=⟨_,rfl⟩
 obtain⟨B,hB⟩:∃ B:Nat,B=A ^^^ (A / 128):=⟨_,rfl⟩
 obtain⟨C,hC⟩:∃ C:Nat,C=B ^^^ (B * 131072 % 18446744073709551616):=⟨_,rfl⟩
 have lA:A<18446744073709551616:=by rw [hA];exact Nat.xor_lt_two_pow (n:=64) (by omega) (by omega)
 have lB:B<18446744073709551616:=by rw [hB];exact Nat.xor_lt_two_pow (n:=64) (by omega) (by omega)
 have e1:bits .xor .u64 (X:Int) (IntKind.u64.wrap ((X:Int) * 8192))=(A:Int):=by
  rw [IntKind.wrap_u64,show ((X:Int) * 8192 % 18446744073709551616)=((X * 8192 % 18446744073709551616:Nat):Int) by omega,bits_xor_u64_nat _ _ hX (by omega),hA]
 have e2:bits .xor .u64 (A:Int) ((A:Int) / 128)=(B:Int):=by
  rw [show ((A:Int) / 128)=((A / 128:Nat):Int) by omega,bits_xor_u64_nat _ _ lA (by omega),hB]
 have e3:bits .xor .u64 (B:Int) (IntKind.u64.wrap ((B:Int) * 131072))=(C:Int):=by
  rw [IntKind.wrap_u64,show ((B:Int) * 131072 % 18446744073709551616)=((B * 131072 % 18446744073709551616:Nat):Int) by omega,bits_xor_u64_nat _ _ lB (by omega),hC]
 have hv:xorNextN X=C:=by unfold xorNextN;simp only [];rw [<-hA,<-hB,<-hC]
 rw [hv]
 clear hA hB hC hv
 have hss:∀ v v',(w.setCell ⟨rb,ro,none⟩ v).setCell ⟨rb,ro,none⟩ v'=w.setCell ⟨rb,ro,none⟩ v':=setCell_setCell w rb ro
 go_enter Tryz.func93,Tryz.ntmps93
 go_wp2
 go_region
 all_goals go_wp2
 all_goals go_region
 all_goals go_wp2
 all_goals go_region
 all_goals go_wp2
 go_ret
 exact⟨rfl,rfl⟩
theorem so_nextPowerOfTwo (n:Nat) (hn:n<4611686018427387904) (w:World) :
 Calls Tryz.prog 92 #[.int .i64 n] w fun e w'=>e=.returned (.int .u64 ((1 <<< bitsLen n:Nat):Int))/\w'=w:=by
 have hLen:∀ w,Calls Tryz.prog 55 #[.int .u64 (n:Int)] w fun e w'=>e=.returned (.int .i64 (bitsLen n:Nat))/\w'=w:=fun w=>by
  have h:=ZC (n:Int) w (by omega) (by omega)
  rwa [Int.toNat_natCast,bitLen_eq _ (by omega)] at h
 have hk:bitsLen n<=62:=(bitsLen_le_iff n 62).2 (by omega)
 have hp:=wrap_two_pow (bitsLen n) hk
 go_enter Tryz.func92,Tryz.ntmps92
 go_wp2_with (first | (go_at_call 55;refine(hLen _).mono ?_;rintro e w' ⟨rfl,rfl⟩))
 go_ret
 exact⟨rfl,rfl⟩
set_option maxRecDepth 1000000 in
theorem jB (zc off cap:Nat) (d:Array Int) (a b:Nat) (w:World) (hH:Holds zg w zc off d) (hab:a<=b) (hb:b<=d.size) (hsz:d.size<4611686018427387904) :
 Calls Tryz.prog 74 #[.slice (some ⟨zc,off,none⟩) d.size cap,.int .i64 a,.int .i64 b] w fun e w'=>e=.returned (.tuple #[])/\∃ n,w'=putRow zg (Sort.ahead w n) zc off (reverseRange d a b):=by
 go_enter Tryz.func74,Tryz.ntmps74
 go_wp2
 go_loopg [6,7] (b - a) (fun k s6 s7 wr=>∃(i jn:Nat) (jz:Int) (dk:Array Int) (n:Nat),s6=.int .i64 i/\s7=.int .i64 jz/\((i:Int)<jz->jz=jn/\jn<d.size)/\(¬(i:Int)<jz->¬ i<jn)/\jn - i<=k /\
  dk.size=d.size/\wr=putRow zg (Sort.ahead w n) zc off dk/\reverseLoop i jn dk=reverseLoop a (b - 1) d)
 case atStart=>exact⟨a,b - 1,(b:Int) - 1,d,0,rfl,rfl,fun h=>⟨by omega,by omega⟩,fun h=>by omega,by omega,rfl,(putRow_self zg w zc off d hH).symm,rfl⟩
 case round=>
  obtain⟨i,jn,jz,dk,n,rfl,rfl,h1,h2,hk,hds,hwr,heq⟩:=hrel
  by_cases hlt:(i:Int)<jz
  ·obtain⟨rfl,hjn⟩:=h1 hlt
   have hij:i<jn:=by omega
   have hHk:Holds zg wr zc off dk:=by rw [hwr];exact holds_putRow zg _ zc off d dk (holds_ahead zg w n zc off d hH) hds
   obtain⟨ci,fi⟩:=hHk i (by omega)
   obtain⟨cj,fj⟩:=hHk jn (by omega)
   have A:Aside (wr=putRow zg (Sort.ahead w n) zc off dk):=hwr
   clear hwr hHk hH h1 h2
   go_wp2_with fail
   go_region
   go_wp2
   go_roundg (jn - 1 - (i+1))
   case measure=>omega
   case rel=>
    rw [reverseLoop,if_pos hij] at heq
    exact⟨i+1,jn - 1,(jn:Int) - 1,swp dk i jn,n+1,by simp,rfl,fun h=>⟨by omega,by omega⟩,fun h=>by omega,Nat.le_refl _,by rw [size_swp];exact hds,
     swap_world zg (by omega) (by omega) A.out (by simp [zg,getElem!_pos,show jn<dk.size by omega]) rfl,heq⟩
  ·have hnot:=h2 hlt
   go_wp2
   go_end0
   refine⟨rfl,n,?_⟩
   rw [reverseLoop,if_neg hnot] at heq
   rw [reverseRange,<-heq]
theorem vV (zc off cap a b:Nat) (d:Array Int) (w:World) (hH:Holds zg w zc off d) (hab:a<=b) (hb:b<=d.size) (hsz:d.size<4611686018427387904) :
 Calls Tryz.prog 70 #[.slice (some ⟨zc,off,none⟩) d.size cap,.int .i64 a,.int .i64 b] w fun e w'=>
  e=.returned (.tuple #[])/\∃ n,w'=putRow zg (Sort.ahead w n) zc off (Sort.insertionSort ltInt d a b):=by
 go_enter Tryz.func70,Tryz.ntmps70
 go_wp2
 go_loopw [6] (fun vi wr=>∃(i n:Nat) (dk:Array Int),vi=.int .i64 i/\a<i/\i<=b+1/\dk.size=d.size/\wr=putRow zg (Sort.ahead w n) zc off dk /\
  insOuter ltInt a b i dk=insOuter ltInt a b (a+1) d) (fun vi _=>b+1 - (intOf vi).toNat)
 case atStart=>exact⟨a+1,0,d,by go_num,by omega,by omega,rfl,(putRow_self _ _ _ _ _ hH).symm,rfl⟩
 case round=>
  obtain⟨i,n,dk,rfl,hai,hib,hsk,hwr,hO⟩:=hrel
  have HO:Hid (insOuter ltInt a b i dk=insOuter ltInt a b (a+1) d):=hO
  clear hO
  go_wp2
  ·
   go_loopw [7] (fun vj wr2=>∃(j m:Nat) (dj:Array Int),vj=.int .i64 j/\a<=j/\j<=i/\dj.size=d.size/\wr2=putRow zg (Sort.ahead w m) zc off dj /\
    insInner ltInt a j dj=insInner ltInt a i dk) (fun vj _=>(intOf vj).toNat)
   case atStart=>exact⟨i,n,dk,rfl,by omega,Nat.le_refl _,hsk,rfl,rfl⟩
   case round=>
    obtain⟨j,m,dj,rfl,haj,hji,hsj,hw2,hI⟩:=hrel
    have hlt:i<b:=by assumption
    obtain⟨G,hG⟩:∃ G:Nat->Int,∀ t,G t=dj[t]!:=⟨fun t=>dj[t]!,fun _=>rfl⟩
    have hcw:∀ t,t<d.size->wr.cell? ⟨zc,off+t,none⟩=some (.int .u64 (G t)):=fun t ht=>by
     rw [hw2,hG];exact cell?_putRow _ _ _ _ d dj (holds_ahead _ _ _ _ _ _ hH) hsj t (by omega)
    have hfw:∀ t,t<d.size->wr.frozen? ⟨zc,off+t,none⟩=false:=fun t ht=>by
     rw [hw2,frozen?_putRow];exact((holds_ahead _ _ m _ _ _ hH) t ht).2
    have HW:Hid (wr=putRow zg (Sort.ahead w m) zc off dj):=hw2
    have HG:Hid (∀ t,G t=dj[t]!):=hG
    have HI:Hid (insInner ltInt a j dj=insInner ltInt a i dk):=hI
    clear hw2 hG hI hH
    have out:(j<=a\/ltInt dj[j]! dj[j - 1]! = false)->∀ q,∃ i' n' dk',Value.int .i64 ((i:Int)+1)=.int .i64 (i':Nat)/\a<i'/\i'<=b+1/\dk'.size=d.size /\
     wr.drewN q=putRow zg (Sort.ahead w n') zc off dk'/\insOuter ltInt a b i' dk'=insOuter ltInt a b (a+1) d:=fun hs q=>
     ⟨i+1,m+q,dj,by go_num,by omega,by omega,hsj,by rw [HW.out];exact putRow_drewN _ _ _ _ _ _ _,
      by rw [<-HO.out,insOuter_go _ _ _ _ _ hlt,<-HI.out,insInner_stop _ _ _ _ hs]⟩
    have OUT:Hid _:=out
    clear out
    go_wp2
    by_cases hja:a<j
    ·go_quiet (first | (go_at_call 76;refine Calls.quiet_of_same (za _ _ _)))
     go_wp2
     ·
      have hl:ltInt (G j) (G (j - 1))=true:=by assumption
      go_region
      all_goals go_wp2
      go_roundw
      case rel=>
       refine⟨j - 1,m+(nq+1),swp dj j (j - 1),by congr 1;omega,by omega,by omega,by rw [size_swp];exact hsj,?_,?_⟩
       ·rw [HW.out,HG.out,HG.out]
        exact swap_worldA _ w m (nq+1) zc off dj j (j - 1) (by omega) (by omega)
       ·rw [<-HI.out,insInner_go ltInt a j dj hja (by rw [<-HG.out,<-HG.out];exact hl)]
      case measure=>simp [intOf];omega
     ·
      have hl:ltInt (G j) (G (j - 1))=false:=by assumption
      go_roundw
      case rel=>exact OUT.out (Or.inr (by rw [<-HG.out,<-HG.out];exact hl)) nq
      case measure=>simp [intOf];omega
    ·go_quiet (first | (go_at_call 76;refine Calls.quiet_of_same (za _ _ _)))
     go_wp2
     go_roundw
     case rel=>exact OUT.out (Or.inl (by omega)) nq
     case measure=>simp [intOf];omega
  ·
   have hge:¬ i<b:=by assumption
   go_end0
   exact⟨rfl,n,by unfold Sort.insertionSort;rw [<-HO.out,insOuter_stop _ _ _ _ _ hge]⟩
set_option maxRecDepth 100000 in
theorem yE (zc off cap a b:Nat) (d:Array Int) (w:World) (hH:Holds zg w zc off d) (hab:a<b) (hb:b<=d.size) (hsz:d.size<4611686018427387904) :
 Calls Tryz.prog 75 #[.slice (some ⟨zc,off,none⟩) d.size cap,.int .i64 a,.int .i64 b] w fun e w'=>
  e=.returned (.bool (Sort.partialInsertionSort ltInt d a b).2)/\∃ n,w'=putRow zg (Sort.ahead w n) zc off (Sort.partialInsertionSort ltInt d a b).1:=by
 have HH:Hid (Holds zg w zc off d):=hH
 have HST:Hid (w=putRow zg (Sort.ahead w 0) zc off d):=(putRow_self _ _ _ _ _ hH).symm
 clear hH
 go_enter Tryz.func75,Tryz.ntmps75
 go_wp2
 go_loopw [7,8] (fun vi vs wr=>∃(i s n:Nat) (dk:Array Int),vi=.int .i64 i/\vs=.int .i64 s/\s<=5/\a<i/\i<=b/\dk.size=d.size/\wr=putRow zg (Sort.ahead w n) zc off dk /\
  partialIns ltInt a b (5 - s) i dk=partialIns ltInt a b 5 (a+1) d) (fun _ vs _=>5 - (intOf vs).toNat)
 case atStart=>exact⟨a+1,0,0,d,by go_num,rfl,by omega,by omega,by omega,rfl,HST.out,rfl⟩
 case round=>
  obtain⟨i,s,n,dk,rfl,rfl,hs5,hai,hib,hsk,hwr,hO⟩:=hrel
  have HO:Hid (partialIns ltInt a b (5 - s) i dk=partialIns ltInt a b 5 (a+1) d):=hO
  clear hO
  go_wp2
  ·
   have hs:s<5:=by omega
   go_loopw [7] (fun vi wr2=>∃(k m:Nat),vi=.int .i64 k/\i<=k/\k<=b/\wr2=putRow zg (Sort.ahead w m) zc off dk/\scanSorted ltInt dk b k=scanSorted ltInt dk b i) (fun vi _=>b - (intOf vi).toNat)
   case atStart=>exact⟨i,n,rfl,Nat.le_refl _,hib,rfl,rfl⟩
   case round=>
    obtain⟨k,m,rfl,hik,hkb,hw2,hS⟩:=hrel
    obtain⟨G,hG⟩:∃ G:Nat->Int,∀ t,G t=dk[t]!:=⟨fun t=>dk[t]!,fun _=>rfl⟩
    have hcw:∀ t,t<d.size->wr.cell? ⟨zc,off+t,none⟩=some (.int .u64 (G t)):=fun t ht=>by
     rw [hw2,hG];exact cell?_putRow _ _ _ _ d dk (holds_ahead _ _ _ _ _ _ HH.out) hsk t (by omega)
    have hfw:∀ t,t<d.size->wr.frozen? ⟨zc,off+t,none⟩=false:=fun t ht=>by
     rw [hw2,frozen?_putRow];exact((holds_ahead _ _ m _ _ _ HH.out) t ht).2
    have HW:Hid (wr=putRow zg (Sort.ahead w m) zc off dk):=hw2
    have HG:Hid (∀ t,G t=dk[t]!):=hG
    have HS:Hid (scanSorted ltInt dk b k=scanSorted ltInt dk b i):=hS
    clear hw2 hG hS
    go_wp2
    by_cases hkb':k<b
    ·go_quiet (first | (go_at_call 76;refine Calls.quiet_of_same (za _ _ _)))
     go_wp2
     all_goals first
      | (at_end
         have hl:ltInt (G k) (G (k - 1))=false:=by
          have h:(!ltInt (G k) (G (k - 1)))=true:=by assumption
          simpa using h
         go_roundw
         case rel=>exact⟨k+1,m+nq,by go_num,by omega,by omega,by rw [HW.out];exact putRow_drewN _ _ _ _ _ _ _,by rw [<-HS.out,scanSorted_go ltInt dk b k hkb' (by rw [<-HG.out,<-HG.out];exact hl)]⟩
         case measure=>simp [intOf];omega)
      | (have hl:ltInt (G k) (G (k - 1))=true:=by
          have h:(!ltInt (G k) (G (k - 1)))=false:=by assumption
          simpa using h
         have HK:Hid (scanSorted ltInt dk b i=k):=by
          show scanSorted ltInt dk b i=k
          rw [<-HS.out,scanSorted_stop ltInt dk b k (Or.inr (by rw [<-HG.out,<-HG.out];exact hl))]
         first
          | (at_ret
             have hv:Sort.partialInsertionSort ltInt d a b=(dk,false):=by
              unfold Sort.partialInsertionSort
              rw [<-HO.out,pi_short ltInt a b s i dk hs (by rw [HK.out];omega) (by omega)]
             rw [hv]
             go_ret
             exact⟨rfl,m+nq,by rw [HW.out];exact putRow_drewN _ _ _ _ _ _ _⟩)
          | (at_region 11
             have h50:¬ b - a<50:=by omega
             go_region
             have hsw:((wr.drewN (nq+1)).setCell ⟨zc,off+k,none⟩ (.int .u64 (G (k - 1)))).setCell ⟨zc,off+(k - 1),none⟩ (.int .u64 (G k))=putRow zg (Sort.ahead w (m+(nq+1))) zc off (swp dk k (k - 1)):=by
              rw [HW.out,HG.out,HG.out]
              exact swap_worldA _ w m (nq+1) zc off dk k (k - 1) (by omega) (by omega)
             have hs1:(swp dk k (k - 1)).size=d.size:=by rw [size_swp];exact hsk
             go_wp2
             all_goals first
              | (at_loop
                 have hka:k - a ≥ 2:=by omega
                 go_loopw [9] (fun vj wr2=>∃(j m2:Nat) (dj:Array Int),vj=.int .i64 j/\j<=k - 1/\dj.size=d.size/\wr2=putRow zg (Sort.ahead w m2) zc off dj /\
                  shiftDown ltInt j dj=shiftDown ltInt (k - 1) (swp dk k (k - 1))) (fun vj _=>(intOf vj).toNat)
                 case atStart=>exact⟨k - 1,_,(swp dk k (k - 1)),by congr 1;omega,Nat.le_refl _,hs1,rfl,rfl⟩
                 case round=>
                  obtain⟨j,m2,dj,rfl,hjk,hsj,hw2,hDn⟩:=hrel
                  obtain⟨G,hG⟩:∃ G:Nat->Int,∀ t,G t=dj[t]!:=⟨fun t=>dj[t]!,fun _=>rfl⟩
                  have hcw:∀ t,t<d.size->wr.cell? ⟨zc,off+t,none⟩=some (.int .u64 (G t)):=fun t ht=>by
                   rw [hw2,hG];exact cell?_putRow _ _ _ _ d dj (holds_ahead _ _ _ _ _ _ HH.out) hsj t (by omega)
                  have hfw:∀ t,t<d.size->wr.frozen? ⟨zc,off+t,none⟩=false:=fun t ht=>by
                   rw [hw2,frozen?_putRow];exact((holds_ahead _ _ m2 _ _ _ HH.out) t ht).2
                  have HW:Hid (wr=putRow zg (Sort.ahead w m2) zc off dj):=hw2
                  have HG:Hid (∀ t,G t=dj[t]!):=hG
                  have HDn:Hid (shiftDown ltInt j dj=shiftDown ltInt (k - 1) (swp dk k (k - 1))):=hDn
                  clear hw2 hG hDn hsw
                  go_wp2
                  all_goals first
                   | (at_region 16
                      go_quiet (first | (go_at_call 76;refine Calls.quiet_of_same (za _ _ _)))
                      go_wp2
                      all_goals first
                       | (at_region 17
                          have hl:ltInt (G j) (G (j - 1))=true:=by
                           have h:(!ltInt (G j) (G (j - 1)))=false:=by assumption
                           simpa using h
                          go_region
                          all_goals go_wp2
                          go_roundw
                          case rel=>
                           refine⟨j - 1,m2+(nq+1),swp dj j (j - 1),by congr 1;omega,by omega,by rw [size_swp];exact hsj,?_,?_⟩
                           ·rw [HW.out,HG.out,HG.out]
                            exact swap_worldA _ w m2 (nq+1) zc off dj j (j - 1) (by omega) (by omega)
                           ·rw [<-HDn.out,shiftDown_go ltInt j dj (by omega) (by rw [<-HG.out,<-HG.out];exact hl)]
                          case measure=>simp [intOf];omega)
                       | (-- break
                          have hl:ltInt (G j) (G (j - 1))=false:=by
                           have h:(!ltInt (G j) (G (j - 1)))=true:=by assumption
                           simpa using h
                          have HD:Hid (fixDown ltInt a k (swp dk k (k - 1))=dj):=by
                           show fixDown ltInt a k (swp dk k (k - 1))=dj
                           unfold fixDown;rw [if_pos hka,<-HDn.out,shiftDown_stop ltInt j dj (Or.inr (by rw [<-HG.out,<-HG.out];exact hl))]
                          first
                           | (at_end
                              go_roundw
                              case rel=>
                               refine⟨k,s+1,_,dj,rfl,by go_num,by omega,by omega,by omega,hsj,(by first | rfl | exact HW.out | (rw [HW.out];exact putRow_drewN _ _ _ _ _ _ _)),?_⟩
                               rw [<-HO.out,pi_go ltInt a b s i k dk hs HK.out (by omega) (by omega),HD.out,show fixUp ltInt b k dj=dj from by unfold fixUp;rw [if_neg (by omega)]]
                              case measure=>simp [intOf];omega)
                           | (at_loop
                              go_loopw [10] (fun vj wr2=>∃(j m3:Nat) (du:Array Int),vj=.int .i64 j/\k+1<=j/\j<=b/\du.size=d.size/\wr2=putRow zg (Sort.ahead w m3) zc off du /\
                               shiftUp ltInt b j du=shiftUp ltInt b (k+1) dj) (fun vj _=>b - (intOf vj).toNat)
                              case atStart=>exact⟨k+1,_,dj,by go_num,Nat.le_refl _,by omega,hsj,(by first | rfl | exact HW.out | (rw [HW.out];exact putRow_drewN _ _ _ _ _ _ _)),rfl⟩
                              case round=>
                               obtain⟨j,m3,du,rfl,hkj,hjb,hsu,hw3,hU⟩:=hrel
                               obtain⟨G,hG⟩:∃ G:Nat->Int,∀ t,G t=du[t]!:=⟨fun t=>du[t]!,fun _=>rfl⟩
                               have hcw:∀ t,t<d.size->wr.cell? ⟨zc,off+t,none⟩=some (.int .u64 (G t)):=fun t ht=>by
                                rw [hw3,hG];exact cell?_putRow _ _ _ _ d du (holds_ahead _ _ _ _ _ _ HH.out) hsu t (by omega)
                               have hfw:∀ t,t<d.size->wr.frozen? ⟨zc,off+t,none⟩=false:=fun t ht=>by
                                rw [hw3,frozen?_putRow];exact((holds_ahead _ _ m3 _ _ _ HH.out) t ht).2
                               have HW:Hid (wr=putRow zg (Sort.ahead w m3) zc off du):=hw3
                               have HG:Hid (∀ t,G t=du[t]!):=hG
                               have HU:Hid (shiftUp ltInt b j du=shiftUp ltInt b (k+1) dj):=hU
                               clear hw3 hG hU
                               go_wp2
                               all_goals first
                                | (at_region 22
                                   go_quiet (first | (go_at_call 76;refine Calls.quiet_of_same (za _ _ _)))
                                   go_wp2
                                   all_goals first
                                    | (at_region 23
                                       have hl:ltInt (G j) (G (j - 1))=true:=by
                                        have h:(!ltInt (G j) (G (j - 1)))=false:=by assumption
                                        simpa using h
                                       go_region
                                       all_goals go_wp2
                                       go_roundw
                                       case rel=>
                                        refine⟨j+1,m3+(nq+1),swp du j (j - 1),by go_num,by omega,by omega,by rw [size_swp];exact hsu,?_,?_⟩
                                        ·rw [HW.out,HG.out,HG.out]
                                         exact swap_worldA _ w m3 (nq+1) zc off du j (j - 1) (by omega) (by omega)
                                        ·rw [<-HU.out,shiftUp_go ltInt b j du (by omega) (by rw [<-HG.out,<-HG.out];exact hl)]
                                       case measure=>simp [intOf];omega)
                                    | (at_end
                                       have hl:ltInt (G j) (G (j - 1))=false:=by
                                        have h:(!ltInt (G j) (G (j - 1)))=true:=by assumption
                                        simpa using h
                                       go_roundw
                                       case rel=>
                                        refine⟨k,s+1,_,du,rfl,by go_num,by omega,by omega,by omega,hsu,(by first | rfl | exact HW.out | (rw [HW.out];exact putRow_drewN _ _ _ _ _ _ _)),?_⟩
                                        rw [<-HO.out,pi_go ltInt a b s i k dk hs HK.out (by omega) (by omega),HD.out,show fixUp ltInt b k dj=du from by unfold fixUp;rw [if_pos (by omega),<-HU.out,shiftUp_stop ltInt b j du (Or.inr (by rw [<-HG.out,<-HG.out];exact hl))]]
                                       case measure=>simp [intOf];omega))
                                | (at_end
                                   go_roundw
                                   case rel=>
                                    refine⟨k,s+1,_,du,rfl,by go_num,by omega,by omega,by omega,hsu,(by first | rfl | exact HW.out | (rw [HW.out];exact putRow_drewN _ _ _ _ _ _ _)),?_⟩
                                    rw [<-HO.out,pi_go ltInt a b s i k dk hs HK.out (by omega) (by omega),HD.out,show fixUp ltInt b k dj=du from by unfold fixUp;rw [if_pos (by omega),<-HU.out,shiftUp_stop ltInt b j du (Or.inl (by omega))]]
                                   case measure=>simp [intOf];omega))))
                   | (-- j<1
                      have HD:Hid (fixDown ltInt a k (swp dk k (k - 1))=dj):=by
                       show fixDown ltInt a k (swp dk k (k - 1))=dj
                       unfold fixDown;rw [if_pos hka,<-HDn.out,shiftDown_stop ltInt j dj (Or.inl (by omega))]
                      first
                       | (at_end
                          go_roundw
                          case rel=>
                           refine⟨k,s+1,_,dj,rfl,by go_num,by omega,by omega,by omega,hsj,(by first | rfl | exact HW.out | (rw [HW.out];exact putRow_drewN _ _ _ _ _ _ _)),?_⟩
                           rw [<-HO.out,pi_go ltInt a b s i k dk hs HK.out (by omega) (by omega),HD.out,show fixUp ltInt b k dj=dj from by unfold fixUp;rw [if_neg (by omega)]]
                          case measure=>simp [intOf];omega)
                       | (at_loop
                          go_loopw [10] (fun vj wr2=>∃(j m3:Nat) (du:Array Int),vj=.int .i64 j/\k+1<=j/\j<=b/\du.size=d.size/\wr2=putRow zg (Sort.ahead w m3) zc off du /\
                           shiftUp ltInt b j du=shiftUp ltInt b (k+1) dj) (fun vj _=>b - (intOf vj).toNat)
                          case atStart=>exact⟨k+1,_,dj,by go_num,Nat.le_refl _,by omega,hsj,(by first | rfl | exact HW.out | (rw [HW.out];exact putRow_drewN _ _ _ _ _ _ _)),rfl⟩
                          case round=>
                           obtain⟨j,m3,du,rfl,hkj,hjb,hsu,hw3,hU⟩:=hrel
                           obtain⟨G,hG⟩:∃ G:Nat->Int,∀ t,G t=du[t]!:=⟨fun t=>du[t]!,fun _=>rfl⟩
                           have hcw:∀ t,t<d.size->wr.cell? ⟨zc,off+t,none⟩=some (.int .u64 (G t)):=fun t ht=>by
                            rw [hw3,hG];exact cell?_putRow _ _ _ _ d du (holds_ahead _ _ _ _ _ _ HH.out) hsu t (by omega)
                           have hfw:∀ t,t<d.size->wr.frozen? ⟨zc,off+t,none⟩=false:=fun t ht=>by
                            rw [hw3,frozen?_putRow];exact((holds_ahead _ _ m3 _ _ _ HH.out) t ht).2
                           have HW:Hid (wr=putRow zg (Sort.ahead w m3) zc off du):=hw3
                           have HG:Hid (∀ t,G t=du[t]!):=hG
                           have HU:Hid (shiftUp ltInt b j du=shiftUp ltInt b (k+1) dj):=hU
                           clear hw3 hG hU
                           go_wp2
                           all_goals first
                            | (at_region 22
                               go_quiet (first | (go_at_call 76;refine Calls.quiet_of_same (za _ _ _)))
                               go_wp2
                               all_goals first
                                | (at_region 23
                                   have hl:ltInt (G j) (G (j - 1))=true:=by
                                    have h:(!ltInt (G j) (G (j - 1)))=false:=by assumption
                                    simpa using h
                                   go_region
                                   all_goals go_wp2
                                   go_roundw
                                   case rel=>
                                    refine⟨j+1,m3+(nq+1),swp du j (j - 1),by go_num,by omega,by omega,by rw [size_swp];exact hsu,?_,?_⟩
                                    ·rw [HW.out,HG.out,HG.out]
                                     exact swap_worldA _ w m3 (nq+1) zc off du j (j - 1) (by omega) (by omega)
                                    ·rw [<-HU.out,shiftUp_go ltInt b j du (by omega) (by rw [<-HG.out,<-HG.out];exact hl)]
                                   case measure=>simp [intOf];omega)
                                | (at_end
                                   have hl:ltInt (G j) (G (j - 1))=false:=by
                                    have h:(!ltInt (G j) (G (j - 1)))=true:=by assumption
                                    simpa using h
                                   go_roundw
                                   case rel=>
                                    refine⟨k,s+1,_,du,rfl,by go_num,by omega,by omega,by omega,hsu,(by first | rfl | exact HW.out | (rw [HW.out];exact putRow_drewN _ _ _ _ _ _ _)),?_⟩
                                    rw [<-HO.out,pi_go ltInt a b s i k dk hs HK.out (by omega) (by omega),HD.out,show fixUp ltInt b k dj=du from by unfold fixUp;rw [if_pos (by omega),<-HU.out,shiftUp_stop ltInt b j du (Or.inr (by rw [<-HG.out,<-HG.out];exact hl))]]
                                   case measure=>simp [intOf];omega))
                            | (at_end
                               go_roundw
                               case rel=>
                                refine⟨k,s+1,_,du,rfl,by go_num,by omega,by omega,by omega,hsu,(by first | rfl | exact HW.out | (rw [HW.out];exact putRow_drewN _ _ _ _ _ _ _)),?_⟩
                                rw [<-HO.out,pi_go ltInt a b s i k dk hs HK.out (by omega) (by omega),HD.out,show fixUp ltInt b k dj=du from by unfold fixUp;rw [if_pos (by omega),<-HU.out,shiftUp_stop ltInt b j du (Or.inl (by omega))]]
                               case measure=>simp [intOf];omega))))
              | (-- i - a<2
                 have HD:Hid (fixDown ltInt a k (swp dk k (k - 1))=(swp dk k (k - 1))):=by
                  show fixDown ltInt a k (swp dk k (k - 1))=(swp dk k (k - 1))
                  unfold fixDown;rw [if_neg (by omega)]
                 first
                  | (at_end
                     go_roundw
                     case rel=>
                      refine⟨k,s+1,_,(swp dk k (k - 1)),rfl,by go_num,by omega,by omega,by omega,hs1,(by first | rfl | exact HW.out | (rw [HW.out];exact putRow_drewN _ _ _ _ _ _ _)),?_⟩
                      rw [<-HO.out,pi_go ltInt a b s i k dk hs HK.out (by omega) (by omega),HD.out,show fixUp ltInt b k (swp dk k (k - 1))=(swp dk k (k - 1)) from by unfold fixUp;rw [if_neg (by omega)]]
                     case measure=>simp [intOf];omega)
                  | (at_loop
                     go_loopw [10] (fun vj wr2=>∃(j m3:Nat) (du:Array Int),vj=.int .i64 j/\k+1<=j/\j<=b/\du.size=d.size/\wr2=putRow zg (Sort.ahead w m3) zc off du /\
                      shiftUp ltInt b j du=shiftUp ltInt b (k+1) (swp dk k (k - 1))) (fun vj _=>b - (intOf vj).toNat)
                     case atStart=>exact⟨k+1,_,(swp dk k (k - 1)),by go_num,Nat.le_refl _,by omega,hs1,(by first | rfl | exact HW.out | (rw [HW.out];exact putRow_drewN _ _ _ _ _ _ _)),rfl⟩
                     case round=>
                      obtain⟨j,m3,du,rfl,hkj,hjb,hsu,hw3,hU⟩:=hrel
                      obtain⟨G,hG⟩:∃ G:Nat->Int,∀ t,G t=du[t]!:=⟨fun t=>du[t]!,fun _=>rfl⟩
                      have hcw:∀ t,t<d.size->wr.cell? ⟨zc,off+t,none⟩=some (.int .u64 (G t)):=fun t ht=>by
                       rw [hw3,hG];exact cell?_putRow _ _ _ _ d du (holds_ahead _ _ _ _ _ _ HH.out) hsu t (by omega)
                      have hfw:∀ t,t<d.size->wr.frozen? ⟨zc,off+t,none⟩=false:=fun t ht=>by
                       rw [hw3,frozen?_putRow];exact((holds_ahead _ _ m3 _ _ _ HH.out) t ht).2
                      have HW:Hid (wr=putRow zg (Sort.ahead w m3) zc off du):=hw3
                      have HG:Hid (∀ t,G t=du[t]!):=hG
                      have HU:Hid (shiftUp ltInt b j du=shiftUp ltInt b (k+1) (swp dk k (k - 1))):=hU
                      clear hw3 hG hU
                      go_wp2
                      all_goals first
                       | (at_region 22
                          go_quiet (first | (go_at_call 76;refine Calls.quiet_of_same (za _ _ _)))
                          go_wp2
                          all_goals first
                           | (at_region 23
                              have hl:ltInt (G j) (G (j - 1))=true:=by
                               have h:(!ltInt (G j) (G (j - 1)))=false:=by assumption
                               simpa using h
                              go_region
                              all_goals go_wp2
                              go_roundw
                              case rel=>
                               refine⟨j+1,m3+(nq+1),swp du j (j - 1),by go_num,by omega,by omega,by rw [size_swp];exact hsu,?_,?_⟩
                               ·rw [HW.out,HG.out,HG.out]
                                exact swap_worldA _ w m3 (nq+1) zc off du j (j - 1) (by omega) (by omega)
                               ·rw [<-HU.out,shiftUp_go ltInt b j du (by omega) (by rw [<-HG.out,<-HG.out];exact hl)]
                              case measure=>simp [intOf];omega)
                           | (at_end
                              have hl:ltInt (G j) (G (j - 1))=false:=by
                               have h:(!ltInt (G j) (G (j - 1)))=true:=by assumption
                               simpa using h
                              go_roundw
                              case rel=>
                               refine⟨k,s+1,_,du,rfl,by go_num,by omega,by omega,by omega,hsu,(by first | rfl | exact HW.out | (rw [HW.out];exact putRow_drewN _ _ _ _ _ _ _)),?_⟩
                               rw [<-HO.out,pi_go ltInt a b s i k dk hs HK.out (by omega) (by omega),HD.out,show fixUp ltInt b k (swp dk k (k - 1))=du from by unfold fixUp;rw [if_pos (by omega),<-HU.out,shiftUp_stop ltInt b j du (Or.inr (by rw [<-HG.out,<-HG.out];exact hl))]]
                              case measure=>simp [intOf];omega))
                       | (at_end
                          go_roundw
                          case rel=>
                           refine⟨k,s+1,_,du,rfl,by go_num,by omega,by omega,by omega,hsu,(by first | rfl | exact HW.out | (rw [HW.out];exact putRow_drewN _ _ _ _ _ _ _)),?_⟩
                           rw [<-HO.out,pi_go ltInt a b s i k dk hs HK.out (by omega) (by omega),HD.out,show fixUp ltInt b k (swp dk k (k - 1))=du from by unfold fixUp;rw [if_pos (by omega),<-HU.out,shiftUp_stop ltInt b j du (Or.inl (by omega))]]
                          case measure=>simp [intOf];omega)))))
    ·
     go_quiet (first | (go_at_call 76;refine Calls.quiet_of_same (za _ _ _)))
     go_wp2
     obtain rfl:k=b:=by omega
     have hv:Sort.partialInsertionSort ltInt d a k=(dk,true):=by
      unfold Sort.partialInsertionSort
      rw [<-HO.out,pi_true ltInt a k s i dk hs (by rw [<-HS.out,scanSorted_stop ltInt dk k k (Or.inl (by omega))])]
     rw [hv]
     go_ret
     exact⟨rfl,m+nq,by rw [HW.out];exact putRow_drewN _ _ _ _ _ _ _⟩
  ·
   obtain rfl:s=5:=by omega
   have hv:Sort.partialInsertionSort ltInt d a b=(dk,false):=by
    unfold Sort.partialInsertionSort
    rw [<-HO.out,pi_end]
   rw [hv]
   go_ret
   exact⟨rfl,n,rfl⟩
set_option maxRecDepth 100000 in
theorem so_partitionEqual_int (zc off cap a b pivot:Nat) (d:Array Int) (w:World) (hH:Holds zg w zc off d) (hap:a<=pivot) (hpb:pivot<b) (hb:b<=d.size) (hsz:d.size<4611686018427387904) :
 Calls Tryz.prog 77 #[.slice (some ⟨zc,off,none⟩) d.size cap,.int .i64 a,.int .i64 b,.int .i64 pivot] w fun e w'=>
  e=.returned (.int .i64 (Sort.partitionEqual Sort.ltInt d a b pivot).1)/\∃ n,w'=(putRow zg w zc off (Sort.partitionEqual Sort.ltInt d a b pivot).2).drewN n:=by
 have hla:a<d.size:=by omega
 have hlp:pivot<d.size:=by omega
 obtain⟨G,hG⟩:∃ G:Nat->Int,∀ j,G j=d[j]!:=⟨fun j=>d[j]!,fun _=>rfl⟩
 have ca:w.cell? ⟨zc,off+a,none⟩=some (.int .u64 (G a)):=by rw [hG];exact(hH a hla).1
 have fa:=(hH a hla).2
 have cp:w.cell? ⟨zc,off+pivot,none⟩=some (.int .u64 (G pivot)):=by rw [hG];exact(hH pivot hlp).1
 have fp:=(hH pivot hlp).2
 obtain⟨v',hy'⟩:=cell?_setCell_some (w:=w) (p:=⟨zc,off+a,none⟩) (x:=.int .u64 (G pivot)) (q:=⟨zc,off+pivot,none⟩) cp
 have AG:Hid (∀ j,G j=d[j]!):=hG
 have AH:Hid (Holds zg w zc off d):=hH
 clear hG hH
 go_enter Tryz.func77,Tryz.ntmps77
 go_wp2
 go_region
 go_wp2
 go_loopw [9,10] (fun vi vj wr=>∃(i j n:Nat) (dk:Array Int),vi=.int .i64 i/\vj=.int .i64 j/\a<i/\i<=j+1/\j<b/\dk.size=d.size/\wr=(putRow zg w zc off dk).drewN n /\
  Sort.partEqLoop Sort.ltInt a i j dk=Sort.partEqLoop Sort.ltInt a (a+1) (b - 1) (Sort.swp d a pivot))
  (fun vi vj _=>(intOf vj).toNat+1 - (intOf vi).toNat)
 case atStart=>
  refine⟨a+1,b - 1,1,Sort.swp d a pivot,by go_num,by go_num,by omega,by omega,by omega,size_swp _ _ _,?_,rfl⟩
  have e:=swap_worldC zg w zc off d 0 a pivot hla hlp
  rw [putRow_self _ w zc off d AH.out] at e
  rw [AG.out a,AG.out pivot]
  exact e
 case round=>
  obtain⟨i,j,n,dk,rfl,rfl,hai,hij,hjb,hs,hw,heq⟩:=hrel
  clear ca fa cp fp hy' v' AG
  rename World=>W1
  have hHk:Holds zg W1 zc off dk:=by
   rw [hw]
   exact holds_putRow zg w zc off d dk AH.out hs
  obtain⟨Gk,hG⟩:∃ Gk:Nat->Int,∀ t,Gk t=dk[t]!:=⟨fun t=>dk[t]!,fun _=>rfl⟩
  have hc:∀ t,t<d.size->W1.cell? ⟨zc,off+t,none⟩=some (.int .u64 (Gk t)):=fun t ht=>by rw [hG];exact(hHk t (by omega)).1
  have hf:∀ t,t<d.size->W1.frozen? ⟨zc,off+t,none⟩=false:=fun t ht=>(hHk t (by omega)).2
  have AG:Hid (∀ t,Gk t=dk[t]!):=hG
  have AW:Hid (W1=(putRow zg w zc off dk).drewN n):=hw
  have AE:Hid (Sort.partEqLoop Sort.ltInt a i j dk=Sort.partEqLoop Sort.ltInt a (a+1) (b - 1) (Sort.swp d a pivot)):=heq
  clear hG hw heq hHk
  go_wp2
  go_loopw [9] (fun vi w1=>∃(i' n1:Nat),vi=.int .i64 i'/\i<=i'/\i'<=j+1/\w1=W1.drewN n1 /\
   Hid (Sort.scanUp (fun x=>!Sort.ltInt dk[a]! x) dk j i'=Sort.scanUp (fun x=>!Sort.ltInt dk[a]! x) dk j i))
   (fun vi _=>j+1 - (intOf vi).toNat)
  case atStart=>exact⟨i,0,rfl,Nat.le_refl _,hij,rfl,rfl⟩
  case round=>
   obtain⟨i',n1,rfl,hii,hij',hw1,hsc⟩:=hrel
   have hcw:∀ t,t<d.size->wr.cell? ⟨zc,off+t,none⟩=some (.int .u64 (Gk t)):=fun t ht=>by rw [hw1];exact hc t ht
   have HW1:Hid (wr=W1.drewN n1):=hw1
   clear hw1
   by_cases hle:i'<=j
   ·go_wp2_with fail
    go_big_quiet (first | (go_at_call 76;refine Calls.quiet_of_same (za _ _ _)))
    go_wp2
    ·
     have ht:(!Sort.ltInt (Gk a) (Gk i'))=true:=by assumption
     go_roundw
     case rel=>exact⟨i'+1,n1+nq,by go_num,by omega,by omega,by rw [HW1.out,World.drewN_drewN],(scanUp_go (fun x=>!Sort.ltInt dk[a]! x) dk j i' hle (by rw [<-AG.out a,<-AG.out i'];exact ht)).symm.trans hsc.out⟩
     case measure=>simp [intOf];omega
    ·
     have ht:(!Sort.ltInt (Gk a) (Gk i'))=false:=by assumption
     have hi2:Hid (i'=Sort.scanUp (fun x=>!Sort.ltInt dk[a]! x) dk j i):=(scanUp_end (fun x=>!Sort.ltInt dk[a]! x) dk j i' (Or.inr (by rw [<-AG.out a,<-AG.out i'];exact ht))).symm.trans hsc.out
     clear ht
     have hw2:wr.drewN nq=W1.drewN (n1+nq):=by rw [HW1.out,World.drewN_drewN]
     clear hcw HW1 hsc
     go_loopw [10] (fun vj w2=>∃(j' n2:Nat),vj=.int .i64 j'/\j'<=j/\i'<=j'+1/\w2=W1.drewN n2 /\
      Hid (Sort.scanDown (fun x=>Sort.ltInt dk[a]! x) dk i' j'=Sort.scanDown (fun x=>Sort.ltInt dk[a]! x) dk i' j))
      (fun vj _=>(intOf vj).toNat)
     case atStart=>exact⟨j,n1+nq,rfl,Nat.le_refl _,hij',hw2,rfl⟩
     case round=>
      clear hw2
      obtain⟨j',n2,rfl,hjj,hij2,hw2,hsd⟩:=hrel
      have hcw:∀ t,t<d.size->wr.cell? ⟨zc,off+t,none⟩=some (.int .u64 (Gk t)):=fun t ht=>by rw [hw2];exact hc t ht
      have HW2:Hid (wr=W1.drewN n2):=hw2
      clear hw2
      by_cases hle2:i'<=j'
      ·go_wp2_with fail
       go_big_quiet (first | (go_at_call 76;refine Calls.quiet_of_same (za _ _ _)))
       go_wp2
       ·
        have ht:Sort.ltInt (Gk a) (Gk j')=true:=by assumption
        go_roundw
        case rel=>exact⟨j' - 1,n2+nq,by go_num,by omega,by omega,by rw [HW2.out,World.drewN_drewN],(scanDown_go (fun x=>Sort.ltInt dk[a]! x) dk i' j' hle2 (by omega) (by rw [<-AG.out a,<-AG.out j'];exact ht)).symm.trans hsd.out⟩
        case measure=>simp [intOf];omega
       ·
        have ht:Sort.ltInt (Gk a) (Gk j')=false:=by assumption
        have hj2:Hid (j'=Sort.scanDown (fun x=>Sort.ltInt dk[a]! x) dk i' j):=(scanDown_end (fun x=>Sort.ltInt dk[a]! x) dk i' j' (Or.inr (by rw [<-AG.out a,<-AG.out j'];exact ht))).symm.trans hsd.out
        clear hcw hsd ht
        have hw3:wr.drewN nq=W1.drewN (n2+nq):=by rw [HW2.out,World.drewN_drewN]
        generalize wr.drewN nq=W3 at hw3 ⊢
        have hc3:∀ t,t<d.size->W3.cell? ⟨zc,off+t,none⟩=some (.int .u64 (Gk t)):=fun t ht=>by rw [hw3];exact hc t ht
        have hf3:∀ t,t<d.size->W3.frozen? ⟨zc,off+t,none⟩=false:=fun t ht=>by rw [hw3];exact hf t ht
        have HW3:Hid (W3=W1.drewN (n2+nq)):=hw3
        clear hw3
        obtain⟨v3,hy3⟩:=cell?_setCell_some (w:=W3) (p:=⟨zc,off+i',none⟩) (x:=.int .u64 (Gk j')) (q:=⟨zc,off+j',none⟩) (hc3 j' (by omega))
        have hlt3:=scans_lt Sort.ltInt a i j dk (by omega) hi2.out hj2.out hle2
        go_wp2
        go_region
        all_goals go_wp2
        all_goals go_roundw
        case rel=>
         refine⟨i'+1,j' - 1,n+(n2+nq)+1,Sort.swp dk i' j',by go_num,by go_num,by omega,by omega,by omega,by rw [size_swp];exact hs,?_,?_⟩
         ·rw [HW3.out,AW.out,World.drewN_drewN,AG.out i',AG.out j']
          exact swap_worldC zg w zc off dk _ i' j' (by omega) (by omega)
         ·rw [<-AE.out];exact(partEq_go Sort.ltInt a i j dk hi2.out hj2.out (by omega)).symm
        case measure=>simp [intOf];omega
      ·go_wp2_with fail
       go_big_quiet (first | (go_at_call 76;refine Calls.quiet_of_same (za _ _ _)))
       have hj2:Hid (j'=Sort.scanDown (fun x=>Sort.ltInt dk[a]! x) dk i' j):=(scanDown_end (fun x=>Sort.ltInt dk[a]! x) dk i' j' (Or.inl hle2)).symm.trans hsd.out
       clear hcw hsd
       have hw3:wr.drewN nq=W1.drewN (n2+nq):=by rw [HW2.out,World.drewN_drewN]
       generalize wr.drewN nq=W3 at hw3 ⊢
       have hc3:∀ t,t<d.size->W3.cell? ⟨zc,off+t,none⟩=some (.int .u64 (Gk t)):=fun t ht=>by rw [hw3];exact hc t ht
       have hf3:∀ t,t<d.size->W3.frozen? ⟨zc,off+t,none⟩=false:=fun t ht=>by rw [hw3];exact hf t ht
       have HW3:Hid (W3=W1.drewN (n2+nq)):=hw3
       clear hw3
       go_wp2
       go_ret
       have e:=partEq_break Sort.ltInt a i j dk hi2.out hj2.out (by omega)
       refine⟨?_,n+(n2+nq),?_⟩
       ·unfold Sort.partitionEqual;rw [<-AE.out,e];rfl
       ·unfold Sort.partitionEqual;rw [<-AE.out,e,HW3.out,AW.out,World.drewN_drewN]
   ·go_wp2_with fail
    go_big_quiet (first | (go_at_call 76;refine Calls.quiet_of_same (za _ _ _)))
    go_wp2
    have hi2:Hid (i'=Sort.scanUp (fun x=>!Sort.ltInt dk[a]! x) dk j i):=(scanUp_end (fun x=>!Sort.ltInt dk[a]! x) dk j i' (Or.inl hle)).symm.trans hsc.out
    have hw2:wr.drewN nq=W1.drewN (n1+nq):=by rw [HW1.out,World.drewN_drewN]
    clear hcw HW1 hsc
    go_loopw [10] (fun vj w2=>∃(j' n2:Nat),vj=.int .i64 j'/\j'<=j/\i'<=j'+1/\w2=W1.drewN n2 /\
     Hid (Sort.scanDown (fun x=>Sort.ltInt dk[a]! x) dk i' j'=Sort.scanDown (fun x=>Sort.ltInt dk[a]! x) dk i' j))
     (fun vj _=>(intOf vj).toNat)
    case atStart=>exact⟨j,n1+nq,rfl,Nat.le_refl _,hij',hw2,rfl⟩
    case round=>
     clear hw2
     obtain⟨j',n2,rfl,hjj,hij2,hw2,hsd⟩:=hrel
     have hcw:∀ t,t<d.size->wr.cell? ⟨zc,off+t,none⟩=some (.int .u64 (Gk t)):=fun t ht=>by rw [hw2];exact hc t ht
     have HW2:Hid (wr=W1.drewN n2):=hw2
     clear hw2
     by_cases hle2:i'<=j'
     ·exfalso;omega
     ·go_wp2_with fail
      go_big_quiet (first | (go_at_call 76;refine Calls.quiet_of_same (za _ _ _)))
      have hj2:Hid (j'=Sort.scanDown (fun x=>Sort.ltInt dk[a]! x) dk i' j):=(scanDown_end (fun x=>Sort.ltInt dk[a]! x) dk i' j' (Or.inl hle2)).symm.trans hsd.out
      clear hcw hsd
      have hw3:wr.drewN nq=W1.drewN (n2+nq):=by rw [HW2.out,World.drewN_drewN]
      generalize wr.drewN nq=W3 at hw3 ⊢
      have hc3:∀ t,t<d.size->W3.cell? ⟨zc,off+t,none⟩=some (.int .u64 (Gk t)):=fun t ht=>by rw [hw3];exact hc t ht
      have hf3:∀ t,t<d.size->W3.frozen? ⟨zc,off+t,none⟩=false:=fun t ht=>by rw [hw3];exact hf t ht
      have HW3:Hid (W3=W1.drewN (n2+nq)):=hw3
      clear hw3
      go_wp2
      go_ret
      have e:=partEq_break Sort.ltInt a i j dk hi2.out hj2.out (by omega)
      refine⟨?_,n+(n2+nq),?_⟩
      ·unfold Sort.partitionEqual;rw [<-AE.out,e];rfl
      ·unfold Sort.partitionEqual;rw [<-AE.out,e,HW3.out,AW.out,World.drewN_drewN]
theorem yz (zc off cap a b pivot:Nat) (d:Array Int) (w:World) (hH:Holds zg w zc off d) (hap:a<=pivot) (hpb:pivot<b) (hb:b<=d.size) (hsz:d.size<4611686018427387904) :
 Calls Tryz.prog 77 #[.slice (some ⟨zc,off,none⟩) d.size cap,.int .i64 a,.int .i64 b,.int .i64 pivot] w fun e w'=>
  e=.returned (.int .i64 (Sort.partitionEqual Sort.ltInt d a b pivot).1)/\∃ n,w'=putRow zg (Sort.ahead w n) zc off (Sort.partitionEqual Sort.ltInt d a b pivot).2:=
 (so_partitionEqual_int zc off cap a b pivot d w hH hap hpb hb hsz).mono fun _ _ ⟨he,n,hw⟩=>⟨he,n,hw⟩
set_option maxRecDepth 100000 in
theorem Zc (zc off cap a b pivot:Nat) (d:Array Int) (w:World) (hH:Holds zg w zc off d) (hap:a<=pivot) (hpb:pivot<b) (hb:b<=d.size) (hsz:d.size<4611686018427387904) :
 Calls Tryz.prog 78 #[.slice (some ⟨zc,off,none⟩) d.size cap,.int .i64 a,.int .i64 b,.int .i64 pivot] w fun e w'=>
  e=.returned (.tuple #[.int .i64 (Sort.partition Sort.ltInt d a b pivot).1,.bool (Sort.partition Sort.ltInt d a b pivot).2.1])/\∃ n,w'=(putRow zg w zc off (Sort.partition Sort.ltInt d a b pivot).2.2).drewN n:=by
 have hla:a<d.size:=by omega
 have hlp:pivot<d.size:=by omega
 obtain⟨G,hG⟩:∃ G:Nat->Int,∀ j,G j=d[j]!:=⟨fun j=>d[j]!,fun _=>rfl⟩
 have ca:w.cell? ⟨zc,off+a,none⟩=some (.int .u64 (G a)):=by rw [hG];exact(hH a hla).1
 have fa:=(hH a hla).2
 have cp:w.cell? ⟨zc,off+pivot,none⟩=some (.int .u64 (G pivot)):=by rw [hG];exact(hH pivot hlp).1
 have fp:=(hH pivot hlp).2
 obtain⟨v',hy'⟩:=cell?_setCell_some (w:=w) (p:=⟨zc,off+a,none⟩) (x:=.int .u64 (G pivot)) (q:=⟨zc,off+pivot,none⟩) cp
 have hw:((w.setCell ⟨zc,off+a,none⟩ (.int .u64 (G pivot))).setCell ⟨zc,off+pivot,none⟩ (.int .u64 (G a))).drew=(putRow zg w zc off (Sort.swp d a pivot)).drewN 1:=by
  have e:=swap_worldC zg w zc off d 0 a pivot hla hlp
  rw [putRow_self _ w zc off d hH] at e
  rw [hG a,hG pivot]
  exact e
 have AH:Hid (Holds zg w zc off d):=hH
 have HW0:=Hid.mk' hw
 clear hG hH hw
 go_enter Tryz.func78,Tryz.ntmps78
 go_wp2
 go_region
 go_wp2
 clear ca fa cp fp hy' v'
 have hw:=HW0.out
 clear HW0
 generalize ((w.setCell ⟨zc,off+a,none⟩ (.int .u64 (G pivot))).setCell ⟨zc,off+pivot,none⟩ (.int .u64 (G a))).drew=W1 at hw ⊢
 obtain⟨dk,hdk⟩:∃ dk,dk=Sort.swp d a pivot:=⟨_,rfl⟩
 obtain⟨n,hn⟩:∃ n:Nat,n=1:=⟨_,rfl⟩
 rw [<-hdk,<-hn] at hw
 clear hn
 have hs:dk.size=d.size:=by rw [hdk,size_swp]
 have e1:((a:Int)+1)=((a+1:Nat):Int):=by omega
 have e2:((b:Int) - 1)=((b - 1:Nat):Int):=by omega
 rw [e1,e2]
 clear e1 e2
 obtain⟨i,hi⟩:∃ i,i=a+1:=⟨_,rfl⟩
 obtain⟨j,hj⟩:∃ j,j=b - 1:=⟨_,rfl⟩
 rw [<-hi,<-hj]
 have hai:a<i:=by omega
 have hij:i<=j+1:=by omega
 have hjb:j<b:=by omega
 have HI:=Hid.mk' hi
 have HJ:=Hid.mk' hj
 have HDK:=Hid.mk' hdk
 clear hi hj hdk
 have hHk:Holds zg W1 zc off dk:=by
  rw [hw]
  exact holds_putRow zg w zc off d dk AH.out hs
 obtain⟨Gk,hG⟩:∃ Gk:Nat->Int,∀ t,Gk t=dk[t]!:=⟨fun t=>dk[t]!,fun _=>rfl⟩
 have hc:∀ t,t<d.size->W1.cell? ⟨zc,off+t,none⟩=some (.int .u64 (Gk t)):=fun t ht=>by rw [hG];exact(hHk t (by omega)).1
 have hf:∀ t,t<d.size->W1.frozen? ⟨zc,off+t,none⟩=false:=fun t ht=>(hHk t (by omega)).2
 have AG:Hid (∀ t,Gk t=dk[t]!):=hG
 have AW:Hid (W1=(putRow zg w zc off dk).drewN n):=hw
 clear hG hw hHk
 go_loopw [10] (fun vi w1=>∃(i' n1:Nat),vi=.int .i64 i'/\i<=i'/\i'<=j+1/\w1=W1.drewN n1 /\
  Hid (Sort.scanUp (fun x=>Sort.ltInt x dk[a]!) dk j i'=Sort.scanUp (fun x=>Sort.ltInt x dk[a]!) dk j i))
  (fun vi _=>j+1 - (intOf vi).toNat)
 case atStart=>exact⟨i,0,rfl,Nat.le_refl _,hij,rfl,rfl⟩
 case round=>
  obtain⟨i',n1,rfl,hii,hij',hw1,hsc⟩:=hrel
  have hcw:∀ t,t<d.size->wr.cell? ⟨zc,off+t,none⟩=some (.int .u64 (Gk t)):=fun t ht=>by rw [hw1];exact hc t ht
  have HW1:Hid (wr=W1.drewN n1):=hw1
  clear hw1
  by_cases hle:i'<=j
  ·go_wp2_with fail
   go_big_quiet (first | (go_at_call 76;refine Calls.quiet_of_same (za _ _ _)))
   go_wp2
   ·
    have ht:Sort.ltInt (Gk i') (Gk a)=true:=by assumption
    go_roundw
    case rel=>exact⟨i'+1,n1+nq,by go_num,by omega,by omega,by rw [HW1.out,World.drewN_drewN],(scanUp_go (fun x=>Sort.ltInt x dk[a]!) dk j i' hle (by rw [<-AG.out a,<-AG.out i'];exact ht)).symm.trans hsc.out⟩
    case measure=>simp [intOf];omega
   ·
    have ht:Sort.ltInt (Gk i') (Gk a)=false:=by assumption
    have hi2:Hid (i'=Sort.scanUp (fun x=>Sort.ltInt x dk[a]!) dk j i):=(scanUp_end (fun x=>Sort.ltInt x dk[a]!) dk j i' (Or.inr (by rw [<-AG.out a,<-AG.out i'];exact ht))).symm.trans hsc.out
    clear ht
    have hw2:wr.drewN nq=W1.drewN (n1+nq):=by rw [HW1.out,World.drewN_drewN]
    clear hcw HW1 hsc
    go_loopw [11] (fun vj w2=>∃(j' n2:Nat),vj=.int .i64 j'/\j'<=j/\i'<=j'+1/\w2=W1.drewN n2 /\
     Hid (Sort.scanDown (fun x=>!Sort.ltInt x dk[a]!) dk i' j'=Sort.scanDown (fun x=>!Sort.ltInt x dk[a]!) dk i' j))
     (fun vj _=>(intOf vj).toNat)
    case atStart=>exact⟨j,n1+nq,rfl,Nat.le_refl _,hij',hw2,rfl⟩
    case round=>
     clear hw2
     obtain⟨j',n2,rfl,hjj,hij2,hw2,hsd⟩:=hrel
     have hcw:∀ t,t<d.size->wr.cell? ⟨zc,off+t,none⟩=some (.int .u64 (Gk t)):=fun t ht=>by rw [hw2];exact hc t ht
     have HW2:Hid (wr=W1.drewN n2):=hw2
     clear hw2
     by_cases hle2:i'<=j'
     ·go_wp2_with fail
      go_big_quiet (first | (go_at_call 76;refine Calls.quiet_of_same (za _ _ _)))
      go_wp2
      ·
       have ht:(!Sort.ltInt (Gk j') (Gk a))=true:=by assumption
       go_roundw
       case rel=>exact⟨j' - 1,n2+nq,by go_num,by omega,by omega,by rw [HW2.out,World.drewN_drewN],(scanDown_go (fun x=>!Sort.ltInt x dk[a]!) dk i' j' hle2 (by omega) (by rw [<-AG.out a,<-AG.out j'];exact ht)).symm.trans hsd.out⟩
       case measure=>simp [intOf];omega
      ·
       have ht:(!Sort.ltInt (Gk j') (Gk a))=false:=by assumption
       have hj2:Hid (j'=Sort.scanDown (fun x=>!Sort.ltInt x dk[a]!) dk i' j):=(scanDown_end (fun x=>!Sort.ltInt x dk[a]!) dk i' j' (Or.inr (by rw [<-AG.out a,<-AG.out j'];exact ht))).symm.trans hsd.out
       clear hcw hsd ht
       have hw3:wr.drewN nq=W1.drewN (n2+nq):=by rw [HW2.out,World.drewN_drewN]
       generalize wr.drewN nq=W3 at hw3 ⊢
       have hc3:∀ t,t<d.size->W3.cell? ⟨zc,off+t,none⟩=some (.int .u64 (Gk t)):=fun t ht=>by rw [hw3];exact hc t ht
       have hf3:∀ t,t<d.size->W3.frozen? ⟨zc,off+t,none⟩=false:=fun t ht=>by rw [hw3];exact hf t ht
       have HW3:Hid (W3=W1.drewN (n2+nq)):=hw3
       clear hw3
       obtain⟨v3,hy3⟩:=cell?_setCell_some (w:=W3) (p:=⟨zc,off+i',none⟩) (x:=.int .u64 (Gk j')) (q:=⟨zc,off+j',none⟩) (hc3 j' (by omega))
       have hlt3:=part_scans_lt Sort.ltInt a i j dk (by omega) hi2.out hj2.out hle2
       go_wp2
       go_region
       all_goals go_wp2
       obtain⟨R,hR⟩:∃ R,R=Sort.partLoop Sort.ltInt a (i'+1) (j' - 1) (Sort.swp dk i' j'):=⟨_,rfl⟩
       have HP:Hid (Sort.partition Sort.ltInt d a b pivot=(R.1,false,Sort.swp R.2 R.1 a)):=by rw [hR];exact part_first_go Sort.ltInt d a b pivot HI.out HJ.out HDK.out hi2.out hj2.out (by omega)
       have hw0:((W3.setCell ⟨zc,off+i',none⟩ (.int .u64 (Gk j'))).setCell ⟨zc,off+j',none⟩ (.int .u64 (Gk i'))).drew=(putRow zg w zc off (Sort.swp dk i' j')).drewN (n+(n2+nq)+1):=by
        rw [HW3.out,AW.out,World.drewN_drewN,AG.out i',AG.out j']
        exact swap_worldC zg w zc off dk _ i' j' (by omega) (by omega)
       have HR:Hid (R=Sort.partLoop Sort.ltInt a (i'+1) (j' - 1) (Sort.swp dk i' j')):=hR
       clear hR hc hf hc3 hf3 hy3 HW3 AW AG hi2 hj2
       go_loopw [10,11] (fun vi vj wr=>∃(i j n:Nat) (dk:Array Int),vi=.int .i64 i/\vj=.int .i64 j/\a<i/\i<=j+1/\j<b/\dk.size=d.size/\wr=(putRow zg w zc off dk).drewN n /\
        Sort.partLoop Sort.ltInt a i j dk=R)
        (fun vi vj _=>(intOf vj).toNat+1 - (intOf vi).toNat)
       case atStart=>exact⟨i'+1,j' - 1,_,Sort.swp dk i' j',by go_num,by go_num,by omega,by omega,by omega,by rw [size_swp];exact hs,hw0,HR.out.symm⟩
       case round=>
        clear hw0 HR
        obtain⟨i,j,n,dk,rfl,rfl,hai,hij,hjb,hs,hw,heq⟩:=hrel
        rename World=>W1
        have AE:Hid (Sort.partLoop Sort.ltInt a i j dk=R):=heq
        clear heq
        have hHk:Holds zg W1 zc off dk:=by
         rw [hw]
         exact holds_putRow zg w zc off d dk AH.out hs
        obtain⟨Gk,hG⟩:∃ Gk:Nat->Int,∀ t,Gk t=dk[t]!:=⟨fun t=>dk[t]!,fun _=>rfl⟩
        have hc:∀ t,t<d.size->W1.cell? ⟨zc,off+t,none⟩=some (.int .u64 (Gk t)):=fun t ht=>by rw [hG];exact(hHk t (by omega)).1
        have hf:∀ t,t<d.size->W1.frozen? ⟨zc,off+t,none⟩=false:=fun t ht=>(hHk t (by omega)).2
        have AG:Hid (∀ t,Gk t=dk[t]!):=hG
        have AW:Hid (W1=(putRow zg w zc off dk).drewN n):=hw
        clear hG hw hHk
        go_wp2
        go_loopw [10] (fun vi w1=>∃(i' n1:Nat),vi=.int .i64 i'/\i<=i'/\i'<=j+1/\w1=W1.drewN n1 /\
         Hid (Sort.scanUp (fun x=>Sort.ltInt x dk[a]!) dk j i'=Sort.scanUp (fun x=>Sort.ltInt x dk[a]!) dk j i))
         (fun vi _=>j+1 - (intOf vi).toNat)
        case atStart=>exact⟨i,0,rfl,Nat.le_refl _,hij,rfl,rfl⟩
        case round=>
         obtain⟨i',n1,rfl,hii,hij',hw1,hsc⟩:=hrel
         have hcw:∀ t,t<d.size->wr.cell? ⟨zc,off+t,none⟩=some (.int .u64 (Gk t)):=fun t ht=>by rw [hw1];exact hc t ht
         have HW1:Hid (wr=W1.drewN n1):=hw1
         clear hw1
         by_cases hle:i'<=j
         ·go_wp2_with fail
          go_big_quiet (first | (go_at_call 76;refine Calls.quiet_of_same (za _ _ _)))
          go_wp2
          ·
           have ht:Sort.ltInt (Gk i') (Gk a)=true:=by assumption
           go_roundw
           case rel=>exact⟨i'+1,n1+nq,by go_num,by omega,by omega,by rw [HW1.out,World.drewN_drewN],(scanUp_go (fun x=>Sort.ltInt x dk[a]!) dk j i' hle (by rw [<-AG.out a,<-AG.out i'];exact ht)).symm.trans hsc.out⟩
           case measure=>simp [intOf];omega
          ·
           have ht:Sort.ltInt (Gk i') (Gk a)=false:=by assumption
           have hi2:Hid (i'=Sort.scanUp (fun x=>Sort.ltInt x dk[a]!) dk j i):=(scanUp_end (fun x=>Sort.ltInt x dk[a]!) dk j i' (Or.inr (by rw [<-AG.out a,<-AG.out i'];exact ht))).symm.trans hsc.out
           clear ht
           have hw2:wr.drewN nq=W1.drewN (n1+nq):=by rw [HW1.out,World.drewN_drewN]
           clear hcw HW1 hsc
           go_loopw [11] (fun vj w2=>∃(j' n2:Nat),vj=.int .i64 j'/\j'<=j/\i'<=j'+1/\w2=W1.drewN n2 /\
            Hid (Sort.scanDown (fun x=>!Sort.ltInt x dk[a]!) dk i' j'=Sort.scanDown (fun x=>!Sort.ltInt x dk[a]!) dk i' j))
            (fun vj _=>(intOf vj).toNat)
           case atStart=>exact⟨j,n1+nq,rfl,Nat.le_refl _,hij',hw2,rfl⟩
           case round=>
            clear hw2
            obtain⟨j',n2,rfl,hjj,hij2,hw2,hsd⟩:=hrel
            have hcw:∀ t,t<d.size->wr.cell? ⟨zc,off+t,none⟩=some (.int .u64 (Gk t)):=fun t ht=>by rw [hw2];exact hc t ht
            have HW2:Hid (wr=W1.drewN n2):=hw2
            clear hw2
            by_cases hle2:i'<=j'
            ·go_wp2_with fail
             go_big_quiet (first | (go_at_call 76;refine Calls.quiet_of_same (za _ _ _)))
             go_wp2
             ·
              have ht:(!Sort.ltInt (Gk j') (Gk a))=true:=by assumption
              go_roundw
              case rel=>exact⟨j' - 1,n2+nq,by go_num,by omega,by omega,by rw [HW2.out,World.drewN_drewN],(scanDown_go (fun x=>!Sort.ltInt x dk[a]!) dk i' j' hle2 (by omega) (by rw [<-AG.out a,<-AG.out j'];exact ht)).symm.trans hsd.out⟩
              case measure=>simp [intOf];omega
             ·
              have ht:(!Sort.ltInt (Gk j') (Gk a))=false:=by assumption
              have hj2:Hid (j'=Sort.scanDown (fun x=>!Sort.ltInt x dk[a]!) dk i' j):=(scanDown_end (fun x=>!Sort.ltInt x dk[a]!) dk i' j' (Or.inr (by rw [<-AG.out a,<-AG.out j'];exact ht))).symm.trans hsd.out
              clear hcw hsd ht
              have hw3:wr.drewN nq=W1.drewN (n2+nq):=by rw [HW2.out,World.drewN_drewN]
              generalize wr.drewN nq=W3 at hw3 ⊢
              have hc3:∀ t,t<d.size->W3.cell? ⟨zc,off+t,none⟩=some (.int .u64 (Gk t)):=fun t ht=>by rw [hw3];exact hc t ht
              have hf3:∀ t,t<d.size->W3.frozen? ⟨zc,off+t,none⟩=false:=fun t ht=>by rw [hw3];exact hf t ht
              have HW3:Hid (W3=W1.drewN (n2+nq)):=hw3
              clear hw3
              obtain⟨v3,hy3⟩:=cell?_setCell_some (w:=W3) (p:=⟨zc,off+i',none⟩) (x:=.int .u64 (Gk j')) (q:=⟨zc,off+j',none⟩) (hc3 j' (by omega))
              have hlt3:=part_scans_lt Sort.ltInt a i j dk (by omega) hi2.out hj2.out hle2
              go_wp2
              go_region
              all_goals go_wp2
              all_goals go_roundw
              case rel=>
               refine⟨i'+1,j' - 1,n+(n2+nq)+1,Sort.swp dk i' j',by go_num,by go_num,by omega,by omega,by omega,by rw [size_swp];exact hs,?_,?_⟩
               ·rw [HW3.out,AW.out,World.drewN_drewN,AG.out i',AG.out j']
                exact swap_worldC zg w zc off dk _ i' j' (by omega) (by omega)
               ·exact(part_go Sort.ltInt a i j dk hi2.out hj2.out (by omega)).symm.trans AE.out
              case measure=>simp [intOf];omega
            ·go_wp2_with fail
             go_big_quiet (first | (go_at_call 76;refine Calls.quiet_of_same (za _ _ _)))
             have hj2:Hid (j'=Sort.scanDown (fun x=>!Sort.ltInt x dk[a]!) dk i' j):=(scanDown_end (fun x=>!Sort.ltInt x dk[a]!) dk i' j' (Or.inl hle2)).symm.trans hsd.out
             clear hcw hsd
             have hw3:wr.drewN nq=W1.drewN (n2+nq):=by rw [HW2.out,World.drewN_drewN]
             generalize wr.drewN nq=W3 at hw3 ⊢
             have hc3:∀ t,t<d.size->W3.cell? ⟨zc,off+t,none⟩=some (.int .u64 (Gk t)):=fun t ht=>by rw [hw3];exact hc t ht
             have hf3:∀ t,t<d.size->W3.frozen? ⟨zc,off+t,none⟩=false:=fun t ht=>by rw [hw3];exact hf t ht
             have HW3:Hid (W3=W1.drewN (n2+nq)):=hw3
             clear hw3
             obtain⟨v3,hy3⟩:=cell?_setCell_some (w:=W3) (p:=⟨zc,off+j',none⟩) (x:=.int .u64 (Gk a)) (q:=⟨zc,off+a,none⟩) (hc3 a (by omega))
             have hlj:j'<d.size:=by omega
             go_wp2
             go_region
             all_goals go_wp2
             all_goals go_ret2
             have e:Sort.partition Sort.ltInt d a b pivot=(j',false,Sort.swp dk j' a):=by
              have e0:=(part_break Sort.ltInt a i j dk hi2.out hj2.out (by omega)).symm.trans AE.out
              rw [HP.out,<-e0]
             refine⟨?_,n+(n2+nq)+1,?_⟩
             ·rw [e];rfl
             ·rw [e,HW3.out,AW.out,World.drewN_drewN,AG.out a,AG.out j']
              exact swap_worldC zg w zc off dk _ j' a (by omega) (by omega)
         ·go_wp2_with fail
          go_big_quiet (first | (go_at_call 76;refine Calls.quiet_of_same (za _ _ _)))
          go_wp2
          have hi2:Hid (i'=Sort.scanUp (fun x=>Sort.ltInt x dk[a]!) dk j i):=(scanUp_end (fun x=>Sort.ltInt x dk[a]!) dk j i' (Or.inl hle)).symm.trans hsc.out
          have hw2:wr.drewN nq=W1.drewN (n1+nq):=by rw [HW1.out,World.drewN_drewN]
          clear hcw HW1 hsc
          go_loopw [11] (fun vj w2=>∃(j' n2:Nat),vj=.int .i64 j'/\j'<=j/\i'<=j'+1/\w2=W1.drewN n2 /\
           Hid (Sort.scanDown (fun x=>!Sort.ltInt x dk[a]!) dk i' j'=Sort.scanDown (fun x=>!Sort.ltInt x dk[a]!) dk i' j))
           (fun vj _=>(intOf vj).toNat)
          case atStart=>exact⟨j,n1+nq,rfl,Nat.le_refl _,hij',hw2,rfl⟩
          case round=>
           clear hw2
           obtain⟨j',n2,rfl,hjj,hij2,hw2,hsd⟩:=hrel
           have hcw:∀ t,t<d.size->wr.cell? ⟨zc,off+t,none⟩=some (.int .u64 (Gk t)):=fun t ht=>by rw [hw2];exact hc t ht
           have HW2:Hid (wr=W1.drewN n2):=hw2
           clear hw2
           by_cases hle2:i'<=j'
           ·exfalso;omega
           ·go_wp2_with fail
            go_big_quiet (first | (go_at_call 76;refine Calls.quiet_of_same (za _ _ _)))
            have hj2:Hid (j'=Sort.scanDown (fun x=>!Sort.ltInt x dk[a]!) dk i' j):=(scanDown_end (fun x=>!Sort.ltInt x dk[a]!) dk i' j' (Or.inl hle2)).symm.trans hsd.out
            clear hcw hsd
            have hw3:wr.drewN nq=W1.drewN (n2+nq):=by rw [HW2.out,World.drewN_drewN]
            generalize wr.drewN nq=W3 at hw3 ⊢
            have hc3:∀ t,t<d.size->W3.cell? ⟨zc,off+t,none⟩=some (.int .u64 (Gk t)):=fun t ht=>by rw [hw3];exact hc t ht
            have hf3:∀ t,t<d.size->W3.frozen? ⟨zc,off+t,none⟩=false:=fun t ht=>by rw [hw3];exact hf t ht
            have HW3:Hid (W3=W1.drewN (n2+nq)):=hw3
            clear hw3
            obtain⟨v3,hy3⟩:=cell?_setCell_some (w:=W3) (p:=⟨zc,off+j',none⟩) (x:=.int .u64 (Gk a)) (q:=⟨zc,off+a,none⟩) (hc3 a (by omega))
            have hlj:j'<d.size:=by omega
            go_wp2
            go_region
            all_goals go_wp2
            all_goals go_ret2
            have e:Sort.partition Sort.ltInt d a b pivot=(j',false,Sort.swp dk j' a):=by
             have e0:=(part_break Sort.ltInt a i j dk hi2.out hj2.out (by omega)).symm.trans AE.out
             rw [HP.out,<-e0]
            refine⟨?_,n+(n2+nq)+1,?_⟩
            ·rw [e];rfl
            ·rw [e,HW3.out,AW.out,World.drewN_drewN,AG.out a,AG.out j']
             exact swap_worldC zg w zc off dk _ j' a (by omega) (by omega)
     ·go_wp2_with fail
      go_big_quiet (first | (go_at_call 76;refine Calls.quiet_of_same (za _ _ _)))
      have hj2:Hid (j'=Sort.scanDown (fun x=>!Sort.ltInt x dk[a]!) dk i' j):=(scanDown_end (fun x=>!Sort.ltInt x dk[a]!) dk i' j' (Or.inl hle2)).symm.trans hsd.out
      clear hcw hsd
      have hw3:wr.drewN nq=W1.drewN (n2+nq):=by rw [HW2.out,World.drewN_drewN]
      generalize wr.drewN nq=W3 at hw3 ⊢
      have hc3:∀ t,t<d.size->W3.cell? ⟨zc,off+t,none⟩=some (.int .u64 (Gk t)):=fun t ht=>by rw [hw3];exact hc t ht
      have hf3:∀ t,t<d.size->W3.frozen? ⟨zc,off+t,none⟩=false:=fun t ht=>by rw [hw3];exact hf t ht
      have HW3:Hid (W3=W1.drewN (n2+nq)):=hw3
      clear hw3
      obtain⟨v3,hy3⟩:=cell?_setCell_some (w:=W3) (p:=⟨zc,off+j',none⟩) (x:=.int .u64 (Gk a)) (q:=⟨zc,off+a,none⟩) (hc3 a (by omega))
      have hlj:j'<d.size:=by omega
      go_wp2
      go_region
      all_goals go_wp2
      all_goals go_ret2
      have e:Sort.partition Sort.ltInt d a b pivot=(j',true,Sort.swp dk j' a):=part_first_break Sort.ltInt d a b pivot HI.out HJ.out HDK.out hi2.out hj2.out (by omega)
      refine⟨?_,n+(n2+nq)+1,?_⟩
      ·rw [e];rfl
      ·rw [e,HW3.out,AW.out,World.drewN_drewN,AG.out a,AG.out j']
       exact swap_worldC zg w zc off dk _ j' a (by omega) (by omega)
  ·go_wp2_with fail
   go_big_quiet (first | (go_at_call 76;refine Calls.quiet_of_same (za _ _ _)))
   go_wp2
   have hi2:Hid (i'=Sort.scanUp (fun x=>Sort.ltInt x dk[a]!) dk j i):=(scanUp_end (fun x=>Sort.ltInt x dk[a]!) dk j i' (Or.inl hle)).symm.trans hsc.out
   have hw2:wr.drewN nq=W1.drewN (n1+nq):=by rw [HW1.out,World.drewN_drewN]
   clear hcw HW1 hsc
   go_loopw [11] (fun vj w2=>∃(j' n2:Nat),vj=.int .i64 j'/\j'<=j/\i'<=j'+1/\w2=W1.drewN n2 /\
    Hid (Sort.scanDown (fun x=>!Sort.ltInt x dk[a]!) dk i' j'=Sort.scanDown (fun x=>!Sort.ltInt x dk[a]!) dk i' j))
    (fun vj _=>(intOf vj).toNat)
   case atStart=>exact⟨j,n1+nq,rfl,Nat.le_refl _,hij',hw2,rfl⟩
   case round=>
    clear hw2
    obtain⟨j',n2,rfl,hjj,hij2,hw2,hsd⟩:=hrel
    have hcw:∀ t,t<d.size->wr.cell? ⟨zc,off+t,none⟩=some (.int .u64 (Gk t)):=fun t ht=>by rw [hw2];exact hc t ht
    have HW2:Hid (wr=W1.drewN n2):=hw2
    clear hw2
    by_cases hle2:i'<=j'
    ·exfalso;omega
    ·go_wp2_with fail
     go_big_quiet (first | (go_at_call 76;refine Calls.quiet_of_same (za _ _ _)))
     have hj2:Hid (j'=Sort.scanDown (fun x=>!Sort.ltInt x dk[a]!) dk i' j):=(scanDown_end (fun x=>!Sort.ltInt x dk[a]!) dk i' j' (Or.inl hle2)).symm.trans hsd.out
     clear hcw hsd
     have hw3:wr.drewN nq=W1.drewN (n2+nq):=by rw [HW2.out,World.drewN_drewN]
     generalize wr.drewN nq=W3 at hw3 ⊢
     have hc3:∀ t,t<d.size->W3.cell? ⟨zc,off+t,none⟩=some (.int .u64 (Gk t)):=fun t ht=>by rw [hw3];exact hc t ht
     have hf3:∀ t,t<d.size->W3.frozen? ⟨zc,off+t,none⟩=false:=fun t ht=>by rw [hw3];exact hf t ht
     have HW3:Hid (W3=W1.drewN (n2+nq)):=hw3
     clear hw3
     obtain⟨v3,hy3⟩:=cell?_setCell_some (w:=W3) (p:=⟨zc,off+j',none⟩) (x:=.int .u64 (Gk a)) (q:=⟨zc,off+a,none⟩) (hc3 a (by omega))
     have hlj:j'<d.size:=by omega
     go_wp2
     go_region
     all_goals go_wp2
     all_goals go_ret2
     have e:Sort.partition Sort.ltInt d a b pivot=(j',true,Sort.swp dk j' a):=part_first_break Sort.ltInt d a b pivot HI.out HJ.out HDK.out hi2.out hj2.out (by omega)
     refine⟨?_,n+(n2+nq)+1,?_⟩
     ·rw [e];rfl
     ·rw [e,HW3.out,AW.out,World.drewN_drewN,AG.out a,AG.out j']
      exact swap_worldC zg w zc off dk _ j' a (by omega) (by omega)
theorem xJ (zc off cap a b pivot:Nat) (d:Array Int) (w:World) (hH:Holds zg w zc off d) (hap:a<=pivot) (hpb:pivot<b) (hb:b<=d.size) (hsz:d.size<4611686018427387904) :
 Calls Tryz.prog 78 #[.slice (some ⟨zc,off,none⟩) d.size cap,.int .i64 a,.int .i64 b,.int .i64 pivot] w fun e w'=>
  e=.returned (.tuple #[.int .i64 (Sort.partition Sort.ltInt d a b pivot).1,.bool (Sort.partition Sort.ltInt d a b pivot).2.1])/\∃ n,w'=putRow zg (Sort.ahead w n) zc off (Sort.partition Sort.ltInt d a b pivot).2.2:=
 (Zc zc off cap a b pivot d w hH hap hpb hb hsz).mono fun _ _ ⟨he,n,hw⟩=>⟨he,n,hw⟩
set_option maxRecDepth 100000 in
theorem xI (zc off cap a L:Nat) (d:Array Int) (w:World) (hH:Holds zg w zc off d) (hblk:zc<w.heap.size) (hb:a+L<=d.size) (hsz:d.size<4611686018427387904) (h8:8<=L) :
 Calls Tryz.prog 72 #[.slice (some ⟨zc,off,none⟩) d.size cap,.int .i64 a,.int .i64 ((a+L:Nat):Int)] w fun e w'=>
  e=.returned (.tuple #[])/\∃ n os,w'=grow (putRow zg (Sort.ahead w n) zc off (breakPatterns d a (a+L))) os:=by
 rw [breakPatterns_eq d a L h8]
 obtain⟨M,hM⟩:∃ M:Nat,M=1 <<< bitsLen L:=⟨_,rfl⟩
 have hM1:1<=M:=by rw [hM,Nat.one_shiftLeft];exact Nat.two_pow_pos _
 have hM2:M<=2 * L:=by rw [hM,Nat.one_shiftLeft];exact two_pow_bitsLen_le (by omega)
 have hNP:∀ w,Calls Tryz.prog 92 #[.int .i64 (L:Int)] w fun e w'=>e=.returned (.int .u64 (M:Int))/\w'=w:=by rw [hM];exact fun w=>so_nextPowerOfTwo L (by omega) w
 rw [<-hM]
 clear hM
 have HH:Hid (Holds zg w zc off d):=hH
 have HST:Hid (w.alloc (Obj.cells #[.int .u64 (L:Int)] 134)=grow (putRow zg (Sort.ahead w 0) zc off d) #[Obj.cells #[.int .u64 ((UInt64.ofNat L).toNat:Int)] 134]):=by
  show _=_
  rw [show Sort.ahead w 0=w from rfl,putRow_self _ _ _ _ _ hH,alloc_eq_grow,show (UInt64.ofNat L).toNat=L from by simp;omega]
 clear hH
 go_enter Tryz.func72,Tryz.ntmps72
 go_wp2_with (first | (go_at_call 92;rw [show ((a:Int)+(L:Int) - (a:Int))=(L:Int) by omega];refine(hNP _).mono ?_;rintro e w' ⟨rfl,rfl⟩))
 go_loopw [9] (fun vi wr=>∃(t n:Nat) (r:UInt64) (dk:Array Int),vi=.int .i64 ((a+L / 4 * 2 - 1+t:Nat):Int)/\t<=3/\dk.size=d.size /\
  wr=grow (putRow zg (Sort.ahead w n) zc off dk) #[Obj.cells #[.int .u64 (r.toNat:Int)] 134] /\
  bpRest a L M (a+L / 4 * 2 - 1) (3 - t) t (r,dk)=bpRest a L M (a+L / 4 * 2 - 1) 3 0 (UInt64.ofNat L,d)) (fun vi _=>a+L / 4 * 2+3 - (intOf vi).toNat)
 case atStart=>exact⟨0,0,UInt64.ofNat L,d,by congr 1;omega,by omega,rfl,HST.out,rfl⟩
 case round=>
  obtain⟨t,n,r,dk,rfl,ht,hsk,hw,hR⟩:=hrel
  obtain⟨R,hRr⟩:∃ R:Nat,R=r.toNat:=⟨_,rfl⟩
  have lR:R<18446744073709551616:=by rw [hRr];exact r.toNat_lt
  obtain⟨R',hR'⟩:∃ R':Nat,R'=xorNextN R:=⟨_,rfl⟩
  have lR':R'<18446744073709551616:=by rw [hR'];exact xorNextN_lt R lR
  obtain⟨O,hO⟩:∃ O:Nat,O=R' &&& (M - 1):=⟨_,rfl⟩
  have lO:O<=M - 1:=by rw [hO];exact Nat.and_le_right
  have eAnd:bits .and .u64 (R':Int) ((M:Int) - 1)=(O:Int):=by
   rw [show ((M:Int) - 1)=((M - 1:Nat):Int) by omega,bits_and_u64_nat _ _ lR' (by omega),hO]
  obtain⟨G,hG⟩:∃ G:Nat->Int,∀ x,G x=dk[x]!:=⟨fun x=>dk[x]!,fun _=>rfl⟩
  have hz:(putRow zg (Sort.ahead w n) zc off dk).heap.size=w.heap.size:=by simp
  have hcw:∀ x,x<d.size->wr.cell? ⟨zc,off+x,none⟩=some (.int .u64 (G x)):=fun x hx=>by
   rw [hw,cell?_grow _ _ _ (by rw [hz];exact hblk),hG];exact cell?_putRow _ _ _ _ d dk (holds_ahead _ _ _ _ _ _ HH.out) hsk x (by omega)
  have hfw:∀ x,x<d.size->wr.frozen? ⟨zc,off+x,none⟩=false:=fun x hx=>by
   rw [hw,frozen?_grow _ _ _ (by rw [hz];exact hblk),frozen?_putRow];exact((holds_ahead _ _ n _ _ _ HH.out) x hx).2
  have hcB:wr.cell? ⟨w.heap.size,0,none⟩=some (.int .u64 (R:Int)):=by rw [hw,hRr,<-hz];exact grow_one_cell _ _ _
  have hfB:wr.frozen? ⟨w.heap.size,0,none⟩=false:=by rw [hw,<-hz];exact grow_one_frozen _ _ _
  have hNext:Calls Tryz.prog 93 #[.pointer (some ⟨w.heap.size,0,none⟩)] wr fun e w'=>e=.returned (.int .u64 (R':Int))/\w'=(wr.setCell ⟨w.heap.size,0,none⟩ (.int .u64 (R':Int))).drewN 3:=by
   rw [hR'];exact Zd _ _ R lR wr hcB hfB
  have HW:Hid (wr=grow (putRow zg (Sort.ahead w n) zc off dk) #[Obj.cells #[.int .u64 (r.toNat:Int)] 134]):=hw
  have HG:Hid (∀ x,G x=dk[x]!):=hG
  have HR:Hid (bpRest a L M (a+L / 4 * 2 - 1) (3 - t) t (r,dk)=bpRest a L M (a+L / 4 * 2 - 1) 3 0 (UInt64.ofNat L,d)):=hR
  have HN:Hid (R'=(xorNext r).toNat/\O=(xorNext r).toNat &&& (M - 1)):=by
   have e:R'=(xorNext r).toNat:=by rw [hR',hRr,xorNext_toNat]
   exact⟨e,by rw [hO,e]⟩
  clear hw hG hR hRr hR' hO
  go_wp2_with (first | (go_at_call 93;refine hNext.mono ?_;rintro e w' ⟨rfl,rfl⟩))
  ·
   have hLO:L<=O:=by omega
   by_cases hEq:a+L / 4 * 2 - 1+t=a+(O - L)
   all_goals
    go_region
    all_goals go_wp2
    go_roundw
    case rel=>
     refine⟨t+1,n+4,xorNext r,swp dk (a+L / 4 * 2 - 1+t) (a+(O - L)),by first | rfl | (congr 1<;>omega),by omega,by rw [size_swp];exact hsk,?_,?_⟩
     ·(try rw [hEq])
      rw [HW.out,HN.out.1]
      simp only [HG.out]
      exact step_world zg w n 4 zc off dk _ _ hblk (by omega) (by omega) _ _ _
     ·rw [<-HR.out,bp_step a L M _ t r dk (O - L) (by omega) (by rw [<-HN.out.2,if_pos (by omega)])]
    case measure=>simp [intOf];omega
  ·have hLO:¬ L<=O:=by omega
   by_cases hEq:a+L / 4 * 2 - 1+t=a+O
   all_goals
    go_region
    all_goals go_wp2
    go_roundw
    case rel=>
     refine⟨t+1,n+4,xorNext r,swp dk (a+L / 4 * 2 - 1+t) (a+O),by first | rfl | (congr 1<;>omega),by omega,by rw [size_swp];exact hsk,?_,?_⟩
     ·(try rw [hEq])
      rw [HW.out,HN.out.1]
      simp only [HG.out]
      exact step_world zg w n 4 zc off dk _ _ hblk (by omega) (by omega) _ _ _
     ·rw [<-HR.out,bp_step a L M _ t r dk O (by omega) (by rw [<-HN.out.2,if_neg (by omega)])]
    case measure=>simp [intOf];omega
  ·
   obtain rfl:t=3:=by omega
   go_end0
   exact⟨rfl,n,_,by rw [<-HR.out,HW.out];rfl⟩
theorem vU (zc off cap a b:Nat) (d:Array Int) (w:World) (hH:Holds zg w zc off d) (hblk:zc<w.heap.size) (hab:a<=b) (hb:b<=d.size) (hsz:d.size<4611686018427387904) :
 Calls Tryz.prog 72 #[.slice (some ⟨zc,off,none⟩) d.size cap,.int .i64 a,.int .i64 b] w fun e w'=>
  e=.returned (.tuple #[])/\∃ n os,w'=grow (putRow zg (Sort.ahead w n) zc off (breakPatterns d a b)) os:=by
 obtain⟨L,rfl⟩:∃ L,b=a+L:=⟨b - a,by omega⟩
 by_cases h8:8<=L
 ·exact xI zc off cap a L d w hH hblk hb hsz h8
 ·have hv:breakPatterns d a (a+L)=d:=by unfold breakPatterns;simp only [Nat.add_sub_cancel_left];rw [if_neg h8]
  rw [hv]
  have HST:Hid (w=grow (putRow zg (Sort.ahead w 0) zc off d) #[]):=by
   show _=_
   rw [grow_empty,show Sort.ahead w 0=w from rfl,putRow_self _ _ _ _ _ hH]
  clear hH
  go_enter Tryz.func72,Tryz.ntmps72
  go_wp2
  go_end0
  exact⟨rfl,0,#[],HST.out⟩
set_option maxRecDepth 1000000 in
theorem yA (zc off len cap:Nat) (d:Array Int) (hlen:d.size=len) (lo hi first:Nat) (w:World) (hH:Holds zg w zc off d) (hlo:lo<=hi) (hb:first+hi<=d.size) (hsz:d.size<4611686018427387904) :
 Calls Tryz.prog 91 #[.slice (some ⟨zc,off,none⟩) len cap,.int .i64 lo,.int .i64 hi,.int .i64 first] w fun e w'=>e=.returned (.tuple #[])/\∃ n,w'=putRow zg (Sort.ahead w n) zc off (siftDown ltInt hi first lo d):=by
 subst hlen
 go_enter Tryz.func91,Tryz.ntmps91
 go_wp2
 go_loopg [8] (hi - lo) (fun k s8 wr=>∃(root:Nat) (dk:Array Int) (n:Nat),s8=.int .i64 root/\root<=hi/\hi - root<=k/\dk.size=d.size/\wr=putRow zg (Sort.ahead w n) zc off dk/\siftDown ltInt hi first root dk=siftDown ltInt hi first lo d)
 case atStart=>exact⟨lo,d,0,rfl,hlo,Nat.le_refl _,rfl,(putRow_self zg w zc off d hH).symm,rfl⟩
 case round=>
  obtain⟨root,dk,n,rfl,hr,hk,hds,hwr,heq⟩:=hrel
  have hHk:Holds zg wr zc off dk:=by rw [hwr];exact holds_putRow zg _ zc off d dk (holds_ahead zg w n zc off d hH) hds
  have hcw:∀ t,t<d.size->wr.cell? ⟨zc,off+t,none⟩=some (.int .u64 dk[t]!):=fun t ht=>(hHk t (by omega)).1
  have hfw:∀ t,t<d.size->wr.frozen? ⟨zc,off+t,none⟩=false:=fun t ht=>(hHk t (by omega)).2
  have A:Aside (wr=putRow zg (Sort.ahead w n) zc off dk):=hwr
  clear hwr hH hHk
  by_cases h0:hi<=2 * root+1
  ·
   have h0z:(hi:Int)<=2 * (root:Int)+1:=by omega
   go_wp2
   go_end0
   refine⟨rfl,n,?_⟩
   rw [A.out,<-heq,sd_end ltInt dk h0]
  ·
   have h0z:¬((hi:Int)<=2 * (root:Int)+1):=by omega
   by_cases h1:2 * root+2<hi
   ·have h1z:2 * (root:Int)+1+1<(hi:Int):=by omega
    go_wp2_with fail
    go_big_quiet (first | (go_at_call 76;refine Calls.quiet_of_same (za _ _ _)))
    go_wp2_with fail
    ·
     have hL:ltInt dk[first+2 * root+1]! dk[first+2 * root+2]! = true:=by assumption
     revert nq;intro nq1
     have hcw2:∀ t,t<d.size->(wr.drewN nq1).cell? ⟨zc,off+t,none⟩=some (.int .u64 dk[t]!):=hcw
     have hfw2:∀ t,t<d.size->(wr.drewN nq1).frozen? ⟨zc,off+t,none⟩=false:=hfw
     have A2:Aside (wr.drewN nq1=putRow zg (Sort.ahead w (n+nq1)) zc off dk):=drewN_world zg A.out nq1
     clear hcw hfw A
     generalize wr.drewN nq1=wr2 at hcw2 hfw2 A2 ⊢
     go_big_quiet (first | (go_at_call 76;refine Calls.quiet_of_same (za _ _ _)))
     go_wp2_with fail
     ·
      have hS:ltInt dk[first+root]! dk[first+2 * root+2]! = false:=by
       have:(!ltInt dk[first+root]! dk[first+2 * root+2]!)=true:=by assumption
       simpa using this
      (try simp only [Exit.inBlock,Exit.then]);refine bodyPost_ret (results_none rfl _ _ _) rfl ?_
      refine⟨rfl,n+nq1+nq,?_⟩
      rw [drewN_world zg A2.out nq,<-heq,sd_right_stop ltInt dk h1 hL hS]
     ·
      have hG:ltInt dk[first+root]! dk[first+2 * root+2]! = true:=by
       have:(!ltInt dk[first+root]! dk[first+2 * root+2]!)=false:=by assumption
       simpa using this
      have hcw3:∀ t,t<d.size->(wr2.drewN nq).cell? ⟨zc,off+t,none⟩=some (.int .u64 dk[t]!):=hcw2
      have hfw3:∀ t,t<d.size->(wr2.drewN nq).frozen? ⟨zc,off+t,none⟩=false:=hfw2
      have A3:Aside (wr2.drewN nq=putRow zg (Sort.ahead w (n+nq1+nq)) zc off dk):=drewN_world zg A2.out nq
      clear hcw2 hfw2 A2
      generalize wr2.drewN nq=wr3 at hcw3 hfw3 A3 ⊢
      go_region
      go_wp2
      go_roundg (hi - (2 * root+2))
      case measure=>omega
      case rel=>
       refine⟨2 * root+2,swp dk (first+root) (first+(2 * root+1+1)),n+nq1+nq+1,by simp<;>omega,by omega,Nat.le_refl _,by rw [size_swp];exact hds,swap_world zg (by omega) (by omega) A3.out rfl rfl,?_⟩
       rw [<-heq,sd_right_go ltInt dk h1 hL hG]
    ·
     have hL:ltInt dk[first+2 * root+1]! dk[first+2 * root+2]! = false:=by assumption
     revert nq;intro nq1
     have hcw2:∀ t,t<d.size->(wr.drewN nq1).cell? ⟨zc,off+t,none⟩=some (.int .u64 dk[t]!):=hcw
     have hfw2:∀ t,t<d.size->(wr.drewN nq1).frozen? ⟨zc,off+t,none⟩=false:=hfw
     have A2:Aside (wr.drewN nq1=putRow zg (Sort.ahead w (n+nq1)) zc off dk):=drewN_world zg A.out nq1
     clear hcw hfw A
     generalize wr.drewN nq1=wr2 at hcw2 hfw2 A2 ⊢
     go_big_quiet (first | (go_at_call 76;refine Calls.quiet_of_same (za _ _ _)))
     go_wp2_with fail
     ·
      have hS:ltInt dk[first+root]! dk[first+2 * root+1]! = false:=by
       have:(!ltInt dk[first+root]! dk[first+2 * root+1]!)=true:=by assumption
       simpa using this
      (try simp only [Exit.inBlock,Exit.then]);refine bodyPost_ret (results_none rfl _ _ _) rfl ?_
      refine⟨rfl,n+nq1+nq,?_⟩
      rw [drewN_world zg A2.out nq,<-heq,sd_left_stop ltInt dk (by omega) (fun _=>hL) hS]
     ·
      have hG:ltInt dk[first+root]! dk[first+2 * root+1]! = true:=by
       have:(!ltInt dk[first+root]! dk[first+2 * root+1]!)=false:=by assumption
       simpa using this
      have hcw3:∀ t,t<d.size->(wr2.drewN nq).cell? ⟨zc,off+t,none⟩=some (.int .u64 dk[t]!):=hcw2
      have hfw3:∀ t,t<d.size->(wr2.drewN nq).frozen? ⟨zc,off+t,none⟩=false:=hfw2
      have A3:Aside (wr2.drewN nq=putRow zg (Sort.ahead w (n+nq1+nq)) zc off dk):=drewN_world zg A2.out nq
      clear hcw2 hfw2 A2
      generalize wr2.drewN nq=wr3 at hcw3 hfw3 A3 ⊢
      go_region
      go_wp2
      go_roundg (hi - (2 * root+1))
      case measure=>omega
      case rel=>
       refine⟨2 * root+1,swp dk (first+root) (first+(2 * root+1)),n+nq1+nq+1,by simp<;>omega,by omega,Nat.le_refl _,by rw [size_swp];exact hds,swap_world zg (by omega) (by omega) A3.out rfl rfl,?_⟩
       rw [<-heq,sd_left_go ltInt dk (by omega) (fun _=>hL) hG]
   ·
    have h1z:decide (2 * (root:Int)+1+1<(hi:Int))=false:=decide_eq_false (by omega)
    go_wp2_with fail
    go_big_quiet (first | (go_at_call 76;refine Calls.quiet_of_same (za _ _ _)))
    go_wp2_with fail
    revert nq;intro nq1
    have hcw2:∀ t,t<d.size->(wr.drewN nq1).cell? ⟨zc,off+t,none⟩=some (.int .u64 dk[t]!):=hcw
    have hfw2:∀ t,t<d.size->(wr.drewN nq1).frozen? ⟨zc,off+t,none⟩=false:=hfw
    have A2:Aside (wr.drewN nq1=putRow zg (Sort.ahead w (n+nq1)) zc off dk):=drewN_world zg A.out nq1
    clear hcw hfw A
    generalize wr.drewN nq1=wr2 at hcw2 hfw2 A2 ⊢
    go_big_quiet (first | (go_at_call 76;refine Calls.quiet_of_same (za _ _ _)))
    go_wp2_with fail
    ·
     have hS:ltInt dk[first+root]! dk[first+2 * root+1]! = false:=by
      have:(!ltInt dk[first+root]! dk[first+2 * root+1]!)=true:=by assumption
      simpa using this
     (try simp only [Exit.inBlock,Exit.then]);refine bodyPost_ret (results_none rfl _ _ _) rfl ?_
     refine⟨rfl,n+nq1+nq,?_⟩
     rw [drewN_world zg A2.out nq,<-heq,sd_left_stop ltInt dk (by omega) (fun h=>absurd h h1) hS]
    ·
     have hG:ltInt dk[first+root]! dk[first+2 * root+1]! = true:=by
      have:(!ltInt dk[first+root]! dk[first+2 * root+1]!)=false:=by assumption
      simpa using this
     have hcw3:∀ t,t<d.size->(wr2.drewN nq).cell? ⟨zc,off+t,none⟩=some (.int .u64 dk[t]!):=hcw2
     have hfw3:∀ t,t<d.size->(wr2.drewN nq).frozen? ⟨zc,off+t,none⟩=false:=hfw2
     have A3:Aside (wr2.drewN nq=putRow zg (Sort.ahead w (n+nq1+nq)) zc off dk):=drewN_world zg A2.out nq
     clear hcw2 hfw2 A2
     generalize wr2.drewN nq=wr3 at hcw3 hfw3 A3 ⊢
     go_region
     go_wp2
     go_roundg (hi - (2 * root+1))
     case measure=>omega
     case rel=>
      refine⟨2 * root+1,swp dk (first+root) (first+(2 * root+1)),n+nq1+nq+1,by simp<;>omega,by omega,Nat.le_refl _,by rw [size_swp];exact hds,swap_world zg (by omega) (by omega) A3.out rfl rfl,?_⟩
      rw [<-heq,sd_left_go ltInt dk (by omega) (fun h=>absurd h h1) hG]
set_option maxRecDepth 1000000 in
theorem ZK (zc off len cap:Nat) (d:Array Int) (hlen:d.size=len) (a b:Nat) (w:World) (hH:Holds zg w zc off d) (hab:a<=b) (hb:b<=d.size) (hsz:d.size<4611686018427387904) :
 Calls Tryz.prog 71 #[.slice (some ⟨zc,off,none⟩) len cap,.int .i64 a,.int .i64 b] w fun e w'=>e=.returned (.tuple #[])/\∃ n,w'=putRow zg (Sort.ahead w n) zc off (heapSort ltInt d a b):=by
 subst hlen
 have ecast:((b - a:Nat):Int)=(b:Int) - (a:Int):=by omega
 go_enter Tryz.func71,Tryz.ntmps71
 go_wp2
 go_loopg [9] ((b - a - 1) / 2+1) (fun k s9 wr=>s9=.int .i64 ((k:Int) - 1)/\k<=(b - a - 1) / 2+1/\∃(dk:Array Int) (n:Nat),dk.size=d.size/\wr=putRow zg (Sort.ahead w n) zc off dk /\
  heapBuild ltInt (b - a) a k dk=heapBuild ltInt (b - a) a ((b - a - 1) / 2+1) d)
 case atStart=>exact⟨by rw [half_start hab],Nat.le_refl _,d,0,rfl,(putRow_self zg w zc off d hH).symm,rfl⟩
 case round=>
  obtain⟨rfl,hkk,dk,n,hds,hwr,heq⟩:=hrel
  have hHk:Holds zg wr zc off dk:=by rw [hwr];exact holds_putRow zg _ zc off d dk (holds_ahead zg w n zc off d hH) hds
  have A:Aside (wr=putRow zg (Sort.ahead w n) zc off dk):=hwr
  clear hwr
  cases gk with
  | zero=>
    have hB:dk=heapBuild ltInt (b - a) a ((b - a - 1) / 2+1) d:=heq
    clear heq hHk hkk
    go_wp2
    go_loopg [10] (b - a) (fun k s10 wr2=>s10=.int .i64 ((k:Int) - 1)/\k<=b - a/\∃(dj:Array Int) (n2:Nat),dj.size=d.size/\wr2=putRow zg (Sort.ahead w n2) zc off dj/\heapPop ltInt a k dj=heapPop ltInt a (b - a) dk)
    case atStart=>exact⟨by rw [ecast],Nat.le_refl _,dk,n,hds,A.out,rfl⟩
    case round=>
     obtain⟨rfl,hkk,dj,n2,hdj,hwr2,heq2⟩:=hrel
     cases gk with
     | zero=>
       go_wp2
       go_end0
       refine⟨rfl,n2,?_⟩
       have e:dj=heapSort ltInt d a b:=by rw [heapSort,<-hB,<-heq2];rfl
       rw [<-e]
     | succ k=>
       have hHj:Holds zg wr zc off dj:=by rw [hwr2];exact holds_putRow zg _ zc off d dj (holds_ahead zg w n2 zc off d hH) hdj
       have hcw:∀ t,t<d.size->wr.cell? ⟨zc,off+t,none⟩=some (.int .u64 dj[t]!):=fun t ht=>(hHj t (by omega)).1
       have hfw:∀ t,t<d.size->wr.frozen? ⟨zc,off+t,none⟩=false:=fun t ht=>(hHj t (by omega)).2
       have A2:Aside (wr=putRow zg (Sort.ahead w n2) zc off dj):=hwr2
       clear hwr2 hHj
       rcases Nat.eq_zero_or_pos k with hk0 | hkp
       ·subst hk0
        go_wp2_with fail
        go_region
        go_wp2_with fail
        rw [swap_world zg (i:=a) (j:=a) (by omega) (by omega) A2.out rfl rfl]
        refine(yA zc off d.size cap (swp dj a (a)) (by rw [size_swp];exact hdj) 0 0 a _ (holds_putRow zg _ zc off d _ (holds_ahead zg w (n2+1) zc off d hH) (by rw [size_swp];exact hdj)) (Nat.zero_le _) (by rw [size_swp];omega) (by rw [size_swp];omega)).mono ?_
        rintro e w1 ⟨rfl,m,hw1⟩
        go_wp2
        go_roundg 0
        case measure=>omega
        case rel=>
         refine⟨by simp,by omega,siftDown ltInt 0 a 0 (swp dj a (a)),n2+1+m,by rw [size_siftDown ltInt _ _ _ _ _ (Nat.le_refl _),size_swp];exact hdj,?_,heq2⟩
         first
          | rw [hw1,putRow_ahead_putRow zg w (n2+1) m zc off _ _ (size_siftDown ltInt _ _ _ _ _ (Nat.le_refl _))]
          | rw [putRow_ahead_putRow zg w (n2+1) m zc off _ _ (size_siftDown ltInt _ _ _ _ _ (Nat.le_refl _))]
       ·skip
        go_wp2_with fail
        go_region
        go_wp2_with fail
        rw [swap_world zg (i:=a) (j:=a+k) (by omega) (by omega) A2.out rfl rfl]
        refine(yA zc off d.size cap (swp dj a (a+k)) (by rw [size_swp];exact hdj) 0 k a _ (holds_putRow zg _ zc off d _ (holds_ahead zg w (n2+1) zc off d hH) (by rw [size_swp];exact hdj)) (Nat.zero_le _) (by rw [size_swp];omega) (by rw [size_swp];omega)).mono ?_
        rintro e w1 ⟨rfl,m,hw1⟩
        go_wp2
        go_roundg k
        case measure=>omega
        case rel=>
         refine⟨by simp,by omega,siftDown ltInt k a 0 (swp dj a (a+k)),n2+1+m,by rw [size_siftDown ltInt _ _ _ _ _ (Nat.le_refl _),size_swp];exact hdj,?_,heq2⟩
         first
          | rw [hw1,putRow_ahead_putRow zg w (n2+1) m zc off _ _ (size_siftDown ltInt _ _ _ _ _ (Nat.le_refl _))]
          | rw [putRow_ahead_putRow zg w (n2+1) m zc off _ _ (size_siftDown ltInt _ _ _ _ _ (Nat.le_refl _))]
  | succ k=>
    have hcall:=yA zc off d.size cap dk hds k (b - a) a wr hHk (by omega) (by omega) (by omega)
    rw [ecast] at hcall
    go_wp2_with (go_at_call 91;refine hcall.mono ?_;rintro e w1 ⟨rfl,m,hw1⟩)
    go_roundg k
    case measure=>omega
    case rel=>
     refine⟨by simp,by omega,siftDown ltInt (b - a) a k dk,n+m,by rw [size_siftDown ltInt _ _ _ _ _ (Nat.le_refl _)];exact hds,?_,heq⟩
     rw [A.out,putRow_ahead_putRow zg w n m zc off dk _ (size_siftDown ltInt _ _ _ _ _ (Nat.le_refl _))]
theorem qR {w:World} {zc off sb so n t:Nat} {d:Array Int} (h:Holds zg w zc off d) (hne:sb≠zc):Holds zg (putRow (Value.int .i64) (Sort.ahead w n) sb so (one t)) zc off d:=fun j hj=>
 ⟨by rw [cell?_putRow_other _ _ _ _ _ _ (Or.inl (Ne.symm hne))];exact(h j hj).1,by rw [frozen?_putRow];exact(h j hj).2⟩
theorem xu (d:Array Int) (len:Nat) (hlen:d.size=len) (zc off cap a b sb so s:Nat) (w:World) (hH:Holds zg w zc off d) (ha:a<d.size) (hb:b<d.size)
 (hS:Holds (Value.int .i64) w sb so (one s)) (hs:s<2 ^ 62) :
 Calls Tryz.prog 110 #[.slice (some ⟨zc,off,none⟩) len cap,.int .i64 a,.int .i64 b,.pointer (some ⟨sb,so,none⟩)] w fun e w'=>
  e=.returned (.tuple #[.int .i64 (order2 ltInt d a b s).1,.int .i64 (order2 ltInt d a b s).2.1])/\∃ n,w'=putRow (Value.int .i64) (Sort.ahead w n) sb so (one (order2 ltInt d a b s).2.2):=by
 subst hlen
 replace hs:s<4611686018427387904:=by omega
 have ca:=(hH a ha).1
 have cb:=(hH b hb).1
 obtain⟨cs,fs⟩:=one_cell hS
 have ea:d[a]! = d[a]:=getElem!_pos d a ha
 have eb:d[b]! = d[b]:=getElem!_pos d b hb
 go_enter Tryz.func110,Tryz.ntmps110
 go_wp2
 go_region_with (go_at_call 76;refine(za _ _ _).mono ?_;rintro e w' ⟨rfl,rfl⟩)
 all_goals (try go_wp2)
 all_goals first
  | (have hlt:ltInt d[b] d[a]=true:=by assumption
     have e2:order2 ltInt d a b s=(b,a,s+1):=by simp [order2,ea,eb,hlt]
     go_ret2
     rw [e2]
     refine⟨rfl,1,?_⟩
     rw [putRow_ahead,<-one_set hS (s+1)]
     simp [drew_eq_ahead])
  | (have hlt:ltInt d[b] d[a]=false:=by assumption
     have e2:order2 ltInt d a b s=(a,b,s):=by simp [order2,ea,eb,hlt]
     go_ret2
     rw [e2]
     refine⟨rfl,1,?_⟩
     rw [putRow_ahead,putRow_self _ _ _ _ _ hS]
     rfl)
set_option maxRecDepth 100000 in
theorem jH (d:Array Int) (len:Nat) (hlen:d.size=len) (zc off cap a b c sb so s:Nat) (w:World) (hH:Holds zg w zc off d) (ha:a<d.size) (hb:b<d.size) (hc:c<d.size) (hne:sb≠zc)
 (hS:Holds (Value.int .i64) w sb so (one s)) (hs:s+3<2 ^ 62) :
 Calls Tryz.prog 95 #[.slice (some ⟨zc,off,none⟩) len cap,.int .i64 a,.int .i64 b,.int .i64 c,.pointer (some ⟨sb,so,none⟩)] w fun e w'=>
  e=.returned (.int .i64 (median ltInt d a b c s).1)/\∃ n,w'=putRow (Value.int .i64) (Sort.ahead w n) sb so (one (median ltInt d a b c s).2):=by
 subst hlen
 have l1:=order2_lt d s ha hb
 have s1:=order2_swaps d a b s
 have l2:=order2_lt d (order2 ltInt d a b s).2.2 l1.2 hc
 have s2:=order2_swaps d (order2 ltInt d a b s).2.1 c (order2 ltInt d a b s).2.2
 go_enter Tryz.func95,Tryz.ntmps95
 go_wp2_with (go_at_call_of 110 (Value.int .i64 (b:Int));refine(xu d _ rfl zc off cap a b sb so s w hH ha hb hS (by omega)).mono ?_;rintro e w' ⟨rfl,n1,rfl⟩)
 go_wp2_with (go_at_call_of 110 (Value.int .i64 (c:Int));refine(xu d _ rfl zc off cap (order2 ltInt d a b s).2.1 c sb so (order2 ltInt d a b s).2.2 _ (qR hH hne) l1.2 hc (holds_one hS) (by omega)).mono ?_;rintro e w' ⟨rfl,n2,rfl⟩)
 go_wp2_with (go_at_call_of 110 (Value.int .i64 ((order2 ltInt d a b s).1:Int));refine(xu d _ rfl zc off cap (order2 ltInt d a b s).1 (order2 ltInt d (order2 ltInt d a b s).2.1 c (order2 ltInt d a b s).2.2).1 sb so (order2 ltInt d (order2 ltInt d a b s).2.1 c (order2 ltInt d a b s).2.2).2.2 _
  (qR (qR hH hne) hne) l1.1 l2.1 (holds_one (holds_one hS)) (by omega)).mono ?_;rintro e w' ⟨rfl,n3,rfl⟩)
 go_ret
 refine⟨rfl,n1+(n2+n3),?_⟩
 rw [one_one,one_one]
 rfl
set_option maxRecDepth 100000 in
theorem so_medianAdjacent_int (d:Array Int) (len:Nat) (hlen:d.size=len) (zc off cap a sb so s:Nat) (w:World) (hH:Holds zg w zc off d) (ha0:1<=a) (ha:a+1<d.size) (hsz:d.size<2 ^ 62) (hne:sb≠zc)
 (hS:Holds (Value.int .i64) w sb so (one s)) (hs:s+3<2 ^ 62) :
 Calls Tryz.prog 94 #[.slice (some ⟨zc,off,none⟩) len cap,.int .i64 a,.pointer (some ⟨sb,so,none⟩)] w fun e w'=>
  e=.returned (.int .i64 (medianAdjacent ltInt d a s).1)/\∃ n,w'=putRow (Value.int .i64) (Sort.ahead w n) sb so (one (medianAdjacent ltInt d a s).2):=by
 subst hlen
 replace hsz:d.size<4611686018427387904:=by omega
 go_enter Tryz.func94,Tryz.ntmps94
 go_wp2_with (go_at_call 95;rw [show ((a:Int) - 1)=((a - 1:Nat):Int) by omega,show ((a:Int)+1)=((a+1:Nat):Int) by omega];refine(jH d _ rfl zc off cap (a - 1) a (a+1) sb so s w hH (by omega) (by omega) ha hne hS hs).mono ?_;rintro e w' ⟨rfl,n1,rfl⟩)
 go_ret
 exact⟨rfl,n1,rfl⟩
end Go.Proofs.YtopfkkogooocgaaGreat
