import Derived.Sort.Walk7a
import Derived.Sort.WalkB12
import Derived.Sort.WalkA
import Derived.Sort.WalkA6
import Derived.Sort.WalkC
import Derived.Sort.WalkC4
import Derived.Sort.Walk7
import Derived.Sort.WalkB2
import Derived.Sort.WalkB3
import Derived.Sort.WalkD2
import Derived.Test.YtonhfknjcbakiaaGreatDoorB1
set_option maxHeartbeats 16000000
set_option linter.unusedVariables false
set_option linter.unusedSimpArgs false
namespace Go.Proofs.YtonhfknjcbakiaaGreatDoor
open Go.RowKit Go.Sort
abbrev zg:Int->Value:=Value.int .u64
theorem Zb (x:Int) (w:World):Calls Tryz.prog 170 #[.int .u64 x] w fun e a=>e=.returned (.bool false)/\a=w:=by
 go_enter Tryz.func170,Tryz.ntmps170
 go_wp2
 go_ret
 exact⟨by simp,rfl⟩
theorem so_cmp_Less_int (x y:Int) (w:World):Calls Tryz.prog 207 #[.int .u64 x,.int .u64 y] w fun e a=>e=.returned (.bool (Sort.ltInt x y))/\a=w:=by
 go_enter Tryz.func207,Tryz.ntmps207
 go_wp2_with (go_at_call 170;refine(Zb _ _).mono ?_;rintro e a ⟨rfl,rfl⟩)
 go_ret
 exact⟨rfl,rfl⟩
theorem Zd (rb a X:Nat) (G:X<18446744073709551616) (w:World) (M:w.cell? ⟨rb,a,none⟩=some (.int .u64 X)) (N:w.frozen? ⟨rb,a,none⟩=false) :
 Calls Tryz.prog 234 #[.pointer (some ⟨rb,a,none⟩)] w fun e K=>e=.returned (.int .u64 (xorNextN X:Nat))/\K=(w.setCell ⟨rb,a,none⟩ (.int .u64 (xorNextN X:Nat))).drewN 3:=by
 obtain⟨A,j⟩:∃ A:Nat,A=X ^^^ (X * 8192 % 18446744073709551616):=⟨_,rfl⟩
 obtain⟨B,u⟩:∃ B:Nat,B=A ^^^ (A / 128):=⟨_,rfl⟩
 obtain⟨C,y⟩:∃ C:Nat,C=B ^^^ (B * 131072 % 18446744073709551616):=⟨_,rfl⟩
 have I:A<18446744073709551616:=by rw [j];exact Nat.xor_lt_two_pow (n:=64) (by omega) (by omega)
 have J:B<18446744073709551616:=by rw [u];exact Nat.xor_lt_two_pow (n:=64) (by omega) (by omega)
 have e1:bits .xor .u64 (X:Int) (IntKind.u64.wrap ((X:Int) * 8192))=(A:Int):=by
  rw [IntKind.wrap_u64,show ((X:Int) * 8192 % 18446744073709551616)=((X * 8192 % 18446744073709551616:Nat):Int) by omega,bits_xor_u64_nat _ _ G (by omega),j]
 have e2:bits .xor .u64 (A:Int) ((A:Int) / 128)=(B:Int):=by
  rw [show ((A:Int) / 128)=((A / 128:Nat):Int) by omega,bits_xor_u64_nat _ _ I (by omega),u]
 have L:bits .xor .u64 (B:Int) (IntKind.u64.wrap ((B:Int) * 131072))=(C:Int):=by
  rw [IntKind.wrap_u64,show ((B:Int) * 131072 % 18446744073709551616)=((B * 131072 % 18446744073709551616:Nat):Int) by omega,bits_xor_u64_nat _ _ J (by omega),y]
 have E:xorNextN X=C:=by unfold xorNextN;simp only [];rw [<-j,<-u,<-y]
 rw [E]
 clear j u y E
 have H:∀ v F,(w.setCell ⟨rb,a,none⟩ v).setCell ⟨rb,a,none⟩ F=w.setCell ⟨rb,a,none⟩ F:=setCell_setCell w rb a
 go_enter Tryz.func234,Tryz.ntmps234
 go_wp2
 go_region
 all_goals go_wp2
 all_goals go_region
 all_goals go_wp2
 all_goals go_region
 all_goals go_wp2
 go_ret
 exact⟨rfl,rfl⟩
theorem kI (n:Nat) (u:n<4611686018427387904) (w:World) :
 Calls Tryz.prog 233 #[.int .i64 n] w fun e j=>e=.returned (.int .u64 ((1 <<< bitsLen n:Nat):Int))/\j=w:=by
 have a:∀ w,Calls Tryz.prog 212 #[.int .u64 (n:Int)] w fun e j=>e=.returned (.int .i64 (bitsLen n:Nat))/\j=w:=fun w=>by
  have h:=ZC (n:Int) w (by omega) (by omega)
  rwa [Int.toNat_natCast,bitLen_eq _ (by omega)] at h
 have hk:bitsLen n<=62:=(bitsLen_le_iff n 62).2 (by omega)
 have y:=wrap_two_pow (bitsLen n) hk
 go_enter Tryz.func233,Tryz.ntmps233
 go_wp2_with (first | (go_at_call 212;refine(a _).mono ?_;rintro e j ⟨rfl,rfl⟩))
 go_ret
 exact⟨rfl,rfl⟩
set_option maxRecDepth 1000000 in
theorem jB (zc j I:Nat) (d:Array Int) (a b:Nat) (w:World) (J:Holds zg w zc j d) (N:a<=b) (hb:b<=d.size) (P:d.size<4611686018427387904) :
 Calls Tryz.prog 222 #[.slice (some ⟨zc,j,none⟩) d.size I,.int .i64 a,.int .i64 b] w fun e T=>e=.returned (.tuple #[])/\∃ n,T=putRow zg (Sort.ahead w n) zc j (reverseRange d a b):=by
 go_enter Tryz.func222,Tryz.ntmps222
 go_wp2
 go_loopg [6,7] (b - a) (fun k Q S wr=>∃(i jn:Nat) (E:Int) (u:Array Int) (n:Nat),Q=.int .i64 i/\S=.int .i64 E/\((i:Int)<E->E=jn/\jn<d.size)/\(¬(i:Int)<E->¬ i<jn)/\jn - i<=k /\
  u.size=d.size/\wr=putRow zg (Sort.ahead w n) zc j u/\reverseLoop i jn u=reverseLoop a (b - 1) d)
 case atStart=>exact⟨a,b - 1,(b:Int) - 1,d,0,rfl,rfl,fun h=>⟨by omega,by omega⟩,fun h=>by omega,by omega,rfl,(putRow_self zg w zc j d J).symm,rfl⟩
 case round=>
  obtain⟨i,jn,E,u,n,rfl,rfl,L,M,hk,F,C,y⟩:=hrel
  by_cases G:(i:Int)<E
  ·obtain⟨rfl,O⟩:=L G
   have K:i<jn:=by omega
   have B:Holds zg wr zc j u:=by rw [C];exact holds_putRow zg _ zc j d u (holds_ahead zg w n zc j d J) F
   obtain⟨U,fi⟩:=B i (by omega)
   obtain⟨V,X⟩:=B jn (by omega)
   have A:Aside (wr=putRow zg (Sort.ahead w n) zc j u):=C
   clear C B J L M
   go_wp2_with fail
   go_region
   go_wp2
   go_roundg (jn - 1 - (i+1))
   case measure=>omega
   case rel=>
    rw [reverseLoop,if_pos K] at y
    exact⟨i+1,jn - 1,(jn:Int) - 1,swp u i jn,n+1,by simp,rfl,fun h=>⟨by omega,by omega⟩,fun h=>by omega,Nat.le_refl _,by rw [size_swp];exact F,
     swap_world zg (by omega) (by omega) A.out (by simp [zg,getElem!_pos,show jn<u.size by omega]) rfl,y⟩
  ·have H:=M G
   go_wp2
   go_end0
   refine⟨rfl,n,?_⟩
   rw [reverseLoop,if_neg H] at y
   rw [reverseRange,<-y]
theorem vV (zc u K a b:Nat) (d:Array Int) (w:World) (I:Holds zg w zc u d) (ab:a<=b) (hb:b<=d.size) (ai:d.size<4611686018427387904) :
 Calls Tryz.prog 218 #[.slice (some ⟨zc,u,none⟩) d.size K,.int .i64 a,.int .i64 b] w fun e w'=>
  e=.returned (.tuple #[])/\∃ n,w'=putRow zg (Sort.ahead w n) zc u (Sort.insertionSort ltInt d a b):=by
 go_enter Tryz.func218,Tryz.ntmps218
 go_wp2
 go_loopw [6] (fun Q wr=>∃(i n:Nat) (B:Array Int),Q=.int .i64 i/\a<i/\i<=b+1/\B.size=d.size/\wr=putRow zg (Sort.ahead w n) zc u B /\
  insOuter ltInt a b i B=insOuter ltInt a b (a+1) d) (fun Q _=>b+1 - (intOf Q).toNat)
 case atStart=>exact⟨a+1,0,d,by go_num,by omega,by omega,rfl,(putRow_self _ _ _ _ _ I).symm,rfl⟩
 case round=>
  obtain⟨i,n,B,rfl,ac,ag,P,aj,Z⟩:=hrel
  have V:Hid (insOuter ltInt a b i B=insOuter ltInt a b (a+1) d):=Z
  clear Z
  go_wp2
  ·
   go_loopw [7] (fun S T=>∃(j m:Nat) (y:Array Int),S=.int .i64 j/\a<=j/\j<=i/\y.size=d.size/\T=putRow zg (Sort.ahead w m) zc u y /\
    insInner ltInt a j y=insInner ltInt a i B) (fun S _=>(intOf S).toNat)
   case atStart=>exact⟨i,n,B,rfl,by omega,Nat.le_refl _,P,rfl,rfl⟩
   case round=>
    obtain⟨j,m,y,rfl,ad,ah,E,A,Y⟩:=hrel
    have O:i<b:=by assumption
    obtain⟨G,L⟩:∃ G:Nat->Int,∀ t,G t=y[t]!:=⟨fun t=>y[t]!,fun _=>rfl⟩
    have ae:∀ t,t<d.size->wr.cell? ⟨zc,u+t,none⟩=some (.int .u64 (G t)):=fun t ht=>by
     rw [A,L];exact cell?_putRow _ _ _ _ d y (holds_ahead _ _ _ _ _ _ I) E t (by omega)
    have af:∀ t,t<d.size->wr.frozen? ⟨zc,u+t,none⟩=false:=fun t ht=>by
     rw [A,frozen?_putRow];exact((holds_ahead _ _ m _ _ _ I) t ht).2
    have X:Hid (wr=putRow zg (Sort.ahead w m) zc u y):=A
    have HG:Hid (∀ t,G t=y[t]!):=L
    have U:Hid (insInner ltInt a j y=insInner ltInt a i B):=Y
    clear A L Y I
    have H:(j<=a\/ltInt y[j]! y[j - 1]! = false)->∀ q,∃ J n' C,Value.int .i64 ((i:Int)+1)=.int .i64 (J:Nat)/\a<J/\J<=b+1/\C.size=d.size /\
     wr.drewN q=putRow zg (Sort.ahead w n') zc u C/\insOuter ltInt a b J C=insOuter ltInt a b (a+1) d:=fun hs q=>
     ⟨i+1,m+q,y,by go_num,by omega,by omega,E,by rw [X.out];exact putRow_drewN _ _ _ _ _ _ _,
      by rw [<-V.out,insOuter_go _ _ _ _ _ O,<-U.out,insInner_stop _ _ _ _ hs]⟩
    have F:Hid _:=H
    clear H
    go_wp2
    by_cases N:a<j
    ·go_quiet (first | (go_at_call 207;refine Calls.quiet_of_same (so_cmp_Less_int _ _ _)))
     go_wp2
     ·
      have hl:ltInt (G j) (G (j - 1))=true:=by assumption
      go_region
      all_goals go_wp2
      go_roundw
      case rel=>
       refine⟨j - 1,m+(nq+1),swp y j (j - 1),by congr 1;omega,by omega,by omega,by rw [size_swp];exact E,?_,?_⟩
       ·rw [X.out,HG.out,HG.out]
        exact swap_worldA _ w m (nq+1) zc u y j (j - 1) (by omega) (by omega)
       ·rw [<-U.out,insInner_go ltInt a j y N (by rw [<-HG.out,<-HG.out];exact hl)]
      case measure=>simp [intOf];omega
     ·
      have hl:ltInt (G j) (G (j - 1))=false:=by assumption
      go_roundw
      case rel=>exact F.out (Or.inr (by rw [<-HG.out,<-HG.out];exact hl)) nq
      case measure=>simp [intOf];omega
    ·go_quiet (first | (go_at_call 207;refine Calls.quiet_of_same (so_cmp_Less_int _ _ _)))
     go_wp2
     go_roundw
     case rel=>exact F.out (Or.inl (by omega)) nq
     case measure=>simp [intOf];omega
  ·
   have M:¬ i<b:=by assumption
   go_end0
   exact⟨rfl,n,by unfold Sort.insertionSort;rw [<-V.out,insOuter_stop _ _ _ _ _ M]⟩
set_option maxRecDepth 100000 in
theorem yE (zc u ai a b:Nat) (d:Array Int) (w:World) (hH:Holds zg w zc u d) (an:a<b) (hb:b<=d.size) (aw:d.size<4611686018427387904) :
 Calls Tryz.prog 223 #[.slice (some ⟨zc,u,none⟩) d.size ai,.int .i64 a,.int .i64 b] w fun e w'=>
  e=.returned (.bool (Sort.partialInsertionSort ltInt d a b).2)/\∃ n,w'=putRow zg (Sort.ahead w n) zc u (Sort.partialInsertionSort ltInt d a b).1:=by
 have Q:Hid (Holds zg w zc u d):=hH
 have ah:Hid (w=putRow zg (Sort.ahead w 0) zc u d):=(putRow_self _ _ _ _ _ hH).symm
 clear hH
 go_enter Tryz.func223,Tryz.ntmps223
 go_wp2
 go_loopw [7,8] (fun vi vs wr=>∃(i s n:Nat) (A:Array Int),vi=.int .i64 i/\vs=.int .i64 s/\s<=5/\a<i/\i<=b/\A.size=d.size/\wr=putRow zg (Sort.ahead w n) zc u A /\
  partialIns ltInt a b (5 - s) i A=partialIns ltInt a b 5 (a+1) d) (fun _ vs _=>5 - (intOf vs).toNat)
 case atStart=>exact⟨a+1,0,0,d,by go_num,rfl,by omega,by omega,by omega,rfl,ah.out,rfl⟩
 case round=>
  obtain⟨i,s,n,A,rfl,rfl,av,ao,aj,ag,ax,hO⟩:=hrel
  have N:Hid (partialIns ltInt a b (5 - s) i A=partialIns ltInt a b 5 (a+1) d):=hO
  clear hO
  go_wp2
  ·
   have hs:s<5:=by omega
   go_loopw [7] (fun vi K=>∃(k m:Nat),vi=.int .i64 k/\i<=k/\k<=b/\K=putRow zg (Sort.ahead w m) zc u A/\scanSorted ltInt A b k=scanSorted ltInt A b i) (fun vi _=>b - (intOf vi).toNat)
   case atStart=>exact⟨i,n,rfl,Nat.le_refl _,aj,rfl,rfl⟩
   case round=>
    obtain⟨k,m,rfl,aq,au,J,hS⟩:=hrel
    obtain⟨G,I⟩:∃ G:Nat->Int,∀ t,G t=A[t]!:=⟨fun t=>A[t]!,fun _=>rfl⟩
    have T:∀ t,t<d.size->wr.cell? ⟨zc,u+t,none⟩=some (.int .u64 (G t)):=fun t ht=>by
     rw [J,I];exact cell?_putRow _ _ _ _ d A (holds_ahead _ _ _ _ _ _ Q.out) ag t (by omega)
    have U:∀ t,t<d.size->wr.frozen? ⟨zc,u+t,none⟩=false:=fun t ht=>by
     rw [J,frozen?_putRow];exact((holds_ahead _ _ m _ _ _ Q.out) t ht).2
    have B:Hid (wr=putRow zg (Sort.ahead w m) zc u A):=J
    have HG:Hid (∀ t,G t=A[t]!):=I
    have HS:Hid (scanSorted ltInt A b k=scanSorted ltInt A b i):=hS
    clear J I hS
    go_wp2
    by_cases ae:k<b
    ·go_quiet (first | (go_at_call 207;refine Calls.quiet_of_same (so_cmp_Less_int _ _ _)))
     go_wp2
     all_goals first
      | (at_end
         have hl:ltInt (G k) (G (k - 1))=false:=by
          have h:(!ltInt (G k) (G (k - 1)))=true:=by assumption
          simpa using h
         go_roundw
         case rel=>exact⟨k+1,m+nq,by go_num,by omega,by omega,by rw [B.out];exact putRow_drewN _ _ _ _ _ _ _,by rw [<-HS.out,scanSorted_go ltInt A b k ae (by rw [<-HG.out,<-HG.out];exact hl)]⟩
         case measure=>simp [intOf];omega)
      | (have hl:ltInt (G k) (G (k - 1))=true:=by
          have h:(!ltInt (G k) (G (k - 1)))=false:=by assumption
          simpa using h
         have S:Hid (scanSorted ltInt A b i=k):=by
          show scanSorted ltInt A b i=k
          rw [<-HS.out,scanSorted_stop ltInt A b k (Or.inr (by rw [<-HG.out,<-HG.out];exact hl))]
         first
          | (at_ret
             have hv:Sort.partialInsertionSort ltInt d a b=(A,false):=by
              unfold Sort.partialInsertionSort
              rw [<-N.out,pi_short ltInt a b s i A hs (by rw [S.out];omega) (by omega)]
             rw [hv]
             go_ret
             exact⟨rfl,m+nq,by rw [B.out];exact putRow_drewN _ _ _ _ _ _ _⟩)
          | (at_region 11
             have am:¬ b - a<50:=by omega
             go_region
             have ak:((wr.drewN (nq+1)).setCell ⟨zc,u+k,none⟩ (.int .u64 (G (k - 1)))).setCell ⟨zc,u+(k - 1),none⟩ (.int .u64 (G k))=putRow zg (Sort.ahead w (m+(nq+1))) zc u (swp A k (k - 1)):=by
              rw [B.out,HG.out,HG.out]
              exact swap_worldA _ w m (nq+1) zc u A k (k - 1) (by omega) (by omega)
             have Y:(swp A k (k - 1)).size=d.size:=by rw [size_swp];exact ag
             go_wp2
             all_goals first
              | (at_loop
                 have ad:k - a ≥ 2:=by omega
                 go_loopw [9] (fun L K=>∃(j Z:Nat) (C:Array Int),L=.int .i64 j/\j<=k - 1/\C.size=d.size/\K=putRow zg (Sort.ahead w Z) zc u C /\
                  shiftDown ltInt j C=shiftDown ltInt (k - 1) (swp A k (k - 1))) (fun L _=>(intOf L).toNat)
                 case atStart=>exact⟨k - 1,_,(swp A k (k - 1)),by congr 1;omega,Nat.le_refl _,Y,rfl,rfl⟩
                 case round=>
                  obtain⟨j,Z,C,rfl,ar,M,J,ab⟩:=hrel
                  obtain⟨G,I⟩:∃ G:Nat->Int,∀ t,G t=C[t]!:=⟨fun t=>C[t]!,fun _=>rfl⟩
                  have T:∀ t,t<d.size->wr.cell? ⟨zc,u+t,none⟩=some (.int .u64 (G t)):=fun t ht=>by
                   rw [J,I];exact cell?_putRow _ _ _ _ d C (holds_ahead _ _ _ _ _ _ Q.out) M t (by omega)
                  have U:∀ t,t<d.size->wr.frozen? ⟨zc,u+t,none⟩=false:=fun t ht=>by
                   rw [J,frozen?_putRow];exact((holds_ahead _ _ Z _ _ _ Q.out) t ht).2
                  have B:Hid (wr=putRow zg (Sort.ahead w Z) zc u C):=J
                  have HG:Hid (∀ t,G t=C[t]!):=I
                  have X:Hid (shiftDown ltInt j C=shiftDown ltInt (k - 1) (swp A k (k - 1))):=ab
                  clear J I ab ak
                  go_wp2
                  all_goals first
                   | (at_region 16
                      go_quiet (first | (go_at_call 207;refine Calls.quiet_of_same (so_cmp_Less_int _ _ _)))
                      go_wp2
                      all_goals first
                       | (at_region 17
                          have hl:ltInt (G j) (G (j - 1))=true:=by
                           have h:(!ltInt (G j) (G (j - 1)))=false:=by assumption
                           simpa using h
                          go_region
                          all_goals go_wp2
                          go_roundw
                          case rel=>
                           refine⟨j - 1,Z+(nq+1),swp C j (j - 1),by congr 1;omega,by omega,by rw [size_swp];exact M,?_,?_⟩
                           ·rw [B.out,HG.out,HG.out]
                            exact swap_worldA _ w Z (nq+1) zc u C j (j - 1) (by omega) (by omega)
                           ·rw [<-X.out,shiftDown_go ltInt j C (by omega) (by rw [<-HG.out,<-HG.out];exact hl)]
                          case measure=>simp [intOf];omega)
                       | (-- break
                          have hl:ltInt (G j) (G (j - 1))=false:=by
                           have h:(!ltInt (G j) (G (j - 1)))=true:=by assumption
                           simpa using h
                          have O:Hid (fixDown ltInt a k (swp A k (k - 1))=C):=by
                           show fixDown ltInt a k (swp A k (k - 1))=C
                           unfold fixDown;rw [if_pos ad,<-X.out,shiftDown_stop ltInt j C (Or.inr (by rw [<-HG.out,<-HG.out];exact hl))]
                          first
                           | (at_end
                              go_roundw
                              case rel=>
                               refine⟨k,s+1,_,C,rfl,by go_num,by omega,by omega,by omega,M,(by first | rfl | exact B.out | (rw [B.out];exact putRow_drewN _ _ _ _ _ _ _)),?_⟩
                               rw [<-N.out,pi_go ltInt a b s i k A hs S.out (by omega) (by omega),O.out,show fixUp ltInt b k C=C from by unfold fixUp;rw [if_neg (by omega)]]
                              case measure=>simp [intOf];omega)
                           | (at_loop
                              go_loopw [10] (fun L K=>∃(j H:Nat) (y:Array Int),L=.int .i64 j/\k+1<=j/\j<=b/\y.size=d.size/\K=putRow zg (Sort.ahead w H) zc u y /\
                               shiftUp ltInt b j y=shiftUp ltInt b (k+1) C) (fun L _=>b - (intOf L).toNat)
                              case atStart=>exact⟨k+1,_,C,by go_num,Nat.le_refl _,by omega,M,(by first | rfl | exact B.out | (rw [B.out];exact putRow_drewN _ _ _ _ _ _ _)),rfl⟩
                              case round=>
                               obtain⟨j,H,y,rfl,af,ac,E,F,V⟩:=hrel
                               obtain⟨G,I⟩:∃ G:Nat->Int,∀ t,G t=y[t]!:=⟨fun t=>y[t]!,fun _=>rfl⟩
                               have T:∀ t,t<d.size->wr.cell? ⟨zc,u+t,none⟩=some (.int .u64 (G t)):=fun t ht=>by
                                rw [F,I];exact cell?_putRow _ _ _ _ d y (holds_ahead _ _ _ _ _ _ Q.out) E t (by omega)
                               have U:∀ t,t<d.size->wr.frozen? ⟨zc,u+t,none⟩=false:=fun t ht=>by
                                rw [F,frozen?_putRow];exact((holds_ahead _ _ H _ _ _ Q.out) t ht).2
                               have B:Hid (wr=putRow zg (Sort.ahead w H) zc u y):=F
                               have HG:Hid (∀ t,G t=y[t]!):=I
                               have P:Hid (shiftUp ltInt b j y=shiftUp ltInt b (k+1) C):=V
                               clear F I V
                               go_wp2
                               all_goals first
                                | (at_region 22
                                   go_quiet (first | (go_at_call 207;refine Calls.quiet_of_same (so_cmp_Less_int _ _ _)))
                                   go_wp2
                                   all_goals first
                                    | (at_region 23
                                       have hl:ltInt (G j) (G (j - 1))=true:=by
                                        have h:(!ltInt (G j) (G (j - 1)))=false:=by assumption
                                        simpa using h
                                       go_region
                                       all_goals go_wp2
                                       go_roundw
                                       case rel=>
                                        refine⟨j+1,H+(nq+1),swp y j (j - 1),by go_num,by omega,by omega,by rw [size_swp];exact E,?_,?_⟩
                                        ·rw [B.out,HG.out,HG.out]
                                         exact swap_worldA _ w H (nq+1) zc u y j (j - 1) (by omega) (by omega)
                                        ·rw [<-P.out,shiftUp_go ltInt b j y (by omega) (by rw [<-HG.out,<-HG.out];exact hl)]
                                       case measure=>simp [intOf];omega)
                                    | (at_end
                                       have hl:ltInt (G j) (G (j - 1))=false:=by
                                        have h:(!ltInt (G j) (G (j - 1)))=true:=by assumption
                                        simpa using h
                                       go_roundw
                                       case rel=>
                                        refine⟨k,s+1,_,y,rfl,by go_num,by omega,by omega,by omega,E,(by first | rfl | exact B.out | (rw [B.out];exact putRow_drewN _ _ _ _ _ _ _)),?_⟩
                                        rw [<-N.out,pi_go ltInt a b s i k A hs S.out (by omega) (by omega),O.out,show fixUp ltInt b k C=y from by unfold fixUp;rw [if_pos (by omega),<-P.out,shiftUp_stop ltInt b j y (Or.inr (by rw [<-HG.out,<-HG.out];exact hl))]]
                                       case measure=>simp [intOf];omega))
                                | (at_end
                                   go_roundw
                                   case rel=>
                                    refine⟨k,s+1,_,y,rfl,by go_num,by omega,by omega,by omega,E,(by first | rfl | exact B.out | (rw [B.out];exact putRow_drewN _ _ _ _ _ _ _)),?_⟩
                                    rw [<-N.out,pi_go ltInt a b s i k A hs S.out (by omega) (by omega),O.out,show fixUp ltInt b k C=y from by unfold fixUp;rw [if_pos (by omega),<-P.out,shiftUp_stop ltInt b j y (Or.inl (by omega))]]
                                   case measure=>simp [intOf];omega))))
                   | (-- j<1
                      have O:Hid (fixDown ltInt a k (swp A k (k - 1))=C):=by
                       show fixDown ltInt a k (swp A k (k - 1))=C
                       unfold fixDown;rw [if_pos ad,<-X.out,shiftDown_stop ltInt j C (Or.inl (by omega))]
                      first
                       | (at_end
                          go_roundw
                          case rel=>
                           refine⟨k,s+1,_,C,rfl,by go_num,by omega,by omega,by omega,M,(by first | rfl | exact B.out | (rw [B.out];exact putRow_drewN _ _ _ _ _ _ _)),?_⟩
                           rw [<-N.out,pi_go ltInt a b s i k A hs S.out (by omega) (by omega),O.out,show fixUp ltInt b k C=C from by unfold fixUp;rw [if_neg (by omega)]]
                          case measure=>simp [intOf];omega)
                       | (at_loop
                          go_loopw [10] (fun L K=>∃(j H:Nat) (y:Array Int),L=.int .i64 j/\k+1<=j/\j<=b/\y.size=d.size/\K=putRow zg (Sort.ahead w H) zc u y /\
                           shiftUp ltInt b j y=shiftUp ltInt b (k+1) C) (fun L _=>b - (intOf L).toNat)
                          case atStart=>exact⟨k+1,_,C,by go_num,Nat.le_refl _,by omega,M,(by first | rfl | exact B.out | (rw [B.out];exact putRow_drewN _ _ _ _ _ _ _)),rfl⟩
                          case round=>
                           obtain⟨j,H,y,rfl,af,ac,E,F,V⟩:=hrel
                           obtain⟨G,I⟩:∃ G:Nat->Int,∀ t,G t=y[t]!:=⟨fun t=>y[t]!,fun _=>rfl⟩
                           have T:∀ t,t<d.size->wr.cell? ⟨zc,u+t,none⟩=some (.int .u64 (G t)):=fun t ht=>by
                            rw [F,I];exact cell?_putRow _ _ _ _ d y (holds_ahead _ _ _ _ _ _ Q.out) E t (by omega)
                           have U:∀ t,t<d.size->wr.frozen? ⟨zc,u+t,none⟩=false:=fun t ht=>by
                            rw [F,frozen?_putRow];exact((holds_ahead _ _ H _ _ _ Q.out) t ht).2
                           have B:Hid (wr=putRow zg (Sort.ahead w H) zc u y):=F
                           have HG:Hid (∀ t,G t=y[t]!):=I
                           have P:Hid (shiftUp ltInt b j y=shiftUp ltInt b (k+1) C):=V
                           clear F I V
                           go_wp2
                           all_goals first
                            | (at_region 22
                               go_quiet (first | (go_at_call 207;refine Calls.quiet_of_same (so_cmp_Less_int _ _ _)))
                               go_wp2
                               all_goals first
                                | (at_region 23
                                   have hl:ltInt (G j) (G (j - 1))=true:=by
                                    have h:(!ltInt (G j) (G (j - 1)))=false:=by assumption
                                    simpa using h
                                   go_region
                                   all_goals go_wp2
                                   go_roundw
                                   case rel=>
                                    refine⟨j+1,H+(nq+1),swp y j (j - 1),by go_num,by omega,by omega,by rw [size_swp];exact E,?_,?_⟩
                                    ·rw [B.out,HG.out,HG.out]
                                     exact swap_worldA _ w H (nq+1) zc u y j (j - 1) (by omega) (by omega)
                                    ·rw [<-P.out,shiftUp_go ltInt b j y (by omega) (by rw [<-HG.out,<-HG.out];exact hl)]
                                   case measure=>simp [intOf];omega)
                                | (at_end
                                   have hl:ltInt (G j) (G (j - 1))=false:=by
                                    have h:(!ltInt (G j) (G (j - 1)))=true:=by assumption
                                    simpa using h
                                   go_roundw
                                   case rel=>
                                    refine⟨k,s+1,_,y,rfl,by go_num,by omega,by omega,by omega,E,(by first | rfl | exact B.out | (rw [B.out];exact putRow_drewN _ _ _ _ _ _ _)),?_⟩
                                    rw [<-N.out,pi_go ltInt a b s i k A hs S.out (by omega) (by omega),O.out,show fixUp ltInt b k C=y from by unfold fixUp;rw [if_pos (by omega),<-P.out,shiftUp_stop ltInt b j y (Or.inr (by rw [<-HG.out,<-HG.out];exact hl))]]
                                   case measure=>simp [intOf];omega))
                            | (at_end
                               go_roundw
                               case rel=>
                                refine⟨k,s+1,_,y,rfl,by go_num,by omega,by omega,by omega,E,(by first | rfl | exact B.out | (rw [B.out];exact putRow_drewN _ _ _ _ _ _ _)),?_⟩
                                rw [<-N.out,pi_go ltInt a b s i k A hs S.out (by omega) (by omega),O.out,show fixUp ltInt b k C=y from by unfold fixUp;rw [if_pos (by omega),<-P.out,shiftUp_stop ltInt b j y (Or.inl (by omega))]]
                               case measure=>simp [intOf];omega))))
              | (-- i - a<2
                 have O:Hid (fixDown ltInt a k (swp A k (k - 1))=(swp A k (k - 1))):=by
                  show fixDown ltInt a k (swp A k (k - 1))=(swp A k (k - 1))
                  unfold fixDown;rw [if_neg (by omega)]
                 first
                  | (at_end
                     go_roundw
                     case rel=>
                      refine⟨k,s+1,_,(swp A k (k - 1)),rfl,by go_num,by omega,by omega,by omega,Y,(by first | rfl | exact B.out | (rw [B.out];exact putRow_drewN _ _ _ _ _ _ _)),?_⟩
                      rw [<-N.out,pi_go ltInt a b s i k A hs S.out (by omega) (by omega),O.out,show fixUp ltInt b k (swp A k (k - 1))=(swp A k (k - 1)) from by unfold fixUp;rw [if_neg (by omega)]]
                     case measure=>simp [intOf];omega)
                  | (at_loop
                     go_loopw [10] (fun L K=>∃(j H:Nat) (y:Array Int),L=.int .i64 j/\k+1<=j/\j<=b/\y.size=d.size/\K=putRow zg (Sort.ahead w H) zc u y /\
                      shiftUp ltInt b j y=shiftUp ltInt b (k+1) (swp A k (k - 1))) (fun L _=>b - (intOf L).toNat)
                     case atStart=>exact⟨k+1,_,(swp A k (k - 1)),by go_num,Nat.le_refl _,by omega,Y,(by first | rfl | exact B.out | (rw [B.out];exact putRow_drewN _ _ _ _ _ _ _)),rfl⟩
                     case round=>
                      obtain⟨j,H,y,rfl,af,ac,E,F,V⟩:=hrel
                      obtain⟨G,I⟩:∃ G:Nat->Int,∀ t,G t=y[t]!:=⟨fun t=>y[t]!,fun _=>rfl⟩
                      have T:∀ t,t<d.size->wr.cell? ⟨zc,u+t,none⟩=some (.int .u64 (G t)):=fun t ht=>by
                       rw [F,I];exact cell?_putRow _ _ _ _ d y (holds_ahead _ _ _ _ _ _ Q.out) E t (by omega)
                      have U:∀ t,t<d.size->wr.frozen? ⟨zc,u+t,none⟩=false:=fun t ht=>by
                       rw [F,frozen?_putRow];exact((holds_ahead _ _ H _ _ _ Q.out) t ht).2
                      have B:Hid (wr=putRow zg (Sort.ahead w H) zc u y):=F
                      have HG:Hid (∀ t,G t=y[t]!):=I
                      have P:Hid (shiftUp ltInt b j y=shiftUp ltInt b (k+1) (swp A k (k - 1))):=V
                      clear F I V
                      go_wp2
                      all_goals first
                       | (at_region 22
                          go_quiet (first | (go_at_call 207;refine Calls.quiet_of_same (so_cmp_Less_int _ _ _)))
                          go_wp2
                          all_goals first
                           | (at_region 23
                              have hl:ltInt (G j) (G (j - 1))=true:=by
                               have h:(!ltInt (G j) (G (j - 1)))=false:=by assumption
                               simpa using h
                              go_region
                              all_goals go_wp2
                              go_roundw
                              case rel=>
                               refine⟨j+1,H+(nq+1),swp y j (j - 1),by go_num,by omega,by omega,by rw [size_swp];exact E,?_,?_⟩
                               ·rw [B.out,HG.out,HG.out]
                                exact swap_worldA _ w H (nq+1) zc u y j (j - 1) (by omega) (by omega)
                               ·rw [<-P.out,shiftUp_go ltInt b j y (by omega) (by rw [<-HG.out,<-HG.out];exact hl)]
                              case measure=>simp [intOf];omega)
                           | (at_end
                              have hl:ltInt (G j) (G (j - 1))=false:=by
                               have h:(!ltInt (G j) (G (j - 1)))=true:=by assumption
                               simpa using h
                              go_roundw
                              case rel=>
                               refine⟨k,s+1,_,y,rfl,by go_num,by omega,by omega,by omega,E,(by first | rfl | exact B.out | (rw [B.out];exact putRow_drewN _ _ _ _ _ _ _)),?_⟩
                               rw [<-N.out,pi_go ltInt a b s i k A hs S.out (by omega) (by omega),O.out,show fixUp ltInt b k (swp A k (k - 1))=y from by unfold fixUp;rw [if_pos (by omega),<-P.out,shiftUp_stop ltInt b j y (Or.inr (by rw [<-HG.out,<-HG.out];exact hl))]]
                              case measure=>simp [intOf];omega))
                       | (at_end
                          go_roundw
                          case rel=>
                           refine⟨k,s+1,_,y,rfl,by go_num,by omega,by omega,by omega,E,(by first | rfl | exact B.out | (rw [B.out];exact putRow_drewN _ _ _ _ _ _ _)),?_⟩
                           rw [<-N.out,pi_go ltInt a b s i k A hs S.out (by omega) (by omega),O.out,show fixUp ltInt b k (swp A k (k - 1))=y from by unfold fixUp;rw [if_pos (by omega),<-P.out,shiftUp_stop ltInt b j y (Or.inl (by omega))]]
                          case measure=>simp [intOf];omega)))))
    ·
     go_quiet (first | (go_at_call 207;refine Calls.quiet_of_same (so_cmp_Less_int _ _ _)))
     go_wp2
     obtain rfl:k=b:=by omega
     have hv:Sort.partialInsertionSort ltInt d a k=(A,true):=by
      unfold Sort.partialInsertionSort
      rw [<-N.out,pi_true ltInt a k s i A hs (by rw [<-HS.out,scanSorted_stop ltInt A k k (Or.inl (by omega))])]
     rw [hv]
     go_ret
     exact⟨rfl,m+nq,by rw [B.out];exact putRow_drewN _ _ _ _ _ _ _⟩
  ·
   obtain rfl:s=5:=by omega
   have hv:Sort.partialInsertionSort ltInt d a b=(A,false):=by
    unfold Sort.partialInsertionSort
    rw [<-N.out,pi_end]
   rw [hv]
   go_ret
   exact⟨rfl,n,rfl⟩
set_option maxRecDepth 100000 in
theorem vg (zc y aj a b u:Nat) (d:Array Int) (w:World) (hH:Holds zg w zc y d) (ar:a<=u) (aw:u<b) (hb:b<=d.size) (ax:d.size<4611686018427387904) :
 Calls Tryz.prog 224 #[.slice (some ⟨zc,y,none⟩) d.size aj,.int .i64 a,.int .i64 b,.int .i64 u] w fun e w'=>
  e=.returned (.int .i64 (Sort.partitionEqual Sort.ltInt d a b u).1)/\∃ n,w'=(putRow zg w zc y (Sort.partitionEqual Sort.ltInt d a b u).2).drewN n:=by
 have ac:a<d.size:=by omega
 have ad:u<d.size:=by omega
 obtain⟨G,V⟩:∃ G:Nat->Int,∀ j,G j=d[j]!:=⟨fun j=>d[j]!,fun _=>rfl⟩
 have ca:w.cell? ⟨zc,y+a,none⟩=some (.int .u64 (G a)):=by rw [V];exact(hH a ac).1
 have fa:=(hH a ac).2
 have cp:w.cell? ⟨zc,y+u,none⟩=some (.int .u64 (G u)):=by rw [V];exact(hH u ad).1
 have fp:=(hH u ad).2
 obtain⟨v',an⟩:=cell?_setCell_some (w:=w) (p:=⟨zc,y+a,none⟩) (x:=.int .u64 (G u)) (q:=⟨zc,y+u,none⟩) cp
 have M:Hid (∀ j,G j=d[j]!):=V
 have AH:Hid (Holds zg w zc y d):=hH
 clear V hH
 go_enter Tryz.func224,Tryz.ntmps224
 go_wp2
 go_region
 go_wp2
 go_loopw [9,10] (fun vi U wr=>∃(i j n:Nat) (A:Array Int),vi=.int .i64 i/\U=.int .i64 j/\a<i/\i<=j+1/\j<b/\A.size=d.size/\wr=(putRow zg w zc y A).drewN n /\
  Sort.partEqLoop Sort.ltInt a i j A=Sort.partEqLoop Sort.ltInt a (a+1) (b - 1) (Sort.swp d a u))
  (fun vi U _=>(intOf U).toNat+1 - (intOf vi).toNat)
 case atStart=>
  refine⟨a+1,b - 1,1,Sort.swp d a u,by go_num,by go_num,by omega,by omega,by omega,size_swp _ _ _,?_,rfl⟩
  have e:=swap_worldC zg w zc y d 0 a u ac ad
  rw [putRow_self _ w zc y d AH.out] at e
  rw [M.out a,M.out u]
  exact e
 case round=>
  obtain⟨i,j,n,A,rfl,rfl,aq,ak,av,hs,hw,af⟩:=hrel
  clear ca fa cp fp an v' M
  rename World=>W1
  have Z:Holds zg W1 zc y A:=by
   rw [hw]
   exact holds_putRow zg w zc y d A AH.out hs
  obtain⟨H,V⟩:∃ H:Nat->Int,∀ t,H t=A[t]!:=⟨fun t=>A[t]!,fun _=>rfl⟩
  have hc:∀ t,t<d.size->W1.cell? ⟨zc,y+t,none⟩=some (.int .u64 (H t)):=fun t ht=>by rw [V];exact(Z t (by omega)).1
  have hf:∀ t,t<d.size->W1.frozen? ⟨zc,y+t,none⟩=false:=fun t ht=>(Z t (by omega)).2
  have M:Hid (∀ t,H t=A[t]!):=V
  have AW:Hid (W1=(putRow zg w zc y A).drewN n):=hw
  have AE:Hid (Sort.partEqLoop Sort.ltInt a i j A=Sort.partEqLoop Sort.ltInt a (a+1) (b - 1) (Sort.swp d a u)):=af
  clear V hw af Z
  go_wp2
  go_loopw [9] (fun vi w1=>∃(B Y:Nat),vi=.int .i64 B/\i<=B/\B<=j+1/\w1=W1.drewN Y /\
   Hid (Sort.scanUp (fun x=>!Sort.ltInt A[a]! x) A j B=Sort.scanUp (fun x=>!Sort.ltInt A[a]! x) A j i))
   (fun vi _=>j+1 - (intOf vi).toNat)
  case atStart=>exact⟨i,0,rfl,Nat.le_refl _,ak,rfl,rfl⟩
  case round=>
   obtain⟨B,Y,rfl,au,X,ae,T⟩:=hrel
   have L:∀ t,t<d.size->wr.cell? ⟨zc,y+t,none⟩=some (.int .u64 (H t)):=fun t ht=>by rw [ae];exact hc t ht
   have O:Hid (wr=W1.drewN Y):=ae
   clear ae
   by_cases ai:B<=j
   ·go_wp2_with fail
    go_big_quiet (first | (go_at_call 207;refine Calls.quiet_of_same (so_cmp_Less_int _ _ _)))
    go_wp2
    ·
     have ht:(!Sort.ltInt (H a) (H B))=true:=by assumption
     go_roundw
     case rel=>exact⟨B+1,Y+nq,by go_num,by omega,by omega,by rw [O.out,World.drewN_drewN],(scanUp_go (fun x=>!Sort.ltInt A[a]! x) A j B ai (by rw [<-M.out a,<-M.out B];exact ht)).symm.trans T.out⟩
     case measure=>simp [intOf];omega
    ·
     have ht:(!Sort.ltInt (H a) (H B))=false:=by assumption
     have S:Hid (B=Sort.scanUp (fun x=>!Sort.ltInt A[a]! x) A j i):=(scanUp_end (fun x=>!Sort.ltInt A[a]! x) A j B (Or.inr (by rw [<-M.out a,<-M.out B];exact ht))).symm.trans T.out
     clear ht
     have F:wr.drewN nq=W1.drewN (Y+nq):=by rw [O.out,World.drewN_drewN]
     clear L O T
     go_loopw [10] (fun U w2=>∃(E K:Nat),U=.int .i64 E/\E<=j/\B<=E+1/\w2=W1.drewN K /\
      Hid (Sort.scanDown (fun x=>Sort.ltInt A[a]! x) A B E=Sort.scanDown (fun x=>Sort.ltInt A[a]! x) A B j))
      (fun U _=>(intOf U).toNat)
     case atStart=>exact⟨j,Y+nq,rfl,Nat.le_refl _,X,F,rfl⟩
     case round=>
      clear F
      obtain⟨E,K,rfl,am,ah,F,J⟩:=hrel
      have L:∀ t,t<d.size->wr.cell? ⟨zc,y+t,none⟩=some (.int .u64 (H t)):=fun t ht=>by rw [F];exact hc t ht
      have P:Hid (wr=W1.drewN K):=F
      clear F
      by_cases I:B<=E
      ·go_wp2_with fail
       go_big_quiet (first | (go_at_call 207;refine Calls.quiet_of_same (so_cmp_Less_int _ _ _)))
       go_wp2
       ·
        have ht:Sort.ltInt (H a) (H E)=true:=by assumption
        go_roundw
        case rel=>exact⟨E - 1,K+nq,by go_num,by omega,by omega,by rw [P.out,World.drewN_drewN],(scanDown_go (fun x=>Sort.ltInt A[a]! x) A B E I (by omega) (by rw [<-M.out a,<-M.out E];exact ht)).symm.trans J.out⟩
        case measure=>simp [intOf];omega
       ·
        have ht:Sort.ltInt (H a) (H E)=false:=by assumption
        have N:Hid (E=Sort.scanDown (fun x=>Sort.ltInt A[a]! x) A B j):=(scanDown_end (fun x=>Sort.ltInt A[a]! x) A B E (Or.inr (by rw [<-M.out a,<-M.out E];exact ht))).symm.trans J.out
        clear L J ht
        have C:wr.drewN nq=W1.drewN (K+nq):=by rw [P.out,World.drewN_drewN]
        generalize wr.drewN nq=W3 at C ⊢
        have ab:∀ t,t<d.size->W3.cell? ⟨zc,y+t,none⟩=some (.int .u64 (H t)):=fun t ht=>by rw [C];exact hc t ht
        have ag:∀ t,t<d.size->W3.frozen? ⟨zc,y+t,none⟩=false:=fun t ht=>by rw [C];exact hf t ht
        have Q:Hid (W3=W1.drewN (K+nq)):=C
        clear C
        obtain⟨v3,ay⟩:=cell?_setCell_some (w:=W3) (p:=⟨zc,y+B,none⟩) (x:=.int .u64 (H E)) (q:=⟨zc,y+E,none⟩) (ab E (by omega))
        have ao:=scans_lt Sort.ltInt a i j A (by omega) S.out N.out I
        go_wp2
        go_region
        all_goals go_wp2
        all_goals go_roundw
        case rel=>
         refine⟨B+1,E - 1,n+(K+nq)+1,Sort.swp A B E,by go_num,by go_num,by omega,by omega,by omega,by rw [size_swp];exact hs,?_,?_⟩
         ·rw [Q.out,AW.out,World.drewN_drewN,M.out B,M.out E]
          exact swap_worldC zg w zc y A _ B E (by omega) (by omega)
         ·rw [<-AE.out];exact(partEq_go Sort.ltInt a i j A S.out N.out (by omega)).symm
        case measure=>simp [intOf];omega
      ·go_wp2_with fail
       go_big_quiet (first | (go_at_call 207;refine Calls.quiet_of_same (so_cmp_Less_int _ _ _)))
       have N:Hid (E=Sort.scanDown (fun x=>Sort.ltInt A[a]! x) A B j):=(scanDown_end (fun x=>Sort.ltInt A[a]! x) A B E (Or.inl I)).symm.trans J.out
       clear L J
       have C:wr.drewN nq=W1.drewN (K+nq):=by rw [P.out,World.drewN_drewN]
       generalize wr.drewN nq=W3 at C ⊢
       have ab:∀ t,t<d.size->W3.cell? ⟨zc,y+t,none⟩=some (.int .u64 (H t)):=fun t ht=>by rw [C];exact hc t ht
       have ag:∀ t,t<d.size->W3.frozen? ⟨zc,y+t,none⟩=false:=fun t ht=>by rw [C];exact hf t ht
       have Q:Hid (W3=W1.drewN (K+nq)):=C
       clear C
       go_wp2
       go_ret
       have e:=partEq_break Sort.ltInt a i j A S.out N.out (by omega)
       refine⟨?_,n+(K+nq),?_⟩
       ·unfold Sort.partitionEqual;rw [<-AE.out,e];rfl
       ·unfold Sort.partitionEqual;rw [<-AE.out,e,Q.out,AW.out,World.drewN_drewN]
   ·go_wp2_with fail
    go_big_quiet (first | (go_at_call 207;refine Calls.quiet_of_same (so_cmp_Less_int _ _ _)))
    go_wp2
    have S:Hid (B=Sort.scanUp (fun x=>!Sort.ltInt A[a]! x) A j i):=(scanUp_end (fun x=>!Sort.ltInt A[a]! x) A j B (Or.inl ai)).symm.trans T.out
    have F:wr.drewN nq=W1.drewN (Y+nq):=by rw [O.out,World.drewN_drewN]
    clear L O T
    go_loopw [10] (fun U w2=>∃(E K:Nat),U=.int .i64 E/\E<=j/\B<=E+1/\w2=W1.drewN K /\
     Hid (Sort.scanDown (fun x=>Sort.ltInt A[a]! x) A B E=Sort.scanDown (fun x=>Sort.ltInt A[a]! x) A B j))
     (fun U _=>(intOf U).toNat)
    case atStart=>exact⟨j,Y+nq,rfl,Nat.le_refl _,X,F,rfl⟩
    case round=>
     clear F
     obtain⟨E,K,rfl,am,ah,F,J⟩:=hrel
     have L:∀ t,t<d.size->wr.cell? ⟨zc,y+t,none⟩=some (.int .u64 (H t)):=fun t ht=>by rw [F];exact hc t ht
     have P:Hid (wr=W1.drewN K):=F
     clear F
     by_cases I:B<=E
     ·exfalso;omega
     ·go_wp2_with fail
      go_big_quiet (first | (go_at_call 207;refine Calls.quiet_of_same (so_cmp_Less_int _ _ _)))
      have N:Hid (E=Sort.scanDown (fun x=>Sort.ltInt A[a]! x) A B j):=(scanDown_end (fun x=>Sort.ltInt A[a]! x) A B E (Or.inl I)).symm.trans J.out
      clear L J
      have C:wr.drewN nq=W1.drewN (K+nq):=by rw [P.out,World.drewN_drewN]
      generalize wr.drewN nq=W3 at C ⊢
      have ab:∀ t,t<d.size->W3.cell? ⟨zc,y+t,none⟩=some (.int .u64 (H t)):=fun t ht=>by rw [C];exact hc t ht
      have ag:∀ t,t<d.size->W3.frozen? ⟨zc,y+t,none⟩=false:=fun t ht=>by rw [C];exact hf t ht
      have Q:Hid (W3=W1.drewN (K+nq)):=C
      clear C
      go_wp2
      go_ret
      have e:=partEq_break Sort.ltInt a i j A S.out N.out (by omega)
      refine⟨?_,n+(K+nq),?_⟩
      ·unfold Sort.partitionEqual;rw [<-AE.out,e];rfl
      ·unfold Sort.partitionEqual;rw [<-AE.out,e,Q.out,AW.out,World.drewN_drewN]
theorem yz (zc u y a b j:Nat) (d:Array Int) (w:World) (E:Holds zg w zc u d) (A:a<=j) (B:j<b) (hb:b<=d.size) (C:d.size<4611686018427387904) :
 Calls Tryz.prog 224 #[.slice (some ⟨zc,u,none⟩) d.size y,.int .i64 a,.int .i64 b,.int .i64 j] w fun e F=>
  e=.returned (.int .i64 (Sort.partitionEqual Sort.ltInt d a b j).1)/\∃ n,F=putRow zg (Sort.ahead w n) zc u (Sort.partitionEqual Sort.ltInt d a b j).2:=
 (vg zc u y a b j d w E A B hb C).mono fun _ _ ⟨he,n,hw⟩=>⟨he,n,hw⟩
set_option maxRecDepth 100000 in
theorem Zc (zc u av a b y:Nat) (d:Array Int) (w:World) (hH:Holds zg w zc u d) (aA:a<=y) (aB:y<b) (hb:b<=d.size) (aC:d.size<4611686018427387904) :
 Calls Tryz.prog 225 #[.slice (some ⟨zc,u,none⟩) d.size av,.int .i64 a,.int .i64 b,.int .i64 y] w fun e w'=>
  e=.returned (.tuple #[.int .i64 (Sort.partition Sort.ltInt d a b y).1,.bool (Sort.partition Sort.ltInt d a b y).2.1])/\∃ n,w'=(putRow zg w zc u (Sort.partition Sort.ltInt d a b y).2.2).drewN n:=by
 have ak:a<d.size:=by omega
 have an:y<d.size:=by omega
 obtain⟨G,hG⟩:∃ G:Nat->Int,∀ j,G j=d[j]!:=⟨fun j=>d[j]!,fun _=>rfl⟩
 have ca:w.cell? ⟨zc,u+a,none⟩=some (.int .u64 (G a)):=by rw [hG];exact(hH a ak).1
 have fa:=(hH a ak).2
 have cp:w.cell? ⟨zc,u+y,none⟩=some (.int .u64 (G y)):=by rw [hG];exact(hH y an).1
 have fp:=(hH y an).2
 obtain⟨v',az⟩:=cell?_setCell_some (w:=w) (p:=⟨zc,u+a,none⟩) (x:=.int .u64 (G y)) (q:=⟨zc,u+y,none⟩) cp
 have hw:((w.setCell ⟨zc,u+a,none⟩ (.int .u64 (G y))).setCell ⟨zc,u+y,none⟩ (.int .u64 (G a))).drew=(putRow zg w zc u (Sort.swp d a y)).drewN 1:=by
  have e:=swap_worldC zg w zc u d 0 a y ak an
  rw [putRow_self _ w zc u d hH] at e
  rw [hG a,hG y]
  exact e
 have AH:Hid (Holds zg w zc u d):=hH
 have ao:=Hid.mk' hw
 clear hG hH hw
 go_enter Tryz.func225,Tryz.ntmps225
 go_wp2
 go_region
 go_wp2
 clear ca fa cp fp az v'
 have hw:=ao.out
 clear ao
 generalize ((w.setCell ⟨zc,u+a,none⟩ (.int .u64 (G y))).setCell ⟨zc,u+y,none⟩ (.int .u64 (G a))).drew=W1 at hw ⊢
 obtain⟨A,ag⟩:∃ A,A=Sort.swp d a y:=⟨_,rfl⟩
 obtain⟨n,hn⟩:∃ n:Nat,n=1:=⟨_,rfl⟩
 rw [<-ag,<-hn] at hw
 clear hn
 have hs:A.size=d.size:=by rw [ag,size_swp]
 have e1:((a:Int)+1)=((a+1:Nat):Int):=by omega
 have e2:((b:Int) - 1)=((b - 1:Nat):Int):=by omega
 rw [e1,e2]
 clear e1 e2
 obtain⟨i,hi⟩:∃ i,i=a+1:=⟨_,rfl⟩
 obtain⟨j,hj⟩:∃ j,j=b - 1:=⟨_,rfl⟩
 rw [<-hi,<-hj]
 have aw:a<i:=by omega
 have ai:i<=j+1:=by omega
 have ay:j<b:=by omega
 have HI:=Hid.mk' hi
 have HJ:=Hid.mk' hj
 have ah:=Hid.mk' ag
 clear hi hj ag
 have Z:Holds zg W1 zc u A:=by
  rw [hw]
  exact holds_putRow zg w zc u d A AH.out hs
 obtain⟨H,hG⟩:∃ H:Nat->Int,∀ t,H t=A[t]!:=⟨fun t=>A[t]!,fun _=>rfl⟩
 have hc:∀ t,t<d.size->W1.cell? ⟨zc,u+t,none⟩=some (.int .u64 (H t)):=fun t ht=>by rw [hG];exact(Z t (by omega)).1
 have hf:∀ t,t<d.size->W1.frozen? ⟨zc,u+t,none⟩=false:=fun t ht=>(Z t (by omega)).2
 have M:Hid (∀ t,H t=A[t]!):=hG
 have AW:Hid (W1=(putRow zg w zc u A).drewN n):=hw
 clear hG hw Z
 go_loopw [10] (fun vi w1=>∃(C Y:Nat),vi=.int .i64 C/\i<=C/\C<=j+1/\w1=W1.drewN Y /\
  Hid (Sort.scanUp (fun x=>Sort.ltInt x A[a]!) A j C=Sort.scanUp (fun x=>Sort.ltInt x A[a]!) A j i))
  (fun vi _=>j+1 - (intOf vi).toNat)
 case atStart=>exact⟨i,0,rfl,Nat.le_refl _,ai,rfl,rfl⟩
 case round=>
  obtain⟨C,Y,rfl,ax,X,ab,U⟩:=hrel
  have L:∀ t,t<d.size->wr.cell? ⟨zc,u+t,none⟩=some (.int .u64 (H t)):=fun t ht=>by rw [ab];exact hc t ht
  have S:Hid (wr=W1.drewN Y):=ab
  clear ab
  by_cases af:C<=j
  ·go_wp2_with fail
   go_big_quiet (first | (go_at_call 207;refine Calls.quiet_of_same (so_cmp_Less_int _ _ _)))
   go_wp2
   ·
    have ht:Sort.ltInt (H C) (H a)=true:=by assumption
    go_roundw
    case rel=>exact⟨C+1,Y+nq,by go_num,by omega,by omega,by rw [S.out,World.drewN_drewN],(scanUp_go (fun x=>Sort.ltInt x A[a]!) A j C af (by rw [<-M.out a,<-M.out C];exact ht)).symm.trans U.out⟩
    case measure=>simp [intOf];omega
   ·
    have ht:Sort.ltInt (H C) (H a)=false:=by assumption
    have Q:Hid (C=Sort.scanUp (fun x=>Sort.ltInt x A[a]!) A j i):=(scanUp_end (fun x=>Sort.ltInt x A[a]!) A j C (Or.inr (by rw [<-M.out a,<-M.out C];exact ht))).symm.trans U.out
    clear ht
    have F:wr.drewN nq=W1.drewN (Y+nq):=by rw [S.out,World.drewN_drewN]
    clear L S U
    go_loopw [11] (fun V w2=>∃(B K:Nat),V=.int .i64 B/\B<=j/\C<=B+1/\w2=W1.drewN K /\
     Hid (Sort.scanDown (fun x=>!Sort.ltInt x A[a]!) A C B=Sort.scanDown (fun x=>!Sort.ltInt x A[a]!) A C j))
     (fun V _=>(intOf V).toNat)
    case atStart=>exact⟨j,Y+nq,rfl,Nat.le_refl _,X,F,rfl⟩
    case round=>
     clear F
     obtain⟨B,K,rfl,aj,ae,F,J⟩:=hrel
     have L:∀ t,t<d.size->wr.cell? ⟨zc,u+t,none⟩=some (.int .u64 (H t)):=fun t ht=>by rw [F];exact hc t ht
     have T:Hid (wr=W1.drewN K):=F
     clear F
     by_cases I:C<=B
     ·go_wp2_with fail
      go_big_quiet (first | (go_at_call 207;refine Calls.quiet_of_same (so_cmp_Less_int _ _ _)))
      go_wp2
      ·
       have ht:(!Sort.ltInt (H B) (H a))=true:=by assumption
       go_roundw
       case rel=>exact⟨B - 1,K+nq,by go_num,by omega,by omega,by rw [T.out,World.drewN_drewN],(scanDown_go (fun x=>!Sort.ltInt x A[a]!) A C B I (by omega) (by rw [<-M.out a,<-M.out B];exact ht)).symm.trans J.out⟩
       case measure=>simp [intOf];omega
      ·
       have ht:(!Sort.ltInt (H B) (H a))=false:=by assumption
       have N:Hid (B=Sort.scanDown (fun x=>!Sort.ltInt x A[a]!) A C j):=(scanDown_end (fun x=>!Sort.ltInt x A[a]!) A C B (Or.inr (by rw [<-M.out a,<-M.out B];exact ht))).symm.trans J.out
       clear L J ht
       have E:wr.drewN nq=W1.drewN (K+nq):=by rw [T.out,World.drewN_drewN]
       generalize wr.drewN nq=W3 at E ⊢
       have P:∀ t,t<d.size->W3.cell? ⟨zc,u+t,none⟩=some (.int .u64 (H t)):=fun t ht=>by rw [E];exact hc t ht
       have ac:∀ t,t<d.size->W3.frozen? ⟨zc,u+t,none⟩=false:=fun t ht=>by rw [E];exact hf t ht
       have O:Hid (W3=W1.drewN (K+nq)):=E
       clear E
       obtain⟨v3,ad⟩:=cell?_setCell_some (w:=W3) (p:=⟨zc,u+C,none⟩) (x:=.int .u64 (H B)) (q:=⟨zc,u+B,none⟩) (P B (by omega))
       have ar:=part_scans_lt Sort.ltInt a i j A (by omega) Q.out N.out I
       go_wp2
       go_region
       all_goals go_wp2
       obtain⟨R,hR⟩:∃ R,R=Sort.partLoop Sort.ltInt a (C+1) (B - 1) (Sort.swp A C B):=⟨_,rfl⟩
       have HP:Hid (Sort.partition Sort.ltInt d a b y=(R.1,false,Sort.swp R.2 R.1 a)):=by rw [hR];exact part_first_go Sort.ltInt d a b y HI.out HJ.out ah.out Q.out N.out (by omega)
       have au:((W3.setCell ⟨zc,u+C,none⟩ (.int .u64 (H B))).setCell ⟨zc,u+B,none⟩ (.int .u64 (H C))).drew=(putRow zg w zc u (Sort.swp A C B)).drewN (n+(K+nq)+1):=by
        rw [O.out,AW.out,World.drewN_drewN,M.out C,M.out B]
        exact swap_worldC zg w zc u A _ C B (by omega) (by omega)
       have HR:Hid (R=Sort.partLoop Sort.ltInt a (C+1) (B - 1) (Sort.swp A C B)):=hR
       clear hR hc hf P ac ad O AW M Q N
       go_loopw [10,11] (fun vi V wr=>∃(i j n:Nat) (A:Array Int),vi=.int .i64 i/\V=.int .i64 j/\a<i/\i<=j+1/\j<b/\A.size=d.size/\wr=(putRow zg w zc u A).drewN n /\
        Sort.partLoop Sort.ltInt a i j A=R)
        (fun vi V _=>(intOf V).toNat+1 - (intOf vi).toNat)
       case atStart=>exact⟨C+1,B - 1,_,Sort.swp A C B,by go_num,by go_num,by omega,by omega,by omega,by rw [size_swp];exact hs,au,HR.out.symm⟩
       case round=>
        clear au HR
        obtain⟨i,j,n,A,rfl,rfl,aw,ai,ay,hs,hw,aq⟩:=hrel
        rename World=>W1
        have AE:Hid (Sort.partLoop Sort.ltInt a i j A=R):=aq
        clear aq
        have Z:Holds zg W1 zc u A:=by
         rw [hw]
         exact holds_putRow zg w zc u d A AH.out hs
        obtain⟨H,hG⟩:∃ H:Nat->Int,∀ t,H t=A[t]!:=⟨fun t=>A[t]!,fun _=>rfl⟩
        have hc:∀ t,t<d.size->W1.cell? ⟨zc,u+t,none⟩=some (.int .u64 (H t)):=fun t ht=>by rw [hG];exact(Z t (by omega)).1
        have hf:∀ t,t<d.size->W1.frozen? ⟨zc,u+t,none⟩=false:=fun t ht=>(Z t (by omega)).2
        have M:Hid (∀ t,H t=A[t]!):=hG
        have AW:Hid (W1=(putRow zg w zc u A).drewN n):=hw
        clear hG hw Z
        go_wp2
        go_loopw [10] (fun vi w1=>∃(C Y:Nat),vi=.int .i64 C/\i<=C/\C<=j+1/\w1=W1.drewN Y /\
         Hid (Sort.scanUp (fun x=>Sort.ltInt x A[a]!) A j C=Sort.scanUp (fun x=>Sort.ltInt x A[a]!) A j i))
         (fun vi _=>j+1 - (intOf vi).toNat)
        case atStart=>exact⟨i,0,rfl,Nat.le_refl _,ai,rfl,rfl⟩
        case round=>
         obtain⟨C,Y,rfl,ax,X,ab,U⟩:=hrel
         have L:∀ t,t<d.size->wr.cell? ⟨zc,u+t,none⟩=some (.int .u64 (H t)):=fun t ht=>by rw [ab];exact hc t ht
         have S:Hid (wr=W1.drewN Y):=ab
         clear ab
         by_cases af:C<=j
         ·go_wp2_with fail
          go_big_quiet (first | (go_at_call 207;refine Calls.quiet_of_same (so_cmp_Less_int _ _ _)))
          go_wp2
          ·
           have ht:Sort.ltInt (H C) (H a)=true:=by assumption
           go_roundw
           case rel=>exact⟨C+1,Y+nq,by go_num,by omega,by omega,by rw [S.out,World.drewN_drewN],(scanUp_go (fun x=>Sort.ltInt x A[a]!) A j C af (by rw [<-M.out a,<-M.out C];exact ht)).symm.trans U.out⟩
           case measure=>simp [intOf];omega
          ·
           have ht:Sort.ltInt (H C) (H a)=false:=by assumption
           have Q:Hid (C=Sort.scanUp (fun x=>Sort.ltInt x A[a]!) A j i):=(scanUp_end (fun x=>Sort.ltInt x A[a]!) A j C (Or.inr (by rw [<-M.out a,<-M.out C];exact ht))).symm.trans U.out
           clear ht
           have F:wr.drewN nq=W1.drewN (Y+nq):=by rw [S.out,World.drewN_drewN]
           clear L S U
           go_loopw [11] (fun V w2=>∃(B K:Nat),V=.int .i64 B/\B<=j/\C<=B+1/\w2=W1.drewN K /\
            Hid (Sort.scanDown (fun x=>!Sort.ltInt x A[a]!) A C B=Sort.scanDown (fun x=>!Sort.ltInt x A[a]!) A C j))
            (fun V _=>(intOf V).toNat)
           case atStart=>exact⟨j,Y+nq,rfl,Nat.le_refl _,X,F,rfl⟩
           case round=>
            clear F
            obtain⟨B,K,rfl,aj,ae,F,J⟩:=hrel
            have L:∀ t,t<d.size->wr.cell? ⟨zc,u+t,none⟩=some (.int .u64 (H t)):=fun t ht=>by rw [F];exact hc t ht
            have T:Hid (wr=W1.drewN K):=F
            clear F
            by_cases I:C<=B
            ·go_wp2_with fail
             go_big_quiet (first | (go_at_call 207;refine Calls.quiet_of_same (so_cmp_Less_int _ _ _)))
             go_wp2
             ·
              have ht:(!Sort.ltInt (H B) (H a))=true:=by assumption
              go_roundw
              case rel=>exact⟨B - 1,K+nq,by go_num,by omega,by omega,by rw [T.out,World.drewN_drewN],(scanDown_go (fun x=>!Sort.ltInt x A[a]!) A C B I (by omega) (by rw [<-M.out a,<-M.out B];exact ht)).symm.trans J.out⟩
              case measure=>simp [intOf];omega
             ·
              have ht:(!Sort.ltInt (H B) (H a))=false:=by assumption
              have N:Hid (B=Sort.scanDown (fun x=>!Sort.ltInt x A[a]!) A C j):=(scanDown_end (fun x=>!Sort.ltInt x A[a]!) A C B (Or.inr (by rw [<-M.out a,<-M.out B];exact ht))).symm.trans J.out
              clear L J ht
              have E:wr.drewN nq=W1.drewN (K+nq):=by rw [T.out,World.drewN_drewN]
              generalize wr.drewN nq=W3 at E ⊢
              have P:∀ t,t<d.size->W3.cell? ⟨zc,u+t,none⟩=some (.int .u64 (H t)):=fun t ht=>by rw [E];exact hc t ht
              have ac:∀ t,t<d.size->W3.frozen? ⟨zc,u+t,none⟩=false:=fun t ht=>by rw [E];exact hf t ht
              have O:Hid (W3=W1.drewN (K+nq)):=E
              clear E
              obtain⟨v3,ad⟩:=cell?_setCell_some (w:=W3) (p:=⟨zc,u+C,none⟩) (x:=.int .u64 (H B)) (q:=⟨zc,u+B,none⟩) (P B (by omega))
              have ar:=part_scans_lt Sort.ltInt a i j A (by omega) Q.out N.out I
              go_wp2
              go_region
              all_goals go_wp2
              all_goals go_roundw
              case rel=>
               refine⟨C+1,B - 1,n+(K+nq)+1,Sort.swp A C B,by go_num,by go_num,by omega,by omega,by omega,by rw [size_swp];exact hs,?_,?_⟩
               ·rw [O.out,AW.out,World.drewN_drewN,M.out C,M.out B]
                exact swap_worldC zg w zc u A _ C B (by omega) (by omega)
               ·exact(part_go Sort.ltInt a i j A Q.out N.out (by omega)).symm.trans AE.out
              case measure=>simp [intOf];omega
            ·go_wp2_with fail
             go_big_quiet (first | (go_at_call 207;refine Calls.quiet_of_same (so_cmp_Less_int _ _ _)))
             have N:Hid (B=Sort.scanDown (fun x=>!Sort.ltInt x A[a]!) A C j):=(scanDown_end (fun x=>!Sort.ltInt x A[a]!) A C B (Or.inl I)).symm.trans J.out
             clear L J
             have E:wr.drewN nq=W1.drewN (K+nq):=by rw [T.out,World.drewN_drewN]
             generalize wr.drewN nq=W3 at E ⊢
             have P:∀ t,t<d.size->W3.cell? ⟨zc,u+t,none⟩=some (.int .u64 (H t)):=fun t ht=>by rw [E];exact hc t ht
             have ac:∀ t,t<d.size->W3.frozen? ⟨zc,u+t,none⟩=false:=fun t ht=>by rw [E];exact hf t ht
             have O:Hid (W3=W1.drewN (K+nq)):=E
             clear E
             obtain⟨v3,ad⟩:=cell?_setCell_some (w:=W3) (p:=⟨zc,u+B,none⟩) (x:=.int .u64 (H a)) (q:=⟨zc,u+a,none⟩) (P a (by omega))
             have am:B<d.size:=by omega
             go_wp2
             go_region
             all_goals go_wp2
             all_goals go_ret2
             have e:Sort.partition Sort.ltInt d a b y=(B,false,Sort.swp A B a):=by
              have e0:=(part_break Sort.ltInt a i j A Q.out N.out (by omega)).symm.trans AE.out
              rw [HP.out,<-e0]
             refine⟨?_,n+(K+nq)+1,?_⟩
             ·rw [e];rfl
             ·rw [e,O.out,AW.out,World.drewN_drewN,M.out a,M.out B]
              exact swap_worldC zg w zc u A _ B a (by omega) (by omega)
         ·go_wp2_with fail
          go_big_quiet (first | (go_at_call 207;refine Calls.quiet_of_same (so_cmp_Less_int _ _ _)))
          go_wp2
          have Q:Hid (C=Sort.scanUp (fun x=>Sort.ltInt x A[a]!) A j i):=(scanUp_end (fun x=>Sort.ltInt x A[a]!) A j C (Or.inl af)).symm.trans U.out
          have F:wr.drewN nq=W1.drewN (Y+nq):=by rw [S.out,World.drewN_drewN]
          clear L S U
          go_loopw [11] (fun V w2=>∃(B K:Nat),V=.int .i64 B/\B<=j/\C<=B+1/\w2=W1.drewN K /\
           Hid (Sort.scanDown (fun x=>!Sort.ltInt x A[a]!) A C B=Sort.scanDown (fun x=>!Sort.ltInt x A[a]!) A C j))
           (fun V _=>(intOf V).toNat)
          case atStart=>exact⟨j,Y+nq,rfl,Nat.le_refl _,X,F,rfl⟩
          case round=>
           clear F
           obtain⟨B,K,rfl,aj,ae,F,J⟩:=hrel
           have L:∀ t,t<d.size->wr.cell? ⟨zc,u+t,none⟩=some (.int .u64 (H t)):=fun t ht=>by rw [F];exact hc t ht
           have T:Hid (wr=W1.drewN K):=F
           clear F
           by_cases I:C<=B
           ·exfalso;omega
           ·go_wp2_with fail
            go_big_quiet (first | (go_at_call 207;refine Calls.quiet_of_same (so_cmp_Less_int _ _ _)))
            have N:Hid (B=Sort.scanDown (fun x=>!Sort.ltInt x A[a]!) A C j):=(scanDown_end (fun x=>!Sort.ltInt x A[a]!) A C B (Or.inl I)).symm.trans J.out
            clear L J
            have E:wr.drewN nq=W1.drewN (K+nq):=by rw [T.out,World.drewN_drewN]
            generalize wr.drewN nq=W3 at E ⊢
            have P:∀ t,t<d.size->W3.cell? ⟨zc,u+t,none⟩=some (.int .u64 (H t)):=fun t ht=>by rw [E];exact hc t ht
            have ac:∀ t,t<d.size->W3.frozen? ⟨zc,u+t,none⟩=false:=fun t ht=>by rw [E];exact hf t ht
            have O:Hid (W3=W1.drewN (K+nq)):=E
            clear E
            obtain⟨v3,ad⟩:=cell?_setCell_some (w:=W3) (p:=⟨zc,u+B,none⟩) (x:=.int .u64 (H a)) (q:=⟨zc,u+a,none⟩) (P a (by omega))
            have am:B<d.size:=by omega
            go_wp2
            go_region
            all_goals go_wp2
            all_goals go_ret2
            have e:Sort.partition Sort.ltInt d a b y=(B,false,Sort.swp A B a):=by
             have e0:=(part_break Sort.ltInt a i j A Q.out N.out (by omega)).symm.trans AE.out
             rw [HP.out,<-e0]
            refine⟨?_,n+(K+nq)+1,?_⟩
            ·rw [e];rfl
            ·rw [e,O.out,AW.out,World.drewN_drewN,M.out a,M.out B]
             exact swap_worldC zg w zc u A _ B a (by omega) (by omega)
     ·go_wp2_with fail
      go_big_quiet (first | (go_at_call 207;refine Calls.quiet_of_same (so_cmp_Less_int _ _ _)))
      have N:Hid (B=Sort.scanDown (fun x=>!Sort.ltInt x A[a]!) A C j):=(scanDown_end (fun x=>!Sort.ltInt x A[a]!) A C B (Or.inl I)).symm.trans J.out
      clear L J
      have E:wr.drewN nq=W1.drewN (K+nq):=by rw [T.out,World.drewN_drewN]
      generalize wr.drewN nq=W3 at E ⊢
      have P:∀ t,t<d.size->W3.cell? ⟨zc,u+t,none⟩=some (.int .u64 (H t)):=fun t ht=>by rw [E];exact hc t ht
      have ac:∀ t,t<d.size->W3.frozen? ⟨zc,u+t,none⟩=false:=fun t ht=>by rw [E];exact hf t ht
      have O:Hid (W3=W1.drewN (K+nq)):=E
      clear E
      obtain⟨v3,ad⟩:=cell?_setCell_some (w:=W3) (p:=⟨zc,u+B,none⟩) (x:=.int .u64 (H a)) (q:=⟨zc,u+a,none⟩) (P a (by omega))
      have am:B<d.size:=by omega
      go_wp2
      go_region
      all_goals go_wp2
      all_goals go_ret2
      have e:Sort.partition Sort.ltInt d a b y=(B,true,Sort.swp A B a):=part_first_break Sort.ltInt d a b y HI.out HJ.out ah.out Q.out N.out (by omega)
      refine⟨?_,n+(K+nq)+1,?_⟩
      ·rw [e];rfl
      ·rw [e,O.out,AW.out,World.drewN_drewN,M.out a,M.out B]
       exact swap_worldC zg w zc u A _ B a (by omega) (by omega)
  ·go_wp2_with fail
   go_big_quiet (first | (go_at_call 207;refine Calls.quiet_of_same (so_cmp_Less_int _ _ _)))
   go_wp2
   have Q:Hid (C=Sort.scanUp (fun x=>Sort.ltInt x A[a]!) A j i):=(scanUp_end (fun x=>Sort.ltInt x A[a]!) A j C (Or.inl af)).symm.trans U.out
   have F:wr.drewN nq=W1.drewN (Y+nq):=by rw [S.out,World.drewN_drewN]
   clear L S U
   go_loopw [11] (fun V w2=>∃(B K:Nat),V=.int .i64 B/\B<=j/\C<=B+1/\w2=W1.drewN K /\
    Hid (Sort.scanDown (fun x=>!Sort.ltInt x A[a]!) A C B=Sort.scanDown (fun x=>!Sort.ltInt x A[a]!) A C j))
    (fun V _=>(intOf V).toNat)
   case atStart=>exact⟨j,Y+nq,rfl,Nat.le_refl _,X,F,rfl⟩
   case round=>
    clear F
    obtain⟨B,K,rfl,aj,ae,F,J⟩:=hrel
    have L:∀ t,t<d.size->wr.cell? ⟨zc,u+t,none⟩=some (.int .u64 (H t)):=fun t ht=>by rw [F];exact hc t ht
    have T:Hid (wr=W1.drewN K):=F
    clear F
    by_cases I:C<=B
    ·exfalso;omega
    ·go_wp2_with fail
     go_big_quiet (first | (go_at_call 207;refine Calls.quiet_of_same (so_cmp_Less_int _ _ _)))
     have N:Hid (B=Sort.scanDown (fun x=>!Sort.ltInt x A[a]!) A C j):=(scanDown_end (fun x=>!Sort.ltInt x A[a]!) A C B (Or.inl I)).symm.trans J.out
     clear L J
     have E:wr.drewN nq=W1.drewN (K+nq):=by rw [T.out,World.drewN_drewN]
     generalize wr.drewN nq=W3 at E ⊢
     have P:∀ t,t<d.size->W3.cell? ⟨zc,u+t,none⟩=some (.int .u64 (H t)):=fun t ht=>by rw [E];exact hc t ht
     have ac:∀ t,t<d.size->W3.frozen? ⟨zc,u+t,none⟩=false:=fun t ht=>by rw [E];exact hf t ht
     have O:Hid (W3=W1.drewN (K+nq)):=E
     clear E
     obtain⟨v3,ad⟩:=cell?_setCell_some (w:=W3) (p:=⟨zc,u+B,none⟩) (x:=.int .u64 (H a)) (q:=⟨zc,u+a,none⟩) (P a (by omega))
     have am:B<d.size:=by omega
     go_wp2
     go_region
     all_goals go_wp2
     all_goals go_ret2
     have e:Sort.partition Sort.ltInt d a b y=(B,true,Sort.swp A B a):=part_first_break Sort.ltInt d a b y HI.out HJ.out ah.out Q.out N.out (by omega)
     refine⟨?_,n+(K+nq)+1,?_⟩
     ·rw [e];rfl
     ·rw [e,O.out,AW.out,World.drewN_drewN,M.out a,M.out B]
      exact swap_worldC zg w zc u A _ B a (by omega) (by omega)
theorem xJ (zc u y a b j:Nat) (d:Array Int) (w:World) (E:Holds zg w zc u d) (A:a<=j) (B:j<b) (hb:b<=d.size) (C:d.size<4611686018427387904) :
 Calls Tryz.prog 225 #[.slice (some ⟨zc,u,none⟩) d.size y,.int .i64 a,.int .i64 b,.int .i64 j] w fun e F=>
  e=.returned (.tuple #[.int .i64 (Sort.partition Sort.ltInt d a b j).1,.bool (Sort.partition Sort.ltInt d a b j).2.1])/\∃ n,F=putRow zg (Sort.ahead w n) zc u (Sort.partition Sort.ltInt d a b j).2.2:=
 (Zc zc u y a b j d w E A B hb C).mono fun _ _ ⟨he,n,hw⟩=>⟨he,n,hw⟩
set_option maxRecDepth 100000 in
theorem xI (zc j U a L:Nat) (d:Array Int) (w:World) (X:Holds zg w zc j d) (y:zc<w.heap.size) (hb:a+L<=d.size) (aj:d.size<4611686018427387904) (h8:8<=L) :
 Calls Tryz.prog 220 #[.slice (some ⟨zc,j,none⟩) d.size U,.int .i64 a,.int .i64 ((a+L:Nat):Int)] w fun e I=>
  e=.returned (.tuple #[])/\∃ n os,I=grow (putRow zg (Sort.ahead w n) zc j (breakPatterns d a (a+L))) os:=by
 rw [breakPatterns_eq d a L h8]
 obtain⟨M,K⟩:∃ M:Nat,M=1 <<< bitsLen L:=⟨_,rfl⟩
 have af:1<=M:=by rw [K,Nat.one_shiftLeft];exact Nat.two_pow_pos _
 have ag:M<=2 * L:=by rw [K,Nat.one_shiftLeft];exact two_pow_bitsLen_le (by omega)
 have Z:∀ w,Calls Tryz.prog 233 #[.int .i64 (L:Int)] w fun e I=>e=.returned (.int .u64 (M:Int))/\I=w:=by rw [K];exact fun w=>kI L (by omega) w
 rw [<-K]
 clear K
 have HH:Hid (Holds zg w zc j d):=X
 have S:Hid (w.alloc (Obj.cells #[.int .u64 (L:Int)] 277)=grow (putRow zg (Sort.ahead w 0) zc j d) #[Obj.cells #[.int .u64 ((UInt64.ofNat L).toNat:Int)] 277]):=by
  show _=_
  rw [show Sort.ahead w 0=w from rfl,putRow_self _ _ _ _ _ X,alloc_eq_grow,show (UInt64.ofNat L).toNat=L from by simp;omega]
 clear X
 go_enter Tryz.func220,Tryz.ntmps220
 go_wp2_with (first | (go_at_call 233;rw [show ((a:Int)+(L:Int) - (a:Int))=(L:Int) by omega];refine(Z _).mono ?_;rintro e I ⟨rfl,rfl⟩))
 go_loopw [9] (fun vi wr=>∃(t n:Nat) (r:UInt64) (u:Array Int),vi=.int .i64 ((a+L / 4 * 2 - 1+t:Nat):Int)/\t<=3/\u.size=d.size /\
  wr=grow (putRow zg (Sort.ahead w n) zc j u) #[Obj.cells #[.int .u64 (r.toNat:Int)] 277] /\
  bpRest a L M (a+L / 4 * 2 - 1) (3 - t) t (r,u)=bpRest a L M (a+L / 4 * 2 - 1) 3 0 (UInt64.ofNat L,d)) (fun vi _=>a+L / 4 * 2+3 - (intOf vi).toNat)
 case atStart=>exact⟨0,0,UInt64.ofNat L,d,by congr 1;omega,by omega,rfl,S.out,rfl⟩
 case round=>
  obtain⟨t,n,r,u,rfl,ht,H,J,hR⟩:=hrel
  obtain⟨R,C⟩:∃ R:Nat,R=r.toNat:=⟨_,rfl⟩
  have lR:R<18446744073709551616:=by rw [C];exact r.toNat_lt
  obtain⟨A,B⟩:∃ A:Nat,A=xorNextN R:=⟨_,rfl⟩
  have ad:A<18446744073709551616:=by rw [B];exact xorNextN_lt R lR
  obtain⟨O,P⟩:∃ O:Nat,O=A &&& (M - 1):=⟨_,rfl⟩
  have lO:O<=M - 1:=by rw [P];exact Nat.and_le_right
  have ae:bits .and .u64 (A:Int) ((M:Int) - 1)=(O:Int):=by
   rw [show ((M:Int) - 1)=((M - 1:Nat):Int) by omega,bits_and_u64_nat _ _ ad (by omega),P]
  obtain⟨G,V⟩:∃ G:Nat->Int,∀ x,G x=u[x]!:=⟨fun x=>u[x]!,fun _=>rfl⟩
  have hz:(putRow zg (Sort.ahead w n) zc j u).heap.size=w.heap.size:=by simp
  have ah:∀ x,x<d.size->wr.cell? ⟨zc,j+x,none⟩=some (.int .u64 (G x)):=fun x hx=>by
   rw [J,cell?_grow _ _ _ (by rw [hz];exact y),V];exact cell?_putRow _ _ _ _ d u (holds_ahead _ _ _ _ _ _ HH.out) H x (by omega)
  have ai:∀ x,x<d.size->wr.frozen? ⟨zc,j+x,none⟩=false:=fun x hx=>by
   rw [J,frozen?_grow _ _ _ (by rw [hz];exact y),frozen?_putRow];exact((holds_ahead _ _ n _ _ _ HH.out) x hx).2
  have ab:wr.cell? ⟨w.heap.size,0,none⟩=some (.int .u64 (R:Int)):=by rw [J,C,<-hz];exact grow_one_cell _ _ _
  have ac:wr.frozen? ⟨w.heap.size,0,none⟩=false:=by rw [J,<-hz];exact grow_one_frozen _ _ _
  have F:Calls Tryz.prog 234 #[.pointer (some ⟨w.heap.size,0,none⟩)] wr fun e I=>e=.returned (.int .u64 (A:Int))/\I=(wr.setCell ⟨w.heap.size,0,none⟩ (.int .u64 (A:Int))).drewN 3:=by
   rw [B];exact Zd _ _ R lR wr ab ac
  have T:Hid (wr=grow (putRow zg (Sort.ahead w n) zc j u) #[Obj.cells #[.int .u64 (r.toNat:Int)] 277]):=J
  have HG:Hid (∀ x,G x=u[x]!):=V
  have Q:Hid (bpRest a L M (a+L / 4 * 2 - 1) (3 - t) t (r,u)=bpRest a L M (a+L / 4 * 2 - 1) 3 0 (UInt64.ofNat L,d)):=hR
  have N:Hid (A=(xorNext r).toNat/\O=(xorNext r).toNat &&& (M - 1)):=by
   have e:A=(xorNext r).toNat:=by rw [B,C,xorNext_toNat]
   exact⟨e,by rw [P,e]⟩
  clear J V hR C B P
  go_wp2_with (first | (go_at_call 234;refine F.mono ?_;rintro e I ⟨rfl,rfl⟩))
  ·
   have Y:L<=O:=by omega
   by_cases E:a+L / 4 * 2 - 1+t=a+(O - L)
   all_goals
    go_region
    all_goals go_wp2
    go_roundw
    case rel=>
     refine⟨t+1,n+4,xorNext r,swp u (a+L / 4 * 2 - 1+t) (a+(O - L)),by first | rfl | (congr 1<;>omega),by omega,by rw [size_swp];exact H,?_,?_⟩
     ·(try rw [E])
      rw [T.out,N.out.1]
      simp only [HG.out]
      exact step_world zg w n 4 zc j u _ _ y (by omega) (by omega) _ _ _
     ·rw [<-Q.out,bp_step a L M _ t r u (O - L) (by omega) (by rw [<-N.out.2,if_pos (by omega)])]
    case measure=>simp [intOf];omega
  ·have Y:¬ L<=O:=by omega
   by_cases E:a+L / 4 * 2 - 1+t=a+O
   all_goals
    go_region
    all_goals go_wp2
    go_roundw
    case rel=>
     refine⟨t+1,n+4,xorNext r,swp u (a+L / 4 * 2 - 1+t) (a+O),by first | rfl | (congr 1<;>omega),by omega,by rw [size_swp];exact H,?_,?_⟩
     ·(try rw [E])
      rw [T.out,N.out.1]
      simp only [HG.out]
      exact step_world zg w n 4 zc j u _ _ y (by omega) (by omega) _ _ _
     ·rw [<-Q.out,bp_step a L M _ t r u O (by omega) (by rw [<-N.out.2,if_neg (by omega)])]
    case measure=>simp [intOf];omega
  ·
   obtain rfl:t=3:=by omega
   go_end0
   exact⟨rfl,n,_,by rw [<-Q.out,T.out];rfl⟩
theorem vU (zc j u a b:Nat) (d:Array Int) (w:World) (B:Holds zg w zc j d) (y:zc<w.heap.size) (F:a<=b) (hb:b<=d.size) (C:d.size<4611686018427387904) :
 Calls Tryz.prog 220 #[.slice (some ⟨zc,j,none⟩) d.size u,.int .i64 a,.int .i64 b] w fun e H=>
  e=.returned (.tuple #[])/\∃ n os,H=grow (putRow zg (Sort.ahead w n) zc j (breakPatterns d a b)) os:=by
 obtain⟨L,rfl⟩:∃ L,b=a+L:=⟨b - a,by omega⟩
 by_cases E:8<=L
 ·exact xI zc j u a L d w B y hb C E
 ·have G:breakPatterns d a (a+L)=d:=by unfold breakPatterns;simp only [Nat.add_sub_cancel_left];rw [if_neg E]
  rw [G]
  have A:Hid (w=grow (putRow zg (Sort.ahead w 0) zc j d) #[]):=by
   show _=_
   rw [grow_empty,show Sort.ahead w 0=w from rfl,putRow_self _ _ _ _ _ B]
  clear B
  go_enter Tryz.func220,Tryz.ntmps220
  go_wp2
  go_end0
  exact⟨rfl,0,#[],A.out⟩
set_option maxRecDepth 1000000 in
theorem yA (zc u len U:Nat) (d:Array Int) (S:d.size=len) (lo hi first:Nat) (w:World) (Y:Holds zg w zc u d) (Z:lo<=hi) (hb:first+hi<=d.size) (ab:d.size<4611686018427387904) :
 Calls Tryz.prog 232 #[.slice (some ⟨zc,u,none⟩) len U,.int .i64 lo,.int .i64 hi,.int .i64 first] w fun e w'=>e=.returned (.tuple #[])/\∃ n,w'=putRow zg (Sort.ahead w n) zc u (siftDown ltInt hi first lo d):=by
 subst S
 go_enter Tryz.func232,Tryz.ntmps232
 go_wp2
 go_loopg [8] (hi - lo) (fun k s8 wr=>∃(a:Nat) (y:Array Int) (n:Nat),s8=.int .i64 a/\a<=hi/\hi - a<=k/\y.size=d.size/\wr=putRow zg (Sort.ahead w n) zc u y/\siftDown ltInt hi first a y=siftDown ltInt hi first lo d)
 case atStart=>exact⟨lo,d,0,rfl,Z,Nat.le_refl _,rfl,(putRow_self zg w zc u d Y).symm,rfl⟩
 case round=>
  obtain⟨a,y,n,rfl,hr,hk,K,N,G⟩:=hrel
  have M:Holds zg wr zc u y:=by rw [N];exact holds_putRow zg _ zc u d y (holds_ahead zg w n zc u d Y) K
  have I:∀ t,t<d.size->wr.cell? ⟨zc,u+t,none⟩=some (.int .u64 y[t]!):=fun t ht=>(M t (by omega)).1
  have J:∀ t,t<d.size->wr.frozen? ⟨zc,u+t,none⟩=false:=fun t ht=>(M t (by omega)).2
  have A:Aside (wr=putRow zg (Sort.ahead w n) zc u y):=N
  clear N Y M
  by_cases h0:hi<=2 * a+1
  ·
   have V:(hi:Int)<=2 * (a:Int)+1:=by omega
   go_wp2
   go_end0
   refine⟨rfl,n,?_⟩
   rw [A.out,<-G,sd_end ltInt y h0]
  ·
   have V:¬((hi:Int)<=2 * (a:Int)+1):=by omega
   by_cases T:2 * a+2<hi
   ·have X:2 * (a:Int)+1+1<(hi:Int):=by omega
    go_wp2_with fail
    go_big_quiet (first | (go_at_call 207;refine Calls.quiet_of_same (so_cmp_Less_int _ _ _)))
    go_wp2_with fail
    ·
     have P:ltInt y[first+2 * a+1]! y[first+2 * a+2]! = true:=by assumption
     revert nq;intro j
     have B:∀ t,t<d.size->(wr.drewN j).cell? ⟨zc,u+t,none⟩=some (.int .u64 y[t]!):=I
     have C:∀ t,t<d.size->(wr.drewN j).frozen? ⟨zc,u+t,none⟩=false:=J
     have H:Aside (wr.drewN j=putRow zg (Sort.ahead w (n+j)) zc u y):=drewN_world zg A.out j
     clear I J A
     generalize wr.drewN j=wr2 at B C H ⊢
     go_big_quiet (first | (go_at_call 207;refine Calls.quiet_of_same (so_cmp_Less_int _ _ _)))
     go_wp2_with fail
     ·
      have Q:ltInt y[first+a]! y[first+2 * a+2]! = false:=by
       have:(!ltInt y[first+a]! y[first+2 * a+2]!)=true:=by assumption
       simpa using this
      (try simp only [Exit.inBlock,Exit.then]);refine bodyPost_ret (results_none rfl _ _ _) rfl ?_
      refine⟨rfl,n+j+nq,?_⟩
      rw [drewN_world zg H.out nq,<-G,sd_right_stop ltInt y T P Q]
     ·
      have O:ltInt y[first+a]! y[first+2 * a+2]! = true:=by
       have:(!ltInt y[first+a]! y[first+2 * a+2]!)=false:=by assumption
       simpa using this
      have E:∀ t,t<d.size->(wr2.drewN nq).cell? ⟨zc,u+t,none⟩=some (.int .u64 y[t]!):=B
      have F:∀ t,t<d.size->(wr2.drewN nq).frozen? ⟨zc,u+t,none⟩=false:=C
      have L:Aside (wr2.drewN nq=putRow zg (Sort.ahead w (n+j+nq)) zc u y):=drewN_world zg H.out nq
      clear B C H
      generalize wr2.drewN nq=wr3 at E F L ⊢
      go_region
      go_wp2
      go_roundg (hi - (2 * a+2))
      case measure=>omega
      case rel=>
       refine⟨2 * a+2,swp y (first+a) (first+(2 * a+1+1)),n+j+nq+1,by simp<;>omega,by omega,Nat.le_refl _,by rw [size_swp];exact K,swap_world zg (by omega) (by omega) L.out rfl rfl,?_⟩
       rw [<-G,sd_right_go ltInt y T P O]
    ·
     have P:ltInt y[first+2 * a+1]! y[first+2 * a+2]! = false:=by assumption
     revert nq;intro j
     have B:∀ t,t<d.size->(wr.drewN j).cell? ⟨zc,u+t,none⟩=some (.int .u64 y[t]!):=I
     have C:∀ t,t<d.size->(wr.drewN j).frozen? ⟨zc,u+t,none⟩=false:=J
     have H:Aside (wr.drewN j=putRow zg (Sort.ahead w (n+j)) zc u y):=drewN_world zg A.out j
     clear I J A
     generalize wr.drewN j=wr2 at B C H ⊢
     go_big_quiet (first | (go_at_call 207;refine Calls.quiet_of_same (so_cmp_Less_int _ _ _)))
     go_wp2_with fail
     ·
      have Q:ltInt y[first+a]! y[first+2 * a+1]! = false:=by
       have:(!ltInt y[first+a]! y[first+2 * a+1]!)=true:=by assumption
       simpa using this
      (try simp only [Exit.inBlock,Exit.then]);refine bodyPost_ret (results_none rfl _ _ _) rfl ?_
      refine⟨rfl,n+j+nq,?_⟩
      rw [drewN_world zg H.out nq,<-G,sd_left_stop ltInt y (by omega) (fun _=>P) Q]
     ·
      have O:ltInt y[first+a]! y[first+2 * a+1]! = true:=by
       have:(!ltInt y[first+a]! y[first+2 * a+1]!)=false:=by assumption
       simpa using this
      have E:∀ t,t<d.size->(wr2.drewN nq).cell? ⟨zc,u+t,none⟩=some (.int .u64 y[t]!):=B
      have F:∀ t,t<d.size->(wr2.drewN nq).frozen? ⟨zc,u+t,none⟩=false:=C
      have L:Aside (wr2.drewN nq=putRow zg (Sort.ahead w (n+j+nq)) zc u y):=drewN_world zg H.out nq
      clear B C H
      generalize wr2.drewN nq=wr3 at E F L ⊢
      go_region
      go_wp2
      go_roundg (hi - (2 * a+1))
      case measure=>omega
      case rel=>
       refine⟨2 * a+1,swp y (first+a) (first+(2 * a+1)),n+j+nq+1,by simp<;>omega,by omega,Nat.le_refl _,by rw [size_swp];exact K,swap_world zg (by omega) (by omega) L.out rfl rfl,?_⟩
       rw [<-G,sd_left_go ltInt y (by omega) (fun _=>P) O]
   ·
    have X:decide (2 * (a:Int)+1+1<(hi:Int))=false:=decide_eq_false (by omega)
    go_wp2_with fail
    go_big_quiet (first | (go_at_call 207;refine Calls.quiet_of_same (so_cmp_Less_int _ _ _)))
    go_wp2_with fail
    revert nq;intro j
    have B:∀ t,t<d.size->(wr.drewN j).cell? ⟨zc,u+t,none⟩=some (.int .u64 y[t]!):=I
    have C:∀ t,t<d.size->(wr.drewN j).frozen? ⟨zc,u+t,none⟩=false:=J
    have H:Aside (wr.drewN j=putRow zg (Sort.ahead w (n+j)) zc u y):=drewN_world zg A.out j
    clear I J A
    generalize wr.drewN j=wr2 at B C H ⊢
    go_big_quiet (first | (go_at_call 207;refine Calls.quiet_of_same (so_cmp_Less_int _ _ _)))
    go_wp2_with fail
    ·
     have Q:ltInt y[first+a]! y[first+2 * a+1]! = false:=by
      have:(!ltInt y[first+a]! y[first+2 * a+1]!)=true:=by assumption
      simpa using this
     (try simp only [Exit.inBlock,Exit.then]);refine bodyPost_ret (results_none rfl _ _ _) rfl ?_
     refine⟨rfl,n+j+nq,?_⟩
     rw [drewN_world zg H.out nq,<-G,sd_left_stop ltInt y (by omega) (fun h=>absurd h T) Q]
    ·
     have O:ltInt y[first+a]! y[first+2 * a+1]! = true:=by
      have:(!ltInt y[first+a]! y[first+2 * a+1]!)=false:=by assumption
      simpa using this
     have E:∀ t,t<d.size->(wr2.drewN nq).cell? ⟨zc,u+t,none⟩=some (.int .u64 y[t]!):=B
     have F:∀ t,t<d.size->(wr2.drewN nq).frozen? ⟨zc,u+t,none⟩=false:=C
     have L:Aside (wr2.drewN nq=putRow zg (Sort.ahead w (n+j+nq)) zc u y):=drewN_world zg H.out nq
     clear B C H
     generalize wr2.drewN nq=wr3 at E F L ⊢
     go_region
     go_wp2
     go_roundg (hi - (2 * a+1))
     case measure=>omega
     case rel=>
      refine⟨2 * a+1,swp y (first+a) (first+(2 * a+1)),n+j+nq+1,by simp<;>omega,by omega,Nat.le_refl _,by rw [size_swp];exact K,swap_world zg (by omega) (by omega) L.out rfl rfl,?_⟩
      rw [<-G,sd_left_go ltInt y (by omega) (fun h=>absurd h T) O]
set_option maxRecDepth 1000000 in
theorem ZK (zc u len J:Nat) (d:Array Int) (T:d.size=len) (a b:Nat) (w:World) (P:Holds zg w zc u d) (U:a<=b) (hb:b<=d.size) (ae:d.size<4611686018427387904) :
 Calls Tryz.prog 219 #[.slice (some ⟨zc,u,none⟩) len J,.int .i64 a,.int .i64 b] w fun e w'=>e=.returned (.tuple #[])/\∃ n,w'=putRow zg (Sort.ahead w n) zc u (heapSort ltInt d a b):=by
 subst T
 have F:((b - a:Nat):Int)=(b:Int) - (a:Int):=by omega
 go_enter Tryz.func219,Tryz.ntmps219
 go_wp2
 go_loopg [9] ((b - a - 1) / 2+1) (fun k s9 wr=>s9=.int .i64 ((k:Int) - 1)/\k<=(b - a - 1) / 2+1/\∃(C:Array Int) (n:Nat),C.size=d.size/\wr=putRow zg (Sort.ahead w n) zc u C /\
  heapBuild ltInt (b - a) a k C=heapBuild ltInt (b - a) a ((b - a - 1) / 2+1) d)
 case atStart=>exact⟨by rw [half_start U],Nat.le_refl _,d,0,rfl,(putRow_self zg w zc u d P).symm,rfl⟩
 case round=>
  obtain⟨rfl,S,C,n,K,O,N⟩:=hrel
  have Q:Holds zg wr zc u C:=by rw [O];exact holds_putRow zg _ zc u d C (holds_ahead zg w n zc u d P) K
  have A:Aside (wr=putRow zg (Sort.ahead w n) zc u C):=O
  clear O
  cases gk with
  | zero=>
    have hB:C=heapBuild ltInt (b - a) a ((b - a - 1) / 2+1) d:=N
    clear N Q S
    go_wp2
    go_loopg [10] (b - a) (fun k X Y=>X=.int .i64 ((k:Int) - 1)/\k<=b - a/\∃(B:Array Int) (E:Nat),B.size=d.size/\Y=putRow zg (Sort.ahead w E) zc u B/\heapPop ltInt a k B=heapPop ltInt a (b - a) C)
    case atStart=>exact⟨by rw [F],Nat.le_refl _,C,n,K,A.out,rfl⟩
    case round=>
     obtain⟨rfl,S,B,E,y,I,H⟩:=hrel
     cases gk with
     | zero=>
       go_wp2
       go_end0
       refine⟨rfl,E,?_⟩
       have e:B=heapSort ltInt d a b:=by rw [heapSort,<-hB,<-H];rfl
       rw [<-e]
     | succ k=>
       have M:Holds zg wr zc u B:=by rw [I];exact holds_putRow zg _ zc u d B (holds_ahead zg w E zc u d P) y
       have ab:∀ t,t<d.size->wr.cell? ⟨zc,u+t,none⟩=some (.int .u64 B[t]!):=fun t ht=>(M t (by omega)).1
       have ac:∀ t,t<d.size->wr.frozen? ⟨zc,u+t,none⟩=false:=fun t ht=>(M t (by omega)).2
       have Z:Aside (wr=putRow zg (Sort.ahead w E) zc u B):=I
       clear I M
       rcases Nat.eq_zero_or_pos k with V | ad
       ·subst V
        go_wp2_with fail
        go_region
        go_wp2_with fail
        rw [swap_world zg (i:=a) (j:=a) (by omega) (by omega) Z.out rfl rfl]
        refine(yA zc u d.size J (swp B a (a)) (by rw [size_swp];exact y) 0 0 a _ (holds_putRow zg _ zc u d _ (holds_ahead zg w (E+1) zc u d P) (by rw [size_swp];exact y)) (Nat.zero_le _) (by rw [size_swp];omega) (by rw [size_swp];omega)).mono ?_
        rintro e w1 ⟨rfl,m,L⟩
        go_wp2
        go_roundg 0
        case measure=>omega
        case rel=>
         refine⟨by simp,by omega,siftDown ltInt 0 a 0 (swp B a (a)),E+1+m,by rw [size_siftDown ltInt _ _ _ _ _ (Nat.le_refl _),size_swp];exact y,?_,H⟩
         first
          | rw [L,putRow_ahead_putRow zg w (E+1) m zc u _ _ (size_siftDown ltInt _ _ _ _ _ (Nat.le_refl _))]
          | rw [putRow_ahead_putRow zg w (E+1) m zc u _ _ (size_siftDown ltInt _ _ _ _ _ (Nat.le_refl _))]
       ·skip
        go_wp2_with fail
        go_region
        go_wp2_with fail
        rw [swap_world zg (i:=a) (j:=a+k) (by omega) (by omega) Z.out rfl rfl]
        refine(yA zc u d.size J (swp B a (a+k)) (by rw [size_swp];exact y) 0 k a _ (holds_putRow zg _ zc u d _ (holds_ahead zg w (E+1) zc u d P) (by rw [size_swp];exact y)) (Nat.zero_le _) (by rw [size_swp];omega) (by rw [size_swp];omega)).mono ?_
        rintro e w1 ⟨rfl,m,L⟩
        go_wp2
        go_roundg k
        case measure=>omega
        case rel=>
         refine⟨by simp,by omega,siftDown ltInt k a 0 (swp B a (a+k)),E+1+m,by rw [size_siftDown ltInt _ _ _ _ _ (Nat.le_refl _),size_swp];exact y,?_,H⟩
         first
          | rw [L,putRow_ahead_putRow zg w (E+1) m zc u _ _ (size_siftDown ltInt _ _ _ _ _ (Nat.le_refl _))]
          | rw [putRow_ahead_putRow zg w (E+1) m zc u _ _ (size_siftDown ltInt _ _ _ _ _ (Nat.le_refl _))]
  | succ k=>
    have G:=yA zc u d.size J C K k (b - a) a wr Q (by omega) (by omega) (by omega)
    rw [F] at G
    go_wp2_with (go_at_call 232;refine G.mono ?_;rintro e w1 ⟨rfl,m,L⟩)
    go_roundg k
    case measure=>omega
    case rel=>
     refine⟨by simp,by omega,siftDown ltInt (b - a) a k C,n+m,by rw [size_siftDown ltInt _ _ _ _ _ (Nat.le_refl _)];exact K,?_,N⟩
     rw [A.out,putRow_ahead_putRow zg w n m zc u C _ (size_siftDown ltInt _ _ _ _ _ (Nat.le_refl _))]
theorem qR {w:World} {zc a sb A n t:Nat} {d:Array Int} (h:Holds zg w zc a d) (u:sb≠zc):Holds zg (putRow (Value.int .i64) (Sort.ahead w n) sb A (one t)) zc a d:=fun j y=>
 ⟨by rw [cell?_putRow_other _ _ _ _ _ _ (Or.inl (Ne.symm u))];exact(h j y).1,by rw [frozen?_putRow];exact(h j y).2⟩
theorem xu (d:Array Int) (len:Nat) (u:d.size=len) (zc y A a b sb C s:Nat) (w:World) (E:Holds zg w zc y d) (F:a<d.size) (hb:b<d.size)
 (B:Holds (Value.int .i64) w sb C (one s)) (hs:s<2 ^ 62) :
 Calls Tryz.prog 237 #[.slice (some ⟨zc,y,none⟩) len A,.int .i64 a,.int .i64 b,.pointer (some ⟨sb,C,none⟩)] w fun e G=>
  e=.returned (.tuple #[.int .i64 (order2 ltInt d a b s).1,.int .i64 (order2 ltInt d a b s).2.1])/\∃ n,G=putRow (Value.int .i64) (Sort.ahead w n) sb C (one (order2 ltInt d a b s).2.2):=by
 subst u
 replace hs:s<4611686018427387904:=by omega
 have ca:=(E a F).1
 have H:=(E b hb).1
 obtain⟨I,J⟩:=one_cell B
 have ea:d[a]! = d[a]:=getElem!_pos d a F
 have eb:d[b]! = d[b]:=getElem!_pos d b hb
 go_enter Tryz.func237,Tryz.ntmps237
 go_wp2
 go_region_with (go_at_call 207;refine(so_cmp_Less_int _ _ _).mono ?_;rintro e G ⟨rfl,rfl⟩)
 all_goals (try go_wp2)
 all_goals first
  | (have j:ltInt d[b] d[a]=true:=by assumption
     have e2:order2 ltInt d a b s=(b,a,s+1):=by simp [order2,ea,eb,j]
     go_ret2
     rw [e2]
     refine⟨rfl,1,?_⟩
     rw [putRow_ahead,<-one_set B (s+1)]
     simp [drew_eq_ahead])
  | (have j:ltInt d[b] d[a]=false:=by assumption
     have e2:order2 ltInt d a b s=(a,b,s):=by simp [order2,ea,eb,j]
     go_ret2
     rw [e2]
     refine⟨rfl,1,?_⟩
     rw [putRow_ahead,putRow_self _ _ _ _ _ B]
     rfl)
set_option maxRecDepth 100000 in
theorem jH (d:Array Int) (len:Nat) (B:d.size=len) (zc j u a b c sb A s:Nat) (w:World) (E:Holds zg w zc j d) (H:a<d.size) (hb:b<d.size) (I:c<d.size) (y:sb≠zc)
 (F:Holds (Value.int .i64) w sb A (one s)) (hs:s+3<2 ^ 62) :
 Calls Tryz.prog 236 #[.slice (some ⟨zc,j,none⟩) len u,.int .i64 a,.int .i64 b,.int .i64 c,.pointer (some ⟨sb,A,none⟩)] w fun e C=>
  e=.returned (.int .i64 (median ltInt d a b c s).1)/\∃ n,C=putRow (Value.int .i64) (Sort.ahead w n) sb A (one (median ltInt d a b c s).2):=by
 subst B
 have G:=order2_lt d s H hb
 have N:=order2_swaps d a b s
 have J:=order2_lt d (order2 ltInt d a b s).2.2 G.2 I
 have O:=order2_swaps d (order2 ltInt d a b s).2.1 c (order2 ltInt d a b s).2.2
 go_enter Tryz.func236,Tryz.ntmps236
 go_wp2_with (go_at_call_of 237 (Value.int .i64 (b:Int));refine(xu d _ rfl zc j u a b sb A s w E H hb F (by omega)).mono ?_;rintro e C ⟨rfl,K,rfl⟩)
 go_wp2_with (go_at_call_of 237 (Value.int .i64 (c:Int));refine(xu d _ rfl zc j u (order2 ltInt d a b s).2.1 c sb A (order2 ltInt d a b s).2.2 _ (qR E y) G.2 I (holds_one F) (by omega)).mono ?_;rintro e C ⟨rfl,L,rfl⟩)
 go_wp2_with (go_at_call_of 237 (Value.int .i64 ((order2 ltInt d a b s).1:Int));refine(xu d _ rfl zc j u (order2 ltInt d a b s).1 (order2 ltInt d (order2 ltInt d a b s).2.1 c (order2 ltInt d a b s).2.2).1 sb A (order2 ltInt d (order2 ltInt d a b s).2.1 c (order2 ltInt d a b s).2.2).2.2 _
  (qR (qR E y) y) G.1 J.1 (holds_one (holds_one F)) (by omega)).mono ?_;rintro e C ⟨rfl,M,rfl⟩)
 go_ret
 refine⟨rfl,K+(L+M),?_⟩
 rw [one_one,one_one]
 rfl
set_option maxRecDepth 100000 in
theorem vf (d:Array Int) (len:Nat) (y:d.size=len) (zc j u a sb A s:Nat) (w:World) (F:Holds zg w zc j d) (I:1<=a) (H:a+1<d.size) (C:d.size<2 ^ 62) (B:sb≠zc)
 (G:Holds (Value.int .i64) w sb A (one s)) (hs:s+3<2 ^ 62) :
 Calls Tryz.prog 235 #[.slice (some ⟨zc,j,none⟩) len u,.int .i64 a,.pointer (some ⟨sb,A,none⟩)] w fun e E=>
  e=.returned (.int .i64 (medianAdjacent ltInt d a s).1)/\∃ n,E=putRow (Value.int .i64) (Sort.ahead w n) sb A (one (medianAdjacent ltInt d a s).2):=by
 subst y
 replace C:d.size<4611686018427387904:=by omega
 go_enter Tryz.func235,Tryz.ntmps235
 go_wp2_with (go_at_call 236;rw [show ((a:Int) - 1)=((a - 1:Nat):Int) by omega,show ((a:Int)+1)=((a+1:Nat):Int) by omega];refine(jH d _ rfl zc j u (a - 1) a (a+1) sb A s w F (by omega) (by omega) H B G hs).mono ?_;rintro e E ⟨rfl,J,rfl⟩)
 go_ret
 exact⟨rfl,J,rfl⟩
end Go.Proofs.YtonhfknjcbakiaaGreatDoor
