import Derived.Sort.WalkA6
import Derived.Sort.WalkC
import Derived.Sort.WalkC4
import Derived.Sort.WalkD2
import Derived.Sort.Walk7
import Derived.Test.YtonhfknjcbakiaaGreatDoorB9
set_option maxHeartbeats 16000000
set_option linter.unusedVariables false
set_option linter.unusedSimpArgs false
namespace Go.Proofs.YtonhfknjcbakiaaGreatDoor
open Go.RowKit Go.Sort
set_option maxRecDepth 100000 in
theorem yE (zc off cap a b:Nat) (d:Array Int) (w:World) (hH:Holds zg w zc off d) (hab:a<b) (hb:b<=d.size) (hsz:d.size<4611686018427387904) :
 Calls Tryz.prog 223 #[.slice (some ⟨zc,off,none⟩) d.size cap,.int .i64 a,.int .i64 b] w fun e w'=>
  e=.returned (.bool (Sort.partialInsertionSort ltInt d a b).2)/\∃ n,w'=putRow zg (Sort.ahead w n) zc off (Sort.partialInsertionSort ltInt d a b).1:=by
 have HH:Hid (Holds zg w zc off d):=hH
 have HST:Hid (w=putRow zg (Sort.ahead w 0) zc off d):=(putRow_self _ _ _ _ _ hH).symm
 clear hH
 go_enter Tryz.func223,Tryz.ntmps223
 go_wp2
 go_loopw [7,8] (fun vi vs wr=>∃(i s n:Nat) (dk:Array Int),vi=.int .i64 i/\vs=.int .i64 s/\s<=5/\a<i/\i<=b/\dk.size=d.size/\wr=putRow zg (Sort.ahead w n) zc off dk /\
  partialIns ltInt a b (5 - s) i dk=partialIns ltInt a b 5 (a+1) d) (fun _ vs _=>5 - (intOf vs).toNat)
 case atStart=>exact⟨a+1,0,0,d,by go_num,rfl,by omega,by omega,by omega,rfl,HST.out,rfl⟩
 case round=>
  obtain⟨i,s,n,dk,rfl,rfl,hs5,hai,hib,hsk,hwr,hO⟩:=hrel
  have HO:Hid (partialIns ltInt a b (5 - s) i dk=partialIns ltInt a b 5 (a+1) d):=hO
  clear hO
  go_wp2
  ·
   have hs:s<5:=by omega
   go_loopw [7] (fun vi wr2=>∃(k m:Nat),vi=.int .i64 k/\i<=k/\k<=b/\wr2=putRow zg (Sort.ahead w m) zc off dk/\scanSorted ltInt dk b k=scanSorted ltInt dk b i) (fun vi _=>b - (intOf vi).toNat)
   case atStart=>exact⟨i,n,rfl,Nat.le_refl _,hib,rfl,rfl⟩
   case round=>
    obtain⟨k,m,rfl,hik,hkb,hw2,hS⟩:=hrel
    obtain⟨G,hG⟩:∃ G:Nat->Int,∀ t,G t=dk[t]!:=⟨fun t=>dk[t]!,fun _=>rfl⟩
    have hcw:∀ t,t<d.size->wr.cell? ⟨zc,off+t,none⟩=some (.int .u64 (G t)):=fun t ht=>by
     rw [hw2,hG];exact cell?_putRow _ _ _ _ d dk (holds_ahead _ _ _ _ _ _ HH.out) hsk t (by omega)
    have hfw:∀ t,t<d.size->wr.frozen? ⟨zc,off+t,none⟩=false:=fun t ht=>by
     rw [hw2,frozen?_putRow];exact((holds_ahead _ _ m _ _ _ HH.out) t ht).2
    have HW:Hid (wr=putRow zg (Sort.ahead w m) zc off dk):=hw2
    have HG:Hid (∀ t,G t=dk[t]!):=hG
    have HS:Hid (scanSorted ltInt dk b k=scanSorted ltInt dk b i):=hS
    clear hw2 hG hS
    go_wp2
    by_cases hkb':k<b
    ·go_quiet (first | (go_at_call 207;refine Calls.quiet_of_same (so_cmp_Less_int _ _ _)))
     go_wp2
     all_goals first
      | (at_end
         have hl:ltInt (G k) (G (k - 1))=false:=by
          have h:(!ltInt (G k) (G (k - 1)))=true:=by assumption
          simpa using h
         go_roundw
         case rel=>exact⟨k+1,m+nq,by go_num,by omega,by omega,by rw [HW.out];exact putRow_drewN _ _ _ _ _ _ _,by rw [<-HS.out,scanSorted_go ltInt dk b k hkb' (by rw [<-HG.out,<-HG.out];exact hl)]⟩
         case measure=>simp [intOf];omega)
      | (have hl:ltInt (G k) (G (k - 1))=true:=by
          have h:(!ltInt (G k) (G (k - 1)))=false:=by assumption
          simpa using h
         have HK:Hid (scanSorted ltInt dk b i=k):=by
          show scanSorted ltInt dk b i=k
          rw [<-HS.out,scanSorted_stop ltInt dk b k (Or.inr (by rw [<-HG.out,<-HG.out];exact hl))]
         first
          | (at_ret
             have hv:Sort.partialInsertionSort ltInt d a b=(dk,false):=by
              unfold Sort.partialInsertionSort
              rw [<-HO.out,pi_short ltInt a b s i dk hs (by rw [HK.out];omega) (by omega)]
             rw [hv]
             go_ret
             exact⟨rfl,m+nq,by rw [HW.out];exact putRow_drewN _ _ _ _ _ _ _⟩)
          | (at_region 11
             have h50:¬ b - a<50:=by omega
             go_region
             have hsw:((wr.drewN (nq+1)).setCell ⟨zc,off+k,none⟩ (.int .u64 (G (k - 1)))).setCell ⟨zc,off+(k - 1),none⟩ (.int .u64 (G k))=putRow zg (Sort.ahead w (m+(nq+1))) zc off (swp dk k (k - 1)):=by
              rw [HW.out,HG.out,HG.out]
              exact swap_worldA _ w m (nq+1) zc off dk k (k - 1) (by omega) (by omega)
             have hs1:(swp dk k (k - 1)).size=d.size:=by rw [size_swp];exact hsk
             go_wp2
             all_goals first
              | (at_loop
                 have hka:k - a ≥ 2:=by omega
                 go_loopw [9] (fun vj wr2=>∃(j m2:Nat) (dj:Array Int),vj=.int .i64 j/\j<=k - 1/\dj.size=d.size/\wr2=putRow zg (Sort.ahead w m2) zc off dj /\
                  shiftDown ltInt j dj=shiftDown ltInt (k - 1) (swp dk k (k - 1))) (fun vj _=>(intOf vj).toNat)
                 case atStart=>exact⟨k - 1,_,(swp dk k (k - 1)),by congr 1;omega,Nat.le_refl _,hs1,rfl,rfl⟩
                 case round=>
                  obtain⟨j,m2,dj,rfl,hjk,hsj,hw2,hDn⟩:=hrel
                  obtain⟨G,hG⟩:∃ G:Nat->Int,∀ t,G t=dj[t]!:=⟨fun t=>dj[t]!,fun _=>rfl⟩
                  have hcw:∀ t,t<d.size->wr.cell? ⟨zc,off+t,none⟩=some (.int .u64 (G t)):=fun t ht=>by
                   rw [hw2,hG];exact cell?_putRow _ _ _ _ d dj (holds_ahead _ _ _ _ _ _ HH.out) hsj t (by omega)
                  have hfw:∀ t,t<d.size->wr.frozen? ⟨zc,off+t,none⟩=false:=fun t ht=>by
                   rw [hw2,frozen?_putRow];exact((holds_ahead _ _ m2 _ _ _ HH.out) t ht).2
                  have HW:Hid (wr=putRow zg (Sort.ahead w m2) zc off dj):=hw2
                  have HG:Hid (∀ t,G t=dj[t]!):=hG
                  have HDn:Hid (shiftDown ltInt j dj=shiftDown ltInt (k - 1) (swp dk k (k - 1))):=hDn
                  clear hw2 hG hDn hsw
                  go_wp2
                  all_goals first
                   | (at_region 16
                      go_quiet (first | (go_at_call 207;refine Calls.quiet_of_same (so_cmp_Less_int _ _ _)))
                      go_wp2
                      all_goals first
                       | (at_region 17
                          have hl:ltInt (G j) (G (j - 1))=true:=by
                           have h:(!ltInt (G j) (G (j - 1)))=false:=by assumption
                           simpa using h
                          go_region
                          all_goals go_wp2
                          go_roundw
                          case rel=>
                           refine⟨j - 1,m2+(nq+1),swp dj j (j - 1),by congr 1;omega,by omega,by rw [size_swp];exact hsj,?_,?_⟩
                           ·rw [HW.out,HG.out,HG.out]
                            exact swap_worldA _ w m2 (nq+1) zc off dj j (j - 1) (by omega) (by omega)
                           ·rw [<-HDn.out,shiftDown_go ltInt j dj (by omega) (by rw [<-HG.out,<-HG.out];exact hl)]
                          case measure=>simp [intOf];omega)
                       | (-- break
                          have hl:ltInt (G j) (G (j - 1))=false:=by
                           have h:(!ltInt (G j) (G (j - 1)))=true:=by assumption
                           simpa using h
                          have HD:Hid (fixDown ltInt a k (swp dk k (k - 1))=dj):=by
                           show fixDown ltInt a k (swp dk k (k - 1))=dj
                           unfold fixDown;rw [if_pos hka,<-HDn.out,shiftDown_stop ltInt j dj (Or.inr (by rw [<-HG.out,<-HG.out];exact hl))]
                          first
                           | (at_end
                              go_roundw
                              case rel=>
                               refine⟨k,s+1,_,dj,rfl,by go_num,by omega,by omega,by omega,hsj,(by first | rfl | exact HW.out | (rw [HW.out];exact putRow_drewN _ _ _ _ _ _ _)),?_⟩
                               rw [<-HO.out,pi_go ltInt a b s i k dk hs HK.out (by omega) (by omega),HD.out,show fixUp ltInt b k dj=dj from by unfold fixUp;rw [if_neg (by omega)]]
                              case measure=>simp [intOf];omega)
                           | (at_loop
                              go_loopw [10] (fun vj wr2=>∃(j m3:Nat) (du:Array Int),vj=.int .i64 j/\k+1<=j/\j<=b/\du.size=d.size/\wr2=putRow zg (Sort.ahead w m3) zc off du /\
                               shiftUp ltInt b j du=shiftUp ltInt b (k+1) dj) (fun vj _=>b - (intOf vj).toNat)
                              case atStart=>exact⟨k+1,_,dj,by go_num,Nat.le_refl _,by omega,hsj,(by first | rfl | exact HW.out | (rw [HW.out];exact putRow_drewN _ _ _ _ _ _ _)),rfl⟩
                              case round=>
                               obtain⟨j,m3,du,rfl,hkj,hjb,hsu,hw3,hU⟩:=hrel
                               obtain⟨G,hG⟩:∃ G:Nat->Int,∀ t,G t=du[t]!:=⟨fun t=>du[t]!,fun _=>rfl⟩
                               have hcw:∀ t,t<d.size->wr.cell? ⟨zc,off+t,none⟩=some (.int .u64 (G t)):=fun t ht=>by
                                rw [hw3,hG];exact cell?_putRow _ _ _ _ d du (holds_ahead _ _ _ _ _ _ HH.out) hsu t (by omega)
                               have hfw:∀ t,t<d.size->wr.frozen? ⟨zc,off+t,none⟩=false:=fun t ht=>by
                                rw [hw3,frozen?_putRow];exact((holds_ahead _ _ m3 _ _ _ HH.out) t ht).2
                               have HW:Hid (wr=putRow zg (Sort.ahead w m3) zc off du):=hw3
                               have HG:Hid (∀ t,G t=du[t]!):=hG
                               have HU:Hid (shiftUp ltInt b j du=shiftUp ltInt b (k+1) dj):=hU
                               clear hw3 hG hU
                               go_wp2
                               all_goals first
                                | (at_region 22
                                   go_quiet (first | (go_at_call 207;refine Calls.quiet_of_same (so_cmp_Less_int _ _ _)))
                                   go_wp2
                                   all_goals first
                                    | (at_region 23
                                       have hl:ltInt (G j) (G (j - 1))=true:=by
                                        have h:(!ltInt (G j) (G (j - 1)))=false:=by assumption
                                        simpa using h
                                       go_region
                                       all_goals go_wp2
                                       go_roundw
                                       case rel=>
                                        refine⟨j+1,m3+(nq+1),swp du j (j - 1),by go_num,by omega,by omega,by rw [size_swp];exact hsu,?_,?_⟩
                                        ·rw [HW.out,HG.out,HG.out]
                                         exact swap_worldA _ w m3 (nq+1) zc off du j (j - 1) (by omega) (by omega)
                                        ·rw [<-HU.out,shiftUp_go ltInt b j du (by omega) (by rw [<-HG.out,<-HG.out];exact hl)]
                                       case measure=>simp [intOf];omega)
                                    | (at_end
                                       have hl:ltInt (G j) (G (j - 1))=false:=by
                                        have h:(!ltInt (G j) (G (j - 1)))=true:=by assumption
                                        simpa using h
                                       go_roundw
                                       case rel=>
                                        refine⟨k,s+1,_,du,rfl,by go_num,by omega,by omega,by omega,hsu,(by first | rfl | exact HW.out | (rw [HW.out];exact putRow_drewN _ _ _ _ _ _ _)),?_⟩
                                        rw [<-HO.out,pi_go ltInt a b s i k dk hs HK.out (by omega) (by omega),HD.out,show fixUp ltInt b k dj=du from by unfold fixUp;rw [if_pos (by omega),<-HU.out,shiftUp_stop ltInt b j du (Or.inr (by rw [<-HG.out,<-HG.out];exact hl))]]
                                       case measure=>simp [intOf];omega))
                                | (at_end
                                   go_roundw
                                   case rel=>
                                    refine⟨k,s+1,_,du,rfl,by go_num,by omega,by omega,by omega,hsu,(by first | rfl | exact HW.out | (rw [HW.out];exact putRow_drewN _ _ _ _ _ _ _)),?_⟩
                                    rw [<-HO.out,pi_go ltInt a b s i k dk hs HK.out (by omega) (by omega),HD.out,show fixUp ltInt b k dj=du from by unfold fixUp;rw [if_pos (by omega),<-HU.out,shiftUp_stop ltInt b j du (Or.inl (by omega))]]
                                   case measure=>simp [intOf];omega))))
                   | (-- j<1
                      have HD:Hid (fixDown ltInt a k (swp dk k (k - 1))=dj):=by
                       show fixDown ltInt a k (swp dk k (k - 1))=dj
                       unfold fixDown;rw [if_pos hka,<-HDn.out,shiftDown_stop ltInt j dj (Or.inl (by omega))]
                      first
                       | (at_end
                          go_roundw
                          case rel=>
                           refine⟨k,s+1,_,dj,rfl,by go_num,by omega,by omega,by omega,hsj,(by first | rfl | exact HW.out | (rw [HW.out];exact putRow_drewN _ _ _ _ _ _ _)),?_⟩
                           rw [<-HO.out,pi_go ltInt a b s i k dk hs HK.out (by omega) (by omega),HD.out,show fixUp ltInt b k dj=dj from by unfold fixUp;rw [if_neg (by omega)]]
                          case measure=>simp [intOf];omega)
                       | (at_loop
                          go_loopw [10] (fun vj wr2=>∃(j m3:Nat) (du:Array Int),vj=.int .i64 j/\k+1<=j/\j<=b/\du.size=d.size/\wr2=putRow zg (Sort.ahead w m3) zc off du /\
                           shiftUp ltInt b j du=shiftUp ltInt b (k+1) dj) (fun vj _=>b - (intOf vj).toNat)
                          case atStart=>exact⟨k+1,_,dj,by go_num,Nat.le_refl _,by omega,hsj,(by first | rfl | exact HW.out | (rw [HW.out];exact putRow_drewN _ _ _ _ _ _ _)),rfl⟩
                          case round=>
                           obtain⟨j,m3,du,rfl,hkj,hjb,hsu,hw3,hU⟩:=hrel
                           obtain⟨G,hG⟩:∃ G:Nat->Int,∀ t,G t=du[t]!:=⟨fun t=>du[t]!,fun _=>rfl⟩
                           have hcw:∀ t,t<d.size->wr.cell? ⟨zc,off+t,none⟩=some (.int .u64 (G t)):=fun t ht=>by
                            rw [hw3,hG];exact cell?_putRow _ _ _ _ d du (holds_ahead _ _ _ _ _ _ HH.out) hsu t (by omega)
                           have hfw:∀ t,t<d.size->wr.frozen? ⟨zc,off+t,none⟩=false:=fun t ht=>by
                            rw [hw3,frozen?_putRow];exact((holds_ahead _ _ m3 _ _ _ HH.out) t ht).2
                           have HW:Hid (wr=putRow zg (Sort.ahead w m3) zc off du):=hw3
                           have HG:Hid (∀ t,G t=du[t]!):=hG
                           have HU:Hid (shiftUp ltInt b j du=shiftUp ltInt b (k+1) dj):=hU
                           clear hw3 hG hU
                           go_wp2
                           all_goals first
                            | (at_region 22
                               go_quiet (first | (go_at_call 207;refine Calls.quiet_of_same (so_cmp_Less_int _ _ _)))
                               go_wp2
                               all_goals first
                                | (at_region 23
                                   have hl:ltInt (G j) (G (j - 1))=true:=by
                                    have h:(!ltInt (G j) (G (j - 1)))=false:=by assumption
                                    simpa using h
                                   go_region
                                   all_goals go_wp2
                                   go_roundw
                                   case rel=>
                                    refine⟨j+1,m3+(nq+1),swp du j (j - 1),by go_num,by omega,by omega,by rw [size_swp];exact hsu,?_,?_⟩
                                    ·rw [HW.out,HG.out,HG.out]
                                     exact swap_worldA _ w m3 (nq+1) zc off du j (j - 1) (by omega) (by omega)
                                    ·rw [<-HU.out,shiftUp_go ltInt b j du (by omega) (by rw [<-HG.out,<-HG.out];exact hl)]
                                   case measure=>simp [intOf];omega)
                                | (at_end
                                   have hl:ltInt (G j) (G (j - 1))=false:=by
                                    have h:(!ltInt (G j) (G (j - 1)))=true:=by assumption
                                    simpa using h
                                   go_roundw
                                   case rel=>
                                    refine⟨k,s+1,_,du,rfl,by go_num,by omega,by omega,by omega,hsu,(by first | rfl | exact HW.out | (rw [HW.out];exact putRow_drewN _ _ _ _ _ _ _)),?_⟩
                                    rw [<-HO.out,pi_go ltInt a b s i k dk hs HK.out (by omega) (by omega),HD.out,show fixUp ltInt b k dj=du from by unfold fixUp;rw [if_pos (by omega),<-HU.out,shiftUp_stop ltInt b j du (Or.inr (by rw [<-HG.out,<-HG.out];exact hl))]]
                                   case measure=>simp [intOf];omega))
                            | (at_end
                               go_roundw
                               case rel=>
                                refine⟨k,s+1,_,du,rfl,by go_num,by omega,by omega,by omega,hsu,(by first | rfl | exact HW.out | (rw [HW.out];exact putRow_drewN _ _ _ _ _ _ _)),?_⟩
                                rw [<-HO.out,pi_go ltInt a b s i k dk hs HK.out (by omega) (by omega),HD.out,show fixUp ltInt b k dj=du from by unfold fixUp;rw [if_pos (by omega),<-HU.out,shiftUp_stop ltInt b j du (Or.inl (by omega))]]
                               case measure=>simp [intOf];omega))))
              | (-- i - a<2
                 have HD:Hid (fixDown ltInt a k (swp dk k (k - 1))=(swp dk k (k - 1))):=by
                  show fixDown ltInt a k (swp dk k (k - 1))=(swp dk k (k - 1))
                  unfold fixDown;rw [if_neg (by omega)]
                 first
                  | (at_end
                     go_roundw
                     case rel=>
                      refine⟨k,s+1,_,(swp dk k (k - 1)),rfl,by go_num,by omega,by omega,by omega,hs1,(by first | rfl | exact HW.out | (rw [HW.out];exact putRow_drewN _ _ _ _ _ _ _)),?_⟩
                      rw [<-HO.out,pi_go ltInt a b s i k dk hs HK.out (by omega) (by omega),HD.out,show fixUp ltInt b k (swp dk k (k - 1))=(swp dk k (k - 1)) from by unfold fixUp;rw [if_neg (by omega)]]
                     case measure=>simp [intOf];omega)
                  | (at_loop
                     go_loopw [10] (fun vj wr2=>∃(j m3:Nat) (du:Array Int),vj=.int .i64 j/\k+1<=j/\j<=b/\du.size=d.size/\wr2=putRow zg (Sort.ahead w m3) zc off du /\
                      shiftUp ltInt b j du=shiftUp ltInt b (k+1) (swp dk k (k - 1))) (fun vj _=>b - (intOf vj).toNat)
                     case atStart=>exact⟨k+1,_,(swp dk k (k - 1)),by go_num,Nat.le_refl _,by omega,hs1,(by first | rfl | exact HW.out | (rw [HW.out];exact putRow_drewN _ _ _ _ _ _ _)),rfl⟩
                     case round=>
                      obtain⟨j,m3,du,rfl,hkj,hjb,hsu,hw3,hU⟩:=hrel
                      obtain⟨G,hG⟩:∃ G:Nat->Int,∀ t,G t=du[t]!:=⟨fun t=>du[t]!,fun _=>rfl⟩
                      have hcw:∀ t,t<d.size->wr.cell? ⟨zc,off+t,none⟩=some (.int .u64 (G t)):=fun t ht=>by
                       rw [hw3,hG];exact cell?_putRow _ _ _ _ d du (holds_ahead _ _ _ _ _ _ HH.out) hsu t (by omega)
                      have hfw:∀ t,t<d.size->wr.frozen? ⟨zc,off+t,none⟩=false:=fun t ht=>by
                       rw [hw3,frozen?_putRow];exact((holds_ahead _ _ m3 _ _ _ HH.out) t ht).2
                      have HW:Hid (wr=putRow zg (Sort.ahead w m3) zc off du):=hw3
                      have HG:Hid (∀ t,G t=du[t]!):=hG
                      have HU:Hid (shiftUp ltInt b j du=shiftUp ltInt b (k+1) (swp dk k (k - 1))):=hU
                      clear hw3 hG hU
                      go_wp2
                      all_goals first
                       | (at_region 22
                          go_quiet (first | (go_at_call 207;refine Calls.quiet_of_same (so_cmp_Less_int _ _ _)))
                          go_wp2
                          all_goals first
                           | (at_region 23
                              have hl:ltInt (G j) (G (j - 1))=true:=by
                               have h:(!ltInt (G j) (G (j - 1)))=false:=by assumption
                               simpa using h
                              go_region
                              all_goals go_wp2
                              go_roundw
                              case rel=>
                               refine⟨j+1,m3+(nq+1),swp du j (j - 1),by go_num,by omega,by omega,by rw [size_swp];exact hsu,?_,?_⟩
                               ·rw [HW.out,HG.out,HG.out]
                                exact swap_worldA _ w m3 (nq+1) zc off du j (j - 1) (by omega) (by omega)
                               ·rw [<-HU.out,shiftUp_go ltInt b j du (by omega) (by rw [<-HG.out,<-HG.out];exact hl)]
                              case measure=>simp [intOf];omega)
                           | (at_end
                              have hl:ltInt (G j) (G (j - 1))=false:=by
                               have h:(!ltInt (G j) (G (j - 1)))=true:=by assumption
                               simpa using h
                              go_roundw
                              case rel=>
                               refine⟨k,s+1,_,du,rfl,by go_num,by omega,by omega,by omega,hsu,(by first | rfl | exact HW.out | (rw [HW.out];exact putRow_drewN _ _ _ _ _ _ _)),?_⟩
                               rw [<-HO.out,pi_go ltInt a b s i k dk hs HK.out (by omega) (by omega),HD.out,show fixUp ltInt b k (swp dk k (k - 1))=du from by unfold fixUp;rw [if_pos (by omega),<-HU.out,shiftUp_stop ltInt b j du (Or.inr (by rw [<-HG.out,<-HG.out];exact hl))]]
                              case measure=>simp [intOf];omega))
                       | (at_end
                          go_roundw
                          case rel=>
                           refine⟨k,s+1,_,du,rfl,by go_num,by omega,by omega,by omega,hsu,(by first | rfl | exact HW.out | (rw [HW.out];exact putRow_drewN _ _ _ _ _ _ _)),?_⟩
                           rw [<-HO.out,pi_go ltInt a b s i k dk hs HK.out (by omega) (by omega),HD.out,show fixUp ltInt b k (swp dk k (k - 1))=du from by unfold fixUp;rw [if_pos (by omega),<-HU.out,shiftUp_stop ltInt b j du (Or.inl (by omega))]]
                          case measure=>simp [intOf];omega)))))
    ·
     go_quiet (first | (go_at_call 207;refine Calls.quiet_of_same (so_cmp_Less_int _ _ _)))
     go_wp2
     obtain rfl:k=b:=by omega
     have hv:Sort.partialInsertionSort ltInt d a k=(dk,true):=by
      unfold Sort.partialInsertionSort
      rw [<-HO.out,pi_true ltInt a k s i dk hs (by rw [<-HS.out,scanSorted_stop ltInt dk k k (Or.inl (by omega))])]
     rw [hv]
     go_ret
     exact⟨rfl,m+nq,by rw [HW.out];exact putRow_drewN _ _ _ _ _ _ _⟩
  ·
   obtain rfl:s=5:=by omega
   have hv:Sort.partialInsertionSort ltInt d a b=(dk,false):=by
    unfold Sort.partialInsertionSort
    rw [<-HO.out,pi_end]
   rw [hv]
   go_ret
   exact⟨rfl,n,rfl⟩
set_option maxRecDepth 100000 in
theorem vg (zc off cap a b pivot:Nat) (d:Array Int) (w:World) (hH:Holds zg w zc off d) (hap:a<=pivot) (hpb:pivot<b) (hb:b<=d.size) (hsz:d.size<4611686018427387904) :
 Calls Tryz.prog 224 #[.slice (some ⟨zc,off,none⟩) d.size cap,.int .i64 a,.int .i64 b,.int .i64 pivot] w fun e w'=>
  e=.returned (.int .i64 (Sort.partitionEqual Sort.ltInt d a b pivot).1)/\∃ n,w'=(putRow zg w zc off (Sort.partitionEqual Sort.ltInt d a b pivot).2).drewN n:=by
 have hla:a<d.size:=by omega
 have hlp:pivot<d.size:=by omega
 obtain⟨G,hG⟩:∃ G:Nat->Int,∀ j,G j=d[j]!:=⟨fun j=>d[j]!,fun _=>rfl⟩
 have ca:w.cell? ⟨zc,off+a,none⟩=some (.int .u64 (G a)):=by rw [hG];exact(hH a hla).1
 have fa:=(hH a hla).2
 have cp:w.cell? ⟨zc,off+pivot,none⟩=some (.int .u64 (G pivot)):=by rw [hG];exact(hH pivot hlp).1
 have fp:=(hH pivot hlp).2
 obtain⟨v',hy'⟩:=cell?_setCell_some (w:=w) (p:=⟨zc,off+a,none⟩) (x:=.int .u64 (G pivot)) (q:=⟨zc,off+pivot,none⟩) cp
 have AG:Hid (∀ j,G j=d[j]!):=hG
 have AH:Hid (Holds zg w zc off d):=hH
 clear hG hH
 go_enter Tryz.func224,Tryz.ntmps224
 go_wp2
 go_region
 go_wp2
 go_loopw [9,10] (fun vi vj wr=>∃(i j n:Nat) (dk:Array Int),vi=.int .i64 i/\vj=.int .i64 j/\a<i/\i<=j+1/\j<b/\dk.size=d.size/\wr=(putRow zg w zc off dk).drewN n /\
  Sort.partEqLoop Sort.ltInt a i j dk=Sort.partEqLoop Sort.ltInt a (a+1) (b - 1) (Sort.swp d a pivot))
  (fun vi vj _=>(intOf vj).toNat+1 - (intOf vi).toNat)
 case atStart=>
  refine⟨a+1,b - 1,1,Sort.swp d a pivot,by go_num,by go_num,by omega,by omega,by omega,size_swp _ _ _,?_,rfl⟩
  have e:=swap_worldC zg w zc off d 0 a pivot hla hlp
  rw [putRow_self _ w zc off d AH.out] at e
  rw [AG.out a,AG.out pivot]
  exact e
 case round=>
  obtain⟨i,j,n,dk,rfl,rfl,hai,hij,hjb,hs,hw,heq⟩:=hrel
  clear ca fa cp fp hy' v' AG
  rename World=>W1
  have hHk:Holds zg W1 zc off dk:=by
   rw [hw]
   exact holds_putRow zg w zc off d dk AH.out hs
  obtain⟨Gk,hG⟩:∃ Gk:Nat->Int,∀ t,Gk t=dk[t]!:=⟨fun t=>dk[t]!,fun _=>rfl⟩
  have hc:∀ t,t<d.size->W1.cell? ⟨zc,off+t,none⟩=some (.int .u64 (Gk t)):=fun t ht=>by rw [hG];exact(hHk t (by omega)).1
  have hf:∀ t,t<d.size->W1.frozen? ⟨zc,off+t,none⟩=false:=fun t ht=>(hHk t (by omega)).2
  have AG:Hid (∀ t,Gk t=dk[t]!):=hG
  have AW:Hid (W1=(putRow zg w zc off dk).drewN n):=hw
  have AE:Hid (Sort.partEqLoop Sort.ltInt a i j dk=Sort.partEqLoop Sort.ltInt a (a+1) (b - 1) (Sort.swp d a pivot)):=heq
  clear hG hw heq hHk
  go_wp2
  go_loopw [9] (fun vi w1=>∃(i' n1:Nat),vi=.int .i64 i'/\i<=i'/\i'<=j+1/\w1=W1.drewN n1 /\
   Hid (Sort.scanUp (fun x=>!Sort.ltInt dk[a]! x) dk j i'=Sort.scanUp (fun x=>!Sort.ltInt dk[a]! x) dk j i))
   (fun vi _=>j+1 - (intOf vi).toNat)
  case atStart=>exact⟨i,0,rfl,Nat.le_refl _,hij,rfl,rfl⟩
  case round=>
   obtain⟨i',n1,rfl,hii,hij',hw1,hsc⟩:=hrel
   have hcw:∀ t,t<d.size->wr.cell? ⟨zc,off+t,none⟩=some (.int .u64 (Gk t)):=fun t ht=>by rw [hw1];exact hc t ht
   have HW1:Hid (wr=W1.drewN n1):=hw1
   clear hw1
   by_cases hle:i'<=j
   ·go_wp2_with fail
    go_big_quiet (first | (go_at_call 207;refine Calls.quiet_of_same (so_cmp_Less_int _ _ _)))
    go_wp2
    ·
     have ht:(!Sort.ltInt (Gk a) (Gk i'))=true:=by assumption
     go_roundw
     case rel=>exact⟨i'+1,n1+nq,by go_num,by omega,by omega,by rw [HW1.out,World.drewN_drewN],(scanUp_go (fun x=>!Sort.ltInt dk[a]! x) dk j i' hle (by rw [<-AG.out a,<-AG.out i'];exact ht)).symm.trans hsc.out⟩
     case measure=>simp [intOf];omega
    ·
     have ht:(!Sort.ltInt (Gk a) (Gk i'))=false:=by assumption
     have hi2:Hid (i'=Sort.scanUp (fun x=>!Sort.ltInt dk[a]! x) dk j i):=(scanUp_end (fun x=>!Sort.ltInt dk[a]! x) dk j i' (Or.inr (by rw [<-AG.out a,<-AG.out i'];exact ht))).symm.trans hsc.out
     clear ht
     have hw2:wr.drewN nq=W1.drewN (n1+nq):=by rw [HW1.out,World.drewN_drewN]
     clear hcw HW1 hsc
     go_loopw [10] (fun vj w2=>∃(j' n2:Nat),vj=.int .i64 j'/\j'<=j/\i'<=j'+1/\w2=W1.drewN n2 /\
      Hid (Sort.scanDown (fun x=>Sort.ltInt dk[a]! x) dk i' j'=Sort.scanDown (fun x=>Sort.ltInt dk[a]! x) dk i' j))
      (fun vj _=>(intOf vj).toNat)
     case atStart=>exact⟨j,n1+nq,rfl,Nat.le_refl _,hij',hw2,rfl⟩
     case round=>
      clear hw2
      obtain⟨j',n2,rfl,hjj,hij2,hw2,hsd⟩:=hrel
      have hcw:∀ t,t<d.size->wr.cell? ⟨zc,off+t,none⟩=some (.int .u64 (Gk t)):=fun t ht=>by rw [hw2];exact hc t ht
      have HW2:Hid (wr=W1.drewN n2):=hw2
      clear hw2
      by_cases hle2:i'<=j'
      ·go_wp2_with fail
       go_big_quiet (first | (go_at_call 207;refine Calls.quiet_of_same (so_cmp_Less_int _ _ _)))
       go_wp2
       ·
        have ht:Sort.ltInt (Gk a) (Gk j')=true:=by assumption
        go_roundw
        case rel=>exact⟨j' - 1,n2+nq,by go_num,by omega,by omega,by rw [HW2.out,World.drewN_drewN],(scanDown_go (fun x=>Sort.ltInt dk[a]! x) dk i' j' hle2 (by omega) (by rw [<-AG.out a,<-AG.out j'];exact ht)).symm.trans hsd.out⟩
        case measure=>simp [intOf];omega
       ·
        have ht:Sort.ltInt (Gk a) (Gk j')=false:=by assumption
        have hj2:Hid (j'=Sort.scanDown (fun x=>Sort.ltInt dk[a]! x) dk i' j):=(scanDown_end (fun x=>Sort.ltInt dk[a]! x) dk i' j' (Or.inr (by rw [<-AG.out a,<-AG.out j'];exact ht))).symm.trans hsd.out
        clear hcw hsd ht
        have hw3:wr.drewN nq=W1.drewN (n2+nq):=by rw [HW2.out,World.drewN_drewN]
        generalize wr.drewN nq=W3 at hw3 ⊢
        have hc3:∀ t,t<d.size->W3.cell? ⟨zc,off+t,none⟩=some (.int .u64 (Gk t)):=fun t ht=>by rw [hw3];exact hc t ht
        have hf3:∀ t,t<d.size->W3.frozen? ⟨zc,off+t,none⟩=false:=fun t ht=>by rw [hw3];exact hf t ht
        have HW3:Hid (W3=W1.drewN (n2+nq)):=hw3
        clear hw3
        obtain⟨v3,hy3⟩:=cell?_setCell_some (w:=W3) (p:=⟨zc,off+i',none⟩) (x:=.int .u64 (Gk j')) (q:=⟨zc,off+j',none⟩) (hc3 j' (by omega))
        have hlt3:=scans_lt Sort.ltInt a i j dk (by omega) hi2.out hj2.out hle2
        go_wp2
        go_region
        all_goals go_wp2
        all_goals go_roundw
        case rel=>
         refine⟨i'+1,j' - 1,n+(n2+nq)+1,Sort.swp dk i' j',by go_num,by go_num,by omega,by omega,by omega,by rw [size_swp];exact hs,?_,?_⟩
         ·rw [HW3.out,AW.out,World.drewN_drewN,AG.out i',AG.out j']
          exact swap_worldC zg w zc off dk _ i' j' (by omega) (by omega)
         ·rw [<-AE.out];exact(partEq_go Sort.ltInt a i j dk hi2.out hj2.out (by omega)).symm
        case measure=>simp [intOf];omega
      ·go_wp2_with fail
       go_big_quiet (first | (go_at_call 207;refine Calls.quiet_of_same (so_cmp_Less_int _ _ _)))
       have hj2:Hid (j'=Sort.scanDown (fun x=>Sort.ltInt dk[a]! x) dk i' j):=(scanDown_end (fun x=>Sort.ltInt dk[a]! x) dk i' j' (Or.inl hle2)).symm.trans hsd.out
       clear hcw hsd
       have hw3:wr.drewN nq=W1.drewN (n2+nq):=by rw [HW2.out,World.drewN_drewN]
       generalize wr.drewN nq=W3 at hw3 ⊢
       have hc3:∀ t,t<d.size->W3.cell? ⟨zc,off+t,none⟩=some (.int .u64 (Gk t)):=fun t ht=>by rw [hw3];exact hc t ht
       have hf3:∀ t,t<d.size->W3.frozen? ⟨zc,off+t,none⟩=false:=fun t ht=>by rw [hw3];exact hf t ht
       have HW3:Hid (W3=W1.drewN (n2+nq)):=hw3
       clear hw3
       go_wp2
       go_ret
       have e:=partEq_break Sort.ltInt a i j dk hi2.out hj2.out (by omega)
       refine⟨?_,n+(n2+nq),?_⟩
       ·unfold Sort.partitionEqual;rw [<-AE.out,e];rfl
       ·unfold Sort.partitionEqual;rw [<-AE.out,e,HW3.out,AW.out,World.drewN_drewN]
   ·go_wp2_with fail
    go_big_quiet (first | (go_at_call 207;refine Calls.quiet_of_same (so_cmp_Less_int _ _ _)))
    go_wp2
    have hi2:Hid (i'=Sort.scanUp (fun x=>!Sort.ltInt dk[a]! x) dk j i):=(scanUp_end (fun x=>!Sort.ltInt dk[a]! x) dk j i' (Or.inl hle)).symm.trans hsc.out
    have hw2:wr.drewN nq=W1.drewN (n1+nq):=by rw [HW1.out,World.drewN_drewN]
    clear hcw HW1 hsc
    go_loopw [10] (fun vj w2=>∃(j' n2:Nat),vj=.int .i64 j'/\j'<=j/\i'<=j'+1/\w2=W1.drewN n2 /\
     Hid (Sort.scanDown (fun x=>Sort.ltInt dk[a]! x) dk i' j'=Sort.scanDown (fun x=>Sort.ltInt dk[a]! x) dk i' j))
     (fun vj _=>(intOf vj).toNat)
    case atStart=>exact⟨j,n1+nq,rfl,Nat.le_refl _,hij',hw2,rfl⟩
    case round=>
     clear hw2
     obtain⟨j',n2,rfl,hjj,hij2,hw2,hsd⟩:=hrel
     have hcw:∀ t,t<d.size->wr.cell? ⟨zc,off+t,none⟩=some (.int .u64 (Gk t)):=fun t ht=>by rw [hw2];exact hc t ht
     have HW2:Hid (wr=W1.drewN n2):=hw2
     clear hw2
     by_cases hle2:i'<=j'
     ·exfalso;omega
     ·go_wp2_with fail
      go_big_quiet (first | (go_at_call 207;refine Calls.quiet_of_same (so_cmp_Less_int _ _ _)))
      have hj2:Hid (j'=Sort.scanDown (fun x=>Sort.ltInt dk[a]! x) dk i' j):=(scanDown_end (fun x=>Sort.ltInt dk[a]! x) dk i' j' (Or.inl hle2)).symm.trans hsd.out
      clear hcw hsd
      have hw3:wr.drewN nq=W1.drewN (n2+nq):=by rw [HW2.out,World.drewN_drewN]
      generalize wr.drewN nq=W3 at hw3 ⊢
      have hc3:∀ t,t<d.size->W3.cell? ⟨zc,off+t,none⟩=some (.int .u64 (Gk t)):=fun t ht=>by rw [hw3];exact hc t ht
      have hf3:∀ t,t<d.size->W3.frozen? ⟨zc,off+t,none⟩=false:=fun t ht=>by rw [hw3];exact hf t ht
      have HW3:Hid (W3=W1.drewN (n2+nq)):=hw3
      clear hw3
      go_wp2
      go_ret
      have e:=partEq_break Sort.ltInt a i j dk hi2.out hj2.out (by omega)
      refine⟨?_,n+(n2+nq),?_⟩
      ·unfold Sort.partitionEqual;rw [<-AE.out,e];rfl
      ·unfold Sort.partitionEqual;rw [<-AE.out,e,HW3.out,AW.out,World.drewN_drewN]
theorem yz (zc off cap a b pivot:Nat) (d:Array Int) (w:World) (hH:Holds zg w zc off d) (hap:a<=pivot) (hpb:pivot<b) (hb:b<=d.size) (hsz:d.size<4611686018427387904) :
 Calls Tryz.prog 224 #[.slice (some ⟨zc,off,none⟩) d.size cap,.int .i64 a,.int .i64 b,.int .i64 pivot] w fun e w'=>
  e=.returned (.int .i64 (Sort.partitionEqual Sort.ltInt d a b pivot).1)/\∃ n,w'=putRow zg (Sort.ahead w n) zc off (Sort.partitionEqual Sort.ltInt d a b pivot).2:=
 (vg zc off cap a b pivot d w hH hap hpb hb hsz).mono fun _ _ ⟨he,n,hw⟩=>⟨he,n,hw⟩
set_option maxRecDepth 100000 in
theorem Zc (zc off cap a b pivot:Nat) (d:Array Int) (w:World) (hH:Holds zg w zc off d) (hap:a<=pivot) (hpb:pivot<b) (hb:b<=d.size) (hsz:d.size<4611686018427387904) :
 Calls Tryz.prog 225 #[.slice (some ⟨zc,off,none⟩) d.size cap,.int .i64 a,.int .i64 b,.int .i64 pivot] w fun e w'=>
  e=.returned (.tuple #[.int .i64 (Sort.partition Sort.ltInt d a b pivot).1,.bool (Sort.partition Sort.ltInt d a b pivot).2.1])/\∃ n,w'=(putRow zg w zc off (Sort.partition Sort.ltInt d a b pivot).2.2).drewN n:=by
 have hla:a<d.size:=by omega
 have hlp:pivot<d.size:=by omega
 obtain⟨G,hG⟩:∃ G:Nat->Int,∀ j,G j=d[j]!:=⟨fun j=>d[j]!,fun _=>rfl⟩
 have ca:w.cell? ⟨zc,off+a,none⟩=some (.int .u64 (G a)):=by rw [hG];exact(hH a hla).1
 have fa:=(hH a hla).2
 have cp:w.cell? ⟨zc,off+pivot,none⟩=some (.int .u64 (G pivot)):=by rw [hG];exact(hH pivot hlp).1
 have fp:=(hH pivot hlp).2
 obtain⟨v',hy'⟩:=cell?_setCell_some (w:=w) (p:=⟨zc,off+a,none⟩) (x:=.int .u64 (G pivot)) (q:=⟨zc,off+pivot,none⟩) cp
 have hw:((w.setCell ⟨zc,off+a,none⟩ (.int .u64 (G pivot))).setCell ⟨zc,off+pivot,none⟩ (.int .u64 (G a))).drew=(putRow zg w zc off (Sort.swp d a pivot)).drewN 1:=by
  have e:=swap_worldC zg w zc off d 0 a pivot hla hlp
  rw [putRow_self _ w zc off d hH] at e
  rw [hG a,hG pivot]
  exact e
 have AH:Hid (Holds zg w zc off d):=hH
 have HW0:=Hid.mk' hw
 clear hG hH hw
 go_enter Tryz.func225,Tryz.ntmps225
 go_wp2
 go_region
 go_wp2
 clear ca fa cp fp hy' v'
 have hw:=HW0.out
 clear HW0
 generalize ((w.setCell ⟨zc,off+a,none⟩ (.int .u64 (G pivot))).setCell ⟨zc,off+pivot,none⟩ (.int .u64 (G a))).drew=W1 at hw ⊢
 obtain⟨dk,hdk⟩:∃ dk,dk=Sort.swp d a pivot:=⟨_,rfl⟩
 obtain⟨n,hn⟩:∃ n:Nat,n=1:=⟨_,rfl⟩
 rw [<-hdk,<-hn] at hw
 clear hn
 have hs:dk.size=d.size:=by rw [hdk,size_swp]
 have e1:((a:Int)+1)=((a+1:Nat):Int):=by omega
 have e2:((b:Int) - 1)=((b - 1:Nat):Int):=by omega
 rw [e1,e2]
 clear e1 e2
 obtain⟨i,hi⟩:∃ i,i=a+1:=⟨_,rfl⟩
 obtain⟨j,hj⟩:∃ j,j=b - 1:=⟨_,rfl⟩
 rw [<-hi,<-hj]
 have hai:a<i:=by omega
 have hij:i<=j+1:=by omega
 have hjb:j<b:=by omega
 have HI:=Hid.mk' hi
 have HJ:=Hid.mk' hj
 have HDK:=Hid.mk' hdk
 clear hi hj hdk
 have hHk:Holds zg W1 zc off dk:=by
  rw [hw]
  exact holds_putRow zg w zc off d dk AH.out hs
 obtain⟨Gk,hG⟩:∃ Gk:Nat->Int,∀ t,Gk t=dk[t]!:=⟨fun t=>dk[t]!,fun _=>rfl⟩
 have hc:∀ t,t<d.size->W1.cell? ⟨zc,off+t,none⟩=some (.int .u64 (Gk t)):=fun t ht=>by rw [hG];exact(hHk t (by omega)).1
 have hf:∀ t,t<d.size->W1.frozen? ⟨zc,off+t,none⟩=false:=fun t ht=>(hHk t (by omega)).2
 have AG:Hid (∀ t,Gk t=dk[t]!):=hG
 have AW:Hid (W1=(putRow zg w zc off dk).drewN n):=hw
 clear hG hw hHk
 go_loopw [10] (fun vi w1=>∃(i' n1:Nat),vi=.int .i64 i'/\i<=i'/\i'<=j+1/\w1=W1.drewN n1 /\
  Hid (Sort.scanUp (fun x=>Sort.ltInt x dk[a]!) dk j i'=Sort.scanUp (fun x=>Sort.ltInt x dk[a]!) dk j i))
  (fun vi _=>j+1 - (intOf vi).toNat)
 case atStart=>exact⟨i,0,rfl,Nat.le_refl _,hij,rfl,rfl⟩
 case round=>
  obtain⟨i',n1,rfl,hii,hij',hw1,hsc⟩:=hrel
  have hcw:∀ t,t<d.size->wr.cell? ⟨zc,off+t,none⟩=some (.int .u64 (Gk t)):=fun t ht=>by rw [hw1];exact hc t ht
  have HW1:Hid (wr=W1.drewN n1):=hw1
  clear hw1
  by_cases hle:i'<=j
  ·go_wp2_with fail
   go_big_quiet (first | (go_at_call 207;refine Calls.quiet_of_same (so_cmp_Less_int _ _ _)))
   go_wp2
   ·
    have ht:Sort.ltInt (Gk i') (Gk a)=true:=by assumption
    go_roundw
    case rel=>exact⟨i'+1,n1+nq,by go_num,by omega,by omega,by rw [HW1.out,World.drewN_drewN],(scanUp_go (fun x=>Sort.ltInt x dk[a]!) dk j i' hle (by rw [<-AG.out a,<-AG.out i'];exact ht)).symm.trans hsc.out⟩
    case measure=>simp [intOf];omega
   ·
    have ht:Sort.ltInt (Gk i') (Gk a)=false:=by assumption
    have hi2:Hid (i'=Sort.scanUp (fun x=>Sort.ltInt x dk[a]!) dk j i):=(scanUp_end (fun x=>Sort.ltInt x dk[a]!) dk j i' (Or.inr (by rw [<-AG.out a,<-AG.out i'];exact ht))).symm.trans hsc.out
    clear ht
    have hw2:wr.drewN nq=W1.drewN (n1+nq):=by rw [HW1.out,World.drewN_drewN]
    clear hcw HW1 hsc
    go_loopw [11] (fun vj w2=>∃(j' n2:Nat),vj=.int .i64 j'/\j'<=j/\i'<=j'+1/\w2=W1.drewN n2 /\
     Hid (Sort.scanDown (fun x=>!Sort.ltInt x dk[a]!) dk i' j'=Sort.scanDown (fun x=>!Sort.ltInt x dk[a]!) dk i' j))
     (fun vj _=>(intOf vj).toNat)
    case atStart=>exact⟨j,n1+nq,rfl,Nat.le_refl _,hij',hw2,rfl⟩
    case round=>
     clear hw2
     obtain⟨j',n2,rfl,hjj,hij2,hw2,hsd⟩:=hrel
     have hcw:∀ t,t<d.size->wr.cell? ⟨zc,off+t,none⟩=some (.int .u64 (Gk t)):=fun t ht=>by rw [hw2];exact hc t ht
     have HW2:Hid (wr=W1.drewN n2):=hw2
     clear hw2
     by_cases hle2:i'<=j'
     ·go_wp2_with fail
      go_big_quiet (first | (go_at_call 207;refine Calls.quiet_of_same (so_cmp_Less_int _ _ _)))
      go_wp2
      ·
       have ht:(!Sort.ltInt (Gk j') (Gk a))=true:=by assumption
       go_roundw
       case rel=>exact⟨j' - 1,n2+nq,by go_num,by omega,by omega,by rw [HW2.out,World.drewN_drewN],(scanDown_go (fun x=>!Sort.ltInt x dk[a]!) dk i' j' hle2 (by omega) (by rw [<-AG.out a,<-AG.out j'];exact ht)).symm.trans hsd.out⟩
       case measure=>simp [intOf];omega
      ·
       have ht:(!Sort.ltInt (Gk j') (Gk a))=false:=by assumption
       have hj2:Hid (j'=Sort.scanDown (fun x=>!Sort.ltInt x dk[a]!) dk i' j):=(scanDown_end (fun x=>!Sort.ltInt x dk[a]!) dk i' j' (Or.inr (by rw [<-AG.out a,<-AG.out j'];exact ht))).symm.trans hsd.out
       clear hcw hsd ht
       have hw3:wr.drewN nq=W1.drewN (n2+nq):=by rw [HW2.out,World.drewN_drewN]
       generalize wr.drewN nq=W3 at hw3 ⊢
       have hc3:∀ t,t<d.size->W3.cell? ⟨zc,off+t,none⟩=some (.int .u64 (Gk t)):=fun t ht=>by rw [hw3];exact hc t ht
       have hf3:∀ t,t<d.size->W3.frozen? ⟨zc,off+t,none⟩=false:=fun t ht=>by rw [hw3];exact hf t ht
       have HW3:Hid (W3=W1.drewN (n2+nq)):=hw3
       clear hw3
       obtain⟨v3,hy3⟩:=cell?_setCell_some (w:=W3) (p:=⟨zc,off+i',none⟩) (x:=.int .u64 (Gk j')) (q:=⟨zc,off+j',none⟩) (hc3 j' (by omega))
       have hlt3:=part_scans_lt Sort.ltInt a i j dk (by omega) hi2.out hj2.out hle2
       go_wp2
       go_region
       all_goals go_wp2
       obtain⟨R,hR⟩:∃ R,R=Sort.partLoop Sort.ltInt a (i'+1) (j' - 1) (Sort.swp dk i' j'):=⟨_,rfl⟩
       have HP:Hid (Sort.partition Sort.ltInt d a b pivot=(R.1,false,Sort.swp R.2 R.1 a)):=by rw [hR];exact part_first_go Sort.ltInt d a b pivot HI.out HJ.out HDK.out hi2.out hj2.out (by omega)
       have hw0:((W3.setCell ⟨zc,off+i',none⟩ (.int .u64 (Gk j'))).setCell ⟨zc,off+j',none⟩ (.int .u64 (Gk i'))).drew=(putRow zg w zc off (Sort.swp dk i' j')).drewN (n+(n2+nq)+1):=by
        rw [HW3.out,AW.out,World.drewN_drewN,AG.out i',AG.out j']
        exact swap_worldC zg w zc off dk _ i' j' (by omega) (by omega)
       have HR:Hid (R=Sort.partLoop Sort.ltInt a (i'+1) (j' - 1) (Sort.swp dk i' j')):=hR
       clear hR hc hf hc3 hf3 hy3 HW3 AW AG hi2 hj2
       go_loopw [10,11] (fun vi vj wr=>∃(i j n:Nat) (dk:Array Int),vi=.int .i64 i/\vj=.int .i64 j/\a<i/\i<=j+1/\j<b/\dk.size=d.size/\wr=(putRow zg w zc off dk).drewN n /\
        Sort.partLoop Sort.ltInt a i j dk=R)
        (fun vi vj _=>(intOf vj).toNat+1 - (intOf vi).toNat)
       case atStart=>exact⟨i'+1,j' - 1,_,Sort.swp dk i' j',by go_num,by go_num,by omega,by omega,by omega,by rw [size_swp];exact hs,hw0,HR.out.symm⟩
       case round=>
        clear hw0 HR
        obtain⟨i,j,n,dk,rfl,rfl,hai,hij,hjb,hs,hw,heq⟩:=hrel
        rename World=>W1
        have AE:Hid (Sort.partLoop Sort.ltInt a i j dk=R):=heq
        clear heq
        have hHk:Holds zg W1 zc off dk:=by
         rw [hw]
         exact holds_putRow zg w zc off d dk AH.out hs
        obtain⟨Gk,hG⟩:∃ Gk:Nat->Int,∀ t,Gk t=dk[t]!:=⟨fun t=>dk[t]!,fun _=>rfl⟩
        have hc:∀ t,t<d.size->W1.cell? ⟨zc,off+t,none⟩=some (.int .u64 (Gk t)):=fun t ht=>by rw [hG];exact(hHk t (by omega)).1
        have hf:∀ t,t<d.size->W1.frozen? ⟨zc,off+t,none⟩=false:=fun t ht=>(hHk t (by omega)).2
        have AG:Hid (∀ t,Gk t=dk[t]!):=hG
        have AW:Hid (W1=(putRow zg w zc off dk).drewN n):=hw
        clear hG hw hHk
        go_wp2
        go_loopw [10] (fun vi w1=>∃(i' n1:Nat),vi=.int .i64 i'/\i<=i'/\i'<=j+1/\w1=W1.drewN n1 /\
         Hid (Sort.scanUp (fun x=>Sort.ltInt x dk[a]!) dk j i'=Sort.scanUp (fun x=>Sort.ltInt x dk[a]!) dk j i))
         (fun vi _=>j+1 - (intOf vi).toNat)
        case atStart=>exact⟨i,0,rfl,Nat.le_refl _,hij,rfl,rfl⟩
        case round=>
         obtain⟨i',n1,rfl,hii,hij',hw1,hsc⟩:=hrel
         have hcw:∀ t,t<d.size->wr.cell? ⟨zc,off+t,none⟩=some (.int .u64 (Gk t)):=fun t ht=>by rw [hw1];exact hc t ht
         have HW1:Hid (wr=W1.drewN n1):=hw1
         clear hw1
         by_cases hle:i'<=j
         ·go_wp2_with fail
          go_big_quiet (first | (go_at_call 207;refine Calls.quiet_of_same (so_cmp_Less_int _ _ _)))
          go_wp2
          ·
           have ht:Sort.ltInt (Gk i') (Gk a)=true:=by assumption
           go_roundw
           case rel=>exact⟨i'+1,n1+nq,by go_num,by omega,by omega,by rw [HW1.out,World.drewN_drewN],(scanUp_go (fun x=>Sort.ltInt x dk[a]!) dk j i' hle (by rw [<-AG.out a,<-AG.out i'];exact ht)).symm.trans hsc.out⟩
           case measure=>simp [intOf];omega
          ·
           have ht:Sort.ltInt (Gk i') (Gk a)=false:=by assumption
           have hi2:Hid (i'=Sort.scanUp (fun x=>Sort.ltInt x dk[a]!) dk j i):=(scanUp_end (fun x=>Sort.ltInt x dk[a]!) dk j i' (Or.inr (by rw [<-AG.out a,<-AG.out i'];exact ht))).symm.trans hsc.out
           clear ht
           have hw2:wr.drewN nq=W1.drewN (n1+nq):=by rw [HW1.out,World.drewN_drewN]
           clear hcw HW1 hsc
           go_loopw [11] (fun vj w2=>∃(j' n2:Nat),vj=.int .i64 j'/\j'<=j/\i'<=j'+1/\w2=W1.drewN n2 /\
            Hid (Sort.scanDown (fun x=>!Sort.ltInt x dk[a]!) dk i' j'=Sort.scanDown (fun x=>!Sort.ltInt x dk[a]!) dk i' j))
            (fun vj _=>(intOf vj).toNat)
           case atStart=>exact⟨j,n1+nq,rfl,Nat.le_refl _,hij',hw2,rfl⟩
           case round=>
            clear hw2
            obtain⟨j',n2,rfl,hjj,hij2,hw2,hsd⟩:=hrel
            have hcw:∀ t,t<d.size->wr.cell? ⟨zc,off+t,none⟩=some (.int .u64 (Gk t)):=fun t ht=>by rw [hw2];exact hc t ht
            have HW2:Hid (wr=W1.drewN n2):=hw2
            clear hw2
            by_cases hle2:i'<=j'
            ·go_wp2_with fail
             go_big_quiet (first | (go_at_call 207;refine Calls.quiet_of_same (so_cmp_Less_int _ _ _)))
             go_wp2
             ·
              have ht:(!Sort.ltInt (Gk j') (Gk a))=true:=by assumption
              go_roundw
              case rel=>exact⟨j' - 1,n2+nq,by go_num,by omega,by omega,by rw [HW2.out,World.drewN_drewN],(scanDown_go (fun x=>!Sort.ltInt x dk[a]!) dk i' j' hle2 (by omega) (by rw [<-AG.out a,<-AG.out j'];exact ht)).symm.trans hsd.out⟩
              case measure=>simp [intOf];omega
             ·
              have ht:(!Sort.ltInt (Gk j') (Gk a))=false:=by assumption
              have hj2:Hid (j'=Sort.scanDown (fun x=>!Sort.ltInt x dk[a]!) dk i' j):=(scanDown_end (fun x=>!Sort.ltInt x dk[a]!) dk i' j' (Or.inr (by rw [<-AG.out a,<-AG.out j'];exact ht))).symm.trans hsd.out
              clear hcw hsd ht
              have hw3:wr.drewN nq=W1.drewN (n2+nq):=by rw [HW2.out,World.drewN_drewN]
              generalize wr.drewN nq=W3 at hw3 ⊢
              have hc3:∀ t,t<d.size->W3.cell? ⟨zc,off+t,none⟩=some (.int .u64 (Gk t)):=fun t ht=>by rw [hw3];exact hc t ht
              have hf3:∀ t,t<d.size->W3.frozen? ⟨zc,off+t,none⟩=false:=fun t ht=>by rw [hw3];exact hf t ht
              have HW3:Hid (W3=W1.drewN (n2+nq)):=hw3
              clear hw3
              obtain⟨v3,hy3⟩:=cell?_setCell_some (w:=W3) (p:=⟨zc,off+i',none⟩) (x:=.int .u64 (Gk j')) (q:=⟨zc,off+j',none⟩) (hc3 j' (by omega))
              have hlt3:=part_scans_lt Sort.ltInt a i j dk (by omega) hi2.out hj2.out hle2
              go_wp2
              go_region
              all_goals go_wp2
              all_goals go_roundw
              case rel=>
               refine⟨i'+1,j' - 1,n+(n2+nq)+1,Sort.swp dk i' j',by go_num,by go_num,by omega,by omega,by omega,by rw [size_swp];exact hs,?_,?_⟩
               ·rw [HW3.out,AW.out,World.drewN_drewN,AG.out i',AG.out j']
                exact swap_worldC zg w zc off dk _ i' j' (by omega) (by omega)
               ·exact(part_go Sort.ltInt a i j dk hi2.out hj2.out (by omega)).symm.trans AE.out
              case measure=>simp [intOf];omega
            ·go_wp2_with fail
             go_big_quiet (first | (go_at_call 207;refine Calls.quiet_of_same (so_cmp_Less_int _ _ _)))
             have hj2:Hid (j'=Sort.scanDown (fun x=>!Sort.ltInt x dk[a]!) dk i' j):=(scanDown_end (fun x=>!Sort.ltInt x dk[a]!) dk i' j' (Or.inl hle2)).symm.trans hsd.out
             clear hcw hsd
             have hw3:wr.drewN nq=W1.drewN (n2+nq):=by rw [HW2.out,World.drewN_drewN]
             generalize wr.drewN nq=W3 at hw3 ⊢
             have hc3:∀ t,t<d.size->W3.cell? ⟨zc,off+t,none⟩=some (.int .u64 (Gk t)):=fun t ht=>by rw [hw3];exact hc t ht
             have hf3:∀ t,t<d.size->W3.frozen? ⟨zc,off+t,none⟩=false:=fun t ht=>by rw [hw3];exact hf t ht
             have HW3:Hid (W3=W1.drewN (n2+nq)):=hw3
             clear hw3
             obtain⟨v3,hy3⟩:=cell?_setCell_some (w:=W3) (p:=⟨zc,off+j',none⟩) (x:=.int .u64 (Gk a)) (q:=⟨zc,off+a,none⟩) (hc3 a (by omega))
             have hlj:j'<d.size:=by omega
             go_wp2
             go_region
             all_goals go_wp2
             all_goals go_ret2
             have e:Sort.partition Sort.ltInt d a b pivot=(j',false,Sort.swp dk j' a):=by
              have e0:=(part_break Sort.ltInt a i j dk hi2.out hj2.out (by omega)).symm.trans AE.out
              rw [HP.out,<-e0]
             refine⟨?_,n+(n2+nq)+1,?_⟩
             ·rw [e];rfl
             ·rw [e,HW3.out,AW.out,World.drewN_drewN,AG.out a,AG.out j']
              exact swap_worldC zg w zc off dk _ j' a (by omega) (by omega)
         ·go_wp2_with fail
          go_big_quiet (first | (go_at_call 207;refine Calls.quiet_of_same (so_cmp_Less_int _ _ _)))
          go_wp2
          have hi2:Hid (i'=Sort.scanUp (fun x=>Sort.ltInt x dk[a]!) dk j i):=(scanUp_end (fun x=>Sort.ltInt x dk[a]!) dk j i' (Or.inl hle)).symm.trans hsc.out
          have hw2:wr.drewN nq=W1.drewN (n1+nq):=by rw [HW1.out,World.drewN_drewN]
          clear hcw HW1 hsc
          go_loopw [11] (fun vj w2=>∃(j' n2:Nat),vj=.int .i64 j'/\j'<=j/\i'<=j'+1/\w2=W1.drewN n2 /\
           Hid (Sort.scanDown (fun x=>!Sort.ltInt x dk[a]!) dk i' j'=Sort.scanDown (fun x=>!Sort.ltInt x dk[a]!) dk i' j))
           (fun vj _=>(intOf vj).toNat)
          case atStart=>exact⟨j,n1+nq,rfl,Nat.le_refl _,hij',hw2,rfl⟩
          case round=>
           clear hw2
           obtain⟨j',n2,rfl,hjj,hij2,hw2,hsd⟩:=hrel
           have hcw:∀ t,t<d.size->wr.cell? ⟨zc,off+t,none⟩=some (.int .u64 (Gk t)):=fun t ht=>by rw [hw2];exact hc t ht
           have HW2:Hid (wr=W1.drewN n2):=hw2
           clear hw2
           by_cases hle2:i'<=j'
           ·exfalso;omega
           ·go_wp2_with fail
            go_big_quiet (first | (go_at_call 207;refine Calls.quiet_of_same (so_cmp_Less_int _ _ _)))
            have hj2:Hid (j'=Sort.scanDown (fun x=>!Sort.ltInt x dk[a]!) dk i' j):=(scanDown_end (fun x=>!Sort.ltInt x dk[a]!) dk i' j' (Or.inl hle2)).symm.trans hsd.out
            clear hcw hsd
            have hw3:wr.drewN nq=W1.drewN (n2+nq):=by rw [HW2.out,World.drewN_drewN]
            generalize wr.drewN nq=W3 at hw3 ⊢
            have hc3:∀ t,t<d.size->W3.cell? ⟨zc,off+t,none⟩=some (.int .u64 (Gk t)):=fun t ht=>by rw [hw3];exact hc t ht
            have hf3:∀ t,t<d.size->W3.frozen? ⟨zc,off+t,none⟩=false:=fun t ht=>by rw [hw3];exact hf t ht
            have HW3:Hid (W3=W1.drewN (n2+nq)):=hw3
            clear hw3
            obtain⟨v3,hy3⟩:=cell?_setCell_some (w:=W3) (p:=⟨zc,off+j',none⟩) (x:=.int .u64 (Gk a)) (q:=⟨zc,off+a,none⟩) (hc3 a (by omega))
            have hlj:j'<d.size:=by omega
            go_wp2
            go_region
            all_goals go_wp2
            all_goals go_ret2
            have e:Sort.partition Sort.ltInt d a b pivot=(j',false,Sort.swp dk j' a):=by
             have e0:=(part_break Sort.ltInt a i j dk hi2.out hj2.out (by omega)).symm.trans AE.out
             rw [HP.out,<-e0]
            refine⟨?_,n+(n2+nq)+1,?_⟩
            ·rw [e];rfl
            ·rw [e,HW3.out,AW.out,World.drewN_drewN,AG.out a,AG.out j']
             exact swap_worldC zg w zc off dk _ j' a (by omega) (by omega)
     ·go_wp2_with fail
      go_big_quiet (first | (go_at_call 207;refine Calls.quiet_of_same (so_cmp_Less_int _ _ _)))
      have hj2:Hid (j'=Sort.scanDown (fun x=>!Sort.ltInt x dk[a]!) dk i' j):=(scanDown_end (fun x=>!Sort.ltInt x dk[a]!) dk i' j' (Or.inl hle2)).symm.trans hsd.out
      clear hcw hsd
      have hw3:wr.drewN nq=W1.drewN (n2+nq):=by rw [HW2.out,World.drewN_drewN]
      generalize wr.drewN nq=W3 at hw3 ⊢
      have hc3:∀ t,t<d.size->W3.cell? ⟨zc,off+t,none⟩=some (.int .u64 (Gk t)):=fun t ht=>by rw [hw3];exact hc t ht
      have hf3:∀ t,t<d.size->W3.frozen? ⟨zc,off+t,none⟩=false:=fun t ht=>by rw [hw3];exact hf t ht
      have HW3:Hid (W3=W1.drewN (n2+nq)):=hw3
      clear hw3
      obtain⟨v3,hy3⟩:=cell?_setCell_some (w:=W3) (p:=⟨zc,off+j',none⟩) (x:=.int .u64 (Gk a)) (q:=⟨zc,off+a,none⟩) (hc3 a (by omega))
      have hlj:j'<d.size:=by omega
      go_wp2
      go_region
      all_goals go_wp2
      all_goals go_ret2
      have e:Sort.partition Sort.ltInt d a b pivot=(j',true,Sort.swp dk j' a):=part_first_break Sort.ltInt d a b pivot HI.out HJ.out HDK.out hi2.out hj2.out (by omega)
      refine⟨?_,n+(n2+nq)+1,?_⟩
      ·rw [e];rfl
      ·rw [e,HW3.out,AW.out,World.drewN_drewN,AG.out a,AG.out j']
       exact swap_worldC zg w zc off dk _ j' a (by omega) (by omega)
  ·go_wp2_with fail
   go_big_quiet (first | (go_at_call 207;refine Calls.quiet_of_same (so_cmp_Less_int _ _ _)))
   go_wp2
   have hi2:Hid (i'=Sort.scanUp (fun x=>Sort.ltInt x dk[a]!) dk j i):=(scanUp_end (fun x=>Sort.ltInt x dk[a]!) dk j i' (Or.inl hle)).symm.trans hsc.out
   have hw2:wr.drewN nq=W1.drewN (n1+nq):=by rw [HW1.out,World.drewN_drewN]
   clear hcw HW1 hsc
   go_loopw [11] (fun vj w2=>∃(j' n2:Nat),vj=.int .i64 j'/\j'<=j/\i'<=j'+1/\w2=W1.drewN n2 /\
    Hid (Sort.scanDown (fun x=>!Sort.ltInt x dk[a]!) dk i' j'=Sort.scanDown (fun x=>!Sort.ltInt x dk[a]!) dk i' j))
    (fun vj _=>(intOf vj).toNat)
   case atStart=>exact⟨j,n1+nq,rfl,Nat.le_refl _,hij',hw2,rfl⟩
   case round=>
    clear hw2
    obtain⟨j',n2,rfl,hjj,hij2,hw2,hsd⟩:=hrel
    have hcw:∀ t,t<d.size->wr.cell? ⟨zc,off+t,none⟩=some (.int .u64 (Gk t)):=fun t ht=>by rw [hw2];exact hc t ht
    have HW2:Hid (wr=W1.drewN n2):=hw2
    clear hw2
    by_cases hle2:i'<=j'
    ·exfalso;omega
    ·go_wp2_with fail
     go_big_quiet (first | (go_at_call 207;refine Calls.quiet_of_same (so_cmp_Less_int _ _ _)))
     have hj2:Hid (j'=Sort.scanDown (fun x=>!Sort.ltInt x dk[a]!) dk i' j):=(scanDown_end (fun x=>!Sort.ltInt x dk[a]!) dk i' j' (Or.inl hle2)).symm.trans hsd.out
     clear hcw hsd
     have hw3:wr.drewN nq=W1.drewN (n2+nq):=by rw [HW2.out,World.drewN_drewN]
     generalize wr.drewN nq=W3 at hw3 ⊢
     have hc3:∀ t,t<d.size->W3.cell? ⟨zc,off+t,none⟩=some (.int .u64 (Gk t)):=fun t ht=>by rw [hw3];exact hc t ht
     have hf3:∀ t,t<d.size->W3.frozen? ⟨zc,off+t,none⟩=false:=fun t ht=>by rw [hw3];exact hf t ht
     have HW3:Hid (W3=W1.drewN (n2+nq)):=hw3
     clear hw3
     obtain⟨v3,hy3⟩:=cell?_setCell_some (w:=W3) (p:=⟨zc,off+j',none⟩) (x:=.int .u64 (Gk a)) (q:=⟨zc,off+a,none⟩) (hc3 a (by omega))
     have hlj:j'<d.size:=by omega
     go_wp2
     go_region
     all_goals go_wp2
     all_goals go_ret2
     have e:Sort.partition Sort.ltInt d a b pivot=(j',true,Sort.swp dk j' a):=part_first_break Sort.ltInt d a b pivot HI.out HJ.out HDK.out hi2.out hj2.out (by omega)
     refine⟨?_,n+(n2+nq)+1,?_⟩
     ·rw [e];rfl
     ·rw [e,HW3.out,AW.out,World.drewN_drewN,AG.out a,AG.out j']
      exact swap_worldC zg w zc off dk _ j' a (by omega) (by omega)
theorem xJ (zc off cap a b pivot:Nat) (d:Array Int) (w:World) (hH:Holds zg w zc off d) (hap:a<=pivot) (hpb:pivot<b) (hb:b<=d.size) (hsz:d.size<4611686018427387904) :
 Calls Tryz.prog 225 #[.slice (some ⟨zc,off,none⟩) d.size cap,.int .i64 a,.int .i64 b,.int .i64 pivot] w fun e w'=>
  e=.returned (.tuple #[.int .i64 (Sort.partition Sort.ltInt d a b pivot).1,.bool (Sort.partition Sort.ltInt d a b pivot).2.1])/\∃ n,w'=putRow zg (Sort.ahead w n) zc off (Sort.partition Sort.ltInt d a b pivot).2.2:=
 (Zc zc off cap a b pivot d w hH hap hpb hb hsz).mono fun _ _ ⟨he,n,hw⟩=>⟨he,n,hw⟩
theorem qR {w:World} {zc off sb so n t:Nat} {d:Array Int} (h:Holds zg w zc off d) (hne:sb≠zc):Holds zg (putRow (Value.int .i64) (Sort.ahead w n) sb so (one t)) zc off d:=fun j hj=>
 ⟨by rw [cell?_putRow_other _ _ _ _ _ _ (Or.inl (Ne.symm hne))];exact(h j hj).1,by rw [frozen?_putRow];exact(h j hj).2⟩
theorem xu (d:Array Int) (len:Nat) (hlen:d.size=len) (zc off cap a b sb so s:Nat) (w:World) (hH:Holds zg w zc off d) (ha:a<d.size) (hb:b<d.size)
 (hS:Holds (Value.int .i64) w sb so (one s)) (hs:s<2 ^ 62) :
 Calls Tryz.prog 237 #[.slice (some ⟨zc,off,none⟩) len cap,.int .i64 a,.int .i64 b,.pointer (some ⟨sb,so,none⟩)] w fun e w'=>
  e=.returned (.tuple #[.int .i64 (order2 ltInt d a b s).1,.int .i64 (order2 ltInt d a b s).2.1])/\∃ n,w'=putRow (Value.int .i64) (Sort.ahead w n) sb so (one (order2 ltInt d a b s).2.2):=by
 subst hlen
 replace hs:s<4611686018427387904:=by omega
 have ca:=(hH a ha).1
 have cb:=(hH b hb).1
 obtain⟨cs,fs⟩:=one_cell hS
 have ea:d[a]! = d[a]:=getElem!_pos d a ha
 have eb:d[b]! = d[b]:=getElem!_pos d b hb
 go_enter Tryz.func237,Tryz.ntmps237
 go_wp2
 go_region_with (go_at_call 207;refine(so_cmp_Less_int _ _ _).mono ?_;rintro e w' ⟨rfl,rfl⟩)
 all_goals (try go_wp2)
 all_goals first
  | (have hlt:ltInt d[b] d[a]=true:=by assumption
     have e2:order2 ltInt d a b s=(b,a,s+1):=by simp [order2,ea,eb,hlt]
     go_ret2
     rw [e2]
     refine⟨rfl,1,?_⟩
     rw [putRow_ahead,<-one_set hS (s+1)]
     simp [drew_eq_ahead])
  | (have hlt:ltInt d[b] d[a]=false:=by assumption
     have e2:order2 ltInt d a b s=(a,b,s):=by simp [order2,ea,eb,hlt]
     go_ret2
     rw [e2]
     refine⟨rfl,1,?_⟩
     rw [putRow_ahead,putRow_self _ _ _ _ _ hS]
     rfl)
set_option maxRecDepth 100000 in
theorem jH (d:Array Int) (len:Nat) (hlen:d.size=len) (zc off cap a b c sb so s:Nat) (w:World) (hH:Holds zg w zc off d) (ha:a<d.size) (hb:b<d.size) (hc:c<d.size) (hne:sb≠zc)
 (hS:Holds (Value.int .i64) w sb so (one s)) (hs:s+3<2 ^ 62) :
 Calls Tryz.prog 236 #[.slice (some ⟨zc,off,none⟩) len cap,.int .i64 a,.int .i64 b,.int .i64 c,.pointer (some ⟨sb,so,none⟩)] w fun e w'=>
  e=.returned (.int .i64 (median ltInt d a b c s).1)/\∃ n,w'=putRow (Value.int .i64) (Sort.ahead w n) sb so (one (median ltInt d a b c s).2):=by
 subst hlen
 have l1:=order2_lt d s ha hb
 have s1:=order2_swaps d a b s
 have l2:=order2_lt d (order2 ltInt d a b s).2.2 l1.2 hc
 have s2:=order2_swaps d (order2 ltInt d a b s).2.1 c (order2 ltInt d a b s).2.2
 go_enter Tryz.func236,Tryz.ntmps236
 go_wp2_with (go_at_call_of 237 (Value.int .i64 (b:Int));refine(xu d _ rfl zc off cap a b sb so s w hH ha hb hS (by omega)).mono ?_;rintro e w' ⟨rfl,n1,rfl⟩)
 go_wp2_with (go_at_call_of 237 (Value.int .i64 (c:Int));refine(xu d _ rfl zc off cap (order2 ltInt d a b s).2.1 c sb so (order2 ltInt d a b s).2.2 _ (qR hH hne) l1.2 hc (holds_one hS) (by omega)).mono ?_;rintro e w' ⟨rfl,n2,rfl⟩)
 go_wp2_with (go_at_call_of 237 (Value.int .i64 ((order2 ltInt d a b s).1:Int));refine(xu d _ rfl zc off cap (order2 ltInt d a b s).1 (order2 ltInt d (order2 ltInt d a b s).2.1 c (order2 ltInt d a b s).2.2).1 sb so (order2 ltInt d (order2 ltInt d a b s).2.1 c (order2 ltInt d a b s).2.2).2.2 _
  (qR (qR hH hne) hne) l1.1 l2.1 (holds_one (holds_one hS)) (by omega)).mono ?_;rintro e w' ⟨rfl,n3,rfl⟩)
 go_ret
 refine⟨rfl,n1+(n2+n3),?_⟩
 rw [one_one,one_one]
 rfl
set_option maxRecDepth 100000 in
theorem vf (d:Array Int) (len:Nat) (hlen:d.size=len) (zc off cap a sb so s:Nat) (w:World) (hH:Holds zg w zc off d) (ha0:1<=a) (ha:a+1<d.size) (hsz:d.size<2 ^ 62) (hne:sb≠zc)
 (hS:Holds (Value.int .i64) w sb so (one s)) (hs:s+3<2 ^ 62) :
 Calls Tryz.prog 235 #[.slice (some ⟨zc,off,none⟩) len cap,.int .i64 a,.pointer (some ⟨sb,so,none⟩)] w fun e w'=>
  e=.returned (.int .i64 (medianAdjacent ltInt d a s).1)/\∃ n,w'=putRow (Value.int .i64) (Sort.ahead w n) sb so (one (medianAdjacent ltInt d a s).2):=by
 subst hlen
 replace hsz:d.size<4611686018427387904:=by omega
 go_enter Tryz.func235,Tryz.ntmps235
 go_wp2_with (go_at_call 236;rw [show ((a:Int) - 1)=((a - 1:Nat):Int) by omega,show ((a:Int)+1)=((a+1:Nat):Int) by omega];refine(jH d _ rfl zc off cap (a - 1) a (a+1) sb so s w hH (by omega) (by omega) ha hne hS hs).mono ?_;rintro e w' ⟨rfl,n1,rfl⟩)
 go_ret
 exact⟨rfl,n1,rfl⟩
set_option maxRecDepth 100000 in
theorem xI (zc off cap a L:Nat) (d:Array Int) (w:World) (hH:Holds zg w zc off d) (hblk:zc<w.heap.size) (hb:a+L<=d.size) (hsz:d.size<4611686018427387904) (h8:8<=L) :
 Calls Tryz.prog 220 #[.slice (some ⟨zc,off,none⟩) d.size cap,.int .i64 a,.int .i64 ((a+L:Nat):Int)] w fun e w'=>
  e=.returned (.tuple #[])/\∃ n os,w'=grow (putRow zg (Sort.ahead w n) zc off (breakPatterns d a (a+L))) os:=by
 rw [breakPatterns_eq d a L h8]
 obtain⟨M,hM⟩:∃ M:Nat,M=1 <<< bitsLen L:=⟨_,rfl⟩
 have hM1:1<=M:=by rw [hM,Nat.one_shiftLeft];exact Nat.two_pow_pos _
 have hM2:M<=2 * L:=by rw [hM,Nat.one_shiftLeft];exact two_pow_bitsLen_le (by omega)
 have hNP:∀ w,Calls Tryz.prog 233 #[.int .i64 (L:Int)] w fun e w'=>e=.returned (.int .u64 (M:Int))/\w'=w:=by rw [hM];exact fun w=>kI L (by omega) w
 rw [<-hM]
 clear hM
 have HH:Hid (Holds zg w zc off d):=hH
 have HST:Hid (w.alloc (Obj.cells #[.int .u64 (L:Int)] 277)=grow (putRow zg (Sort.ahead w 0) zc off d) #[Obj.cells #[.int .u64 ((UInt64.ofNat L).toNat:Int)] 277]):=by
  show _=_
  rw [show Sort.ahead w 0=w from rfl,putRow_self _ _ _ _ _ hH,alloc_eq_grow,show (UInt64.ofNat L).toNat=L from by simp;omega]
 clear hH
 go_enter Tryz.func220,Tryz.ntmps220
 go_wp2_with (first | (go_at_call 233;rw [show ((a:Int)+(L:Int) - (a:Int))=(L:Int) by omega];refine(hNP _).mono ?_;rintro e w' ⟨rfl,rfl⟩))
 go_loopw [9] (fun vi wr=>∃(t n:Nat) (r:UInt64) (dk:Array Int),vi=.int .i64 ((a+L / 4 * 2 - 1+t:Nat):Int)/\t<=3/\dk.size=d.size /\
  wr=grow (putRow zg (Sort.ahead w n) zc off dk) #[Obj.cells #[.int .u64 (r.toNat:Int)] 277] /\
  bpRest a L M (a+L / 4 * 2 - 1) (3 - t) t (r,dk)=bpRest a L M (a+L / 4 * 2 - 1) 3 0 (UInt64.ofNat L,d)) (fun vi _=>a+L / 4 * 2+3 - (intOf vi).toNat)
 case atStart=>exact⟨0,0,UInt64.ofNat L,d,by congr 1;omega,by omega,rfl,HST.out,rfl⟩
 case round=>
  obtain⟨t,n,r,dk,rfl,ht,hsk,hw,hR⟩:=hrel
  obtain⟨R,hRr⟩:∃ R:Nat,R=r.toNat:=⟨_,rfl⟩
  have lR:R<18446744073709551616:=by rw [hRr];exact r.toNat_lt
  obtain⟨R',hR'⟩:∃ R':Nat,R'=xorNextN R:=⟨_,rfl⟩
  have lR':R'<18446744073709551616:=by rw [hR'];exact xorNextN_lt R lR
  obtain⟨O,hO⟩:∃ O:Nat,O=R' &&& (M - 1):=⟨_,rfl⟩
  have lO:O<=M - 1:=by rw [hO];exact Nat.and_le_right
  have eAnd:bits .and .u64 (R':Int) ((M:Int) - 1)=(O:Int):=by
   rw [show ((M:Int) - 1)=((M - 1:Nat):Int) by omega,bits_and_u64_nat _ _ lR' (by omega),hO]
  obtain⟨G,hG⟩:∃ G:Nat->Int,∀ x,G x=dk[x]!:=⟨fun x=>dk[x]!,fun _=>rfl⟩
  have hz:(putRow zg (Sort.ahead w n) zc off dk).heap.size=w.heap.size:=by simp
  have hcw:∀ x,x<d.size->wr.cell? ⟨zc,off+x,none⟩=some (.int .u64 (G x)):=fun x hx=>by
   rw [hw,cell?_grow _ _ _ (by rw [hz];exact hblk),hG];exact cell?_putRow _ _ _ _ d dk (holds_ahead _ _ _ _ _ _ HH.out) hsk x (by omega)
  have hfw:∀ x,x<d.size->wr.frozen? ⟨zc,off+x,none⟩=false:=fun x hx=>by
   rw [hw,frozen?_grow _ _ _ (by rw [hz];exact hblk),frozen?_putRow];exact((holds_ahead _ _ n _ _ _ HH.out) x hx).2
  have hcB:wr.cell? ⟨w.heap.size,0,none⟩=some (.int .u64 (R:Int)):=by rw [hw,hRr,<-hz];exact grow_one_cell _ _ _
  have hfB:wr.frozen? ⟨w.heap.size,0,none⟩=false:=by rw [hw,<-hz];exact grow_one_frozen _ _ _
  have hNext:Calls Tryz.prog 234 #[.pointer (some ⟨w.heap.size,0,none⟩)] wr fun e w'=>e=.returned (.int .u64 (R':Int))/\w'=(wr.setCell ⟨w.heap.size,0,none⟩ (.int .u64 (R':Int))).drewN 3:=by
   rw [hR'];exact Zd _ _ R lR wr hcB hfB
  have HW:Hid (wr=grow (putRow zg (Sort.ahead w n) zc off dk) #[Obj.cells #[.int .u64 (r.toNat:Int)] 277]):=hw
  have HG:Hid (∀ x,G x=dk[x]!):=hG
  have HR:Hid (bpRest a L M (a+L / 4 * 2 - 1) (3 - t) t (r,dk)=bpRest a L M (a+L / 4 * 2 - 1) 3 0 (UInt64.ofNat L,d)):=hR
  have HN:Hid (R'=(xorNext r).toNat/\O=(xorNext r).toNat &&& (M - 1)):=by
   have e:R'=(xorNext r).toNat:=by rw [hR',hRr,xorNext_toNat]
   exact⟨e,by rw [hO,e]⟩
  clear hw hG hR hRr hR' hO
  go_wp2_with (first | (go_at_call 234;refine hNext.mono ?_;rintro e w' ⟨rfl,rfl⟩))
  ·
   have hLO:L<=O:=by omega
   by_cases hEq:a+L / 4 * 2 - 1+t=a+(O - L)
   all_goals
    go_region
    all_goals go_wp2
    go_roundw
    case rel=>
     refine⟨t+1,n+4,xorNext r,swp dk (a+L / 4 * 2 - 1+t) (a+(O - L)),by first | rfl | (congr 1<;>omega),by omega,by rw [size_swp];exact hsk,?_,?_⟩
     ·(try rw [hEq])
      rw [HW.out,HN.out.1]
      simp only [HG.out]
      exact step_world zg w n 4 zc off dk _ _ hblk (by omega) (by omega) _ _ _
     ·rw [<-HR.out,bp_step a L M _ t r dk (O - L) (by omega) (by rw [<-HN.out.2,if_pos (by omega)])]
    case measure=>simp [intOf];omega
  ·have hLO:¬ L<=O:=by omega
   by_cases hEq:a+L / 4 * 2 - 1+t=a+O
   all_goals
    go_region
    all_goals go_wp2
    go_roundw
    case rel=>
     refine⟨t+1,n+4,xorNext r,swp dk (a+L / 4 * 2 - 1+t) (a+O),by first | rfl | (congr 1<;>omega),by omega,by rw [size_swp];exact hsk,?_,?_⟩
     ·(try rw [hEq])
      rw [HW.out,HN.out.1]
      simp only [HG.out]
      exact step_world zg w n 4 zc off dk _ _ hblk (by omega) (by omega) _ _ _
     ·rw [<-HR.out,bp_step a L M _ t r dk O (by omega) (by rw [<-HN.out.2,if_neg (by omega)])]
    case measure=>simp [intOf];omega
  ·
   obtain rfl:t=3:=by omega
   go_end0
   exact⟨rfl,n,_,by rw [<-HR.out,HW.out];rfl⟩
theorem vU (zc off cap a b:Nat) (d:Array Int) (w:World) (hH:Holds zg w zc off d) (hblk:zc<w.heap.size) (hab:a<=b) (hb:b<=d.size) (hsz:d.size<4611686018427387904) :
 Calls Tryz.prog 220 #[.slice (some ⟨zc,off,none⟩) d.size cap,.int .i64 a,.int .i64 b] w fun e w'=>
  e=.returned (.tuple #[])/\∃ n os,w'=grow (putRow zg (Sort.ahead w n) zc off (breakPatterns d a b)) os:=by
 obtain⟨L,rfl⟩:∃ L,b=a+L:=⟨b - a,by omega⟩
 by_cases h8:8<=L
 ·exact xI zc off cap a L d w hH hblk hb hsz h8
 ·have hv:breakPatterns d a (a+L)=d:=by unfold breakPatterns;simp only [Nat.add_sub_cancel_left];rw [if_neg h8]
  rw [hv]
  have HST:Hid (w=grow (putRow zg (Sort.ahead w 0) zc off d) #[]):=by
   show _=_
   rw [grow_empty,show Sort.ahead w 0=w from rfl,putRow_self _ _ _ _ _ hH]
  clear hH
  go_enter Tryz.func220,Tryz.ntmps220
  go_wp2
  go_end0
  exact⟨rfl,0,#[],HST.out⟩
end Go.Proofs.YtonhfknjcbakiaaGreatDoor
namespace Go.Proofs.YtonhfknjcbakiaaGreatDoor
open Go.RowKit
theorem zeB:IntKind.u64.wrap (((zk - 1:Nat):Int)+1)=0:=by decide
theorem Jc {x y:Nat} (h:y<=x) (hx:x<zk):IntKind.u64.wrap ((x:Int) - y)=((x - y:Nat):Int):=by
 rw [show ((x:Int) - y)=((x - y:Nat):Int) from by omega];exact ZR (by omega)
theorem Zj {x:Nat} (h:1<=x) (hx:x<zk):IntKind.u64.wrap ((x:Int) - 1)=((x - 1:Nat):Int):=Jc (y:=1) h hx
theorem zbV {x:Nat} (hx:x+1<zk):IntKind.u64.wrap ((x:Int)+1)=(x:Int)+1:=by
 have:=ZR (x:=x+1) hx;push_cast at this;exact this
theorem kO (x:Nat) (w:World) (h:x+1<zk):Calls Tryz.prog 196 #[.int .u64 x] w fun e w'=>e=.returned (.tuple #[.int .u64 ((x:Int)+1),.bool true])/\w=w':=by
 have h1:=zbV h
 have h2:((x:Int)+1 != 0)=true:=by simp;omega
 go_enter Tryz.func196,Tryz.ntmps196
 go_wp2
 go_ret2
 exact⟨rfl,rfl⟩
theorem V9 (w:World):Calls Tryz.prog 196 #[.int .u64 ((zk - 1:Nat):Int)] w fun e w'=>e=.returned (.tuple #[.int .u64 0,.bool false])/\w=w':=by
 have h1:=zeB
 generalize ((zk - 1:Nat):Int)=m at *
 go_enter Tryz.func196,Tryz.ntmps196
 go_wp2
 go_ret2
 exact⟨rfl,rfl⟩
theorem ya (a b:Nat) (w:World) (h:b<=a):Calls Tryz.prog 168 #[.int .u64 a,.int .u64 b] w fun e w'=>e=.returned (.tuple #[.int .u64 0,.bool false])/\w=w':=by
 go_enter Tryz.func168,Tryz.ntmps168
 go_wp2
 go_ret2
 exact⟨rfl,rfl⟩
theorem yX (a b:Nat) (w:World) (h:a<b) (hb:b<zk):Calls Tryz.prog 168 #[.int .u64 a,.int .u64 b] w fun e w'=>e=.returned (.tuple #[.int .u64 ((b - a - 1:Nat):Int),.bool true])/\w=w':=by
 have h1:=Jc (x:=b) (y:=a) (by omega) hb
 have h2:=Zj (x:=b - a) (by omega) (by omega)
 generalize b - a=d at *
 have H2:=Lib.hid h2
 clear h2
 go_enter Tryz.func168,Tryz.ntmps168
 go_wp2
 rw [H2.out]
 go_ret2
 exact⟨rfl,rfl⟩
def zR (s t:Iv):Nat:=if s.hi<t.lo then (if s.hi+1=t.lo then 1 else 0) else if t.hi<s.lo then (if t.hi+1=s.lo then 3 else 4) else 2
theorem QF (s t:Iv) (w:World) (hs:s.lo<=s.hi) (ht:t.lo<=t.hi) (h1:s.hi<zk) (h2:t.hi<zk) :
 Calls Tryz.prog 122 #[.agg #[.int .u64 s.lo,.int .u64 s.hi],.agg #[.int .u64 t.lo,.int .u64 t.hi]] w fun e w'=>e=.returned (.int .i64 (zR s t))/\Below w.heap.size w w':=by
 have H:∀ n:Nat,zR s t=n->Hid (zR s t=n):=fun _ h=>h
 by_cases c1:s.hi<t.lo
 ·by_cases c3:s.hi+1=t.lo
  ·have c3':=Lib.hid c3
   clear c3
   have R:=H 1 (by unfold zR;rw [if_pos c1,if_pos c3'.out])
   have C4:=Lib.hid (show t.lo - s.hi - 1=0 by have:=c3'.out;omega)
   clear H
   go_enter Tryz.func122,Tryz.ntmps122
   go_wp2_with (first | (go_at_call 168;with_reducible refine(yX s.hi t.lo _ (by omega) (by omega)).mono ?_;rw [C4.out];rintro e w' ⟨rfl,rfl⟩) | (go_at_call 168;with_reducible refine(ya t.hi s.lo _ (by omega)).mono ?_;rintro e w' ⟨rfl,rfl⟩))
   go_ret
   rw [R.out]
   exact⟨rfl,((Below.refl _ _).alloc (Nat.le_refl _) _).alloc (by simp) _⟩
  ·have R:=H 0 (by unfold zR;rw [if_pos c1,if_neg c3])
   obtain⟨g,hg0⟩:∃ g,t.lo - s.hi - 1=g:=⟨_,rfl⟩
   have hg:0<g:=by omega
   have C4:=Lib.hid hg0
   clear hg0
   clear H
   go_enter Tryz.func122,Tryz.ntmps122
   go_wp2_with (first | (go_at_call 168;with_reducible refine(yX s.hi t.lo _ (by omega) (by omega)).mono ?_;rw [C4.out];rintro e w' ⟨rfl,rfl⟩) | (go_at_call 168;with_reducible refine(ya t.hi s.lo _ (by omega)).mono ?_;rintro e w' ⟨rfl,rfl⟩))
   go_ret
   rw [R.out]
   exact⟨rfl,((Below.refl _ _).alloc (Nat.le_refl _) _).alloc (by simp) _⟩
 ·by_cases c2:t.hi<s.lo
  ·by_cases c3:t.hi+1=s.lo
   ·have c3':=Lib.hid c3
    clear c3
    have R:=H 3 (by unfold zR;rw [if_neg c1,if_pos c2,if_pos c3'.out])
    have C4:=Lib.hid (show s.lo - t.hi - 1=0 by have:=c3'.out;omega)
    clear H
    go_enter Tryz.func122,Tryz.ntmps122
    go_wp2_with (first | (go_at_call 168;with_reducible refine(ya s.hi t.lo _ (by omega)).mono ?_;rintro e w' ⟨rfl,rfl⟩) | (go_at_call 168;with_reducible refine(yX t.hi s.lo _ (by omega) (by omega)).mono ?_;rw [C4.out];rintro e w' ⟨rfl,rfl⟩))
    go_ret
    rw [R.out]
    exact⟨rfl,((Below.refl _ _).alloc (Nat.le_refl _) _).alloc (by simp) _⟩
   ·have R:=H 4 (by unfold zR;rw [if_neg c1,if_pos c2,if_neg c3])
    obtain⟨g,hg0⟩:∃ g,s.lo - t.hi - 1=g:=⟨_,rfl⟩
    have hg:0<g:=by omega
    have C4:=Lib.hid hg0
    clear hg0
    clear H
    go_enter Tryz.func122,Tryz.ntmps122
    go_wp2_with (first | (go_at_call 168;with_reducible refine(ya s.hi t.lo _ (by omega)).mono ?_;rintro e w' ⟨rfl,rfl⟩) | (go_at_call 168;with_reducible refine(yX t.hi s.lo _ (by omega) (by omega)).mono ?_;rw [C4.out];rintro e w' ⟨rfl,rfl⟩))
    go_ret
    rw [R.out]
    exact⟨rfl,((Below.refl _ _).alloc (Nat.le_refl _) _).alloc (by simp) _⟩
  ·have R:=H 2 (by unfold zR;rw [if_neg c1,if_neg c2])
   clear H
   go_enter Tryz.func122,Tryz.ntmps122
   go_wp2_with (first | (go_at_call 168;with_reducible refine(ya s.hi t.lo _ (by omega)).mono ?_;rintro e w' ⟨rfl,rfl⟩) | (go_at_call 168;with_reducible refine(ya t.hi s.lo _ (by omega)).mono ?_;rintro e w' ⟨rfl,rfl⟩))
   go_ret
   rw [R.out]
   exact⟨rfl,((Below.refl _ _).alloc (Nat.le_refl _) _).alloc (by simp) _⟩
end Go.Proofs.YtonhfknjcbakiaaGreatDoor
namespace Go.Proofs.YtonhfknjcbakiaaGreatDoor
open Go.RowKit
variable {P:Program} {s:PS}
def Det {α:Type} (H:(α->Prop)->Prop):Prop:=∀ K,H K->∃ x,K x/\H fun y=>y=x
theorem Det.pure {α:Type} (x:α):Det fun K:α->Prop=>K x:=fun K h=>⟨x,h,rfl⟩
theorem Det.false {α:Type}:Det fun _:α->Prop=>False:=fun _ h=>h.elim
theorem Det.and {α:Type} {H:(α->Prop)->Prop} (p:Prop) (h:Det H):Det fun K=>p/\H K:=fun K hk=>by
 obtain⟨x,h1,h2⟩:=h K hk.2
 exact⟨x,h1,hk.1,h2⟩
theorem Qw {α:Type} {p:PV} {H:List PV->(α->Prop)->Prop} (h:∀ cs,Det (H cs)):Det fun K=>qW p fun cs=>H cs K:=by
 intro K hk
 unfold qW at hk ⊢
 split at hk<;>first | exact h _ K hk | exact Det.and _ (h _) K hk | exact hk.elim
theorem jm {α:Type} {p:PV} {H:Bool->(α->Prop)->Prop} (h:∀ b,Det (H b)):Det fun K=>qV p fun b=>H b K:=by
 intro K hk
 unfold qV at hk ⊢
 split at hk
 ·exact h _ K hk
 ·exact hk.elim
theorem yQ {α:Type} {p:PV} {H:IntKind->Int->(α->Prop)->Prop} (h:∀ k n,Det (H k n)):Det fun K=>vR p fun k n=>H k n K:=by
 intro K hk
 unfold vR at hk ⊢
 split at hk
 ·exact h _ _ K hk
 ·exact hk.elim
theorem ZQ {α:Type} {p:PV} {H:List (List PV)->(α->Prop)->Prop} (h:∀ es,Det (H es)):Det fun K=>QA p fun es=>H es K:=by
 intro K hk
 unfold QA at hk ⊢
 split at hk
 ·exact h _ K hk
 ·exact hk.elim
theorem zav (k:IntKind) (n:Int):Det (qar k n):=by
 intro K hk
 unfold qar at hk ⊢
 split at hk
 ·exact⟨_,hk.2,hk.1,rfl⟩
 ·exact⟨_,hk,rfl⟩
theorem zdZ (op:BinOp) (k:IntKind) (a b:Int):Det (Xo op k a b):=by
 intro K hk
 unfold Xo at hk ⊢
 split at hk<;>first | exact zav _ _ K hk | exact Det.and _ (zav _ _) K hk | exact Det.and _ (Det.pure _) K hk | exact⟨_,hk,rfl⟩ | exact hk.elim
theorem zdV (op:BinOp) (p q:PV):Det (QB op p q):=by
 intro K hk
 unfold QB at hk ⊢
 split at hk
 ·exact Det.and _ (zdZ _ _ _ _) K hk
 ·exact hk.elim
theorem zdY (n:Bool) (m:Nat) (p q:PV):Det (zbz n m p q):=by
 intro K hk
 unfold zbz at hk ⊢
 split at hk
 ·exact⟨_,hk.2,hk.1,rfl⟩
 ·exact hk.elim
theorem zgf (cs:List PV) (o:Nat) (ag:Bool) (n:Nat):Det (VI cs o ag n):=by
 intro K hk
 unfold VI at hk ⊢
 split at hk
 ·exact⟨_,hk.2,hk.1,rfl⟩
 ·split at hk
  ·exact⟨_,hk,rfl⟩
  ·exact hk.elim
theorem kB {α:Type} (cs:List PV) (o:Nat) (ag:Bool) (n:Nat) (f:PV->α):Det fun K:α->Prop=>VI cs o ag n fun p=>K (f p):=by
 intro K hk
 obtain⟨x,h1,h2⟩:=zgf cs o ag n _ hk
 refine⟨f x,h1,?_⟩
 unfold VI at h2 ⊢
 split at h2
 ·exact⟨h2.1,by rw [h2.2]⟩
 ·split at h2
  ·rw [h2]
  ·exact h2.elim
theorem Qy {α:Type} (f:List PV->α):∀(ps:List (Nat × Nat × PO)) (zs:List PV),Det fun K:α->Prop=>vS s ps zs fun cs=>K (f cs)
 | [],zs=>Det.pure _
 | (off,n,x)::r,zs=>Qw fun cs=>Det.and _ (Det.and _ (Det.and _ (Qy f r _)))
theorem Qx {α:Type} (sz:Nat):∀(ps:List PO) (f:List (List PV)->α),Det fun K:α->Prop=>yP s sz ps fun es=>K (f es)
 | [],f=>Det.pure _
 | x::r,f=>Qw fun cs=>Det.and _ (Det.and _ (Qx sz r fun es=>f (cs.map PV.sh::es)))
theorem zar {α:Type} (y:Option PO) (n:Nat) {H:Nat->(α->Prop)->Prop} (h:∀ n,Det (H n)):Det fun K=>qBd s y n fun m=>H m K:=by
 cases y with
 | none=>exact h n
 | some y=>exact yQ fun _ _=>Det.and _ (h _)
theorem zat (k:PK):Det (k.q P s):=by
 cases k with
 | mv x=>cases x<;>exact Det.pure _
 | bin op x y=>exact zdV _ _ _
 | beq n x y=>exact jm fun a=>jm fun b=>Det.pure _
 | eq2 n x y m=>exact zdY _ _ _ _
 | nil n x=>
   intro K hk
   simp only [PK.q] at hk ⊢
   split at hk<;>first | exact⟨_,hk,rfl⟩ | exact hk.elim
 | not x=>exact jm fun a=>Det.pure _
 | cv k x=>exact yQ fun a b=>Det.pure _
 | fa x off=>
   intro K hk
   simp only [PK.q] at hk ⊢
   split at hk<;>first | exact⟨_,hk,rfl⟩ | exact hk.elim
 | ia x y sz=>
   refine ZQ fun es=>yQ fun _ n=>Det.and _ fun K hk=>?_
   split at hk
   ·exact⟨_,hk.2,hk.1,rfl⟩
   ·exact hk.elim
 | aa x y n sz=>
   refine yQ fun _ m=>Det.and _ fun K hk=>?_
   split at hk<;>first | exact⟨_,hk,rfl⟩ | exact hk.elim
 | ix x y n ag sz=>
   refine yQ fun _ m=>Det.and _ fun K hk=>?_
   split at hk
   ·exact kB _ _ _ _ _ K hk
   ·exact hk.elim
 | fl x off ag n=>
   intro K hk
   simp only [PK.q] at hk ⊢
   split at hk
   ·exact kB _ _ _ _ _ K hk
   ·exact hk.elim
 | ld x ag n=>
   intro K hk
   simp only [PK.q] at hk ⊢
   split at hk
   ·exact kB _ _ _ _ _ K hk
   ·split at hk
    ·exact Det.and _ (kB _ _ _ _ _) K hk
    ·exact hk.elim
   ·exact hk.elim
 | nc x=>
   intro K hk
   simp only [PK.q] at hk ⊢
   split at hk<;>first | exact⟨_,hk,rfl⟩ | exact hk.elim
 | bd zs ps=>exact Qy _ _ _
 | bs sz ps=>exact Qx _ _ _
 | ln x=>exact ZQ fun _=>Det.pure _
 | ex x i=>
   intro K hk
   simp only [PK.q] at hk ⊢
   split at hk
   ·split at hk
    ·exact⟨_,hk,rfl⟩
    ·exact hk.elim
   ·exact hk.elim
 | mf f fs cs=>exact Det.and _ (Det.pure _)
 | mi t x=>
   intro K hk
   simp only [PK.q] at hk ⊢
   split at hk
   ·exact⟨_,hk,rfl⟩
   ·exact hk.elim
 | pk c x y=>
   refine jm fun b=>?_
   intro K hk
   cases b with
   | true=>exact⟨_,hk.1 rfl,fun _=>rfl,nofun⟩
   | false=>exact⟨_,hk.2 rfl,nofun,fun _=>rfl⟩
 | sc x lo hi sz=>exact ZQ fun es=>zar _ _ fun h=>zar _ _ fun l=>Det.and _ (Det.and _ (Det.and _ (Det.pure _)))
 | ap x y sz b=>
   intro K hk
   simp only [PK.q] at hk ⊢
   split at hk
   ·exact ZQ (fun es'=>Det.and _ (Det.and _ (Det.and _ (Det.pure _)))) K hk
   ·exact hk.elim
 | mm m x y=>exact yQ fun _ _=>yQ fun _ _=>Det.and _ (Det.pure _)
 | ca f xs=>
   intro K hk
   obtain⟨r,h1,h2,h3⟩:=hk
   exact⟨_,h3,r,h1,h2,rfl⟩
 | cl y xs=>
   intro K hk
   simp only [PK.q] at hk ⊢
   split at hk
   ·obtain⟨r,h1,h2,h3⟩:=hk
    exact⟨_,h3,r,h1,h2,rfl⟩
   ·exact hk.elim
 | iv x m xs=>
   intro K hk
   simp only [PK.q] at hk ⊢
   split at hk
   ·obtain⟨f,hm,r,h1,h2,h3⟩:=hk
    exact⟨_,h3,f,hm,r,h1,h2,rfl⟩
   ·exact hk.elim
 | sb op x y=>
   intro K hk
   simp only [PK.q] at hk ⊢
   unfold qsb at hk ⊢
   split at hk
   ·exact⟨_,hk.2,hk.1,rfl⟩
   ·exact hk.elim
 | al zs=>exact Det.false
 | bo x=>exact Det.false
 | st x y n=>exact Det.false
end Go.Proofs.YtonhfknjcbakiaaGreatDoor
namespace Go.Proofs.YtonhfknjcbakiaaGreatDoor
open Go.RowKit
def lk:List (Option Tmp × VP)->Tmp->Option VP
 | [],_=>none
 | (d,V)::r,t=>if d=some t then some V else lk r t
def Rds (env:List (Option Tmp × VP)) (a0:Act):List Tmp->Act->World->Prop
 | [],_,_=>True
 | t::ts,a,w=>(match lk env t with | some V=>∃ u,RdEq a t u/\V u w | none=>RdEq a t (a0.tmps.getD t undef))/\Rds env a0 ts a w
def headOk (Sw:Nat->Prop) (opw:Oper->Act->World->(Act->World->Prop)->Prop) (a0:Act) (w0:World) (C:World->Prop) (env:List (Option Tmp × VP)) (o:Oper) (V:VP):Prop:=
 ∀ a w,C w->Keep Sw w0 w->Rds env a0 (zA o) a w->∀ K:Act->World->Prop,(∀ u w',Keep Sw w w'->C w'->V u w'->K (a.put o.dst u) w')->opw o a w K
def isV (env:List (Option Tmp × VP)) (j:Nat) (x:Value):Prop:=match env[j]? with | some (_,V)=>∀ u w,V u w->u=x | none=>False
def stepOk (Sw:Nat->Prop) (opw:Oper->Act->World->(Act->World->Prop)->Prop) (a0:Act) (w0:World) (C:World->Prop) (env:List (Option Tmp × VP)) (o:Oper) (V:VP):Prop:=
 match o.guard with
 | none=>headOk Sw opw a0 w0 C env o V
 | some (j,b)=>(isV env j (.bool b)/\headOk Sw opw a0 w0 C env o V)\/((isV env j (.bool !b)\/isV env j undef)/\V=fun u _=>u=undef)
def finG (F:Act->World->Prop) (w:World):List (Option Tmp × VP)->Act->Prop
 | [],a=>F a w
 | (none,_)::r,a=>finG F w r a
 | (some d,V)::r,a=>∀ u,V u w->finG F w r (a.put (some d) u)
def walkG (Sw:Nat->Prop) (opw:Oper->Act->World->(Act->World->Prop)->Prop) (a0:Act) (w0:World) (C:World->Prop) (F:Act->World->Prop):List Oper->List (Option Tmp × VP)->Prop
 | [],env=>∀ w,C w->Keep Sw w0 w->finG F w env a0
 | o::l,env=>∃ V:VP,(∀ u w w',V u w->Keep Sw w w'->V u w')/\stepOk Sw opw a0 w0 C env o V/\walkG Sw opw a0 w0 C F l (env++[(o.dst,V)])
section
variable {Sw:Nat->Prop} {ops:Array Oper} {nh:Nat} {a0:Act} {w0:World} {C:World->Prop}
@[reducible] def zoB (Sw:Nat->Prop):Pl.Kpo World:=⟨Keep Sw,Keep.refl Sw,fun _ _ _ h k=>h.trans k⟩
theorem zoO:∀(env:List (Option Tmp × VP)) (t:Tmp),@Pl.lk World env t=lk env t
 | [],t=>rfl
 | (d,V)::r,t=>by
   rw [lk,Pl.lk,zoO r t]
theorem zop (env:List (Option Tmp × VP)) (a0:Act):∀(ts:List Tmp) (a:Act) (w:World),@Pl.Rds World env a0 ts a w=Rds env a0 ts a w
 | [],a,w=>rfl
 | t::ts,a,w=>by
   rw [Rds,Pl.Rds,zop env a0 ts a w,zoO]
   cases lk env t<;>rfl
theorem zoV (env:List (Option Tmp × VP)) (j:Nat) (x:Value):@Pl.isV World env j x=isV env j x:=by
 unfold isV Pl.isV
 cases env[j]?<;>rfl
theorem zoy {opw:Oper->Act->World->(Act->World->Prop)->Prop} {env:List (Option Tmp × VP)} {o:Oper} {V:VP}:@Pl.headOk World (zoB Sw) opw a0 w0 C env o V=headOk Sw opw a0 w0 C env o V:=by
 unfold headOk Pl.headOk
 simp only [zop]
 rfl
theorem zoI {opw:Oper->Act->World->(Act->World->Prop)->Prop} {env:List (Option Tmp × VP)} {o:Oper} {V:VP}:@Pl.stepOk World (zoB Sw) opw a0 w0 C env o V=stepOk Sw opw a0 w0 C env o V:=by
 unfold stepOk Pl.stepOk
 rw [zoy]
 cases o.guard with
 | none=>rfl
 | some p=>
   obtain⟨j,b⟩:=p
   simp only [zoV]
theorem znS {F:Act->World->Prop} {w:World}:∀(env:List (Option Tmp × VP)) (a:Act),@Pl.finG World F w env a=finG F w env a
 | [],a=>rfl
 | (none,_)::r,a=>by rw [finG,Pl.finG,znS r a]
 | (some d,V)::r,a=>by
   rw [finG,Pl.finG]
   simp only [znS r]
theorem znZ {opw:Oper->Act->World->(Act->World->Prop)->Prop} {F:Act->World->Prop}:∀(l:List Oper) (env:List (Option Tmp × VP)),walkG Sw opw a0 w0 C F l env->@Pl.walkG World (zoB Sw) opw a0 w0 C F l env
 | [],env,h=>fun w hc hk=>by rw [znS];exact h w hc hk
 | o::l,env,⟨V,h1,h2,h3⟩=>⟨V,h1,by rw [zoI];exact h2,znZ l _ h3⟩
theorem gready {nt:Nat} {l:List Oper} (hO:ops=l.toArray) (opw:Oper->Act->World->(Act->World->Prop)->Prop) (step:Nat->(Act->World->Prop)->Act->World->Prop) (W:Nat->Array Bool->Act->World->Prop) (Qn:Act->World->Prop) (T:Nat->Act->World->Prop)
 (hstep:∀ i o K a w,ops[i]? = some o->(if Region.wanted o (yielded ops a.tmps) then opw o a w K else K (a.put o.dst undef) w)->step i K a w)
 (hmono:∀ i K K' a w,(∀ a w,K a w->K' a w)->step i K a w->step i K' a w)
 (hW0:∀ listed a w,Region.ready .any ops listed=[]->Qn a w->W 0 listed a w)
 (hW:∀ fuel listed a w,(Region.ready .any ops listed=[]->Qn a w)->(∀ i ∈ Region.ready .any ops listed,step i (W fuel (listed.setIfInBounds i true)) a w)->W (fuel+1) listed a w)
 (hT:∀ k a w,k<ops.size->T k a w->step k (T (k+1)) a w) (hT0:∀ a w,T ops.size a w->Qn a w)
 (hchk:xk ops nh nt=true) (hct:yK ops nh=true) (hnt:a0.tmps.size=nt) (hC:C w0)
 (h:walkG Sw opw a0 w0 C (T nh) (l.take nh) []):W ops.size (Array.replicate ops.size false) a0 w0:=
 @Pl.gready World (zoB Sw) ops nh a0 w0 C nt l hO opw step W Qn T hstep hmono hW0 hW hT hT0 hchk hct hnt hC (znZ _ _ h)
end
theorem Kg {Sw:Nat->Prop} {P:Program} {id:Nat} {l:List Oper} {Q:Exit->Act->World->Prop} {a:Act} {w:World} (nh nt:Nat) (C:World->Prop) (hm:P.follows .mixedOrders=true)
 (hB:(xk l.toArray nh nt && yK l.toArray nh)=true) (hnt:a.tmps.size=nt) (hC:C w.drew)
 (h:walkG Sw (fun o a w K=>o.wp P a w K Q) a w.drew C (fun a w=>wpList P l.toArray Q (l.drop nh) a w) (l.take nh) []):(Code.region id l.toArray true).wp P Q a w:=by
 rw [Bool.and_eq_true] at hB
 refine wp_region_any hm ?_
 refine gready (ops:=l.toArray) (a0:=a) (w0:=w.drew) (C:=C) rfl (fun o a w K=>o.wp P a w K Q) (wpOp P l.toArray Q) (wpAny P .any l.toArray Q) (fun a w=>Q .normal a w) (fun k a w=>wpList P l.toArray Q (l.drop k) a w)
  ?_ (fun i K K' a w hk hs=>wpOp_mono hk hs) (fun listed a w h1 h2=>⟨h1,h2⟩) (fun fuel listed a w h1 h2=>⟨h1,h2⟩) ?_ ?_ hB.1 hB.2 hnt hC h
 ·intro i o K a w ho hs
  unfold wpOp
  simp only [ho]
  split
  ·rename_i hw;rw [if_pos hw] at hs;exact .inl hs
  ·rename_i hw;rw [if_neg hw] at hs;exact hs
 ·intro k a w hk ht
  have hk':k<l.length:=by simpa using hk
  simp only [List.drop_eq_getElem_cons hk',wpList] at ht
  unfold wpOp
  simp only [List.getElem?_toArray,List.getElem?_eq_getElem hk']
  exact ht
 ·intro a w ht
  simpa [wpList] using ht
theorem Kh {Sw:Nat->Prop} {P:Program} {F:Fence} {n:Nat} (hF:∀ f,F.fn f) {id:Nat} {l:List Oper} {Q:Exit->Act->World->Prop} {a:Act} {w:World} (nh nt:Nat) (C:World->Prop) (hm:P.follows .mixedOrders=true)
 (hB:(xk l.toArray nh nt && yK l.toArray nh)=true) (hnt:a.tmps.size=nt) (hC:C w.drew)
 (h:walkG Sw (fun o a w K=>o.wpIn F n P a w K Q) a w.drew C (fun a w=>wpListIn F n P l.toArray Q (l.drop nh) a w) (l.take nh) []):(Code.region id l.toArray true).wpIn F n P Q a w:=by
 rw [Bool.and_eq_true] at hB
 refine wpIn_region_any hm ?_
 refine gready (ops:=l.toArray) (a0:=a) (w0:=w.drew) (C:=C) rfl (fun o a w K=>o.wpIn F n P a w K Q) (wpOpIn F n P l.toArray Q) (wpAnyIn F n P .any l.toArray Q) (fun a w=>Q .normal a w) (fun k a w=>wpListIn F n P l.toArray Q (l.drop k) a w)
  ?_ (fun i K K' a w hk hs=>wpOpIn_mono hk hs) (fun listed a w h1 h2=>⟨h1,h2⟩) (fun fuel listed a w h1 h2=>⟨h1,h2⟩) ?_ ?_ hB.1 hB.2 hnt hC h
 ·intro i o K a w ho hs
  unfold wpOpIn
  simp only [ho]
  split
  ·rename_i hw;rw [if_pos hw] at hs;exact hs
  ·rename_i hw;rw [if_neg hw] at hs;exact⟨fun f _=>hF f,hs⟩
 ·intro k a w hk ht
  have hk':k<l.length:=by simpa using hk
  simp only [List.drop_eq_getElem_cons hk',wpListIn] at ht
  unfold wpOpIn
  simp only [List.getElem?_toArray,List.getElem?_eq_getElem hk']
  exact ht
 ·intro a w ht
  simpa [wpListIn] using ht
section
variable {Sw:Nat->Prop} {P:Program} {Q:Exit->Act->World->Prop} {a0:Act} {w0:World} {C:World->Prop} {F:Act->World->Prop} {l:List Oper} {o:Oper} {env:List (Option Tmp × VP)}
abbrev xC (P:Program) (Q:Exit->Act->World->Prop):Oper->Act->World->(Act->World->Prop)->Prop:=fun o a w K=>o.wp P a w K Q
abbrev zdw (G:Fence) (n:Nat) (P:Program) (Q:Exit->Act->World->Prop):Oper->Act->World->(Act->World->Prop)->Prop:=fun o a w K=>o.wpIn G n P a w K Q
theorem yj (v:Value):∀(u:Value) (w w':World),(fun(u:Value) (_:World)=>u=v) u w->Keep Sw w w'->(fun(u:Value) (_:World)=>u=v) u w':=fun _ _ _ h _=>h
theorem zG {j:Nat} {d:Option Tmp} {v x:Value} (h:env[j]? = some (d,fun u _=>u=v)) (e:v=x):isV env j x:=by unfold isV;rw [h];exact fun u _ h=>h.trans e
theorem Vc (v:Value) (h:∀ a w,C w->Keep Sw w0 w->Rds env a0 (zA o) a w->(execOp a.eval o).run P w=.ok (.value v) w):headOk Sw (xC P Q) a0 w0 C env o (fun u _=>u=v):=by
 intro a w hc hk hr K hK
 show o.upon P a K Q ((execOp a.eval o).run P w)
 rw [h a w hc hk hr]
 exact hK v w (Keep.refl _ _) hc rfl
theorem Yu {G:Fence} {n:Nat} (hG:∀ f,G.fn f) (v:Value) (h:∀ a w,C w->Keep Sw w0 w->Rds env a0 (zA o) a w->(o.semAt G.round a.eval).run P w=.ok (.value v) w):headOk Sw (zdw G n P Q) a0 w0 C env o (fun u _=>u=v):=by
 intro a w hc hk hr K hK
 refine⟨fun f _=>hG f,?_⟩
 rw [h a w hc hk hr]
 exact hK v w (Keep.refl _ _) hc rfl
theorem zev (v:Value) (hg:o.guard=none) (h:∀ a w,C w->Keep Sw w0 w->Rds env a0 (zA o) a w->(execOp a.eval o).run P w=.ok (.value v) w)
 (hn:walkG Sw (xC P Q) a0 w0 C F l (env++[(o.dst,fun u _=>u=v)])):walkG Sw (xC P Q) a0 w0 C F (o::l) env:=
 ⟨_,yj v,by unfold stepOk;rw [hg];exact Vc v h,hn⟩
theorem V5 {G:Fence} {n:Nat} (hG:∀ f,G.fn f) (v:Value) (hg:o.guard=none) (h:∀ a w,C w->Keep Sw w0 w->Rds env a0 (zA o) a w->(o.semAt G.round a.eval).run P w=.ok (.value v) w)
 (hn:walkG Sw (zdw G n P Q) a0 w0 C F l (env++[(o.dst,fun u _=>u=v)])):walkG Sw (zdw G n P Q) a0 w0 C F (o::l) env:=
 ⟨_,yj v,by unfold stepOk;rw [hg];exact Yu hG v h,hn⟩
theorem V6 {j:Nat} {b:Bool} (hg:o.guard=some (j,b)) (hj:isV env j (.bool b)) (v:Value) (h:∀ a w,C w->Keep Sw w0 w->Rds env a0 (zA o) a w->(execOp a.eval o).run P w=.ok (.value v) w)
 (hn:walkG Sw (xC P Q) a0 w0 C F l (env++[(o.dst,fun u _=>u=v)])):walkG Sw (xC P Q) a0 w0 C F (o::l) env:=
 ⟨_,yj v,by unfold stepOk;rw [hg];exact .inl ⟨hj,Vc v h⟩,hn⟩
theorem QQ {G:Fence} {n:Nat} (hG:∀ f,G.fn f) {j:Nat} {b:Bool} (hg:o.guard=some (j,b)) (hj:isV env j (.bool b)) (v:Value) (h:∀ a w,C w->Keep Sw w0 w->Rds env a0 (zA o) a w->(o.semAt G.round a.eval).run P w=.ok (.value v) w)
 (hn:walkG Sw (zdw G n P Q) a0 w0 C F l (env++[(o.dst,fun u _=>u=v)])):walkG Sw (zdw G n P Q) a0 w0 C F (o::l) env:=
 ⟨_,yj v,by unfold stepOk;rw [hg];exact .inl ⟨hj,Yu hG v h⟩,hn⟩
theorem jI {opw:Oper->Act->World->(Act->World->Prop)->Prop} {j:Nat} {b:Bool} (hg:o.guard=some (j,b)) (hj:isV env j (.bool !b)\/isV env j undef)
 (hn:walkG Sw opw a0 w0 C F l (env++[(o.dst,fun u _=>u=undef)])):walkG Sw opw a0 w0 C F (o::l) env:=
 ⟨_,yj undef,by unfold stepOk;rw [hg];exact .inr ⟨hj,rfl⟩,hn⟩
theorem V7 {opw:Oper->Act->World->(Act->World->Prop)->Prop} (V:VP) (hs:∀ u w w',V u w->Keep Sw w w'->V u w') (hg:o.guard=none)
 (h:headOk Sw opw a0 w0 C env o V) (hn:walkG Sw opw a0 w0 C F l (env++[(o.dst,V)])):walkG Sw opw a0 w0 C F (o::l) env:=
 ⟨V,hs,by unfold stepOk;rw [hg];exact h,hn⟩
theorem zhg {opw:Oper->Act->World->(Act->World->Prop)->Prop} {j:Nat} {b:Bool} (V:VP) (hs:∀ u w w',V u w->Keep Sw w w'->V u w') (hg:o.guard=some (j,b)) (hj:isV env j (.bool b))
 (h:headOk Sw opw a0 w0 C env o V) (hn:walkG Sw opw a0 w0 C F l (env++[(o.dst,V)])):walkG Sw opw a0 w0 C F (o::l) env:=
 ⟨V,hs,by unfold stepOk;rw [hg];exact .inl ⟨hj,h⟩,hn⟩
end
theorem Jz {G G':Prop} (k:G') (e:Hd G'->G:=by
 intro k_
 repeat (first
  | (refine zev ?_ rfl (fun a w hc _ hr=>?_) ?_;rotate_left;(simp [Rds,zA,lk,Op.operands,Call.operands,RdEq] at hr;go_simp;with_reducible rfl);dsimp only [List.nil_append,List.cons_append])
  | (refine jI rfl ?_ ?_;(first | exact .inl (zG rfl rfl) | exact .inr (zG rfl rfl));dsimp only [List.nil_append,List.cons_append])
  | (refine V6 rfl ?_ ?_ (fun a w hc _ hr=>?_) ?_;exact(zG rfl rfl);rotate_left;(simp [Rds,zA,lk,Op.operands,Call.operands,RdEq] at hr;go_simp;with_reducible rfl);dsimp only [List.nil_append,List.cons_append]))
 exact k_.h):G:=e ⟨k⟩
end Go.Proofs.YtonhfknjcbakiaaGreatDoor
