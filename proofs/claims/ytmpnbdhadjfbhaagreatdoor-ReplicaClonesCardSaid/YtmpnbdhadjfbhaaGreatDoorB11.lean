import Derived.Sort.WalkA
import Derived.Sort.WalkA6
import Derived.Sort.WalkC
import Derived.Sort.WalkC4
import Derived.Sort.Walk7
import Derived.Sort.WalkB2
import Derived.Sort.WalkB3
import Derived.Sort.WalkD2
import Derived.Test.YtmpnbdhadjfbhaaGreatDoorB10
set_option maxHeartbeats 16000000
set_option linter.all false
namespace Go.Proofs.YtmpnbdhadjfbhaaGreatDoor
def tE:=@Go.Calls.quiet_of_same
def tG:=@Go.World.drewN_drewN
def tW:=@Go.RowKit.cell?_setCell_some
def Tg:=@Go.Sort.frozen?_putRow
def Tl:=@Go.Sort.size_siftDown
def Tn:=@Go.Sort.putRow_ahead_putRow
def Tz:=@Go.Sort.cell?_putRow
open Go.Proofs.Tryz
open Go.Proofs.Tryz renaming prog->xt
section
open Go.RowKit Go.Sort
def vV(zc o K a b:Nat)(d:Array Int)(w:World)(I:Holds zg w zc o d)(ab:a<=b)(hb:b<=d.size)(ai:d.size<4611686018427387904):
 Calls xt 183 #[.slice (some ⟨zc,o,none⟩) d.size K,.int .i64 a,.int .i64 b] w λe w'=>
  e=.returned (.tuple #[])/\∃n,w'=putRow zg (Sort.ahead w n) zc o (Sort.insertionSort ltInt d a b):=by
 go_enter func183,ntmps183
 go_wp2
 go_loopw [6] (λS wr=>∃(i n:Nat) (B:Array Int),S=.int .i64 i/\a<i/\i<=b+1/\B.size=d.size/\wr=putRow zg (Sort.ahead w n) zc o B /\
  insOuter ltInt a b i B=insOuter ltInt a b (a+1) d) (λS _=>b+1-(intOf S).toNat)
 case atStart=>exact⟨a+1,0,d,by go_num,a8,a8,rfl,(Te _ _ _ _ _ I).symm,rfl⟩
 case round=>
  obtain⟨i,n,B,rfl,ac,ag,Q,aj,hO⟩:=hrel;have X:qA (insOuter ltInt a b i B=insOuter ltInt a b (a+1) d):=hO;clear hO
  go_wp2
  ·
   go_loopw [7] (λT U=>∃(j m:Nat) (u:Array Int),T=.int .i64 j/\a<=j/\j<=i/\u.size=d.size/\U=putRow zg (Sort.ahead w m) zc o u /\
    insInner ltInt a j u=insInner ltInt a i B) (λT _=>(intOf T).toNat)
   case atStart=>exact⟨i,n,B,rfl,a8,Zp _,Q,rfl,rfl⟩
   case round=>
    obtain⟨j,m,u,rfl,ad,ah,E,A,Z⟩:=hrel;have P:i<b:=b9;obtain⟨G,L⟩:∃G:Nat->Int,∀t,G t=u[t]!:=⟨λt=>u[t]!,λ_=>rfl⟩;have ae:∀t,t<d.size->wr.cell? ⟨zc,o+t,none⟩=some (.int .u64 (G t)):=λt ht=>(by rw[A,L];exact Tz _ _ _ _ d u (tP _ _ _ _ _ _ I) E t a8);have af:∀t,t<d.size->wr.frozen? ⟨zc,o+t,none⟩=false:=λt ht=>(by rw[A,Tg];exact((tP _ _ m _ _ _ I) t ht).2);have Y:qA (wr=putRow zg (Sort.ahead w m) zc o u):=A;have HG:qA (∀t,G t=u[t]!):=L;have V:qA (insInner ltInt a j u=insInner ltInt a i B):=Z;clear A L Z I;have H:(j<=a\/ltInt u[j]! u[j-1]! = false)->∀q,∃J n' C,Value.int .i64 ((i:Int)+1)=.int .i64 (J:Nat)/\a<J/\J<=b+1/\C.size=d.size /\
     wr.drewN q=putRow zg (Sort.ahead w n') zc o C/\insOuter ltInt a b J C=insOuter ltInt a b (a+1) d:=λhs q=>
     ⟨i+1,m+q,u,by go_num,a8,a8,E,by rw[Y.o];exact putRow_drewN _ _ _ _ _ _ _,
      by rw[<-X.o,insOuter_go _ _ _ _ _ P,<-V.o,insInner_stop _ _ _ _ hs]⟩
    have F:qA _:=H;clear H
    go_wp2;by_cases N:a<j
    .go_quiet (first|(go_at_call 189;refine tE (za _ _ _)))
     go_wp2
     ·
      have O:ltInt (G j) (G (j-1))=true:=b9;go_region;all_goals go_wp2
      go_roundw
      case rel=>
       refine⟨j-1,m+(nq+1),swp u j (j-1),by congr 1;omega,a8,a8,by rw[tS];exact E,?_,?_⟩
       .rw[Y.o,HG.o,HG.o];exact swap_worldA _ w m (nq+1) zc o u j (j-1) a8 a8
       .rw[<-V.o,insInner_go ltInt a j u N (by rw[<-HG.o,<-HG.o];exact O)]
      case measure=>simp[intOf];omega
     ·
      have O:ltInt (G j) (G (j-1))=false:=b9
      go_roundw
      case rel=>exact F.o (Or.inr (by rw[<-HG.o,<-HG.o];exact O)) nq
      case measure=>simp[intOf];omega
    .go_quiet (first|(go_at_call 189;refine tE (za _ _ _)))
     go_wp2
     go_roundw
     case rel=>exact F.o (Or.inl a8) nq
     case measure=>simp[intOf];omega
  ·
   have M:¬i<b:=b9
   go_end0
   exact⟨rfl,n,by unfold Sort.insertionSort;rw[<-X.o,insOuter_stop _ _ _ _ _ M]⟩
set_option maxRecDepth 100000 in
def yE(zc o ai a b:Nat)(d:Array Int)(w:World)(hH:Holds zg w zc o d)(an:a<b)(hb:b<=d.size)(aw:d.size<4611686018427387904):
 Calls xt 188 #[.slice (some ⟨zc,o,none⟩) d.size ai,.int .i64 a,.int .i64 b] w λe w'=>
  e=.returned (.bool (Sort.partialInsertionSort ltInt d a b).2)/\∃n,w'=putRow zg (Sort.ahead w n) zc o (Sort.partialInsertionSort ltInt d a b).1:=by
 have S:qA (Holds zg w zc o d):=hH;have ah:qA (w=putRow zg (Sort.ahead w 0) zc o d):=(Te _ _ _ _ _ hH).symm;clear hH;go_enter func188,ntmps188
 go_wp2
 go_loopw [7,8] (λvi vs wr=>∃(i s n:Nat) (A:Array Int),vi=.int .i64 i/\vs=.int .i64 s/\s<=5/\a<i/\i<=b/\A.size=d.size/\wr=putRow zg (Sort.ahead w n) zc o A /\
  partialIns ltInt a b (5-s) i A=partialIns ltInt a b 5 (a+1) d) (λ_ vs _=>5-(intOf vs).toNat)
 case atStart=>exact⟨a+1,0,0,d,by go_num,rfl,a8,a8,a8,rfl,ah.o,rfl⟩
 case round=>
  obtain⟨i,s,n,A,rfl,rfl,av,ao,aj,ag,ax,hO⟩:=hrel;have O:qA (partialIns ltInt a b (5-s) i A=partialIns ltInt a b 5 (a+1) d):=hO;clear hO
  go_wp2
  ·
   have hs:s<5:=a8
   go_loopw [7] (λvi L=>∃(k m:Nat),vi=.int .i64 k/\i<=k/\k<=b/\L=putRow zg (Sort.ahead w m) zc o A/\scanSorted ltInt A b k=scanSorted ltInt A b i) (λvi _=>b-(intOf vi).toNat)
   case atStart=>exact⟨i,n,rfl,Zp _,aj,rfl,rfl⟩
   case round=>
    obtain⟨k,m,rfl,aq,au,K,hS⟩:=hrel;obtain⟨G,I⟩:∃G:Nat->Int,∀t,G t=A[t]!:=⟨λt=>A[t]!,λ_=>rfl⟩;have U:∀t,t<d.size->wr.cell? ⟨zc,o+t,none⟩=some (.int .u64 (G t)):=λt ht=>(by rw[K,I];exact Tz _ _ _ _ d A (tP _ _ _ _ _ _ S.o) ag t a8);have V:∀t,t<d.size->wr.frozen? ⟨zc,o+t,none⟩=false:=λt ht=>(by rw[K,Tg];exact((tP _ _ m _ _ _ S.o) t ht).2);have B:qA (wr=putRow zg (Sort.ahead w m) zc o A):=K;have HG:qA (∀t,G t=A[t]!):=I;have HS:qA (scanSorted ltInt A b k=scanSorted ltInt A b i):=hS;clear K I hS
    go_wp2;by_cases ae:k<b
    ·go_quiet (first | (go_at_call 189;refine tE (za _ _ _)))
     go_wp2;all_goals first
      | (at_end
         have J:ltInt (G k) (G (k-1))=false:=(by have h:(!ltInt (G k) (G (k-1)))=true:=b9;simpa using h)
         go_roundw
         case rel=>exact⟨k+1,m+nq,by go_num,a8,a8,by rw[B.o];exact putRow_drewN _ _ _ _ _ _ _,by rw[<-HS.o,scanSorted_go ltInt A b k ae (by rw[<-HG.o,<-HG.o];exact J)]⟩
         case measure=>simp[intOf];omega)
      | (have J:ltInt (G k) (G (k-1))=true:=by have h:(!ltInt (G k) (G (k-1)))=false:=b9;simpa using h
         have T:qA (scanSorted ltInt A b i=k):=(by show scanSorted ltInt A b i=k;rw[<-HS.o,scanSorted_stop ltInt A b k (Or.inr (by rw[<-HG.o,<-HG.o];exact J))]);first
          | (at_ret
             have hv:Sort.partialInsertionSort ltInt d a b=(A,false):=(by unfold Sort.partialInsertionSort;rw[<-O.o,pi_short ltInt a b s i A hs (by rw[T.o];omega) a8]);rw[hv];go_ret;exact⟨rfl,m+nq,by rw[B.o];exact putRow_drewN _ _ _ _ _ _ _⟩)
          | (at_region 11
             have am:¬b-a<50:=a8;go_region;have ak:((wr.drewN (nq+1)).setCell ⟨zc,o+k,none⟩ (.int .u64 (G (k-1)))).setCell ⟨zc,o+(k-1),none⟩ (.int .u64 (G k))=putRow zg (Sort.ahead w (m+(nq+1))) zc o (swp A k (k-1)):=(by rw[B.o,HG.o,HG.o];exact swap_worldA _ w m (nq+1) zc o A k (k-1) a8 a8);have Z:(swp A k (k-1)).size=d.size:=(by rw[tS];exact ag)
             go_wp2;all_goals first
              | (at_loop
                 have ad:k-a≥2:=a8
                 go_loopw [9] (λM L=>∃(j m2:Nat) (C:Array Int),M=.int .i64 j/\j<=k-1/\C.size=d.size/\L=putRow zg (Sort.ahead w m2) zc o C /\
                  shiftDown ltInt j C=shiftDown ltInt (k-1) (swp A k (k-1))) (λM _=>(intOf M).toNat)
                 case atStart=>exact⟨k-1,_,(swp A k (k-1)),by congr 1;omega,Zp _,Z,rfl,rfl⟩
                 case round=>
                  obtain⟨j,m2,C,rfl,ar,N,K,ab⟩:=hrel;obtain⟨G,I⟩:∃G:Nat->Int,∀t,G t=C[t]!:=⟨λt=>C[t]!,λ_=>rfl⟩;have U:∀t,t<d.size->wr.cell? ⟨zc,o+t,none⟩=some (.int .u64 (G t)):=λt ht=>(by rw[K,I];exact Tz _ _ _ _ d C (tP _ _ _ _ _ _ S.o) N t a8);have V:∀t,t<d.size->wr.frozen? ⟨zc,o+t,none⟩=false:=λt ht=>(by rw[K,Tg];exact((tP _ _ m2 _ _ _ S.o) t ht).2);have B:qA (wr=putRow zg (Sort.ahead w m2) zc o C):=K;have HG:qA (∀t,G t=C[t]!):=I;have Y:qA (shiftDown ltInt j C=shiftDown ltInt (k-1) (swp A k (k-1))):=ab;clear K I ab ak
                  go_wp2;all_goals first
                   | (at_region 16
                      go_quiet (first|(go_at_call 189;refine tE (za _ _ _)))
                      go_wp2;all_goals first
                       | (at_region 17
                          have J:ltInt (G j) (G (j-1))=true:=(by have h:(!ltInt (G j) (G (j-1)))=false:=b9;simpa using h);go_region;all_goals go_wp2
                          go_roundw
                          case rel=>
                           refine⟨j-1,m2+(nq+1),swp C j (j-1),by congr 1;omega,a8,by rw[tS];exact N,?_,?_⟩
                           .rw[B.o,HG.o,HG.o];exact swap_worldA _ w m2 (nq+1) zc o C j (j-1) a8 a8
                           .rw[<-Y.o,shiftDown_go ltInt j C a8 (by rw[<-HG.o,<-HG.o];exact J)]
                          case measure=>simp[intOf];omega)
                       |(-- break
                          have J:ltInt (G j) (G (j-1))=false:=(by have h:(!ltInt (G j) (G (j-1)))=true:=b9;simpa using h);have P:qA (fixDown ltInt a k (swp A k (k-1))=C):=(by show fixDown ltInt a k (swp A k (k-1))=C;unfold fixDown;rw[Vm ad,<-Y.o,shiftDown_stop ltInt j C (Or.inr (by rw[<-HG.o,<-HG.o];exact J))]);first
                           | (at_end
                              go_roundw
                              case rel=>refine⟨k,s+1,_,C,rfl,by go_num,a8,a8,a8,N,(by first|rfl|exact B.o|(rw[B.o];exact putRow_drewN _ _ _ _ _ _ _)),?_⟩;rw[<-O.o,pi_go ltInt a b s i k A hs T.o a8 a8,P.o,show fixUp ltInt b k C=C from by unfold fixUp;rw[Vq a8]]
                              case measure=>simp[intOf];omega)
                           | (at_loop
                              go_loopw [10] (λM L=>∃(j H:Nat) (u:Array Int),M=.int .i64 j/\k+1<=j/\j<=b/\u.size=d.size/\L=putRow zg (Sort.ahead w H) zc o u /\
                               shiftUp ltInt b j u=shiftUp ltInt b (k+1) C) (λM _=>b-(intOf M).toNat)
                              case atStart=>exact⟨k+1,_,C,by go_num,Zp _,a8,N,(by first|rfl|exact B.o|(rw[B.o];exact putRow_drewN _ _ _ _ _ _ _)),rfl⟩
                              case round=>
                               obtain⟨j,H,u,rfl,af,ac,E,F,X⟩:=hrel;obtain⟨G,I⟩:∃G:Nat->Int,∀t,G t=u[t]!:=⟨λt=>u[t]!,λ_=>rfl⟩;have U:∀t,t<d.size->wr.cell? ⟨zc,o+t,none⟩=some (.int .u64 (G t)):=λt ht=>(by rw[F,I];exact Tz _ _ _ _ d u (tP _ _ _ _ _ _ S.o) E t a8);have V:∀t,t<d.size->wr.frozen? ⟨zc,o+t,none⟩=false:=λt ht=>(by rw[F,Tg];exact((tP _ _ H _ _ _ S.o) t ht).2);have B:qA (wr=putRow zg (Sort.ahead w H) zc o u):=F;have HG:qA (∀t,G t=u[t]!):=I;have Q:qA (shiftUp ltInt b j u=shiftUp ltInt b (k+1) C):=X;clear F I X
                               go_wp2;all_goals first
                                | (at_region 22
                                   go_quiet (first|(go_at_call 189;refine tE (za _ _ _)))
                                   go_wp2;all_goals first
                                    | (at_region 23
                                       have J:ltInt (G j) (G (j-1))=true:=(by have h:(!ltInt (G j) (G (j-1)))=false:=b9;simpa using h);go_region;all_goals go_wp2
                                       go_roundw
                                       case rel=>
                                        refine⟨j+1,H+(nq+1),swp u j (j-1),by go_num,a8,a8,by rw[tS];exact E,?_,?_⟩
                                        .rw[B.o,HG.o,HG.o];exact swap_worldA _ w H (nq+1) zc o u j (j-1) a8 a8
                                        .rw[<-Q.o,shiftUp_go ltInt b j u a8 (by rw[<-HG.o,<-HG.o];exact J)]
                                       case measure=>simp[intOf];omega)
                                    | (at_end
                                       have J:ltInt (G j) (G (j-1))=false:=(by have h:(!ltInt (G j) (G (j-1)))=true:=b9;simpa using h)
                                       go_roundw
                                       case rel=>refine⟨k,s+1,_,u,rfl,by go_num,a8,a8,a8,E,(by first|rfl|exact B.o|(rw[B.o];exact putRow_drewN _ _ _ _ _ _ _)),?_⟩;rw[<-O.o,pi_go ltInt a b s i k A hs T.o a8 a8,P.o,show fixUp ltInt b k C=u from by unfold fixUp;rw[Vm a8,<-Q.o,shiftUp_stop ltInt b j u (Or.inr (by rw[<-HG.o,<-HG.o];exact J))]]
                                       case measure=>simp[intOf];omega))
                                | (at_end
                                   go_roundw
                                   case rel=>refine⟨k,s+1,_,u,rfl,by go_num,a8,a8,a8,E,(by first|rfl|exact B.o|(rw[B.o];exact putRow_drewN _ _ _ _ _ _ _)),?_⟩;rw[<-O.o,pi_go ltInt a b s i k A hs T.o a8 a8,P.o,show fixUp ltInt b k C=u from by unfold fixUp;rw[Vm a8,<-Q.o,shiftUp_stop ltInt b j u (Or.inl a8)]]
                                   case measure=>simp[intOf];omega))))
                   |(-- j<1
                      have P:qA (fixDown ltInt a k (swp A k (k-1))=C):=(by show fixDown ltInt a k (swp A k (k-1))=C;unfold fixDown;rw[Vm ad,<-Y.o,shiftDown_stop ltInt j C (Or.inl a8)]);first
                       | (at_end
                          go_roundw
                          case rel=>refine⟨k,s+1,_,C,rfl,by go_num,a8,a8,a8,N,(by first|rfl|exact B.o|(rw[B.o];exact putRow_drewN _ _ _ _ _ _ _)),?_⟩;rw[<-O.o,pi_go ltInt a b s i k A hs T.o a8 a8,P.o,show fixUp ltInt b k C=C from by unfold fixUp;rw[Vq a8]]
                          case measure=>simp[intOf];omega)
                       | (at_loop
                          go_loopw [10] (λM L=>∃(j H:Nat) (u:Array Int),M=.int .i64 j/\k+1<=j/\j<=b/\u.size=d.size/\L=putRow zg (Sort.ahead w H) zc o u /\
                           shiftUp ltInt b j u=shiftUp ltInt b (k+1) C) (λM _=>b-(intOf M).toNat)
                          case atStart=>exact⟨k+1,_,C,by go_num,Zp _,a8,N,(by first|rfl|exact B.o|(rw[B.o];exact putRow_drewN _ _ _ _ _ _ _)),rfl⟩
                          case round=>
                           obtain⟨j,H,u,rfl,af,ac,E,F,X⟩:=hrel;obtain⟨G,I⟩:∃G:Nat->Int,∀t,G t=u[t]!:=⟨λt=>u[t]!,λ_=>rfl⟩;have U:∀t,t<d.size->wr.cell? ⟨zc,o+t,none⟩=some (.int .u64 (G t)):=λt ht=>(by rw[F,I];exact Tz _ _ _ _ d u (tP _ _ _ _ _ _ S.o) E t a8);have V:∀t,t<d.size->wr.frozen? ⟨zc,o+t,none⟩=false:=λt ht=>(by rw[F,Tg];exact((tP _ _ H _ _ _ S.o) t ht).2);have B:qA (wr=putRow zg (Sort.ahead w H) zc o u):=F;have HG:qA (∀t,G t=u[t]!):=I;have Q:qA (shiftUp ltInt b j u=shiftUp ltInt b (k+1) C):=X;clear F I X
                           go_wp2;all_goals first
                            | (at_region 22
                               go_quiet (first|(go_at_call 189;refine tE (za _ _ _)))
                               go_wp2;all_goals first
                                | (at_region 23
                                   have J:ltInt (G j) (G (j-1))=true:=(by have h:(!ltInt (G j) (G (j-1)))=false:=b9;simpa using h);go_region;all_goals go_wp2
                                   go_roundw
                                   case rel=>
                                    refine⟨j+1,H+(nq+1),swp u j (j-1),by go_num,a8,a8,by rw[tS];exact E,?_,?_⟩
                                    .rw[B.o,HG.o,HG.o];exact swap_worldA _ w H (nq+1) zc o u j (j-1) a8 a8
                                    .rw[<-Q.o,shiftUp_go ltInt b j u a8 (by rw[<-HG.o,<-HG.o];exact J)]
                                   case measure=>simp[intOf];omega)
                                | (at_end
                                   have J:ltInt (G j) (G (j-1))=false:=(by have h:(!ltInt (G j) (G (j-1)))=true:=b9;simpa using h)
                                   go_roundw
                                   case rel=>refine⟨k,s+1,_,u,rfl,by go_num,a8,a8,a8,E,(by first|rfl|exact B.o|(rw[B.o];exact putRow_drewN _ _ _ _ _ _ _)),?_⟩;rw[<-O.o,pi_go ltInt a b s i k A hs T.o a8 a8,P.o,show fixUp ltInt b k C=u from by unfold fixUp;rw[Vm a8,<-Q.o,shiftUp_stop ltInt b j u (Or.inr (by rw[<-HG.o,<-HG.o];exact J))]]
                                   case measure=>simp[intOf];omega))
                            | (at_end
                               go_roundw
                               case rel=>refine⟨k,s+1,_,u,rfl,by go_num,a8,a8,a8,E,(by first|rfl|exact B.o|(rw[B.o];exact putRow_drewN _ _ _ _ _ _ _)),?_⟩;rw[<-O.o,pi_go ltInt a b s i k A hs T.o a8 a8,P.o,show fixUp ltInt b k C=u from by unfold fixUp;rw[Vm a8,<-Q.o,shiftUp_stop ltInt b j u (Or.inl a8)]]
                               case measure=>simp[intOf];omega))))
              |(-- i-a<2
                 have P:qA (fixDown ltInt a k (swp A k (k-1))=(swp A k (k-1))):=(by show fixDown ltInt a k (swp A k (k-1))=(swp A k (k-1));unfold fixDown;rw[Vq a8]);first
                  | (at_end
                     go_roundw
                     case rel=>refine⟨k,s+1,_,(swp A k (k-1)),rfl,by go_num,a8,a8,a8,Z,(by first|rfl|exact B.o|(rw[B.o];exact putRow_drewN _ _ _ _ _ _ _)),?_⟩;rw[<-O.o,pi_go ltInt a b s i k A hs T.o a8 a8,P.o,show fixUp ltInt b k (swp A k (k-1))=(swp A k (k-1)) from by unfold fixUp;rw[Vq a8]]
                     case measure=>simp[intOf];omega)
                  | (at_loop
                     go_loopw [10] (λM L=>∃(j H:Nat) (u:Array Int),M=.int .i64 j/\k+1<=j/\j<=b/\u.size=d.size/\L=putRow zg (Sort.ahead w H) zc o u /\
                      shiftUp ltInt b j u=shiftUp ltInt b (k+1) (swp A k (k-1))) (λM _=>b-(intOf M).toNat)
                     case atStart=>exact⟨k+1,_,(swp A k (k-1)),by go_num,Zp _,a8,Z,(by first|rfl|exact B.o|(rw[B.o];exact putRow_drewN _ _ _ _ _ _ _)),rfl⟩
                     case round=>
                      obtain⟨j,H,u,rfl,af,ac,E,F,X⟩:=hrel;obtain⟨G,I⟩:∃G:Nat->Int,∀t,G t=u[t]!:=⟨λt=>u[t]!,λ_=>rfl⟩;have U:∀t,t<d.size->wr.cell? ⟨zc,o+t,none⟩=some (.int .u64 (G t)):=λt ht=>(by rw[F,I];exact Tz _ _ _ _ d u (tP _ _ _ _ _ _ S.o) E t a8);have V:∀t,t<d.size->wr.frozen? ⟨zc,o+t,none⟩=false:=λt ht=>(by rw[F,Tg];exact((tP _ _ H _ _ _ S.o) t ht).2);have B:qA (wr=putRow zg (Sort.ahead w H) zc o u):=F;have HG:qA (∀t,G t=u[t]!):=I;have Q:qA (shiftUp ltInt b j u=shiftUp ltInt b (k+1) (swp A k (k-1))):=X;clear F I X
                      go_wp2;all_goals first
                       | (at_region 22
                          go_quiet (first|(go_at_call 189;refine tE (za _ _ _)))
                          go_wp2;all_goals first
                           | (at_region 23
                              have J:ltInt (G j) (G (j-1))=true:=(by have h:(!ltInt (G j) (G (j-1)))=false:=b9;simpa using h);go_region;all_goals go_wp2
                              go_roundw
                              case rel=>
                               refine⟨j+1,H+(nq+1),swp u j (j-1),by go_num,a8,a8,by rw[tS];exact E,?_,?_⟩
                               .rw[B.o,HG.o,HG.o];exact swap_worldA _ w H (nq+1) zc o u j (j-1) a8 a8
                               .rw[<-Q.o,shiftUp_go ltInt b j u a8 (by rw[<-HG.o,<-HG.o];exact J)]
                              case measure=>simp[intOf];omega)
                           | (at_end
                              have J:ltInt (G j) (G (j-1))=false:=(by have h:(!ltInt (G j) (G (j-1)))=true:=b9;simpa using h)
                              go_roundw
                              case rel=>refine⟨k,s+1,_,u,rfl,by go_num,a8,a8,a8,E,(by first|rfl|exact B.o|(rw[B.o];exact putRow_drewN _ _ _ _ _ _ _)),?_⟩;rw[<-O.o,pi_go ltInt a b s i k A hs T.o a8 a8,P.o,show fixUp ltInt b k (swp A k (k-1))=u from by unfold fixUp;rw[Vm a8,<-Q.o,shiftUp_stop ltInt b j u (Or.inr (by rw[<-HG.o,<-HG.o];exact J))]]
                              case measure=>simp[intOf];omega))
                       | (at_end
                          go_roundw
                          case rel=>refine⟨k,s+1,_,u,rfl,by go_num,a8,a8,a8,E,(by first|rfl|exact B.o|(rw[B.o];exact putRow_drewN _ _ _ _ _ _ _)),?_⟩;rw[<-O.o,pi_go ltInt a b s i k A hs T.o a8 a8,P.o,show fixUp ltInt b k (swp A k (k-1))=u from by unfold fixUp;rw[Vm a8,<-Q.o,shiftUp_stop ltInt b j u (Or.inl a8)]]
                          case measure=>simp[intOf];omega)))))
    ·
     go_quiet (first|(go_at_call 189;refine tE (za _ _ _)))
     go_wp2;obtain rfl:k=b:=a8;have hv:Sort.partialInsertionSort ltInt d a k=(A,true):=by unfold Sort.partialInsertionSort;rw[<-O.o,pi_true ltInt a k s i A hs (by rw[<-HS.o,scanSorted_stop ltInt A k k (Or.inl a8)])]
     rw[hv];go_ret;exact⟨rfl,m+nq,by rw[B.o];exact putRow_drewN _ _ _ _ _ _ _⟩
  ·
   obtain rfl:s=5:=a8;have hv:Sort.partialInsertionSort ltInt d a b=(A,false):=(by unfold Sort.partialInsertionSort;rw[<-O.o,pi_end]);rw[hv];go_ret;exact⟨rfl,n,rfl⟩
set_option maxRecDepth 100000 in
def vg(zc u aj a b o:Nat)(d:Array Int)(w:World)(hH:Holds zg w zc u d)(ar:a<=o)(aw:o<b)(hb:b<=d.size)(ax:d.size<4611686018427387904):
 Calls xt 190 #[.slice (some ⟨zc,u,none⟩) d.size aj,.int .i64 a,.int .i64 b,.int .i64 o] w λe w'=>
  e=.returned (.int .i64 (Sort.partitionEqual Sort.ltInt d a b o).1)/\∃n,w'=(putRow zg w zc u (Sort.partitionEqual Sort.ltInt d a b o).2).drewN n:=by
 have ac:a<d.size:=a8
 have ad:o<d.size:=a8
 obtain⟨G,V⟩:∃G:Nat->Int,∀j,G j=d[j]!:=⟨λj=>d[j]!,λ_=>rfl⟩;have ca:w.cell? ⟨zc,u+a,none⟩=some (.int .u64 (G a)):=by rw[V];exact(hH a ac).1
 have fa:=(hH a ac).2;have cp:w.cell? ⟨zc,u+o,none⟩=some (.int .u64 (G o)):=by rw[V];exact(hH o ad).1
 have fp:=(hH o ad).2;obtain⟨v',an⟩:=tW (w:=w) (p:=⟨zc,u+a,none⟩) (x:=.int .u64 (G o)) (q:=⟨zc,u+o,none⟩) cp;have M:qA (∀j,G j=d[j]!):=V;have AH:qA (Holds zg w zc u d):=hH;clear V hH;go_enter func190,ntmps190
 go_wp2;go_region
 go_wp2
 go_loopw [9,10] (λvi U wr=>∃(i j n:Nat) (A:Array Int),vi=.int .i64 i/\U=.int .i64 j/\a<i/\i<=j+1/\j<b/\A.size=d.size/\wr=(putRow zg w zc u A).drewN n /\
  Sort.partEqLoop Sort.ltInt a i j A=Sort.partEqLoop Sort.ltInt a (a+1) (b-1) (Sort.swp d a o))
  (λvi U _=>(intOf U).toNat+1-(intOf vi).toNat)
 case atStart=>refine⟨a+1,b-1,1,Sort.swp d a o,by go_num,by go_num,a8,a8,a8,tS _ _ _,?_,rfl⟩;have e:=swap_worldC zg w zc u d 0 a o ac ad;rw[Te _ w zc u d AH.o]at e;rw[M.o a,M.o o];exact e
 case round=>
  obtain⟨i,j,n,A,rfl,rfl,aq,ak,av,hs,hw,af⟩:=hrel;clear ca fa cp fp an v' M
  rename World=>W1
  have Z:Holds zg W1 zc u A:=(by rw[hw];exact Tj zg w zc u d A AH.o hs);obtain⟨H,V⟩:∃H:Nat->Int,∀t,H t=A[t]!:=⟨λt=>A[t]!,λ_=>rfl⟩;have hc:∀t,t<d.size->W1.cell? ⟨zc,u+t,none⟩=some (.int .u64 (H t)):=λt ht=>(by rw[V];exact(Z t a8).1);have hf:∀t,t<d.size->W1.frozen? ⟨zc,u+t,none⟩=false:=λt ht=>(Z t a8).2;have M:qA (∀t,H t=A[t]!):=V;have AW:qA (W1=(putRow zg w zc u A).drewN n):=hw;have AE:qA (Sort.partEqLoop Sort.ltInt a i j A=Sort.partEqLoop Sort.ltInt a (a+1) (b-1) (Sort.swp d a o)):=af;clear V hw af Z
  go_wp2
  go_loopw [9] (λvi w1=>∃(B Y:Nat),vi=.int .i64 B/\i<=B/\B<=j+1/\w1=W1.drewN Y /\
   qA (Sort.scanUp (λx=>!Sort.ltInt A[a]! x) A j B=Sort.scanUp (λx=>!Sort.ltInt A[a]! x) A j i))
   (λvi _=>j+1-(intOf vi).toNat)
  case atStart=>exact⟨i,0,rfl,Zp _,ak,rfl,rfl⟩
  case round=>
   obtain⟨B,Y,rfl,au,X,ae,T⟩:=hrel;have L:∀t,t<d.size->wr.cell? ⟨zc,u+t,none⟩=some (.int .u64 (H t)):=λt ht=>(by rw[ae];exact hc t ht);have O:qA (wr=W1.drewN Y):=ae;clear ae;by_cases ai:B<=j
   .go_wp2_with fail
    go_big_quiet (first|(go_at_call 189;refine tE (za _ _ _)))
    go_wp2
    ·
     have ht:(!Sort.ltInt (H a) (H B))=true:=b9
     go_roundw
     case rel=>exact⟨B+1,Y+nq,by go_num,a8,a8,by rw[O.o,tG],(scanUp_go (λx=>!Sort.ltInt A[a]! x) A j B ai (by rw[<-M.o a,<-M.o B];exact ht)).symm.trans T.o⟩
     case measure=>simp[intOf];omega
    ·
     have ht:(!Sort.ltInt (H a) (H B))=false:=b9;have S:qA (B=Sort.scanUp (λx=>!Sort.ltInt A[a]! x) A j i):=(scanUp_end (λx=>!Sort.ltInt A[a]! x) A j B (Or.inr (by rw[<-M.o a,<-M.o B];exact ht))).symm.trans T.o;clear ht;have F:wr.drewN nq=W1.drewN (Y+nq):=(by rw[O.o,tG]);clear L O T
     go_loopw [10] (λU w2=>∃(E K:Nat),U=.int .i64 E/\E<=j/\B<=E+1/\w2=W1.drewN K /\
      qA (Sort.scanDown (λx=>Sort.ltInt A[a]! x) A B E=Sort.scanDown (λx=>Sort.ltInt A[a]! x) A B j))
      (λU _=>(intOf U).toNat)
     case atStart=>exact⟨j,Y+nq,rfl,Zp _,X,F,rfl⟩
     case round=>
      clear F;obtain⟨E,K,rfl,am,ah,F,J⟩:=hrel;have L:∀t,t<d.size->wr.cell? ⟨zc,u+t,none⟩=some (.int .u64 (H t)):=λt ht=>(by rw[F];exact hc t ht);have P:qA (wr=W1.drewN K):=F;clear F;by_cases I:B<=E
      .go_wp2_with fail
       go_big_quiet (first|(go_at_call 189;refine tE (za _ _ _)))
       go_wp2
       ·
        have ht:Sort.ltInt (H a) (H E)=true:=b9
        go_roundw
        case rel=>exact⟨E-1,K+nq,by go_num,a8,a8,by rw[P.o,tG],(scanDown_go (λx=>Sort.ltInt A[a]! x) A B E I a8 (by rw[<-M.o a,<-M.o E];exact ht)).symm.trans J.o⟩
        case measure=>simp[intOf];omega
       ·
        have ht:Sort.ltInt (H a) (H E)=false:=b9;have N:qA (E=Sort.scanDown (λx=>Sort.ltInt A[a]! x) A B j):=(scanDown_end (λx=>Sort.ltInt A[a]! x) A B E (Or.inr (by rw[<-M.o a,<-M.o E];exact ht))).symm.trans J.o;clear L J ht;have C:wr.drewN nq=W1.drewN (K+nq):=(by rw[P.o,tG]);generalize wr.drewN nq=W3 at C⊢;have ab:∀t,t<d.size->W3.cell? ⟨zc,u+t,none⟩=some (.int .u64 (H t)):=λt ht=>(by rw[C];exact hc t ht);have ag:∀t,t<d.size->W3.frozen? ⟨zc,u+t,none⟩=false:=λt ht=>(by rw[C];exact hf t ht);have Q:qA (W3=W1.drewN (K+nq)):=C;clear C;obtain⟨v3,ay⟩:=tW (w:=W3) (p:=⟨zc,u+B,none⟩) (x:=.int .u64 (H E)) (q:=⟨zc,u+E,none⟩) (ab E a8);have ao:=scans_lt Sort.ltInt a i j A a8 S.o N.o I
        go_wp2;go_region;all_goals go_wp2
        all_goals go_roundw
        case rel=>
         refine⟨B+1,E-1,n+(K+nq)+1,Sort.swp A B E,by go_num,by go_num,a8,a8,a8,by rw[tS];exact hs,?_,?_⟩
         .rw[Q.o,AW.o,tG,M.o B,M.o E];exact swap_worldC zg w zc u A _ B E a8 a8
         .rw[<-AE.o];exact(partEq_go Sort.ltInt a i j A S.o N.o a8).symm
        case measure=>simp[intOf];omega
      .go_wp2_with fail
       go_big_quiet (first|(go_at_call 189;refine tE (za _ _ _)))
       have N:qA (E=Sort.scanDown (λx=>Sort.ltInt A[a]! x) A B j):=(scanDown_end (λx=>Sort.ltInt A[a]! x) A B E (Or.inl I)).symm.trans J.o;clear L J;have C:wr.drewN nq=W1.drewN (K+nq):=(by rw[P.o,tG]);generalize wr.drewN nq=W3 at C⊢;have ab:∀t,t<d.size->W3.cell? ⟨zc,u+t,none⟩=some (.int .u64 (H t)):=λt ht=>(by rw[C];exact hc t ht);have ag:∀t,t<d.size->W3.frozen? ⟨zc,u+t,none⟩=false:=λt ht=>(by rw[C];exact hf t ht);have Q:qA (W3=W1.drewN (K+nq)):=C;clear C
       go_wp2;go_ret;have e:=partEq_break Sort.ltInt a i j A S.o N.o a8;refine⟨?_,n+(K+nq),?_⟩
       .unfold Sort.partitionEqual;rw[<-AE.o,e];rfl
       .unfold Sort.partitionEqual;rw[<-AE.o,e,Q.o,AW.o,tG]
   .go_wp2_with fail
    go_big_quiet (first|(go_at_call 189;refine tE (za _ _ _)))
    go_wp2;have S:qA (B=Sort.scanUp (λx=>!Sort.ltInt A[a]! x) A j i):=(scanUp_end (λx=>!Sort.ltInt A[a]! x) A j B (Or.inl ai)).symm.trans T.o;have F:wr.drewN nq=W1.drewN (Y+nq):=(by rw[O.o,tG]);clear L O T
    go_loopw [10] (λU w2=>∃(E K:Nat),U=.int .i64 E/\E<=j/\B<=E+1/\w2=W1.drewN K /\
     qA (Sort.scanDown (λx=>Sort.ltInt A[a]! x) A B E=Sort.scanDown (λx=>Sort.ltInt A[a]! x) A B j))
     (λU _=>(intOf U).toNat)
    case atStart=>exact⟨j,Y+nq,rfl,Zp _,X,F,rfl⟩
    case round=>
     clear F;obtain⟨E,K,rfl,am,ah,F,J⟩:=hrel;have L:∀t,t<d.size->wr.cell? ⟨zc,u+t,none⟩=some (.int .u64 (H t)):=λt ht=>(by rw[F];exact hc t ht);have P:qA (wr=W1.drewN K):=F;clear F;by_cases I:B<=E
     .exfalso;omega
     .go_wp2_with fail
      go_big_quiet (first|(go_at_call 189;refine tE (za _ _ _)))
      have N:qA (E=Sort.scanDown (λx=>Sort.ltInt A[a]! x) A B j):=(scanDown_end (λx=>Sort.ltInt A[a]! x) A B E (Or.inl I)).symm.trans J.o;clear L J;have C:wr.drewN nq=W1.drewN (K+nq):=(by rw[P.o,tG]);generalize wr.drewN nq=W3 at C⊢;have ab:∀t,t<d.size->W3.cell? ⟨zc,u+t,none⟩=some (.int .u64 (H t)):=λt ht=>(by rw[C];exact hc t ht);have ag:∀t,t<d.size->W3.frozen? ⟨zc,u+t,none⟩=false:=λt ht=>(by rw[C];exact hf t ht);have Q:qA (W3=W1.drewN (K+nq)):=C;clear C
      go_wp2;go_ret;have e:=partEq_break Sort.ltInt a i j A S.o N.o a8;refine⟨?_,n+(K+nq),?_⟩
      .unfold Sort.partitionEqual;rw[<-AE.o,e];rfl
      .unfold Sort.partitionEqual;rw[<-AE.o,e,Q.o,AW.o,tG]
def yz(zc o u a b j:Nat)(d:Array Int)(w:World)(E:Holds zg w zc o d)(A:a<=j)(B:j<b)(hb:b<=d.size)(C:d.size<4611686018427387904):
 Calls xt 190 #[.slice (some ⟨zc,o,none⟩) d.size u,.int .i64 a,.int .i64 b,.int .i64 j] w λe F=>
  e=.returned (.int .i64 (Sort.partitionEqual Sort.ltInt d a b j).1)/\∃n,F=putRow zg (Sort.ahead w n) zc o (Sort.partitionEqual Sort.ltInt d a b j).2:=
 (vg zc o u a b j d w E A B hb C).mono λ_ _ ⟨he,n,hw⟩=>⟨he,n,hw⟩
set_option maxRecDepth 100000 in
def Zc(zc o av a b u:Nat)(d:Array Int)(w:World)(hH:Holds zg w zc o d)(aA:a<=u)(aB:u<b)(hb:b<=d.size)(aC:d.size<4611686018427387904):
 Calls xt 191 #[.slice (some ⟨zc,o,none⟩) d.size av,.int .i64 a,.int .i64 b,.int .i64 u] w λe w'=>
  e=.returned (.tuple #[.int .i64 (Sort.partition Sort.ltInt d a b u).1,.bool (Sort.partition Sort.ltInt d a b u).2.1])/\∃n,w'=(putRow zg w zc o (Sort.partition Sort.ltInt d a b u).2.2).drewN n:=by
 have ak:a<d.size:=a8
 have an:u<d.size:=a8
 obtain⟨G,hG⟩:∃G:Nat->Int,∀j,G j=d[j]!:=⟨λj=>d[j]!,λ_=>rfl⟩;have ca:w.cell? ⟨zc,o+a,none⟩=some (.int .u64 (G a)):=by rw[hG];exact(hH a ak).1
 have fa:=(hH a ak).2;have cp:w.cell? ⟨zc,o+u,none⟩=some (.int .u64 (G u)):=by rw[hG];exact(hH u an).1
 have fp:=(hH u an).2;obtain⟨v',az⟩:=tW (w:=w) (p:=⟨zc,o+a,none⟩) (x:=.int .u64 (G u)) (q:=⟨zc,o+u,none⟩) cp;have hw:((w.setCell ⟨zc,o+a,none⟩ (.int .u64 (G u))).setCell ⟨zc,o+u,none⟩ (.int .u64 (G a))).drew=(putRow zg w zc o (Sort.swp d a u)).drewN 1:=by have e:=swap_worldC zg w zc o d 0 a u ak an;rw[Te _ w zc o d hH]at e;rw[hG a,hG u];exact e
 have AH:qA (Holds zg w zc o d):=hH;have ao:=qL hw;clear hG hH hw;go_enter func191,ntmps191
 go_wp2;go_region
 go_wp2;clear ca fa cp fp az v';have hw:=ao.o;clear ao;generalize ((w.setCell ⟨zc,o+a,none⟩ (.int .u64 (G u))).setCell ⟨zc,o+u,none⟩ (.int .u64 (G a))).drew=W1 at hw⊢;obtain⟨A,ag⟩:=xm (Sort.swp d a u);obtain⟨n,hn⟩:∃n:Nat,n=1:=⟨_,rfl⟩;rw[<-ag,<-hn]at hw;clear hn;have hs:A.size=d.size:=by rw[ag,tS]
 have e1:((a:Int)+1)=((a+1:Nat):Int):=a8
 have e2:((b:Int)-1)=((b-1:Nat):Int):=a8
 rw[e1,e2];clear e1 e2;obtain⟨i,hi⟩:=xm (a+1);obtain⟨j,hj⟩:=xm (b-1);rw[<-hi,<-hj];have aw:a<i:=a8
 have ai:i<=j+1:=a8
 have ay:j<b:=a8
 have HI:=qL hi;have HJ:=qL hj;have ah:=qL ag;clear hi hj ag;have Z:Holds zg W1 zc o A:=by rw[hw];exact Tj zg w zc o d A AH.o hs
 obtain⟨H,hG⟩:∃H:Nat->Int,∀t,H t=A[t]!:=⟨λt=>A[t]!,λ_=>rfl⟩;have hc:∀t,t<d.size->W1.cell? ⟨zc,o+t,none⟩=some (.int .u64 (H t)):=λt ht=>by rw[hG];exact(Z t a8).1
 have hf:∀t,t<d.size->W1.frozen? ⟨zc,o+t,none⟩=false:=λt ht=>(Z t a8).2;have M:qA (∀t,H t=A[t]!):=hG;have AW:qA (W1=(putRow zg w zc o A).drewN n):=hw;clear hG hw Z
 go_loopw [10] (λvi w1=>∃(C Y:Nat),vi=.int .i64 C/\i<=C/\C<=j+1/\w1=W1.drewN Y /\
  qA (Sort.scanUp (λx=>Sort.ltInt x A[a]!) A j C=Sort.scanUp (λx=>Sort.ltInt x A[a]!) A j i))
  (λvi _=>j+1-(intOf vi).toNat)
 case atStart=>exact⟨i,0,rfl,Zp _,ai,rfl,rfl⟩
 case round=>
  obtain⟨C,Y,rfl,ax,X,ab,U⟩:=hrel;have L:∀t,t<d.size->wr.cell? ⟨zc,o+t,none⟩=some (.int .u64 (H t)):=λt ht=>(by rw[ab];exact hc t ht);have S:qA (wr=W1.drewN Y):=ab;clear ab;by_cases af:C<=j
  ·go_wp2_with fail
   go_big_quiet (first|(go_at_call 189;refine tE (za _ _ _)))
   go_wp2
   ·
    have ht:Sort.ltInt (H C) (H a)=true:=b9
    go_roundw
    case rel=>exact⟨C+1,Y+nq,by go_num,a8,a8,by rw[S.o,tG],(scanUp_go (λx=>Sort.ltInt x A[a]!) A j C af (by rw[<-M.o a,<-M.o C];exact ht)).symm.trans U.o⟩
    case measure=>simp[intOf];omega
   ·
    have ht:Sort.ltInt (H C) (H a)=false:=b9;have Q:qA (C=Sort.scanUp (λx=>Sort.ltInt x A[a]!) A j i):=(scanUp_end (λx=>Sort.ltInt x A[a]!) A j C (Or.inr (by rw[<-M.o a,<-M.o C];exact ht))).symm.trans U.o;clear ht;have F:wr.drewN nq=W1.drewN (Y+nq):=(by rw[S.o,tG]);clear L S U
    go_loopw [11] (λV w2=>∃(B K:Nat),V=.int .i64 B/\B<=j/\C<=B+1/\w2=W1.drewN K /\
     qA (Sort.scanDown (λx=>!Sort.ltInt x A[a]!) A C B=Sort.scanDown (λx=>!Sort.ltInt x A[a]!) A C j))
     (λV _=>(intOf V).toNat)
    case atStart=>exact⟨j,Y+nq,rfl,Zp _,X,F,rfl⟩
    case round=>
     clear F;obtain⟨B,K,rfl,aj,ae,F,J⟩:=hrel;have L:∀t,t<d.size->wr.cell? ⟨zc,o+t,none⟩=some (.int .u64 (H t)):=λt ht=>(by rw[F];exact hc t ht);have T:qA (wr=W1.drewN K):=F;clear F;by_cases I:C<=B
     .go_wp2_with fail
      go_big_quiet (first|(go_at_call 189;refine tE (za _ _ _)))
      go_wp2
      ·
       have ht:(!Sort.ltInt (H B) (H a))=true:=b9
       go_roundw
       case rel=>exact⟨B-1,K+nq,by go_num,a8,a8,by rw[T.o,tG],(scanDown_go (λx=>!Sort.ltInt x A[a]!) A C B I a8 (by rw[<-M.o a,<-M.o B];exact ht)).symm.trans J.o⟩
       case measure=>simp[intOf];omega
      ·
       have ht:(!Sort.ltInt (H B) (H a))=false:=b9;have N:qA (B=Sort.scanDown (λx=>!Sort.ltInt x A[a]!) A C j):=(scanDown_end (λx=>!Sort.ltInt x A[a]!) A C B (Or.inr (by rw[<-M.o a,<-M.o B];exact ht))).symm.trans J.o;clear L J ht;have E:wr.drewN nq=W1.drewN (K+nq):=(by rw[T.o,tG]);generalize wr.drewN nq=W3 at E⊢;have P:∀t,t<d.size->W3.cell? ⟨zc,o+t,none⟩=some (.int .u64 (H t)):=λt ht=>(by rw[E];exact hc t ht);have ac:∀t,t<d.size->W3.frozen? ⟨zc,o+t,none⟩=false:=λt ht=>(by rw[E];exact hf t ht);have O:qA (W3=W1.drewN (K+nq)):=E;clear E;obtain⟨v3,ad⟩:=tW (w:=W3) (p:=⟨zc,o+C,none⟩) (x:=.int .u64 (H B)) (q:=⟨zc,o+B,none⟩) (P B a8);have ar:=part_scans_lt Sort.ltInt a i j A a8 Q.o N.o I
       go_wp2;go_region;all_goals go_wp2
       obtain⟨R,hR⟩:=xm (Sort.partLoop Sort.ltInt a (C+1) (B-1) (Sort.swp A C B));have HP:qA (Sort.partition Sort.ltInt d a b u=(R.1,false,Sort.swp R.2 R.1 a)):=(by rw[hR];exact part_first_go Sort.ltInt d a b u HI.o HJ.o ah.o Q.o N.o a8);have au:((W3.setCell ⟨zc,o+C,none⟩ (.int .u64 (H B))).setCell ⟨zc,o+B,none⟩ (.int .u64 (H C))).drew=(putRow zg w zc o (Sort.swp A C B)).drewN (n+(K+nq)+1):=(by rw[O.o,AW.o,tG,M.o C,M.o B];exact swap_worldC zg w zc o A _ C B a8 a8);have HR:qA (R=Sort.partLoop Sort.ltInt a (C+1) (B-1) (Sort.swp A C B)):=hR;clear hR hc hf P ac ad O AW M Q N
       go_loopw [10,11] (λvi V wr=>∃(i j n:Nat) (A:Array Int),vi=.int .i64 i/\V=.int .i64 j/\a<i/\i<=j+1/\j<b/\A.size=d.size/\wr=(putRow zg w zc o A).drewN n /\
        Sort.partLoop Sort.ltInt a i j A=R)
        (λvi V _=>(intOf V).toNat+1-(intOf vi).toNat)
       case atStart=>exact⟨C+1,B-1,_,Sort.swp A C B,by go_num,by go_num,a8,a8,a8,by rw[tS];exact hs,au,HR.o.symm⟩
       case round=>
        clear au HR;obtain⟨i,j,n,A,rfl,rfl,aw,ai,ay,hs,hw,aq⟩:=hrel
        rename World=>W1
        have AE:qA (Sort.partLoop Sort.ltInt a i j A=R):=aq;clear aq;have Z:Holds zg W1 zc o A:=(by rw[hw];exact Tj zg w zc o d A AH.o hs);obtain⟨H,hG⟩:∃H:Nat->Int,∀t,H t=A[t]!:=⟨λt=>A[t]!,λ_=>rfl⟩;have hc:∀t,t<d.size->W1.cell? ⟨zc,o+t,none⟩=some (.int .u64 (H t)):=λt ht=>(by rw[hG];exact(Z t a8).1);have hf:∀t,t<d.size->W1.frozen? ⟨zc,o+t,none⟩=false:=λt ht=>(Z t a8).2;have M:qA (∀t,H t=A[t]!):=hG;have AW:qA (W1=(putRow zg w zc o A).drewN n):=hw;clear hG hw Z
        go_wp2
        go_loopw [10] (λvi w1=>∃(C Y:Nat),vi=.int .i64 C/\i<=C/\C<=j+1/\w1=W1.drewN Y /\
         qA (Sort.scanUp (λx=>Sort.ltInt x A[a]!) A j C=Sort.scanUp (λx=>Sort.ltInt x A[a]!) A j i))
         (λvi _=>j+1-(intOf vi).toNat)
        case atStart=>exact⟨i,0,rfl,Zp _,ai,rfl,rfl⟩
        case round=>
         obtain⟨C,Y,rfl,ax,X,ab,U⟩:=hrel;have L:∀t,t<d.size->wr.cell? ⟨zc,o+t,none⟩=some (.int .u64 (H t)):=λt ht=>(by rw[ab];exact hc t ht);have S:qA (wr=W1.drewN Y):=ab;clear ab;by_cases af:C<=j
         .go_wp2_with fail
          go_big_quiet (first|(go_at_call 189;refine tE (za _ _ _)))
          go_wp2
          ·
           have ht:Sort.ltInt (H C) (H a)=true:=b9
           go_roundw
           case rel=>exact⟨C+1,Y+nq,by go_num,a8,a8,by rw[S.o,tG],(scanUp_go (λx=>Sort.ltInt x A[a]!) A j C af (by rw[<-M.o a,<-M.o C];exact ht)).symm.trans U.o⟩
           case measure=>simp[intOf];omega
          ·
           have ht:Sort.ltInt (H C) (H a)=false:=b9;have Q:qA (C=Sort.scanUp (λx=>Sort.ltInt x A[a]!) A j i):=(scanUp_end (λx=>Sort.ltInt x A[a]!) A j C (Or.inr (by rw[<-M.o a,<-M.o C];exact ht))).symm.trans U.o;clear ht;have F:wr.drewN nq=W1.drewN (Y+nq):=(by rw[S.o,tG]);clear L S U
           go_loopw [11] (λV w2=>∃(B K:Nat),V=.int .i64 B/\B<=j/\C<=B+1/\w2=W1.drewN K /\
            qA (Sort.scanDown (λx=>!Sort.ltInt x A[a]!) A C B=Sort.scanDown (λx=>!Sort.ltInt x A[a]!) A C j))
            (λV _=>(intOf V).toNat)
           case atStart=>exact⟨j,Y+nq,rfl,Zp _,X,F,rfl⟩
           case round=>
            clear F;obtain⟨B,K,rfl,aj,ae,F,J⟩:=hrel;have L:∀t,t<d.size->wr.cell? ⟨zc,o+t,none⟩=some (.int .u64 (H t)):=λt ht=>(by rw[F];exact hc t ht);have T:qA (wr=W1.drewN K):=F;clear F;by_cases I:C<=B
            .go_wp2_with fail
             go_big_quiet (first|(go_at_call 189;refine tE (za _ _ _)))
             go_wp2
             ·
              have ht:(!Sort.ltInt (H B) (H a))=true:=b9
              go_roundw
              case rel=>exact⟨B-1,K+nq,by go_num,a8,a8,by rw[T.o,tG],(scanDown_go (λx=>!Sort.ltInt x A[a]!) A C B I a8 (by rw[<-M.o a,<-M.o B];exact ht)).symm.trans J.o⟩
              case measure=>simp[intOf];omega
             ·
              have ht:(!Sort.ltInt (H B) (H a))=false:=b9;have N:qA (B=Sort.scanDown (λx=>!Sort.ltInt x A[a]!) A C j):=(scanDown_end (λx=>!Sort.ltInt x A[a]!) A C B (Or.inr (by rw[<-M.o a,<-M.o B];exact ht))).symm.trans J.o;clear L J ht;have E:wr.drewN nq=W1.drewN (K+nq):=(by rw[T.o,tG]);generalize wr.drewN nq=W3 at E⊢;have P:∀t,t<d.size->W3.cell? ⟨zc,o+t,none⟩=some (.int .u64 (H t)):=λt ht=>(by rw[E];exact hc t ht);have ac:∀t,t<d.size->W3.frozen? ⟨zc,o+t,none⟩=false:=λt ht=>(by rw[E];exact hf t ht);have O:qA (W3=W1.drewN (K+nq)):=E;clear E;obtain⟨v3,ad⟩:=tW (w:=W3) (p:=⟨zc,o+C,none⟩) (x:=.int .u64 (H B)) (q:=⟨zc,o+B,none⟩) (P B a8);have ar:=part_scans_lt Sort.ltInt a i j A a8 Q.o N.o I
              go_wp2;go_region;all_goals go_wp2
              all_goals go_roundw
              case rel=>
               refine⟨C+1,B-1,n+(K+nq)+1,Sort.swp A C B,by go_num,by go_num,a8,a8,a8,by rw[tS];exact hs,?_,?_⟩
               .rw[O.o,AW.o,tG,M.o C,M.o B];exact swap_worldC zg w zc o A _ C B a8 a8
               .exact(part_go Sort.ltInt a i j A Q.o N.o a8).symm.trans AE.o
              case measure=>simp[intOf];omega
            .go_wp2_with fail
             go_big_quiet (first|(go_at_call 189;refine tE (za _ _ _)))
             have N:qA (B=Sort.scanDown (λx=>!Sort.ltInt x A[a]!) A C j):=(scanDown_end (λx=>!Sort.ltInt x A[a]!) A C B (Or.inl I)).symm.trans J.o;clear L J;have E:wr.drewN nq=W1.drewN (K+nq):=(by rw[T.o,tG]);generalize wr.drewN nq=W3 at E⊢;have P:∀t,t<d.size->W3.cell? ⟨zc,o+t,none⟩=some (.int .u64 (H t)):=λt ht=>(by rw[E];exact hc t ht);have ac:∀t,t<d.size->W3.frozen? ⟨zc,o+t,none⟩=false:=λt ht=>(by rw[E];exact hf t ht);have O:qA (W3=W1.drewN (K+nq)):=E;clear E;obtain⟨v3,ad⟩:=tW (w:=W3) (p:=⟨zc,o+B,none⟩) (x:=.int .u64 (H a)) (q:=⟨zc,o+a,none⟩) (P a a8);have am:B<d.size:=a8
             go_wp2;go_region;all_goals go_wp2
             all_goals go_ret2
             have e:Sort.partition Sort.ltInt d a b u=(B,false,Sort.swp A B a):=(by have e0:=(part_break Sort.ltInt a i j A Q.o N.o a8).symm.trans AE.o;rw[HP.o,<-e0]);refine⟨?_,n+(K+nq)+1,?_⟩
             .rw[e];rfl
             .rw[e,O.o,AW.o,tG,M.o a,M.o B];exact swap_worldC zg w zc o A _ B a a8 a8
         .go_wp2_with fail
          go_big_quiet (first|(go_at_call 189;refine tE (za _ _ _)))
          go_wp2;have Q:qA (C=Sort.scanUp (λx=>Sort.ltInt x A[a]!) A j i):=(scanUp_end (λx=>Sort.ltInt x A[a]!) A j C (Or.inl af)).symm.trans U.o;have F:wr.drewN nq=W1.drewN (Y+nq):=(by rw[S.o,tG]);clear L S U
          go_loopw [11] (λV w2=>∃(B K:Nat),V=.int .i64 B/\B<=j/\C<=B+1/\w2=W1.drewN K /\
           qA (Sort.scanDown (λx=>!Sort.ltInt x A[a]!) A C B=Sort.scanDown (λx=>!Sort.ltInt x A[a]!) A C j))
           (λV _=>(intOf V).toNat)
          case atStart=>exact⟨j,Y+nq,rfl,Zp _,X,F,rfl⟩
          case round=>
           clear F;obtain⟨B,K,rfl,aj,ae,F,J⟩:=hrel;have L:∀t,t<d.size->wr.cell? ⟨zc,o+t,none⟩=some (.int .u64 (H t)):=λt ht=>(by rw[F];exact hc t ht);have T:qA (wr=W1.drewN K):=F;clear F;by_cases I:C<=B
           .exfalso;omega
           .go_wp2_with fail
            go_big_quiet (first|(go_at_call 189;refine tE (za _ _ _)))
            have N:qA (B=Sort.scanDown (λx=>!Sort.ltInt x A[a]!) A C j):=(scanDown_end (λx=>!Sort.ltInt x A[a]!) A C B (Or.inl I)).symm.trans J.o;clear L J;have E:wr.drewN nq=W1.drewN (K+nq):=(by rw[T.o,tG]);generalize wr.drewN nq=W3 at E⊢;have P:∀t,t<d.size->W3.cell? ⟨zc,o+t,none⟩=some (.int .u64 (H t)):=λt ht=>(by rw[E];exact hc t ht);have ac:∀t,t<d.size->W3.frozen? ⟨zc,o+t,none⟩=false:=λt ht=>(by rw[E];exact hf t ht);have O:qA (W3=W1.drewN (K+nq)):=E;clear E;obtain⟨v3,ad⟩:=tW (w:=W3) (p:=⟨zc,o+B,none⟩) (x:=.int .u64 (H a)) (q:=⟨zc,o+a,none⟩) (P a a8);have am:B<d.size:=a8
            go_wp2;go_region;all_goals go_wp2
            all_goals go_ret2
            have e:Sort.partition Sort.ltInt d a b u=(B,false,Sort.swp A B a):=(by have e0:=(part_break Sort.ltInt a i j A Q.o N.o a8).symm.trans AE.o;rw[HP.o,<-e0]);refine⟨?_,n+(K+nq)+1,?_⟩
            .rw[e];rfl
            .rw[e,O.o,AW.o,tG,M.o a,M.o B];exact swap_worldC zg w zc o A _ B a a8 a8
     .go_wp2_with fail
      go_big_quiet (first|(go_at_call 189;refine tE (za _ _ _)))
      have N:qA (B=Sort.scanDown (λx=>!Sort.ltInt x A[a]!) A C j):=(scanDown_end (λx=>!Sort.ltInt x A[a]!) A C B (Or.inl I)).symm.trans J.o;clear L J;have E:wr.drewN nq=W1.drewN (K+nq):=(by rw[T.o,tG]);generalize wr.drewN nq=W3 at E⊢;have P:∀t,t<d.size->W3.cell? ⟨zc,o+t,none⟩=some (.int .u64 (H t)):=λt ht=>(by rw[E];exact hc t ht);have ac:∀t,t<d.size->W3.frozen? ⟨zc,o+t,none⟩=false:=λt ht=>(by rw[E];exact hf t ht);have O:qA (W3=W1.drewN (K+nq)):=E;clear E;obtain⟨v3,ad⟩:=tW (w:=W3) (p:=⟨zc,o+B,none⟩) (x:=.int .u64 (H a)) (q:=⟨zc,o+a,none⟩) (P a a8);have am:B<d.size:=a8
      go_wp2;go_region;all_goals go_wp2
      all_goals go_ret2
      have e:Sort.partition Sort.ltInt d a b u=(B,true,Sort.swp A B a):=part_first_break Sort.ltInt d a b u HI.o HJ.o ah.o Q.o N.o a8;refine⟨?_,n+(K+nq)+1,?_⟩
      .rw[e];rfl
      .rw[e,O.o,AW.o,tG,M.o a,M.o B];exact swap_worldC zg w zc o A _ B a a8 a8
  .go_wp2_with fail
   go_big_quiet (first|(go_at_call 189;refine tE (za _ _ _)))
   go_wp2;have Q:qA (C=Sort.scanUp (λx=>Sort.ltInt x A[a]!) A j i):=(scanUp_end (λx=>Sort.ltInt x A[a]!) A j C (Or.inl af)).symm.trans U.o;have F:wr.drewN nq=W1.drewN (Y+nq):=(by rw[S.o,tG]);clear L S U
   go_loopw [11] (λV w2=>∃(B K:Nat),V=.int .i64 B/\B<=j/\C<=B+1/\w2=W1.drewN K /\
    qA (Sort.scanDown (λx=>!Sort.ltInt x A[a]!) A C B=Sort.scanDown (λx=>!Sort.ltInt x A[a]!) A C j))
    (λV _=>(intOf V).toNat)
   case atStart=>exact⟨j,Y+nq,rfl,Zp _,X,F,rfl⟩
   case round=>
    clear F;obtain⟨B,K,rfl,aj,ae,F,J⟩:=hrel;have L:∀t,t<d.size->wr.cell? ⟨zc,o+t,none⟩=some (.int .u64 (H t)):=λt ht=>(by rw[F];exact hc t ht);have T:qA (wr=W1.drewN K):=F;clear F;by_cases I:C<=B
    .exfalso;omega
    .go_wp2_with fail
     go_big_quiet (first|(go_at_call 189;refine tE (za _ _ _)))
     have N:qA (B=Sort.scanDown (λx=>!Sort.ltInt x A[a]!) A C j):=(scanDown_end (λx=>!Sort.ltInt x A[a]!) A C B (Or.inl I)).symm.trans J.o;clear L J;have E:wr.drewN nq=W1.drewN (K+nq):=(by rw[T.o,tG]);generalize wr.drewN nq=W3 at E⊢;have P:∀t,t<d.size->W3.cell? ⟨zc,o+t,none⟩=some (.int .u64 (H t)):=λt ht=>(by rw[E];exact hc t ht);have ac:∀t,t<d.size->W3.frozen? ⟨zc,o+t,none⟩=false:=λt ht=>(by rw[E];exact hf t ht);have O:qA (W3=W1.drewN (K+nq)):=E;clear E;obtain⟨v3,ad⟩:=tW (w:=W3) (p:=⟨zc,o+B,none⟩) (x:=.int .u64 (H a)) (q:=⟨zc,o+a,none⟩) (P a a8);have am:B<d.size:=a8
     go_wp2;go_region;all_goals go_wp2
     all_goals go_ret2
     have e:Sort.partition Sort.ltInt d a b u=(B,true,Sort.swp A B a):=part_first_break Sort.ltInt d a b u HI.o HJ.o ah.o Q.o N.o a8;refine⟨?_,n+(K+nq)+1,?_⟩
     .rw[e];rfl
     .rw[e,O.o,AW.o,tG,M.o a,M.o B];exact swap_worldC zg w zc o A _ B a a8 a8
def xJ(zc o u a b j:Nat)(d:Array Int)(w:World)(E:Holds zg w zc o d)(A:a<=j)(B:j<b)(hb:b<=d.size)(C:d.size<4611686018427387904):
 Calls xt 191 #[.slice (some ⟨zc,o,none⟩) d.size u,.int .i64 a,.int .i64 b,.int .i64 j] w λe F=>
  e=.returned (.tuple #[.int .i64 (Sort.partition Sort.ltInt d a b j).1,.bool (Sort.partition Sort.ltInt d a b j).2.1])/\∃n,F=putRow zg (Sort.ahead w n) zc o (Sort.partition Sort.ltInt d a b j).2.2:=
 (Zc zc o u a b j d w E A B hb C).mono λ_ _ ⟨he,n,hw⟩=>⟨he,n,hw⟩
set_option maxRecDepth 100000 in
def xI(zc j U a L:Nat)(d:Array Int)(w:World)(X:Holds zg w zc j d)(u:zc<w.heap.size)(hb:a+L<=d.size)(aj:d.size<4611686018427387904)(h8:8<=L):
 Calls xt 185 #[.slice (some ⟨zc,j,none⟩) d.size U,.int .i64 a,.int .i64 ((a+L:Nat):Int)] w λe I=>
  e=.returned (.tuple #[])/\∃n os,I=grow (putRow zg (Sort.ahead w n) zc j (breakPatterns d a (a+L))) os:=by
 rw[breakPatterns_eq d a L h8];obtain⟨M,K⟩:∃M:Nat,M=1 <<< bitsLen L:=⟨_,rfl⟩;have af:1<=M:=by rw[K,Nat.one_shiftLeft];exact Nat.two_pow_pos _
 have ag:M<=2*L:=by rw[K,Nat.one_shiftLeft];exact two_pow_bitsLen_le a8
 have Z:∀w,Calls xt 204 #[.int .i64 (L:Int)] w λe I=>e=.returned (.int .u64 (M:Int))/\I=w:=by rw[K];exact λw=>kI L a8 w
 rw[<-K];clear K;have HH:qA (Holds zg w zc j d):=X;have S:qA (w.alloc (Obj.cells #[.int .u64 (L:Int)] 282)=grow (putRow zg (Sort.ahead w 0) zc j d) #[Obj.cells #[.int .u64 ((UInt64.ofNat L).toNat:Int)] 282]):=by show _=_;rw[show Sort.ahead w 0=w from rfl,Te _ _ _ _ _ X,alloc_eq_grow,show (UInt64.ofNat L).toNat=L from by simp;omega]
 clear X;go_enter func185,ntmps185
 go_wp2_with (first|(go_at_call 204;rw[show ((a:Int)+(L:Int)-(a:Int))=(L:Int) by omega];refine(Z _).mono ?_;rintro e I ⟨rfl,rfl⟩))
 go_loopw [9] (λvi wr=>∃(t n:Nat) (r:UInt64) (o:Array Int),vi=.int .i64 ((a+L/4*2-1+t:Nat):Int)/\t<=3/\o.size=d.size /\
  wr=grow (putRow zg (Sort.ahead w n) zc j o) #[Obj.cells #[.int .u64 (r.toNat:Int)] 282] /\
  bpRest a L M (a+L/4*2-1) (3-t) t (r,o)=bpRest a L M (a+L/4*2-1) 3 0 (UInt64.ofNat L,d)) (λvi _=>a+L/4*2+3-(intOf vi).toNat)
 case atStart=>exact⟨0,0,UInt64.ofNat L,d,by congr 1;omega,a8,rfl,S.o,rfl⟩
 case round=>
  obtain⟨t,n,r,o,rfl,ht,H,J,hR⟩:=hrel;obtain⟨R,C⟩:∃R:Nat,R=r.toNat:=⟨_,rfl⟩;have lR:R<18446744073709551616:=(by rw[C];exact r.toNat_lt);obtain⟨A,B⟩:∃A:Nat,A=xorNextN R:=⟨_,rfl⟩;have ad:A<18446744073709551616:=(by rw[B];exact xorNextN_lt R lR);obtain⟨O,P⟩:∃O:Nat,O=A &&& (M-1):=⟨_,rfl⟩;have lO:O<=M-1:=(by rw[P];exact Nat.and_le_right);have ae:bits .and .u64 (A:Int) ((M:Int)-1)=(O:Int):=(by rw[show ((M:Int)-1)=((M-1:Nat):Int) by omega,bits_and_u64_nat _ _ ad a8,P]);obtain⟨G,V⟩:∃G:Nat->Int,∀x,G x=o[x]!:=⟨λx=>o[x]!,λ_=>rfl⟩;have hz:(putRow zg (Sort.ahead w n) zc j o).heap.size=w.heap.size:=b6;have ah:∀x,x<d.size->wr.cell? ⟨zc,j+x,none⟩=some (.int .u64 (G x)):=λx hx=>(by rw[J,cell?_grow _ _ _ (by rw[hz];exact u),V];exact Tz _ _ _ _ d o (tP _ _ _ _ _ _ HH.o) H x a8);have ai:∀x,x<d.size->wr.frozen? ⟨zc,j+x,none⟩=false:=λx hx=>(by rw[J,frozen?_grow _ _ _ (by rw[hz];exact u),Tg];exact((tP _ _ n _ _ _ HH.o) x hx).2);have ab:wr.cell? ⟨w.heap.size,0,none⟩=some (.int .u64 (R:Int)):=(by rw[J,C,<-hz];exact grow_one_cell _ _ _);have ac:wr.frozen? ⟨w.heap.size,0,none⟩=false:=(by rw[J,<-hz];exact grow_one_frozen _ _ _);have F:Calls xt 205 #[.pointer (some ⟨w.heap.size,0,none⟩)] wr λe I=>e=.returned (.int .u64 (A:Int))/\I=(wr.setCell ⟨w.heap.size,0,none⟩ (.int .u64 (A:Int))).drewN 3:=(by rw[B];exact Zd _ _ R lR wr ab ac)
  have T:qA (wr=grow (putRow zg (Sort.ahead w n) zc j o) #[Obj.cells #[.int .u64 (r.toNat:Int)] 282]):=J;have HG:qA (∀x,G x=o[x]!):=V;have Q:qA (bpRest a L M (a+L/4*2-1) (3-t) t (r,o)=bpRest a L M (a+L/4*2-1) 3 0 (UInt64.ofNat L,d)):=hR;have N:qA (A=(xorNext r).toNat/\O=(xorNext r).toNat &&& (M-1)):=(by have e:A=(xorNext r).toNat:=(by rw[B,C,xorNext_toNat]);exact⟨e,by rw[P,e]⟩);clear J V hR C B P
  go_wp2_with (first|(go_at_call 205;refine F.mono ?_;rintro e I ⟨rfl,rfl⟩))
  ·
   have Y:L<=O:=a8;by_cases E:a+L/4*2-1+t=a+(O-L);all_goals
    go_region;all_goals go_wp2
    go_roundw
    case rel=>
     refine⟨t+1,n+4,xorNext r,swp o (a+L/4*2-1+t) (a+(O-L)),by first|rfl|(congr 1<;>omega),a8,by rw[tS];exact H,?_,?_⟩
     ·(try rw[E])
      rw[T.o,N.o.1];simp only[HG.o];exact step_world zg w n 4 zc j o _ _ u a8 a8 _ _ _
     .rw[<-Q.o,bp_step a L M _ t r o (O-L) a8 (by rw[<-N.o.2,Vm a8])]
    case measure=>simp[intOf];omega
  .have Y:¬L<=O:=a8;by_cases E:a+L/4*2-1+t=a+O;all_goals
    go_region;all_goals go_wp2
    go_roundw
    case rel=>
     refine⟨t+1,n+4,xorNext r,swp o (a+L/4*2-1+t) (a+O),by first|rfl|(congr 1<;>omega),a8,by rw[tS];exact H,?_,?_⟩
     ·(try rw[E])
      rw[T.o,N.o.1];simp only[HG.o];exact step_world zg w n 4 zc j o _ _ u a8 a8 _ _ _
     .rw[<-Q.o,bp_step a L M _ t r o O a8 (by rw[<-N.o.2,Vq a8])]
    case measure=>simp[intOf];omega
  ·
   obtain rfl:t=3:=a8
   go_end0
   exact⟨rfl,n,_,by rw[<-Q.o,T.o];rfl⟩
def vU(zc j o a b:Nat)(d:Array Int)(w:World)(B:Holds zg w zc j d)(u:zc<w.heap.size)(F:a<=b)(hb:b<=d.size)(C:d.size<4611686018427387904):
 Calls xt 185 #[.slice (some ⟨zc,j,none⟩) d.size o,.int .i64 a,.int .i64 b] w λe H=>
  e=.returned (.tuple #[])/\∃n os,H=grow (putRow zg (Sort.ahead w n) zc j (breakPatterns d a b)) os:=by
 obtain⟨L,rfl⟩:∃L,b=a+L:=⟨b-a,a8⟩;by_cases E:8<=L
 .exact xI zc j o a L d w B u hb C E
 .have G:breakPatterns d a (a+L)=d:=(by unfold breakPatterns;simp only[Nat.add_sub_cancel_left];rw[Vq E]);rw[G];have A:qA (w=grow (putRow zg (Sort.ahead w 0) zc j d) #[]):=(by show _=_;rw[grow_empty,show Sort.ahead w 0=w from rfl,Te _ _ _ _ _ B]);clear B;go_enter func185,ntmps185
  go_wp2
  go_end0
  exact⟨rfl,0,#[],A.o⟩
set_option maxRecDepth 1000000 in
def yA(zc u len V:Nat)(d:Array Int)(T:d.size=len)(lo hi first:Nat)(w:World)(Z:Holds zg w zc u d)(ab:lo<=hi)(hb:first+hi<=d.size)(ac:d.size<4611686018427387904):
 Calls xt 203 #[.slice (some ⟨zc,u,none⟩) len V,.int .i64 lo,.int .i64 hi,.int .i64 first] w λe w'=>e=.returned (.tuple #[])/\∃n,w'=putRow zg (Sort.ahead w n) zc u (siftDown ltInt hi first lo d):=by
 subst T;go_enter func203,ntmps203
 go_wp2;go_loopg [8] (hi-lo) (λk s8 wr=>∃(j:Nat) (B:Array Int) (n:Nat),s8=.int .i64 j/\j<=hi/\hi-j<=k/\B.size=d.size/\wr=putRow zg (Sort.ahead w n) zc u B/\siftDown ltInt hi first j B=siftDown ltInt hi first lo d);case atStart=>exact⟨lo,d,0,rfl,ab,Zp _,rfl,(Te zg w zc u d Z).symm,rfl⟩
 case round=>
  obtain⟨j,B,n,rfl,hr,hk,L,O,H⟩:=hrel;have N:Holds zg wr zc u B:=(by rw[O];exact Tj zg _ zc u d B (tP zg w n zc u d Z) L);have J:∀t,t<d.size->wr.cell? ⟨zc,u+t,none⟩=some (.int .u64 B[t]!):=λt ht=>(N t a8).1;have K:∀t,t<d.size->wr.frozen? ⟨zc,u+t,none⟩=false:=λt ht=>(N t a8).2;have A:qA (wr=putRow zg (Sort.ahead w n) zc u B):=O;clear O Z N;by_cases h0:hi<=2*j+1
  ·
   have X:(hi:Int)<=2*(j:Int)+1:=a8
   go_wp2
   go_end0
   refine⟨rfl,n,?_⟩;rw[A.o,<-H,sd_end ltInt B h0]
  ·
   have X:¬((hi:Int)<=2*(j:Int)+1):=a8;by_cases U:2*j+2<hi
   .have Y:2*(j:Int)+1+1<(hi:Int):=a8
    go_wp2_with fail
    go_big_quiet (first|(go_at_call 189;refine tE (za _ _ _)))
    go_wp2_with fail
    ·
     have Q:ltInt B[first+2*j+1]! B[first+2*j+2]! = true:=b9;revert nq;intro o;have C:∀t,t<d.size->(wr.drewN o).cell? ⟨zc,u+t,none⟩=some (.int .u64 B[t]!):=J;have E:∀t,t<d.size->(wr.drewN o).frozen? ⟨zc,u+t,none⟩=false:=K;have I:qA (wr.drewN o=putRow zg (Sort.ahead w (n+o)) zc u B):=drewN_world zg A.o o;clear J K A;generalize wr.drewN o=wr2 at C E I⊢
     go_big_quiet (first|(go_at_call 189;refine tE (za _ _ _)))
     go_wp2_with fail
     ·
      have S:ltInt B[first+j]! B[first+2*j+2]! = false:=(by have:(!ltInt B[first+j]! B[first+2*j+2]!)=true:=b9;simpa using this)
      (try simp only[Exit.inBlock,Exit.then]);refine tA (tN rfl _ _ _) rfl ?_
      refine⟨rfl,n+o+nq,?_⟩;rw[drewN_world zg I.o nq,<-H,sd_right_stop ltInt B U Q S]
     ·
      have P:ltInt B[first+j]! B[first+2*j+2]! = true:=(by have:(!ltInt B[first+j]! B[first+2*j+2]!)=false:=b9;simpa using this);have F:∀t,t<d.size->(wr2.drewN nq).cell? ⟨zc,u+t,none⟩=some (.int .u64 B[t]!):=C;have G:∀t,t<d.size->(wr2.drewN nq).frozen? ⟨zc,u+t,none⟩=false:=E;have M:qA (wr2.drewN nq=putRow zg (Sort.ahead w (n+o+nq)) zc u B):=drewN_world zg I.o nq;clear C E I;generalize wr2.drewN nq=wr3 at F G M⊢;go_region
      go_wp2;go_roundg (hi-(2*j+2));case measure=>omega
      case rel=>refine⟨2*j+2,swp B (first+j) (first+(2*j+1+1)),n+o+nq+1,dF,a8,Zp _,by rw[tS];exact L,swap_world zg a8 a8 M.o rfl rfl,?_⟩;rw[<-H,sd_right_go ltInt B U Q P]
    ·
     have Q:ltInt B[first+2*j+1]! B[first+2*j+2]! = false:=b9;revert nq;intro o;have C:∀t,t<d.size->(wr.drewN o).cell? ⟨zc,u+t,none⟩=some (.int .u64 B[t]!):=J;have E:∀t,t<d.size->(wr.drewN o).frozen? ⟨zc,u+t,none⟩=false:=K;have I:qA (wr.drewN o=putRow zg (Sort.ahead w (n+o)) zc u B):=drewN_world zg A.o o;clear J K A;generalize wr.drewN o=wr2 at C E I⊢
     go_big_quiet (first|(go_at_call 189;refine tE (za _ _ _)))
     go_wp2_with fail
     ·
      have S:ltInt B[first+j]! B[first+2*j+1]! = false:=(by have:(!ltInt B[first+j]! B[first+2*j+1]!)=true:=b9;simpa using this)
      (try simp only[Exit.inBlock,Exit.then]);refine tA (tN rfl _ _ _) rfl ?_
      refine⟨rfl,n+o+nq,?_⟩;rw[drewN_world zg I.o nq,<-H,sd_left_stop ltInt B a8 (λ_=>Q) S]
     ·
      have P:ltInt B[first+j]! B[first+2*j+1]! = true:=(by have:(!ltInt B[first+j]! B[first+2*j+1]!)=false:=b9;simpa using this);have F:∀t,t<d.size->(wr2.drewN nq).cell? ⟨zc,u+t,none⟩=some (.int .u64 B[t]!):=C;have G:∀t,t<d.size->(wr2.drewN nq).frozen? ⟨zc,u+t,none⟩=false:=E;have M:qA (wr2.drewN nq=putRow zg (Sort.ahead w (n+o+nq)) zc u B):=drewN_world zg I.o nq;clear C E I;generalize wr2.drewN nq=wr3 at F G M⊢;go_region
      go_wp2;go_roundg (hi-(2*j+1));case measure=>omega
      case rel=>refine⟨2*j+1,swp B (first+j) (first+(2*j+1)),n+o+nq+1,dF,a8,Zp _,by rw[tS];exact L,swap_world zg a8 a8 M.o rfl rfl,?_⟩;rw[<-H,sd_left_go ltInt B a8 (λ_=>Q) P]
   ·
    have Y:decide (2*(j:Int)+1+1<(hi:Int))=false:=WE a8
    go_wp2_with fail
    go_big_quiet (first|(go_at_call 189;refine tE (za _ _ _)))
    go_wp2_with fail
    revert nq;intro o;have C:∀t,t<d.size->(wr.drewN o).cell? ⟨zc,u+t,none⟩=some (.int .u64 B[t]!):=J;have E:∀t,t<d.size->(wr.drewN o).frozen? ⟨zc,u+t,none⟩=false:=K;have I:qA (wr.drewN o=putRow zg (Sort.ahead w (n+o)) zc u B):=drewN_world zg A.o o;clear J K A;generalize wr.drewN o=wr2 at C E I⊢
    go_big_quiet (first|(go_at_call 189;refine tE (za _ _ _)))
    go_wp2_with fail
    ·
     have S:ltInt B[first+j]! B[first+2*j+1]! = false:=(by have:(!ltInt B[first+j]! B[first+2*j+1]!)=true:=b9;simpa using this)
     (try simp only[Exit.inBlock,Exit.then]);refine tA (tN rfl _ _ _) rfl ?_
     refine⟨rfl,n+o+nq,?_⟩;rw[drewN_world zg I.o nq,<-H,sd_left_stop ltInt B a8 (λh=>absurd h U) S]
    ·
     have P:ltInt B[first+j]! B[first+2*j+1]! = true:=(by have:(!ltInt B[first+j]! B[first+2*j+1]!)=false:=b9;simpa using this);have F:∀t,t<d.size->(wr2.drewN nq).cell? ⟨zc,u+t,none⟩=some (.int .u64 B[t]!):=C;have G:∀t,t<d.size->(wr2.drewN nq).frozen? ⟨zc,u+t,none⟩=false:=E;have M:qA (wr2.drewN nq=putRow zg (Sort.ahead w (n+o+nq)) zc u B):=drewN_world zg I.o nq;clear C E I;generalize wr2.drewN nq=wr3 at F G M⊢;go_region
     go_wp2;go_roundg (hi-(2*j+1));case measure=>omega
     case rel=>refine⟨2*j+1,swp B (first+j) (first+(2*j+1)),n+o+nq+1,dF,a8,Zp _,by rw[tS];exact L,swap_world zg a8 a8 M.o rfl rfl,?_⟩;rw[<-H,sd_left_go ltInt B a8 (λh=>absurd h U) P]
set_option maxRecDepth 1000000 in
def ZK(zc o len J:Nat)(d:Array Int)(T:d.size=len)(a b:Nat)(w:World)(P:Holds zg w zc o d)(U:a<=b)(hb:b<=d.size)(ae:d.size<4611686018427387904):
 Calls xt 184 #[.slice (some ⟨zc,o,none⟩) len J,.int .i64 a,.int .i64 b] w λe w'=>e=.returned (.tuple #[])/\∃n,w'=putRow zg (Sort.ahead w n) zc o (heapSort ltInt d a b):=by
 subst T;have F:((b-a:Nat):Int)=(b:Int)-(a:Int):=a8
 go_enter func184,ntmps184
 go_wp2;go_loopg [9] ((b-a-1)/2+1) (λk s9 wr=>s9=.int .i64 ((k:Int)-1)/\k<=(b-a-1)/2+1/\∃(C:Array Int) (n:Nat),C.size=d.size/\wr=putRow zg (Sort.ahead w n) zc o C /\
  heapBuild ltInt (b-a) a k C=heapBuild ltInt (b-a) a ((b-a-1)/2+1) d)
 case atStart=>exact⟨by rw[half_start U],Zp _,d,0,rfl,(Te zg w zc o d P).symm,rfl⟩
 case round=>
  obtain⟨rfl,S,C,n,K,O,N⟩:=hrel;have Q:Holds zg wr zc o C:=(by rw[O];exact Tj zg _ zc o d C (tP zg w n zc o d P) K);have A:qA (wr=putRow zg (Sort.ahead w n) zc o C):=O;clear O;cases gk with
  | zero=>
    have hB:C=heapBuild ltInt (b-a) a ((b-a-1)/2+1) d:=N;clear N Q S
    go_wp2;go_loopg [10] (b-a) (λk X Y=>X=.int .i64 ((k:Int)-1)/\k<=b-a/\∃(B:Array Int) (E:Nat),B.size=d.size/\Y=putRow zg (Sort.ahead w E) zc o B/\heapPop ltInt a k B=heapPop ltInt a (b-a) C);case atStart=>exact⟨by rw[F],Zp _,C,n,K,A.o,rfl⟩
    case round=>
     obtain⟨rfl,S,B,E,u,I,H⟩:=hrel;cases gk with
     | zero=>
       go_wp2
       go_end0
       refine⟨rfl,E,?_⟩;have e:B=heapSort ltInt d a b:=(by rw[heapSort,<-hB,<-H];rfl);rw[<-e]
     | succ k=>
       have M:Holds zg wr zc o B:=(by rw[I];exact Tj zg _ zc o d B (tP zg w E zc o d P) u);have ab:∀t,t<d.size->wr.cell? ⟨zc,o+t,none⟩=some (.int .u64 B[t]!):=λt ht=>(M t a8).1;have ac:∀t,t<d.size->wr.frozen? ⟨zc,o+t,none⟩=false:=λt ht=>(M t a8).2;have Z:qA (wr=putRow zg (Sort.ahead w E) zc o B):=I;clear I M;rcases Wl k with V|ad
       .subst V
        go_wp2_with fail
        go_region
        go_wp2_with fail
        rw[swap_world zg (i:=a) (j:=a) a8 a8 Z.o rfl rfl];refine(yA zc o d.size J (swp B a (a)) (by rw[tS];exact u) 0 0 a _ (Tj zg _ zc o d _ (tP zg w (E+1) zc o d P) (by rw[tS];exact u)) (X3 _) (by rw[tS];omega) (by rw[tS];omega)).mono ?_;rintro e w1 ⟨rfl,m,L⟩
        go_wp2;go_roundg 0;case measure=>omega
        case rel=>
         refine⟨b6,a8,siftDown ltInt 0 a 0 (swp B a (a)),E+1+m,by rw[Tl ltInt _ _ _ _ _ (Zp _),tS];exact u,?_,H⟩;first
          |rw[L,Tn zg w (E+1) m zc o _ _ (Tl ltInt _ _ _ _ _ (Zp _))]
          |rw[Tn zg w (E+1) m zc o _ _ (Tl ltInt _ _ _ _ _ (Zp _))]
       .skip
        go_wp2_with fail
        go_region
        go_wp2_with fail
        rw[swap_world zg (i:=a) (j:=a+k) a8 a8 Z.o rfl rfl];refine(yA zc o d.size J (swp B a (a+k)) (by rw[tS];exact u) 0 k a _ (Tj zg _ zc o d _ (tP zg w (E+1) zc o d P) (by rw[tS];exact u)) (X3 _) (by rw[tS];omega) (by rw[tS];omega)).mono ?_;rintro e w1 ⟨rfl,m,L⟩
        go_wp2;go_roundg k;case measure=>omega
        case rel=>
         refine⟨b6,a8,siftDown ltInt k a 0 (swp B a (a+k)),E+1+m,by rw[Tl ltInt _ _ _ _ _ (Zp _),tS];exact u,?_,H⟩;first
          |rw[L,Tn zg w (E+1) m zc o _ _ (Tl ltInt _ _ _ _ _ (Zp _))]
          |rw[Tn zg w (E+1) m zc o _ _ (Tl ltInt _ _ _ _ _ (Zp _))]
  | succ k=>
    have G:=yA zc o d.size J C K k (b-a) a wr Q a8 a8 a8;rw[F]at G
    go_wp2_with (go_at_call 203;refine G.mono ?_;rintro e w1 ⟨rfl,m,L⟩)
    go_roundg k;case measure=>omega
    case rel=>refine⟨b6,a8,siftDown ltInt (b-a) a k C,n+m,by rw[Tl ltInt _ _ _ _ _ (Zp _)];exact K,?_,N⟩;rw[A.o,Tn zg w n m zc o C _ (Tl ltInt _ _ _ _ _ (Zp _))]
def qR{w:World}{zc o sb B n t:Nat}{d:Array Int}(h:Holds zg w zc o d)(u:sb≠zc):Holds zg (putRow (Value.int .i64) (Sort.ahead w n) sb B (one t)) zc o d:=λj A=>
 ⟨by rw[cell?_putRow_other _ _ _ _ _ _ (Or.inl (Ug u))];exact(h j A).1,by rw[Tg];exact(h j A).2⟩
def xu(d:Array Int)(len:Nat)(o:d.size=len)(zc u A a b sb C s:Nat)(w:World)(E:Holds zg w zc u d)(F:a<d.size)(hb:b<d.size)
 (B:Holds (Value.int .i64) w sb C (one s)) (hs:s<2 ^ 62) :
 Calls xt 213 #[.slice (some ⟨zc,u,none⟩) len A,.int .i64 a,.int .i64 b,.pointer (some ⟨sb,C,none⟩)] w λe G=>
  e=.returned (.tuple #[.int .i64 (order2 ltInt d a b s).1,.int .i64 (order2 ltInt d a b s).2.1])/\∃n,G=putRow (Value.int .i64) (Sort.ahead w n) sb C (one (order2 ltInt d a b s).2.2):=by
 subst o;replace hs:s<4611686018427387904:=a8
 have ca:=(E a F).1;have H:=(E b hb).1;obtain⟨I,J⟩:=one_cell B;have ea:d[a]! = d[a]:=tl d a F;have eb:d[b]! = d[b]:=tl d b hb;go_enter func213,ntmps213
 go_wp2
 go_region_with (go_at_call 189;refine(za _ _ _).mono ?_;rintro e G ⟨rfl,rfl⟩)
 all_goals (try go_wp2)
 all_goals first
  | (have j:ltInt d[b] d[a]=true:=b9
     have e2:order2 ltInt d a b s=(b,a,s+1):=(by simp[order2,ea,eb,j]);go_ret2;rw[e2];refine⟨rfl,1,?_⟩;rw[putRow_ahead,<-one_set B (s+1)];simp[drew_eq_ahead])
  | (have j:ltInt d[b] d[a]=false:=b9
     have e2:order2 ltInt d a b s=(a,b,s):=(by simp[order2,ea,eb,j]);go_ret2;rw[e2];refine⟨rfl,1,?_⟩;rw[putRow_ahead,Te _ _ _ _ _ B];rfl)
set_option maxRecDepth 100000 in
def jH(d:Array Int)(len:Nat)(B:d.size=len)(zc j o a b c sb A s:Nat)(w:World)(E:Holds zg w zc j d)(H:a<d.size)(hb:b<d.size)(I:c<d.size)(u:sb≠zc)
 (F:Holds (Value.int .i64) w sb A (one s)) (hs:s+3<2 ^ 62) :
 Calls xt 207 #[.slice (some ⟨zc,j,none⟩) len o,.int .i64 a,.int .i64 b,.int .i64 c,.pointer (some ⟨sb,A,none⟩)] w λe C=>
  e=.returned (.int .i64 (median ltInt d a b c s).1)/\∃n,C=putRow (Value.int .i64) (Sort.ahead w n) sb A (one (median ltInt d a b c s).2):=by
 subst B;have G:=order2_lt d s H hb;have N:=order2_swaps d a b s;have J:=order2_lt d (order2 ltInt d a b s).2.2 G.2 I;have O:=order2_swaps d (order2 ltInt d a b s).2.1 c (order2 ltInt d a b s).2.2;go_enter func207,ntmps207
 go_wp2_with (go_at_call_of 213 (Value.int .i64 (b:Int));refine(xu d _ rfl zc j o a b sb A s w E H hb F a8).mono ?_;rintro e C ⟨rfl,K,rfl⟩)
 go_wp2_with (go_at_call_of 213 (Value.int .i64 (c:Int));refine(xu d _ rfl zc j o (order2 ltInt d a b s).2.1 c sb A (order2 ltInt d a b s).2.2 _ (qR E u) G.2 I (holds_one F) a8).mono ?_;rintro e C ⟨rfl,L,rfl⟩)
 go_wp2_with (go_at_call_of 213 (Value.int .i64 ((order2 ltInt d a b s).1:Int));refine(xu d _ rfl zc j o (order2 ltInt d a b s).1 (order2 ltInt d (order2 ltInt d a b s).2.1 c (order2 ltInt d a b s).2.2).1 sb A (order2 ltInt d (order2 ltInt d a b s).2.1 c (order2 ltInt d a b s).2.2).2.2 _
  (qR (qR E u) u) G.1 J.1 (holds_one (holds_one F)) a8).mono ?_;rintro e C ⟨rfl,M,rfl⟩)
 go_ret;refine⟨rfl,K+(L+M),?_⟩;rw[one_one,one_one];rfl
set_option maxRecDepth 100000 in
def vf(d:Array Int)(len:Nat)(u:d.size=len)(zc j o a sb A s:Nat)(w:World)(F:Holds zg w zc j d)(I:1<=a)(H:a+1<d.size)(C:d.size<2 ^ 62)(B:sb≠zc)
 (G:Holds (Value.int .i64) w sb A (one s)) (hs:s+3<2 ^ 62) :
 Calls xt 206 #[.slice (some ⟨zc,j,none⟩) len o,.int .i64 a,.pointer (some ⟨sb,A,none⟩)] w λe E=>
  e=.returned (.int .i64 (medianAdjacent ltInt d a s).1)/\∃n,E=putRow (Value.int .i64) (Sort.ahead w n) sb A (one (medianAdjacent ltInt d a s).2):=by
 subst u;replace C:d.size<4611686018427387904:=a8
 go_enter func206,ntmps206
 go_wp2_with (go_at_call 207;rw[show ((a:Int)-1)=((a-1:Nat):Int) by omega,show ((a:Int)+1)=((a+1:Nat):Int) by omega];refine(jH d _ rfl zc j o (a-1) a (a+1) sb A s w F a8 a8 H B G hs).mono ?_;rintro e E ⟨rfl,J,rfl⟩)
 go_ret;exact⟨rfl,J,rfl⟩
end
end Go.Proofs.YtmpnbdhadjfbhaaGreatDoor
