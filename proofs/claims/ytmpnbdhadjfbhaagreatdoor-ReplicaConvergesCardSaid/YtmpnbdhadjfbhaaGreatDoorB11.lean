import Derived.Sort.WalkA
import Derived.Sort.WalkA6
import Derived.Sort.WalkC
import Derived.Sort.WalkC4
import Derived.Sort.Walk7
import Derived.Sort.WalkB2
import Derived.Sort.WalkB3
import Derived.Sort.WalkD2
import Derived.Test.YtmpnbdhadjfbhaaGreatDoorB10
set_option maxHeartbeats 16000000
set_option linter.all false
namespace Go.Proofs.YtmpnbdhadjfbhaaGreatDoor
def tB:=@Go.Calls.quiet_of_same
def tC:=@Go.World.drewN_drewN
def tS:=@Go.RowKit.cell?_setCell_some
def Tc:=@Go.Sort.frozen?_putRow
def Tg:=@Go.Sort.size_siftDown
def Ti:=@Go.Sort.putRow_ahead_putRow
def Tv:=@Go.Sort.cell?_putRow
open Go.Proofs.Tryz
open Go.Proofs.Tryz renaming prog->xT
section
open Go.RowKit Go.Sort
def vV(zc o J a b:Nat)(d:Array Int)(w:World)(H:Holds zg w zc o d)(ab:a<=b)(hb:b<=d.size)(ai:d.size<4611686018427387904):
 Calls xT 183 #[.slice (some ⟨zc,o,none⟩) d.size J,.int .i64 a,.int .i64 b] w λe w'=>
  e=.returned (.tuple #[])/\∃n,w'=putRow zg (Sort.ahead w n) zc o (Sort.insertionSort ltInt d a b):=by
 go_enter func183,ntmps183
 go_wp2
 go_loopw [6] (λQ wr=>∃(i n:Nat) (A:Array Int),Q=.int .i64 i/\a<i/\i<=b+1/\A.size=d.size/\wr=putRow zg (Sort.ahead w n) zc o A /\
  insOuter ltInt a b i A=insOuter ltInt a b (a+1) d) (λQ _=>b+1-(intOf Q).toNat)
 case atStart=>exact⟨a+1,0,d,by go_num,a8,a8,rfl,(Ta _ _ _ _ _ H).symm,rfl⟩
 case round=>
  obtain⟨i,n,A,rfl,ac,ag,P,aj,Z⟩:=hrel;have V:qA (insOuter ltInt a b i A=insOuter ltInt a b (a+1) d):=Z;clear Z
  go_wp2
  ·
   go_loopw [7] (λS T=>∃(j m:Nat) (u:Array Int),S=.int .i64 j/\a<=j/\j<=i/\u.size=d.size/\T=putRow zg (Sort.ahead w m) zc o u /\
    insInner ltInt a j u=insInner ltInt a i A) (λS _=>(intOf S).toNat)
   case atStart=>exact⟨i,n,A,rfl,a8,Zp _,P,rfl,rfl⟩
   case round=>
    obtain⟨j,m,u,rfl,ad,ah,C,y,Y⟩:=hrel;have O:i<b:=b9;obtain⟨G,K⟩:∃G:Nat->Int,∀t,G t=u[t]!:=⟨λt=>u[t]!,λ_=>rfl⟩;have ae:∀t,t<d.size->wr.cell? ⟨zc,o+t,none⟩=some (.int .u64 (G t)):=λt ht=>(by rw[y,K];exact Tv _ _ _ _ d u (tM _ _ _ _ _ _ H) C t a8);have af:∀t,t<d.size->wr.frozen? ⟨zc,o+t,none⟩=false:=λt ht=>(by rw[y,Tc];exact((tM _ _ m _ _ _ H) t ht).2);have X:qA (wr=putRow zg (Sort.ahead w m) zc o u):=y;have HG:qA (∀t,G t=u[t]!):=K;have U:qA (insInner ltInt a j u=insInner ltInt a i A):=Y;clear y K Y H;have F:(j<=a\/ltInt u[j]! u[j-1]! = false)->∀q,∃I n' B,Value.int .i64 ((i:Int)+1)=.int .i64 (I:Nat)/\a<I/\I<=b+1/\B.size=d.size /\
     wr.drewN q=putRow zg (Sort.ahead w n') zc o B/\insOuter ltInt a b I B=insOuter ltInt a b (a+1) d:=λhs q=>
     ⟨i+1,m+q,u,by go_num,a8,a8,C,by rw[X.o];exact putRow_drewN _ _ _ _ _ _ _,
      by rw[<-V.o,insOuter_go _ _ _ _ _ O,<-U.o,insInner_stop _ _ _ _ hs]⟩
    have E:qA _:=F;clear F
    go_wp2;by_cases M:a<j
    .go_quiet (first|(go_at_call 189;refine tB (za _ _ _)))
     go_wp2
     ·
      have N:ltInt (G j) (G (j-1))=true:=b9;go_region;all_goals go_wp2
      go_roundw
      case rel=>
       refine⟨j-1,m+(nq+1),swp u j (j-1),by congr 1;omega,a8,a8,by rw[tQ];exact C,?_,?_⟩
       .rw[X.o,HG.o,HG.o];exact swap_worldA _ w m (nq+1) zc o u j (j-1) a8 a8
       .rw[<-U.o,insInner_go ltInt a j u M (by rw[<-HG.o,<-HG.o];exact N)]
      case measure=>simp[intOf];omega
     ·
      have N:ltInt (G j) (G (j-1))=false:=b9
      go_roundw
      case rel=>exact E.o (Or.inr (by rw[<-HG.o,<-HG.o];exact N)) nq
      case measure=>simp[intOf];omega
    .go_quiet (first|(go_at_call 189;refine tB (za _ _ _)))
     go_wp2
     go_roundw
     case rel=>exact E.o (Or.inl a8) nq
     case measure=>simp[intOf];omega
  ·
   have L:¬i<b:=b9
   go_end0
   exact⟨rfl,n,by unfold Sort.insertionSort;rw[<-V.o,insOuter_stop _ _ _ _ _ L]⟩
set_option maxRecDepth 100000 in
def yE(zc o ai a b:Nat)(d:Array Int)(w:World)(hH:Holds zg w zc o d)(an:a<b)(hb:b<=d.size)(aw:d.size<4611686018427387904):
 Calls xT 188 #[.slice (some ⟨zc,o,none⟩) d.size ai,.int .i64 a,.int .i64 b] w λe w'=>
  e=.returned (.bool (Sort.partialInsertionSort ltInt d a b).2)/\∃n,w'=putRow zg (Sort.ahead w n) zc o (Sort.partialInsertionSort ltInt d a b).1:=by
 have Q:qA (Holds zg w zc o d):=hH;have ah:qA (w=putRow zg (Sort.ahead w 0) zc o d):=(Ta _ _ _ _ _ hH).symm;clear hH;go_enter func188,ntmps188
 go_wp2
 go_loopw [7,8] (λvi vs wr=>∃(i s n:Nat) (y:Array Int),vi=.int .i64 i/\vs=.int .i64 s/\s<=5/\a<i/\i<=b/\y.size=d.size/\wr=putRow zg (Sort.ahead w n) zc o y /\
  partialIns ltInt a b (5-s) i y=partialIns ltInt a b 5 (a+1) d) (λ_ vs _=>5-(intOf vs).toNat)
 case atStart=>exact⟨a+1,0,0,d,by go_num,rfl,a8,a8,a8,rfl,ah.o,rfl⟩
 case round=>
  obtain⟨i,s,n,y,rfl,rfl,av,ao,aj,ag,ax,hO⟩:=hrel;have N:qA (partialIns ltInt a b (5-s) i y=partialIns ltInt a b 5 (a+1) d):=hO;clear hO
  go_wp2
  ·
   have hs:s<5:=a8
   go_loopw [7] (λvi K=>∃(k m:Nat),vi=.int .i64 k/\i<=k/\k<=b/\K=putRow zg (Sort.ahead w m) zc o y/\scanSorted ltInt y b k=scanSorted ltInt y b i) (λvi _=>b-(intOf vi).toNat)
   case atStart=>exact⟨i,n,rfl,Zp _,aj,rfl,rfl⟩
   case round=>
    obtain⟨k,m,rfl,aq,au,J,hS⟩:=hrel;obtain⟨G,H⟩:∃G:Nat->Int,∀t,G t=y[t]!:=⟨λt=>y[t]!,λ_=>rfl⟩;have T:∀t,t<d.size->wr.cell? ⟨zc,o+t,none⟩=some (.int .u64 (G t)):=λt ht=>(by rw[J,H];exact Tv _ _ _ _ d y (tM _ _ _ _ _ _ Q.o) ag t a8);have U:∀t,t<d.size->wr.frozen? ⟨zc,o+t,none⟩=false:=λt ht=>(by rw[J,Tc];exact((tM _ _ m _ _ _ Q.o) t ht).2);have A:qA (wr=putRow zg (Sort.ahead w m) zc o y):=J;have HG:qA (∀t,G t=y[t]!):=H;have HS:qA (scanSorted ltInt y b k=scanSorted ltInt y b i):=hS;clear J H hS
    go_wp2;by_cases ae:k<b
    ·go_quiet (first | (go_at_call 189;refine tB (za _ _ _)))
     go_wp2;all_goals first
      | (at_end
         have I:ltInt (G k) (G (k-1))=false:=(by have h:(!ltInt (G k) (G (k-1)))=true:=b9;simpa using h)
         go_roundw
         case rel=>exact⟨k+1,m+nq,by go_num,a8,a8,by rw[A.o];exact putRow_drewN _ _ _ _ _ _ _,by rw[<-HS.o,scanSorted_go ltInt y b k ae (by rw[<-HG.o,<-HG.o];exact I)]⟩
         case measure=>simp[intOf];omega)
      | (have I:ltInt (G k) (G (k-1))=true:=by have h:(!ltInt (G k) (G (k-1)))=false:=b9;simpa using h
         have S:qA (scanSorted ltInt y b i=k):=(by show scanSorted ltInt y b i=k;rw[<-HS.o,scanSorted_stop ltInt y b k (Or.inr (by rw[<-HG.o,<-HG.o];exact I))]);first
          | (at_ret
             have hv:Sort.partialInsertionSort ltInt d a b=(y,false):=(by unfold Sort.partialInsertionSort;rw[<-N.o,pi_short ltInt a b s i y hs (by rw[S.o];omega) a8]);rw[hv];go_ret;exact⟨rfl,m+nq,by rw[A.o];exact putRow_drewN _ _ _ _ _ _ _⟩)
          | (at_region 11
             have am:¬b-a<50:=a8;go_region;have ak:((wr.drewN (nq+1)).setCell ⟨zc,o+k,none⟩ (.int .u64 (G (k-1)))).setCell ⟨zc,o+(k-1),none⟩ (.int .u64 (G k))=putRow zg (Sort.ahead w (m+(nq+1))) zc o (swp y k (k-1)):=(by rw[A.o,HG.o,HG.o];exact swap_worldA _ w m (nq+1) zc o y k (k-1) a8 a8);have Y:(swp y k (k-1)).size=d.size:=(by rw[tQ];exact ag)
             go_wp2;all_goals first
              | (at_loop
                 have ad:k-a≥2:=a8
                 go_loopw [9] (λL K=>∃(j Z:Nat) (B:Array Int),L=.int .i64 j/\j<=k-1/\B.size=d.size/\K=putRow zg (Sort.ahead w Z) zc o B /\
                  shiftDown ltInt j B=shiftDown ltInt (k-1) (swp y k (k-1))) (λL _=>(intOf L).toNat)
                 case atStart=>exact⟨k-1,_,(swp y k (k-1)),by congr 1;omega,Zp _,Y,rfl,rfl⟩
                 case round=>
                  obtain⟨j,Z,B,rfl,ar,M,J,ab⟩:=hrel;obtain⟨G,H⟩:∃G:Nat->Int,∀t,G t=B[t]!:=⟨λt=>B[t]!,λ_=>rfl⟩;have T:∀t,t<d.size->wr.cell? ⟨zc,o+t,none⟩=some (.int .u64 (G t)):=λt ht=>(by rw[J,H];exact Tv _ _ _ _ d B (tM _ _ _ _ _ _ Q.o) M t a8);have U:∀t,t<d.size->wr.frozen? ⟨zc,o+t,none⟩=false:=λt ht=>(by rw[J,Tc];exact((tM _ _ Z _ _ _ Q.o) t ht).2);have A:qA (wr=putRow zg (Sort.ahead w Z) zc o B):=J;have HG:qA (∀t,G t=B[t]!):=H;have X:qA (shiftDown ltInt j B=shiftDown ltInt (k-1) (swp y k (k-1))):=ab;clear J H ab ak
                  go_wp2;all_goals first
                   | (at_region 16
                      go_quiet (first|(go_at_call 189;refine tB (za _ _ _)))
                      go_wp2;all_goals first
                       | (at_region 17
                          have I:ltInt (G j) (G (j-1))=true:=(by have h:(!ltInt (G j) (G (j-1)))=false:=b9;simpa using h);go_region;all_goals go_wp2
                          go_roundw
                          case rel=>
                           refine⟨j-1,Z+(nq+1),swp B j (j-1),by congr 1;omega,a8,by rw[tQ];exact M,?_,?_⟩
                           .rw[A.o,HG.o,HG.o];exact swap_worldA _ w Z (nq+1) zc o B j (j-1) a8 a8
                           .rw[<-X.o,shiftDown_go ltInt j B a8 (by rw[<-HG.o,<-HG.o];exact I)]
                          case measure=>simp[intOf];omega)
                       |(-- break
                          have I:ltInt (G j) (G (j-1))=false:=(by have h:(!ltInt (G j) (G (j-1)))=true:=b9;simpa using h);have O:qA (fixDown ltInt a k (swp y k (k-1))=B):=(by show fixDown ltInt a k (swp y k (k-1))=B;unfold fixDown;rw[vD ad,<-X.o,shiftDown_stop ltInt j B (Or.inr (by rw[<-HG.o,<-HG.o];exact I))]);first
                           | (at_end
                              go_roundw
                              case rel=>refine⟨k,s+1,_,B,rfl,by go_num,a8,a8,a8,M,(by first|rfl|exact A.o|(rw[A.o];exact putRow_drewN _ _ _ _ _ _ _)),?_⟩;rw[<-N.o,pi_go ltInt a b s i k y hs S.o a8 a8,O.o,show fixUp ltInt b k B=B from by unfold fixUp;rw[Vq a8]]
                              case measure=>simp[intOf];omega)
                           | (at_loop
                              go_loopw [10] (λL K=>∃(j F:Nat) (u:Array Int),L=.int .i64 j/\k+1<=j/\j<=b/\u.size=d.size/\K=putRow zg (Sort.ahead w F) zc o u /\
                               shiftUp ltInt b j u=shiftUp ltInt b (k+1) B) (λL _=>b-(intOf L).toNat)
                              case atStart=>exact⟨k+1,_,B,by go_num,Zp _,a8,M,(by first|rfl|exact A.o|(rw[A.o];exact putRow_drewN _ _ _ _ _ _ _)),rfl⟩
                              case round=>
                               obtain⟨j,F,u,rfl,af,ac,C,E,V⟩:=hrel;obtain⟨G,H⟩:∃G:Nat->Int,∀t,G t=u[t]!:=⟨λt=>u[t]!,λ_=>rfl⟩;have T:∀t,t<d.size->wr.cell? ⟨zc,o+t,none⟩=some (.int .u64 (G t)):=λt ht=>(by rw[E,H];exact Tv _ _ _ _ d u (tM _ _ _ _ _ _ Q.o) C t a8);have U:∀t,t<d.size->wr.frozen? ⟨zc,o+t,none⟩=false:=λt ht=>(by rw[E,Tc];exact((tM _ _ F _ _ _ Q.o) t ht).2);have A:qA (wr=putRow zg (Sort.ahead w F) zc o u):=E;have HG:qA (∀t,G t=u[t]!):=H;have P:qA (shiftUp ltInt b j u=shiftUp ltInt b (k+1) B):=V;clear E H V
                               go_wp2;all_goals first
                                | (at_region 22
                                   go_quiet (first|(go_at_call 189;refine tB (za _ _ _)))
                                   go_wp2;all_goals first
                                    | (at_region 23
                                       have I:ltInt (G j) (G (j-1))=true:=(by have h:(!ltInt (G j) (G (j-1)))=false:=b9;simpa using h);go_region;all_goals go_wp2
                                       go_roundw
                                       case rel=>
                                        refine⟨j+1,F+(nq+1),swp u j (j-1),by go_num,a8,a8,by rw[tQ];exact C,?_,?_⟩
                                        .rw[A.o,HG.o,HG.o];exact swap_worldA _ w F (nq+1) zc o u j (j-1) a8 a8
                                        .rw[<-P.o,shiftUp_go ltInt b j u a8 (by rw[<-HG.o,<-HG.o];exact I)]
                                       case measure=>simp[intOf];omega)
                                    | (at_end
                                       have I:ltInt (G j) (G (j-1))=false:=(by have h:(!ltInt (G j) (G (j-1)))=true:=b9;simpa using h)
                                       go_roundw
                                       case rel=>refine⟨k,s+1,_,u,rfl,by go_num,a8,a8,a8,C,(by first|rfl|exact A.o|(rw[A.o];exact putRow_drewN _ _ _ _ _ _ _)),?_⟩;rw[<-N.o,pi_go ltInt a b s i k y hs S.o a8 a8,O.o,show fixUp ltInt b k B=u from by unfold fixUp;rw[vD a8,<-P.o,shiftUp_stop ltInt b j u (Or.inr (by rw[<-HG.o,<-HG.o];exact I))]]
                                       case measure=>simp[intOf];omega))
                                | (at_end
                                   go_roundw
                                   case rel=>refine⟨k,s+1,_,u,rfl,by go_num,a8,a8,a8,C,(by first|rfl|exact A.o|(rw[A.o];exact putRow_drewN _ _ _ _ _ _ _)),?_⟩;rw[<-N.o,pi_go ltInt a b s i k y hs S.o a8 a8,O.o,show fixUp ltInt b k B=u from by unfold fixUp;rw[vD a8,<-P.o,shiftUp_stop ltInt b j u (Or.inl a8)]]
                                   case measure=>simp[intOf];omega))))
                   |(-- j<1
                      have O:qA (fixDown ltInt a k (swp y k (k-1))=B):=(by show fixDown ltInt a k (swp y k (k-1))=B;unfold fixDown;rw[vD ad,<-X.o,shiftDown_stop ltInt j B (Or.inl a8)]);first
                       | (at_end
                          go_roundw
                          case rel=>refine⟨k,s+1,_,B,rfl,by go_num,a8,a8,a8,M,(by first|rfl|exact A.o|(rw[A.o];exact putRow_drewN _ _ _ _ _ _ _)),?_⟩;rw[<-N.o,pi_go ltInt a b s i k y hs S.o a8 a8,O.o,show fixUp ltInt b k B=B from by unfold fixUp;rw[Vq a8]]
                          case measure=>simp[intOf];omega)
                       | (at_loop
                          go_loopw [10] (λL K=>∃(j F:Nat) (u:Array Int),L=.int .i64 j/\k+1<=j/\j<=b/\u.size=d.size/\K=putRow zg (Sort.ahead w F) zc o u /\
                           shiftUp ltInt b j u=shiftUp ltInt b (k+1) B) (λL _=>b-(intOf L).toNat)
                          case atStart=>exact⟨k+1,_,B,by go_num,Zp _,a8,M,(by first|rfl|exact A.o|(rw[A.o];exact putRow_drewN _ _ _ _ _ _ _)),rfl⟩
                          case round=>
                           obtain⟨j,F,u,rfl,af,ac,C,E,V⟩:=hrel;obtain⟨G,H⟩:∃G:Nat->Int,∀t,G t=u[t]!:=⟨λt=>u[t]!,λ_=>rfl⟩;have T:∀t,t<d.size->wr.cell? ⟨zc,o+t,none⟩=some (.int .u64 (G t)):=λt ht=>(by rw[E,H];exact Tv _ _ _ _ d u (tM _ _ _ _ _ _ Q.o) C t a8);have U:∀t,t<d.size->wr.frozen? ⟨zc,o+t,none⟩=false:=λt ht=>(by rw[E,Tc];exact((tM _ _ F _ _ _ Q.o) t ht).2);have A:qA (wr=putRow zg (Sort.ahead w F) zc o u):=E;have HG:qA (∀t,G t=u[t]!):=H;have P:qA (shiftUp ltInt b j u=shiftUp ltInt b (k+1) B):=V;clear E H V
                           go_wp2;all_goals first
                            | (at_region 22
                               go_quiet (first|(go_at_call 189;refine tB (za _ _ _)))
                               go_wp2;all_goals first
                                | (at_region 23
                                   have I:ltInt (G j) (G (j-1))=true:=(by have h:(!ltInt (G j) (G (j-1)))=false:=b9;simpa using h);go_region;all_goals go_wp2
                                   go_roundw
                                   case rel=>
                                    refine⟨j+1,F+(nq+1),swp u j (j-1),by go_num,a8,a8,by rw[tQ];exact C,?_,?_⟩
                                    .rw[A.o,HG.o,HG.o];exact swap_worldA _ w F (nq+1) zc o u j (j-1) a8 a8
                                    .rw[<-P.o,shiftUp_go ltInt b j u a8 (by rw[<-HG.o,<-HG.o];exact I)]
                                   case measure=>simp[intOf];omega)
                                | (at_end
                                   have I:ltInt (G j) (G (j-1))=false:=(by have h:(!ltInt (G j) (G (j-1)))=true:=b9;simpa using h)
                                   go_roundw
                                   case rel=>refine⟨k,s+1,_,u,rfl,by go_num,a8,a8,a8,C,(by first|rfl|exact A.o|(rw[A.o];exact putRow_drewN _ _ _ _ _ _ _)),?_⟩;rw[<-N.o,pi_go ltInt a b s i k y hs S.o a8 a8,O.o,show fixUp ltInt b k B=u from by unfold fixUp;rw[vD a8,<-P.o,shiftUp_stop ltInt b j u (Or.inr (by rw[<-HG.o,<-HG.o];exact I))]]
                                   case measure=>simp[intOf];omega))
                            | (at_end
                               go_roundw
                               case rel=>refine⟨k,s+1,_,u,rfl,by go_num,a8,a8,a8,C,(by first|rfl|exact A.o|(rw[A.o];exact putRow_drewN _ _ _ _ _ _ _)),?_⟩;rw[<-N.o,pi_go ltInt a b s i k y hs S.o a8 a8,O.o,show fixUp ltInt b k B=u from by unfold fixUp;rw[vD a8,<-P.o,shiftUp_stop ltInt b j u (Or.inl a8)]]
                               case measure=>simp[intOf];omega))))
              |(-- i-a<2
                 have O:qA (fixDown ltInt a k (swp y k (k-1))=(swp y k (k-1))):=(by show fixDown ltInt a k (swp y k (k-1))=(swp y k (k-1));unfold fixDown;rw[Vq a8]);first
                  | (at_end
                     go_roundw
                     case rel=>refine⟨k,s+1,_,(swp y k (k-1)),rfl,by go_num,a8,a8,a8,Y,(by first|rfl|exact A.o|(rw[A.o];exact putRow_drewN _ _ _ _ _ _ _)),?_⟩;rw[<-N.o,pi_go ltInt a b s i k y hs S.o a8 a8,O.o,show fixUp ltInt b k (swp y k (k-1))=(swp y k (k-1)) from by unfold fixUp;rw[Vq a8]]
                     case measure=>simp[intOf];omega)
                  | (at_loop
                     go_loopw [10] (λL K=>∃(j F:Nat) (u:Array Int),L=.int .i64 j/\k+1<=j/\j<=b/\u.size=d.size/\K=putRow zg (Sort.ahead w F) zc o u /\
                      shiftUp ltInt b j u=shiftUp ltInt b (k+1) (swp y k (k-1))) (λL _=>b-(intOf L).toNat)
                     case atStart=>exact⟨k+1,_,(swp y k (k-1)),by go_num,Zp _,a8,Y,(by first|rfl|exact A.o|(rw[A.o];exact putRow_drewN _ _ _ _ _ _ _)),rfl⟩
                     case round=>
                      obtain⟨j,F,u,rfl,af,ac,C,E,V⟩:=hrel;obtain⟨G,H⟩:∃G:Nat->Int,∀t,G t=u[t]!:=⟨λt=>u[t]!,λ_=>rfl⟩;have T:∀t,t<d.size->wr.cell? ⟨zc,o+t,none⟩=some (.int .u64 (G t)):=λt ht=>(by rw[E,H];exact Tv _ _ _ _ d u (tM _ _ _ _ _ _ Q.o) C t a8);have U:∀t,t<d.size->wr.frozen? ⟨zc,o+t,none⟩=false:=λt ht=>(by rw[E,Tc];exact((tM _ _ F _ _ _ Q.o) t ht).2);have A:qA (wr=putRow zg (Sort.ahead w F) zc o u):=E;have HG:qA (∀t,G t=u[t]!):=H;have P:qA (shiftUp ltInt b j u=shiftUp ltInt b (k+1) (swp y k (k-1))):=V;clear E H V
                      go_wp2;all_goals first
                       | (at_region 22
                          go_quiet (first|(go_at_call 189;refine tB (za _ _ _)))
                          go_wp2;all_goals first
                           | (at_region 23
                              have I:ltInt (G j) (G (j-1))=true:=(by have h:(!ltInt (G j) (G (j-1)))=false:=b9;simpa using h);go_region;all_goals go_wp2
                              go_roundw
                              case rel=>
                               refine⟨j+1,F+(nq+1),swp u j (j-1),by go_num,a8,a8,by rw[tQ];exact C,?_,?_⟩
                               .rw[A.o,HG.o,HG.o];exact swap_worldA _ w F (nq+1) zc o u j (j-1) a8 a8
                               .rw[<-P.o,shiftUp_go ltInt b j u a8 (by rw[<-HG.o,<-HG.o];exact I)]
                              case measure=>simp[intOf];omega)
                           | (at_end
                              have I:ltInt (G j) (G (j-1))=false:=(by have h:(!ltInt (G j) (G (j-1)))=true:=b9;simpa using h)
                              go_roundw
                              case rel=>refine⟨k,s+1,_,u,rfl,by go_num,a8,a8,a8,C,(by first|rfl|exact A.o|(rw[A.o];exact putRow_drewN _ _ _ _ _ _ _)),?_⟩;rw[<-N.o,pi_go ltInt a b s i k y hs S.o a8 a8,O.o,show fixUp ltInt b k (swp y k (k-1))=u from by unfold fixUp;rw[vD a8,<-P.o,shiftUp_stop ltInt b j u (Or.inr (by rw[<-HG.o,<-HG.o];exact I))]]
                              case measure=>simp[intOf];omega))
                       | (at_end
                          go_roundw
                          case rel=>refine⟨k,s+1,_,u,rfl,by go_num,a8,a8,a8,C,(by first|rfl|exact A.o|(rw[A.o];exact putRow_drewN _ _ _ _ _ _ _)),?_⟩;rw[<-N.o,pi_go ltInt a b s i k y hs S.o a8 a8,O.o,show fixUp ltInt b k (swp y k (k-1))=u from by unfold fixUp;rw[vD a8,<-P.o,shiftUp_stop ltInt b j u (Or.inl a8)]]
                          case measure=>simp[intOf];omega)))))
    ·
     go_quiet (first|(go_at_call 189;refine tB (za _ _ _)))
     go_wp2;obtain rfl:k=b:=a8;have hv:Sort.partialInsertionSort ltInt d a k=(y,true):=by unfold Sort.partialInsertionSort;rw[<-N.o,pi_true ltInt a k s i y hs (by rw[<-HS.o,scanSorted_stop ltInt y k k (Or.inl a8)])]
     rw[hv];go_ret;exact⟨rfl,m+nq,by rw[A.o];exact putRow_drewN _ _ _ _ _ _ _⟩
  ·
   obtain rfl:s=5:=a8;have hv:Sort.partialInsertionSort ltInt d a b=(y,false):=(by unfold Sort.partialInsertionSort;rw[<-N.o,pi_end]);rw[hv];go_ret;exact⟨rfl,n,rfl⟩
set_option maxRecDepth 100000 in
def vg(zc u ai a b o:Nat)(d:Array Int)(w:World)(hH:Holds zg w zc u d)(aq:a<=o)(av:o<b)(hb:b<=d.size)(aw:d.size<4611686018427387904):
 Calls xT 190 #[.slice (some ⟨zc,u,none⟩) d.size ai,.int .i64 a,.int .i64 b,.int .i64 o] w λe w'=>
  e=.returned (.int .i64 (Sort.partitionEqual Sort.ltInt d a b o).1)/\∃n,w'=(putRow zg w zc u (Sort.partitionEqual Sort.ltInt d a b o).2).drewN n:=by
 have ab:a<d.size:=a8
 have ac:o<d.size:=a8
 obtain⟨G,U⟩:∃G:Nat->Int,∀j,G j=d[j]!:=⟨λj=>d[j]!,λ_=>rfl⟩;have ca:w.cell? ⟨zc,u+a,none⟩=some (.int .u64 (G a)):=by rw[U];exact(hH a ab).1
 have fa:=(hH a ab).2;have cp:w.cell? ⟨zc,u+o,none⟩=some (.int .u64 (G o)):=by rw[U];exact(hH o ac).1
 have fp:=(hH o ac).2;obtain⟨v',am⟩:=tS (w:=w) (p:=⟨zc,u+a,none⟩) (x:=.int .u64 (G o)) (q:=⟨zc,u+o,none⟩) cp;have L:qA (∀j,G j=d[j]!):=U;have AH:qA (Holds zg w zc u d):=hH;clear U hH;go_enter func190,ntmps190
 go_wp2;go_region
 go_wp2
 go_loopw [9,10] (λvi T wr=>∃(i j n:Nat) (y:Array Int),vi=.int .i64 i/\T=.int .i64 j/\a<i/\i<=j+1/\j<b/\y.size=d.size/\wr=(putRow zg w zc u y).drewN n /\
  Sort.partEqLoop Sort.ltInt a i j y=Sort.partEqLoop Sort.ltInt a (a+1) (b-1) (Sort.swp d a o))
  (λvi T _=>(intOf T).toNat+1-(intOf vi).toNat)
 case atStart=>refine⟨a+1,b-1,1,Sort.swp d a o,by go_num,by go_num,a8,a8,a8,tQ _ _ _,?_,rfl⟩;have e:=swap_worldC zg w zc u d 0 a o ab ac;rw[Ta _ w zc u d AH.o]at e;rw[L.o a,L.o o];exact e
 case round=>
  obtain⟨i,j,n,y,rfl,rfl,ao,aj,au,hs,hw,ae⟩:=hrel;clear ca fa cp fp am v' L
  rename World=>W1
  have Y:Holds zg W1 zc u y:=(by rw[hw];exact Te zg w zc u d y AH.o hs);obtain⟨F,U⟩:∃F:Nat->Int,∀t,F t=y[t]!:=⟨λt=>y[t]!,λ_=>rfl⟩;have hc:∀t,t<d.size->W1.cell? ⟨zc,u+t,none⟩=some (.int .u64 (F t)):=λt ht=>(by rw[U];exact(Y t a8).1);have hf:∀t,t<d.size->W1.frozen? ⟨zc,u+t,none⟩=false:=λt ht=>(Y t a8).2;have L:qA (∀t,F t=y[t]!):=U;have AW:qA (W1=(putRow zg w zc u y).drewN n):=hw;have AE:qA (Sort.partEqLoop Sort.ltInt a i j y=Sort.partEqLoop Sort.ltInt a (a+1) (b-1) (Sort.swp d a o)):=ae;clear U hw ae Y
  go_wp2
  go_loopw [9] (λvi w1=>∃(A X:Nat),vi=.int .i64 A/\i<=A/\A<=j+1/\w1=W1.drewN X /\
   qA (Sort.scanUp (λx=>!Sort.ltInt y[a]! x) y j A=Sort.scanUp (λx=>!Sort.ltInt y[a]! x) y j i))
   (λvi _=>j+1-(intOf vi).toNat)
  case atStart=>exact⟨i,0,rfl,Zp _,aj,rfl,rfl⟩
  case round=>
   obtain⟨A,X,rfl,ar,V,ad,S⟩:=hrel;have K:∀t,t<d.size->wr.cell? ⟨zc,u+t,none⟩=some (.int .u64 (F t)):=λt ht=>(by rw[ad];exact hc t ht);have N:qA (wr=W1.drewN X):=ad;clear ad;by_cases ah:A<=j
   .go_wp2_with fail
    go_big_quiet (first|(go_at_call 189;refine tB (za _ _ _)))
    go_wp2
    ·
     have ht:(!Sort.ltInt (F a) (F A))=true:=b9
     go_roundw
     case rel=>exact⟨A+1,X+nq,by go_num,a8,a8,by rw[N.o,tC],(scanUp_go (λx=>!Sort.ltInt y[a]! x) y j A ah (by rw[<-L.o a,<-L.o A];exact ht)).symm.trans S.o⟩
     case measure=>simp[intOf];omega
    ·
     have ht:(!Sort.ltInt (F a) (F A))=false:=b9;have Q:qA (A=Sort.scanUp (λx=>!Sort.ltInt y[a]! x) y j i):=(scanUp_end (λx=>!Sort.ltInt y[a]! x) y j A (Or.inr (by rw[<-L.o a,<-L.o A];exact ht))).symm.trans S.o;clear ht;have E:wr.drewN nq=W1.drewN (X+nq):=(by rw[N.o,tC]);clear K N S
     go_loopw [10] (λT w2=>∃(C J:Nat),T=.int .i64 C/\C<=j/\A<=C+1/\w2=W1.drewN J /\
      qA (Sort.scanDown (λx=>Sort.ltInt y[a]! x) y A C=Sort.scanDown (λx=>Sort.ltInt y[a]! x) y A j))
      (λT _=>(intOf T).toNat)
     case atStart=>exact⟨j,X+nq,rfl,Zp _,V,E,rfl⟩
     case round=>
      clear E;obtain⟨C,J,rfl,ak,ag,E,I⟩:=hrel;have K:∀t,t<d.size->wr.cell? ⟨zc,u+t,none⟩=some (.int .u64 (F t)):=λt ht=>(by rw[E];exact hc t ht);have O:qA (wr=W1.drewN J):=E;clear E;by_cases H:A<=C
      .go_wp2_with fail
       go_big_quiet (first|(go_at_call 189;refine tB (za _ _ _)))
       go_wp2
       ·
        have ht:Sort.ltInt (F a) (F C)=true:=b9
        go_roundw
        case rel=>exact⟨C-1,J+nq,by go_num,a8,a8,by rw[O.o,tC],(scanDown_go (λx=>Sort.ltInt y[a]! x) y A C H a8 (by rw[<-L.o a,<-L.o C];exact ht)).symm.trans I.o⟩
        case measure=>simp[intOf];omega
       ·
        have ht:Sort.ltInt (F a) (F C)=false:=b9;have M:qA (C=Sort.scanDown (λx=>Sort.ltInt y[a]! x) y A j):=(scanDown_end (λx=>Sort.ltInt y[a]! x) y A C (Or.inr (by rw[<-L.o a,<-L.o C];exact ht))).symm.trans I.o;clear K I ht;have B:wr.drewN nq=W1.drewN (J+nq):=(by rw[O.o,tC]);generalize wr.drewN nq=W3 at B⊢;have Z:∀t,t<d.size->W3.cell? ⟨zc,u+t,none⟩=some (.int .u64 (F t)):=λt ht=>(by rw[B];exact hc t ht);have af:∀t,t<d.size->W3.frozen? ⟨zc,u+t,none⟩=false:=λt ht=>(by rw[B];exact hf t ht);have P:qA (W3=W1.drewN (J+nq)):=B;clear B;obtain⟨v3,ax⟩:=tS (w:=W3) (p:=⟨zc,u+A,none⟩) (x:=.int .u64 (F C)) (q:=⟨zc,u+C,none⟩) (Z C a8);have an:=scans_lt Sort.ltInt a i j y a8 Q.o M.o H
        go_wp2;go_region;all_goals go_wp2
        all_goals go_roundw
        case rel=>
         refine⟨A+1,C-1,n+(J+nq)+1,Sort.swp y A C,by go_num,by go_num,a8,a8,a8,by rw[tQ];exact hs,?_,?_⟩
         .rw[P.o,AW.o,tC,L.o A,L.o C];exact swap_worldC zg w zc u y _ A C a8 a8
         .rw[<-AE.o];exact(partEq_go Sort.ltInt a i j y Q.o M.o a8).symm
        case measure=>simp[intOf];omega
      .go_wp2_with fail
       go_big_quiet (first|(go_at_call 189;refine tB (za _ _ _)))
       have M:qA (C=Sort.scanDown (λx=>Sort.ltInt y[a]! x) y A j):=(scanDown_end (λx=>Sort.ltInt y[a]! x) y A C (Or.inl H)).symm.trans I.o;clear K I;have B:wr.drewN nq=W1.drewN (J+nq):=(by rw[O.o,tC]);generalize wr.drewN nq=W3 at B⊢;have Z:∀t,t<d.size->W3.cell? ⟨zc,u+t,none⟩=some (.int .u64 (F t)):=λt ht=>(by rw[B];exact hc t ht);have af:∀t,t<d.size->W3.frozen? ⟨zc,u+t,none⟩=false:=λt ht=>(by rw[B];exact hf t ht);have P:qA (W3=W1.drewN (J+nq)):=B;clear B
       go_wp2;go_ret;have e:=partEq_break Sort.ltInt a i j y Q.o M.o a8;refine⟨?_,n+(J+nq),?_⟩
       .unfold Sort.partitionEqual;rw[<-AE.o,e];rfl
       .unfold Sort.partitionEqual;rw[<-AE.o,e,P.o,AW.o,tC]
   .go_wp2_with fail
    go_big_quiet (first|(go_at_call 189;refine tB (za _ _ _)))
    go_wp2;have Q:qA (A=Sort.scanUp (λx=>!Sort.ltInt y[a]! x) y j i):=(scanUp_end (λx=>!Sort.ltInt y[a]! x) y j A (Or.inl ah)).symm.trans S.o;have E:wr.drewN nq=W1.drewN (X+nq):=(by rw[N.o,tC]);clear K N S
    go_loopw [10] (λT w2=>∃(C J:Nat),T=.int .i64 C/\C<=j/\A<=C+1/\w2=W1.drewN J /\
     qA (Sort.scanDown (λx=>Sort.ltInt y[a]! x) y A C=Sort.scanDown (λx=>Sort.ltInt y[a]! x) y A j))
     (λT _=>(intOf T).toNat)
    case atStart=>exact⟨j,X+nq,rfl,Zp _,V,E,rfl⟩
    case round=>
     clear E;obtain⟨C,J,rfl,ak,ag,E,I⟩:=hrel;have K:∀t,t<d.size->wr.cell? ⟨zc,u+t,none⟩=some (.int .u64 (F t)):=λt ht=>(by rw[E];exact hc t ht);have O:qA (wr=W1.drewN J):=E;clear E;by_cases H:A<=C
     .exfalso;omega
     .go_wp2_with fail
      go_big_quiet (first|(go_at_call 189;refine tB (za _ _ _)))
      have M:qA (C=Sort.scanDown (λx=>Sort.ltInt y[a]! x) y A j):=(scanDown_end (λx=>Sort.ltInt y[a]! x) y A C (Or.inl H)).symm.trans I.o;clear K I;have B:wr.drewN nq=W1.drewN (J+nq):=(by rw[O.o,tC]);generalize wr.drewN nq=W3 at B⊢;have Z:∀t,t<d.size->W3.cell? ⟨zc,u+t,none⟩=some (.int .u64 (F t)):=λt ht=>(by rw[B];exact hc t ht);have af:∀t,t<d.size->W3.frozen? ⟨zc,u+t,none⟩=false:=λt ht=>(by rw[B];exact hf t ht);have P:qA (W3=W1.drewN (J+nq)):=B;clear B
      go_wp2;go_ret;have e:=partEq_break Sort.ltInt a i j y Q.o M.o a8;refine⟨?_,n+(J+nq),?_⟩
      .unfold Sort.partitionEqual;rw[<-AE.o,e];rfl
      .unfold Sort.partitionEqual;rw[<-AE.o,e,P.o,AW.o,tC]
def yz(zc o u a b j:Nat)(d:Array Int)(w:World)(C:Holds zg w zc o d)(y:a<=j)(A:j<b)(hb:b<=d.size)(B:d.size<4611686018427387904):
 Calls xT 190 #[.slice (some ⟨zc,o,none⟩) d.size u,.int .i64 a,.int .i64 b,.int .i64 j] w λe E=>
  e=.returned (.int .i64 (Sort.partitionEqual Sort.ltInt d a b j).1)/\∃n,E=putRow zg (Sort.ahead w n) zc o (Sort.partitionEqual Sort.ltInt d a b j).2:=
 (vg zc o u a b j d w C y A hb B).mono λ_ _ ⟨he,n,hw⟩=>⟨he,n,hw⟩
set_option maxRecDepth 100000 in
def Zc(zc o au a b u:Nat)(d:Array Int)(w:World)(hH:Holds zg w zc o d)(az:a<=u)(aA:u<b)(hb:b<=d.size)(aB:d.size<4611686018427387904):
 Calls xT 191 #[.slice (some ⟨zc,o,none⟩) d.size au,.int .i64 a,.int .i64 b,.int .i64 u] w λe w'=>
  e=.returned (.tuple #[.int .i64 (Sort.partition Sort.ltInt d a b u).1,.bool (Sort.partition Sort.ltInt d a b u).2.1])/\∃n,w'=(putRow zg w zc o (Sort.partition Sort.ltInt d a b u).2.2).drewN n:=by
 have aj:a<d.size:=a8
 have am:u<d.size:=a8
 obtain⟨G,hG⟩:∃G:Nat->Int,∀j,G j=d[j]!:=⟨λj=>d[j]!,λ_=>rfl⟩;have ca:w.cell? ⟨zc,o+a,none⟩=some (.int .u64 (G a)):=by rw[hG];exact(hH a aj).1
 have fa:=(hH a aj).2;have cp:w.cell? ⟨zc,o+u,none⟩=some (.int .u64 (G u)):=by rw[hG];exact(hH u am).1
 have fp:=(hH u am).2;obtain⟨v',ay⟩:=tS (w:=w) (p:=⟨zc,o+a,none⟩) (x:=.int .u64 (G u)) (q:=⟨zc,o+u,none⟩) cp;have hw:((w.setCell ⟨zc,o+a,none⟩ (.int .u64 (G u))).setCell ⟨zc,o+u,none⟩ (.int .u64 (G a))).drew=(putRow zg w zc o (Sort.swp d a u)).drewN 1:=by have e:=swap_worldC zg w zc o d 0 a u aj am;rw[Ta _ w zc o d hH]at e;rw[hG a,hG u];exact e
 have AH:qA (Holds zg w zc o d):=hH;have an:=qL hw;clear hG hH hw;go_enter func191,ntmps191
 go_wp2;go_region
 go_wp2;clear ca fa cp fp ay v';have hw:=an.o;clear an;generalize ((w.setCell ⟨zc,o+a,none⟩ (.int .u64 (G u))).setCell ⟨zc,o+u,none⟩ (.int .u64 (G a))).drew=W1 at hw⊢;obtain⟨y,af⟩:=xm (Sort.swp d a u);obtain⟨n,hn⟩:∃n:Nat,n=1:=⟨_,rfl⟩;rw[<-af,<-hn]at hw;clear hn;have hs:y.size=d.size:=by rw[af,tQ]
 have e1:((a:Int)+1)=((a+1:Nat):Int):=a8
 have e2:((b:Int)-1)=((b-1:Nat):Int):=a8
 rw[e1,e2];clear e1 e2;obtain⟨i,hi⟩:=xm (a+1);obtain⟨j,hj⟩:=xm (b-1);rw[<-hi,<-hj];have av:a<i:=a8
 have ah:i<=j+1:=a8
 have ax:j<b:=a8
 have HI:=qL hi;have HJ:=qL hj;have ag:=qL af;clear hi hj af;have Y:Holds zg W1 zc o y:=by rw[hw];exact Te zg w zc o d y AH.o hs
 obtain⟨F,hG⟩:∃F:Nat->Int,∀t,F t=y[t]!:=⟨λt=>y[t]!,λ_=>rfl⟩;have hc:∀t,t<d.size->W1.cell? ⟨zc,o+t,none⟩=some (.int .u64 (F t)):=λt ht=>by rw[hG];exact(Y t a8).1
 have hf:∀t,t<d.size->W1.frozen? ⟨zc,o+t,none⟩=false:=λt ht=>(Y t a8).2;have L:qA (∀t,F t=y[t]!):=hG;have AW:qA (W1=(putRow zg w zc o y).drewN n):=hw;clear hG hw Y
 go_loopw [10] (λvi w1=>∃(B X:Nat),vi=.int .i64 B/\i<=B/\B<=j+1/\w1=W1.drewN X /\
  qA (Sort.scanUp (λx=>Sort.ltInt x y[a]!) y j B=Sort.scanUp (λx=>Sort.ltInt x y[a]!) y j i))
  (λvi _=>j+1-(intOf vi).toNat)
 case atStart=>exact⟨i,0,rfl,Zp _,ah,rfl,rfl⟩
 case round=>
  obtain⟨B,X,rfl,aw,V,Z,T⟩:=hrel;have K:∀t,t<d.size->wr.cell? ⟨zc,o+t,none⟩=some (.int .u64 (F t)):=λt ht=>(by rw[Z];exact hc t ht);have Q:qA (wr=W1.drewN X):=Z;clear Z;by_cases ae:B<=j
  ·go_wp2_with fail
   go_big_quiet (first|(go_at_call 189;refine tB (za _ _ _)))
   go_wp2
   ·
    have ht:Sort.ltInt (F B) (F a)=true:=b9
    go_roundw
    case rel=>exact⟨B+1,X+nq,by go_num,a8,a8,by rw[Q.o,tC],(scanUp_go (λx=>Sort.ltInt x y[a]!) y j B ae (by rw[<-L.o a,<-L.o B];exact ht)).symm.trans T.o⟩
    case measure=>simp[intOf];omega
   ·
    have ht:Sort.ltInt (F B) (F a)=false:=b9;have P:qA (B=Sort.scanUp (λx=>Sort.ltInt x y[a]!) y j i):=(scanUp_end (λx=>Sort.ltInt x y[a]!) y j B (Or.inr (by rw[<-L.o a,<-L.o B];exact ht))).symm.trans T.o;clear ht;have E:wr.drewN nq=W1.drewN (X+nq):=(by rw[Q.o,tC]);clear K Q T
    go_loopw [11] (λU w2=>∃(A J:Nat),U=.int .i64 A/\A<=j/\B<=A+1/\w2=W1.drewN J /\
     qA (Sort.scanDown (λx=>!Sort.ltInt x y[a]!) y B A=Sort.scanDown (λx=>!Sort.ltInt x y[a]!) y B j))
     (λU _=>(intOf U).toNat)
    case atStart=>exact⟨j,X+nq,rfl,Zp _,V,E,rfl⟩
    case round=>
     clear E;obtain⟨A,J,rfl,ai,ad,E,I⟩:=hrel;have K:∀t,t<d.size->wr.cell? ⟨zc,o+t,none⟩=some (.int .u64 (F t)):=λt ht=>(by rw[E];exact hc t ht);have S:qA (wr=W1.drewN J):=E;clear E;by_cases H:B<=A
     .go_wp2_with fail
      go_big_quiet (first|(go_at_call 189;refine tB (za _ _ _)))
      go_wp2
      ·
       have ht:(!Sort.ltInt (F A) (F a))=true:=b9
       go_roundw
       case rel=>exact⟨A-1,J+nq,by go_num,a8,a8,by rw[S.o,tC],(scanDown_go (λx=>!Sort.ltInt x y[a]!) y B A H a8 (by rw[<-L.o a,<-L.o A];exact ht)).symm.trans I.o⟩
       case measure=>simp[intOf];omega
      ·
       have ht:(!Sort.ltInt (F A) (F a))=false:=b9;have M:qA (A=Sort.scanDown (λx=>!Sort.ltInt x y[a]!) y B j):=(scanDown_end (λx=>!Sort.ltInt x y[a]!) y B A (Or.inr (by rw[<-L.o a,<-L.o A];exact ht))).symm.trans I.o;clear K I ht;have C:wr.drewN nq=W1.drewN (J+nq):=(by rw[S.o,tC]);generalize wr.drewN nq=W3 at C⊢;have O:∀t,t<d.size->W3.cell? ⟨zc,o+t,none⟩=some (.int .u64 (F t)):=λt ht=>(by rw[C];exact hc t ht);have ab:∀t,t<d.size->W3.frozen? ⟨zc,o+t,none⟩=false:=λt ht=>(by rw[C];exact hf t ht);have N:qA (W3=W1.drewN (J+nq)):=C;clear C;obtain⟨v3,ac⟩:=tS (w:=W3) (p:=⟨zc,o+B,none⟩) (x:=.int .u64 (F A)) (q:=⟨zc,o+A,none⟩) (O A a8);have aq:=part_scans_lt Sort.ltInt a i j y a8 P.o M.o H
       go_wp2;go_region;all_goals go_wp2
       obtain⟨R,hR⟩:=xm (Sort.partLoop Sort.ltInt a (B+1) (A-1) (Sort.swp y B A));have HP:qA (Sort.partition Sort.ltInt d a b u=(R.1,false,Sort.swp R.2 R.1 a)):=(by rw[hR];exact part_first_go Sort.ltInt d a b u HI.o HJ.o ag.o P.o M.o a8);have ar:((W3.setCell ⟨zc,o+B,none⟩ (.int .u64 (F A))).setCell ⟨zc,o+A,none⟩ (.int .u64 (F B))).drew=(putRow zg w zc o (Sort.swp y B A)).drewN (n+(J+nq)+1):=(by rw[N.o,AW.o,tC,L.o B,L.o A];exact swap_worldC zg w zc o y _ B A a8 a8);have HR:qA (R=Sort.partLoop Sort.ltInt a (B+1) (A-1) (Sort.swp y B A)):=hR;clear hR hc hf O ab ac N AW L P M
       go_loopw [10,11] (λvi U wr=>∃(i j n:Nat) (y:Array Int),vi=.int .i64 i/\U=.int .i64 j/\a<i/\i<=j+1/\j<b/\y.size=d.size/\wr=(putRow zg w zc o y).drewN n /\
        Sort.partLoop Sort.ltInt a i j y=R)
        (λvi U _=>(intOf U).toNat+1-(intOf vi).toNat)
       case atStart=>exact⟨B+1,A-1,_,Sort.swp y B A,by go_num,by go_num,a8,a8,a8,by rw[tQ];exact hs,ar,HR.o.symm⟩
       case round=>
        clear ar HR;obtain⟨i,j,n,y,rfl,rfl,av,ah,ax,hs,hw,ao⟩:=hrel
        rename World=>W1
        have AE:qA (Sort.partLoop Sort.ltInt a i j y=R):=ao;clear ao;have Y:Holds zg W1 zc o y:=(by rw[hw];exact Te zg w zc o d y AH.o hs);obtain⟨F,hG⟩:∃F:Nat->Int,∀t,F t=y[t]!:=⟨λt=>y[t]!,λ_=>rfl⟩;have hc:∀t,t<d.size->W1.cell? ⟨zc,o+t,none⟩=some (.int .u64 (F t)):=λt ht=>(by rw[hG];exact(Y t a8).1);have hf:∀t,t<d.size->W1.frozen? ⟨zc,o+t,none⟩=false:=λt ht=>(Y t a8).2;have L:qA (∀t,F t=y[t]!):=hG;have AW:qA (W1=(putRow zg w zc o y).drewN n):=hw;clear hG hw Y
        go_wp2
        go_loopw [10] (λvi w1=>∃(B X:Nat),vi=.int .i64 B/\i<=B/\B<=j+1/\w1=W1.drewN X /\
         qA (Sort.scanUp (λx=>Sort.ltInt x y[a]!) y j B=Sort.scanUp (λx=>Sort.ltInt x y[a]!) y j i))
         (λvi _=>j+1-(intOf vi).toNat)
        case atStart=>exact⟨i,0,rfl,Zp _,ah,rfl,rfl⟩
        case round=>
         obtain⟨B,X,rfl,aw,V,Z,T⟩:=hrel;have K:∀t,t<d.size->wr.cell? ⟨zc,o+t,none⟩=some (.int .u64 (F t)):=λt ht=>(by rw[Z];exact hc t ht);have Q:qA (wr=W1.drewN X):=Z;clear Z;by_cases ae:B<=j
         .go_wp2_with fail
          go_big_quiet (first|(go_at_call 189;refine tB (za _ _ _)))
          go_wp2
          ·
           have ht:Sort.ltInt (F B) (F a)=true:=b9
           go_roundw
           case rel=>exact⟨B+1,X+nq,by go_num,a8,a8,by rw[Q.o,tC],(scanUp_go (λx=>Sort.ltInt x y[a]!) y j B ae (by rw[<-L.o a,<-L.o B];exact ht)).symm.trans T.o⟩
           case measure=>simp[intOf];omega
          ·
           have ht:Sort.ltInt (F B) (F a)=false:=b9;have P:qA (B=Sort.scanUp (λx=>Sort.ltInt x y[a]!) y j i):=(scanUp_end (λx=>Sort.ltInt x y[a]!) y j B (Or.inr (by rw[<-L.o a,<-L.o B];exact ht))).symm.trans T.o;clear ht;have E:wr.drewN nq=W1.drewN (X+nq):=(by rw[Q.o,tC]);clear K Q T
           go_loopw [11] (λU w2=>∃(A J:Nat),U=.int .i64 A/\A<=j/\B<=A+1/\w2=W1.drewN J /\
            qA (Sort.scanDown (λx=>!Sort.ltInt x y[a]!) y B A=Sort.scanDown (λx=>!Sort.ltInt x y[a]!) y B j))
            (λU _=>(intOf U).toNat)
           case atStart=>exact⟨j,X+nq,rfl,Zp _,V,E,rfl⟩
           case round=>
            clear E;obtain⟨A,J,rfl,ai,ad,E,I⟩:=hrel;have K:∀t,t<d.size->wr.cell? ⟨zc,o+t,none⟩=some (.int .u64 (F t)):=λt ht=>(by rw[E];exact hc t ht);have S:qA (wr=W1.drewN J):=E;clear E;by_cases H:B<=A
            .go_wp2_with fail
             go_big_quiet (first|(go_at_call 189;refine tB (za _ _ _)))
             go_wp2
             ·
              have ht:(!Sort.ltInt (F A) (F a))=true:=b9
              go_roundw
              case rel=>exact⟨A-1,J+nq,by go_num,a8,a8,by rw[S.o,tC],(scanDown_go (λx=>!Sort.ltInt x y[a]!) y B A H a8 (by rw[<-L.o a,<-L.o A];exact ht)).symm.trans I.o⟩
              case measure=>simp[intOf];omega
             ·
              have ht:(!Sort.ltInt (F A) (F a))=false:=b9;have M:qA (A=Sort.scanDown (λx=>!Sort.ltInt x y[a]!) y B j):=(scanDown_end (λx=>!Sort.ltInt x y[a]!) y B A (Or.inr (by rw[<-L.o a,<-L.o A];exact ht))).symm.trans I.o;clear K I ht;have C:wr.drewN nq=W1.drewN (J+nq):=(by rw[S.o,tC]);generalize wr.drewN nq=W3 at C⊢;have O:∀t,t<d.size->W3.cell? ⟨zc,o+t,none⟩=some (.int .u64 (F t)):=λt ht=>(by rw[C];exact hc t ht);have ab:∀t,t<d.size->W3.frozen? ⟨zc,o+t,none⟩=false:=λt ht=>(by rw[C];exact hf t ht);have N:qA (W3=W1.drewN (J+nq)):=C;clear C;obtain⟨v3,ac⟩:=tS (w:=W3) (p:=⟨zc,o+B,none⟩) (x:=.int .u64 (F A)) (q:=⟨zc,o+A,none⟩) (O A a8);have aq:=part_scans_lt Sort.ltInt a i j y a8 P.o M.o H
              go_wp2;go_region;all_goals go_wp2
              all_goals go_roundw
              case rel=>
               refine⟨B+1,A-1,n+(J+nq)+1,Sort.swp y B A,by go_num,by go_num,a8,a8,a8,by rw[tQ];exact hs,?_,?_⟩
               .rw[N.o,AW.o,tC,L.o B,L.o A];exact swap_worldC zg w zc o y _ B A a8 a8
               .exact(part_go Sort.ltInt a i j y P.o M.o a8).symm.trans AE.o
              case measure=>simp[intOf];omega
            .go_wp2_with fail
             go_big_quiet (first|(go_at_call 189;refine tB (za _ _ _)))
             have M:qA (A=Sort.scanDown (λx=>!Sort.ltInt x y[a]!) y B j):=(scanDown_end (λx=>!Sort.ltInt x y[a]!) y B A (Or.inl H)).symm.trans I.o;clear K I;have C:wr.drewN nq=W1.drewN (J+nq):=(by rw[S.o,tC]);generalize wr.drewN nq=W3 at C⊢;have O:∀t,t<d.size->W3.cell? ⟨zc,o+t,none⟩=some (.int .u64 (F t)):=λt ht=>(by rw[C];exact hc t ht);have ab:∀t,t<d.size->W3.frozen? ⟨zc,o+t,none⟩=false:=λt ht=>(by rw[C];exact hf t ht);have N:qA (W3=W1.drewN (J+nq)):=C;clear C;obtain⟨v3,ac⟩:=tS (w:=W3) (p:=⟨zc,o+A,none⟩) (x:=.int .u64 (F a)) (q:=⟨zc,o+a,none⟩) (O a a8);have ak:A<d.size:=a8
             go_wp2;go_region;all_goals go_wp2
             all_goals go_ret2
             have e:Sort.partition Sort.ltInt d a b u=(A,false,Sort.swp y A a):=(by have e0:=(part_break Sort.ltInt a i j y P.o M.o a8).symm.trans AE.o;rw[HP.o,<-e0]);refine⟨?_,n+(J+nq)+1,?_⟩
             .rw[e];rfl
             .rw[e,N.o,AW.o,tC,L.o a,L.o A];exact swap_worldC zg w zc o y _ A a a8 a8
         .go_wp2_with fail
          go_big_quiet (first|(go_at_call 189;refine tB (za _ _ _)))
          go_wp2;have P:qA (B=Sort.scanUp (λx=>Sort.ltInt x y[a]!) y j i):=(scanUp_end (λx=>Sort.ltInt x y[a]!) y j B (Or.inl ae)).symm.trans T.o;have E:wr.drewN nq=W1.drewN (X+nq):=(by rw[Q.o,tC]);clear K Q T
          go_loopw [11] (λU w2=>∃(A J:Nat),U=.int .i64 A/\A<=j/\B<=A+1/\w2=W1.drewN J /\
           qA (Sort.scanDown (λx=>!Sort.ltInt x y[a]!) y B A=Sort.scanDown (λx=>!Sort.ltInt x y[a]!) y B j))
           (λU _=>(intOf U).toNat)
          case atStart=>exact⟨j,X+nq,rfl,Zp _,V,E,rfl⟩
          case round=>
           clear E;obtain⟨A,J,rfl,ai,ad,E,I⟩:=hrel;have K:∀t,t<d.size->wr.cell? ⟨zc,o+t,none⟩=some (.int .u64 (F t)):=λt ht=>(by rw[E];exact hc t ht);have S:qA (wr=W1.drewN J):=E;clear E;by_cases H:B<=A
           .exfalso;omega
           .go_wp2_with fail
            go_big_quiet (first|(go_at_call 189;refine tB (za _ _ _)))
            have M:qA (A=Sort.scanDown (λx=>!Sort.ltInt x y[a]!) y B j):=(scanDown_end (λx=>!Sort.ltInt x y[a]!) y B A (Or.inl H)).symm.trans I.o;clear K I;have C:wr.drewN nq=W1.drewN (J+nq):=(by rw[S.o,tC]);generalize wr.drewN nq=W3 at C⊢;have O:∀t,t<d.size->W3.cell? ⟨zc,o+t,none⟩=some (.int .u64 (F t)):=λt ht=>(by rw[C];exact hc t ht);have ab:∀t,t<d.size->W3.frozen? ⟨zc,o+t,none⟩=false:=λt ht=>(by rw[C];exact hf t ht);have N:qA (W3=W1.drewN (J+nq)):=C;clear C;obtain⟨v3,ac⟩:=tS (w:=W3) (p:=⟨zc,o+A,none⟩) (x:=.int .u64 (F a)) (q:=⟨zc,o+a,none⟩) (O a a8);have ak:A<d.size:=a8
            go_wp2;go_region;all_goals go_wp2
            all_goals go_ret2
            have e:Sort.partition Sort.ltInt d a b u=(A,false,Sort.swp y A a):=(by have e0:=(part_break Sort.ltInt a i j y P.o M.o a8).symm.trans AE.o;rw[HP.o,<-e0]);refine⟨?_,n+(J+nq)+1,?_⟩
            .rw[e];rfl
            .rw[e,N.o,AW.o,tC,L.o a,L.o A];exact swap_worldC zg w zc o y _ A a a8 a8
     .go_wp2_with fail
      go_big_quiet (first|(go_at_call 189;refine tB (za _ _ _)))
      have M:qA (A=Sort.scanDown (λx=>!Sort.ltInt x y[a]!) y B j):=(scanDown_end (λx=>!Sort.ltInt x y[a]!) y B A (Or.inl H)).symm.trans I.o;clear K I;have C:wr.drewN nq=W1.drewN (J+nq):=(by rw[S.o,tC]);generalize wr.drewN nq=W3 at C⊢;have O:∀t,t<d.size->W3.cell? ⟨zc,o+t,none⟩=some (.int .u64 (F t)):=λt ht=>(by rw[C];exact hc t ht);have ab:∀t,t<d.size->W3.frozen? ⟨zc,o+t,none⟩=false:=λt ht=>(by rw[C];exact hf t ht);have N:qA (W3=W1.drewN (J+nq)):=C;clear C;obtain⟨v3,ac⟩:=tS (w:=W3) (p:=⟨zc,o+A,none⟩) (x:=.int .u64 (F a)) (q:=⟨zc,o+a,none⟩) (O a a8);have ak:A<d.size:=a8
      go_wp2;go_region;all_goals go_wp2
      all_goals go_ret2
      have e:Sort.partition Sort.ltInt d a b u=(A,true,Sort.swp y A a):=part_first_break Sort.ltInt d a b u HI.o HJ.o ag.o P.o M.o a8;refine⟨?_,n+(J+nq)+1,?_⟩
      .rw[e];rfl
      .rw[e,N.o,AW.o,tC,L.o a,L.o A];exact swap_worldC zg w zc o y _ A a a8 a8
  .go_wp2_with fail
   go_big_quiet (first|(go_at_call 189;refine tB (za _ _ _)))
   go_wp2;have P:qA (B=Sort.scanUp (λx=>Sort.ltInt x y[a]!) y j i):=(scanUp_end (λx=>Sort.ltInt x y[a]!) y j B (Or.inl ae)).symm.trans T.o;have E:wr.drewN nq=W1.drewN (X+nq):=(by rw[Q.o,tC]);clear K Q T
   go_loopw [11] (λU w2=>∃(A J:Nat),U=.int .i64 A/\A<=j/\B<=A+1/\w2=W1.drewN J /\
    qA (Sort.scanDown (λx=>!Sort.ltInt x y[a]!) y B A=Sort.scanDown (λx=>!Sort.ltInt x y[a]!) y B j))
    (λU _=>(intOf U).toNat)
   case atStart=>exact⟨j,X+nq,rfl,Zp _,V,E,rfl⟩
   case round=>
    clear E;obtain⟨A,J,rfl,ai,ad,E,I⟩:=hrel;have K:∀t,t<d.size->wr.cell? ⟨zc,o+t,none⟩=some (.int .u64 (F t)):=λt ht=>(by rw[E];exact hc t ht);have S:qA (wr=W1.drewN J):=E;clear E;by_cases H:B<=A
    .exfalso;omega
    .go_wp2_with fail
     go_big_quiet (first|(go_at_call 189;refine tB (za _ _ _)))
     have M:qA (A=Sort.scanDown (λx=>!Sort.ltInt x y[a]!) y B j):=(scanDown_end (λx=>!Sort.ltInt x y[a]!) y B A (Or.inl H)).symm.trans I.o;clear K I;have C:wr.drewN nq=W1.drewN (J+nq):=(by rw[S.o,tC]);generalize wr.drewN nq=W3 at C⊢;have O:∀t,t<d.size->W3.cell? ⟨zc,o+t,none⟩=some (.int .u64 (F t)):=λt ht=>(by rw[C];exact hc t ht);have ab:∀t,t<d.size->W3.frozen? ⟨zc,o+t,none⟩=false:=λt ht=>(by rw[C];exact hf t ht);have N:qA (W3=W1.drewN (J+nq)):=C;clear C;obtain⟨v3,ac⟩:=tS (w:=W3) (p:=⟨zc,o+A,none⟩) (x:=.int .u64 (F a)) (q:=⟨zc,o+a,none⟩) (O a a8);have ak:A<d.size:=a8
     go_wp2;go_region;all_goals go_wp2
     all_goals go_ret2
     have e:Sort.partition Sort.ltInt d a b u=(A,true,Sort.swp y A a):=part_first_break Sort.ltInt d a b u HI.o HJ.o ag.o P.o M.o a8;refine⟨?_,n+(J+nq)+1,?_⟩
     .rw[e];rfl
     .rw[e,N.o,AW.o,tC,L.o a,L.o A];exact swap_worldC zg w zc o y _ A a a8 a8
def xJ(zc o u a b j:Nat)(d:Array Int)(w:World)(C:Holds zg w zc o d)(y:a<=j)(A:j<b)(hb:b<=d.size)(B:d.size<4611686018427387904):
 Calls xT 191 #[.slice (some ⟨zc,o,none⟩) d.size u,.int .i64 a,.int .i64 b,.int .i64 j] w λe E=>
  e=.returned (.tuple #[.int .i64 (Sort.partition Sort.ltInt d a b j).1,.bool (Sort.partition Sort.ltInt d a b j).2.1])/\∃n,E=putRow zg (Sort.ahead w n) zc o (Sort.partition Sort.ltInt d a b j).2.2:=
 (Zc zc o u a b j d w C y A hb B).mono λ_ _ ⟨he,n,hw⟩=>⟨he,n,hw⟩
set_option maxRecDepth 100000 in
def xI(zc j T a L:Nat)(d:Array Int)(w:World)(V:Holds zg w zc j d)(u:zc<w.heap.size)(hb:a+L<=d.size)(ai:d.size<4611686018427387904)(h8:8<=L):
 Calls xT 185 #[.slice (some ⟨zc,j,none⟩) d.size T,.int .i64 a,.int .i64 ((a+L:Nat):Int)] w λe H=>
  e=.returned (.tuple #[])/\∃n os,H=grow (putRow zg (Sort.ahead w n) zc j (breakPatterns d a (a+L))) os:=by
 rw[breakPatterns_eq d a L h8];obtain⟨M,J⟩:∃M:Nat,M=1 <<< bitsLen L:=⟨_,rfl⟩;have ae:1<=M:=by rw[J,Nat.one_shiftLeft];exact Nat.two_pow_pos _
 have af:M<=2*L:=by rw[J,Nat.one_shiftLeft];exact two_pow_bitsLen_le a8
 have Y:∀w,Calls xT 204 #[.int .i64 (L:Int)] w λe H=>e=.returned (.int .u64 (M:Int))/\H=w:=by rw[J];exact λw=>kI L a8 w
 rw[<-J];clear J;have HH:qA (Holds zg w zc j d):=V;have Q:qA (w.alloc (Obj.cells #[.int .u64 (L:Int)] 282)=grow (putRow zg (Sort.ahead w 0) zc j d) #[Obj.cells #[.int .u64 ((UInt64.ofNat L).toNat:Int)] 282]):=by show _=_;rw[show Sort.ahead w 0=w from rfl,Ta _ _ _ _ _ V,alloc_eq_grow,show (UInt64.ofNat L).toNat=L from by simp;omega]
 clear V;go_enter func185,ntmps185
 go_wp2_with (first|(go_at_call 204;rw[show ((a:Int)+(L:Int)-(a:Int))=(L:Int) by omega];refine(Y _).mono ?_;rintro e H ⟨rfl,rfl⟩))
 go_loopw [9] (λvi wr=>∃(t n:Nat) (r:UInt64) (o:Array Int),vi=.int .i64 ((a+L/4*2-1+t:Nat):Int)/\t<=3/\o.size=d.size /\
  wr=grow (putRow zg (Sort.ahead w n) zc j o) #[Obj.cells #[.int .u64 (r.toNat:Int)] 282] /\
  bpRest a L M (a+L/4*2-1) (3-t) t (r,o)=bpRest a L M (a+L/4*2-1) 3 0 (UInt64.ofNat L,d)) (λvi _=>a+L/4*2+3-(intOf vi).toNat)
 case atStart=>exact⟨0,0,UInt64.ofNat L,d,by congr 1;omega,a8,rfl,Q.o,rfl⟩
 case round=>
  obtain⟨t,n,r,o,rfl,ht,F,I,hR⟩:=hrel;obtain⟨R,B⟩:∃R:Nat,R=r.toNat:=⟨_,rfl⟩;have lR:R<18446744073709551616:=(by rw[B];exact r.toNat_lt);obtain⟨y,A⟩:∃y:Nat,y=xorNextN R:=⟨_,rfl⟩;have ac:y<18446744073709551616:=(by rw[A];exact xorNextN_lt R lR);obtain⟨O,N⟩:∃O:Nat,O=y &&& (M-1):=⟨_,rfl⟩;have lO:O<=M-1:=(by rw[N];exact Nat.and_le_right);have ad:bits .and .u64 (y:Int) ((M:Int)-1)=(O:Int):=(by rw[show ((M:Int)-1)=((M-1:Nat):Int) by omega,bits_and_u64_nat _ _ ac a8,N]);obtain⟨G,U⟩:∃G:Nat->Int,∀x,G x=o[x]!:=⟨λx=>o[x]!,λ_=>rfl⟩;have hz:(putRow zg (Sort.ahead w n) zc j o).heap.size=w.heap.size:=b6;have ag:∀x,x<d.size->wr.cell? ⟨zc,j+x,none⟩=some (.int .u64 (G x)):=λx hx=>(by rw[I,cell?_grow _ _ _ (by rw[hz];exact u),U];exact Tv _ _ _ _ d o (tM _ _ _ _ _ _ HH.o) F x a8);have ah:∀x,x<d.size->wr.frozen? ⟨zc,j+x,none⟩=false:=λx hx=>(by rw[I,frozen?_grow _ _ _ (by rw[hz];exact u),Tc];exact((tM _ _ n _ _ _ HH.o) x hx).2);have Z:wr.cell? ⟨w.heap.size,0,none⟩=some (.int .u64 (R:Int)):=(by rw[I,B,<-hz];exact grow_one_cell _ _ _);have ab:wr.frozen? ⟨w.heap.size,0,none⟩=false:=(by rw[I,<-hz];exact grow_one_frozen _ _ _);have E:Calls xT 205 #[.pointer (some ⟨w.heap.size,0,none⟩)] wr λe H=>e=.returned (.int .u64 (y:Int))/\H=(wr.setCell ⟨w.heap.size,0,none⟩ (.int .u64 (y:Int))).drewN 3:=(by rw[A];exact Zd _ _ R lR wr Z ab)
  have S:qA (wr=grow (putRow zg (Sort.ahead w n) zc j o) #[Obj.cells #[.int .u64 (r.toNat:Int)] 282]):=I;have HG:qA (∀x,G x=o[x]!):=U;have P:qA (bpRest a L M (a+L/4*2-1) (3-t) t (r,o)=bpRest a L M (a+L/4*2-1) 3 0 (UInt64.ofNat L,d)):=hR;have K:qA (y=(xorNext r).toNat/\O=(xorNext r).toNat &&& (M-1)):=(by have e:y=(xorNext r).toNat:=(by rw[A,B,xorNext_toNat]);exact⟨e,by rw[N,e]⟩);clear I U hR B A N
  go_wp2_with (first|(go_at_call 205;refine E.mono ?_;rintro e H ⟨rfl,rfl⟩))
  ·
   have X:L<=O:=a8;by_cases C:a+L/4*2-1+t=a+(O-L);all_goals
    go_region;all_goals go_wp2
    go_roundw
    case rel=>
     refine⟨t+1,n+4,xorNext r,swp o (a+L/4*2-1+t) (a+(O-L)),by first|rfl|(congr 1<;>omega),a8,by rw[tQ];exact F,?_,?_⟩
     ·(try rw[C])
      rw[S.o,K.o.1];simp only[HG.o];exact step_world zg w n 4 zc j o _ _ u a8 a8 _ _ _
     .rw[<-P.o,bp_step a L M _ t r o (O-L) a8 (by rw[<-K.o.2,vD a8])]
    case measure=>simp[intOf];omega
  .have X:¬L<=O:=a8;by_cases C:a+L/4*2-1+t=a+O;all_goals
    go_region;all_goals go_wp2
    go_roundw
    case rel=>
     refine⟨t+1,n+4,xorNext r,swp o (a+L/4*2-1+t) (a+O),by first|rfl|(congr 1<;>omega),a8,by rw[tQ];exact F,?_,?_⟩
     ·(try rw[C])
      rw[S.o,K.o.1];simp only[HG.o];exact step_world zg w n 4 zc j o _ _ u a8 a8 _ _ _
     .rw[<-P.o,bp_step a L M _ t r o O a8 (by rw[<-K.o.2,Vq a8])]
    case measure=>simp[intOf];omega
  ·
   obtain rfl:t=3:=a8
   go_end0
   exact⟨rfl,n,_,by rw[<-P.o,S.o];rfl⟩
def vU(zc j o a b:Nat)(d:Array Int)(w:World)(A:Holds zg w zc j d)(u:zc<w.heap.size)(E:a<=b)(hb:b<=d.size)(B:d.size<4611686018427387904):
 Calls xT 185 #[.slice (some ⟨zc,j,none⟩) d.size o,.int .i64 a,.int .i64 b] w λe G=>
  e=.returned (.tuple #[])/\∃n os,G=grow (putRow zg (Sort.ahead w n) zc j (breakPatterns d a b)) os:=by
 obtain⟨L,rfl⟩:∃L,b=a+L:=⟨b-a,a8⟩;by_cases C:8<=L
 .exact xI zc j o a L d w A u hb B C
 .have F:breakPatterns d a (a+L)=d:=(by unfold breakPatterns;simp only[Nat.add_sub_cancel_left];rw[Vq C]);rw[F];have y:qA (w=grow (putRow zg (Sort.ahead w 0) zc j d) #[]):=(by show _=_;rw[grow_empty,show Sort.ahead w 0=w from rfl,Ta _ _ _ _ _ A]);clear A;go_enter func185,ntmps185
  go_wp2
  go_end0
  exact⟨rfl,0,#[],y.o⟩
set_option maxRecDepth 1000000 in
def yA(zc u len U:Nat)(d:Array Int)(S:d.size=len)(lo hi first:Nat)(w:World)(Y:Holds zg w zc u d)(Z:lo<=hi)(hb:first+hi<=d.size)(ab:d.size<4611686018427387904):
 Calls xT 203 #[.slice (some ⟨zc,u,none⟩) len U,.int .i64 lo,.int .i64 hi,.int .i64 first] w λe w'=>e=.returned (.tuple #[])/\∃n,w'=putRow zg (Sort.ahead w n) zc u (siftDown ltInt hi first lo d):=by
 subst S;go_enter func203,ntmps203
 go_wp2;go_loopg [8] (hi-lo) (λk s8 wr=>∃(j:Nat) (y:Array Int) (n:Nat),s8=.int .i64 j/\j<=hi/\hi-j<=k/\y.size=d.size/\wr=putRow zg (Sort.ahead w n) zc u y/\siftDown ltInt hi first j y=siftDown ltInt hi first lo d);case atStart=>exact⟨lo,d,0,rfl,Z,Zp _,rfl,(Ta zg w zc u d Y).symm,rfl⟩
 case round=>
  obtain⟨j,y,n,rfl,hr,hk,K,N,G⟩:=hrel;have M:Holds zg wr zc u y:=(by rw[N];exact Te zg _ zc u d y (tM zg w n zc u d Y) K);have I:∀t,t<d.size->wr.cell? ⟨zc,u+t,none⟩=some (.int .u64 y[t]!):=λt ht=>(M t a8).1;have J:∀t,t<d.size->wr.frozen? ⟨zc,u+t,none⟩=false:=λt ht=>(M t a8).2;have A:qA (wr=putRow zg (Sort.ahead w n) zc u y):=N;clear N Y M;by_cases h0:hi<=2*j+1
  ·
   have V:(hi:Int)<=2*(j:Int)+1:=a8
   go_wp2
   go_end0
   refine⟨rfl,n,?_⟩;rw[A.o,<-G,sd_end ltInt y h0]
  ·
   have V:¬((hi:Int)<=2*(j:Int)+1):=a8;by_cases T:2*j+2<hi
   .have X:2*(j:Int)+1+1<(hi:Int):=a8
    go_wp2_with fail
    go_big_quiet (first|(go_at_call 189;refine tB (za _ _ _)))
    go_wp2_with fail
    ·
     have P:ltInt y[first+2*j+1]! y[first+2*j+2]! = true:=b9;revert nq;intro o;have B:∀t,t<d.size->(wr.drewN o).cell? ⟨zc,u+t,none⟩=some (.int .u64 y[t]!):=I;have C:∀t,t<d.size->(wr.drewN o).frozen? ⟨zc,u+t,none⟩=false:=J;have H:qA (wr.drewN o=putRow zg (Sort.ahead w (n+o)) zc u y):=drewN_world zg A.o o;clear I J A;generalize wr.drewN o=wr2 at B C H⊢
     go_big_quiet (first|(go_at_call 189;refine tB (za _ _ _)))
     go_wp2_with fail
     ·
      have Q:ltInt y[first+j]! y[first+2*j+2]! = false:=(by have:(!ltInt y[first+j]! y[first+2*j+2]!)=true:=b9;simpa using this)
      (try simp only[Exit.inBlock,Exit.then]);refine tz (tK rfl _ _ _) rfl ?_
      refine⟨rfl,n+o+nq,?_⟩;rw[drewN_world zg H.o nq,<-G,sd_right_stop ltInt y T P Q]
     ·
      have O:ltInt y[first+j]! y[first+2*j+2]! = true:=(by have:(!ltInt y[first+j]! y[first+2*j+2]!)=false:=b9;simpa using this);have E:∀t,t<d.size->(wr2.drewN nq).cell? ⟨zc,u+t,none⟩=some (.int .u64 y[t]!):=B;have F:∀t,t<d.size->(wr2.drewN nq).frozen? ⟨zc,u+t,none⟩=false:=C;have L:qA (wr2.drewN nq=putRow zg (Sort.ahead w (n+o+nq)) zc u y):=drewN_world zg H.o nq;clear B C H;generalize wr2.drewN nq=wr3 at E F L⊢;go_region
      go_wp2;go_roundg (hi-(2*j+2));case measure=>omega
      case rel=>refine⟨2*j+2,swp y (first+j) (first+(2*j+1+1)),n+o+nq+1,dE,a8,Zp _,by rw[tQ];exact K,swap_world zg a8 a8 L.o rfl rfl,?_⟩;rw[<-G,sd_right_go ltInt y T P O]
    ·
     have P:ltInt y[first+2*j+1]! y[first+2*j+2]! = false:=b9;revert nq;intro o;have B:∀t,t<d.size->(wr.drewN o).cell? ⟨zc,u+t,none⟩=some (.int .u64 y[t]!):=I;have C:∀t,t<d.size->(wr.drewN o).frozen? ⟨zc,u+t,none⟩=false:=J;have H:qA (wr.drewN o=putRow zg (Sort.ahead w (n+o)) zc u y):=drewN_world zg A.o o;clear I J A;generalize wr.drewN o=wr2 at B C H⊢
     go_big_quiet (first|(go_at_call 189;refine tB (za _ _ _)))
     go_wp2_with fail
     ·
      have Q:ltInt y[first+j]! y[first+2*j+1]! = false:=(by have:(!ltInt y[first+j]! y[first+2*j+1]!)=true:=b9;simpa using this)
      (try simp only[Exit.inBlock,Exit.then]);refine tz (tK rfl _ _ _) rfl ?_
      refine⟨rfl,n+o+nq,?_⟩;rw[drewN_world zg H.o nq,<-G,sd_left_stop ltInt y a8 (λ_=>P) Q]
     ·
      have O:ltInt y[first+j]! y[first+2*j+1]! = true:=(by have:(!ltInt y[first+j]! y[first+2*j+1]!)=false:=b9;simpa using this);have E:∀t,t<d.size->(wr2.drewN nq).cell? ⟨zc,u+t,none⟩=some (.int .u64 y[t]!):=B;have F:∀t,t<d.size->(wr2.drewN nq).frozen? ⟨zc,u+t,none⟩=false:=C;have L:qA (wr2.drewN nq=putRow zg (Sort.ahead w (n+o+nq)) zc u y):=drewN_world zg H.o nq;clear B C H;generalize wr2.drewN nq=wr3 at E F L⊢;go_region
      go_wp2;go_roundg (hi-(2*j+1));case measure=>omega
      case rel=>refine⟨2*j+1,swp y (first+j) (first+(2*j+1)),n+o+nq+1,dE,a8,Zp _,by rw[tQ];exact K,swap_world zg a8 a8 L.o rfl rfl,?_⟩;rw[<-G,sd_left_go ltInt y a8 (λ_=>P) O]
   ·
    have X:decide (2*(j:Int)+1+1<(hi:Int))=false:=WB a8
    go_wp2_with fail
    go_big_quiet (first|(go_at_call 189;refine tB (za _ _ _)))
    go_wp2_with fail
    revert nq;intro o;have B:∀t,t<d.size->(wr.drewN o).cell? ⟨zc,u+t,none⟩=some (.int .u64 y[t]!):=I;have C:∀t,t<d.size->(wr.drewN o).frozen? ⟨zc,u+t,none⟩=false:=J;have H:qA (wr.drewN o=putRow zg (Sort.ahead w (n+o)) zc u y):=drewN_world zg A.o o;clear I J A;generalize wr.drewN o=wr2 at B C H⊢
    go_big_quiet (first|(go_at_call 189;refine tB (za _ _ _)))
    go_wp2_with fail
    ·
     have Q:ltInt y[first+j]! y[first+2*j+1]! = false:=(by have:(!ltInt y[first+j]! y[first+2*j+1]!)=true:=b9;simpa using this)
     (try simp only[Exit.inBlock,Exit.then]);refine tz (tK rfl _ _ _) rfl ?_
     refine⟨rfl,n+o+nq,?_⟩;rw[drewN_world zg H.o nq,<-G,sd_left_stop ltInt y a8 (λh=>absurd h T) Q]
    ·
     have O:ltInt y[first+j]! y[first+2*j+1]! = true:=(by have:(!ltInt y[first+j]! y[first+2*j+1]!)=false:=b9;simpa using this);have E:∀t,t<d.size->(wr2.drewN nq).cell? ⟨zc,u+t,none⟩=some (.int .u64 y[t]!):=B;have F:∀t,t<d.size->(wr2.drewN nq).frozen? ⟨zc,u+t,none⟩=false:=C;have L:qA (wr2.drewN nq=putRow zg (Sort.ahead w (n+o+nq)) zc u y):=drewN_world zg H.o nq;clear B C H;generalize wr2.drewN nq=wr3 at E F L⊢;go_region
     go_wp2;go_roundg (hi-(2*j+1));case measure=>omega
     case rel=>refine⟨2*j+1,swp y (first+j) (first+(2*j+1)),n+o+nq+1,dE,a8,Zp _,by rw[tQ];exact K,swap_world zg a8 a8 L.o rfl rfl,?_⟩;rw[<-G,sd_left_go ltInt y a8 (λh=>absurd h T) O]
set_option maxRecDepth 1000000 in
def ZK(zc o len I:Nat)(d:Array Int)(S:d.size=len)(a b:Nat)(w:World)(O:Holds zg w zc o d)(T:a<=b)(hb:b<=d.size)(ae:d.size<4611686018427387904):
 Calls xT 184 #[.slice (some ⟨zc,o,none⟩) len I,.int .i64 a,.int .i64 b] w λe w'=>e=.returned (.tuple #[])/\∃n,w'=putRow zg (Sort.ahead w n) zc o (heapSort ltInt d a b):=by
 subst S;have E:((b-a:Nat):Int)=(b:Int)-(a:Int):=a8
 go_enter func184,ntmps184
 go_wp2;go_loopg [9] ((b-a-1)/2+1) (λk s9 wr=>s9=.int .i64 ((k:Int)-1)/\k<=(b-a-1)/2+1/\∃(B:Array Int) (n:Nat),B.size=d.size/\wr=putRow zg (Sort.ahead w n) zc o B /\
  heapBuild ltInt (b-a) a k B=heapBuild ltInt (b-a) a ((b-a-1)/2+1) d)
 case atStart=>exact⟨by rw[half_start T],Zp _,d,0,rfl,(Ta zg w zc o d O).symm,rfl⟩
 case round=>
  obtain⟨rfl,Q,B,n,J,N,M⟩:=hrel;have P:Holds zg wr zc o B:=(by rw[N];exact Te zg _ zc o d B (tM zg w n zc o d O) J);have A:qA (wr=putRow zg (Sort.ahead w n) zc o B):=N;clear N;cases gk with
  | zero=>
    have hB:B=heapBuild ltInt (b-a) a ((b-a-1)/2+1) d:=M;clear M P Q
    go_wp2;go_loopg [10] (b-a) (λk V X=>V=.int .i64 ((k:Int)-1)/\k<=b-a/\∃(y:Array Int) (C:Nat),y.size=d.size/\X=putRow zg (Sort.ahead w C) zc o y/\heapPop ltInt a k y=heapPop ltInt a (b-a) B);case atStart=>exact⟨by rw[E],Zp _,B,n,J,A.o,rfl⟩
    case round=>
     obtain⟨rfl,Q,y,C,u,H,G⟩:=hrel;cases gk with
     | zero=>
       go_wp2
       go_end0
       refine⟨rfl,C,?_⟩;have e:y=heapSort ltInt d a b:=(by rw[heapSort,<-hB,<-G];rfl);rw[<-e]
     | succ k=>
       have L:Holds zg wr zc o y:=(by rw[H];exact Te zg _ zc o d y (tM zg w C zc o d O) u);have ab:∀t,t<d.size->wr.cell? ⟨zc,o+t,none⟩=some (.int .u64 y[t]!):=λt ht=>(L t a8).1;have ac:∀t,t<d.size->wr.frozen? ⟨zc,o+t,none⟩=false:=λt ht=>(L t a8).2;have Y:qA (wr=putRow zg (Sort.ahead w C) zc o y):=H;clear H L;rcases WC k with U|ad
       .subst U
        go_wp2_with fail
        go_region
        go_wp2_with fail
        rw[swap_world zg (i:=a) (j:=a) a8 a8 Y.o rfl rfl];refine(yA zc o d.size I (swp y a (a)) (by rw[tQ];exact u) 0 0 a _ (Te zg _ zc o d _ (tM zg w (C+1) zc o d O) (by rw[tQ];exact u)) (X4 _) (by rw[tQ];omega) (by rw[tQ];omega)).mono ?_;rintro e Z ⟨rfl,m,K⟩
        go_wp2;go_roundg 0;case measure=>omega
        case rel=>
         refine⟨b6,a8,siftDown ltInt 0 a 0 (swp y a (a)),C+1+m,by rw[Tg ltInt _ _ _ _ _ (Zp _),tQ];exact u,?_,G⟩;first
          |rw[K,Ti zg w (C+1) m zc o _ _ (Tg ltInt _ _ _ _ _ (Zp _))]
          |rw[Ti zg w (C+1) m zc o _ _ (Tg ltInt _ _ _ _ _ (Zp _))]
       .skip
        go_wp2_with fail
        go_region
        go_wp2_with fail
        rw[swap_world zg (i:=a) (j:=a+k) a8 a8 Y.o rfl rfl];refine(yA zc o d.size I (swp y a (a+k)) (by rw[tQ];exact u) 0 k a _ (Te zg _ zc o d _ (tM zg w (C+1) zc o d O) (by rw[tQ];exact u)) (X4 _) (by rw[tQ];omega) (by rw[tQ];omega)).mono ?_;rintro e Z ⟨rfl,m,K⟩
        go_wp2;go_roundg k;case measure=>omega
        case rel=>
         refine⟨b6,a8,siftDown ltInt k a 0 (swp y a (a+k)),C+1+m,by rw[Tg ltInt _ _ _ _ _ (Zp _),tQ];exact u,?_,G⟩;first
          |rw[K,Ti zg w (C+1) m zc o _ _ (Tg ltInt _ _ _ _ _ (Zp _))]
          |rw[Ti zg w (C+1) m zc o _ _ (Tg ltInt _ _ _ _ _ (Zp _))]
  | succ k=>
    have F:=yA zc o d.size I B J k (b-a) a wr P a8 a8 a8;rw[E]at F
    go_wp2_with (go_at_call 203;refine F.mono ?_;rintro e Z ⟨rfl,m,K⟩)
    go_roundg k;case measure=>omega
    case rel=>refine⟨b6,a8,siftDown ltInt (b-a) a k B,n+m,by rw[Tg ltInt _ _ _ _ _ (Zp _)];exact J,?_,M⟩;rw[A.o,Ti zg w n m zc o B _ (Tg ltInt _ _ _ _ _ (Zp _))]
def qR{w:World}{zc o sb A n t:Nat}{d:Array Int}(h:Holds zg w zc o d)(u:sb≠zc):Holds zg (putRow (Value.int .i64) (Sort.ahead w n) sb A (one t)) zc o d:=λj y=>
 ⟨by rw[cell?_putRow_other _ _ _ _ _ _ (Or.inl (uP u))];exact(h j y).1,by rw[Tc];exact(h j y).2⟩
def xu(d:Array Int)(len:Nat)(o:d.size=len)(zc u y a b sb B s:Nat)(w:World)(C:Holds zg w zc u d)(E:a<d.size)(hb:b<d.size)
 (A:Holds (Value.int .i64) w sb B (one s)) (hs:s<2 ^ 62) :
 Calls xT 213 #[.slice (some ⟨zc,u,none⟩) len y,.int .i64 a,.int .i64 b,.pointer (some ⟨sb,B,none⟩)] w λe F=>
  e=.returned (.tuple #[.int .i64 (order2 ltInt d a b s).1,.int .i64 (order2 ltInt d a b s).2.1])/\∃n,F=putRow (Value.int .i64) (Sort.ahead w n) sb B (one (order2 ltInt d a b s).2.2):=by
 subst o;replace hs:s<4611686018427387904:=a8
 have ca:=(C a E).1;have G:=(C b hb).1;obtain⟨H,I⟩:=one_cell A;have ea:d[a]! = d[a]:=tk d a E;have eb:d[b]! = d[b]:=tk d b hb;go_enter func213,ntmps213
 go_wp2
 go_region_with (go_at_call 189;refine(za _ _ _).mono ?_;rintro e F ⟨rfl,rfl⟩)
 all_goals (try go_wp2)
 all_goals first
  | (have j:ltInt d[b] d[a]=true:=b9
     have e2:order2 ltInt d a b s=(b,a,s+1):=(by simp[order2,ea,eb,j]);go_ret2;rw[e2];refine⟨rfl,1,?_⟩;rw[putRow_ahead,<-one_set A (s+1)];simp[drew_eq_ahead])
  | (have j:ltInt d[b] d[a]=false:=b9
     have e2:order2 ltInt d a b s=(a,b,s):=(by simp[order2,ea,eb,j]);go_ret2;rw[e2];refine⟨rfl,1,?_⟩;rw[putRow_ahead,Ta _ _ _ _ _ A];rfl)
set_option maxRecDepth 100000 in
def jH(d:Array Int)(len:Nat)(A:d.size=len)(zc j o a b c sb y s:Nat)(w:World)(C:Holds zg w zc j d)(G:a<d.size)(hb:b<d.size)(H:c<d.size)(u:sb≠zc)
 (E:Holds (Value.int .i64) w sb y (one s)) (hs:s+3<2 ^ 62) :
 Calls xT 207 #[.slice (some ⟨zc,j,none⟩) len o,.int .i64 a,.int .i64 b,.int .i64 c,.pointer (some ⟨sb,y,none⟩)] w λe B=>
  e=.returned (.int .i64 (median ltInt d a b c s).1)/\∃n,B=putRow (Value.int .i64) (Sort.ahead w n) sb y (one (median ltInt d a b c s).2):=by
 subst A;have F:=order2_lt d s G hb;have M:=order2_swaps d a b s;have I:=order2_lt d (order2 ltInt d a b s).2.2 F.2 H;have N:=order2_swaps d (order2 ltInt d a b s).2.1 c (order2 ltInt d a b s).2.2;go_enter func207,ntmps207
 go_wp2_with (go_at_call_of 213 (Value.int .i64 (b:Int));refine(xu d _ rfl zc j o a b sb y s w C G hb E a8).mono ?_;rintro e B ⟨rfl,J,rfl⟩)
 go_wp2_with (go_at_call_of 213 (Value.int .i64 (c:Int));refine(xu d _ rfl zc j o (order2 ltInt d a b s).2.1 c sb y (order2 ltInt d a b s).2.2 _ (qR C u) F.2 H (holds_one E) a8).mono ?_;rintro e B ⟨rfl,K,rfl⟩)
 go_wp2_with (go_at_call_of 213 (Value.int .i64 ((order2 ltInt d a b s).1:Int));refine(xu d _ rfl zc j o (order2 ltInt d a b s).1 (order2 ltInt d (order2 ltInt d a b s).2.1 c (order2 ltInt d a b s).2.2).1 sb y (order2 ltInt d (order2 ltInt d a b s).2.1 c (order2 ltInt d a b s).2.2).2.2 _
  (qR (qR C u) u) F.1 I.1 (holds_one (holds_one E)) a8).mono ?_;rintro e B ⟨rfl,L,rfl⟩)
 go_ret;refine⟨rfl,J+(K+L),?_⟩;rw[one_one,one_one];rfl
set_option maxRecDepth 100000 in
def vf(d:Array Int)(len:Nat)(u:d.size=len)(zc j o a sb y s:Nat)(w:World)(E:Holds zg w zc j d)(H:1<=a)(G:a+1<d.size)(B:d.size<2 ^ 62)(A:sb≠zc)
 (F:Holds (Value.int .i64) w sb y (one s)) (hs:s+3<2 ^ 62) :
 Calls xT 206 #[.slice (some ⟨zc,j,none⟩) len o,.int .i64 a,.pointer (some ⟨sb,y,none⟩)] w λe C=>
  e=.returned (.int .i64 (medianAdjacent ltInt d a s).1)/\∃n,C=putRow (Value.int .i64) (Sort.ahead w n) sb y (one (medianAdjacent ltInt d a s).2):=by
 subst u;replace B:d.size<4611686018427387904:=a8
 go_enter func206,ntmps206
 go_wp2_with (go_at_call 207;rw[show ((a:Int)-1)=((a-1:Nat):Int) by omega,show ((a:Int)+1)=((a+1:Nat):Int) by omega];refine(jH d _ rfl zc j o (a-1) a (a+1) sb y s w E a8 a8 G A F hs).mono ?_;rintro e C ⟨rfl,I,rfl⟩)
 go_ret;exact⟨rfl,I,rfl⟩
end
end Go.Proofs.YtmpnbdhadjfbhaaGreatDoor
