import Derived.Sort.WalkB3
import Derived.Sort.Walk11
import Derived.Deep.LoopGhost
import Derived.Deep.DeepCutAuto
import Derived.Deep.CutBlock
import Derived.Test.YtonhfknjcbakiaaGreatDoorB10
set_option maxHeartbeats 16000000
set_option linter.unusedVariables false
set_option linter.unusedSimpArgs false
set_option maxRecDepth 100000
namespace Go.Proofs.YtonhfknjcbakiaaGreatDoor
open Go.RowKit
attribute [local go_sem] Oper.semAt_some
def zk0:Option Nat->Value
 | some y=>.tuple #[.int .u64 (y:Int),.bool true]
 | none=>.tuple #[.int .u64 0,.bool false]
theorem zdu {l:List Iv} {k x:Nat} (h:k<l.length):ye (l.drop k) x=if x<l[k].lo then some l[k].lo else if l[k].hi+1<zk/\x<l[k].hi+1 then some (l[k].hi+1) else ye (l.drop (k+1)) x:=by
 rw [List.drop_eq_getElem_cons h];rfl
theorem zdq (l:List Iv) (v:Value) (x:Nat) (w:World) (hl:RdR 0 w.heap.size w v l) :
 Calls Tryz.prog 195 #[v,.int .u64 x] w fun e w'=>e=.returned (zk0 (ye l x))/\Below w.heap.size w w':=by
 obtain⟨a,cap,rfl,hlc,hcm,hc⟩:=hl
 unfold maxLen at hcm
 go_enter Tryz.func195,Tryz.ntmps195
 go_wp2_with fail
 go_loopw [12] (fun i wr=>∃ k:Nat,k<=l.length/\i=.int .i64 k/\Hid (ye l x=ye (l.drop k) x)/\Below w.heap.size w wr) (fun i _=>l.length - (intOf i).toNat)
 case atStart=>exact⟨0,Nat.zero_le _,rfl,rfl,Below.refl _ _⟩
 case round=>
  obtain⟨k,hk,rfl,hn,hB⟩:=hrel
  by_cases hlt:k<l.length
  ·obtain⟨b,off,rfl,_,hb,hcell⟩:=hc (by intro e;subst e;simp at hlt)
   obtain⟨g1,g2,g3,g4⟩:=hcell k hlt
   have hs:=zdu (x:=x) hlt
   obtain⟨lo,hlo⟩:∃ lo,lo=l[k].lo:=⟨_,rfl⟩
   obtain⟨hi,hhi⟩:∃ hi,hi=l[k].hi:=⟨_,rfl⟩
   rw [<-hlo] at g1 g3 hs
   rw [<-hhi] at g2 g4 hs
   clear hlo hhi hcell hc
   have c1:wr.cell? ⟨b,off+k * 2,none⟩=some (.int .u64 lo):=(hB.cell (p:=⟨b,_,none⟩) hb).trans g1
   have c2:wr.cell? ⟨b,off+k * 2+1,none⟩=some (.int .u64 hi):=(hB.cell (p:=⟨b,_,none⟩) hb).trans g2
   clear g1 g2
   have hsz:=hB.size
   by_cases t1:x<lo
   ·have HV:Hid (ye l x=some lo):=by rw [hn.out,hs,if_pos t1];rfl
    clear hs hn
    go_wp2
    go_ret2
    rw [HV.out]
    exact⟨rfl,hB.alloc hsz _⟩
   ·by_cases t2:hi+1<zk
    ·by_cases t3:x<hi+1
     ·have HV:Hid (ye l x=some (hi+1)):=by rw [hn.out,hs,if_neg t1,if_pos ⟨t2,t3⟩];rfl
      clear hs hn
      go_wp2_with (go_at_call 196;with_reducible refine(kO _ _ t2).mono ?_;rintro e w' ⟨rfl,rfl⟩)
      go_ret2
      rw [HV.out]
      exact⟨by simp [zk0],hB.alloc hsz _⟩
     ·have HV:Hid (ye l x=ye (l.drop (k+1)) x):=by rw [hn.out,hs,if_neg t1,if_neg (by omega)];rfl
      clear hs hn
      go_wp2_with (go_at_call 196;with_reducible refine(kO _ _ t2).mono ?_;rintro e w' ⟨rfl,rfl⟩)
      go_roundw
      case rel=>exact⟨k+1,by omega,by go_num,HV,hB.alloc hsz _⟩
      case measure=>simp [intOf];omega
    ·have HV:Hid (ye l x=ye (l.drop (k+1)) x):=by rw [hn.out,hs,if_neg t1,if_neg (by omega)];rfl
     clear hs hn
     obtain rfl:hi=zk - 1:=by omega
     go_wp2_with (go_at_call 196;with_reducible refine(V9 _).mono ?_;rintro e w' ⟨rfl,rfl⟩)
     go_roundw
     case rel=>exact⟨k+1,by omega,by go_num,HV,hB.alloc hsz _⟩
     case measure=>simp [intOf];omega
  ·have hkl:k=l.length:=by omega
   have HV:Hid (ye l x=none):=by rw [hn.out,hkl,List.drop_length];rfl
   clear hn
   go_wp2
   go_ret2
   rw [HV.out]
   exact⟨rfl,hB⟩
theorem Vs (l:List Iv) (v:Value) (x:Nat) (w:World) (hl:RdR 0 w.heap.size w v l) :
 Calls Tryz.prog 195 #[v,.int .u64 x] w fun e w'=>∃(n:Nat) (m:Bool),e=.returned (.tuple #[.int .u64 n,.bool m])/\Hid (ye l x=if m=true then some n else none)/\Below w.heap.size w w':=
 (zdq l v x w hl).mono fun e w' ⟨he,hb⟩=>by
   cases h:ye l x with
   | none=>exact⟨0,false,by rw [he,h];rfl,rfl,hb⟩
   | some y=>exact⟨y,true,by rw [he,h];rfl,rfl,hb⟩
theorem Kq (p q:Bool) (w:World):Calls Tryz.prog 115 #[.agg #[.bool p,.bool q]] w fun e w'=>e=.returned (.bool (p || q))/\Below w.heap.size w w':=by
 cases p<;>cases q <;>
  (go_enter Tryz.func115,Tryz.ntmps115
   go_wp2
   go_ret
   exact⟨rfl,(Below.refl _ _).alloc (Nat.le_refl _) _⟩)
theorem zbP (p q:Bool) (w:World):Calls Tryz.prog 123 #[.agg #[.bool p,.bool q]] w fun e w'=>e=.returned (.bool (p && q))/\Below w.heap.size w w':=by
 cases p<;>cases q <;>
  (go_enter Tryz.func123,Tryz.ntmps123
   go_wp2
   go_ret
   exact⟨rfl,(Below.refl _ _).alloc (Nat.le_refl _) _⟩)
theorem Kp (p q:Bool) (w:World):Calls Tryz.prog 169 #[.agg #[.bool p,.bool q]] w fun e w'=>e=.returned (.bool (p && !q))/\Below w.heap.size w w':=by
 cases p<;>cases q <;>
  (go_enter Tryz.func169,Tryz.ntmps169
   go_wp2
   go_ret
   exact⟨rfl,(Below.refl _ _).alloc (Nat.le_refl _) _⟩)
theorem Xi (a1 a2:Option Addr) (n1 n2 c1 c2:Nat) (w:World):Calls Tryz.prog 161 #[.slice a1 n1 c1,.slice a2 n2 c2] w fun e w'=>
 e=.returned (.func (.func 194) #[] #[.pointer (some ⟨w.heap.size,0,none⟩),.pointer (some ⟨w.heap.size+1,0,none⟩)]) /\
  w'=(w.alloc (.cells #[.slice a1 n1 c1] 30)).alloc (.cells #[.slice a2 n2 c2] 30):=by
 go_enter Tryz.func161,Tryz.ntmps161
 go_wp2
 go_ret
 exact⟨rfl,rfl⟩
end Go.Proofs.YtonhfknjcbakiaaGreatDoor
namespace Go.Proofs.YtonhfknjcbakiaaGreatDoor
open Go.RowKit Go.Sort
set_option maxRecDepth 1000000 in
theorem ZK (zc off len cap:Nat) (d:Array Int) (hlen:d.size=len) (a b:Nat) (w:World) (hH:Holds zg w zc off d) (hab:a<=b) (hb:b<=d.size) (hsz:d.size<4611686018427387904) :
 Calls Tryz.prog 219 #[.slice (some ⟨zc,off,none⟩) len cap,.int .i64 a,.int .i64 b] w fun e w'=>e=.returned (.tuple #[])/\∃ n,w'=putRow zg (Sort.ahead w n) zc off (heapSort ltInt d a b):=by
 subst hlen
 have ecast:((b - a:Nat):Int)=(b:Int) - (a:Int):=by omega
 go_enter Tryz.func219,Tryz.ntmps219
 go_wp2
 go_loopg [9] ((b - a - 1) / 2+1) (fun k s9 wr=>s9=.int .i64 ((k:Int) - 1)/\k<=(b - a - 1) / 2+1/\∃(dk:Array Int) (n:Nat),dk.size=d.size/\wr=putRow zg (Sort.ahead w n) zc off dk /\
  heapBuild ltInt (b - a) a k dk=heapBuild ltInt (b - a) a ((b - a - 1) / 2+1) d)
 case atStart=>exact⟨by rw [half_start hab],Nat.le_refl _,d,0,rfl,(putRow_self zg w zc off d hH).symm,rfl⟩
 case round=>
  obtain⟨rfl,hkk,dk,n,hds,hwr,heq⟩:=hrel
  have hHk:Holds zg wr zc off dk:=by rw [hwr];exact holds_putRow zg _ zc off d dk (holds_ahead zg w n zc off d hH) hds
  have A:Aside (wr=putRow zg (Sort.ahead w n) zc off dk):=hwr
  clear hwr
  cases gk with
  | zero=>
    have hB:dk=heapBuild ltInt (b - a) a ((b - a - 1) / 2+1) d:=heq
    clear heq hHk hkk
    go_wp2
    go_loopg [10] (b - a) (fun k s10 wr2=>s10=.int .i64 ((k:Int) - 1)/\k<=b - a/\∃(dj:Array Int) (n2:Nat),dj.size=d.size/\wr2=putRow zg (Sort.ahead w n2) zc off dj/\heapPop ltInt a k dj=heapPop ltInt a (b - a) dk)
    case atStart=>exact⟨by rw [ecast],Nat.le_refl _,dk,n,hds,A.out,rfl⟩
    case round=>
     obtain⟨rfl,hkk,dj,n2,hdj,hwr2,heq2⟩:=hrel
     cases gk with
     | zero=>
       go_wp2
       go_end0
       refine⟨rfl,n2,?_⟩
       have e:dj=heapSort ltInt d a b:=by rw [heapSort,<-hB,<-heq2];rfl
       rw [<-e]
     | succ k=>
       have hHj:Holds zg wr zc off dj:=by rw [hwr2];exact holds_putRow zg _ zc off d dj (holds_ahead zg w n2 zc off d hH) hdj
       have hcw:∀ t,t<d.size->wr.cell? ⟨zc,off+t,none⟩=some (.int .u64 dj[t]!):=fun t ht=>(hHj t (by omega)).1
       have hfw:∀ t,t<d.size->wr.frozen? ⟨zc,off+t,none⟩=false:=fun t ht=>(hHj t (by omega)).2
       have A2:Aside (wr=putRow zg (Sort.ahead w n2) zc off dj):=hwr2
       clear hwr2 hHj
       rcases Nat.eq_zero_or_pos k with hk0 | hkp
       ·subst hk0
        go_wp2_with fail
        go_region
        go_wp2_with fail
        rw [swap_world zg (i:=a) (j:=a) (by omega) (by omega) A2.out rfl rfl]
        refine(yA zc off d.size cap (swp dj a (a)) (by rw [size_swp];exact hdj) 0 0 a _ (holds_putRow zg _ zc off d _ (holds_ahead zg w (n2+1) zc off d hH) (by rw [size_swp];exact hdj)) (Nat.zero_le _) (by rw [size_swp];omega) (by rw [size_swp];omega)).mono ?_
        rintro e w1 ⟨rfl,m,hw1⟩
        go_wp2
        go_roundg 0
        case measure=>omega
        case rel=>
         refine⟨by simp,by omega,siftDown ltInt 0 a 0 (swp dj a (a)),n2+1+m,by rw [size_siftDown ltInt _ _ _ _ _ (Nat.le_refl _),size_swp];exact hdj,?_,heq2⟩
         first
          | rw [hw1,putRow_ahead_putRow zg w (n2+1) m zc off _ _ (size_siftDown ltInt _ _ _ _ _ (Nat.le_refl _))]
          | rw [putRow_ahead_putRow zg w (n2+1) m zc off _ _ (size_siftDown ltInt _ _ _ _ _ (Nat.le_refl _))]
       ·skip
        go_wp2_with fail
        go_region
        go_wp2_with fail
        rw [swap_world zg (i:=a) (j:=a+k) (by omega) (by omega) A2.out rfl rfl]
        refine(yA zc off d.size cap (swp dj a (a+k)) (by rw [size_swp];exact hdj) 0 k a _ (holds_putRow zg _ zc off d _ (holds_ahead zg w (n2+1) zc off d hH) (by rw [size_swp];exact hdj)) (Nat.zero_le _) (by rw [size_swp];omega) (by rw [size_swp];omega)).mono ?_
        rintro e w1 ⟨rfl,m,hw1⟩
        go_wp2
        go_roundg k
        case measure=>omega
        case rel=>
         refine⟨by simp,by omega,siftDown ltInt k a 0 (swp dj a (a+k)),n2+1+m,by rw [size_siftDown ltInt _ _ _ _ _ (Nat.le_refl _),size_swp];exact hdj,?_,heq2⟩
         first
          | rw [hw1,putRow_ahead_putRow zg w (n2+1) m zc off _ _ (size_siftDown ltInt _ _ _ _ _ (Nat.le_refl _))]
          | rw [putRow_ahead_putRow zg w (n2+1) m zc off _ _ (size_siftDown ltInt _ _ _ _ _ (Nat.le_refl _))]
  | succ k=>
    have hcall:=yA zc off d.size cap dk hds k (b - a) a wr hHk (by omega) (by omega) (by omega)
    rw [ecast] at hcall
    go_wp2_with (go_at_call 232;refine hcall.mono ?_;rintro e w1 ⟨rfl,m,hw1⟩)
    go_roundg k
    case measure=>omega
    case rel=>
     refine⟨by simp,by omega,siftDown ltInt (b - a) a k dk,n+m,by rw [size_siftDown ltInt _ _ _ _ _ (Nat.le_refl _)];exact hds,?_,heq⟩
     rw [A.out,putRow_ahead_putRow zg w n m zc off dk _ (size_siftDown ltInt _ _ _ _ _ (Nat.le_refl _))]
theorem Y2 (w:World) (N S:Nat):∃ os,putRow (Value.int .i64) (Sort.ahead (w.alloc (.cells #[.int .i64 0] 3)) N) w.heap.size 0 (one S)=grow (Sort.ahead w N) os:=by
 rw [alloc_eq_grow,ahead_grow]
 obtain⟨os,_,h⟩:=putRow_grow_new (Value.int .i64) (Sort.ahead w N) #[.cells #[.int .i64 0] 3] w.heap.size 0 (one S) (Nat.le_refl _)
 exact⟨os,h⟩
theorem ZI (zc off cap:Nat) (d:Array Int) (w:World) (hH:Holds zg w zc off d) (hblk:zc<w.heap.size) (hsz:d.size<4611686018427387904) :
 ∃ Wc:Nat->Nat->World,
  w.alloc (.cells #[.int .i64 0] 3)=Wc 0 0 /\
  (∀ N S:Nat,(Wc N S).cell? ⟨w.heap.size,0,none⟩=some (.int .i64 (S:Int))) /\
  (∀ N S:Nat,∃ os,Wc N S=grow (Sort.ahead w N) os) /\
  (∀ x s N:Nat,1<=x->x+1<d.size->s+3<4611686018427387904->Calls Tryz.prog 235 #[.slice (some ⟨zc,off,none⟩) d.size cap,.int .i64 (x:Int),.pointer (some ⟨w.heap.size,0,none⟩)] (Wc N s) fun e w'=>
    e=.returned (.int .i64 ((medianAdjacent ltInt d x s).1:Int))/\∃ N',w'=Wc N' (medianAdjacent ltInt d x s).2) /\
  (∀ x y z s N:Nat,x<d.size->y<d.size->z<d.size->s+3<4611686018427387904->Calls Tryz.prog 236 #[.slice (some ⟨zc,off,none⟩) d.size cap,.int .i64 (x:Int),.int .i64 (y:Int),.int .i64 (z:Int),.pointer (some ⟨w.heap.size,0,none⟩)] (Wc N s) fun e w'=>
    e=.returned (.int .i64 ((median ltInt d x y z s).1:Int))/\∃ N',w'=Wc N' (median ltInt d x y z s).2):=by
 have hne:w.heap.size≠zc:=by omega
 have hH0:Holds zg (w.alloc (.cells #[.int .i64 0] 3)) zc off d:=by rw [alloc_eq_grow];exact holds_grow _ _ _ _ _ _ hblk hH
 have hS0:Holds (Value.int .i64) (w.alloc (.cells #[.int .i64 0] 3)) w.heap.size 0 (one 0):=fun j hj=>by
  obtain rfl:j=0:=by simpa using hj
  simp
 refine⟨fun N S=>putRow (Value.int .i64) (Sort.ahead (w.alloc (.cells #[.int .i64 0] 3)) N) w.heap.size 0 (one S),(putRow_self _ _ _ _ _ hS0).symm,fun N S=>(one_cell (holds_one (n:=N) (t:=S) hS0)).1,fun N S=>Y2 w N S,?_,?_⟩
 ·intro x s N h1 h2 hs
  refine(vf d _ rfl zc off cap x w.heap.size 0 s _ (qR hH0 hne) h1 h2 (by omega) hne (holds_one hS0) (by omega)).mono ?_
  rintro e w' ⟨he,n,hw⟩
  exact⟨he,N+n,by rw [hw,one_one]⟩
 ·intro x y z s N h1 h2 h3 hs
  refine(jH d _ rfl zc off cap x y z w.heap.size 0 s _ (qR hH0 hne) h1 h2 h3 hne (holds_one hS0) (by omega)).mono ?_
  rintro e w' ⟨he,n,hw⟩
  exact⟨he,N+n,by rw [hw,one_one]⟩
theorem j6 (zc off cap a b:Nat) (d:Array Int) (w:World) (hH:Holds zg w zc off d) (hblk:zc<w.heap.size) (hab:a<b) (hb:b<=d.size) (hsz:d.size<4611686018427387904) :
 Calls Tryz.prog 221 #[.slice (some ⟨zc,off,none⟩) d.size cap,.int .i64 a,.int .i64 b] w fun e w'=>
  e=.returned (.tuple #[.int .i64 (choosePivot ltInt d a b).1,.int .i64 (hintCode (choosePivot ltInt d a b).2)])/\∃ n os,w'=grow (Sort.ahead w n) os:=by
 obtain⟨Wc,hW0,cS,hG,MA,MD⟩:=ZI zc off cap d w hH hblk hsz
 clear hH
 rw [choosePivot_eq]
 obtain⟨I,hI⟩:∃ I:Nat,I=a+(b - a) / 4 * 1:=⟨_,rfl⟩
 obtain⟨J,hJ⟩:∃ J:Nat,J=a+(b - a) / 4 * 2:=⟨_,rfl⟩
 obtain⟨K,hK⟩:∃ K:Nat,K=a+(b - a) / 4 * 3:=⟨_,rfl⟩
 have eI:((a:Int)+((b:Int) - (a:Int)) / 4)=(I:Int):=by omega
 have eJ:((a:Int)+((b:Int) - (a:Int)) / 4 * 2)=(J:Int):=by omega
 have eK:((a:Int)+((b:Int) - (a:Int)) / 4 * 3)=(K:Int):=by omega
 by_cases h8:b - a ≥ 8
 ·by_cases h50:b - a ≥ 50
  ·
   obtain⟨i1,s1,h1⟩:∃ i1 s1,medianAdjacent ltInt d I 0=(i1,s1):=⟨_,_,rfl⟩
   obtain⟨j1,s2,h2⟩:∃ j1 s2,medianAdjacent ltInt d J s1=(j1,s2):=⟨_,_,rfl⟩
   obtain⟨k1,s3,h3⟩:∃ k1 s3,medianAdjacent ltInt d K s2=(k1,s3):=⟨_,_,rfl⟩
   obtain⟨p,s,h4⟩:∃ p s,median ltInt d i1 j1 k1 s3=(p,s):=⟨_,_,rfl⟩
   have hraw:rawPivot ltInt d a b=(p,s):=by simp only [rawPivot,if_pos h8,if_pos h50,<-hI,<-hJ,<-hK,h1,h2,h3,h4]
   have m1:=medianAdjacent_mem ltInt d I 0;rw [h1] at m1
   have m2:=medianAdjacent_mem ltInt d J s1;rw [h2] at m2
   have m3:=medianAdjacent_mem ltInt d K s2;rw [h3] at m3
   have n1:=medianAdjacent_count ltInt d I 0;rw [h1] at n1
   have n2:=medianAdjacent_count ltInt d J s1;rw [h2] at n2
   have n3:=medianAdjacent_count ltInt d K s2;rw [h3] at n3
   simp only [] at m1 m2 m3 n1 n2 n3
   have c1:Calls Tryz.prog 235 #[.slice (some ⟨zc,off,none⟩) d.size cap,.int .i64 (I:Int),.pointer (some ⟨w.heap.size,0,none⟩)] (Wc 0 0) fun e w'=>e=.returned (.int .i64 (i1:Int))/\∃ N',w'=Wc N' s1:=by
    have h:=MA I 0 0 (by omega) (by omega) (by omega);rw [h1] at h;exact h
   have c2:∀ N,Calls Tryz.prog 235 #[.slice (some ⟨zc,off,none⟩) d.size cap,.int .i64 (J:Int),.pointer (some ⟨w.heap.size,0,none⟩)] (Wc N s1) fun e w'=>e=.returned (.int .i64 (j1:Int))/\∃ N',w'=Wc N' s2:=fun N=>by
    have h:=MA J s1 N (by omega) (by omega) (by omega);rw [h2] at h;exact h
   have c3:∀ N,Calls Tryz.prog 235 #[.slice (some ⟨zc,off,none⟩) d.size cap,.int .i64 (K:Int),.pointer (some ⟨w.heap.size,0,none⟩)] (Wc N s2) fun e w'=>e=.returned (.int .i64 (k1:Int))/\∃ N',w'=Wc N' s3:=fun N=>by
    have h:=MA K s2 N (by omega) (by omega) (by omega);rw [h3] at h;exact h
   have c4:∀ N,Calls Tryz.prog 236 #[.slice (some ⟨zc,off,none⟩) d.size cap,.int .i64 (i1:Int),.int .i64 (j1:Int),.int .i64 (k1:Int),.pointer (some ⟨w.heap.size,0,none⟩)] (Wc N s3) fun e w'=>e=.returned (.int .i64 (p:Int))/\∃ N',w'=Wc N' s:=fun N=>by
    have h:=MD i1 j1 k1 s3 N (by omega) (by omega) (by omega) (by omega);rw [h4] at h;exact h
   rw [hraw]
   obtain⟨Hc,hHc⟩:∃ Hc:Int,Hc=hintCode (hintOf s):=⟨_,rfl⟩
   have hh0:s=0->Hc=1:=fun h=>by rw [hHc,h];rfl
   have hh12:s=12->Hc=2:=fun h=>by rw [hHc,h];rfl
   have hhx:s≠0->s≠12->Hc=0:=fun h1 h2=>by rw [hHc];unfold hintOf;rw [if_neg h1,if_neg h2];rfl
   show Calls Tryz.prog 221 _ w fun e w'=>e=.returned (.tuple #[.int .i64 (p:Int),.int .i64 (hintCode (hintOf s))])/\∃ n os,w'=grow (Sort.ahead w n) os
   rw [<-hHc]
   clear hHc hraw
   clear h1 h2 h3 h4 MA MD hI hJ hK m1 m2 m3
   go_enter Tryz.func221,Tryz.ntmps221
   go_wp2_with (first
    | (go_at_call_has 235 (Value.int .i64 (I:Int));refine c1.mono ?_;rintro e w' ⟨rfl,N1,rfl⟩)
    | (go_at_call_has 235 (Value.int .i64 (J:Int));refine(c2 _).mono ?_;rintro e w' ⟨rfl,N2,rfl⟩)
    | (go_at_call_has 235 (Value.int .i64 (K:Int));refine(c3 _).mono ?_;rintro e w' ⟨rfl,N3,rfl⟩)
    | (go_at_call 236;refine(c4 _).mono ?_;rintro e w' ⟨rfl,N4,rfl⟩))
   all_goals
    go_ret2
    refine⟨?_,_,hG _ _⟩
    first
     | (have e0:(s:Int)=0:=of_beq_int (by assumption)
        rw [hh0 (by omega)];rfl)
     | (have e1:(s:Int)=12:=of_beq_int (by assumption)
        rw [hh12 (by omega)];rfl)
     | (have e0:(s:Int)≠0:=of_bne_int (by assumption)
        have e1:(s:Int)≠12:=of_bne_int (by assumption)
        rw [hhx (by omega) (by omega)];rfl)
     | (rw [hh0 (by omega)];rfl)
  ·
   obtain⟨p,s,h4⟩:∃ p s,median ltInt d I J K 0=(p,s):=⟨_,_,rfl⟩
   have hraw:rawPivot ltInt d a b=(p,s):=by simp only [rawPivot,if_pos h8,if_neg h50,<-hI,<-hJ,<-hK,h4]
   have c4:Calls Tryz.prog 236 #[.slice (some ⟨zc,off,none⟩) d.size cap,.int .i64 (I:Int),.int .i64 (J:Int),.int .i64 (K:Int),.pointer (some ⟨w.heap.size,0,none⟩)] (Wc 0 0) fun e w'=>e=.returned (.int .i64 (p:Int))/\∃ N',w'=Wc N' s:=by
    have h:=MD I J K 0 0 (by omega) (by omega) (by omega) (by omega);rw [h4] at h;exact h
   rw [hraw]
   obtain⟨Hc,hHc⟩:∃ Hc:Int,Hc=hintCode (hintOf s):=⟨_,rfl⟩
   have hh0:s=0->Hc=1:=fun h=>by rw [hHc,h];rfl
   have hh12:s=12->Hc=2:=fun h=>by rw [hHc,h];rfl
   have hhx:s≠0->s≠12->Hc=0:=fun h1 h2=>by rw [hHc];unfold hintOf;rw [if_neg h1,if_neg h2];rfl
   show Calls Tryz.prog 221 _ w fun e w'=>e=.returned (.tuple #[.int .i64 (p:Int),.int .i64 (hintCode (hintOf s))])/\∃ n os,w'=grow (Sort.ahead w n) os
   rw [<-hHc]
   clear hHc hraw
   clear h4 MA MD hI hJ hK
   go_enter Tryz.func221,Tryz.ntmps221
   go_wp2_with (first | (go_at_call 236;refine c4.mono ?_;rintro e w' ⟨rfl,N4,rfl⟩))
   all_goals
    go_ret2
    refine⟨?_,_,hG _ _⟩
    first
     | (have e0:(s:Int)=0:=of_beq_int (by assumption)
        rw [hh0 (by omega)];rfl)
     | (have e1:(s:Int)=12:=of_beq_int (by assumption)
        rw [hh12 (by omega)];rfl)
     | (have e0:(s:Int)≠0:=of_bne_int (by assumption)
        have e1:(s:Int)≠12:=of_bne_int (by assumption)
        rw [hhx (by omega) (by omega)];rfl)
     | (rw [hh0 (by omega)];rfl)
 ·
  obtain⟨p,hp⟩:∃ p:Nat,p=J:=⟨_,rfl⟩
  obtain⟨s,hs⟩:∃ s:Nat,s=0:=⟨_,rfl⟩
  have hraw:rawPivot ltInt d a b=(p,s):=by simp only [rawPivot,if_neg h8,<-hJ,hp,hs]
  rw [hraw]
  obtain⟨Hc,hHc⟩:∃ Hc:Int,Hc=hintCode (hintOf s):=⟨_,rfl⟩
  have hh0:s=0->Hc=1:=fun h=>by rw [hHc,h];rfl
  have hh12:s=12->Hc=2:=fun h=>by rw [hHc,h];rfl
  have hhx:s≠0->s≠12->Hc=0:=fun h1 h2=>by rw [hHc];unfold hintOf;rw [if_neg h1,if_neg h2];rfl
  show Calls Tryz.prog 221 _ w fun e w'=>e=.returned (.tuple #[.int .i64 (p:Int),.int .i64 (hintCode (hintOf s))])/\∃ n os,w'=grow (Sort.ahead w n) os
  rw [<-hHc]
  clear hHc hraw
  subst hp
  clear MA MD hI hJ hK
  have hW0':w.alloc (.cells #[.int .i64 0] 3)=Wc 0 s:=by rw [hs];exact hW0
  clear hW0
  go_enter Tryz.func221,Tryz.ntmps221
  go_wp2
  all_goals
   go_ret2
   refine⟨?_,_,hG _ _⟩
   first
    | (have e0:(s:Int)=0:=of_beq_int (by assumption)
       rw [hh0 (by omega)];rfl)
    | (have e1:(s:Int)=12:=of_beq_int (by assumption)
       rw [hh12 (by omega)];rfl)
    | (have e0:(s:Int)≠0:=of_bne_int (by assumption)
       have e1:(s:Int)≠12:=of_bne_int (by assumption)
       rw [hhx (by omega) (by omega)];rfl)
    | (rw [hh0 (by omega)];rfl)
end Go.Proofs.YtonhfknjcbakiaaGreatDoor
namespace Go.Proofs.YtonhfknjcbakiaaGreatDoor
open Go.RowKit
attribute [local go_sem] Oper.semAt_some
abbrev Sv:=Option Addr × Nat × Nat
abbrev Fv:=Sv × Sv
def sv (x:Sv):Value:=.slice x.1 x.2.1 x.2.2
def Y4 (p:Nat × Fv):Array Value:=#[.int .i64 (p.1:Nat),.agg #[sv p.2.1,sv p.2.2]]
def wl (hit:Nat->Bool):Nat->List Fv->List (Nat × Fv)
 | _,[]=>[]
 | n,f::r=>if hit n=true then (n,f)::wl hit (n+1) r else wl hit (n+1) r
theorem Kw (hit:Nat->Bool):∀(l r:List Fv) (n:Nat),wl hit n (l++r)=wl hit n l++wl hit (n+l.length) r
 | [],r,n=>by simp [wl]
 | f::l,r,n=>by
   have:=Kw hit l r (n+1)
   rw [List.cons_append,wl,wl,this,List.length_cons,show n+1+l.length=n+(l.length+1) by omega]
   split<;>simp
theorem XF {hit:Nat->Bool} {l:List Fv} {k:Nat} (h:k<l.length):wl hit 0 (l.take (k+1))=wl hit 0 (l.take k)++(if hit k=true then [(k,l[k])] else []):=by
 rw [List.take_succ_eq_append_getElem h,Kw,List.length_take,Nat.min_eq_left (by omega),Nat.zero_add]
 simp [wl]
theorem zi8 {hit:Nat->Bool} {l:List Fv} {k:Nat} (h:k<l.length) (hh:hit k=true):wl hit 0 (l.take k)++[(k,l[k])] <+: wl hit 0 l:=by
 have h1:=XF (hit:=hit) h
 rw [if_pos hh] at h1
 rw [<-h1]
 conv=>rhs;rw [<-List.take_append_drop (k+1) l,Kw]
 exact List.prefix_append _ _
def PtF (n0 Bk Bi:Nat) (A B:World):Prop:=A.heap.size<=B.heap.size/\∀ k,k<A.heap.size->(k<n0\/k=Bk\/k=Bi\/∃ cs f,A.heap[k]? = some (.cells cs 34 f))->B.heap[k]? = A.heap[k]?
def zeF (n0:Nat) (w:World) (av:Option Addr) (cap:Nat) (fs:List Fv):Prop:=fs.length<=cap/\cap<=maxLen/\(fs≠[]->∃ b off,av=some ⟨b,off,none⟩/\b<n0/\∀ i (h:i<fs.length),w.cell? ⟨b,off+i * 2,none⟩=some (sv fs[i].1)/\w.cell? ⟨b,off+i * 2+1,none⟩=some (sv fs[i].2))
theorem zew (fs:List Fv) (hit:Nat->Bool) (av:Option Addr) (cap Bk ok Bi oi n0 item:Nat) (W0:World) (hrow:zeF n0 W0 av cap fs)
 (hbk:W0.cell? ⟨Bk,ok,none⟩=some (.slice av fs.length cap)) (hbi:W0.cell? ⟨Bi,oi,none⟩=some (.int .u64 (item:Nat))) (hn0:n0<=W0.heap.size)
 (hhas:∀(w:World) (i:Nat) (h:i<fs.length),(∀ k,k<n0->w.heap[k]? = W0.heap[k]?)->n0<=w.heap.size->Calls Tryz.prog 111 #[sv fs[i].1,.int .u64 (item:Nat)] w fun e w'=>e=.returned (.bool (hit i))/\Below w.heap.size w w') :
 v7 Tryz.prog 110 #[.pointer (some ⟨Bk,ok,none⟩),.pointer (some ⟨Bi,oi,none⟩)] Y4 (fun _=>False) (PtF n0 Bk Bi) (wl hit 0 fs) W0:=by
 intro l J Jx hJ hJx hY h0
 refine callsIn_wide.2 ?_
 show Calls Tryz.prog 110 #[.func (.yield l) #[] #[],.pointer (some ⟨Bk,ok,none⟩),.pointer (some ⟨Bi,oi,none⟩)] W0 _
 have HJ:=Lib.hid hJ
 have HJx:=Lib.hid hJx
 have HY:=Lib.hid hY
 have HH:=Lib.hid hhas
 obtain⟨hlc,hcm,hcell⟩:=hrow
 have HCell:=Lib.hid hcell
 unfold maxLen at hcm
 have hc0:=hbk
 clear hJ hJx hY hhas hcell
 go_enter Tryz.func110,Tryz.ntmps110
 go_wp2_with fail
 go_loopg [8] fs.length (fun g x wr=>∃ k:Nat,k<=fs.length/\g=fs.length - k/\x=.int .i64 k/\J (wl hit 0 (fs.take k)) wr/\(∀ j,j<n0->wr.heap[j]? = W0.heap[j]?)/\wr.cell? ⟨Bi,oi,none⟩=some (.int .u64 (item:Nat))/\n0<=wr.heap.size)
 case atStart=>exact⟨0,Nat.zero_le _,rfl,rfl,by simpa [wl] using h0,fun _ _=>rfl,hbi,hn0⟩
 case round=>
  obtain⟨k,hk,rfl,rfl,hJk,hlow,hbw,hns⟩:=hrel
  clear h0 hc0 hbk hbi hn0
  by_cases hlt:k<fs.length
  ·obtain⟨b,off,hab,hbn,hcel⟩:=HCell.out (fun e=>by rw [e] at hlt;simp at hlt)
   subst hab
   obtain⟨c0,c1⟩:=hcel k hlt
   have htk:=XF (hit:=hit) hlt
   have hpre:hit k=true->_:=zi8 hlt
   have hH:=fun w=>HH.out w k hlt
   obtain⟨⟨⟨a0,m0,q0⟩,⟨a1,m1,q1⟩⟩,hf⟩:∃ f,f=fs[k]:=⟨_,rfl⟩
   rw [<-hf] at c0 c1 htk hpre
   simp only [<-hf] at hH
   simp only [sv] at c0 c1 hH
   have d0:wr.cell? ⟨b,off+k * 2,none⟩=some (.slice a0 m0 q0):=(World.cell?_of_block (a:=⟨b,off+k * 2,none⟩) (hlow b hbn)).trans c0
   have d1:wr.cell? ⟨b,off+k * 2+1,none⟩=some (.slice a1 m1 q1):=(World.cell?_of_block (a:=⟨b,off+k * 2+1,none⟩) (hlow b hbn)).trans c1
   have e0:(wr.alloc (.cells #[.slice a0 m0 q0,.slice a1 m1 q1] 34 (0,0))).cell? ⟨Bi,oi,none⟩=some (.int .u64 (item:Nat)):=(World.cell?_of_block (a:=⟨Bi,oi,none⟩) (Below.heap_alloc _ _ _ (World.block_lt_of_cell? _ _ hbw))).trans hbw
   have HTK:=Lib.hid htk
   have HP:=Lib.hid hpre
   have HLow:=Lib.hid hlow
   have HBW:=Lib.hid hbw
   have HH2:=Lib.hid hH
   have HJk:=Lib.hid hJk
   clear hcel htk hpre hlow hbw hH c0 c1 hf hJk
   have HL1:Hid (∀ j,j<n0->(wr.alloc (.cells #[.slice a0 m0 q0,.slice a1 m1 q1] 34 (0,0))).heap[j]? = W0.heap[j]?):=Lib.hid fun j hj=>(Below.heap_alloc _ _ _ (by omega)).trans (HLow.out j hj)
   go_upto_region 3 with fail
   refine(wpIn_wide (n:=8)).1 ?_
   cases hh:hit k with
   | false=>
     gi_wp2_with (refine⟨trivial,?_⟩;gi_at_call 111;refine(callsIn_wide.2 (HH2.out _ HL1.out (by simp;omega))).mono ?_;rw [hh];rintro e w1 ⟨rfl,hb1⟩)
     refine⟨fun _ h=>(by cases h),?_⟩
     gi_wp2
     go_wp2
     go_roundg (fs.length - (k+1))
     case measure=>omega
     case rel=>
      have hkw:Keep (fun _=>False) wr w1:=((Keep.refl _ _).alloc _).trans (Keep.of_below' hb1 (Nat.le_refl _))
      refine⟨k+1,hlt,rfl,by simp,?_,fun j hj=>(hkw.block j (by omega) id).trans (HLow.out j hj),hkw.cell_some HBW.out id,Nat.le_trans hns hkw.size⟩
      rw [HTK.out,hh]
      simp only [Bool.false_eq_true,if_false,List.append_nil]
      exact HJ.out _ _ _ HJk.out hkw
   | true=>
     gi_wp2_with (refine⟨trivial,?_⟩;gi_at_call 111;refine(callsIn_wide.2 (HH2.out _ HL1.out (by simp;omega))).mono ?_;rw [hh];rintro e w1 ⟨rfl,hb1⟩
                  have hkw:Keep (fun _=>False) wr w1:=((Keep.refl _ _).alloc _).trans (Keep.of_below' hb1 (Nat.le_refl _))
                  have hbx:w1.heap[wr.heap.size]? = some (.cells #[.slice a0 m0 q0,.slice a1 m1 q1] 34 (0,0)):=(hb1.block _ (by simp)).trans (World.alloc_heap_new _ _)
                  have x0:w1.cell? ⟨wr.heap.size,0,none⟩=some (.slice a0 m0 q0):=by simp [World.cell?,hbx]
                  have x1:w1.cell? ⟨wr.heap.size,1,none⟩=some (.slice a1 m1 q1):=by simp [World.cell?,hbx]
                  obtain⟨fn,tmps,assign,body,hy,hR⟩:=HY.out _ (k,((a0,m0,q0),(a1,m1,q1))) w1 (HJ.out _ _ _ HJk.out hkw) (HP.out hh)
                  simp only [Y4,sv] at hy)
     refine hR.mono ?_
     rintro e w3 (⟨rfl,hJ3,hk3⟩ | ⟨rfl,hJx3⟩)
     ·gi_wp2
      go_wp2
      go_roundg (fs.length - (k+1))
      case measure=>omega
      case rel=>
       refine⟨k+1,hlt,rfl,by simp,?_,fun j hj=>(hk3.2 j (by have:=hkw.size;omega) (.inl hj)).trans ((hkw.block j (by omega) id).trans (HLow.out j hj)),(World.cell?_of_block (a:=⟨Bi,oi,none⟩) (hk3.2 Bi (Nat.lt_of_lt_of_le (World.block_lt_of_cell? _ _ HBW.out) hkw.size) (.inr (.inr (.inl rfl))))).trans (hkw.cell_some HBW.out id),by have:=hkw.size;have:=hk3.1;omega⟩
       rw [HTK.out,hh]
       simpa using hJ3
     ·gi_wp2
      go_wp2
      refine bodyPost_ret (results_none rfl _ _ _) rfl ?_
      exact⟨⟨_,rfl⟩,.inr ⟨_,HP.out hh,hJx3⟩⟩
  ·obtain rfl:k=fs.length:=by omega
   go_wp2_with fail
   go_end0
   rw [List.take_length] at hJk
   exact⟨⟨_,rfl⟩,.inl hJk⟩
def zlE (f:Nat->Nat) (e:Edge):Edge:={ e with on:=f e.on }
def jA (f:Nat->Nat) (o:Oper):Oper:={ o with after:=o.after.map (zlE f),guard:=o.guard.map fun y=>(f y.1,y.2) }
def z8 (l:List Oper) (σ:List Nat):List Oper:=σ.map fun i=>jA (fun j=>σ.idxOf j) (l.getD i default)
def q9 (n:Nat) (σ:List Nat):Bool:=σ.length == n && (List.range n).all (fun i=>decide (σ.idxOf i<n)) && (List.range n).all fun k=>decide (σ.getD k n<n) && decide (σ.idxOf (σ.getD k n)=k)
section
variable {P:Program} {Q:Exit->Act->World->Prop} {l:List Oper} {σ:List Nat}
theorem Xq (f:Nat->Nat) (o:Oper) (a:Act) (w:World) (K:Act->World->Prop):(jA f o).wp P a w K Q=o.wp P a w K Q:=by cases o;rfl
theorem zbD (f:Nat->Nat) (o:Oper) (a:Act) (w:World):(jA f o).asks P a w=o.asks P a w:=by cases o;rfl
theorem qU {n:Nat} (h:q9 n σ=true):σ.length=n/\(∀ i,i<n->σ.idxOf i<n)/\∀ k,k<n->σ.getD k n<n/\σ.idxOf (σ.getD k n)=k:=by
 unfold q9 at h
 simp only [Bool.and_eq_true,beq_iff_eq,List.all_eq_true,List.mem_range,decide_eq_true_eq] at h
 exact⟨h.1.1,h.1.2,h.2⟩
theorem vP {n i:Nat} (h:q9 n σ=true) (hi:i<n):σ.getD (σ.idxOf i) n=i:=by
 obtain⟨h1,h2,h3⟩:=qU h
 have h4:=h2 i hi
 rw [List.getD_eq_getElem?_getD,List.getElem?_eq_getElem (by omega)]
 exact List.getElem_idxOf (by omega)
theorem VD {n j:Nat} (h:q9 n σ=true) (hj:n<=j):σ.idxOf j=n:=by
 obtain⟨h1,h2,h3⟩:=qU h
 rw [<-h1]
 refine List.idxOf_eq_length fun hm=>?_
 obtain⟨k,hk,e⟩:=List.getElem_of_mem hm
 have:=(h3 k (by omega)).1
 rw [List.getD_eq_getElem?_getD,List.getElem?_eq_getElem hk] at this
 simp at this
 omega
theorem Qt {k:Nat} (h:q9 l.length σ=true) (hk:k<l.length):∃ o,l[σ.getD k l.length]? = some o/\(z8 l σ)[k]? = some (jA (fun j=>σ.idxOf j) o):=by
 obtain⟨h1,h2,h3⟩:=qU h
 have h4:=(h3 k hk).1
 refine⟨l[σ.getD k l.length],List.getElem?_eq_getElem h4,?_⟩
 unfold z8
 have e:σ[k]? = some (σ.getD k l.length):=by
  rw [List.getD_eq_getElem?_getD,List.getElem?_eq_getElem (by omega)]
  rfl
 rw [List.getElem?_map,e]
 simp only [Option.map_some]
 congr 2
 rw [List.getD_eq_getElem?_getD,List.getElem?_eq_getElem h4]
 rfl
structure PermM (n:Nat) (σ:List Nat) (m m':Array Bool):Prop where
 s:m.size=n
 s':m'.size=n
 h:∀ k,k<n->m'.getD k false=m.getD (σ.getD k n) false
theorem PermM.at {n:Nat} {m m':Array Bool} (hp:q9 n σ=true) (h:PermM n σ m m') (j:Nat):m'.getD (σ.idxOf j) false=m.getD j false:=by
 obtain⟨h1,h2,h3⟩:=qU hp
 rcases Nat.lt_or_ge j n with hj | hj
 ·rw [h.h _ (h2 j hj),vP hp hj]
 ·rw [VD hp hj]
  have e1:m'.getD n false=false:=by
   rw [Array.getD_eq_getD_getElem?,Array.getElem?_eq_none (by rw [h.s'];exact Nat.le_refl _)];rfl
  have e2:m.getD j false=false:=by
   rw [Array.getD_eq_getD_getElem?,Array.getElem?_eq_none (by rw [h.s];exact hj)];rfl
  rw [e1,e2]
theorem K0 {m:Array Bool} {i:Nat} (h:i<m.size):m.getD i true=m.getD i false:=by simp [h]
theorem PermM.set {n k:Nat} {m m':Array Bool} (hp:q9 n σ=true) (h:PermM n σ m m') (hk:k<n):PermM n σ (m.setIfInBounds (σ.getD k n) true) (m'.setIfInBounds k true):=by
 obtain⟨h1,h2,h3⟩:=qU hp
 refine⟨by simpa using h.s,by simpa using h.s',fun j hj=>?_⟩
 by_cases e:j=k
 ·subst e
  rw [zl (by rw [h.s'];exact hj),zl (by rw [h.s];exact(h3 j hj).1)]
 ·have e':σ.getD j n≠σ.getD k n:=fun e2=>e (by have:=(h3 j hj).2;have:=(h3 k hk).2;rw [e2] at *;omega)
  rw [zj e,zj e',h.h j hj]
theorem xG {ops:Array Oper} {m:Array Bool} {i:Nat}:i ∈ Region.ready .any ops m ↔ i<ops.size/\m.getD i true=false/\∃ o,ops[i]? = some o/\(o.after.all fun e=>!Region.binds .any e || m.getD e.on false)=true:=by
 unfold Region.ready
 simp only [List.mem_filter,List.mem_range,Bool.and_eq_true,Bool.not_eq_true']
 refine and_congr_right fun hi=>and_congr_right fun _=>?_
 rw [Array.getElem?_eq_getElem hi]
 simp
theorem jZ {m m':Array Bool} {k:Nat} (hp:q9 l.length σ=true) (h:PermM l.length σ m m') (hk:k<l.length):k ∈ Region.ready .any (z8 l σ).toArray m' ↔ σ.getD k l.length ∈ Region.ready .any l.toArray m:=by
 obtain⟨h1,h2,h3⟩:=qU hp
 obtain⟨o,g1,g2⟩:=Qt hp hk
 have hlen:(z8 l σ).length=l.length:=by unfold z8;simpa using h1
 have e:(m'.getD k true=false) ↔ (m.getD (σ.getD k l.length) true=false):=by
  rw [K0 (by rw [h.s'];exact hk),K0 (by rw [h.s];exact(h3 k hk).1),h.h k hk]
 have e2:((jA (fun j=>σ.idxOf j) o).after.all fun e=>!Region.binds .any e || m'.getD e.on false)=(o.after.all fun e=>!Region.binds .any e || m.getD e.on false):=by
  show ((o.after.map (zlE fun j=>σ.idxOf j)).all fun e=>!Region.binds .any e || m'.getD e.on false)=_
  rw [Array.all_map]
  congr 1
  funext e
  show (!Region.binds .any e || m'.getD (σ.idxOf e.on) false)=_
  rw [h.at hp]
 rw [xG,xG,e]
 simp only [List.size_toArray,hlen,List.getElem?_toArray,g1,g2,Option.some.injEq,exists_eq_left',e2,hk,(h3 k hk).1]
theorem J6 (hp:q9 l.length σ=true) (tmps:Array Value) (j:Nat):yielded (z8 l σ).toArray tmps (σ.idxOf j)=yielded l.toArray tmps j:=by
 obtain⟨h1,h2,h3⟩:=qU hp
 have hlen:(z8 l σ).length=l.length:=by unfold z8;simpa using h1
 have e:((z8 l σ).toArray[σ.idxOf j]?).bind (·.dst)=(l.toArray[j]?).bind (·.dst):=by
  simp only [List.getElem?_toArray]
  rcases Nat.lt_or_ge j l.length with hj | hj
  ·obtain⟨o,g1,g2⟩:=Qt hp (h2 j hj)
   rw [vP hp hj] at g1
   rw [g1,g2]
   rfl
  ·rw [VD hp hj,List.getElem?_eq_none (by omega),List.getElem?_eq_none hj]
 unfold yielded
 rw [e]
theorem VE (hp:q9 l.length σ=true) (o:Oper) (tmps:Array Value):Region.wanted (jA (fun j=>σ.idxOf j) o) (yielded (z8 l σ).toArray tmps)=Region.wanted o (yielded l.toArray tmps):=by
 unfold Region.wanted jA
 cases o.guard with
 | none=>rfl
 | some y=>obtain⟨j,b⟩:=y;simp only [Option.map_some,J6 hp]
theorem Kx (hp:q9 l.length σ=true):∀(fuel:Nat) (m m':Array Bool) (a:Act) (w:World),PermM l.length σ m m'->wpAny P .any (z8 l σ).toArray Q fuel m' a w->wpAny P .any l.toArray Q fuel m a w:=by
 obtain⟨h1,h2,h3⟩:=qU hp
 have nil:∀ {m m':Array Bool},PermM l.length σ m m'->Region.ready .any l.toArray m=[]->Region.ready .any (z8 l σ).toArray m'=[]:=fun {m m'} h e=>by
  refine List.eq_nil_iff_forall_not_mem.2 fun k hk=>?_
  have hlen:(z8 l σ).length=l.length:=by unfold z8;simpa using h1
  have hkl:k<l.length:=by have:=(xG.1 hk).1;simp only [List.size_toArray,hlen] at this;exact this
  have:=(jZ hp h hkl).1 hk
  rw [e] at this
  cases this
 have nil':∀ {m m':Array Bool},PermM l.length σ m m'->Region.ready .any (z8 l σ).toArray m'=[]->Region.ready .any l.toArray m=[]:=fun {m m'} h e=>by
  refine List.eq_nil_iff_forall_not_mem.2 fun i hi=>?_
  have hil:i<l.length:=by simpa using (xG.1 hi).1
  have:=(jZ hp h (h2 i hil)).2 (by rw [vP hp hil];exact hi)
  rw [e] at this
  cases this
 intro fuel
 induction fuel with
 | zero=>intro m m' a w h hw;exact⟨nil' h hw.1,hw.2⟩
 | succ fuel ih=>
   intro m m' a w h hw
   refine⟨fun e=>hw.1 (nil h e),fun i hi=>?_⟩
   have hil:i<l.length:=by simpa using (xG.1 hi).1
   have hk:=h2 i hil
   have hr:=(jZ hp h hk).2 (by rw [vP hp hil];exact hi)
   have hs:=hw.2 _ hr
   obtain⟨o,g1,g2⟩:=Qt hp hk
   have hM:=h.set hp hk
   rw [vP hp hil] at g1 hM
   unfold wpOp at hs ⊢
   simp only [List.getElem?_toArray,g1,g2,VE hp,Xq,zbD] at hs ⊢
   split
   ·rename_i hwa
    rw [if_pos hwa] at hs
    exact hs.imp (Oper.wp_mono fun a w hK=>ih _ _ a w hM hK) id
   ·rename_i hwa
    rw [if_neg hwa] at hs
    exact ih _ _ _ w hM hs
theorem xd (hp:q9 l.length σ=true) {a:Act} {w:World} (h:wpAny P .any (z8 l σ).toArray Q (z8 l σ).toArray.size (Array.replicate (z8 l σ).toArray.size false) a w):wpAny P .any l.toArray Q l.toArray.size (Array.replicate l.toArray.size false) a w:=by
 obtain⟨h1,h2,h3⟩:=qU hp
 have hlen:(z8 l σ).length=l.length:=by unfold z8;simpa using h1
 simp only [List.size_toArray,hlen] at h ⊢
 refine Kx hp _ _ _ a w ⟨by simp,by simp,fun k hk=>?_⟩ h
 have hf:∀ i:Nat,(Array.replicate l.length false).getD i false=false:=fun i=>by
  simp only [Array.getD_eq_getD_getElem?,Array.getElem?_replicate]
  split<;>rfl
 rw [hf,hf]
end
end Go.Proofs.YtonhfknjcbakiaaGreatDoor
namespace Go.Proofs.YtonhfknjcbakiaaGreatDoor
open Go.RowKit
attribute [local go_sem] Oper.semAt_some
def zB (a:Act):Nat->Value:=fun t=>a.tmps.getD t undef
theorem zai (D:Nat->Nat->Prop) (w:World) (v:Value):Dat D w v (Q6 v):=by
 unfold Q6
 split
 ·exact .sl none 0 1 [] .sh 0 0 (fun _=>undef) (Nat.le_refl _) (fun h=>by cases h) (Nat.zero_le _) (fun h=>absurd rfl h) (fun i e h=>by simp at h) (fun j h=>absurd h (by simp)) (fun i e j p h=>by simp at h)
 ·exact .v _
theorem zfT (D:Nat->Nat->Prop) (w:World) (v:Value):Dat D w v (ofV v):=by
 unfold ofV
 split
 ·exact .sl none 0 1 [] .z 0 0 (fun _=>undef) (Nat.le_refl _) (fun _=>rfl) (Nat.zero_le _) (fun h=>absurd rfl h) (fun i e h=>by simp at h) (fun j h=>absurd h (by simp)) (fun i e j p h=>by simp at h)
 ·rename_i vs
  split
  ·rename_i hall
   refine .agg vs _ (by simp) (fun i hi=>?_) fun i p hp=>?_
   ·rw [List.all_eq_true] at hall
    have hi':i<vs.size:=by simpa using hi
    exact hall _ (by simp [hi'])
   ·simp only [List.getElem?_map,Option.map_eq_some_iff] at hp
    obtain⟨v,hv,rfl⟩:=hp
    have:vs.getD i undef=v:=by simp at hv;simp [hv]
    rw [this];exact zai D w v
  ·exact .v _
 ·exact .v _
structure Rd (D:Nat->Nat->Prop) (ρ:Nat->Nat) (s:PS) (x:Nat->Value) (ts:List Nat) (w:World):Prop where
 slots:∀ t ∈ ts,Rel D ρ s.b.length w (x t) (s.get t)
 boxes:∀(i:Nat) cs,s.b[i]? = some cs->zaA ⟨D,ρ⟩ s.b.length w i cs
 gl:GL D w
def zbZ (x0:Nat->Value) (n0:Nat) (s:PS) (x:Nat->Value) (ts:List Nat) (w:World):Prop:=
 n0<=w.heap.size/\∀ t ∈ ts,NewOk x0 n0 w (x t) (s.get t)/\((s.get t).own≠none->x0 t=x t)
def Qok (P:Program) (o:Oper) (s:PS) (ρ:Nat->Nat) (D:Nat->Nat->Prop) (a:Act) (w:World) (p:PV):Prop:=
 ∀(next:Act->World->Prop) (Q:Exit->Act->World->Prop),(∀ u w',Below w.heap.size w w'->Rel (fun b o=>D b o\/w.heap.size<=b) ρ s.b.length w' u p->(∀ x0 n0,zbZ x0 n0 s (zB a) (zA o) w->NewOk x0 n0 w' u p)->next (a.put o.dst u) w')->o.wp P a w next Q
variable {P:Program} {o:Oper} {D:Nat->Nat->Prop} {ρ:Nat->Nat} {nb:Nat} {s:PS} {a:Act} {w:World}
theorem zby {u:Value} {p:PV} (hr:(execOp a.eval o).run P w=.ok (.value u) w) (h:Rel D ρ s.b.length w u p) (hN:∀ x0 n0,zbZ x0 n0 s (zB a) (zA o) w->NewOk x0 n0 w u p):Qok P o s ρ D a w p:=by
 intro next Q hn
 show o.upon P a next Q ((execOp a.eval o).run P w)
 rw [hr]
 exact hn u w (Below.refl _ _) (h.mono (fun _ _ h=>.inl h) (fun _ _ _ _ h=>h) (Nat.le_refl _) fun _ _=>rfl) hN
theorem zlD {u:Value} {p:PV} {w':World} (hr:(execOp a.eval o).run P w=.ok (.value u) w') (hb:Below w.heap.size w w') (h:Rel (fun b o=>D b o\/w.heap.size<=b) ρ s.b.length w' u p) (hN:∀ x0 n0,zbZ x0 n0 s (zB a) (zA o) w->NewOk x0 n0 w' u p):Qok P o s ρ D a w p:=by
 intro next Q hn
 show o.upon P a next Q ((execOp a.eval o).run P w)
 rw [hr]
 exact hn u w' hb h hN
theorem Xk {y:Operand} {y':PO} (hy:po y=some y') (h:∀ t,y=.tmp t->Rel D ρ nb w (zB a t) (s.get t)):Rel D ρ nb w (a.eval y) (s.ev y'):=by
 cases y with
 | tmp t=>cases hy;exact h t rfl
 | const v=>cases hy;exact .dat (zfT D w v)
 | func f=>cases hy;exact .dat (.fn (.func f) #[] #[] [] [] rfl rfl (fun i p h=>by simp at h) (fun i p h=>by simp at h))
 | global g=>cases hy
theorem Rd.at {ts:List Nat} (h:Rd D ρ s (zB a) ts w) {y:Operand} {y':PO} (hy:po y=some y') (ht:∀ t,y=.tmp t->t ∈ ts):Rel D ρ s.b.length w (a.eval y) (s.ev y'):=
 Xk hy fun t e=>h.slots t (ht t e)
theorem Rel.inv_agg {u:Value} {cs:List PV} (h:Rel D ρ nb w u (.agg cs)):∃ vs:Array Value,u=.agg vs/\vs.size=cs.length/\(∀ i,i<cs.length->(vs.getD i undef).oneCell'=true)/\∀(i:Nat) p,cs[i]? = some p->Dat D w (vs.getD i undef) p:=by
 rcases h with(h | ⟨i,o,h,_⟩) | ⟨f,va,vb,fs,cs,h,_⟩
 ·cases h with | agg vs cs hs h1 h=>exact⟨vs,rfl,hs,h1,h⟩
 ·cases h
 ·cases h
theorem Rel.inv_tup {u:Value} {cs:List PV} (h:Rel D ρ nb w u (.tup cs)):∃ vs:Array Value,u=.tuple vs/\vs.size=cs.length/\∀(i:Nat) p,cs[i]? = some p->Dat D w (vs.getD i undef) p:=by
 rcases h with(h | ⟨i,o,h,_⟩) | ⟨f,va,vb,fs,cs,h,_⟩
 ·cases h with | tup vs cs hs h=>exact⟨vs,rfl,hs,h⟩
 ·cases h
 ·cases h
theorem Rel.inv_ifc {u:Value} {t:TypeId} {p:PV} (h:Rel D ρ nb w u (.ifc t p)):∃ x,u=.iface t x/\Dat D w x p:=by
 rcases h with(h | ⟨i,o,h,_⟩) | ⟨f,va,vb,fs,cs,h,_⟩
 ·cases h with | ifc t x p h=>exact⟨x,rfl,h⟩
 ·cases h
 ·cases h
theorem Rel.inv_bx {u:Value} {i o:Nat} (h:Rel D ρ nb w u (.bx i o)):i<nb/\u=.pointer (some ⟨ρ i,o,none⟩):=by
 rcases h with(h | ⟨i,o,h,hi,hu⟩) | ⟨f,va,vb,fs,cs,h,_⟩
 ·cases h
 ·cases h;exact⟨hi,hu⟩
 ·cases h
theorem Rel.inv_cp {u:Value} {cs:List PV} {k:Nat} (h:Rel D ρ nb w u (.cp cs k)):∃(b off:Nat) (f:Nat->Value),u=.pointer (some ⟨b,off+k,none⟩)/\(∀ j,j<cs.length->D b (off+j)/\w.cell? ⟨b,off+j,none⟩=some (f j)/\(f j).oneCell'=true)/\∀(j:Nat) p,cs[j]? = some p->Dat D w (f j) p:=by
 rcases h with(h | ⟨i,o,h,_⟩) | ⟨f,va,vb,fs,cs,h,_⟩
 ·cases h with | cp b off cs o u h1 h2=>exact⟨b,off,u,rfl,h1,h2⟩
 ·cases h
 ·cases h
theorem Rel.inv_sl {u:Value} {es:List (List PV)} {k:Ow} (h:Rel D ρ nb w u (.sl es k)):∃(ad:Option Addr) (cap sz b off:Nat) (f:Nat->Value),u=.slice ad es.length cap/\es.length<=cap/\(k=.z->cap=es.length)/\cap<=maxLen/\(es≠[]->ad=some ⟨b,off,none⟩) /\
 (∀(i:Nat) e,es[i]? = some e->e.length=sz)/\(∀ j,j<es.length * sz->D b (off+j)/\w.cell? ⟨b,off+j,none⟩=some (f j)/\(f j).oneCell'=true)/\∀(i:Nat) e (j:Nat) p,es[i]? = some e->e[j]? = some p->Dat D w (f (i * sz+j)) p:=by
 rcases h with(h | ⟨i,o,h,_⟩) | ⟨f,va,vb,fs,cs,h,_⟩
 ·cases h with | sl a cap sz es o b off u hc hz hm ha hsz hD h=>exact⟨a,cap,sz,b,off,u,rfl,hc,hz,hm,ha,hsz,hD,h⟩
 ·cases h
 ·cases h
theorem xE {p:PV} {K:Bool->Prop} {u:Value} (h:qV p K) (hr:Rel D ρ nb w u p):∃ b,u=.bool b/\p=.v (.bool b)/\K b:=by
 unfold qV at h
 split at h
 ·exact⟨_,hr.v_inv,rfl,h⟩
 ·exact h.elim
theorem yu {p:PV} {K:IntKind->Int->Prop} {u:Value} (h:vR p K) (hr:Rel D ρ nb w u p):∃ k n,u=.int k n/\p=.v (.int k n)/\K k n:=by
 unfold vR at h
 split at h
 ·exact⟨_,_,hr.v_inv,rfl,h⟩
 ·exact h.elim
theorem y8 {p:PV} {K:List (List PV)->Prop} (h:QA p K):∃ es k,p=.sl es k/\K es:=by
 unfold QA at h
 split at h
 ·exact⟨_,_,rfl,h⟩
 ·exact h.elim
theorem kC {k:IntKind} {n:Int} {K:PV->Prop} (h:qar k n K):K (.v (.int k (k.wrap n))):=by
 unfold qar at h
 split at h
 ·obtain⟨⟨h1,h2⟩,h3⟩:=h
  have:IntKind.i64.wrap n=n:=IntWalk.i64_in _ ⟨h1,by omega⟩
  rw [this];exact h3
 ·exact h
theorem zd0 {op:BinOp} {k:IntKind} {x y:Int} {K:PV->Prop} (t:TypeId) (h:Xo op k x y K):∃ u,(binOp op t (.int k x) (.int k y)).run P w=.ok u w/\K (.v u):=by
 unfold Xo at h
 split at h
 case h_1=>exact⟨_,by simp [binOp,Op.intArith],kC h⟩
 case h_2=>exact⟨_,by simp [binOp,Op.intArith],kC h⟩
 case h_3=>exact⟨_,by simp [binOp,Op.intArith],kC h⟩
 case h_4=>exact⟨_,by simp [binOp,Op.intDiv,h.1],kC h.2⟩
 case h_5=>exact⟨_,by simp [binOp,Op.intDiv,h.1],h.2⟩
 case h_6=>exact⟨.bool (decide (x=y)),by simp [binOp,Op.intCmp];rfl,h⟩
 case h_7=>exact⟨.bool (!decide (x=y)),by simp [binOp,Op.intCmp];rfl,h⟩
 case h_8=>exact⟨_,by simp [binOp,Op.intCmp],h⟩
 case h_9=>exact⟨_,by simp [binOp,Op.intCmp],h⟩
 case h_10=>exact⟨_,by simp [binOp,Op.intCmp],h⟩
 case h_11=>exact⟨_,by simp [binOp,Op.intCmp],h⟩
 case h_12=>exact⟨_,by simp [binOp,Op.shift,Int.not_lt.2 h.1];rfl,h.2⟩
 case h_13=>exact h.elim
theorem X0 (op:BinOp) (t:TypeId) (x y:Operand) (k k':IntKind) (m n:Int):(eqGuard op t x y (.int k m) (.int k' n)).run P w=.ok () w:=by
 unfold eqGuard;split<;>simp
theorem zdX {op:BinOp} {p q:PV} {K:PV->Prop} {u v:Value} (t:TypeId) (x y:Operand) (h:QB op p q K) (hu:Rel D ρ nb w u p) (hv:Rel D ρ nb w v q) :
 ∃ r,(do eqGuard op t x y u v;binOp op t u v:Sem Value).run P w=.ok r w/\K (.v r):=by
 unfold QB at h
 split at h
 ·obtain rfl:=hu.v_inv
  obtain rfl:=hv.v_inv
  obtain⟨rfl,h⟩:=h
  obtain⟨r,h1,h2⟩:=zd0 (P:=P) (w:=w) t h
  exact⟨r,by simp [X0,h1],h2⟩
 ·exact h.elim
theorem kh (op:BinOp) (t:TypeId) (x y:Operand) (m n:Bool):(eqGuard op t x y (.bool m) (.bool n)).run P w=.ok () w:=by
 unfold eqGuard;split<;>simp
theorem JD {t:TypeId} (ht:P.underlying t=some .bool) (m n:Bool):(Op.equal t (.bool m) (.bool n)).run P w=.ok (m == n) w:=by
 unfold Op.equal Op.maxDepth
 rw [show (10000:Nat)=9999+1 from rfl]
 unfold Op.equalIn
 simp [run_underlying ht]
theorem X1 (op:BinOp) (t:TypeId) (x:Operand):(eqGuard op t x (.const .nilIface) .nilIface .nilIface).run P w=.ok () w:=by
 unfold eqGuard;cases op<;>cases x<;>simp
theorem Y5 (op:BinOp) (t t':TypeId) (x y:Operand) (v:Value):(eqGuard op t x y (.iface t' v) .nilIface).run P w=.ok () w:=by
 unfold eqGuard;cases op<;>simp
theorem za3 {t:TypeId} {ms} (ht:P.underlying t=some (.interface ms)):(Op.equal t .nilIface .nilIface).run P w=.ok true w:=by
 unfold Op.equal Op.maxDepth
 rw [show (10000:Nat)=9999+1 from rfl]
 unfold Op.equalIn
 simp [run_underlying ht]
theorem JE {t:TypeId} {ms} (ht:P.underlying t=some (.interface ms)) (t':TypeId) (v:Value):(Op.equal t (.iface t' v) .nilIface).run P w=.ok false w:=by
 unfold Op.equal Op.maxDepth
 rw [show (10000:Nat)=9999+1 from rfl]
 unfold Op.equalIn
 simp [run_underlying ht]
theorem Y7 {l:List PV} {vs:Array Value} {i:Nat} {p:PV} (hs:vs.size=l.length) (hp:l[i]? = some p):i<vs.size:=by rw [hs];exact(List.getElem?_eq_some_iff.1 hp).1
def CellsR (D:Nat->Nat->Prop) (ρ:Nat->Nat) (nb:Nat) (w:World) (u:Value) (cs:List PV):Prop:=
 u.cells.size=cs.length/\∀(i:Nat) p,cs[i]? = some p->Rel D ρ nb w (u.cells.getD i undef) p/\(u.cells.getD i undef).oneCell'=true
theorem yG {u:Value} {p:PV} (h:Rel D ρ nb w u p) (hu:u.oneCell'=true):CellsR D ρ nb w u [p]:=by
 have e:u.cells=#[u]:=by cases u<;>first | rfl | cases hu
 refine⟨by rw [e];rfl,fun i q hq=>?_⟩
 have hi:i=0:=by have:=(List.getElem?_eq_some_iff.1 hq).1;simpa using this
 subst hi
 simp at hq
 subst hq
 rw [e]
 exact⟨h,hu⟩
theorem xY {p:PV} {K:List PV->Prop} {u:Value} (h:qW p K) (hr:Rel D ρ nb w u p):∃ cs,K cs/\CellsR D ρ nb w u cs:=by
 unfold qW at h
 split at h
 ·obtain⟨vs,rfl,hs,h1,h2⟩:=hr.inv_agg
  exact⟨_,h,hs,fun i p hp=>⟨.dat (h2 i p hp),h1 i (List.getElem?_eq_some_iff.1 hp).1⟩⟩
 ·obtain rfl:=hr.v_inv
  exact⟨_,h.2,yG hr h.1⟩
 ·obtain⟨_,_,_,_,_,_,rfl,_⟩:=hr.inv_sl
  exact⟨_,h,yG hr rfl⟩
 ·obtain⟨_,_,_,rfl,_⟩:=hr.inv_cp
  exact⟨_,h,yG hr rfl⟩
 ·obtain⟨_,rfl⟩:=hr.inv_bx
  exact⟨_,h,yG hr rfl⟩
 ·refine⟨_,h,yG hr ?_⟩
  rcases hr with(hr | ⟨i,o,hr,_⟩) | ⟨f,va,vb,fs,cs,_,rfl,_⟩
  ·cases hr;rfl
  ·cases hr
  ·rfl
 ·obtain⟨_,rfl,_⟩:=hr.inv_ifc
  exact⟨_,h,yG hr rfl⟩
 ·exact h.elim
theorem xy {t:TypeId} {d:TypeDesc} (h:P.underlying t=some d):(isAgg t).run P w=.ok (Qb d) w:=by
 unfold isAgg
 simp only [Sem.run_bind,run_underlying h,Result.andThen_ok]
 cases d<;>simp [Qb]
theorem zE {t:TypeId} {i:TypeInfo} (h:P.info? t=some i):(sizeOf t).run P w=.ok i.size w:=by simp [sizeOf,typeInfo,h]
theorem vT {t:TypeId} {ag:Bool} {n:Nat} (h:XH P t=some (ag,n)):∃ i d,P.info? t=some i/\P.underlying t=some d/\Qb d=ag/\i.size=n:=by
 unfold XH at h
 simp only [Option.bind_eq_some_iff,Option.map_eq_some_iff] at h
 obtain⟨i,hi,d,hd,e⟩:=h
 cases e
 exact⟨i,d,hi,hd,rfl,rfl⟩
theorem Zs {t:TypeId} {n:Nat} {ad:Addr} {v:Value} (h:XH P t=some (false,n)) (hc:w.cell? ad=some v):(loadVar t ad).run P w=.ok v w:=by
 obtain⟨i,d,h1,h2,h3,h4⟩:=vT h
 simp [loadVar,xy h2,h3,hc]
theorem Vo {t:TypeId} {n:Nat} {ad:Addr} {f:Nat->Value} (h:XH P t=some (true,n)) (hc:∀ j,j<n->w.cell? (ad.add j)=some (f j)):(loadVar t ad).run P w=.ok (.agg ((List.range n).map f).toArray) w:=by
 obtain⟨i,d,h1,h2,h3,h4⟩:=vT h
 subst h4
 simp [loadVar,xy h2,h3,zE h1,run_loadCells w ad i.size f hc]
theorem zh (b o j:Nat):(⟨b,o,none⟩:Addr).add j=⟨b,o+j,none⟩:=by unfold Addr.add;split<;>simp_all
theorem Qv {t:TypeId} {ag:Bool} {n b off o:Nat} {cs:List PV} {f:Nat->Value} {K:PV->Prop} (hs:XH P t=some (ag,n)) (hq:VI cs o ag n K)
 (hc:∀ j,j<cs.length->w.cell? ⟨b,off+j,none⟩=some (f j)/\(f j).oneCell'=true) (hr:∀(j:Nat) p,cs[j]? = some p->Rel D ρ nb w (f j) p) (hd:ag=true->zY ((cs.drop o).take n)=true) :
 ∃ u p,(loadVar t ⟨b,off+o,none⟩).run P w=.ok u w/\Rel D ρ nb w u p/\K p:=by
 unfold VI at hq
 cases ag with
 | true=>
   obtain⟨h1,h2⟩:=hq
   refine⟨_,_,Vo (f:=fun j=>f (o+j)) hs (fun j hj=>?_),?_,h2⟩
   ·rw [zh,Nat.add_assoc];exact(hc _ (by omega)).1
   ·refine .dat (.agg _ _ (by simp;omega) (fun i hi=>?_) fun i p hp=>?_)
    ·have hi':i<n:=by simp at hi;omega
     have:((List.range n).map fun j=>f (o+j)).toArray.getD i undef=f (o+i):=by simp [hi']
     rw [this];exact(hc _ (by omega)).2
    ·have hi:i<n:=by have:=(List.getElem?_eq_some_iff.1 hp).1;simp at this;omega
     have:((List.range n).map fun j=>f (o+j)).toArray.getD i undef=f (o+i):=by simp [hi]
     rw [this]
     have hD:=hd rfl
     unfold zY at hD
     rw [List.all_eq_true] at hD
     refine(hr _ _ ?_).data (hD p (List.mem_of_getElem? hp))
     rw [List.getElem?_take,if_pos hi,List.getElem?_drop] at hp
     exact hp
 | false=>
   simp only at hq
   split at hq
   ·rename_i p hp
    exact⟨_,p,Zs hs (hc o (List.getElem?_eq_some_iff.1 hp).1).1,hr _ _ hp,hq⟩
   ·exact hq.elim
theorem VJ {t:TypeId} {ag:Bool} {n o:Nat} {cs:List PV} {vs:Array Value} {K:PV->Prop} (hs:XH P t=some (ag,n)) (hq:VI cs o ag n K) (hz:vs.size=cs.length) (h1:∀ i,i<cs.length->(vs.getD i undef).oneCell'=true)
 (hr:∀(j:Nat) p,cs[j]? = some p->Dat D w (vs.getD j undef) p):∃ u p,(part t vs o).run P w=.ok u w/\Dat D w u p/\K p:=by
 obtain⟨i,d,e1,e2,e3,e4⟩:=vT hs
 unfold VI at hq
 subst e4
 cases ag with
 | true=>
   obtain⟨g1,g2⟩:=hq
   refine⟨.agg (vs.extract o (o+i.size)),_,by simp [part,xy e2,e3,zE e1],?_,g2⟩
   have key:∀ j,j<i.size->(vs.extract o (o+i.size)).getD j undef=vs.getD (o+j) undef:=fun j hj=>by
    have:o+j<vs.size:=by omega
    have h2:j<(vs.extract o (o+i.size)).size:=by simp;omega
    simp [Array.getD_eq_getD_getElem?,Array.getElem?_eq_getElem h2,Array.getElem?_eq_getElem this]
   refine .agg _ _ (by simp;omega) (fun j hj=>?_) fun j p hp=>?_
   ·have hj':j<i.size:=by simp at hj;omega
    rw [key j hj'];exact h1 _ (by omega)
   ·have hj:j<i.size:=by have:=(List.getElem?_eq_some_iff.1 hp).1;simp at this;omega
    rw [key j hj]
    rw [List.getElem?_take,if_pos hj,List.getElem?_drop] at hp
    exact hr _ _ hp
 | false=>
   simp only at hq
   split at hq
   ·rename_i p hp
    have ho:o<vs.size:=Y7 hz hp
    refine⟨vs.getD o undef,p,?_,hr _ _ hp,hq⟩
    simp [part,xy e2,e3,ho]
   ·exact hq.elim
end Go.Proofs.YtonhfknjcbakiaaGreatDoor
namespace Go.Proofs.YtonhfknjcbakiaaGreatDoor
open Go.RowKit
def Suf (a a':List Iv) (x:Nat):Prop:=∃ d,a=d++a'/\∀ s ∈ d,s.hi<x
theorem Suf.refl (a:List Iv) (x:Nat):Suf a a x:=⟨[],rfl,fun _ h=>by cases h⟩
theorem Suf.mono {a a':List Iv} {x y:Nat} (h:Suf a a' x) (hy:x<=y):Suf a a' y:=by
 obtain⟨d,h1,h2⟩:=h;exact⟨d,h1,fun s hs=>by have:=h2 s hs;omega⟩
theorem Suf.drop {a a':List Iv} {s:Iv} {x:Nat} (h:Suf a (s::a') x) (hs:s.hi<x):Suf a a' x:=by
 obtain⟨d,h1,h2⟩:=h
 exact⟨d++[s],by simp [h1],fun t ht=>by simp at ht;rcases ht with ht | rfl;exact h2 t ht;exact hs⟩
theorem Suf.mem_eq {a a':List Iv} {x z:Nat} (h:Suf a a' x) (hz:x<=z):mem a z=mem a' z:=by
 obtain⟨d,rfl,h2⟩:=h
 rw [yd]
 have:mem d z=false:=by
  cases e:mem d z with
  | false=>rfl
  | true=>obtain⟨s,hs,_,h3⟩:=qf.1 e;have:=h2 s hs;omega
 rw [this,Bool.false_or]
theorem Suf.nrm {a a':List Iv} {x n:Nat} (ha:NF n a) (h:Suf a a' x):NF n a':=by
 obtain⟨d,rfl,h2⟩:=h
 clear h2
 induction d generalizing n with
 | nil=>exact ha
 | cons s d ih=>exact ih ha.tail
theorem Suf.nxt_eq {a a':List Iv} {x z n:Nat} (ha:NF n a) (h:Suf a a' x) (hz:x<=z):ye a z=ye a' z:=by
 obtain⟨d,rfl,h2⟩:=h
 induction d generalizing n with
 | nil=>rfl
 | cons s d ih=>
   rw [List.cons_append,zdt (by have:=h2 s (by simp);omega) ha.2.1]
   exact ih (fun t ht=>h2 t (by simp [ht])) ha.2.2.2
theorem Qg {a':List Iv} {s:Iv} {x n:Nat} (ha:NF n (s::a')) (h:x<=s.hi):mem (s::a') x=decide (s.lo<=x):=by
 rw [zz,ha.2.2.2.mem_lt (by omega)]
 simp [h]
def za1 (x:Iv × Bool × Bool):Array Value:=#[.agg #[.int .u64 x.1.lo,.int .u64 x.1.hi],.agg #[.bool x.2.1,.bool x.2.2]]
structure PInv (a b:List Iv) (Ba Bb n0:Nat) (w:World) (x:Nat) (a' b':List Iv) (va vb:Value):Prop where
 bxa:Boxed w Ba 30 va
 bxb:Boxed w Bb 30 vb
 ra:RdR 0 n0 w va a'
 rb:RdR 0 n0 w vb b'
 sa:Suf a a' x
 sb:Suf b b' x
theorem PInv.at {a b:List Iv} {Ba Bb n0:Nat} {S:Nat->Prop} {w w':World} {x y:Nat} {a' b':List Iv} {va vb:Value} (h:PInv a b Ba Bb n0 w x a' b' va vb) (hk:Keep S w w') (hn:n0<=w.heap.size) (hs:∀ k,k<n0\/k=Ba\/k=Bb->¬ S k) (hy:x<=y) :
 PInv a b Ba Bb n0 w' y a' b' va vb:=
 ⟨hk.boxed h.bxa (hs _ (.inr (.inl rfl))),hk.boxed h.bxb (hs _ (.inr (.inr rfl))),h.ra.keep (Nat.le_refl _) (Nat.le_refl _) fun b _ h2=>hk.block b (by omega) (hs b (.inl h2)),
  h.rb.keep (Nat.le_refl _) (Nat.le_refl _) fun b _ h2=>hk.block b (by omega) (hs b (.inl h2)),h.sa.mono hy,h.sb.mono hy⟩
theorem PInv.setA {a b:List Iv} {Ba Bb n0:Nat} {w:World} {x:Nat} {s:Iv} {a' b':List Iv} {va va' vb:Value} (h:PInv a b Ba Bb n0 w x (s::a') b' va vb) (hB:n0<=Ba) (hne:Ba≠Bb) (hs:s.hi<x) (hr:RdR 0 n0 w va' a') :
 PInv a b Ba Bb n0 (w.setCell ⟨Ba,0,none⟩ va') x a' b' va' vb:=
 ⟨h.bxa.set va',h.bxb.other hne.symm va',hr.keep (Nat.le_refl _) (Nat.le_refl _) fun b _ h2=>Below.heap_setCell _ _ _ _ (by show b≠Ba;omega),
  h.rb.keep (Nat.le_refl _) (Nat.le_refl _) fun b _ h2=>Below.heap_setCell _ _ _ _ (by show b≠Ba;omega),h.sa.drop hs,h.sb⟩
theorem PInv.setB {a b:List Iv} {Ba Bb n0:Nat} {w:World} {x:Nat} {s:Iv} {a' b':List Iv} {va vb vb':Value} (h:PInv a b Ba Bb n0 w x a' (s::b') va vb) (hB:n0<=Bb) (hne:Ba≠Bb) (hs:s.hi<x) (hr:RdR 0 n0 w vb' b') :
 PInv a b Ba Bb n0 (w.setCell ⟨Bb,0,none⟩ vb') x a' b' va vb':=
 ⟨h.bxa.other hne vb',h.bxb.set vb',h.ra.keep (Nat.le_refl _) (Nat.le_refl _) fun b _ h2=>Below.heap_setCell _ _ _ _ (by show b≠Bb;omega),
  hr.keep (Nat.le_refl _) (Nat.le_refl _) fun b _ h2=>Below.heap_setCell _ _ _ _ (by show b≠Bb;omega),h.sa,h.sb.drop hs⟩
def Fit (a':List Iv) (x:Nat):Prop:=∀ s r,a'=s::r->x<=s.hi
theorem RdR.tail {hi:Nat} {w:World} {ad:Option Addr} {n cap:Nat} {s:Iv} {l:List Iv} (h:RdR 0 hi w (.slice ad n cap) (s::l)) :
 ∃ b off,ad=some ⟨b,off,none⟩/\n=l.length+1/\b<hi/\rdIv w b off s/\l.length+1<=cap/\cap<=maxLen/\RdR 0 hi w (.slice (if cap=1 then some ⟨b,off,none⟩ else some ⟨b,off+2,none⟩) l.length (cap - 1)) l:=by
 obtain⟨a,c,hv,h1,h2,h3⟩:=h
 obtain⟨rfl,rfl,rfl⟩:ad=a/\n=(s::l).length/\cap=c:=by simpa using hv
 obtain⟨b,off,rfl,_,hb,hc⟩:=h3 (by simp)
 refine⟨b,off,rfl,rfl,hb,(by have:=hc 0 (by simp);rwa [Nat.zero_mul,Nat.add_zero] at this),by simpa using h1,h2,?_⟩
 refine⟨_,_,rfl,by simp at h1;omega,by omega,fun hne=>?_⟩
 have hl:0<l.length:=List.length_pos_iff.2 hne
 refine⟨b,off+2,by rw [if_neg (by simp at h1;omega)],Nat.zero_le _,hb,fun i hi=>?_⟩
 have:=hc (i+1) (by simp;omega)
 rw [show off+(i+1) * 2=off+2+i * 2 from by omega] at this
 simpa using this
theorem J7 (a b:List Iv) (va0 vb0:Value) (Ba Bb n0:Nat) (W0:World) (ha:Nrm a) (hb:Nrm b) (hne:Ba≠Bb) (hBa:n0<=Ba) (hBb:n0<=Bb)
 (h00:PInv a b Ba Bb n0 W0 0 a b va0 vb0) :
 zbY Tryz.prog 194 #[.pointer (some ⟨Ba,0,none⟩),.pointer (some ⟨Bb,0,none⟩)] za1 (fun k=>k=Ba\/k=Bb) (fun k=>k<n0\/k=Ba\/k=Bb) (yO a b) W0:=by
 intro l J Jx hJ hJx hY h0
 refine callsIn_wide.2 ?_
 show Calls Tryz.prog 194 #[.func (.yield l) #[] #[],.pointer (some ⟨Ba,0,none⟩),.pointer (some ⟨Bb,0,none⟩)] W0 _
 have HJ:=Lib.hid hJ
 have HJx:=Lib.hid hJx
 have HY:=Lib.hid hY
 clear hJ hJx hY
 go_enter Tryz.func194,Tryz.ntmps194
 go_wp2_with fail
 go_loopg [4] zk (fun g x wr=>∃(xn f:Nat) (a' b':List Iv) (va vb:Value) (pre:List (Iv × Bool × Bool)),x=.int .u64 xn/\xn<zk/\g=zk - xn/\PInv a b Ba Bb n0 wr xn a' b' va vb/\Hid (yO a b=pre++QU a b f xn)/\zk<=f+xn/\J pre wr)
 case atStart=>exact⟨0,zk,a,b,va0,vb0,[],rfl,xM,rfl,h00,rfl,by omega,h0⟩
 case round=>
  obtain⟨xn,f,a',b',va,vb,pre,rfl,hx,rfl,hP,hpc,hf,hJp⟩:=hrel
  clear h0 h00
  go_upto_block 2 with fail
  go_cut [] (fun wc=>∃ a2 va2,PInv a b Ba Bb n0 wc xn a2 b' va2 vb/\Fit a2 xn/\J pre wc)
  case first=>
   go_wp2_with fail
   go_loopg [] a'.length (fun g wl=>∃(a2:List Iv) (va2:Value),g=a2.length/\PInv a b Ba Bb n0 wl xn a2 b' va2 vb/\J pre wl)
   case atStart=>exact⟨a',va,rfl,hP,hJp⟩
   case round=>
    clear hP hJp
    obtain⟨a2,va2,rfl,hP,hJp⟩:=hrel
    have hca:=hP.bxa.cell
    have hfa:=hP.bxa.frozen
    have hra:=hP.ra
    cases a2 with
    | nil=>
      obtain⟨ad,cap,rfl,_⟩:=hra
      go_wp2
      go_meet
      exact⟨[],_,hP,(fun _ _ e=>by cases e),hJp⟩
    | cons s r=>
      have hva:=hra
      obtain⟨ad,cap,rfl,_⟩:=hva
      obtain⟨bb,off,rfl,_,hbb,hs,hcap,hcm,htl⟩:=hra.tail
      obtain⟨c1,c2,s1,s2⟩:=hs
      have HT:=Lib.hid htl
      clear hra htl
      unfold maxLen at hcm
      by_cases hlt:s.hi<xn
      ·by_cases h1:cap=1
       ·subst h1
        obtain rfl:r=[]:=List.eq_nil_of_length_eq_zero (by omega)
        go_wp2
        go_roundg 0
        case measure=>simp
        case rel=>exact⟨[],_,rfl,hP.setA hBa hne hlt (by have:=HT.out;simpa using this),HJ.out _ _ _ hJp ((Keep.refl _ _).setCell (p:=⟨Ba,0,none⟩) (fun _=>.inl rfl) _)⟩
       ·go_wp2
        go_roundg r.length
        case measure=>simp
        case rel=>exact⟨r,_,rfl,hP.setA hBa hne hlt (by have:=HT.out;rw [if_neg h1] at this;simpa using this),HJ.out _ _ _ hJp ((Keep.refl _ _).setCell (p:=⟨Ba,0,none⟩) (fun _=>.inl rfl) _)⟩
      ·go_wp2
       go_meet
       exact⟨s::r,_,hP,(fun _ _ e=>by cases e;omega),hJp⟩
  case rest=>
   clear hP hJp
   obtain⟨a2,va2,hP,hFa,hJp⟩:=hcut
   go_upto_block 4 with fail
   go_cut [] (fun wc=>∃ b2 vb2,PInv a b Ba Bb n0 wc xn a2 b2 va2 vb2/\Fit b2 xn/\J pre wc)
   case first=>
    go_wp2_with fail
    go_loopg [] b'.length (fun g wl=>∃(b2:List Iv) (vb2:Value),g=b2.length/\PInv a b Ba Bb n0 wl xn a2 b2 va2 vb2/\J pre wl)
    case atStart=>exact⟨b',vb,rfl,hP,hJp⟩
    case round=>
     clear hP hJp
     obtain⟨b2,vb2,rfl,hP,hJp⟩:=hrel
     have hca:=hP.bxb.cell
     have hfa:=hP.bxb.frozen
     have hra:=hP.rb
     cases b2 with
     | nil=>
       obtain⟨ad,cap,rfl,_⟩:=hra
       go_wp2
       go_meet
       exact⟨[],_,hP,(fun _ _ e=>by cases e),hJp⟩
     | cons s r=>
       have hva:=hra
       obtain⟨ad,cap,rfl,_⟩:=hva
       obtain⟨bb,off,rfl,_,hbb,hs,hcap,hcm,htl⟩:=hra.tail
       obtain⟨c1,c2,s1,s2⟩:=hs
       have HT:=Lib.hid htl
       clear hra htl
       unfold maxLen at hcm
       by_cases hlt:s.hi<xn
       ·by_cases h1:cap=1
        ·subst h1
         obtain rfl:r=[]:=List.eq_nil_of_length_eq_zero (by omega)
         go_wp2
         go_roundg 0
         case measure=>simp
         case rel=>exact⟨[],_,rfl,hP.setB hBb hne hlt (by have:=HT.out;simpa using this),HJ.out _ _ _ hJp ((Keep.refl _ _).setCell (p:=⟨Bb,0,none⟩) (fun _=>.inr rfl) _)⟩
        ·go_wp2
         go_roundg r.length
         case measure=>simp
         case rel=>exact⟨r,_,rfl,hP.setB hBb hne hlt (by have:=HT.out;rw [if_neg h1] at this;simpa using this),HJ.out _ _ _ hJp ((Keep.refl _ _).setCell (p:=⟨Bb,0,none⟩) (fun _=>.inr rfl) _)⟩
       ·go_wp2
        go_meet
        exact⟨s::r,_,hP,(fun _ _ e=>by cases e;omega),hJp⟩
   case rest=>
    clear hP hJp
    obtain⟨b2,vb2,hP,hFb,hJp⟩:=hcut
    go_upto_region 5 with fail
    go_cut [5] (fun s5 wd=>∃ Bs,s5=.pointer (some ⟨Bs,0,none⟩)/\PInv a b Ba Bb n0 wd xn a2 b2 va2 vb2/\J pre wd/\wd.cell? ⟨Bs,0,none⟩=some (.bool (mem a xn))/\wd.cell? ⟨Bs,1,none⟩=some (.bool (mem b xn))/\n0<=wd.heap.size)
    case first=>
     have hma:=hP.sa.mem_eq (Nat.le_refl _)
     have hmb:=hP.sb.mem_eq (Nat.le_refl _)
     have hna:=hP.sa.nrm ha
     have hnb:=hP.sb.nrm hb
     have ca:=hP.bxa.cell
     have cb:=hP.bxb.cell
     have hlt1:=hP.bxa.lt
     have hlt2:=hP.bxb.lt
     have hra:=hP.ra
     have hrb:=hP.rb
     cases a2 with
     | nil=>
       obtain⟨ad,capa,rfl,_⟩:=hra
       have HMA:=Lib.hid hma
       clear hma hna
       cases b2 with
       | nil=>
         obtain⟨bd,capb,rfl,_⟩:=hrb
         have HMB:=Lib.hid hmb
         clear hmb hnb
         have hwn:n0<=wc.heap.size:=by omega
         have HP:=Lib.hid (And.intro hP (And.intro hJp (And.intro hFa hFb)))
         clear hP hFa hFb hlt1 hlt2 hf
         refine Kg (Sw:=qe) 24 99 (fun w'=>w'.cell? ⟨Ba,0,none⟩=some (.slice ad 0 capa)/\w'.cell? ⟨Bb,0,none⟩=some (.slice bd 0 capb)) (by kernel_rfl) (by kernel_rfl) rfl ⟨ca,cb⟩ ?_
         simp only [List.take_succ_cons,List.take_zero]
         repeat (first
          | (refine zev ?_ rfl (fun a w hc _ hr=>?_) ?_;rotate_left;(simp [Rds,zA,lk,Op.operands,Call.operands,RdEq] at hr;go_simp;with_reducible rfl);dsimp only [List.nil_append,List.cons_append])
          | (refine jI rfl ?_ ?_;(first | exact .inl (zG rfl rfl) | exact .inr (zG rfl rfl));dsimp only [List.nil_append,List.cons_append])
          | (refine V6 rfl ?_ ?_ (fun a w hc _ hr=>?_) ?_;exact(zG rfl rfl);rotate_left;(simp [Rds,zA,lk,Op.operands,Call.operands,RdEq] at hr;go_simp;with_reducible rfl);dsimp only [List.nil_append,List.cons_append]))
         refine V7 (fun u w=>∃ B,u=.pointer (some ⟨B,0,none⟩)/\w.heap[B]? = some (.cells #[.bool false,.bool false] 139 (0,0))/\wc.heap.size<=B) (fun u w w' ⟨B,h1,h2,h3⟩ hk=>⟨B,h1,hk.obj h2 id,h3⟩) rfl ?_ ?_
         ·intro a w hc hk hr K hK
          have HK:=Lib.hid hK
          clear hK
          go_simp
          exact HK.out _ _ ((Keep.refl _ _).alloc _) ⟨((Keep.refl qe w).alloc _).cell_some hc.1 id,((Keep.refl qe w).alloc _).cell_some hc.2 id⟩ ⟨w.heap.size,rfl,World.alloc_heap_new w _,hk.size⟩
         dsimp only [List.nil_append,List.cons_append]
         intro w hc hk
         simp only [finG,forall_eq]
         rintro u ⟨B,rfl,hB,hBn⟩
         simp only [List.drop_succ_cons,List.drop_zero]
         have c0:w.cell? ⟨B,0,none⟩=some (.bool false):=by simp [World.cell?,hB]
         have c1:w.cell? ⟨B,1,none⟩=some (.bool false):=by simp [World.cell?,hB]
         have f0:w.frozen? ⟨B,0,none⟩=false:=by simp [World.frozen?,hB]
         have f1:w.frozen? ⟨B,1,none⟩=false:=by simp [World.frozen?,hB]
         clear hB hc
         simp only [Act.put,List.setIfInBounds_toArray,List.set_cons_succ,List.set_cons_zero]
         go_wp2
         go_meet
         have hkk:∀ u v,Keep qe wc ((w.setCell ⟨B,0,none⟩ u).setCell ⟨B,1,none⟩ v):=fun u v=>((((Keep.refl qe wc).drew).trans hk).setCell (p:=⟨B,0,none⟩) (fun h=>by exact absurd h (by simpa using hBn)) _).setCell (p:=⟨B,1,none⟩) (fun h=>by exact absurd h (by simpa using hBn)) _
         exact⟨B,rfl,HP.out.1.at (hkk _ _) hwn (fun _ _=>id) (Nat.le_refl _),HJ.out _ _ _ HP.out.2.1 ((hkk _ _).mono fun _ _ h=>h.elim),by rw [HMA.out];go_simp,by rw [HMB.out];go_simp,Nat.le_trans hwn (hkk _ _).size⟩
       | cons t r2=>
         have hvb:=hrb
         obtain⟨bd,capb,rfl,_⟩:=hvb
         obtain⟨bb,ob,rfl,_,_,hsb,hcapb,hcmb,_⟩:=hrb.tail
         have HMB:=Lib.hid (hmb.trans (Qg hnb (hFb _ _ rfl)))
         have ct:=hsb.1
         unfold maxLen at hcmb
         clear hmb hnb hrb hsb
         have hwn:n0<=wc.heap.size:=by omega
         have HP:=Lib.hid (And.intro hP (And.intro hJp (And.intro hFa hFb)))
         clear hP hFa hFb hlt1 hlt2 hf
         refine Kg (Sw:=qe) 24 99 (fun w'=>w'.cell? ⟨Ba,0,none⟩=some (.slice ad 0 capa)/\w'.cell? ⟨Bb,0,none⟩=some (.slice (some ⟨bb,ob,none⟩) (r2.length+1) capb)/\w'.cell? ⟨bb,ob,none⟩=some (.int .u64 t.lo)) (by kernel_rfl) (by kernel_rfl) rfl ⟨ca,cb,ct⟩ ?_
         simp only [List.take_succ_cons,List.take_zero]
         repeat (first
          | (refine zev ?_ rfl (fun a w hc _ hr=>?_) ?_;rotate_left;(simp [Rds,zA,lk,Op.operands,Call.operands,RdEq] at hr;go_simp;with_reducible rfl);dsimp only [List.nil_append,List.cons_append])
          | (refine jI rfl ?_ ?_;(first | exact .inl (zG rfl rfl) | exact .inr (zG rfl rfl));dsimp only [List.nil_append,List.cons_append])
          | (refine V6 rfl ?_ ?_ (fun a w hc _ hr=>?_) ?_;exact(zG rfl rfl);rotate_left;(simp [Rds,zA,lk,Op.operands,Call.operands,RdEq] at hr;go_simp;with_reducible rfl);dsimp only [List.nil_append,List.cons_append]))
         refine V7 (fun u w=>∃ B,u=.pointer (some ⟨B,0,none⟩)/\w.heap[B]? = some (.cells #[.bool false,.bool false] 139 (0,0))/\wc.heap.size<=B) (fun u w w' ⟨B,h1,h2,h3⟩ hk=>⟨B,h1,hk.obj h2 id,h3⟩) rfl ?_ ?_
         ·intro a w hc hk hr K hK
          have HK:=Lib.hid hK
          clear hK
          go_simp
          exact HK.out _ _ ((Keep.refl _ _).alloc _) ⟨((Keep.refl qe w).alloc _).cell_some hc.1 id,((Keep.refl qe w).alloc _).cell_some hc.2.1 id,((Keep.refl qe w).alloc _).cell_some hc.2.2 id⟩ ⟨w.heap.size,rfl,World.alloc_heap_new w _,hk.size⟩
         dsimp only [List.nil_append,List.cons_append]
         intro w hc hk
         simp only [finG,forall_eq]
         rintro u ⟨B,rfl,hB,hBn⟩
         simp only [List.drop_succ_cons,List.drop_zero]
         have c0:w.cell? ⟨B,0,none⟩=some (.bool false):=by simp [World.cell?,hB]
         have c1:w.cell? ⟨B,1,none⟩=some (.bool false):=by simp [World.cell?,hB]
         have f0:w.frozen? ⟨B,0,none⟩=false:=by simp [World.frozen?,hB]
         have f1:w.frozen? ⟨B,1,none⟩=false:=by simp [World.frozen?,hB]
         clear hB hc
         simp only [Act.put,List.setIfInBounds_toArray,List.set_cons_succ,List.set_cons_zero]
         go_wp2
         go_meet
         have hkk:∀ u v,Keep qe wc ((w.setCell ⟨B,0,none⟩ u).setCell ⟨B,1,none⟩ v):=fun u v=>((((Keep.refl qe wc).drew).trans hk).setCell (p:=⟨B,0,none⟩) (fun h=>by exact absurd h (by simpa using hBn)) _).setCell (p:=⟨B,1,none⟩) (fun h=>by exact absurd h (by simpa using hBn)) _
         exact⟨B,rfl,HP.out.1.at (hkk _ _) hwn (fun _ _=>id) (Nat.le_refl _),HJ.out _ _ _ HP.out.2.1 ((hkk _ _).mono fun _ _ h=>h.elim),by rw [HMA.out];go_simp,by rw [HMB.out];go_simp,Nat.le_trans hwn (hkk _ _).size⟩
     | cons s r1=>
       have hva:=hra
       obtain⟨ad,capa,rfl,_⟩:=hva
       obtain⟨ba,oa,rfl,_,_,hsa,hcapa,hcma,_⟩:=hra.tail
       have HMA:=Lib.hid (hma.trans (Qg hna (hFa _ _ rfl)))
       have cs:=hsa.1
       unfold maxLen at hcma
       clear hma hna hra hsa
       cases b2 with
       | nil=>
         obtain⟨bd,capb,rfl,_⟩:=hrb
         have HMB:=Lib.hid hmb
         clear hmb hnb
         have hwn:n0<=wc.heap.size:=by omega
         have HP:=Lib.hid (And.intro hP (And.intro hJp (And.intro hFa hFb)))
         clear hP hFa hFb hlt1 hlt2 hf
         refine Kg (Sw:=qe) 24 99 (fun w'=>w'.cell? ⟨Ba,0,none⟩=some (.slice (some ⟨ba,oa,none⟩) (r1.length+1) capa)/\w'.cell? ⟨Bb,0,none⟩=some (.slice bd 0 capb)/\w'.cell? ⟨ba,oa,none⟩=some (.int .u64 s.lo)) (by kernel_rfl) (by kernel_rfl) rfl ⟨ca,cb,cs⟩ ?_
         simp only [List.take_succ_cons,List.take_zero]
         repeat (first
          | (refine zev ?_ rfl (fun a w hc _ hr=>?_) ?_;rotate_left;(simp [Rds,zA,lk,Op.operands,Call.operands,RdEq] at hr;go_simp;with_reducible rfl);dsimp only [List.nil_append,List.cons_append])
          | (refine jI rfl ?_ ?_;(first | exact .inl (zG rfl rfl) | exact .inr (zG rfl rfl));dsimp only [List.nil_append,List.cons_append])
          | (refine V6 rfl ?_ ?_ (fun a w hc _ hr=>?_) ?_;exact(zG rfl rfl);rotate_left;(simp [Rds,zA,lk,Op.operands,Call.operands,RdEq] at hr;go_simp;with_reducible rfl);dsimp only [List.nil_append,List.cons_append]))
         refine V7 (fun u w=>∃ B,u=.pointer (some ⟨B,0,none⟩)/\w.heap[B]? = some (.cells #[.bool false,.bool false] 139 (0,0))/\wc.heap.size<=B) (fun u w w' ⟨B,h1,h2,h3⟩ hk=>⟨B,h1,hk.obj h2 id,h3⟩) rfl ?_ ?_
         ·intro a w hc hk hr K hK
          have HK:=Lib.hid hK
          clear hK
          go_simp
          exact HK.out _ _ ((Keep.refl _ _).alloc _) ⟨((Keep.refl qe w).alloc _).cell_some hc.1 id,((Keep.refl qe w).alloc _).cell_some hc.2.1 id,((Keep.refl qe w).alloc _).cell_some hc.2.2 id⟩ ⟨w.heap.size,rfl,World.alloc_heap_new w _,hk.size⟩
         dsimp only [List.nil_append,List.cons_append]
         intro w hc hk
         simp only [finG,forall_eq]
         rintro u ⟨B,rfl,hB,hBn⟩
         simp only [List.drop_succ_cons,List.drop_zero]
         have c0:w.cell? ⟨B,0,none⟩=some (.bool false):=by simp [World.cell?,hB]
         have c1:w.cell? ⟨B,1,none⟩=some (.bool false):=by simp [World.cell?,hB]
         have f0:w.frozen? ⟨B,0,none⟩=false:=by simp [World.frozen?,hB]
         have f1:w.frozen? ⟨B,1,none⟩=false:=by simp [World.frozen?,hB]
         clear hB hc
         simp only [Act.put,List.setIfInBounds_toArray,List.set_cons_succ,List.set_cons_zero]
         go_wp2
         go_meet
         have hkk:∀ u v,Keep qe wc ((w.setCell ⟨B,0,none⟩ u).setCell ⟨B,1,none⟩ v):=fun u v=>((((Keep.refl qe wc).drew).trans hk).setCell (p:=⟨B,0,none⟩) (fun h=>by exact absurd h (by simpa using hBn)) _).setCell (p:=⟨B,1,none⟩) (fun h=>by exact absurd h (by simpa using hBn)) _
         exact⟨B,rfl,HP.out.1.at (hkk _ _) hwn (fun _ _=>id) (Nat.le_refl _),HJ.out _ _ _ HP.out.2.1 ((hkk _ _).mono fun _ _ h=>h.elim),by rw [HMA.out];go_simp,by rw [HMB.out];go_simp,Nat.le_trans hwn (hkk _ _).size⟩
       | cons t r2=>
         have hvb:=hrb
         obtain⟨bd,capb,rfl,_⟩:=hvb
         obtain⟨bb,ob,rfl,_,_,hsb,hcapb,hcmb,_⟩:=hrb.tail
         have HMB:=Lib.hid (hmb.trans (Qg hnb (hFb _ _ rfl)))
         have ct:=hsb.1
         unfold maxLen at hcmb
         clear hmb hnb hrb hsb
         have hwn:n0<=wc.heap.size:=by omega
         have HP:=Lib.hid (And.intro hP (And.intro hJp (And.intro hFa hFb)))
         clear hP hFa hFb hlt1 hlt2 hf
         refine Kg (Sw:=qe) 24 99 (fun w'=>w'.cell? ⟨Ba,0,none⟩=some (.slice (some ⟨ba,oa,none⟩) (r1.length+1) capa)/\w'.cell? ⟨Bb,0,none⟩=some (.slice (some ⟨bb,ob,none⟩) (r2.length+1) capb)/\w'.cell? ⟨ba,oa,none⟩=some (.int .u64 s.lo)/\w'.cell? ⟨bb,ob,none⟩=some (.int .u64 t.lo)) (by kernel_rfl) (by kernel_rfl) rfl ⟨ca,cb,cs,ct⟩ ?_
         simp only [List.take_succ_cons,List.take_zero]
         repeat (first
          | (refine zev ?_ rfl (fun a w hc _ hr=>?_) ?_;rotate_left;(simp [Rds,zA,lk,Op.operands,Call.operands,RdEq] at hr;go_simp;with_reducible rfl);dsimp only [List.nil_append,List.cons_append])
          | (refine jI rfl ?_ ?_;(first | exact .inl (zG rfl rfl) | exact .inr (zG rfl rfl));dsimp only [List.nil_append,List.cons_append])
          | (refine V6 rfl ?_ ?_ (fun a w hc _ hr=>?_) ?_;exact(zG rfl rfl);rotate_left;(simp [Rds,zA,lk,Op.operands,Call.operands,RdEq] at hr;go_simp;with_reducible rfl);dsimp only [List.nil_append,List.cons_append]))
         refine V7 (fun u w=>∃ B,u=.pointer (some ⟨B,0,none⟩)/\w.heap[B]? = some (.cells #[.bool false,.bool false] 139 (0,0))/\wc.heap.size<=B) (fun u w w' ⟨B,h1,h2,h3⟩ hk=>⟨B,h1,hk.obj h2 id,h3⟩) rfl ?_ ?_
         ·intro a w hc hk hr K hK
          have HK:=Lib.hid hK
          clear hK
          go_simp
          exact HK.out _ _ ((Keep.refl _ _).alloc _) ⟨((Keep.refl qe w).alloc _).cell_some hc.1 id,((Keep.refl qe w).alloc _).cell_some hc.2.1 id,((Keep.refl qe w).alloc _).cell_some hc.2.2.1 id,((Keep.refl qe w).alloc _).cell_some hc.2.2.2 id⟩ ⟨w.heap.size,rfl,World.alloc_heap_new w _,hk.size⟩
         dsimp only [List.nil_append,List.cons_append]
         intro w hc hk
         simp only [finG,forall_eq]
         rintro u ⟨B,rfl,hB,hBn⟩
         simp only [List.drop_succ_cons,List.drop_zero]
         have c0:w.cell? ⟨B,0,none⟩=some (.bool false):=by simp [World.cell?,hB]
         have c1:w.cell? ⟨B,1,none⟩=some (.bool false):=by simp [World.cell?,hB]
         have f0:w.frozen? ⟨B,0,none⟩=false:=by simp [World.frozen?,hB]
         have f1:w.frozen? ⟨B,1,none⟩=false:=by simp [World.frozen?,hB]
         clear hB hc
         simp only [Act.put,List.setIfInBounds_toArray,List.set_cons_succ,List.set_cons_zero]
         go_wp2
         go_meet
         have hkk:∀ u v,Keep qe wc ((w.setCell ⟨B,0,none⟩ u).setCell ⟨B,1,none⟩ v):=fun u v=>((((Keep.refl qe wc).drew).trans hk).setCell (p:=⟨B,0,none⟩) (fun h=>by exact absurd h (by simpa using hBn)) _).setCell (p:=⟨B,1,none⟩) (fun h=>by exact absurd h (by simpa using hBn)) _
         exact⟨B,rfl,HP.out.1.at (hkk _ _) hwn (fun _ _=>id) (Nat.le_refl _),HJ.out _ _ _ HP.out.2.1 ((hkk _ _).mono fun _ _ h=>h.elim),by rw [HMA.out];go_simp,by rw [HMB.out];go_simp,Nat.le_trans hwn (hkk _ _).size⟩
    case rest=>
     clear hP hJp
     obtain⟨Bs,rfl,hP,hJp,hs0,hs1,hn0⟩:=hcut
     have hnA:ye a xn=ye a2 xn:=hP.sa.nxt_eq ha (Nat.le_refl _)
     have hnB:ye b xn=ye b2 xn:=hP.sb.nxt_eq hb (Nat.le_refl _)
     have HNA:=Lib.hid hnA
     have HNB:=Lib.hid hnB
     clear hnA hnB hFa hFb
     obtain⟨pa,hpa⟩:∃ p,mem a xn=p:=⟨_,rfl⟩
     obtain⟨pb,hpb⟩:∃ p,mem b xn=p:=⟨_,rfl⟩
     rw [hpa] at hs0
     rw [hpb] at hs1
     have HPA:=Lib.hid hpa
     have HPB:=Lib.hid hpb
     clear hpa hpb
     have ca:=hP.bxa.cell
     have hlb:=hP.bxb.lt
     have hls:Bs<wc.heap.size:=World.block_lt_of_cell? wc _ hs0
     go_wp2_with fail
     refine(Vs a2 va2 xn _ (hP.ra.keep (Nat.le_refl _) hn0 fun _ _ _=>rfl)).mono ?_
     rintro e w1 ⟨n1,m1,rfl,hm1,hb1⟩
     clear ca
     have hP1:=hP.at (S:=qe) (Keep.of_below' hb1 (Nat.le_refl _)) hn0 (fun _ _=>id) (Nat.le_refl _)
     have hJ1:=HJ.out _ _ _ hJp (Keep.of_below' hb1 (Nat.le_refl _))
     have hs0:=(hb1.cell (p:=⟨Bs,0,none⟩) hls).trans hs0
     have hs1:=(hb1.cell (p:=⟨Bs,1,none⟩) hls).trans hs1
     have hn1:n0<=w1.heap.size:=Nat.le_trans hn0 hb1.size
     have hls:=World.block_lt_of_cell? w1 _ hs0
     clear hP hJp hb1 hn0
     have cb:=hP1.bxb.cell
     go_wp2_with fail
     refine(Vs b2 vb2 xn _ (hP1.rb.keep (Nat.le_refl _) hn1 fun _ _ _=>rfl)).mono ?_
     rintro e w2 ⟨n2,m2,rfl,hm2,hb2⟩
     clear cb
     have hP2:=hP1.at (S:=qe) (Keep.of_below' hb2 (Nat.le_refl _)) hn1 (fun _ _=>id) (Nat.le_refl _)
     have hJ2:=HJ.out _ _ _ hJ1 (Keep.of_below' hb2 (Nat.le_refl _))
     have hs0:=(hb2.cell (p:=⟨Bs,0,none⟩) hls).trans hs0
     have hs1:=(hb2.cell (p:=⟨Bs,1,none⟩) hls).trans hs1
     have hn2:n0<=w2.heap.size:=Nat.le_trans hn1 hb2.size
     clear hP1 hJ1 hb2 hn1
     go_upto_region 8 with fail
     go_cut [81] (fun s81 wx=>∃ c:Bool,s81=.bool c/\wx=w2/\Hid (c=(m2 && (!m1 || decide (n2<n1)))))
     case first=>
      cases m2
      ·go_wp2_with fail
       go_meet
       exact⟨false,rfl,rfl,rfl⟩
      ·cases m1
       ·go_wp2_with fail
        go_meet
        exact⟨true,rfl,rfl,rfl⟩
       ·go_wp2_with fail
        go_meet
        exact⟨_,rfl,rfl,by simp [Hid]⟩
     case rest=>
      obtain⟨c,rfl,rfl,hc⟩:=hcut
      cases c with
      | true=>
        have hm:m2=true/\kv (ye a xn) (ye b xn)=some n2:=by
         have:=hc.out
         rw [HNA.out,HNB.out,hm1.out,hm2.out]
         cases m2<;>cases m1<;>simp [kv] at this ⊢
         omega
        obtain⟨rfl,hmin⟩:=hm
        have hmin:=Lib.hid hmin
        have hnx:Hid (ye b xn=some n2):=by show _=_;rw [HNB.out,hm2.out];rfl
        clear hc hm1 hm2 HNA HNB
        have hy0:xn<n2/\n2<zk:=by
         have h:=hnx.out
         exact⟨xr h,vJ hb h⟩
        obtain⟨f',rfl⟩:∃ f',f=f'+1:=⟨f - 1,by omega⟩
        have hpcs:Hid (QU a b (f'+1) xn=(⟨xn,n2 - 1⟩,pa,pb)::QU a b f' n2):=by
         show QU a b (f'+1) xn=_
         conv=>lhs;unfold QU
         rw [hmin.out,HPA.out,HPB.out]
        obtain⟨fn,tmps,assign,body,hy,hR⟩:=HY.out pre (⟨xn,n2 - 1⟩,pa,pb) wc hJ2 ⟨QU a b f' n2,by rw [hpc.out,hpcs.out];simp⟩
        dsimp only [za1] at hy
        have hw1:IntKind.u64.wrap ((n2:Int) - 1)=((n2 - 1:Nat):Int):=Zj (by omega) hy0.2
        obtain⟨y1,hy1⟩:∃ y1,y1=n2 - 1:=⟨_,rfl⟩
        rw [<-hy1] at hy hw1 hR
        have HY1:=Lib.hid hy1
        clear hy1
        go_upto_region 13 with fail
        refine(wpIn_wide (n:=8)).1 ?_
        gi_wp2
        refine hR.mono ?_
        rintro e w3 (⟨rfl,hJ3,hk3⟩ | ⟨rfl,hJx3⟩)
        ·gi_wp2
         go_wp2
         go_roundg (zk - n2)
         case measure=>omega
         case rel=>exact⟨n2,f',a2,b2,va2,vb2,pre++[(⟨xn,y1⟩,pa,pb)],rfl,hy0.2,rfl,hP2.at hk3 hn2 (fun k hk h=>h hk) (by omega),by show yO a b=_;rw [hpc.out,hpcs.out,HY1.out];simp,by omega,hJ3⟩
        ·gi_wp2
         go_wp2
         refine bodyPost_ret (results_none rfl _ _ _) rfl ?_
         exact⟨⟨_,rfl⟩,.inr ⟨pre++[(⟨xn,y1⟩,pa,pb)],⟨QU a b f' n2,by rw [hpc.out,hpcs.out,HY1.out];simp⟩,hJx3⟩⟩
      | false=>
        cases m1 with
        | true=>
          have hmin:Hid (kv (ye a xn) (ye b xn)=some n1):=by
           have:=hc.out
           show _=_
           rw [HNA.out,HNB.out,hm1.out,hm2.out]
           cases m2<;>simp [kv] at this ⊢
           omega
          have hnx:Hid (ye a xn=some n1):=by show _=_;rw [HNA.out,hm1.out];rfl
          clear hc hm1 hm2 HNA HNB
          have hy0:xn<n1/\n1<zk:=by
           have h:=hnx.out
           exact⟨xr h,vJ ha h⟩
          obtain⟨f',rfl⟩:∃ f',f=f'+1:=⟨f - 1,by omega⟩
          have hpcs:Hid (QU a b (f'+1) xn=(⟨xn,n1 - 1⟩,pa,pb)::QU a b f' n1):=by
           show QU a b (f'+1) xn=_
           conv=>lhs;unfold QU
           rw [hmin.out,HPA.out,HPB.out]
          obtain⟨fn,tmps,assign,body,hy,hR⟩:=HY.out pre (⟨xn,n1 - 1⟩,pa,pb) wc hJ2 ⟨QU a b f' n1,by rw [hpc.out,hpcs.out];simp⟩
          dsimp only [za1] at hy
          have hw1:IntKind.u64.wrap ((n1:Int) - 1)=((n1 - 1:Nat):Int):=Zj (by omega) hy0.2
          obtain⟨y1,hy1⟩:∃ y1,y1=n1 - 1:=⟨_,rfl⟩
          rw [<-hy1] at hy hw1 hR
          have HY1:=Lib.hid hy1
          clear hy1
          go_upto_region 13 with fail
          refine(wpIn_wide (n:=8)).1 ?_
          gi_wp2
          refine hR.mono ?_
          rintro e w3 (⟨rfl,hJ3,hk3⟩ | ⟨rfl,hJx3⟩)
          ·gi_wp2
           go_wp2
           go_roundg (zk - n1)
           case measure=>omega
           case rel=>exact⟨n1,f',a2,b2,va2,vb2,pre++[(⟨xn,y1⟩,pa,pb)],rfl,hy0.2,rfl,hP2.at hk3 hn2 (fun k hk h=>h hk) (by omega),by show yO a b=_;rw [hpc.out,hpcs.out,HY1.out];simp,by omega,hJ3⟩
          ·gi_wp2
           go_wp2
           refine bodyPost_ret (results_none rfl _ _ _) rfl ?_
           exact⟨⟨_,rfl⟩,.inr ⟨pre++[(⟨xn,y1⟩,pa,pb)],⟨QU a b f' n1,by rw [hpc.out,hpcs.out,HY1.out];simp⟩,hJx3⟩⟩
        | false=>
          have hmin:Hid (kv (ye a xn) (ye b xn)=none):=by
           have:=hc.out
           show _=_
           rw [HNA.out,HNB.out,hm1.out,hm2.out]
           cases m2<;>simp [kv] at this ⊢
          clear hc hm1 hm2 HNA HNB
          obtain⟨f',rfl⟩:∃ f',f=f'+1:=⟨f - 1,by omega⟩
          have hpcs:Hid (QU a b (f'+1) xn=[(⟨xn,zk - 1⟩,pa,pb)]):=by
           show QU a b (f'+1) xn=_
           conv=>lhs;unfold QU
           rw [hmin.out,HPA.out,HPB.out]
          obtain⟨fn,tmps,assign,body,hy,hR⟩:=HY.out pre (⟨xn,zk - 1⟩,pa,pb) wc hJ2 ⟨[],by rw [hpc.out,hpcs.out];simp⟩
          dsimp only [za1] at hy
          rw [show ((zk - 1:Nat):Int)=18446744073709551615 from rfl] at hy
          go_upto_region 13 with fail
          refine(wpIn_wide (n:=8)).1 ?_
          gi_wp2
          refine hR.mono ?_
          rintro e w3 (⟨rfl,hJ3,hk3⟩ | ⟨rfl,hJx3⟩)
          ·gi_wp2
           go_wp2
           refine bodyPost_ret (results_none rfl _ _ _) rfl ?_
           exact⟨⟨_,rfl⟩,.inl (by rw [hpc.out,hpcs.out];exact hJ3)⟩
          ·gi_wp2
           go_wp2
           refine bodyPost_ret (results_none rfl _ _ _) rfl ?_
           exact⟨⟨_,rfl⟩,.inr ⟨pre++[(⟨xn,zk - 1⟩,pa,pb)],⟨[],by rw [hpc.out,hpcs.out];simp⟩,hJx3⟩⟩
end Go.Proofs.YtonhfknjcbakiaaGreatDoor
