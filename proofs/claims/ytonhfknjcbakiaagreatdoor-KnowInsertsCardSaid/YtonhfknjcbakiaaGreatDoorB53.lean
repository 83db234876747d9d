import Derived.Test.YtonhfknjcbakiaaGreatDoorB52
set_option maxHeartbeats 16000000
set_option linter.unusedVariables false
set_option linter.unusedSimpArgs false
set_option maxRecDepth 100000
namespace Go.Proofs.YtonhfknjcbakiaaGreatDoor
open Go.RowKit
attribute [-go_sem] nat_succ zae zaf Vr
theorem zqn (k:List Fg) (i r c:Nat) (hb:BdK k) (hz:SzK k) (X:(ckK k).1≠0):Cn Tryz.prog 35 [kp k,.v (.int .u64 i),.v (.int .u64 r),.v (.int .u64 c)] (.tup [.v (.bool false),zou zot (ckK k)]):=by
 unfold zou
 rw [zmb X]
 refine yZ rfl (enters_of Tryz.func35 (by kernel_rfl) rfl) fun D w S V U G F=>?_
 have d0:=F 0 _ rfl
 have L:=(Rel.dat (ρ:=fun _=>0) (nb:=0) (F 1 _ rfl)).v_inv
 have M:=(Rel.dat (ρ:=fun _=>0) (nb:=0) (F 2 _ rfl)).v_inv
 have N:=(Rel.dat (ρ:=fun _=>0) (nb:=0) (F 3 _ rfl)).v_inv
 obtain⟨I,B⟩:∃ I,I=S.getD 0 undef:=⟨_,rfl⟩
 obtain rfl:S=#[I,.int .u64 i,.int .u64 r,.int .u64 c]:=by
  obtain⟨l⟩:=S
  match l,G with
  | [p,q,s,t],_=>
    simp at L M N B
    rw [B,L,M,N]
 clear L M N G B
 have u:Dat D w I (kp k):=d0
 obtain⟨ad,Y,rfl,_,_⟩:=zl4 u
 have J:=Lib.hid (fun W (Z:Below w.heap.size w W)=>zn3 hb hz X u U V Z)
 clear d0 u F U V hb hz
 have a:True:=trivial
 go_enter_defers Tryz.func35,Tryz.ntmps35
 go_wp2_with (first
  | (go_at_call 54;have _t:=a;refine(J.out _ ((Below.refl _ _).alloc (Nat.le_refl _) _)).mono ?_;rintro e w1 ⟨rfl,y⟩
     have H:Boxed w1 w.heap.size 44 .nilIface:=(y.block _ (by simp)).trans (World.alloc_heap_new w _)
     have K:=Lib.hid H
     have C:=Lib.hid (((Below.refl _ w).alloc (Nat.le_refl _) _).trans (y.mono (by simp)))
     clear y H a)
  | (go_at_call 78;refine(zn9 _ _ _ _).mono ?_;rintro e w' ⟨rfl,rfl⟩
     refine leaves_cons (f := 77) (args:=#[.pointer (some ⟨w.heap.size,0,none⟩)]) (by simp) (by simp [go_sem]) ?_
     refine(znO w.heap.size .nilIface _ _ _ _ K.out).mono ?_
     rintro e u' T ⟨rfl,rfl,O,P⟩
     have Q:=O.cell
     have hs:=C.out.size
     have E:Below w.heap.size w T:=C.out.trans (P.below hs (fun k hk e=>by omega))
     simp [Leaves,settle,results,Tryz.results35,go_sem,Q]
     refine⟨E,.tup _ _ rfl fun j p A=>?_⟩
     match j,A with
     | 0,A=>cases A;exact .v _
     | 1,A=>cases A;exact .ifc _ _ _ (znT (.v _) (.ifc _ _ _ (znT (.v _) (.v _) rfl rfl)) rfl rfl)
     | j+2,A=>simp at A)
  | go_in)
end Go.Proofs.YtonhfknjcbakiaaGreatDoor
namespace Go.Proofs.YtonhfknjcbakiaaGreatDoor
open Go.RowKit
theorem zqV {i r c:Nat} (hi:i<M64) (j:r<M64) (a:c<M64):hasK (znP i r c) i r c=true:=by
 rw [hasK_iff]
 refine⟨_,by simp [znP];rfl,by simp [mem],?_⟩
 show mem (zT (zl9 r c) r) c=true
 rw [zoE j a,if_pos rfl]
 simp [mem]
theorem zqP (i r c:Nat) (a:c<M64):Cn Tryz.prog 95 [.v (.int .u64 i),.v (.int .u64 r),.v (.int .u64 c)] (kp (znP i r c)):=by
 refine zt Tryz.func95 3 ?_
 refine pw ?_
 refine .c (zrm r c a) ?_
 rfl
theorem zqe {C:Nat->List Nat} {R:List Nat} {n:Nat} (k:List Fg) (i r c:Nat) (u:c<M64) (hk:Kn C R n k) (j:Kn C R n (znP i r c)) (ok:OkX C R) (w:n<=20000):Cn Tryz.prog 38 [kp k,.v (.int .u64 i),.v (.int .u64 r),.v (.int .u64 c)] (kp (vh zn k (znP i r c))):=by
 have a:Cn Tryz.prog 40 [kp k,kp (znP i r c),.v (.int .i64 0)] (kp (vh zn k (znP i r c))):=YG k (znP i r c) 0 (by omega) hk j ok w
 refine zt Tryz.func38 4 ?_
 refine pw ?_
 refine .c (zqP i r c u) ?_
 (first | exact .d (a) | exact .q (a))
theorem zqd (k:List Fg) (i r c:Nat) (u:r<M64) (j:c<M64) (hb:BdK k) (hz:SzK k) (w:(ckK k).1≠0):Cn Tryz.prog 34 [kp k,.v (.int .u64 i),.v (.int .u64 r),.v (.int .u64 c)] (.tup [kp [],zou zot (ckK k)]):=by
 have a:=zoX [] r c zoH u j
 rw [zoC u j] at a
 refine zt Tryz.func34 4 ?_
 refine pw ?_
 (first | refine .c (a) ?_ | refine .o (a) ?_)
 exact .d (zp7 k (znP i r c) hb hz w)
theorem zre (k:List Fg) (x:Nat × Nat × Nat) (hk:BdK k) (a:BdX x):Cn Tryz.prog 7 [kp k,xp x] (.v (.bool true)):=by
 have hs:=zoc [k] (by simp) (fun q w=>by
  simp at w
  rw [w];exact hk)
 obtain⟨s,O⟩:∃ s,s=[k].all vx:=⟨_,rfl⟩
 rw [<-O] at hs
 have al:=zn2
 refine zt Tryz.func7 2 ?_
 refine pw ?_
 (first | refine .c (hs) ?_ | refine .o (hs) ?_)
 cases s with
 | false=>
   refine pw ?_
   (first | exact .d (al) | exact .q (al))
 | true=>
   have H:vx k=true:=by simpa using O.symm
   have B:=zcS H
   have y:=VS k hk B
   by_cases C:(ckK k).1≠0
   ·have j:=zqd k x.1 x.2.1 x.2.2 a.2.1 a.2.2 hk B C
    have u:=zqn k x.1 x.2.1 x.2.2 hk B C
    have E:=zok zot (ckK k) (by decide) C (zqh k)
    have P:decide ((ckK k).1=0)=false:=decide_eq_false C
    refine pw ?_
    (first | refine .c (j) ?_ | refine .o (j) ?_)
    (first | refine .c (u) ?_ | refine .o (u) ?_)
    (first | refine .c (y) ?_ | refine .o (y) ?_)
    try simp (maxSteps:=2000000) (disch:=omega) only [go_sem,seval,P]
    repeat ((with_reducible refine And.intro ?_ ?_);focus exact yI)
    (first | refine .c (al) ?_ | refine .o (al) ?_)
    (first | refine .c (E) ?_ | refine .o (E) ?_)
    (first | exact .d (E) | exact .q (E))
   ·have e1:(ckK k).1=0:=by omega
    have A:=(ZN hk).1 e1
    have L:=zqL a.1 a.2.1 a.2.2
    have fo:vx (znP x.1 x.2.1 x.2.2)=true:=zqW a.2.1 a.2.2
    have ok:OkX (CKL [k,znP x.1 x.2.1 x.2.2]) (RKL [k,znP x.1 x.2.1 x.2.2]):=zam (by simp) fun q w=>by
     simp at w
     rcases w with rfl | rfl
     ·exact⟨H,A⟩
     ·exact⟨fo,L⟩
    have J:Kn (CKL [k,znP x.1 x.2.1 x.2.2]) (RKL [k,znP x.1 x.2.1 x.2.2]) 240 k:=Kn.all (by simp) H A
    have K:Kn (CKL [k,znP x.1 x.2.1 x.2.2]) (RKL [k,znP x.1 x.2.1 x.2.2]) 240 (znP x.1 x.2.1 x.2.2):=Kn.all (by simp) fo L
    have I:=J.do (f:=zn) rfl K ok
    have j:=znJ k x.1 x.2.1 x.2.2 a.2.1 a.2.2 J K ok (by omega)
    have u:=zn6 k x.1 x.2.1 x.2.2 A B a.2.2
    have F:=zn6 (vh zn k (znP x.1 x.2.1 x.2.2)) x.1 x.2.1 x.2.2 I.r (I.z (by omega)) a.2.2
    rw [zcZ (f:=zn) rfl A L a.1 a.2.2,zqV a.1 a.2.1 a.2.2,show zn (hasK k x.1 x.2.1 x.2.2) true=true from Bool.or_true _] at F
    have M:=zid k x.1 x.2.1 x.2.2 A a.2.2 B
    have N:=zqe k x.1 x.2.1 x.2.2 a.2.2 J K ok (by omega)
    have G:=zfq (vh zn k (znP x.1 x.2.1 x.2.2)) (vh zn k (znP x.1 x.2.1 x.2.2)) (I.z (by omega))
    rw [decide_eq_true rfl] at G
    rw [e1] at y
    refine pw ?_
    (first | refine .c (j) ?_ | refine .o (j) ?_)
    (first | refine .c (u) ?_ | refine .o (u) ?_)
    (first | refine .c (y) ?_ | refine .o (y) ?_)
    (first | refine .c (F) ?_ | refine .o (F) ?_)
    (first | refine .c (al) ?_ | refine .o (al) ?_)
    (first | refine .c (M) ?_ | refine .o (M) ?_)
    (first | refine .c (N) ?_ | refine .o (N) ?_)
    (first | exact .d (G) | exact .q (G))
end Go.Proofs.YtonhfknjcbakiaaGreatDoor
