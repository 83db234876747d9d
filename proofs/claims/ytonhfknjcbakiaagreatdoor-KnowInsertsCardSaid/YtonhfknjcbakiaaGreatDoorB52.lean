import Derived.Laws.Concat
import Derived.Test.YtonhfknjcbakiaaGreatDoorB28
import Derived.Test.YtonhfknjcbakiaaGreatDoorB51
set_option maxHeartbeats 16000000
set_option linter.unusedVariables false
set_option linter.unusedSimpArgs false
set_option maxRecDepth 100000
namespace Go.Proofs.YtonhfknjcbakiaaGreatDoor
open Go.RowKit
attribute [-go_sem] nat_succ zae zaf Vr
def zn4 (c:Nat):ByteArray:=⟨#[101,114,114,111,114,32,UInt8.ofNat (48+c)]⟩
theorem zoU (c:Nat) (u:c<=9) (w:World):Calls Tryz.prog 50 #[.int .i64 c] w fun e j=>e=.returned (.string (zn4 c))/\j=w:=by
 have a:c=0\/c=1\/c=2\/c=3\/c=4\/c=5\/c=6\/c=7\/c=8\/c=9:=by omega
 rcases a with rfl | rfl | rfl | rfl | rfl | rfl | rfl | rfl | rfl | rfl
 all_goals
  go_enter Tryz.func50,Tryz.ntmps50
  go_wp2
  apply wp_loop_once
  go_wp2
  refine bodyPost_ret (results_tmp rfl _ _ _) rfl ?_
  exact⟨by kernel_rfl,rfl⟩
theorem zoT (c:Nat) (u:c<=9):Cn Tryz.prog 50 [.v (.int .i64 c)] (.v (.string (zn4 c))):=by
 refine Js rfl (enters_of Tryz.func50 (by kernel_rfl) rfl) fun D w j A a y=>?_
 have d0:=(Rel.dat (ρ:=fun _=>0) (nb:=0) (y 0 _ rfl)).v_inv
 obtain rfl:j=#[.int .i64 c]:=by
  obtain⟨l⟩:=j
  match l,a with
  | [p],_=>
    simp at d0
    rw [d0]
 refine(zoU c u w).mono ?_
 rintro e B ⟨rfl,rfl⟩
 exact⟨_,rfl,Below.refl _ _,.v _⟩
theorem zol {t:TypeId} {m:String} {f:FuncId} (h:∀(v:Value) (w:World),(method (Tryz.prog.types.size+Made.depth) t v m).run Tryz.prog w=.ok (f,v) w):Mth Tryz.prog t m f:=fun v a w=>by
 unfold callMethod
 simp only [Sem.run_bind,run_program,Result.andThen_ok,h]
theorem zn8:Mth Tryz.prog 150 "Error" 257 := zol fun v w=>by kernel_rfl
theorem zn7:Mth Tryz.prog 120 "Error" 255 := zol fun v w=>by kernel_rfl
end Go.Proofs.YtonhfknjcbakiaaGreatDoor
namespace Go.Proofs.YtonhfknjcbakiaaGreatDoor
open Go.RowKit
theorem zoi (c:Nat) (k:Int) (a:c<=9):Cn Tryz.prog 255 [.agg [.v (.int .i64 c),.v (.int .i64 k)]] (.v (.string (zn4 c))):=by
 refine zt Tryz.func255 1 ?_
 refine pw ?_
 exact .d (zoT c a)
def zoq:ByteArray:=⟨#[58,32]⟩
theorem zor:(⟨#[58,32]⟩:ByteArray).size=2:=rfl
theorem zoJ (c:Nat):(zn4 c).size=7:=rfl
theorem zom (s:ByteArray) (x:Nat × Int) (hs:s.size<=1000) (a:x.1≠0) (j:x.1<=9):Cn Tryz.prog 257 [.agg [.v (.string s),jS x.1 x.2]] (.v (.string (s++zoq++zn4 x.1))):=by
 rw [zmb a]
 have w:(Array.mk [(58:UInt8),32]).size=2:=rfl
 have u:=zor
 have z2:=zoJ x.1
 have y:(s++⟨#[58,32]⟩:ByteArray).size=s.size+2:=by rw [ByteArray.size_append,u]
 refine zt Tryz.func257 1 ?_
 refine pw ?_
 refine .mk zn7 ?_
 refine .c (zoi x.1 x.2 j) ?_
 rfl
theorem zqf (s:ByteArray) (c k:Int) (w:World) (j:HG w):Calls Tryz.prog 94 #[.iface 150 (.agg #[.string s,.iface 120 (.agg #[.int .i64 c,.int .i64 k])]),.iface 127 (.pointer (some ⟨w.heap.size,0,none⟩))] (w.alloc (.cells #[.int .i64 0] 82))
 fun ev a=>ev=.returned (.bool true)/\Below w.heap.size w a/\a.cell? ⟨w.heap.size,0,none⟩=some (.int .i64 c):=by
 refine(As.as_DN s c k ⟨w.heap.size,0,none⟩ (.int .i64 0) _ (j.alloc _) (by simp) (by simp)).mono ?_
 rintro ev a ⟨rfl,rfl⟩
 refine⟨rfl,?_,?_⟩
 ·refine Below.setCell (((((((((Below.refl _ w).alloc ?_ _).alloc ?_ _).alloc ?_ _).alloc ?_ _).alloc ?_ _).alloc ?_ _).alloc ?_ _)) ?_ _<;>simp<;>omega
 ·refine World.cell?_setCell_same _ _ _ (u:=.int .i64 0) ?_
  rw [World.cell?_alloc_lt _ _ ⟨w.heap.size,0,none⟩ (by simp;omega),World.cell?_alloc_lt _ _ ⟨w.heap.size,0,none⟩ (by simp;omega),World.cell?_alloc_lt _ _ ⟨w.heap.size,0,none⟩ (by simp;omega),World.cell?_alloc_lt _ _ ⟨w.heap.size,0,none⟩ (by simp;omega),World.cell?_alloc_lt _ _ ⟨w.heap.size,0,none⟩ (by simp;omega),World.cell?_alloc_lt _ _ ⟨w.heap.size,0,none⟩ (by simp)]
  simp
theorem zqS (s:ByteArray) (c k:Int) (w:World) (a:HG w):Calls Tryz.prog 51 #[.iface 150 (.agg #[.string s,.iface 120 (.agg #[.int .i64 c,.int .i64 k])])] w fun e j=>e=.returned (.int .i64 c)/\Below w.heap.size w j:=by
 go_enter Tryz.func51,Tryz.ntmps51
 go_wp2_with (go_at_call 94;refine(zqf s c k w a).mono ?_;rintro e y ⟨rfl,hb,u⟩)
 go_ret
 exact⟨rfl,hb⟩
theorem zqg (s:ByteArray) (c k:Int) (T:Nat) (W:World) (H:HG W) (y:W.cell? ⟨T,0,none⟩=some (.int .i64 0)) (B:W.cell? ⟨T,1,none⟩=some (.int .i64 0)) (F:W.frozen? ⟨T,0,none⟩=false) (G:W.frozen? ⟨T,1,none⟩=false) :
 Calls Tryz.prog 94 #[.iface 150 (.agg #[.string s,.iface 120 (.agg #[.int .i64 c,.int .i64 k])]),.iface 123 (.pointer (some ⟨T,0,none⟩))] W
 fun ev u=>ev=.returned (.bool true)/\Keep (fun b=>b=T) W u/\u.cell? ⟨T,0,none⟩=some (.int .i64 c)/\u.cell? ⟨T,1,none⟩=some (.int .i64 k):=by
 have I:T<W.heap.size:=World.block_lt_of_cell? W ⟨T,0,none⟩ y
 refine(As.as_DF s c k T W H (by rw [y];rfl) (by rw [B];rfl) F G).mono ?_
 rintro ev u ⟨rfl,rfl⟩
 obtain⟨a,j,w⟩:∃ a,a=((((W.alloc (.cells #[.pointer (some ⟨T,0,none⟩)] 123)).alloc (.cells #[.pointer (some ⟨2,123,none⟩),.pointer (some ⟨W.heap.size,0,none⟩),.int .u64 150] 172)).alloc (.cells #[.pointer (some ⟨2,123,none⟩),.pointer (some ⟨W.heap.size,0,none⟩),.int .u64 150] 172)).alloc (.cells #[.string s,.iface 120 (.agg #[.int .i64 c,.int .i64 k])] 150)).alloc (.cells #[.int .i64 c,.int .i64 k] 120)/\Keep (fun b=>b=T) W a:=
  ⟨_,rfl,(((((Keep.refl _ W).alloc _).alloc _).alloc _).alloc _).alloc _⟩
 have A:Keep (fun _=>False) W a:=by rw [j];exact(((((Keep.refl _ W).alloc _).alloc _).alloc _).alloc _).alloc _
 rw [<-j]
 have C:=A.cell_some y id
 have E:=A.cell_some B id
 unfold World.setCells World.setCells World.setCells
 have b1:(a.setCell ⟨T,0,none⟩ (.int .i64 c)).cell? ⟨T,0,none⟩=some (.int .i64 c):=World.cell?_setCell_same _ _ _ C
 have b2:(a.setCell ⟨T,0,none⟩ (.int .i64 c)).cell? ⟨T,1,none⟩=some (.int .i64 0):=by rw [World.cell?_setCell_other _ _ _ _ (by simp)];exact E
 refine⟨rfl,(w.setCell (fun _=>rfl) _).setCell (fun _=>rfl) _,?_,World.cell?_setCell_same _ _ _ b2⟩
 show ((a.setCell ⟨T,0,none⟩ _).setCell ⟨T,0+1,none⟩ _).cell? _=_
 rw [World.cell?_setCell_other _ _ _ _ (by simp)]
 exact b1
end Go.Proofs.YtonhfknjcbakiaaGreatDoor
namespace Go.Proofs.YtonhfknjcbakiaaGreatDoor
open Go.RowKit
attribute [-go_sem] nat_succ zae zaf Vr
theorem HG.gl {w:World} (h:HG w):GL (fun b o=>b=0/\o=0) w:=fun x a=>⟨⟨rfl,rfl⟩,by
 have e:zmw=some (.iface 217 (.agg #[.pointer (some ⟨2,44,none⟩)])):=rfl
 rw [e] at a
 rw [<-Option.some.inj a]
 exact h⟩
theorem zq7 (s:ByteArray) (c:Nat) (k:Int) (W:World) (B:HG W) (hs:s.size<=1000) (y:c≠0) (E:c<=9) :
 Calls Tryz.prog 257 #[.agg #[.string s,.iface 120 (.agg #[.int .i64 c,.int .i64 k])]] W fun e C=>e=.returned (.string (s++⟨#[58,32]⟩++zn4 c))/\Below W.heap.size W C:=by
 have A:=zom s (c,k) hs y E
 rw [zmb y] at A
 refine(jP A B.gl (fun b o h=>by rw [h.1];exact B.pos) rfl (fun i p a=>?_)).mono ?_
 ·match i,a with
  | 0,a=>cases a;exact znT (.v _) (.ifc _ _ _ (znT (.v _) (.v _) rfl rfl)) rfl rfl
  | i+1,a=>simp at a
 ·rintro e C ⟨u,rfl,j,w⟩
  have e:=(Rel.dat (ρ:=fun _=>0) (nb:=0) w).v_inv
  rw [e]
  exact⟨rfl,j⟩
theorem HG.keep {w w':World} {T:Nat} (h:HG w) (hk:Keep (fun b=>b=T) w w') (a:0<T):HG w':=hk.cell_some h (fun e=>by simp at e;omega)
theorem HG.below {w a:World} {n:Nat} (h:HG w) (hb:Below n w a) (j:0<n):HG a:=(hb.cell (p:=⟨0,0,none⟩) j).trans h
theorem zqt (s:ByteArray) (e:Value) (w:World):(Go.method 411 150 (.agg #[.string s,e]) "Error").run Tryz.prog w=.ok (257,.agg #[.string s,e]) w:=by kernel_rfl
theorem zq0 (s:ByteArray) (c:Nat) (k:Int) (w:World) (V:HG w) (hs:s.size<=1000) (h0:c≠0) (Z:c<=9) :
 Calls Tryz.prog 37 #[.iface 150 (.agg #[.string s,.iface 120 (.agg #[.int .i64 c,.int .i64 k])]),.int .i64 c,.int .i64 k,.string s] w fun e w'=>e=.returned (.int .i64 1)/\Below w.heap.size w w':=by
 have O:=V.pos
 have U:=Lib.hid V
 clear V
 have mE:=zqt
 have z7:=zoJ c
 have j:True:=trivial
 have u:True:=trivial
 have y:True:=trivial
 have A:True:=trivial
 have B:True:=trivial
 go_enter Tryz.func37,Tryz.ntmps37
 go_wp2_with (first
  | (go_at_call 93;have Q:=j;refine(As.Is_DN s c k _).mono ?_;rintro e G ⟨rfl,a⟩
     have N:HG G:=by rw [a];exact((U.out.alloc _).alloc _).alloc _
     have t0:G.cell? ⟨w.heap.size,0,none⟩=some (.int .i64 0):=by rw [a,World.cell?_alloc_lt _ _ ⟨w.heap.size,0,none⟩ (by simp;omega),World.cell?_alloc_lt _ _ ⟨w.heap.size,0,none⟩ (by simp)];simp
     have t1:G.cell? ⟨w.heap.size,1,none⟩=some (.int .i64 0):=by rw [a,World.cell?_alloc_lt _ _ ⟨w.heap.size,1,none⟩ (by simp;omega),World.cell?_alloc_lt _ _ ⟨w.heap.size,1,none⟩ (by simp)];simp
     have X:G.frozen? ⟨w.heap.size,0,none⟩=false:=by rw [a,World.frozen?_alloc_old _ _ ⟨w.heap.size,0,none⟩ (by simp;omega),World.frozen?_alloc_old _ _ ⟨w.heap.size,0,none⟩ (by simp)];simp
     have Y:G.frozen? ⟨w.heap.size,1,none⟩=false:=by rw [a,World.frozen?_alloc_old _ _ ⟨w.heap.size,1,none⟩ (by simp;omega),World.frozen?_alloc_old _ _ ⟨w.heap.size,1,none⟩ (by simp)];simp
     have L:Below w.heap.size w G:=by rw [a];exact(((Below.refl _ w).alloc (Nat.le_refl _) _).alloc (by simp) _).alloc (by simp;omega) _
     have K:=Lib.hid N
     have P:=Lib.hid (And.intro t0 (And.intro t1 (And.intro X Y)))
     have H:=Lib.hid L
     clear a N t0 t1 X Y L j)
  | (go_at_call 94;have Q:=u;refine(zqg s c k w.heap.size _ K.out P.out.1 P.out.2.1 P.out.2.2.1 P.out.2.2.2).mono ?_;rintro e w2 ⟨rfl,F,ab,ac⟩
     have C:=Lib.hid (K.out.keep F O)
     have I:=Lib.hid (H.out.trans (F.below H.out.size (fun k hk e=>by omega)))
     clear F u)
  | (go_at_call 51;have Q:=y;refine(zqS s c k _ C.out).mono ?_;rintro e w3 ⟨rfl,E⟩
     have T:=Lib.hid (C.out.below E C.out.pos)
     have J:=Lib.hid (I.out.trans (E.mono I.out.size))
     clear E y)
  | (go_at_call 257;have Q:=A;refine(zq7 s c k _ T.out hs h0 Z).mono ?_;rintro e w4 ⟨rfl,M⟩
     have S:=Lib.hid (J.out.trans (M.mono J.out.size))
     clear M A)
  | (go_at_call 50;have Q:=B;refine(zoU c Z _).mono ?_;rintro e w5 ⟨rfl,rfl⟩;clear B)
  | go_in)
 all_goals (try (exfalso;omega))
 refine bodyPost_ret (results_tmp rfl _ _ _) rfl ?_
 exact⟨rfl,S.out⟩
end Go.Proofs.YtonhfknjcbakiaaGreatDoor
namespace Go.Proofs.YtonhfknjcbakiaaGreatDoor
open Go.RowKit
attribute [go_sem] zou
def znP (i r c:Nat):List Fg:=[⟨[⟨i,i⟩],zl9 r c⟩]
theorem zmg:RightV []:=⟨fun e h=>(by cases h),List.Pairwise.nil⟩
theorem zic:RightK []:=fun f h=>by cases h
theorem zoC {r c:Nat} (u:r<M64) (a:c<M64):ks zn [] (zl9 r c)=zl9 r c:=
 zoY rfl zmg (zkS u a).right (zkS u a) fun x=>by
  have j:=qi (zkS u a).right x
  have w:Nrm []:=trivial
  refine Nrm.unique j (qH w j) fun y A=>?_
  rw [kr,qj w j A]
  simp [zn,mem]
theorem zqL {i r c:Nat} (hi:i<M64) (u:r<M64) (j:c<M64):RightK (znP i r c):=fun f a=>by
 simp only [znP,List.mem_singleton] at a
 subst a
 exact⟨qG (Nat.le_refl _) hi,(zkS u j).right⟩
theorem zqW {i r c:Nat} (w:r<M64) (j:c<M64):vx (znP i r c)=true:=by
 have hb:=zoD w j
 rw [Z3]
 refine⟨fun f a=>?_,by simp [znP]⟩
 simp only [znP,List.mem_singleton] at a
 subst a
 refine⟨by simp,vw.2 ⟨fun e u=>?_,?_⟩⟩
 ·have:=hb.2.2 e u;omega
 ·show (zl9 r c).length<=20
  have:=hb.2.1;omega
theorem zoH:SmV []:=⟨zmg,by simp,fun e h=>by cases h⟩
theorem znJ {C:Nat->List Nat} {R:List Nat} {n:Nat} (k:List Fg) (i r c:Nat) (u:r<M64) (j:c<M64) (hk:Kn C R n k) (w:Kn C R n (znP i r c)) (ok:OkX C R) (y:n<=40000):Cn Tryz.prog 34 [kp k,.v (.int .u64 i),.v (.int .u64 r),.v (.int .u64 c)] (.tup [kp (vh zn k (znP i r c)),.v .nilIface]):=by
 have a:=zoX [] r c zoH u j
 rw [zoC u j] at a
 refine zt Tryz.func34 4 ?_
 refine pw ?_
 (first | refine .c (a) ?_ | refine .o (a) ?_)
 exact .d (knowUnion_c k (znP i r c) hk w ok y)
theorem znK (a b:List Fg) (ra:RightK a) (w:SzK a) (hb:BdK b) (hz:SzK b) (u:(ckK b).1≠0):Cn Tryz.prog 22 [kp a,kp b] (.tup [kp [],zou znM (ckK b)]):=by
 have j:=znG a b 71 ra w hb hz u
 refine zt Tryz.func22 2 ?_
 refine pw ?_
 (first | exact .d (j) | exact .q (j))
def k14:List Fg:=[⟨[⟨3,3⟩],[⟨7,0,[]⟩]⟩]
theorem znY:CanV [⟨7,0,[]⟩]:=⟨by simp [YP,zO,zw,Nrm,NF],by simp⟩
theorem znW:znP 3 7 0=k14:=by
 have j:(7:Nat)<M64:=by rw [zw];decide
 have a:(0:Nat)<M64:=by rw [zw];decide
 unfold znP k14
 rw [Zk (zkS j a) znY fun r=>by rw [zoE j a,qm,kr,zps]]
theorem zkJ:CanK k14:=by
 refine⟨⟨fun f a=>?_,by simp [k14]⟩,by simp [k14,xh]⟩
 simp only [k14,List.mem_singleton] at a
 subst a
 exact⟨znY,by simp,by simp [Nrm,NF,zw],by simp⟩
theorem zoN:vx k14=true:=by decide
theorem zpl:vh zn [] k14=k14:=znD rfl zic zkJ.right zkJ fun i r x _ _=>by rw [zcY];simp [zn]
theorem zpm:vh zn k14 []=k14:=znD rfl zkJ.right zic zkJ fun i r x _ _=>by rw [zcY];simp [zn]
theorem zpn:vh zm k14 k14=[]:=(V0 zkJ.right zkJ.right).2 fun _ _ _ _ _ h=>h
theorem zpp:hasK k14 3 7 0=true:=by
 rw [zfo zkJ.right]
 exact⟨_,by simp [k14];rfl,by simp [mem],_,by simp;rfl,rfl,by rw [zps];simp [mem]⟩
def zma:List Fg:=[⟨[⟨2,1⟩],[]⟩]
theorem zpk:ckK zma=(2,0):=by decide
theorem zpj:BdK zma:=⟨by simp [zma,BdF,BdR,zw],by simp [zma]⟩
theorem zpA:SzK zma:=⟨by simp [zma],by simp [zma]⟩
theorem zn2:Cn Tryz.prog 21 [] (.v (.bool true)):=by
 have G:(7:Nat)<M64:=by rw [zw];decide
 have F:(0:Nat)<M64:=by rw [zw];decide
 have j:Kn (CKL [k14,[]]) (RKL [k14,[]]) 240 k14:=Kn.all (by simp) zoN zkJ.right
 have kn:Kn (CKL [k14,[]]) (RKL [k14,[]]) 240 []:=Kn.all (by simp) (by decide) zic
 have ok:OkX (CKL [k14,[]]) (RKL [k14,[]]):=zam (by simp) fun k hk=>by
  simp at hk
  rcases hk with rfl | rfl
  ·exact⟨zoN,zkJ.right⟩
  ·exact⟨by decide,zic⟩
 have C:=j.z (by omega)
 have u:=znJ [] 3 7 0 G F kn (by rw [znW];exact j) ok (by omega)
 rw [znW,zpl] at u
 have w:=znK k14 zma zkJ.right C zpj zpA (by rw [zpk];decide)
 rw [zpk] at w
 have y:=knowUnion_c k14 [] j kn ok (by omega)
 rw [zpm] at y
 have A:=vD k14 k14 j j ok (by omega)
 rw [zpn] at A
 have B:=zn6 k14 3 7 0 zkJ.right C F
 rw [zpp] at B
 have a:=zfq k14 k14 C
 rw [decide_eq_true rfl] at a
 have E:=zom znM (2,0) (by decide) (by decide) (by decide)
 have hs:((znM++zoq++zn4 2).toList == (ByteArray.mk (Array.mk [114,105,103,104,116,58,32,101,114,114,111,114,32,50])).toList)=true:=by kernel_rfl
 refine zt Tryz.func21 0 ?_
 refine pw ?_
 (first | refine .c (u) ?_ | refine .o (u) ?_)
 (first | refine .c (w) ?_ | refine .o (w) ?_)
 (first | refine .c (y) ?_ | refine .o (y) ?_)
 (first | refine .c (A) ?_ | refine .o (A) ?_)
 (first | refine .c (B) ?_ | refine .o (B) ?_)
 (first | refine .c (a) ?_ | refine .o (a) ?_)
 refine .mk zn8 ?_
 (first | refine .c (E) ?_ | refine .o (E) ?_)
 refine⟨by decide,?_⟩
 try simp (maxSteps:=2000000) (disch:=omega) only [go_sem,seval,hs]
 repeat ((with_reducible refine And.intro ?_ ?_);focus exact yI)
 (first | exact .d (a) | exact .q (a))
theorem zoc (l:List (List Fg)) (hl:l.length<=100) (hb:∀ k ∈ l,BdK k):Cn Tryz.prog 20 [.sl (l.map fun k=>[kp k]) .sh] (.v (.bool (l.all vx))):=by
 refine zt Tryz.func20 1 ?_
 refine pw ?_
 refine pLoop.go (fun j=>j<=l.length/\l.all vx=(l.drop j).all vx) (fun j=>[(7,.v (.int .i64 (j:Nat)))]) (fun _=>[]) (fun j=>l.length - j) 0 [7] ?_ ?_ ?_
 ·exact⟨Nat.zero_le _,rfl⟩
 ·exact pd
 ·rintro j ⟨y,a⟩
  refine pw ?_
  refine .i ?_ ?_<;>intro h<;>(try simp only [nrm_l] at h)<;>first | refine pw ?_ | exact pd
  ·have w:(l.drop j).all vx=(vx l[j] && (l.drop (j+1)).all vx):=by rw [List.drop_eq_getElem_cons h];rfl
   rw [w] at a
   refine .c (zc8 l[j] (hb _ (List.getElem_mem h))) ?_
   refine .i ?_ ?_<;>intro u<;>(try simp only [nrm_l] at u)<;>first | refine pw ?_ | exact pd
   ·rw [a,u]
    rfl
   ·rw [u,Bool.true_and] at a
    exact⟨j+1,⟨h,a⟩,by omega,rfl⟩
  ·rw [a,List.drop_of_length_le (by omega)]
   rfl
theorem zo2:∀(l:List Iv) (p:Option Iv) (i:Nat),(QZ p l i).1<=9
 | [],p,i=>by simp [QZ]
 | s::l,p,i=>by
   have ih:=zo2 l (some s) (i+1)
   unfold QZ
   repeat' split
   all_goals first | exact ih | (simp;done) | omega
theorem zqN (m:Nat):∀(l:List Iv) (i:Nat),(hk m l i).1<=9
 | [],i=>by simp [hk]
 | s::l,i=>by
   have ih:=zqN m l (i+1)
   unfold hk
   split
   ·simp
   ·exact ih
theorem zqz (e:En):(yV e).1<=9:=by
 unfold yV
 split
 ·exact zqN _ _ _
 ·exact zo2 _ _ _
theorem zqj (v:List En):∀(r:List En) (k:Nat),(hkV v k r).1<=9
 | [],k=>by simp [hkV]
 | e::r,k=>by
   have ih:=zqj v r (k+1)
   have a:=zqz e
   unfold hkV
   split
   ·exact a
   ·split
    ·simp
    ·exact ih
theorem zqi:∀(r:List Fg) (k:Nat),(hkK k r).1<=9
 | [],k=>by simp [hkK]
 | f::r,k=>by
   have ih:=zqi r (k+1)
   have a:=zo2 f.items none 0
   have j:=zqj f.vec f.vec 0
   unfold hkK
   split
   ·exact a
   ·split
    ·exact j
    ·exact ih
theorem zqh (k:List Fg):(ckK k).1<=9:=zqi k 0
theorem zo1 {D:Nat->Nat->Prop} {w:World} {v:Value} {s:ByteArray} {c k:Int} {t a:TypeId} (h:Dat D w v (.ifc t (.agg [.v (.string s),.ifc a (.agg [.v (.int .i64 c),.v (.int .i64 k)])]))):v=.iface t (.agg #[.string s,.iface a (.agg #[.int .i64 c,.int .i64 k])]):=by
 cases h with
 | ifc t x p h=>
   generalize u:[PV.v (.string s),PV.ifc a (.agg [.v (.int .i64 c),.v (.int .i64 k)])]=cs at h
   cases h with
   | agg us cs hs _ h=>
     subst u
     obtain⟨l⟩:=us
     match l,hs with
     | [x,y],_=>
       have j:=(Rel.dat (ρ:=fun _=>0) (nb:=0) (h 0 _ rfl)).v_inv
       have e1:=zaX (h 1 _ rfl)
       simp at j e1
       rw [j,e1]
theorem zok (s:ByteArray) (x:Nat × Int) (hs:s.size<=1000) (B:x.1≠0) (E:x.1<=9):Cn Tryz.prog 37 [zou s x,.v (.int .i64 x.1),.v (.int .i64 x.2),.v (.string s)] (.v (.int .i64 1)):=by
 unfold zou
 rw [zmb B]
 refine KK rfl (enters_of Tryz.func37 (by kernel_rfl) rfl) fun D w C F G j a=>?_
 have d0:=zo1 (a 0 _ rfl)
 have u:=(Rel.dat (ρ:=fun _=>0) (nb:=0) (a 1 _ rfl)).v_inv
 have y:=(Rel.dat (ρ:=fun _=>0) (nb:=0) (a 2 _ rfl)).v_inv
 have A:=(Rel.dat (ρ:=fun _=>0) (nb:=0) (a 3 _ rfl)).v_inv
 have e:C=#[.iface 150 (.agg #[.string s,.iface 120 (.agg #[.int .i64 x.1,.int .i64 x.2])]),.int .i64 x.1,.int .i64 x.2,.string s]:=by
  obtain⟨l⟩:=C
  match l,j with
  | [p,q,r,t],_=>
    simp at d0 u y A
    rw [d0,u,y,A]
 rw [e]
 refine(zq0 s x.1 x.2 w F hs B E).mono ?_
 rintro e H ⟨rfl,hb⟩
 exact⟨_,rfl,hb,.v _⟩
def zoP (a b:List Fg):Nat × Int × ByteArray:=if (ckK a).1≠0 then ((ckK a).1,(ckK a).2,zot) else if (ckK b).1≠0 then ((ckK b).1,(ckK b).2,znM) else (0,-1,⟨#[]⟩)
theorem zpd (a b:List Fg) (w:BdK a) (hb:BdK b) (y:HlK a) (A:HlK b):Cn Tryz.prog 25 [kp a,kp b] (.tup [.v (.int .i64 (zoP a b).1),.v (.int .i64 (zoP a b).2.1),.v (.string (zoP a b).2.2)]):=by
 unfold zoP
 refine zt Tryz.func25 2 ?_
 refine pw ?_
 refine .c (znL a w y) ?_
 refine .i ?_ ?_<;>intro j<;>(try simp only [nrm_l] at j)<;>first | refine pw ?_ | exact pd
 ·rw [if_pos j]
  rfl
 ·rw [if_neg (by omega)]
  refine .c (znL b hb A) ?_
  refine .i ?_ ?_<;>intro u<;>(try simp only [nrm_l] at u)<;>first | refine pw ?_ | exact pd
  ·rw [if_pos u]
   rfl
  ·rw [if_neg (by omega)]
   rfl
theorem zp7 (a b:List Fg) (hb:BdK a) (hz:SzK a) (u:(ckK a).1≠0):Cn Tryz.prog 22 [kp a,kp b] (.tup [kp [],zou zot (ckK a)]):=by
 have j:=zos a b 71 hb hz u
 refine zt Tryz.func22 2 ?_
 refine pw ?_
 (first | exact .d (j) | exact .q (j))
theorem zpe (a b:List Fg) (hb:BdK a) (hz:SzK a) (u:(ckK a).1≠0):Cn Tryz.prog 23 [kp a,kp b] (.tup [kp [],zou zot (ckK a)]):=by
 have j:=zos a b 72 hb hz u
 refine zt Tryz.func23 2 ?_
 refine pw ?_
 (first | exact .d (j) | exact .q (j))
theorem zpf (a b:List Fg) (ra:RightK a) (w:SzK a) (hb:BdK b) (hz:SzK b) (u:(ckK b).1≠0):Cn Tryz.prog 23 [kp a,kp b] (.tup [kp [],zou znM (ckK b)]):=by
 have j:=znG a b 72 ra w hb hz u
 refine zt Tryz.func23 2 ?_
 refine pw ?_
 (first | exact .d (j) | exact .q (j))
theorem zo8 (a b:List Fg) (hb:BdK a) (hz:SzK a) (u:(ckK a).1≠0):Cn Tryz.prog 28 [kp a,kp b] (.tup [kp [],zou zot (ckK a)]):=by
 have j:=zos a b 81 hb hz u
 refine zt Tryz.func28 2 ?_
 refine pw ?_
 (first | exact .d (j) | exact .q (j))
theorem zo9 (a b:List Fg) (ra:RightK a) (w:SzK a) (hb:BdK b) (hz:SzK b) (u:(ckK b).1≠0):Cn Tryz.prog 28 [kp a,kp b] (.tup [kp [],zou znM (ckK b)]):=by
 have j:=znG a b 81 ra w hb hz u
 refine zt Tryz.func28 2 ?_
 refine pw ?_
 (first | exact .d (j) | exact .q (j))
theorem zrf (a b:List Fg) (G:BdK a) (hb:BdK b):Cn Tryz.prog 9 [kp a,kp b] (.v (.bool true)):=by
 have hs:=zoc [a,b] (by simp) (fun k hk=>by
  simp at hk
  rcases hk with rfl | rfl<;>assumption)
 obtain⟨s,M⟩:∃ s,s=[a,b].all vx:=⟨_,rfl⟩
 rw [<-M] at hs
 have al:=zn2
 refine zt Tryz.func9 2 ?_
 refine pw ?_
 (first | refine .c (hs) ?_ | refine .o (hs) ?_)
 cases s with
 | false=>
   refine pw ?_
   (first | exact .d (al) | exact .q (al))
 | true=>
   have B:vx a=true/\vx b=true:=by simpa using M.symm
   have A:=zcS B.1
   have H:=zcS B.2
   have u:=zpd a b G hb A.hl H.hl
   unfold zoP at u
   by_cases w:(ckK a).1≠0
   ·rw [if_pos w] at u
    have C:=zp7 a b G A w
    have E:=zpe a b G A w
    have F:=zo8 a b G A w
    have j:=zok zot (ckK a) (by decide) w (zqh a)
    have I:decide ((ckK a).1=0)=false:=decide_eq_false w
    refine pw ?_
    (first | refine .c (C) ?_ | refine .o (C) ?_)
    (first | refine .c (E) ?_ | refine .o (E) ?_)
    (first | refine .c (F) ?_ | refine .o (F) ?_)
    (first | refine .c (u) ?_ | refine .o (u) ?_)
    try simp (maxSteps:=2000000) (disch:=omega) only [go_sem,seval,I]
    repeat ((with_reducible refine And.intro ?_ ?_);focus exact yI)
    (first | refine .c (al) ?_ | refine .o (al) ?_)
    (first | refine .c (j) ?_ | refine .o (j) ?_)
    (first | refine .c (j) ?_ | refine .o (j) ?_)
    (first | exact .d (j) | exact .q (j))
   ·have e1:(ckK a).1=0:=by omega
    have ra:=(ZN G).1 e1
    rw [if_neg w] at u
    by_cases y:(ckK b).1≠0
    ·rw [if_pos y] at u
     have C:=znK a b ra A hb H y
     have E:=zpf a b ra A hb H y
     have F:=zo9 a b ra A hb H y
     have j:=zok znM (ckK b) (by decide) y (zqh b)
     have I:decide ((ckK b).1=0)=false:=decide_eq_false y
     refine pw ?_
     (first | refine .c (C) ?_ | refine .o (C) ?_)
     (first | refine .c (E) ?_ | refine .o (E) ?_)
     (first | refine .c (F) ?_ | refine .o (F) ?_)
     (first | refine .c (u) ?_ | refine .o (u) ?_)
     try simp (maxSteps:=2000000) (disch:=omega) only [go_sem,seval,I]
     repeat ((with_reducible refine And.intro ?_ ?_);focus exact yI)
     (first | refine .c (al) ?_ | refine .o (al) ?_)
     (first | refine .c (j) ?_ | refine .o (j) ?_)
     (first | refine .c (j) ?_ | refine .o (j) ?_)
     (first | exact .d (j) | exact .q (j))
    ·have e2:(ckK b).1=0:=by omega
     have rb:=(ZN hb).1 e2
     rw [if_neg y] at u
     have ok:OkX (CKL [a,b]) (RKL [a,b]):=zam (by simp) fun k hk=>by
      simp at hk
      rcases hk with rfl | rfl
      ·exact⟨B.1,ra⟩
      ·exact⟨B.2,rb⟩
     have ka:Kn (CKL [a,b]) (RKL [a,b]) 240 a:=Kn.all (by simp) B.1 ra
     have kb:Kn (CKL [a,b]) (RKL [a,b]) 240 b:=Kn.all (by simp) B.2 rb
     have T:=ka.do (f:=zn) rfl kb ok
     have S:=ka.do (f:=y5) rfl kb ok
     have Q:=ka.do (f:=zm) rfl kb ok
     have N:Cn Tryz.prog 40 [kp a,kp b,.v (.int .i64 0)] (kp (vh zn a b)):=YG a b 0 (by omega) ka kb ok (by omega)
     have O:Cn Tryz.prog 40 [kp a,kp b,.v (.int .i64 1)] (kp (vh y5 a b)):=YG a b 1 (by omega) ka kb ok (by omega)
     have P:Cn Tryz.prog 40 [kp a,kp b,.v (.int .i64 2)] (kp (vh zm a b)):=YG a b 2 (by omega) ka kb ok (by omega)
     have J:=zfq (vh zn a b) (vh zn a b) (T.z (by omega))
     have K:=zfq (vh y5 a b) (vh y5 a b) (S.z (by omega))
     have L:=zfq (vh zm a b) (vh zm a b) (Q.z (by omega))
     rw [decide_eq_true rfl] at J K L
     refine pw ?_
     refine .c (knowUnion_c a b ka kb ok (by omega)) ?_
     refine .c (JP a b ka kb ok (by omega)) ?_
     refine .c (vD a b ka kb ok (by omega)) ?_
     (first | refine .c (u) ?_ | refine .o (u) ?_)
     (first | refine .c (al) ?_ | refine .o (al) ?_)
     (first | refine .c (N) ?_ | refine .o (N) ?_)
     (first | refine .c (J) ?_ | refine .o (J) ?_)
     (first | refine .c (O) ?_ | refine .o (O) ?_)
     (first | refine .c (K) ?_ | refine .o (K) ?_)
     (first | refine .c (P) ?_ | refine .o (P) ?_)
     (first | exact .d (L) | exact .q (L))
structure Ok14 (a b:List Fg):Prop where
 ra:RightK a
 rb:RightK b
 ka:Kn (CKL [a,b]) (RKL [a,b]) 240 a
 kb:Kn (CKL [a,b]) (RKL [a,b]) 240 b
 ok:OkX (CKL [a,b]) (RKL [a,b])
theorem Kn.proj {C:Nat->List Nat} {R:List Nat} {n m:Nat} {k:List Fg} {items:List Iv} (h:Kn C R n k) (hi:Nrm items) (A:2 * n+2 * (k.length * items.length)<=m):Kn C R m (zl5 k items):=by
 have u:=zoG hi h.r
 have w:=h.m
 have y:=h.l
 refine⟨znX h.r hi,fun g j=>?_,fun g j=>?_,by omega,?_⟩
 ·obtain⟨f,a,rfl⟩:=List.mem_map.1 j
  exact h.ik f a
 ·obtain⟨f,a,rfl⟩:=List.mem_map.1 j
  exact h.s f a
 ·unfold zl5
  rw [List.length_map]
  omega
theorem zqu {C:Nat->List Nat} {R:List Nat} {n:Nat} (k:List Fg) (h:Kn C R n k) (ok:OkX C R) (a:n<=40000):Cn Tryz.prog 99 [kp k] (kp (zbx k)):=by
 show Cn Tryz.prog 99 [kp k] (kp (zL (jq k)))
 refine zt Tryz.func99 1 ?_
 refine pw ?_
 refine .c (zqk k (h.ok12 ok (by omega))) ?_
 exact .d (Kc (jq k) (h.refine ok) ok (by omega))
theorem zqM (k:List Fg) (items:List Iv) {j:Nat} (h:j<k.length):((zl5 k items).take (j+1)).map fc=((zl5 k items).take j).map fc++[fc ⟨qy y5 k[j].items items,k[j].vec⟩]:=by
 have hl:(zl5 k items).length=k.length:=List.length_map _
 have a:(zl5 k items)[j]'(by omega)=⟨qy y5 k[j].items items,k[j].vec⟩:=List.getElem_map _
 rw [List.take_succ_eq_append_getElem (by omega),List.map_append,a]
 rfl
theorem zqc {C:Nat->List Nat} {R:List Nat} {n m:Nat} (k:List Fg) (items:List Iv) (hk:Kn C R n k) (hi:Nrm items) (A:items.length<=100000) (G:Kn C R m (zl5 k items)) (ok:OkX C R) (J:n<=100000) (F:m<=40000):Cn Tryz.prog 43 [kp k,rg items] (kp (znF k items)):=by
 have B:=hk.l
 have w:=zqu (zl5 k items) G ok F
 have H:(zl5 k items).length=k.length:=List.length_map _
 refine zt Tryz.func43 2 ?_
 refine pw ?_
 refine pLoop.go (fun j=>j<=k.length) (fun j=>[(5,.sl (((zl5 k items).take j).map fc) (.r 28 2)),(6,.v (.int .i64 (j:Nat)))]) (fun _=>[]) (fun j=>k.length - j) 0 [5,6] ?_ ?_ ?_
 ·exact Nat.zero_le _
 ·exact pd
 ·rintro j I
  refine pw ?_
  refine .i ?_ ?_<;>intro h<;>(try simp only [nrm_l] at h)<;>first | refine pw ?_ | exact pd
  ·have y:=zqM k items h
   have u:=List.getElem_mem h
   have E:k[j].items.length<=100000:=by have:=yv u;have:=hk.m;omega
   refine .c (zqZ k[j].items items (hk.r _ u).1 hi (by omega) (by omega)) ?_
   refine cutP.full rfl ?_ rfl ?_ ?_
   ·exact pd
   ·exact pd
   ·refine pw ?_
    exact⟨j+1,h,by omega,y.symm,rfl⟩
  ·have a:Cn Tryz.prog 99 [.sl (((zl5 k items).take j).map fc) .sh] (kp (znF k items)):=by rw [List.take_of_length_le (by omega)];exact w
   (first | exact .d (a) | exact .q (a))
def zqQ:ByteArray:=⟨#[105,116,101,109,115]⟩
def zq9 (k:List Fg) (l:List Iv):Nat × Int × ByteArray:=if (ckK k).1≠0 then ((ckK k).1,(ckK k).2,zot) else if (Zl l).1≠0 then ((Zl l).1,(Zl l).2,zqQ) else (0,-1,⟨#[]⟩)
theorem zra (k:List Fg) (l:List Iv) (hb:BdK k) (u:HlK k) (hl:l.length<=9223372036854775807) (w:∀ s ∈ l,s.lo<M64/\s.hi<M64):Cn Tryz.prog 42 [kp k,rg l] (.tup [.v (.int .i64 (zq9 k l).1),.v (.int .i64 (zq9 k l).2.1),.v (.string (zq9 k l).2.2)]):=by
 unfold zq9
 refine zt Tryz.func42 2 ?_
 refine pw ?_
 refine .c (znL k hb u) ?_
 refine .i ?_ ?_<;>intro a<;>(try simp only [nrm_l] at a)<;>first | refine pw ?_ | exact pd
 ·rw [if_pos a]
  rfl
 ·rw [if_neg (by omega)]
  refine .c (XO l hl w) ?_
  refine .i ?_ ?_<;>intro j<;>(try simp only [nrm_l] at j)<;>first | refine pw ?_ | exact pd
  ·rw [if_pos j]
   rfl
  ·rw [if_neg (by omega)]
   rfl
end Go.Proofs.YtonhfknjcbakiaaGreatDoor
namespace Go.Proofs.YtonhfknjcbakiaaGreatDoor
open Go.RowKit
attribute [-go_sem] nat_succ zae zaf Vr
theorem zqO {C:Nat->Nat->Prop} {w0 w:World} {l:List Iv} {v:Value} (A:∀ s ∈ l,s.lo<M64/\s.hi<M64) (hl:l.length<=1152921504606846976) (E:(Zl l).1≠0) (M:Dat C w0 v (rg l)) (H:∀ b o,C b o->b<w0.heap.size) (L:GL C w0) (hb:Below w0.heap.size w0 w) :
 Calls Tryz.prog 79 #[v] w fun e K=>e=.returned (.iface 120 (.agg #[.int .i64 (Zl l).1,.int .i64 (Zl l).2]))/\Below w.heap.size w K:=by
 have I:=VO l A hl (.inr (KL 2))
 rw [zmb E] at I
 have J:∀ b o x,C b o->w0.cell? ⟨b,o,none⟩=some x->w.cell? ⟨b,o,none⟩=some x:=fun b o x h N=>(World.cell?_of_block (a:=⟨b,o,none⟩) (hb.block b (H b o h))).trans N
 refine(jP (D:=C) I (L.mono (fun _ _ h=>h) J) (fun b o h=>Nat.lt_of_lt_of_le (H b o h) hb.size) rfl (fun i p j=>?_)).mono ?_
 ·match i,j with
  | 0,j=>cases j;exact M.mono (fun _ _ h=>h) J
  | i+1,j=>simp at j
 ·rintro e K ⟨u,rfl,y,B⟩
  refine⟨?_,y⟩
  cases B with
  | ifc t x p h=>
    cases h with
    | agg vs cs hs h1 h=>
      have F:=(Rel.dat (ρ:=fun _=>0) (nb:=0) (h 0 _ rfl)).v_inv
      have G:=(Rel.dat (ρ:=fun _=>0) (nb:=0) (h 1 _ rfl)).v_inv
      obtain⟨l⟩:=vs
      match l,hs with
      | [p,q],_=>
        simp at F G
        rw [F,G]
theorem zp0 (k:List Fg) (l:List Iv) (ra:RightK k) (za:SzK k) (hb:∀ s ∈ l,s.lo<M64/\s.hi<M64) (hl:l.length<=1152921504606846976) (hw:(Zl l).1≠0):Cn Tryz.prog 27 [kp k,rg l] (.tup [kp [],zou zqQ (Zl l)]):=by
 unfold zou
 rw [zmb hw]
 refine yZ rfl (enters_of Tryz.func27 (by kernel_rfl) rfl) fun D w I V U M Z=>?_
 have d0:Dat D w (I.getD 0 undef) (kp k):=Z 0 _ rfl
 have P:Dat D w (I.getD 1 undef) (rg l):=Z 1 _ rfl
 obtain⟨v0,a⟩:∃ v0,v0=I.getD 0 undef:=⟨_,rfl⟩
 obtain⟨v1,y⟩:∃ v1,v1=I.getD 1 undef:=⟨_,rfl⟩
 rw [<-a] at d0
 rw [<-y] at P
 obtain rfl:I=#[v0,v1]:=by
  obtain⟨l⟩:=I
  match l,M with
  | [p,q],_=>
    simp at a y
    rw [a,y]
 clear a y M Z
 obtain⟨aa,ca,rfl,_,_⟩:=zl4 d0
 obtain⟨ab,cb,rfl⟩:=zK P
 have Q:=Lib.hid (fun W (X:Below w.heap.size w W)=>KH ra za d0 U V X)
 have S:=Lib.hid (fun W (X:Below w.heap.size w W)=>zqO hb hl hw P U V X)
 clear d0 P U V hb ra za
 have A:True:=trivial
 have B:True:=trivial
 have C:True:=trivial
 go_enter_defers Tryz.func27,Tryz.ntmps27
 go_wp2_with (first
  | (go_at_call 54;have _t:=A;refine(Q.out _ ((Below.refl _ _).alloc (Nat.le_refl _) _)).mono ?_;rintro e w1 ⟨rfl,F⟩
     have N:Boxed w1 w.heap.size 44 .nilIface:=(F.block _ (by simp)).trans (World.alloc_heap_new w _)
     have K:=Lib.hid N
     have E:=Lib.hid (((Below.refl _ w).alloc (Nat.le_refl _) _).trans (F.mono (by simp)))
     clear F N A)
  | (go_at_call 78;have _t:=C;refine(zdp _ _).mono ?_;rintro e w' ⟨⟨u,rfl⟩,rfl⟩;clear C)
  | (go_at_call 79;have _t:=B;refine(S.out _ E.out).mono ?_;rintro e w2 ⟨rfl,G⟩
     have O:Boxed w2 w.heap.size 44 .nilIface:=(G.block _ K.out.lt).trans K.out
     have T:=Lib.hid O
     have J:=Lib.hid (E.out.trans (G.mono E.out.size))
     clear G O B)
  | (go_at_call 78;refine(zn9 _ _ _ _).mono ?_;rintro e w' ⟨rfl,rfl⟩
     refine leaves_cons (f := 77) (args:=#[.pointer (some ⟨w.heap.size,0,none⟩)]) (by simp) (by simp [go_sem]) ?_
     refine(znO w.heap.size .nilIface _ _ _ _ T.out).mono ?_
     rintro e u' ae ⟨rfl,rfl,Y,ac⟩
     have ad:=Y.cell
     have hs:=J.out.size
     have L:Below w.heap.size w ae:=J.out.trans (ac.below hs (fun k hk e=>by omega))
     simp [Leaves,settle,results,Tryz.results27,go_sem,ad]
     refine⟨L,.tup _ _ rfl fun j p H=>?_⟩
     match j,H with
     | 0,H=>cases H;exact zog
     | 1,H=>cases H;exact .ifc _ _ _ (znT (.v _) (.ifc _ _ _ (znT (.v _) (.v _) rfl rfl)) rfl rfl)
     | j+2,H=>simp at H)
  | go_in)
theorem zqa (k:List Fg) (l:List Iv) (hb:BdK k) (hz:SzK k) (U:(ckK k).1≠0):Cn Tryz.prog 27 [kp k,rg l] (.tup [kp [],zou zot (ckK k)]):=by
 unfold zou
 rw [zmb U]
 refine yZ rfl (enters_of Tryz.func27 (by kernel_rfl) rfl) fun D w H S Q F T=>?_
 have d0:Dat D w (H.getD 0 undef) (kp k):=T 0 _ rfl
 obtain⟨N,a⟩:∃ N,N=H.getD 0 undef:=⟨_,rfl⟩
 obtain⟨O,B⟩:∃ O,O=H.getD 1 undef:=⟨_,rfl⟩
 rw [<-a] at d0
 obtain rfl:H=#[N,O]:=by
  obtain⟨l⟩:=H
  match l,F with
  | [p,q],_=>
    simp at a B
    rw [a,B]
 clear a B F T
 obtain⟨aa,ca,rfl,_,_⟩:=zl4 d0
 have I:=Lib.hid (fun W (V:Below w.heap.size w W)=>zn3 hb hz U d0 Q S V)
 clear d0 Q S hb hz
 have u:True:=trivial
 go_enter_defers Tryz.func27,Tryz.ntmps27
 go_wp2_with (first
  | (go_at_call 54;have Y:=u;refine(I.out _ ((Below.refl _ _).alloc (Nat.le_refl _) _)).mono ?_;rintro e X ⟨rfl,y⟩
     have G:Boxed X w.heap.size 44 .nilIface:=(y.block _ (by simp)).trans (World.alloc_heap_new w _)
     have J:=Lib.hid G
     have C:=Lib.hid (((Below.refl _ w).alloc (Nat.le_refl _) _).trans (y.mono (by simp)))
     clear y G u)
  | (go_at_call 78;refine(zn9 _ _ _ _).mono ?_;rintro e w' ⟨rfl,rfl⟩
     refine leaves_cons (f := 77) (args:=#[.pointer (some ⟨w.heap.size,0,none⟩)]) (by simp) (by simp [go_sem]) ?_
     refine(znO w.heap.size .nilIface _ _ _ _ J.out).mono ?_
     rintro e Z P ⟨rfl,rfl,K,L⟩
     have M:=K.cell
     have hs:=C.out.size
     have E:Below w.heap.size w P:=C.out.trans (L.below hs (fun k hk e=>by omega))
     simp [Leaves,settle,results,Tryz.results27,go_sem,M]
     refine⟨E,.tup _ _ rfl fun j p A=>?_⟩
     match j,A with
     | 0,A=>cases A;exact zog
     | 1,A=>cases A;exact .ifc _ _ _ (znT (.v _) (.ifc _ _ _ (znT (.v _) (.v _) rfl rfl)) rfl rfl)
     | j+2,A=>simp at A)
  | go_in)
end Go.Proofs.YtonhfknjcbakiaaGreatDoor
namespace Go.Proofs.YtonhfknjcbakiaaGreatDoor
open Go.RowKit
theorem zqb (k:List Fg) (l:List Iv) (x:Nat × Nat × Nat) (gk:BdK k) (gl:∀ s ∈ l,s.lo<M64/\s.hi<M64) (G:BdX x):Cn Tryz.prog 10 [kp k,rg l,xp x] (.v (.bool true)):=by
 have hs:=zoc [k] (by simp) (fun f j=>by
  simp at j
  rw [j]
  exact gk)
 obtain⟨s,Q⟩:∃ s,s=[k].all vx:=⟨_,rfl⟩
 rw [<-Q] at hs
 have al:=zn2
 refine zt Tryz.func10 3 ?_
 refine pw ?_
 (first | refine .c (hs) ?_ | refine .o (hs) ?_)
 cases s with
 | false=>
   refine pw ?_
   (first | exact .d (al) | exact .q (al))
 | true=>
   have j:vx k=true:=by simpa using Q.symm
   have H:=zcS j
   refine pw ?_
   refine .i ?_ ?_<;>intro I<;>(try simp only [nrm_l] at I)<;>first | refine pw ?_ | exact pd
   ·(first | exact .d (al) | exact .q (al))
   ·have a:=zra k l gk H.hl (by omega) gl
    unfold zq9 at a
    by_cases w:(ckK k).1≠0
    ·rw [if_pos w] at a
     have F:=zok zot (ckK k) (by decide) w (zqh k)
     have K:decide ((ckK k).1=0)=false:=decide_eq_false w
     refine .c (zqa k l gk H w) ?_
     (first | refine .c (a) ?_ | refine .o (a) ?_)
     try simp (maxSteps:=2000000) (disch:=omega) only [go_sem,seval,K]
     repeat ((with_reducible refine And.intro ?_ ?_);focus exact yI)
     (first | refine .c (al) ?_ | refine .o (al) ?_)
     (first | exact .d (F) | exact .q (F))
    ·rw [if_neg w] at a
     have e1:(ckK k).1=0:=by omega
     have u:=(ZN gk).1 e1
     by_cases A:(Zl l).1≠0
     ·rw [if_pos A] at a
      have F:=zok zqQ (Zl l) (by decide) A (zo2 l none 0)
      have K:decide ((Zl l).1=0)=false:=decide_eq_false A
      refine .c (zp0 k l u H gl (by omega) A) ?_
      (first | refine .c (a) ?_ | refine .o (a) ?_)
      try simp (maxSteps:=2000000) (disch:=omega) only [go_sem,seval,K]
      repeat ((with_reducible refine And.intro ?_ ?_);focus exact yI)
      (first | refine .c (al) ?_ | refine .o (al) ?_)
      (first | exact .d (F) | exact .q (F))
     ·rw [if_neg A] at a
      have e2:(Zl l).1=0:=by omega
      have hi:Nrm l:=(YT fun s hs=>(gl s hs).2).1 e2
      have ok:=zqC j u
      have N:=Kn.few j u
      have J:=(X3 j).1
      have S:k.length * l.length<=12 * 20:=Nat.mul_le_mul J (by omega)
      have L:Kn (CK k) (RK k) 960 (zl5 k l):=N.proj hi (by omega)
      have E:Kn (CK k) (RK k) 1921 (znF k l):=L.canon ok
      have cp:=zn1 u hi
      have sm:=zfq (znF k l) (znF k l) (E.z (by omega))
      rw [decide_eq_true rfl] at sm
      have C:=zn6 (znF k l) x.1 x.2.1 x.2.2 cp.right (E.z (by omega)) G.2.2
      rw [zof u hi G.1 G.2.2] at C
      have B:=kU l x.1 (by omega)
      have M:=zid k x.1 x.2.1 x.2.2 u G.2.2 H
      have O:=zoa k l N hi (by omega) L ok (by omega) (by omega)
      have P:=zqc k l N hi (by omega) L ok (by omega) (by omega)
      (first | refine .c (O) ?_ | refine .o (O) ?_)
      (first | refine .c (a) ?_ | refine .o (a) ?_)
      (first | refine .c (P) ?_ | refine .o (P) ?_)
      (first | refine .c (sm) ?_ | refine .o (sm) ?_)
      generalize mem l x.1=y at C B
      generalize hasK k x.1 x.2.1 x.2.2=z at C M
      (first | refine .c (C) ?_ | refine .o (C) ?_)
      (first | refine .c (al) ?_ | refine .o (al) ?_)
      cases y
      ·(first | exact .d (B) | exact .q (B))
      ·(first | refine .c (B) ?_ | refine .o (B) ?_)
       (first | exact .d (M) | exact .q (M))
end Go.Proofs.YtonhfknjcbakiaaGreatDoor
