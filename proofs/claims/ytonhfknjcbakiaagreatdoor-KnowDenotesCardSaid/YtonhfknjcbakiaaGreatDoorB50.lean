import Derived.Laws.Concat
import Derived.Test.YtonhfknjcbakiaaGreatDoorB28
import Derived.Test.YtonhfknjcbakiaaGreatDoorB49
set_option maxHeartbeats 16000000
set_option linter.unusedVariables false
set_option linter.unusedSimpArgs false
set_option maxRecDepth 100000
namespace Go.Proofs.YtonhfknjcbakiaaGreatDoor
open Go.RowKit
attribute [-go_sem] z7 zae zaf Vr
def zn4 (c:Nat):ByteArray:=⟨#[101,114,114,111,114,32,UInt8.ofNat (48+c)]⟩
theorem zoU (c:Nat) (hc:c<=9) (w:World):Calls Tryz.prog 50 #[.int .i64 c] w fun e w'=>e=.returned (.string (zn4 c))/\w'=w:=by
 have h10:c=0\/c=1\/c=2\/c=3\/c=4\/c=5\/c=6\/c=7\/c=8\/c=9:=by omega
 rcases h10 with rfl | rfl | rfl | rfl | rfl | rfl | rfl | rfl | rfl | rfl
 all_goals
  go_enter Tryz.func50,Tryz.ntmps50
  go_wp2
  apply wp_loop_once
  go_wp2
  refine bodyPost_ret (results_tmp rfl _ _ _) rfl ?_
  exact⟨by kernel_rfl,rfl⟩
theorem zoT (c:Nat) (hc:c<=9):Cn Tryz.prog 50 [.v (.int .i64 c)] (.v (.string (zn4 c))):=by
 refine Js rfl (enters_of Tryz.func50 (by kernel_rfl) rfl) fun D w vs hD hsz hd=>?_
 have d0:=(Rel.dat (ρ:=fun _=>0) (nb:=0) (hd 0 _ rfl)).v_inv
 obtain rfl:vs=#[.int .i64 c]:=by
  obtain⟨l⟩:=vs
  match l,hsz with
  | [p],_=>
    simp at d0
    rw [d0]
 refine(zoU c hc w).mono ?_
 rintro e w' ⟨rfl,rfl⟩
 exact⟨_,rfl,Below.refl _ _,.v _⟩
theorem zol {t:TypeId} {m:String} {f:FuncId} (h:∀(v:Value) (w:World),(method (Tryz.prog.types.size+Made.depth) t v m).run Tryz.prog w=.ok (f,v) w):Mth Tryz.prog t m f:=fun v args w=>by
 unfold callMethod
 simp only [Sem.run_bind,run_program,Result.andThen_ok,h]
theorem zn8:Mth Tryz.prog 150 "Error" 257 := zol fun v w=>by kernel_rfl
theorem zn7:Mth Tryz.prog 120 "Error" 255 := zol fun v w=>by kernel_rfl
end Go.Proofs.YtonhfknjcbakiaaGreatDoor
namespace Go.Proofs.YtonhfknjcbakiaaGreatDoor
open Go.RowKit
theorem zoi (c:Nat) (k:Int) (hc:c<=9):Cn Tryz.prog 255 [.agg [.v (.int .i64 c),.v (.int .i64 k)]] (.v (.string (zn4 c))):=by
 refine zt Tryz.func255 1 ?_
 refine pw ?_
 exact .d (zoT c hc)
def zoq:ByteArray:=⟨#[58,32]⟩
theorem zor:(⟨#[58,32]⟩:ByteArray).size=2:=rfl
theorem zoJ (c:Nat):(zn4 c).size=7:=rfl
theorem zom (s:ByteArray) (x:Nat × Int) (hs:s.size<=1000) (hne:x.1≠0) (hc:x.1<=9):Cn Tryz.prog 257 [.agg [.v (.string s),jS x.1 x.2]] (.v (.string (s++zoq++zn4 x.1))):=by
 rw [zmb hne]
 have z0:(Array.mk [(58:UInt8),32]).size=2:=rfl
 have z1:=zor
 have z2:=zoJ x.1
 have z3:(s++⟨#[58,32]⟩:ByteArray).size=s.size+2:=by rw [ByteArray.size_append,z1]
 refine zt Tryz.func257 1 ?_
 refine pw ?_
 refine .mk zn7 ?_
 refine .c (zoi x.1 x.2 hc) ?_
 rfl
theorem zqf (s:ByteArray) (c k:Int) (w:World) (hg:HG w):Calls Tryz.prog 94 #[.iface 150 (.agg #[.string s,.iface 120 (.agg #[.int .i64 c,.int .i64 k])]),.iface 127 (.pointer (some ⟨w.heap.size,0,none⟩))] (w.alloc (.cells #[.int .i64 0] 82))
 fun ev w'=>ev=.returned (.bool true)/\Below w.heap.size w w'/\w'.cell? ⟨w.heap.size,0,none⟩=some (.int .i64 c):=by
 refine(As.as_DN s c k ⟨w.heap.size,0,none⟩ (.int .i64 0) _ (hg.alloc _) (by simp) (by simp)).mono ?_
 rintro ev w' ⟨rfl,rfl⟩
 refine⟨rfl,?_,?_⟩
 ·refine Below.setCell (((((((((Below.refl _ w).alloc ?_ _).alloc ?_ _).alloc ?_ _).alloc ?_ _).alloc ?_ _).alloc ?_ _).alloc ?_ _)) ?_ _<;>simp<;>omega
 ·refine World.cell?_setCell_same _ _ _ (u:=.int .i64 0) ?_
  rw [World.cell?_alloc_lt _ _ ⟨w.heap.size,0,none⟩ (by simp;omega),World.cell?_alloc_lt _ _ ⟨w.heap.size,0,none⟩ (by simp;omega),World.cell?_alloc_lt _ _ ⟨w.heap.size,0,none⟩ (by simp;omega),World.cell?_alloc_lt _ _ ⟨w.heap.size,0,none⟩ (by simp;omega),World.cell?_alloc_lt _ _ ⟨w.heap.size,0,none⟩ (by simp;omega),World.cell?_alloc_lt _ _ ⟨w.heap.size,0,none⟩ (by simp)]
  simp
theorem zqS (s:ByteArray) (c k:Int) (w:World) (hg:HG w):Calls Tryz.prog 51 #[.iface 150 (.agg #[.string s,.iface 120 (.agg #[.int .i64 c,.int .i64 k])])] w fun e w'=>e=.returned (.int .i64 c)/\Below w.heap.size w w':=by
 go_enter Tryz.func51,Tryz.ntmps51
 go_wp2_with (go_at_call 94;refine(zqf s c k w hg).mono ?_;rintro e w1 ⟨rfl,hb,hc⟩)
 go_ret
 exact⟨rfl,hb⟩
theorem zqg (s:ByteArray) (c k:Int) (T:Nat) (W:World) (hg:HG W) (t0:W.cell? ⟨T,0,none⟩=some (.int .i64 0)) (t1:W.cell? ⟨T,1,none⟩=some (.int .i64 0)) (f0:W.frozen? ⟨T,0,none⟩=false) (f1:W.frozen? ⟨T,1,none⟩=false) :
 Calls Tryz.prog 94 #[.iface 150 (.agg #[.string s,.iface 120 (.agg #[.int .i64 c,.int .i64 k])]),.iface 123 (.pointer (some ⟨T,0,none⟩))] W
 fun ev w'=>ev=.returned (.bool true)/\Keep (fun b=>b=T) W w'/\w'.cell? ⟨T,0,none⟩=some (.int .i64 c)/\w'.cell? ⟨T,1,none⟩=some (.int .i64 k):=by
 have htl:T<W.heap.size:=World.block_lt_of_cell? W ⟨T,0,none⟩ t0
 refine(As.as_DF s c k T W hg (by rw [t0];rfl) (by rw [t1];rfl) f0 f1).mono ?_
 rintro ev w' ⟨rfl,rfl⟩
 obtain⟨W5,hW5,hk5⟩:∃ W5,W5=((((W.alloc (.cells #[.pointer (some ⟨T,0,none⟩)] 123)).alloc (.cells #[.pointer (some ⟨2,123,none⟩),.pointer (some ⟨W.heap.size,0,none⟩),.int .u64 150] 172)).alloc (.cells #[.pointer (some ⟨2,123,none⟩),.pointer (some ⟨W.heap.size,0,none⟩),.int .u64 150] 172)).alloc (.cells #[.string s,.iface 120 (.agg #[.int .i64 c,.int .i64 k])] 150)).alloc (.cells #[.int .i64 c,.int .i64 k] 120)/\Keep (fun b=>b=T) W W5:=
  ⟨_,rfl,(((((Keep.refl _ W).alloc _).alloc _).alloc _).alloc _).alloc _⟩
 have k5:Keep (fun _=>False) W W5:=by rw [hW5];exact(((((Keep.refl _ W).alloc _).alloc _).alloc _).alloc _).alloc _
 rw [<-hW5]
 have a0:=k5.cell_some t0 id
 have a1:=k5.cell_some t1 id
 unfold World.setCells World.setCells World.setCells
 have b1:(W5.setCell ⟨T,0,none⟩ (.int .i64 c)).cell? ⟨T,0,none⟩=some (.int .i64 c):=World.cell?_setCell_same _ _ _ a0
 have b2:(W5.setCell ⟨T,0,none⟩ (.int .i64 c)).cell? ⟨T,1,none⟩=some (.int .i64 0):=by rw [World.cell?_setCell_other _ _ _ _ (by simp)];exact a1
 refine⟨rfl,(hk5.setCell (fun _=>rfl) _).setCell (fun _=>rfl) _,?_,World.cell?_setCell_same _ _ _ b2⟩
 show ((W5.setCell ⟨T,0,none⟩ _).setCell ⟨T,0+1,none⟩ _).cell? _=_
 rw [World.cell?_setCell_other _ _ _ _ (by simp)]
 exact b1
end Go.Proofs.YtonhfknjcbakiaaGreatDoor
namespace Go.Proofs.YtonhfknjcbakiaaGreatDoor
open Go.RowKit
attribute [-go_sem] z7 zae zaf Vr
theorem HG.gl {w:World} (h:HG w):GL (fun b o=>b=0/\o=0) w:=fun x hx=>⟨⟨rfl,rfl⟩,by
 have e:zmw=some (.iface 217 (.agg #[.pointer (some ⟨2,44,none⟩)])):=rfl
 rw [e] at hx
 rw [<-Option.some.inj hx]
 exact h⟩
theorem HG.keep {w w':World} {T:Nat} (h:HG w) (hk:Keep (fun b=>b=T) w w') (hT:0<T):HG w':=hk.cell_some h (fun e=>by simp at e;omega)
theorem HG.below {w w':World} {n:Nat} (h:HG w) (hb:Below n w w') (hn:0<n):HG w':=(hb.cell (p:=⟨0,0,none⟩) hn).trans h
end Go.Proofs.YtonhfknjcbakiaaGreatDoor
namespace Go.Proofs.YtonhfknjcbakiaaGreatDoor
open Go.RowKit
attribute [go_sem] zou
def znP (i r c:Nat):List Fg:=[⟨[⟨i,i⟩],zl9 r c⟩]
theorem zmg:RightV []:=⟨fun e h=>(by cases h),List.Pairwise.nil⟩
theorem zic:RightK []:=fun f h=>by cases h
theorem zoC {r c:Nat} (hr:r<M64) (hc:c<M64):ks zn [] (zl9 r c)=zl9 r c:=
 zoY rfl zmg (zkS hr hc).right (zkS hr hc) fun x=>by
  have hn:=qi (zkS hr hc).right x
  have h0:Nrm []:=trivial
  refine Nrm.unique hn (qH h0 hn) fun y hy=>?_
  rw [knV_nil,qj h0 hn hy]
  simp [zn,mem]
theorem zoH:SmV []:=⟨zmg,by simp,fun e h=>by cases h⟩
theorem znJ {C:Nat->List Nat} {R:List Nat} {n:Nat} (k:List Fg) (i r c:Nat) (hr:r<M64) (hc:c<M64) (hk:Kn C R n k) (h1:Kn C R n (znP i r c)) (ok:OkX C R) (hn:n<=40000):Cn Tryz.prog 34 [kp k,.v (.int .u64 i),.v (.int .u64 r),.v (.int .u64 c)] (.tup [kp (vh zn k (znP i r c)),.v .nilIface]):=by
 have ha:=zoX [] r c zoH hr hc
 rw [zoC hr hc] at ha
 refine zt Tryz.func34 4 ?_
 refine pw ?_
 (first | refine .c (ha) ?_ | refine .o (ha) ?_)
 exact .d (xv k (znP i r c) hk h1 ok hn)
theorem znK (a b:List Fg) (ra:RightK a) (za:SzK a) (hb:BdK b) (hz:SzK b) (hw:(ckK b).1≠0):Cn Tryz.prog 22 [kp a,kp b] (.tup [kp [],zou znM (ckK b)]):=by
 have hd:=znG a b 71 ra za hb hz hw
 refine zt Tryz.func22 2 ?_
 refine pw ?_
 (first | exact .d (hd) | exact .q (hd))
def k14:List Fg:=[⟨[⟨3,3⟩],[⟨7,0,[]⟩]⟩]
theorem znY:CanV [⟨7,0,[]⟩]:=⟨by simp [YP,zO,zw,Nrm,NF],by simp⟩
theorem znW:znP 3 7 0=k14:=by
 have h7:(7:Nat)<M64:=by rw [zw];decide
 have h0:(0:Nat)<M64:=by rw [zw];decide
 unfold znP k14
 rw [Zk (zkS h7 h0) znY fun r=>by rw [zoE h7 h0,qm,knV_nil,zps]]
theorem zkJ:CanK k14:=by
 refine⟨⟨fun f hf=>?_,by simp [k14]⟩,by simp [k14,xh]⟩
 simp only [k14,List.mem_singleton] at hf
 subst hf
 exact⟨znY,by simp,by simp [Nrm,NF,zw],by simp⟩
theorem zoN:vx k14=true:=by decide
theorem zpl:vh zn [] k14=k14:=znD rfl zic zkJ.right zkJ fun i r x _ _=>by rw [zcY];simp [zn]
theorem zpm:vh zn k14 []=k14:=znD rfl zkJ.right zic zkJ fun i r x _ _=>by rw [zcY];simp [zn]
theorem zpn:vh zm k14 k14=[]:=(V0 zkJ.right zkJ.right).2 fun _ _ _ _ _ h=>h
theorem zpp:hasK k14 3 7 0=true:=by
 rw [zfo zkJ.right]
 exact⟨_,by simp [k14];rfl,by simp [mem],_,by simp;rfl,rfl,by rw [zps];simp [mem]⟩
def zma:List Fg:=[⟨[⟨2,1⟩],[]⟩]
theorem zpk:ckK zma=(2,0):=by decide
theorem zpj:BdK zma:=⟨by simp [zma,BdF,BdR,zw],by simp [zma]⟩
theorem zpA:SzK zma:=⟨by simp [zma],by simp [zma]⟩
theorem zn2:Cn Tryz.prog 21 [] (.v (.bool true)):=by
 have h7:(7:Nat)<M64:=by rw [zw];decide
 have h0:(0:Nat)<M64:=by rw [zw];decide
 have kk:Kn (CKL [k14,[]]) (RKL [k14,[]]) 240 k14:=Kn.all (by simp) zoN zkJ.right
 have kn:Kn (CKL [k14,[]]) (RKL [k14,[]]) 240 []:=Kn.all (by simp) (by decide) zic
 have ok:OkX (CKL [k14,[]]) (RKL [k14,[]]):=zam (by simp) fun k hk=>by
  simp at hk
  rcases hk with rfl | rfl
  ·exact⟨zoN,zkJ.right⟩
  ·exact⟨by decide,zic⟩
 have zk:=kk.z (by omega)
 have a1:=znJ [] 3 7 0 h7 h0 kn (by rw [znW];exact kk) ok (by omega)
 rw [znW,zpl] at a1
 have a2:=znK k14 zma zkJ.right zk zpj zpA (by rw [zpk];decide)
 rw [zpk] at a2
 have a3:=xv k14 [] kk kn ok (by omega)
 rw [zpm] at a3
 have a4:=vD k14 k14 kk kk ok (by omega)
 rw [zpn] at a4
 have a5:=zn6 k14 3 7 0 zkJ.right zk h0
 rw [zpp] at a5
 have a6:=zfq k14 k14 zk
 rw [decide_eq_true rfl] at a6
 have a7:=zom znM (2,0) (by decide) (by decide) (by decide)
 have hs:((znM++zoq++zn4 2).toList == (ByteArray.mk (Array.mk [114,105,103,104,116,58,32,101,114,114,111,114,32,50])).toList)=true:=by kernel_rfl
 refine zt Tryz.func21 0 ?_
 refine pw ?_
 (first | refine .c (a1) ?_ | refine .o (a1) ?_)
 (first | refine .c (a2) ?_ | refine .o (a2) ?_)
 (first | refine .c (a3) ?_ | refine .o (a3) ?_)
 (first | refine .c (a4) ?_ | refine .o (a4) ?_)
 (first | refine .c (a5) ?_ | refine .o (a5) ?_)
 (first | refine .c (a6) ?_ | refine .o (a6) ?_)
 refine .mk zn8 ?_
 (first | refine .c (a7) ?_ | refine .o (a7) ?_)
 refine⟨by decide,?_⟩
 try simp (maxSteps:=2000000) (disch:=omega) only [go_sem,seval,hs]
 repeat ((with_reducible refine And.intro ?_ ?_);focus exact yI)
 (first | exact .d (a6) | exact .q (a6))
theorem zoc (l:List (List Fg)) (hl:l.length<=100) (hb:∀ k ∈ l,BdK k):Cn Tryz.prog 20 [.sl (l.map fun k=>[kp k]) .sh] (.v (.bool (l.all vx))):=by
 refine zt Tryz.func20 1 ?_
 refine pw ?_
 refine pLoop.go (fun j=>j<=l.length/\l.all vx=(l.drop j).all vx) (fun j=>[(7,.v (.int .i64 (j:Nat)))]) (fun _=>[]) (fun j=>l.length - j) 0 [7] ?_ ?_ ?_
 ·exact⟨Nat.zero_le _,rfl⟩
 ·exact pd
 ·rintro j ⟨hj,hm⟩
  refine pw ?_
  refine .i ?_ ?_<;>intro h<;>(try simp only [nrm_l] at h)<;>first | refine pw ?_ | exact pd
  ·have hd:(l.drop j).all vx=(vx l[j] && (l.drop (j+1)).all vx):=by rw [List.drop_eq_getElem_cons h];rfl
   rw [hd] at hm
   refine .c (zc8 l[j] (hb _ (List.getElem_mem h))) ?_
   refine .i ?_ ?_<;>intro h2<;>(try simp only [nrm_l] at h2)<;>first | refine pw ?_ | exact pd
   ·rw [hm,h2]
    rfl
   ·rw [h2,Bool.true_and] at hm
    exact⟨j+1,⟨h,hm⟩,by omega,rfl⟩
  ·rw [hm,List.drop_of_length_le (by omega)]
   rfl
theorem zo2:∀(l:List Iv) (p:Option Iv) (i:Nat),(QZ p l i).1<=9
 | [],p,i=>by simp [QZ]
 | s::l,p,i=>by
   have ih:=zo2 l (some s) (i+1)
   unfold QZ
   repeat' split
   all_goals first | exact ih | (simp;done) | omega
theorem zqN (m:Nat):∀(l:List Iv) (i:Nat),(hk m l i).1<=9
 | [],i=>by simp [hk]
 | s::l,i=>by
   have ih:=zqN m l (i+1)
   unfold hk
   split
   ·simp
   ·exact ih
theorem zqz (e:En):(yV e).1<=9:=by
 unfold yV
 split
 ·exact zqN _ _ _
 ·exact zo2 _ _ _
theorem zqj (v:List En):∀(r:List En) (k:Nat),(hkV v k r).1<=9
 | [],k=>by simp [hkV]
 | e::r,k=>by
   have ih:=zqj v r (k+1)
   have he:=zqz e
   unfold hkV
   split
   ·exact he
   ·split
    ·simp
    ·exact ih
theorem zqi:∀(r:List Fg) (k:Nat),(hkK k r).1<=9
 | [],k=>by simp [hkK]
 | f::r,k=>by
   have ih:=zqi r (k+1)
   have h1:=zo2 f.items none 0
   have h2:=zqj f.vec f.vec 0
   unfold hkK
   split
   ·exact h1
   ·split
    ·exact h2
    ·exact ih
theorem zqh (k:List Fg):(ckK k).1<=9:=zqi k 0
theorem zo1 {D:Nat->Nat->Prop} {w:World} {v:Value} {s:ByteArray} {c k:Int} {t t':TypeId} (h:Dat D w v (.ifc t (.agg [.v (.string s),.ifc t' (.agg [.v (.int .i64 c),.v (.int .i64 k)])]))):v=.iface t (.agg #[.string s,.iface t' (.agg #[.int .i64 c,.int .i64 k])]):=by
 cases h with
 | ifc t x p h=>
   generalize hc:[PV.v (.string s),PV.ifc t' (.agg [.v (.int .i64 c),.v (.int .i64 k)])]=cs at h
   cases h with
   | agg us cs hs _ h=>
     subst hc
     obtain⟨l⟩:=us
     match l,hs with
     | [x,y],_=>
       have e0:=(Rel.dat (ρ:=fun _=>0) (nb:=0) (h 0 _ rfl)).v_inv
       have e1:=zaX (h 1 _ rfl)
       simp at e0 e1
       rw [e0,e1]
def zoP (a b:List Fg):Nat × Int × ByteArray:=if (ckK a).1≠0 then ((ckK a).1,(ckK a).2,zot) else if (ckK b).1≠0 then ((ckK b).1,(ckK b).2,znM) else (0,-1,⟨#[]⟩)
theorem zpd (a b:List Fg) (ha:BdK a) (hb:BdK b) (za:HlK a) (zb:HlK b):Cn Tryz.prog 25 [kp a,kp b] (.tup [.v (.int .i64 (zoP a b).1),.v (.int .i64 (zoP a b).2.1),.v (.string (zoP a b).2.2)]):=by
 unfold zoP
 refine zt Tryz.func25 2 ?_
 refine pw ?_
 refine .c (znL a ha za) ?_
 refine .i ?_ ?_<;>intro h1<;>(try simp only [nrm_l] at h1)<;>first | refine pw ?_ | exact pd
 ·rw [if_pos h1]
  rfl
 ·rw [if_neg (by omega)]
  refine .c (znL b hb zb) ?_
  refine .i ?_ ?_<;>intro h2<;>(try simp only [nrm_l] at h2)<;>first | refine pw ?_ | exact pd
  ·rw [if_pos h2]
   rfl
  ·rw [if_neg (by omega)]
   rfl
theorem zpe (a b:List Fg) (hb:BdK a) (hz:SzK a) (hw:(ckK a).1≠0):Cn Tryz.prog 23 [kp a,kp b] (.tup [kp [],zou zot (ckK a)]):=by
 have hd:=zos a b 72 hb hz hw
 refine zt Tryz.func23 2 ?_
 refine pw ?_
 (first | exact .d (hd) | exact .q (hd))
theorem zpf (a b:List Fg) (ra:RightK a) (za:SzK a) (hb:BdK b) (hz:SzK b) (hw:(ckK b).1≠0):Cn Tryz.prog 23 [kp a,kp b] (.tup [kp [],zou znM (ckK b)]):=by
 have hd:=znG a b 72 ra za hb hz hw
 refine zt Tryz.func23 2 ?_
 refine pw ?_
 (first | exact .d (hd) | exact .q (hd))
theorem zo8 (a b:List Fg) (hb:BdK a) (hz:SzK a) (hw:(ckK a).1≠0):Cn Tryz.prog 28 [kp a,kp b] (.tup [kp [],zou zot (ckK a)]):=by
 have hd:=zos a b 81 hb hz hw
 refine zt Tryz.func28 2 ?_
 refine pw ?_
 (first | exact .d (hd) | exact .q (hd))
theorem zo9 (a b:List Fg) (ra:RightK a) (za:SzK a) (hb:BdK b) (hz:SzK b) (hw:(ckK b).1≠0):Cn Tryz.prog 28 [kp a,kp b] (.tup [kp [],zou znM (ckK b)]):=by
 have hd:=znG a b 81 ra za hb hz hw
 refine zt Tryz.func28 2 ?_
 refine pw ?_
 (first | exact .d (hd) | exact .q (hd))
theorem zn0 {C:Nat->List Nat} {R:List Nat} {n:Nat} (k:List Fg) (hk:Kn C R n k) (hc:CanK k) (ok:OkX C R) (hn:n<=400000):Cn Tryz.prog 45 [kp k] (.v (.bool true)):=by
 have h:=zpF k hk hc ok hn
 refine zt Tryz.func45 1 ?_
 refine pw ?_
 (first | exact .d (h) | exact .q (h))
structure Ok14 (a b:List Fg):Prop where
 ra:RightK a
 rb:RightK b
 ka:Kn (CKL [a,b]) (RKL [a,b]) 240 a
 kb:Kn (CKL [a,b]) (RKL [a,b]) 240 b
 ok:OkX (CKL [a,b]) (RKL [a,b])
theorem zrg {a b:List Fg} (ha:BdK a) (hb:BdK b) (fa:vx a=true) (fb:vx b=true) (h:(zoP a b).1=0):Ok14 a b:=by
 have key:(ckK a).1=0/\(ckK b).1=0:=by
  unfold zoP at h
  split at h
  ·rename_i h1
   exact absurd h h1
  ·rename_i h1
   split at h
   ·rename_i h2
    exact absurd h h2
   ·rename_i h2
    omega
 have ra:=(ZN ha).1 key.1
 have rb:=(ZN hb).1 key.2
 refine⟨ra,rb,Kn.all (by simp) fa ra,Kn.all (by simp) fb rb,zam (by simp) fun k hk=>?_⟩
 simp at hk
 rcases hk with rfl | rfl
 ·exact⟨fa,ra⟩
 ·exact⟨fb,rb⟩
theorem zqv (a b:List Fg) (x:Nat × Nat × Nat) (ga:BdK a/\HlK a) (gb:BdK b/\HlK b) (hx:BdX x):Cn Tryz.prog 11 [kp a,kp b,xp x] (.v (.bool true)):=by
 have hw:=zpd a b ga.1 gb.1 ga.2 gb.2
 have hs:=zoc [a,b] (by simp) (fun k hk=>by
  simp at hk
  rcases hk with rfl | rfl
  ·exact ga.1
  ·exact gb.1)
 obtain⟨s,es⟩:∃ s,s=[a,b].all vx:=⟨_,rfl⟩
 obtain⟨q,eq⟩:∃ q,q=zoP a b:=⟨_,rfl⟩
 rw [<-es] at hs
 rw [<-eq] at hw
 have al:=zn2
 refine zt Tryz.func11 3 ?_
 refine pw ?_
 (first | refine .c (hw) ?_ | refine .o (hw) ?_)
 (first | refine .c (hs) ?_ | refine .o (hs) ?_)
 cases s with
 | false=>
   refine pw ?_
   (first | exact .d (al) | exact .q (al))
 | true=>
   have hf:vx a=true/\vx b=true:=by simpa using es.symm
   by_cases h0:q.1=0
   ·have hd:decide (q.1=0)=true:=decide_eq_true h0
    rw [eq] at h0
    have hc:=zrg ga.1 gb.1 hf.1 hf.2 h0
    have ku:=hc.ka.do (f:=zn) rfl hc.kb hc.ok
    have km:=hc.ka.do (f:=y5) rfl hc.kb hc.ok
    have kd:=hc.ka.do (f:=zm) rfl hc.kb hc.ok
    have cu:=ze5 (f:=zn) hc.ra hc.rb
    have cm:=ze5 (f:=y5) hc.ra hc.rb
    have cd:=ze5 (f:=zm) hc.ra hc.rb
    have hu:=zoW (vh zn a b) x.1 x.2.1 x.2.2 cu.right hx.2.2 (ku.z (by omega))
    have hm:=zoW (vh y5 a b) x.1 x.2.1 x.2.2 cm.right hx.2.2 (km.z (by omega))
    have hn:=zoW (vh zm a b) x.1 x.2.1 x.2.2 cd.right hx.2.2 (kd.z (by omega))
    have pa:=zid a x.1 x.2.1 x.2.2 hc.ra hx.2.2 (hc.ka.z (by omega))
    have pb:=zid b x.1 x.2.1 x.2.2 hc.rb hx.2.2 (hc.kb.z (by omega))
    rw [zcZ rfl hc.ra hc.rb hx.1 hx.2.2] at hu hm hn
    generalize hasK a x.1 x.2.1 x.2.2=y at hu hm hn pa
    generalize hasK b x.1 x.2.1 x.2.2=z at hu hm hn pb
    try simp (maxSteps:=2000000) (disch:=omega) only [go_sem,seval,hd]
    repeat ((with_reducible refine And.intro ?_ ?_);focus exact yI)
    refine .c (xv a b hc.ka hc.kb hc.ok (by omega)) ?_
    refine .c (JP a b hc.ka hc.kb hc.ok (by omega)) ?_
    refine .c (vD a b hc.ka hc.kb hc.ok (by omega)) ?_
    refine .c (zn0 (vh zn a b) ku cu hc.ok (by omega)) ?_
    refine .c (zn0 (vh y5 a b) km cm hc.ok (by omega)) ?_
    refine .c (zn0 (vh zm a b) kd cd hc.ok (by omega)) ?_
    (first | refine .c (pa) ?_ | refine .o (pa) ?_)
    (first | refine .c (pb) ?_ | refine .o (pb) ?_)
    (first | refine .c (al) ?_ | refine .o (al) ?_)
    cases y<;>cases z
    all_goals
     simp only [zn,y5,zm,Bool.or_false,Bool.or_true,Bool.and_false,Bool.and_true,Bool.not_true,Bool.not_false,Bool.false_or,Bool.true_or,Bool.false_and,Bool.true_and,Bool.or_self,Bool.and_self] at hu hm hn
     refine pw ?_
     (first | refine .c (hu) ?_ | refine .o (hu) ?_)
     (first | refine .c (hm) ?_ | refine .o (hm) ?_)
     (first | exact .d (hn) | exact .q (hn))
   ·have hd:decide (q.1=0)=false:=decide_eq_false h0
    try simp (maxSteps:=2000000) (disch:=omega) only [go_sem,seval,hd]
    repeat ((with_reducible refine And.intro ?_ ?_);focus exact yI)
    (first | exact .d (al) | exact .q (al))
theorem Kn.proj {C:Nat->List Nat} {R:List Nat} {n m:Nat} {k:List Fg} {items:List Iv} (h:Kn C R n k) (hi:Nrm items) (hm:2 * n+2 * (k.length * items.length)<=m):Kn C R m (zl5 k items):=by
 have h1:=zoG hi h.r
 have h2:=h.m
 have h3:=h.l
 refine⟨znX h.r hi,fun g hg=>?_,fun g hg=>?_,by omega,?_⟩
 ·obtain⟨f,hf,rfl⟩:=List.mem_map.1 hg
  exact h.ik f hf
 ·obtain⟨f,hf,rfl⟩:=List.mem_map.1 hg
  exact h.s f hf
 ·unfold zl5
  rw [List.length_map]
  omega
theorem zpg (a b:List Fg) (l:List Iv) (ga:BdK a/\HlK a) (gb:BdK b/\HlK b) (gl:∀ s ∈ l,s.lo<M64/\s.hi<M64):Cn Tryz.prog 5 [kp a,kp b,rg l] (.v (.bool true)):=by
 have hw:=zpd a b ga.1 gb.1 ga.2 gb.2
 have hs:=zoc [a,b] (by simp) (fun k hk=>by
  simp at hk
  rcases hk with rfl | rfl
  ·exact ga.1
  ·exact gb.1)
 obtain⟨s,es⟩:∃ s,s=[a,b].all vx:=⟨_,rfl⟩
 obtain⟨q,eq⟩:∃ q,q=zoP a b:=⟨_,rfl⟩
 rw [<-es] at hs
 rw [<-eq] at hw
 have al:=zn2
 refine zt Tryz.func5 3 ?_
 refine pw ?_
 (first | refine .c (hw) ?_ | refine .o (hw) ?_)
 (first | refine .c (hs) ?_ | refine .o (hs) ?_)
 cases s with
 | false=>
   refine pw ?_
   (first | exact .d (al) | exact .q (al))
 | true=>
   have hf:vx a=true/\vx b=true:=by simpa using es.symm
   by_cases h0:q.1=0
   ·have hd:decide (q.1=0)=true:=decide_eq_true h0
    rw [eq] at h0
    have hc:=zrg ga.1 gb.1 hf.1 hf.2 h0
    try simp (maxSteps:=2000000) (disch:=omega) only [go_sem,seval,hd]
    repeat ((with_reducible refine And.intro ?_ ?_);focus exact yI)
    refine .i ?_ ?_<;>intro h20<;>(try simp only [nrm_l] at h20)<;>first | refine pw ?_ | exact pd
    ·(first | exact .d (al) | exact .q (al))
    ·refine .c (zqs l (by omega) gl) ?_
     refine .i ?_ ?_<;>intro hr<;>(try simp only [nrm_l] at hr)<;>first | refine pw ?_ | exact pd
     ·(first | exact .d (al) | exact .q (al))
     ·have hi:=(zpN fun s hs=>(gl s hs).2).1 hr
      have hal:=(X3 hf.1).1
      have hmul:a.length * l.length<=12 * 20:=Nat.mul_le_mul hal (by omega)
      have hp:Kn (CKL [a,b]) (RKL [a,b]) 960 (zl5 a l):=hc.ka.proj hi (by omega)
      have kp':Kn (CKL [a,b]) (RKL [a,b]) 1921 (znF a l):=hp.canon hc.ok
      have ka':=hc.ka.up (show 240<=1921 by omega)
      have kr:Kn (CKL [a,b]) (RKL [a,b]) (1+2 * (1921+1921)) (vh zm a (znF a l)):=ka'.do (f:=zm) rfl kp' hc.ok
      have km:=hc.ka.do (f:=y5) rfl hc.kb hc.ok
      have kd:=hc.ka.do (f:=zm) rfl hc.kb hc.ok
      have kc:=hc.ka.canon hc.ok
      have hpr:Kn (CKL [a,b]) (RKL [a,b]) (1+2 * (1921+1921)) (zl5 (vh zm a (znF a l)) l):=by
       refine⟨znX kr.r hi,fun g hg=>?_,fun g hg=>?_,by rw [zpL hc.ra hi];omega,?_⟩
       ·obtain⟨f,hf,rfl⟩:=List.mem_map.1 hg
        exact kr.ik f hf
       ·obtain⟨f,hf,rfl⟩:=List.mem_map.1 hg
        exact kr.s f hf
       ·unfold zl5
        rw [List.length_map]
        exact kr.l
      have c1:=zoa a l hc.ka hi (by omega) hp hc.ok (by omega) (by omega)
      have c2:=vD a (znF a l) ka' kp' hc.ok (by omega)
      have c3:=xv (znF a l) (vh zm a (znF a l)) (kp'.up (by omega)) kr hc.ok (by omega)
      rw [zpt hc.ra hi] at c3
      have c4:=xv (vh y5 a b) (vh zm a b) km kd hc.ok (by omega)
      rw [zp4 hc.ra hc.rb] at c4
      have c5:=zoa (vh zm a (znF a l)) l kr hi (by omega) hpr hc.ok (by omega) (by omega)
      rw [zp8 hc.ra hi] at c5
      have sm:=zfq (zbx a) (zbx a) (kc.z (by omega))
      rw [decide_eq_true rfl] at sm
      (first | refine .c (c1) ?_ | refine .o (c1) ?_)
      (first | refine .c (c2) ?_ | refine .o (c2) ?_)
      (first | refine .c (c3) ?_ | refine .o (c3) ?_)
      refine .c (JP a b hc.ka hc.kb hc.ok (by omega)) ?_
      refine .c (vD a b hc.ka hc.kb hc.ok (by omega)) ?_
      (first | refine .c (c4) ?_ | refine .o (c4) ?_)
      (first | refine .c (c5) ?_ | refine .o (c5) ?_)
      refine .c (zds a hc.ka hc.ok (by omega)) ?_
      (first | refine .c (al) ?_ | refine .o (al) ?_)
      (first | refine .c (sm) ?_ | refine .o (sm) ?_)
      (first | exact .d (sm) | exact .q (sm))
   ·have hd:decide (q.1=0)=false:=decide_eq_false h0
    try simp (maxSteps:=2000000) (disch:=omega) only [go_sem,seval,hd]
    repeat ((with_reducible refine And.intro ?_ ?_);focus exact yI)
    (first | exact .d (al) | exact .q (al))
theorem zp1 (s:ByteArray) (c k:Int) (w:World) (hg:HG w):Calls Tryz.prog 94 #[.iface 150 (.agg #[.string s,.iface 120 (.agg #[.int .i64 c,.int .i64 k])]),.iface 123 (.pointer (some ⟨w.heap.size+1,0,none⟩))] ((w.alloc z2).alloc z2)
 fun ev w'=>ev=.returned (.bool true)/\Below (w.heap.size+1) (w.alloc z2) w'/\w'.cell? ⟨w.heap.size+1,0,none⟩=some (.int .i64 c)/\w'.cell? ⟨w.heap.size+1,1,none⟩=some (.int .i64 k):=by
 have c0:∀ o,o<2->((w.alloc z2).alloc z2).cell? ⟨w.heap.size+1,o,none⟩=some (.int .i64 0):=fun o ho=>by
  have:w.heap.size+1=(w.alloc z2).heap.size:=by simp
  rw [this]
  unfold z2
  match o,ho with
  | 0,_=>simp
  | 1,_=>simp
 have f0:∀ o,o<2->((w.alloc z2).alloc z2).frozen? ⟨w.heap.size+1,o,none⟩=false:=fun o ho=>by
  have:w.heap.size+1=(w.alloc z2).heap.size:=by simp
  rw [this]
  unfold z2
  match o,ho with
  | 0,_=>simp
  | 1,_=>simp
 refine(zqg s c k (w.heap.size+1) _ ((hg.alloc _).alloc _) (c0 0 (by omega)) (c0 1 (by omega)) (f0 0 (by omega)) (f0 1 (by omega))).mono ?_
 rintro ev w' ⟨rfl,hk,h0,h1⟩
 refine⟨rfl,?_,h0,h1⟩
 have hk2:Keep (fun b=>b=w.heap.size+1) (w.alloc z2) w':=((Keep.refl _ (w.alloc z2)).alloc z2).trans hk
 exact hk2.below (by simp) fun q hq e=>by omega
theorem zqT (s:ByteArray) (c k:Int) (w:World) (hg:HG w):Calls Tryz.prog 103 #[.iface 150 (.agg #[.string s,.iface 120 (.agg #[.int .i64 c,.int .i64 k])])] w fun e w'=>e=.returned (.tuple #[.agg #[.int .i64 c,.int .i64 k],.bool true])/\Below w.heap.size w w':=by
 go_enter Tryz.func103,Tryz.ntmps103
 go_wp2_with (go_at_call 94;refine(zp1 s c k w hg).mono ?_;rintro e w1 ⟨rfl,hb,hc0,hc1⟩;have hz0:w1.cell? ⟨w.heap.size,0,none⟩=some (.int .i64 0):=(hb.cell (p:=⟨w.heap.size,0,none⟩) (by simp)).trans (by unfold z2;simp);have hz1:w1.cell? ⟨w.heap.size,1,none⟩=some (.int .i64 0):=(hb.cell (p:=⟨w.heap.size,1,none⟩) (by simp)).trans (by unfold z2;simp);have hf0:w1.frozen? ⟨w.heap.size,0,none⟩=false:=(hb.frozen (p:=⟨w.heap.size,0,none⟩) (by simp)).trans (by unfold z2;simp);have hf1:w1.frozen? ⟨w.heap.size,1,none⟩=false:=(hb.frozen (p:=⟨w.heap.size,1,none⟩) (by simp)).trans (by unfold z2;simp);have hbb:Below w.heap.size w w1:=((Below.refl _ w).alloc (Nat.le_refl _) _).trans (hb.mono (by omega)))
 have e0:(w1.setCell ⟨w.heap.size,0,none⟩ (.int .i64 c)).cell? ⟨w.heap.size,0,none⟩=some (.int .i64 c):=World.cell?_setCell_same _ _ _ hz0
 have e1:((w1.setCell ⟨w.heap.size,0,none⟩ (.int .i64 c)).setCell ⟨w.heap.size,1,none⟩ (.int .i64 k)).cell? ⟨w.heap.size,1,none⟩=some (.int .i64 k):=World.cell?_setCell_same' _ _ _ (by rw [World.cell?_setCell_other _ _ _ _ (by simp),hz1];rfl)
 refine bodyPost_ret (v:=.tuple #[.agg #[.int .i64 c,.int .i64 k],.bool true]) (by simp [results,Tryz.results103,go_sem,e0,e1,Result.andThen]) rfl ⟨rfl,?_⟩
 exact Below.setCell (Below.setCell hbb (by simp) _) (by simp) _
theorem zpW (s:ByteArray) (x:Nat × Int) (h0:x.1≠0):Cn Tryz.prog 51 [zou s x] (.v (.int .i64 x.1)):=by
 unfold zou
 rw [zmb h0]
 refine KK rfl (enters_of Tryz.func51 (by kernel_rfl) rfl) fun D w vs hg hD hsz hd=>?_
 have d0:=zo1 (hd 0 _ rfl)
 rw [zjw hsz,d0]
 refine(zqS s x.1 x.2 w hg).mono ?_
 rintro e w' ⟨rfl,hb⟩
 exact⟨_,rfl,hb,.v _⟩
theorem zqA (s:ByteArray) (x:Nat × Int) (h0:x.1≠0):Cn Tryz.prog 103 [zou s x] (.tup [.agg [.v (.int .i64 x.1),.v (.int .i64 x.2)],.v (.bool true)]):=by
 unfold zou
 rw [zmb h0]
 refine KK rfl (enters_of Tryz.func103 (by kernel_rfl) rfl) fun D w vs hg hD hsz hd=>?_
 have d0:=zo1 (hd 0 _ rfl)
 rw [zjw hsz,d0]
 refine(zqT s x.1 x.2 w hg).mono ?_
 rintro e w' ⟨rfl,hb⟩
 refine⟨_,rfl,hb,.tup _ _ rfl fun j p hp=>?_⟩
 match j,hp with
 | 0,hp=>cases hp;exact znT (.v _) (.v _) rfl rfl
 | 1,hp=>cases hp;exact .v _
 | j+2,hp=>simp at hp
theorem zrc (s:ByteArray) (x:Nat × Int) (h0:x.1≠0):Cn Tryz.prog 52 [zou s x] (.v (.int .i64 x.2)):=by
 refine zt Tryz.func52 1 ?_
 refine pw ?_
 exact .d (zqA s x h0)
theorem zqK (s:ByteArray) (x:Nat × Int) (h0:x.1≠0):Cn Tryz.prog 83 [.v (.string s),jS x.1 x.2] (zou s x):=by
 unfold zou
 rw [zmb h0]
 refine zt Tryz.func83 2 ?_
 refine pw ?_
 first | trivial | rfl | (unfold qv;rfl) | (simp [qv];done)
theorem zql (k:List Fg) (hb:BdK k) (hz:SzK k) (hw:(ckK k).1≠0):Cn Tryz.prog 31 [kp k] (.tup [trp (0,0,0),.v (.bool false),zou zot (ckK k)]):=by
 have hc:=Vh k hb hz
 have hwr:=zqK zot (ckK k) hw
 rw [zmb hw] at hc hwr
 unfold zou
 rw [zmb hw]
 unfold zou at hwr
 rw [zmb hw] at hwr
 refine zt Tryz.func31 1 ?_
 refine pw ?_
 (first | refine .c (hc) ?_ | refine .o (hc) ?_)
 (first | exact .d (hwr) | exact .q (hwr))
theorem zpb {a b:List Fg} {s:ByteArray} {x:Nat × Int} (hm:Cn Tryz.prog 28 [kp a,kp b] (.tup [kp [],zou s x])):Cn Tryz.prog 41 [kp a,kp b] (.tup [.v (.bool false),zou s x]):=by
 refine zt Tryz.func41 2 ?_
 refine pw ?_
 (first | exact .d (hm) | exact .q (hm))
theorem zoA {a b:List Fg} {s:ByteArray} {x:Nat × Int} (hm:Cn Tryz.prog 23 [kp a,kp b] (.tup [kp [],zou s x])):Cn Tryz.prog 48 [kp a,kp b] (.tup [.v (.bool false),zou s x]):=by
 refine zt Tryz.func48 2 ?_
 refine pw ?_
 (first | exact .d (hm) | exact .q (hm))
theorem zpa {a b:List Fg} {s:ByteArray} {x:Nat × Int} (hm:Cn Tryz.prog 28 [kp a,kp b] (.tup [kp [],zou s x])):Cn Tryz.prog 49 [kp a,kp b] (.tup [.v (.int .i64 0),zou s x]):=by
 refine zt Tryz.func49 2 ?_
 refine pw ?_
 (first | exact .d (hm) | exact .q (hm))
theorem zoM {a b:List Fg} {s:ByteArray} {x:Nat × Int} (hm:Cn Tryz.prog 28 [kp a,kp b] (.tup [kp [],zou s x])):Cn Tryz.prog 39 [kp a,kp b] (.tup [trp (0,0,0),.v (.bool false),zou s x]):=by
 refine zt Tryz.func39 2 ?_
 refine pw ?_
 (first | exact .d (hm) | exact .q (hm))
theorem zqo (a b:List Fg) (ga:BdK a/\HlK a) (gb:BdK b/\HlK b):Cn Tryz.prog 12 [kp a,kp b] (.v (.bool true)):=by
 have hw:=zpd a b ga.1 gb.1 ga.2 gb.2
 have hs:=zbI a b ga.1 gb.1
 have al:=Yf
 obtain⟨z,ez⟩:∃ z,z=(vx a && vx b):=⟨_,rfl⟩
 obtain⟨q,eq⟩:∃ q,q=zoP a b:=⟨_,rfl⟩
 rw [<-ez] at hs
 rw [<-eq] at hw
 refine zt Tryz.func12 2 ?_
 refine pw ?_
 (first | refine .c (hw) ?_ | refine .o (hw) ?_)
 (first | refine .c (hs) ?_ | refine .o (hs) ?_)
 cases z with
 | false=>
   refine pw ?_
   (first | exact .d (al) | exact .q (al))
 | true=>
   have hf:vx a=true/\vx b=true:=by simpa using ez.symm
   have za:=zcS hf.1
   have zb:=zcS hf.2
   by_cases h0:q.1=0
   ·have hd:decide (q.1=0)=true:=decide_eq_true h0
    try simp (maxSteps:=2000000) (disch:=omega) only [go_sem,seval,hd]
    repeat ((with_reducible refine And.intro ?_ ?_);focus exact yI)
    (first | exact .d (al) | exact .q (al))
   ·have hd:decide (q.1=0)=false:=decide_eq_false h0
    have key:∃(s:ByteArray) (x:Nat × Int),q=(x.1,x.2,s)/\s.size<=1000/\x.1≠0/\x.1<=9/\Cn Tryz.prog 28 [kp a,kp b] (.tup [kp [],zou s x])/\Cn Tryz.prog 23 [kp a,kp b] (.tup [kp [],zou s x])/\((ckK a).1≠0\/(ckK a).1=0/\RightK a):=by
     rw [eq] at h0 ⊢
     unfold zoP at h0 ⊢
     by_cases h1:(ckK a).1≠0
     ·rw [if_pos h1]
      exact⟨zot,ckK a,rfl,by decide,h1,zqh a,zo8 a b ga.1 za h1,zpe a b ga.1 za h1,.inl h1⟩
     ·rw [if_neg h1] at h0 ⊢
      have e1:(ckK a).1=0:=by omega
      have ra:=(ZN ga.1).1 e1
      by_cases h2:(ckK b).1≠0
      ·rw [if_pos h2]
       exact⟨znM,ckK b,rfl,by decide,h2,zqh b,zo9 a b ra za gb.1 zb h2,zpf a b ra za gb.1 zb h2,.inr ⟨e1,ra⟩⟩
      ·rw [if_neg h2] at h0
       exact absurd rfl h0
    obtain⟨s,x,rfl,hss,hx0,hx9,hm,hmt,hcase⟩:=key
    clear eq ez h0
    have a7:=zom s x hss hx0 hx9
    unfold zoq at a7
    have z0:(Array.mk [(58:UInt8),32]).size=2:=rfl
    have z1:=zor
    have z2:=zoJ x.1
    have z3:(s++⟨#[58,32]⟩:ByteArray).size=s.size+2:=by rw [ByteArray.size_append,z1]
    try simp (maxSteps:=2000000) (disch:=omega) only [go_sem,seval,hd]
    repeat ((with_reducible refine And.intro ?_ ?_);focus exact yI)
    refine .c (zpb hm) ?_
    refine .c (zoA hmt) ?_
    refine .c (zpa hm) ?_
    refine .c (zoM hm) ?_
    refine pLoop.go (fun j=>j<=4) (fun j=>[(71,.v (.int .i64 (j:Nat)))]) (fun _=>[trc (0,0,0)]) (fun j=>4 - j) 0 [71] ?_ ?_ ?_
    ·omega
    ·exact pd
    ·rintro j hj
     refine pw ?_
     refine .i ?_ ?_<;>intro h<;>(try simp only [nrm_l] at h)<;>first | refine pw ?_ | exact pd
     ·have hj4:j=0\/j=1\/j=2\/j=3:=by omega
      rcases hj4 with rfl | rfl | rfl | rfl
      all_goals
       refine pw ?_
       refine .mk zn8 ?_
       (first | refine .c (a7) ?_ | refine .o (a7) ?_)
       refine .c (zoT x.1 hx9) ?_
       refine⟨by rw [z2];show s.size+2+7+(s.size+2+7)<=9223372036854775807;omega,?_⟩
       refine .c (zpW s x hx0) ?_
       refine .c (zrc s x hx0) ?_
       first
        | exact⟨1,by omega,by omega,rfl⟩
        | exact⟨2,by omega,by omega,rfl⟩
        | exact⟨3,by omega,by omega,rfl⟩
        | exact⟨4,by omega,by omega,rfl⟩
     ·rcases hcase with h1 | ⟨e1,ra⟩
      ·have hn:decide ((ckK a).1=0)=false:=decide_eq_false h1
       refine .c (zql a ga.1 za h1) ?_
       refine .c (znL a ga.1 ga.2) ?_
       try simp (maxSteps:=2000000) (disch:=omega) only [go_sem,seval,hn]
       repeat ((with_reducible refine And.intro ?_ ?_);focus exact yI)
       refine .c (zpW zot (ckK a) h1) ?_
       (first | exact .d (al) | exact .q (al))
      ·have lc:=zfE a ((Kn.few hf.1 ra).ok12 (zqC hf.1 ra) (by omega))
       have rc:=znL a ga.1 ga.2
       rw [e1] at rc
       (first | refine .c (lc) ?_ | refine .o (lc) ?_)
       (first | refine .c (rc) ?_ | refine .o (rc) ?_)
       (first | exact .d (al) | exact .q (al))
end Go.Proofs.YtonhfknjcbakiaaGreatDoor
