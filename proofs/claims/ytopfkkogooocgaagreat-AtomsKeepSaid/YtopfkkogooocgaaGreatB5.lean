import Derived.Deep.LoopGhost
import Derived.Deep.DeepCutAuto
import Derived.Deep.CutBlock
import Derived.WalkMore
import Derived.Test.YtopfkkogooocgaaGreatB3
import Derived.Test.YtopfkkogooocgaaGreatB4
set_option maxHeartbeats 16000000
set_option linter.unusedVariables false
set_option linter.unusedSimpArgs false
set_option maxRecDepth 100000
namespace Go.Proofs.YtopfkkogooocgaaGreat
open Go.RowKit
theorem zeB:IntKind.u64.wrap (((zk - 1:Nat):Int)+1)=0:=by decide
theorem Jc {x y:Nat} (h:y<=x) (hx:x<zk):IntKind.u64.wrap ((x:Int) - y)=((x - y:Nat):Int):=by
 rw [show ((x:Int) - y)=((x - y:Nat):Int) from by omega];exact ZR (by omega)
theorem Zj {x:Nat} (h:1<=x) (hx:x<zk):IntKind.u64.wrap ((x:Int) - 1)=((x - 1:Nat):Int):=Jc (y:=1) h hx
theorem zbV {x:Nat} (hx:x+1<zk):IntKind.u64.wrap ((x:Int)+1)=(x:Int)+1:=by
 have:=ZR (x:=x+1) hx;push_cast at this;exact this
theorem kO (x:Nat) (w:World) (h:x+1<zk):Calls Tryz.prog 28 #[.int .u64 x] w fun e w'=>e=.returned (.tuple #[.int .u64 ((x:Int)+1),.bool true])/\w=w':=by
 have h1:=zbV h
 have h2:((x:Int)+1 != 0)=true:=by simp;omega
 go_enter Tryz.func28,Tryz.ntmps28
 go_wp2
 go_ret2
 exact⟨rfl,rfl⟩
theorem V9 (w:World):Calls Tryz.prog 28 #[.int .u64 ((zk - 1:Nat):Int)] w fun e w'=>e=.returned (.tuple #[.int .u64 0,.bool false])/\w=w':=by
 have h1:=zeB
 generalize ((zk - 1:Nat):Int)=m at *
 go_enter Tryz.func28,Tryz.ntmps28
 go_wp2
 go_ret2
 exact⟨rfl,rfl⟩
theorem ya (a b:Nat) (w:World) (h:b<=a):Calls Tryz.prog 108 #[.int .u64 a,.int .u64 b] w fun e w'=>e=.returned (.tuple #[.int .u64 0,.bool false])/\w=w':=by
 go_enter Tryz.func108,Tryz.ntmps108
 go_wp2
 go_ret2
 exact⟨rfl,rfl⟩
theorem yX (a b:Nat) (w:World) (h:a<b) (hb:b<zk):Calls Tryz.prog 108 #[.int .u64 a,.int .u64 b] w fun e w'=>e=.returned (.tuple #[.int .u64 ((b - a - 1:Nat):Int),.bool true])/\w=w':=by
 have h1:=Jc (x:=b) (y:=a) (by omega) hb
 have h2:=Zj (x:=b - a) (by omega) (by omega)
 generalize b - a=d at *
 have H2:=Lib.hid h2
 clear h2
 go_enter Tryz.func108,Tryz.ntmps108
 go_wp2
 rw [H2.out]
 go_ret2
 exact⟨rfl,rfl⟩
def zR (s t:Iv):Nat:=if s.hi<t.lo then (if s.hi+1=t.lo then 1 else 0) else if t.hi<s.lo then (if t.hi+1=s.lo then 3 else 4) else 2
theorem QF (s t:Iv) (w:World) (hs:s.lo<=s.hi) (ht:t.lo<=t.hi) (h1:s.hi<zk) (h2:t.hi<zk) :
 Calls Tryz.prog 89 #[.agg #[.int .u64 s.lo,.int .u64 s.hi],.agg #[.int .u64 t.lo,.int .u64 t.hi]] w fun e w'=>e=.returned (.int .i64 (zR s t))/\Below w.heap.size w w':=by
 have H:∀ n:Nat,zR s t=n->Hid (zR s t=n):=fun _ h=>h
 by_cases c1:s.hi<t.lo
 ·by_cases c3:s.hi+1=t.lo
  ·have c3':=Lib.hid c3
   clear c3
   have R:=H 1 (by unfold zR;rw [if_pos c1,if_pos c3'.out])
   have C4:=Lib.hid (show t.lo - s.hi - 1=0 by have:=c3'.out;omega)
   clear H
   go_enter Tryz.func89,Tryz.ntmps89
   go_wp2_with (first | (go_at_call 108;with_reducible refine(yX s.hi t.lo _ (by omega) (by omega)).mono ?_;rw [C4.out];rintro e w' ⟨rfl,rfl⟩) | (go_at_call 108;with_reducible refine(ya t.hi s.lo _ (by omega)).mono ?_;rintro e w' ⟨rfl,rfl⟩))
   go_ret
   rw [R.out]
   exact⟨rfl,((Below.refl _ _).alloc (Nat.le_refl _) _).alloc (by simp) _⟩
  ·have R:=H 0 (by unfold zR;rw [if_pos c1,if_neg c3])
   obtain⟨g,hg0⟩:∃ g,t.lo - s.hi - 1=g:=⟨_,rfl⟩
   have hg:0<g:=by omega
   have C4:=Lib.hid hg0
   clear hg0
   clear H
   go_enter Tryz.func89,Tryz.ntmps89
   go_wp2_with (first | (go_at_call 108;with_reducible refine(yX s.hi t.lo _ (by omega) (by omega)).mono ?_;rw [C4.out];rintro e w' ⟨rfl,rfl⟩) | (go_at_call 108;with_reducible refine(ya t.hi s.lo _ (by omega)).mono ?_;rintro e w' ⟨rfl,rfl⟩))
   go_ret
   rw [R.out]
   exact⟨rfl,((Below.refl _ _).alloc (Nat.le_refl _) _).alloc (by simp) _⟩
 ·by_cases c2:t.hi<s.lo
  ·by_cases c3:t.hi+1=s.lo
   ·have c3':=Lib.hid c3
    clear c3
    have R:=H 3 (by unfold zR;rw [if_neg c1,if_pos c2,if_pos c3'.out])
    have C4:=Lib.hid (show s.lo - t.hi - 1=0 by have:=c3'.out;omega)
    clear H
    go_enter Tryz.func89,Tryz.ntmps89
    go_wp2_with (first | (go_at_call 108;with_reducible refine(ya s.hi t.lo _ (by omega)).mono ?_;rintro e w' ⟨rfl,rfl⟩) | (go_at_call 108;with_reducible refine(yX t.hi s.lo _ (by omega) (by omega)).mono ?_;rw [C4.out];rintro e w' ⟨rfl,rfl⟩))
    go_ret
    rw [R.out]
    exact⟨rfl,((Below.refl _ _).alloc (Nat.le_refl _) _).alloc (by simp) _⟩
   ·have R:=H 4 (by unfold zR;rw [if_neg c1,if_pos c2,if_neg c3])
    obtain⟨g,hg0⟩:∃ g,s.lo - t.hi - 1=g:=⟨_,rfl⟩
    have hg:0<g:=by omega
    have C4:=Lib.hid hg0
    clear hg0
    clear H
    go_enter Tryz.func89,Tryz.ntmps89
    go_wp2_with (first | (go_at_call 108;with_reducible refine(ya s.hi t.lo _ (by omega)).mono ?_;rintro e w' ⟨rfl,rfl⟩) | (go_at_call 108;with_reducible refine(yX t.hi s.lo _ (by omega) (by omega)).mono ?_;rw [C4.out];rintro e w' ⟨rfl,rfl⟩))
    go_ret
    rw [R.out]
    exact⟨rfl,((Below.refl _ _).alloc (Nat.le_refl _) _).alloc (by simp) _⟩
  ·have R:=H 2 (by unfold zR;rw [if_neg c1,if_neg c2])
   clear H
   go_enter Tryz.func89,Tryz.ntmps89
   go_wp2_with (first | (go_at_call 108;with_reducible refine(ya s.hi t.lo _ (by omega)).mono ?_;rintro e w' ⟨rfl,rfl⟩) | (go_at_call 108;with_reducible refine(ya t.hi s.lo _ (by omega)).mono ?_;rintro e w' ⟨rfl,rfl⟩))
   go_ret
   rw [R.out]
   exact⟨rfl,((Below.refl _ _).alloc (Nat.le_refl _) _).alloc (by simp) _⟩
attribute [local go_sem] Oper.semAt_some
def zk0:Option Nat->Value
 | some y=>.tuple #[.int .u64 (y:Int),.bool true]
 | none=>.tuple #[.int .u64 0,.bool false]
theorem zdu {l:List Iv} {k x:Nat} (h:k<l.length):ye (l.drop k) x=if x<l[k].lo then some l[k].lo else if l[k].hi+1<zk/\x<l[k].hi+1 then some (l[k].hi+1) else ye (l.drop (k+1)) x:=by
 rw [List.drop_eq_getElem_cons h];rfl
theorem zdq (l:List Iv) (v:Value) (x:Nat) (w:World) (hl:RdR 0 w.heap.size w v l) :
 Calls Tryz.prog 107 #[v,.int .u64 x] w fun e w'=>e=.returned (zk0 (ye l x))/\Below w.heap.size w w':=by
 obtain⟨a,cap,rfl,hlc,hcm,hc⟩:=hl
 unfold maxLen at hcm
 go_enter Tryz.func107,Tryz.ntmps107
 go_wp2_with fail
 go_loopw [12] (fun i wr=>∃ k:Nat,k<=l.length/\i=.int .i64 k/\Hid (ye l x=ye (l.drop k) x)/\Below w.heap.size w wr) (fun i _=>l.length - (intOf i).toNat)
 case atStart=>exact⟨0,Nat.zero_le _,rfl,rfl,Below.refl _ _⟩
 case round=>
  obtain⟨k,hk,rfl,hn,hB⟩:=hrel
  by_cases hlt:k<l.length
  ·obtain⟨b,off,rfl,_,hb,hcell⟩:=hc (by intro e;subst e;simp at hlt)
   obtain⟨g1,g2,g3,g4⟩:=hcell k hlt
   have hs:=zdu (x:=x) hlt
   obtain⟨lo,hlo⟩:∃ lo,lo=l[k].lo:=⟨_,rfl⟩
   obtain⟨hi,hhi⟩:∃ hi,hi=l[k].hi:=⟨_,rfl⟩
   rw [<-hlo] at g1 g3 hs
   rw [<-hhi] at g2 g4 hs
   clear hlo hhi hcell hc
   have c1:wr.cell? ⟨b,off+k * 2,none⟩=some (.int .u64 lo):=(hB.cell (p:=⟨b,_,none⟩) hb).trans g1
   have c2:wr.cell? ⟨b,off+k * 2+1,none⟩=some (.int .u64 hi):=(hB.cell (p:=⟨b,_,none⟩) hb).trans g2
   clear g1 g2
   have hsz:=hB.size
   by_cases t1:x<lo
   ·have HV:Hid (ye l x=some lo):=by rw [hn.out,hs,if_pos t1];rfl
    clear hs hn
    go_wp2
    go_ret2
    rw [HV.out]
    exact⟨rfl,hB.alloc hsz _⟩
   ·by_cases t2:hi+1<zk
    ·by_cases t3:x<hi+1
     ·have HV:Hid (ye l x=some (hi+1)):=by rw [hn.out,hs,if_neg t1,if_pos ⟨t2,t3⟩];rfl
      clear hs hn
      go_wp2_with (go_at_call 28;with_reducible refine(kO _ _ t2).mono ?_;rintro e w' ⟨rfl,rfl⟩)
      go_ret2
      rw [HV.out]
      exact⟨by simp [zk0],hB.alloc hsz _⟩
     ·have HV:Hid (ye l x=ye (l.drop (k+1)) x):=by rw [hn.out,hs,if_neg t1,if_neg (by omega)];rfl
      clear hs hn
      go_wp2_with (go_at_call 28;with_reducible refine(kO _ _ t2).mono ?_;rintro e w' ⟨rfl,rfl⟩)
      go_roundw
      case rel=>exact⟨k+1,by omega,by go_num,HV,hB.alloc hsz _⟩
      case measure=>simp [intOf];omega
    ·have HV:Hid (ye l x=ye (l.drop (k+1)) x):=by rw [hn.out,hs,if_neg t1,if_neg (by omega)];rfl
     clear hs hn
     obtain rfl:hi=zk - 1:=by omega
     go_wp2_with (go_at_call 28;with_reducible refine(V9 _).mono ?_;rintro e w' ⟨rfl,rfl⟩)
     go_roundw
     case rel=>exact⟨k+1,by omega,by go_num,HV,hB.alloc hsz _⟩
     case measure=>simp [intOf];omega
  ·have hkl:k=l.length:=by omega
   have HV:Hid (ye l x=none):=by rw [hn.out,hkl,List.drop_length];rfl
   clear hn
   go_wp2
   go_ret2
   rw [HV.out]
   exact⟨rfl,hB⟩
theorem Vs (l:List Iv) (v:Value) (x:Nat) (w:World) (hl:RdR 0 w.heap.size w v l) :
 Calls Tryz.prog 107 #[v,.int .u64 x] w fun e w'=>∃(n:Nat) (m:Bool),e=.returned (.tuple #[.int .u64 n,.bool m])/\Hid (ye l x=if m=true then some n else none)/\Below w.heap.size w w':=
 (zdq l v x w hl).mono fun e w' ⟨he,hb⟩=>by
   cases h:ye l x with
   | none=>exact⟨0,false,by rw [he,h];rfl,rfl,hb⟩
   | some y=>exact⟨y,true,by rw [he,h];rfl,rfl,hb⟩
theorem Kq (p q:Bool) (w:World):Calls Tryz.prog 62 #[.agg #[.bool p,.bool q]] w fun e w'=>e=.returned (.bool (p || q))/\Below w.heap.size w w':=by
 cases p<;>cases q <;>
  (go_enter Tryz.func62,Tryz.ntmps62
   go_wp2
   go_ret
   exact⟨rfl,(Below.refl _ _).alloc (Nat.le_refl _) _⟩)
theorem Kp (p q:Bool) (w:World):Calls Tryz.prog 116 #[.agg #[.bool p,.bool q]] w fun e w'=>e=.returned (.bool (p && !q))/\Below w.heap.size w w':=by
 cases p<;>cases q <;>
  (go_enter Tryz.func116,Tryz.ntmps116
   go_wp2
   go_ret
   exact⟨rfl,(Below.refl _ _).alloc (Nat.le_refl _) _⟩)
theorem Xi (a1 a2:Option Addr) (n1 n2 c1 c2:Nat) (w:World):Calls Tryz.prog 88 #[.slice a1 n1 c1,.slice a2 n2 c2] w fun e w'=>
 e=.returned (.func (.func 106) #[] #[.pointer (some ⟨w.heap.size,0,none⟩),.pointer (some ⟨w.heap.size+1,0,none⟩)]) /\
  w'=(w.alloc (.cells #[.slice a1 n1 c1] 28)).alloc (.cells #[.slice a2 n2 c2] 28):=by
 go_enter Tryz.func88,Tryz.ntmps88
 go_wp2
 go_ret
 exact⟨rfl,rfl⟩
def Suf (a a':List Iv) (x:Nat):Prop:=∃ d,a=d++a'/\∀ s ∈ d,s.hi<x
theorem Suf.refl (a:List Iv) (x:Nat):Suf a a x:=⟨[],rfl,fun _ h=>by cases h⟩
theorem Suf.mono {a a':List Iv} {x y:Nat} (h:Suf a a' x) (hy:x<=y):Suf a a' y:=by
 obtain⟨d,h1,h2⟩:=h;exact⟨d,h1,fun s hs=>by have:=h2 s hs;omega⟩
theorem Suf.drop {a a':List Iv} {s:Iv} {x:Nat} (h:Suf a (s::a') x) (hs:s.hi<x):Suf a a' x:=by
 obtain⟨d,h1,h2⟩:=h
 exact⟨d++[s],by simp [h1],fun t ht=>by simp at ht;rcases ht with ht | rfl;exact h2 t ht;exact hs⟩
theorem Suf.mem_eq {a a':List Iv} {x z:Nat} (h:Suf a a' x) (hz:x<=z):mem a z=mem a' z:=by
 obtain⟨d,rfl,h2⟩:=h
 rw [yd]
 have:mem d z=false:=by
  cases e:mem d z with
  | false=>rfl
  | true=>obtain⟨s,hs,_,h3⟩:=qf.1 e;have:=h2 s hs;omega
 rw [this,Bool.false_or]
theorem Suf.nrm {a a':List Iv} {x n:Nat} (ha:NF n a) (h:Suf a a' x):NF n a':=by
 obtain⟨d,rfl,h2⟩:=h
 clear h2
 induction d generalizing n with
 | nil=>exact ha
 | cons s d ih=>exact ih ha.tail
theorem Suf.nxt_eq {a a':List Iv} {x z n:Nat} (ha:NF n a) (h:Suf a a' x) (hz:x<=z):ye a z=ye a' z:=by
 obtain⟨d,rfl,h2⟩:=h
 induction d generalizing n with
 | nil=>rfl
 | cons s d ih=>
   rw [List.cons_append,zdt (by have:=h2 s (by simp);omega) ha.2.1]
   exact ih (fun t ht=>h2 t (by simp [ht])) ha.2.2.2
theorem Qg {a':List Iv} {s:Iv} {x n:Nat} (ha:NF n (s::a')) (h:x<=s.hi):mem (s::a') x=decide (s.lo<=x):=by
 rw [zz,ha.2.2.2.mem_lt (by omega)]
 simp [h]
def za1 (x:Iv × Bool × Bool):Array Value:=#[.agg #[.int .u64 x.1.lo,.int .u64 x.1.hi],.agg #[.bool x.2.1,.bool x.2.2]]
structure PInv (a b:List Iv) (Ba Bb n0:Nat) (w:World) (x:Nat) (a' b':List Iv) (va vb:Value):Prop where
 bxa:Boxed w Ba 28 va
 bxb:Boxed w Bb 28 vb
 ra:RdR 0 n0 w va a'
 rb:RdR 0 n0 w vb b'
 sa:Suf a a' x
 sb:Suf b b' x
theorem PInv.at {a b:List Iv} {Ba Bb n0:Nat} {S:Nat->Prop} {w w':World} {x y:Nat} {a' b':List Iv} {va vb:Value} (h:PInv a b Ba Bb n0 w x a' b' va vb) (hk:Keep S w w') (hn:n0<=w.heap.size) (hs:∀ k,k<n0\/k=Ba\/k=Bb->¬ S k) (hy:x<=y) :
 PInv a b Ba Bb n0 w' y a' b' va vb:=
 ⟨hk.boxed h.bxa (hs _ (.inr (.inl rfl))),hk.boxed h.bxb (hs _ (.inr (.inr rfl))),h.ra.keep (Nat.le_refl _) (Nat.le_refl _) fun b _ h2=>hk.block b (by omega) (hs b (.inl h2)),
  h.rb.keep (Nat.le_refl _) (Nat.le_refl _) fun b _ h2=>hk.block b (by omega) (hs b (.inl h2)),h.sa.mono hy,h.sb.mono hy⟩
theorem PInv.setA {a b:List Iv} {Ba Bb n0:Nat} {w:World} {x:Nat} {s:Iv} {a' b':List Iv} {va va' vb:Value} (h:PInv a b Ba Bb n0 w x (s::a') b' va vb) (hB:n0<=Ba) (hne:Ba≠Bb) (hs:s.hi<x) (hr:RdR 0 n0 w va' a') :
 PInv a b Ba Bb n0 (w.setCell ⟨Ba,0,none⟩ va') x a' b' va' vb:=
 ⟨h.bxa.set va',h.bxb.other hne.symm va',hr.keep (Nat.le_refl _) (Nat.le_refl _) fun b _ h2=>Below.heap_setCell _ _ _ _ (by show b≠Ba;omega),
  h.rb.keep (Nat.le_refl _) (Nat.le_refl _) fun b _ h2=>Below.heap_setCell _ _ _ _ (by show b≠Ba;omega),h.sa.drop hs,h.sb⟩
theorem PInv.setB {a b:List Iv} {Ba Bb n0:Nat} {w:World} {x:Nat} {s:Iv} {a' b':List Iv} {va vb vb':Value} (h:PInv a b Ba Bb n0 w x a' (s::b') va vb) (hB:n0<=Bb) (hne:Ba≠Bb) (hs:s.hi<x) (hr:RdR 0 n0 w vb' b') :
 PInv a b Ba Bb n0 (w.setCell ⟨Bb,0,none⟩ vb') x a' b' va vb':=
 ⟨h.bxa.other hne vb',h.bxb.set vb',h.ra.keep (Nat.le_refl _) (Nat.le_refl _) fun b _ h2=>Below.heap_setCell _ _ _ _ (by show b≠Bb;omega),
  hr.keep (Nat.le_refl _) (Nat.le_refl _) fun b _ h2=>Below.heap_setCell _ _ _ _ (by show b≠Bb;omega),h.sa,h.sb.drop hs⟩
def Fit (a':List Iv) (x:Nat):Prop:=∀ s r,a'=s::r->x<=s.hi
theorem RdR.tail {hi:Nat} {w:World} {ad:Option Addr} {n cap:Nat} {s:Iv} {l:List Iv} (h:RdR 0 hi w (.slice ad n cap) (s::l)) :
 ∃ b off,ad=some ⟨b,off,none⟩/\n=l.length+1/\b<hi/\rdIv w b off s/\l.length+1<=cap/\cap<=maxLen/\RdR 0 hi w (.slice (if cap=1 then some ⟨b,off,none⟩ else some ⟨b,off+2,none⟩) l.length (cap - 1)) l:=by
 obtain⟨a,c,hv,h1,h2,h3⟩:=h
 obtain⟨rfl,rfl,rfl⟩:ad=a/\n=(s::l).length/\cap=c:=by simpa using hv
 obtain⟨b,off,rfl,_,hb,hc⟩:=h3 (by simp)
 refine⟨b,off,rfl,rfl,hb,(by have:=hc 0 (by simp);rwa [Nat.zero_mul,Nat.add_zero] at this),by simpa using h1,h2,?_⟩
 refine⟨_,_,rfl,by simp at h1;omega,by omega,fun hne=>?_⟩
 have hl:0<l.length:=List.length_pos_iff.2 hne
 refine⟨b,off+2,by rw [if_neg (by simp at h1;omega)],Nat.zero_le _,hb,fun i hi=>?_⟩
 have:=hc (i+1) (by simp;omega)
 rw [show off+(i+1) * 2=off+2+i * 2 from by omega] at this
 simpa using this
theorem J7 (a b:List Iv) (va0 vb0:Value) (Ba Bb n0:Nat) (W0:World) (ha:Nrm a) (hb:Nrm b) (hne:Ba≠Bb) (hBa:n0<=Ba) (hBb:n0<=Bb)
 (h00:PInv a b Ba Bb n0 W0 0 a b va0 vb0) :
 zbY Tryz.prog 106 #[.pointer (some ⟨Ba,0,none⟩),.pointer (some ⟨Bb,0,none⟩)] za1 (fun k=>k=Ba\/k=Bb) (fun k=>k<n0\/k=Ba\/k=Bb) (yO a b) W0:=by
 intro l J Jx hJ hJx hY h0
 refine callsIn_wide.2 ?_
 show Calls Tryz.prog 106 #[.func (.yield l) #[] #[],.pointer (some ⟨Ba,0,none⟩),.pointer (some ⟨Bb,0,none⟩)] W0 _
 have HJ:=Lib.hid hJ
 have HJx:=Lib.hid hJx
 have HY:=Lib.hid hY
 clear hJ hJx hY
 go_enter Tryz.func106,Tryz.ntmps106
 go_wp2_with fail
 go_loopg [4] zk (fun g x wr=>∃(xn f:Nat) (a' b':List Iv) (va vb:Value) (pre:List (Iv × Bool × Bool)),x=.int .u64 xn/\xn<zk/\g=zk - xn/\PInv a b Ba Bb n0 wr xn a' b' va vb/\Hid (yO a b=pre++QU a b f xn)/\zk<=f+xn/\J pre wr)
 case atStart=>exact⟨0,zk,a,b,va0,vb0,[],rfl,xM,rfl,h00,rfl,by omega,h0⟩
 case round=>
  obtain⟨xn,f,a',b',va,vb,pre,rfl,hx,rfl,hP,hpc,hf,hJp⟩:=hrel
  clear h0 h00
  go_upto_block 2 with fail
  go_cut [] (fun wc=>∃ a2 va2,PInv a b Ba Bb n0 wc xn a2 b' va2 vb/\Fit a2 xn/\J pre wc)
  case first=>
   go_wp2_with fail
   go_loopg [] a'.length (fun g wl=>∃(a2:List Iv) (va2:Value),g=a2.length/\PInv a b Ba Bb n0 wl xn a2 b' va2 vb/\J pre wl)
   case atStart=>exact⟨a',va,rfl,hP,hJp⟩
   case round=>
    clear hP hJp
    obtain⟨a2,va2,rfl,hP,hJp⟩:=hrel
    have hca:=hP.bxa.cell
    have hfa:=hP.bxa.frozen
    have hra:=hP.ra
    cases a2 with
    | nil=>
      obtain⟨ad,cap,rfl,_⟩:=hra
      go_wp2
      go_meet
      exact⟨[],_,hP,(fun _ _ e=>by cases e),hJp⟩
    | cons s r=>
      have hva:=hra
      obtain⟨ad,cap,rfl,_⟩:=hva
      obtain⟨bb,off,rfl,_,hbb,hs,hcap,hcm,htl⟩:=hra.tail
      obtain⟨c1,c2,s1,s2⟩:=hs
      have HT:=Lib.hid htl
      clear hra htl
      unfold maxLen at hcm
      by_cases hlt:s.hi<xn
      ·by_cases h1:cap=1
       ·subst h1
        obtain rfl:r=[]:=List.eq_nil_of_length_eq_zero (by omega)
        go_wp2
        go_roundg 0
        case measure=>simp
        case rel=>exact⟨[],_,rfl,hP.setA hBa hne hlt (by have:=HT.out;simpa using this),HJ.out _ _ _ hJp ((Keep.refl _ _).setCell (p:=⟨Ba,0,none⟩) (fun _=>.inl rfl) _)⟩
       ·go_wp2
        go_roundg r.length
        case measure=>simp
        case rel=>exact⟨r,_,rfl,hP.setA hBa hne hlt (by have:=HT.out;rw [if_neg h1] at this;simpa using this),HJ.out _ _ _ hJp ((Keep.refl _ _).setCell (p:=⟨Ba,0,none⟩) (fun _=>.inl rfl) _)⟩
      ·go_wp2
       go_meet
       exact⟨s::r,_,hP,(fun _ _ e=>by cases e;omega),hJp⟩
  case rest=>
   clear hP hJp
   obtain⟨a2,va2,hP,hFa,hJp⟩:=hcut
   go_upto_block 4 with fail
   go_cut [] (fun wc=>∃ b2 vb2,PInv a b Ba Bb n0 wc xn a2 b2 va2 vb2/\Fit b2 xn/\J pre wc)
   case first=>
    go_wp2_with fail
    go_loopg [] b'.length (fun g wl=>∃(b2:List Iv) (vb2:Value),g=b2.length/\PInv a b Ba Bb n0 wl xn a2 b2 va2 vb2/\J pre wl)
    case atStart=>exact⟨b',vb,rfl,hP,hJp⟩
    case round=>
     clear hP hJp
     obtain⟨b2,vb2,rfl,hP,hJp⟩:=hrel
     have hca:=hP.bxb.cell
     have hfa:=hP.bxb.frozen
     have hra:=hP.rb
     cases b2 with
     | nil=>
       obtain⟨ad,cap,rfl,_⟩:=hra
       go_wp2
       go_meet
       exact⟨[],_,hP,(fun _ _ e=>by cases e),hJp⟩
     | cons s r=>
       have hva:=hra
       obtain⟨ad,cap,rfl,_⟩:=hva
       obtain⟨bb,off,rfl,_,hbb,hs,hcap,hcm,htl⟩:=hra.tail
       obtain⟨c1,c2,s1,s2⟩:=hs
       have HT:=Lib.hid htl
       clear hra htl
       unfold maxLen at hcm
       by_cases hlt:s.hi<xn
       ·by_cases h1:cap=1
        ·subst h1
         obtain rfl:r=[]:=List.eq_nil_of_length_eq_zero (by omega)
         go_wp2
         go_roundg 0
         case measure=>simp
         case rel=>exact⟨[],_,rfl,hP.setB hBb hne hlt (by have:=HT.out;simpa using this),HJ.out _ _ _ hJp ((Keep.refl _ _).setCell (p:=⟨Bb,0,none⟩) (fun _=>.inr rfl) _)⟩
        ·go_wp2
         go_roundg r.length
         case measure=>simp
         case rel=>exact⟨r,_,rfl,hP.setB hBb hne hlt (by have:=HT.out;rw [if_neg h1] at this;simpa using this),HJ.out _ _ _ hJp ((Keep.refl _ _).setCell (p:=⟨Bb,0,none⟩) (fun _=>.inr rfl) _)⟩
       ·go_wp2
        go_meet
        exact⟨s::r,_,hP,(fun _ _ e=>by cases e;omega),hJp⟩
   case rest=>
    clear hP hJp
    obtain⟨b2,vb2,hP,hFb,hJp⟩:=hcut
    go_upto_region 5 with fail
    go_cut [5] (fun s5 wd=>∃ Bs,s5=.pointer (some ⟨Bs,0,none⟩)/\PInv a b Ba Bb n0 wd xn a2 b2 va2 vb2/\J pre wd/\wd.cell? ⟨Bs,0,none⟩=some (.bool (mem a xn))/\wd.cell? ⟨Bs,1,none⟩=some (.bool (mem b xn))/\n0<=wd.heap.size)
    case first=>
     have hma:=hP.sa.mem_eq (Nat.le_refl _)
     have hmb:=hP.sb.mem_eq (Nat.le_refl _)
     have hna:=hP.sa.nrm ha
     have hnb:=hP.sb.nrm hb
     have ca:=hP.bxa.cell
     have cb:=hP.bxb.cell
     have hlt1:=hP.bxa.lt
     have hlt2:=hP.bxb.lt
     have hra:=hP.ra
     have hrb:=hP.rb
     cases a2 with
     | nil=>
       obtain⟨ad,capa,rfl,_⟩:=hra
       have HMA:=Lib.hid hma
       clear hma hna
       cases b2 with
       | nil=>
         obtain⟨bd,capb,rfl,_⟩:=hrb
         have HMB:=Lib.hid hmb
         clear hmb hnb
         have hwn:n0<=wc.heap.size:=by omega
         have HP:=Lib.hid (And.intro hP (And.intro hJp (And.intro hFa hFb)))
         clear hP hFa hFb hlt1 hlt2 hf
         refine Kg (Sw:=qe) 24 99 (fun w'=>w'.cell? ⟨Ba,0,none⟩=some (.slice ad 0 capa)/\w'.cell? ⟨Bb,0,none⟩=some (.slice bd 0 capb)) (by kernel_rfl) (by kernel_rfl) rfl ⟨ca,cb⟩ ?_
         simp only [List.take_succ_cons,List.take_zero]
         repeat (first
          | (refine zev ?_ rfl (fun a w hc _ hr=>?_) ?_;rotate_left;(simp [Rds,zA,lk,Op.operands,Call.operands,RdEq] at hr;go_simp;with_reducible rfl);dsimp only [List.nil_append,List.cons_append])
          | (refine jI rfl ?_ ?_;(first | exact .inl (zG rfl rfl) | exact .inr (zG rfl rfl));dsimp only [List.nil_append,List.cons_append])
          | (refine V6 rfl ?_ ?_ (fun a w hc _ hr=>?_) ?_;exact(zG rfl rfl);rotate_left;(simp [Rds,zA,lk,Op.operands,Call.operands,RdEq] at hr;go_simp;with_reducible rfl);dsimp only [List.nil_append,List.cons_append]))
         refine V7 (fun u w=>∃ B,u=.pointer (some ⟨B,0,none⟩)/\w.heap[B]? = some (.cells #[.bool false,.bool false] 97 (0,0))/\wc.heap.size<=B) (fun u w w' ⟨B,h1,h2,h3⟩ hk=>⟨B,h1,hk.obj h2 id,h3⟩) rfl ?_ ?_
         ·intro a w hc hk hr K hK
          have HK:=Lib.hid hK
          clear hK
          go_simp
          exact HK.out _ _ ((Keep.refl _ _).alloc _) ⟨((Keep.refl qe w).alloc _).cell_some hc.1 id,((Keep.refl qe w).alloc _).cell_some hc.2 id⟩ ⟨w.heap.size,rfl,World.alloc_heap_new w _,hk.size⟩
         dsimp only [List.nil_append,List.cons_append]
         intro w hc hk
         simp only [finG,forall_eq]
         rintro u ⟨B,rfl,hB,hBn⟩
         simp only [List.drop_succ_cons,List.drop_zero]
         have c0:w.cell? ⟨B,0,none⟩=some (.bool false):=by simp [World.cell?,hB]
         have c1:w.cell? ⟨B,1,none⟩=some (.bool false):=by simp [World.cell?,hB]
         have f0:w.frozen? ⟨B,0,none⟩=false:=by simp [World.frozen?,hB]
         have f1:w.frozen? ⟨B,1,none⟩=false:=by simp [World.frozen?,hB]
         clear hB hc
         simp only [Act.put,List.setIfInBounds_toArray,List.set_cons_succ,List.set_cons_zero]
         go_wp2
         go_meet
         have hkk:∀ u v,Keep qe wc ((w.setCell ⟨B,0,none⟩ u).setCell ⟨B,1,none⟩ v):=fun u v=>((((Keep.refl qe wc).drew).trans hk).setCell (p:=⟨B,0,none⟩) (fun h=>by exact absurd h (by simpa using hBn)) _).setCell (p:=⟨B,1,none⟩) (fun h=>by exact absurd h (by simpa using hBn)) _
         exact⟨B,rfl,HP.out.1.at (hkk _ _) hwn (fun _ _=>id) (Nat.le_refl _),HJ.out _ _ _ HP.out.2.1 ((hkk _ _).mono fun _ _ h=>h.elim),by rw [HMA.out];go_simp,by rw [HMB.out];go_simp,Nat.le_trans hwn (hkk _ _).size⟩
       | cons t r2=>
         have hvb:=hrb
         obtain⟨bd,capb,rfl,_⟩:=hvb
         obtain⟨bb,ob,rfl,_,_,hsb,hcapb,hcmb,_⟩:=hrb.tail
         have HMB:=Lib.hid (hmb.trans (Qg hnb (hFb _ _ rfl)))
         have ct:=hsb.1
         unfold maxLen at hcmb
         clear hmb hnb hrb hsb
         have hwn:n0<=wc.heap.size:=by omega
         have HP:=Lib.hid (And.intro hP (And.intro hJp (And.intro hFa hFb)))
         clear hP hFa hFb hlt1 hlt2 hf
         refine Kg (Sw:=qe) 24 99 (fun w'=>w'.cell? ⟨Ba,0,none⟩=some (.slice ad 0 capa)/\w'.cell? ⟨Bb,0,none⟩=some (.slice (some ⟨bb,ob,none⟩) (r2.length+1) capb)/\w'.cell? ⟨bb,ob,none⟩=some (.int .u64 t.lo)) (by kernel_rfl) (by kernel_rfl) rfl ⟨ca,cb,ct⟩ ?_
         simp only [List.take_succ_cons,List.take_zero]
         repeat (first
          | (refine zev ?_ rfl (fun a w hc _ hr=>?_) ?_;rotate_left;(simp [Rds,zA,lk,Op.operands,Call.operands,RdEq] at hr;go_simp;with_reducible rfl);dsimp only [List.nil_append,List.cons_append])
          | (refine jI rfl ?_ ?_;(first | exact .inl (zG rfl rfl) | exact .inr (zG rfl rfl));dsimp only [List.nil_append,List.cons_append])
          | (refine V6 rfl ?_ ?_ (fun a w hc _ hr=>?_) ?_;exact(zG rfl rfl);rotate_left;(simp [Rds,zA,lk,Op.operands,Call.operands,RdEq] at hr;go_simp;with_reducible rfl);dsimp only [List.nil_append,List.cons_append]))
         refine V7 (fun u w=>∃ B,u=.pointer (some ⟨B,0,none⟩)/\w.heap[B]? = some (.cells #[.bool false,.bool false] 97 (0,0))/\wc.heap.size<=B) (fun u w w' ⟨B,h1,h2,h3⟩ hk=>⟨B,h1,hk.obj h2 id,h3⟩) rfl ?_ ?_
         ·intro a w hc hk hr K hK
          have HK:=Lib.hid hK
          clear hK
          go_simp
          exact HK.out _ _ ((Keep.refl _ _).alloc _) ⟨((Keep.refl qe w).alloc _).cell_some hc.1 id,((Keep.refl qe w).alloc _).cell_some hc.2.1 id,((Keep.refl qe w).alloc _).cell_some hc.2.2 id⟩ ⟨w.heap.size,rfl,World.alloc_heap_new w _,hk.size⟩
         dsimp only [List.nil_append,List.cons_append]
         intro w hc hk
         simp only [finG,forall_eq]
         rintro u ⟨B,rfl,hB,hBn⟩
         simp only [List.drop_succ_cons,List.drop_zero]
         have c0:w.cell? ⟨B,0,none⟩=some (.bool false):=by simp [World.cell?,hB]
         have c1:w.cell? ⟨B,1,none⟩=some (.bool false):=by simp [World.cell?,hB]
         have f0:w.frozen? ⟨B,0,none⟩=false:=by simp [World.frozen?,hB]
         have f1:w.frozen? ⟨B,1,none⟩=false:=by simp [World.frozen?,hB]
         clear hB hc
         simp only [Act.put,List.setIfInBounds_toArray,List.set_cons_succ,List.set_cons_zero]
         go_wp2
         go_meet
         have hkk:∀ u v,Keep qe wc ((w.setCell ⟨B,0,none⟩ u).setCell ⟨B,1,none⟩ v):=fun u v=>((((Keep.refl qe wc).drew).trans hk).setCell (p:=⟨B,0,none⟩) (fun h=>by exact absurd h (by simpa using hBn)) _).setCell (p:=⟨B,1,none⟩) (fun h=>by exact absurd h (by simpa using hBn)) _
         exact⟨B,rfl,HP.out.1.at (hkk _ _) hwn (fun _ _=>id) (Nat.le_refl _),HJ.out _ _ _ HP.out.2.1 ((hkk _ _).mono fun _ _ h=>h.elim),by rw [HMA.out];go_simp,by rw [HMB.out];go_simp,Nat.le_trans hwn (hkk _ _).size⟩
     | cons s r1=>
       have hva:=hra
       obtain⟨ad,capa,rfl,_⟩:=hva
       obtain⟨ba,oa,rfl,_,_,hsa,hcapa,hcma,_⟩:=hra.tail
       have HMA:=Lib.hid (hma.trans (Qg hna (hFa _ _ rfl)))
       have cs:=hsa.1
       unfold maxLen at hcma
       clear hma hna hra hsa
       cases b2 with
       | nil=>
         obtain⟨bd,capb,rfl,_⟩:=hrb
         have HMB:=Lib.hid hmb
         clear hmb hnb
         have hwn:n0<=wc.heap.size:=by omega
         have HP:=Lib.hid (And.intro hP (And.intro hJp (And.intro hFa hFb)))
         clear hP hFa hFb hlt1 hlt2 hf
         refine Kg (Sw:=qe) 24 99 (fun w'=>w'.cell? ⟨Ba,0,none⟩=some (.slice (some ⟨ba,oa,none⟩) (r1.length+1) capa)/\w'.cell? ⟨Bb,0,none⟩=some (.slice bd 0 capb)/\w'.cell? ⟨ba,oa,none⟩=some (.int .u64 s.lo)) (by kernel_rfl) (by kernel_rfl) rfl ⟨ca,cb,cs⟩ ?_
         simp only [List.take_succ_cons,List.take_zero]
         repeat (first
          | (refine zev ?_ rfl (fun a w hc _ hr=>?_) ?_;rotate_left;(simp [Rds,zA,lk,Op.operands,Call.operands,RdEq] at hr;go_simp;with_reducible rfl);dsimp only [List.nil_append,List.cons_append])
          | (refine jI rfl ?_ ?_;(first | exact .inl (zG rfl rfl) | exact .inr (zG rfl rfl));dsimp only [List.nil_append,List.cons_append])
          | (refine V6 rfl ?_ ?_ (fun a w hc _ hr=>?_) ?_;exact(zG rfl rfl);rotate_left;(simp [Rds,zA,lk,Op.operands,Call.operands,RdEq] at hr;go_simp;with_reducible rfl);dsimp only [List.nil_append,List.cons_append]))
         refine V7 (fun u w=>∃ B,u=.pointer (some ⟨B,0,none⟩)/\w.heap[B]? = some (.cells #[.bool false,.bool false] 97 (0,0))/\wc.heap.size<=B) (fun u w w' ⟨B,h1,h2,h3⟩ hk=>⟨B,h1,hk.obj h2 id,h3⟩) rfl ?_ ?_
         ·intro a w hc hk hr K hK
          have HK:=Lib.hid hK
          clear hK
          go_simp
          exact HK.out _ _ ((Keep.refl _ _).alloc _) ⟨((Keep.refl qe w).alloc _).cell_some hc.1 id,((Keep.refl qe w).alloc _).cell_some hc.2.1 id,((Keep.refl qe w).alloc _).cell_some hc.2.2 id⟩ ⟨w.heap.size,rfl,World.alloc_heap_new w _,hk.size⟩
         dsimp only [List.nil_append,List.cons_append]
         intro w hc hk
         simp only [finG,forall_eq]
         rintro u ⟨B,rfl,hB,hBn⟩
         simp only [List.drop_succ_cons,List.drop_zero]
         have c0:w.cell? ⟨B,0,none⟩=some (.bool false):=by simp [World.cell?,hB]
         have c1:w.cell? ⟨B,1,none⟩=some (.bool false):=by simp [World.cell?,hB]
         have f0:w.frozen? ⟨B,0,none⟩=false:=by simp [World.frozen?,hB]
         have f1:w.frozen? ⟨B,1,none⟩=false:=by simp [World.frozen?,hB]
         clear hB hc
         simp only [Act.put,List.setIfInBounds_toArray,List.set_cons_succ,List.set_cons_zero]
         go_wp2
         go_meet
         have hkk:∀ u v,Keep qe wc ((w.setCell ⟨B,0,none⟩ u).setCell ⟨B,1,none⟩ v):=fun u v=>((((Keep.refl qe wc).drew).trans hk).setCell (p:=⟨B,0,none⟩) (fun h=>by exact absurd h (by simpa using hBn)) _).setCell (p:=⟨B,1,none⟩) (fun h=>by exact absurd h (by simpa using hBn)) _
         exact⟨B,rfl,HP.out.1.at (hkk _ _) hwn (fun _ _=>id) (Nat.le_refl _),HJ.out _ _ _ HP.out.2.1 ((hkk _ _).mono fun _ _ h=>h.elim),by rw [HMA.out];go_simp,by rw [HMB.out];go_simp,Nat.le_trans hwn (hkk _ _).size⟩
       | cons t r2=>
         have hvb:=hrb
         obtain⟨bd,capb,rfl,_⟩:=hvb
         obtain⟨bb,ob,rfl,_,_,hsb,hcapb,hcmb,_⟩:=hrb.tail
         have HMB:=Lib.hid (hmb.trans (Qg hnb (hFb _ _ rfl)))
         have ct:=hsb.1
         unfold maxLen at hcmb
         clear hmb hnb hrb hsb
         have hwn:n0<=wc.heap.size:=by omega
         have HP:=Lib.hid (And.intro hP (And.intro hJp (And.intro hFa hFb)))
         clear hP hFa hFb hlt1 hlt2 hf
         refine Kg (Sw:=qe) 24 99 (fun w'=>w'.cell? ⟨Ba,0,none⟩=some (.slice (some ⟨ba,oa,none⟩) (r1.length+1) capa)/\w'.cell? ⟨Bb,0,none⟩=some (.slice (some ⟨bb,ob,none⟩) (r2.length+1) capb)/\w'.cell? ⟨ba,oa,none⟩=some (.int .u64 s.lo)/\w'.cell? ⟨bb,ob,none⟩=some (.int .u64 t.lo)) (by kernel_rfl) (by kernel_rfl) rfl ⟨ca,cb,cs,ct⟩ ?_
         simp only [List.take_succ_cons,List.take_zero]
         repeat (first
          | (refine zev ?_ rfl (fun a w hc _ hr=>?_) ?_;rotate_left;(simp [Rds,zA,lk,Op.operands,Call.operands,RdEq] at hr;go_simp;with_reducible rfl);dsimp only [List.nil_append,List.cons_append])
          | (refine jI rfl ?_ ?_;(first | exact .inl (zG rfl rfl) | exact .inr (zG rfl rfl));dsimp only [List.nil_append,List.cons_append])
          | (refine V6 rfl ?_ ?_ (fun a w hc _ hr=>?_) ?_;exact(zG rfl rfl);rotate_left;(simp [Rds,zA,lk,Op.operands,Call.operands,RdEq] at hr;go_simp;with_reducible rfl);dsimp only [List.nil_append,List.cons_append]))
         refine V7 (fun u w=>∃ B,u=.pointer (some ⟨B,0,none⟩)/\w.heap[B]? = some (.cells #[.bool false,.bool false] 97 (0,0))/\wc.heap.size<=B) (fun u w w' ⟨B,h1,h2,h3⟩ hk=>⟨B,h1,hk.obj h2 id,h3⟩) rfl ?_ ?_
         ·intro a w hc hk hr K hK
          have HK:=Lib.hid hK
          clear hK
          go_simp
          exact HK.out _ _ ((Keep.refl _ _).alloc _) ⟨((Keep.refl qe w).alloc _).cell_some hc.1 id,((Keep.refl qe w).alloc _).cell_some hc.2.1 id,((Keep.refl qe w).alloc _).cell_some hc.2.2.1 id,((Keep.refl qe w).alloc _).cell_some hc.2.2.2 id⟩ ⟨w.heap.size,rfl,World.alloc_heap_new w _,hk.size⟩
         dsimp only [List.nil_append,List.cons_append]
         intro w hc hk
         simp only [finG,forall_eq]
         rintro u ⟨B,rfl,hB,hBn⟩
         simp only [List.drop_succ_cons,List.drop_zero]
         have c0:w.cell? ⟨B,0,none⟩=some (.bool false):=by simp [World.cell?,hB]
         have c1:w.cell? ⟨B,1,none⟩=some (.bool false):=by simp [World.cell?,hB]
         have f0:w.frozen? ⟨B,0,none⟩=false:=by simp [World.frozen?,hB]
         have f1:w.frozen? ⟨B,1,none⟩=false:=by simp [World.frozen?,hB]
         clear hB hc
         simp only [Act.put,List.setIfInBounds_toArray,List.set_cons_succ,List.set_cons_zero]
         go_wp2
         go_meet
         have hkk:∀ u v,Keep qe wc ((w.setCell ⟨B,0,none⟩ u).setCell ⟨B,1,none⟩ v):=fun u v=>((((Keep.refl qe wc).drew).trans hk).setCell (p:=⟨B,0,none⟩) (fun h=>by exact absurd h (by simpa using hBn)) _).setCell (p:=⟨B,1,none⟩) (fun h=>by exact absurd h (by simpa using hBn)) _
         exact⟨B,rfl,HP.out.1.at (hkk _ _) hwn (fun _ _=>id) (Nat.le_refl _),HJ.out _ _ _ HP.out.2.1 ((hkk _ _).mono fun _ _ h=>h.elim),by rw [HMA.out];go_simp,by rw [HMB.out];go_simp,Nat.le_trans hwn (hkk _ _).size⟩
    case rest=>
     clear hP hJp
     obtain⟨Bs,rfl,hP,hJp,hs0,hs1,hn0⟩:=hcut
     have hnA:ye a xn=ye a2 xn:=hP.sa.nxt_eq ha (Nat.le_refl _)
     have hnB:ye b xn=ye b2 xn:=hP.sb.nxt_eq hb (Nat.le_refl _)
     have HNA:=Lib.hid hnA
     have HNB:=Lib.hid hnB
     clear hnA hnB hFa hFb
     obtain⟨pa,hpa⟩:∃ p,mem a xn=p:=⟨_,rfl⟩
     obtain⟨pb,hpb⟩:∃ p,mem b xn=p:=⟨_,rfl⟩
     rw [hpa] at hs0
     rw [hpb] at hs1
     have HPA:=Lib.hid hpa
     have HPB:=Lib.hid hpb
     clear hpa hpb
     have ca:=hP.bxa.cell
     have hlb:=hP.bxb.lt
     have hls:Bs<wc.heap.size:=World.block_lt_of_cell? wc _ hs0
     go_wp2_with fail
     refine(Vs a2 va2 xn _ (hP.ra.keep (Nat.le_refl _) hn0 fun _ _ _=>rfl)).mono ?_
     rintro e w1 ⟨n1,m1,rfl,hm1,hb1⟩
     clear ca
     have hP1:=hP.at (S:=qe) (Keep.of_below' hb1 (Nat.le_refl _)) hn0 (fun _ _=>id) (Nat.le_refl _)
     have hJ1:=HJ.out _ _ _ hJp (Keep.of_below' hb1 (Nat.le_refl _))
     have hs0:=(hb1.cell (p:=⟨Bs,0,none⟩) hls).trans hs0
     have hs1:=(hb1.cell (p:=⟨Bs,1,none⟩) hls).trans hs1
     have hn1:n0<=w1.heap.size:=Nat.le_trans hn0 hb1.size
     have hls:=World.block_lt_of_cell? w1 _ hs0
     clear hP hJp hb1 hn0
     have cb:=hP1.bxb.cell
     go_wp2_with fail
     refine(Vs b2 vb2 xn _ (hP1.rb.keep (Nat.le_refl _) hn1 fun _ _ _=>rfl)).mono ?_
     rintro e w2 ⟨n2,m2,rfl,hm2,hb2⟩
     clear cb
     have hP2:=hP1.at (S:=qe) (Keep.of_below' hb2 (Nat.le_refl _)) hn1 (fun _ _=>id) (Nat.le_refl _)
     have hJ2:=HJ.out _ _ _ hJ1 (Keep.of_below' hb2 (Nat.le_refl _))
     have hs0:=(hb2.cell (p:=⟨Bs,0,none⟩) hls).trans hs0
     have hs1:=(hb2.cell (p:=⟨Bs,1,none⟩) hls).trans hs1
     have hn2:n0<=w2.heap.size:=Nat.le_trans hn1 hb2.size
     clear hP1 hJ1 hb2 hn1
     go_upto_region 8 with fail
     go_cut [81] (fun s81 wx=>∃ c:Bool,s81=.bool c/\wx=w2/\Hid (c=(m2 && (!m1 || decide (n2<n1)))))
     case first=>
      cases m2
      ·go_wp2_with fail
       go_meet
       exact⟨false,rfl,rfl,rfl⟩
      ·cases m1
       ·go_wp2_with fail
        go_meet
        exact⟨true,rfl,rfl,rfl⟩
       ·go_wp2_with fail
        go_meet
        exact⟨_,rfl,rfl,by simp [Hid]⟩
     case rest=>
      obtain⟨c,rfl,rfl,hc⟩:=hcut
      cases c with
      | true=>
        have hm:m2=true/\kv (ye a xn) (ye b xn)=some n2:=by
         have:=hc.out
         rw [HNA.out,HNB.out,hm1.out,hm2.out]
         cases m2<;>cases m1<;>simp [kv] at this ⊢
         omega
        obtain⟨rfl,hmin⟩:=hm
        have hmin:=Lib.hid hmin
        have hnx:Hid (ye b xn=some n2):=by show _=_;rw [HNB.out,hm2.out];rfl
        clear hc hm1 hm2 HNA HNB
        have hy0:xn<n2/\n2<zk:=by
         have h:=hnx.out
         exact⟨xr h,vJ hb h⟩
        obtain⟨f',rfl⟩:∃ f',f=f'+1:=⟨f - 1,by omega⟩
        have hpcs:Hid (QU a b (f'+1) xn=(⟨xn,n2 - 1⟩,pa,pb)::QU a b f' n2):=by
         show QU a b (f'+1) xn=_
         conv=>lhs;unfold QU
         rw [hmin.out,HPA.out,HPB.out]
        obtain⟨fn,tmps,assign,body,hy,hR⟩:=HY.out pre (⟨xn,n2 - 1⟩,pa,pb) wc hJ2 ⟨QU a b f' n2,by rw [hpc.out,hpcs.out];simp⟩
        dsimp only [za1] at hy
        have hw1:IntKind.u64.wrap ((n2:Int) - 1)=((n2 - 1:Nat):Int):=Zj (by omega) hy0.2
        obtain⟨y1,hy1⟩:∃ y1,y1=n2 - 1:=⟨_,rfl⟩
        rw [<-hy1] at hy hw1 hR
        have HY1:=Lib.hid hy1
        clear hy1
        go_upto_region 13 with fail
        refine(wpIn_wide (n:=8)).1 ?_
        gi_wp2
        refine hR.mono ?_
        rintro e w3 (⟨rfl,hJ3,hk3⟩ | ⟨rfl,hJx3⟩)
        ·gi_wp2
         go_wp2
         go_roundg (zk - n2)
         case measure=>omega
         case rel=>exact⟨n2,f',a2,b2,va2,vb2,pre++[(⟨xn,y1⟩,pa,pb)],rfl,hy0.2,rfl,hP2.at hk3 hn2 (fun k hk h=>h hk) (by omega),by show yO a b=_;rw [hpc.out,hpcs.out,HY1.out];simp,by omega,hJ3⟩
        ·gi_wp2
         go_wp2
         refine bodyPost_ret (results_none rfl _ _ _) rfl ?_
         exact⟨⟨_,rfl⟩,.inr ⟨pre++[(⟨xn,y1⟩,pa,pb)],⟨QU a b f' n2,by rw [hpc.out,hpcs.out,HY1.out];simp⟩,hJx3⟩⟩
      | false=>
        cases m1 with
        | true=>
          have hmin:Hid (kv (ye a xn) (ye b xn)=some n1):=by
           have:=hc.out
           show _=_
           rw [HNA.out,HNB.out,hm1.out,hm2.out]
           cases m2<;>simp [kv] at this ⊢
           omega
          have hnx:Hid (ye a xn=some n1):=by show _=_;rw [HNA.out,hm1.out];rfl
          clear hc hm1 hm2 HNA HNB
          have hy0:xn<n1/\n1<zk:=by
           have h:=hnx.out
           exact⟨xr h,vJ ha h⟩
          obtain⟨f',rfl⟩:∃ f',f=f'+1:=⟨f - 1,by omega⟩
          have hpcs:Hid (QU a b (f'+1) xn=(⟨xn,n1 - 1⟩,pa,pb)::QU a b f' n1):=by
           show QU a b (f'+1) xn=_
           conv=>lhs;unfold QU
           rw [hmin.out,HPA.out,HPB.out]
          obtain⟨fn,tmps,assign,body,hy,hR⟩:=HY.out pre (⟨xn,n1 - 1⟩,pa,pb) wc hJ2 ⟨QU a b f' n1,by rw [hpc.out,hpcs.out];simp⟩
          dsimp only [za1] at hy
          have hw1:IntKind.u64.wrap ((n1:Int) - 1)=((n1 - 1:Nat):Int):=Zj (by omega) hy0.2
          obtain⟨y1,hy1⟩:∃ y1,y1=n1 - 1:=⟨_,rfl⟩
          rw [<-hy1] at hy hw1 hR
          have HY1:=Lib.hid hy1
          clear hy1
          go_upto_region 13 with fail
          refine(wpIn_wide (n:=8)).1 ?_
          gi_wp2
          refine hR.mono ?_
          rintro e w3 (⟨rfl,hJ3,hk3⟩ | ⟨rfl,hJx3⟩)
          ·gi_wp2
           go_wp2
           go_roundg (zk - n1)
           case measure=>omega
           case rel=>exact⟨n1,f',a2,b2,va2,vb2,pre++[(⟨xn,y1⟩,pa,pb)],rfl,hy0.2,rfl,hP2.at hk3 hn2 (fun k hk h=>h hk) (by omega),by show yO a b=_;rw [hpc.out,hpcs.out,HY1.out];simp,by omega,hJ3⟩
          ·gi_wp2
           go_wp2
           refine bodyPost_ret (results_none rfl _ _ _) rfl ?_
           exact⟨⟨_,rfl⟩,.inr ⟨pre++[(⟨xn,y1⟩,pa,pb)],⟨QU a b f' n1,by rw [hpc.out,hpcs.out,HY1.out];simp⟩,hJx3⟩⟩
        | false=>
          have hmin:Hid (kv (ye a xn) (ye b xn)=none):=by
           have:=hc.out
           show _=_
           rw [HNA.out,HNB.out,hm1.out,hm2.out]
           cases m2<;>simp [kv] at this ⊢
          clear hc hm1 hm2 HNA HNB
          obtain⟨f',rfl⟩:∃ f',f=f'+1:=⟨f - 1,by omega⟩
          have hpcs:Hid (QU a b (f'+1) xn=[(⟨xn,zk - 1⟩,pa,pb)]):=by
           show QU a b (f'+1) xn=_
           conv=>lhs;unfold QU
           rw [hmin.out,HPA.out,HPB.out]
          obtain⟨fn,tmps,assign,body,hy,hR⟩:=HY.out pre (⟨xn,zk - 1⟩,pa,pb) wc hJ2 ⟨[],by rw [hpc.out,hpcs.out];simp⟩
          dsimp only [za1] at hy
          rw [show ((zk - 1:Nat):Int)=18446744073709551615 from rfl] at hy
          go_upto_region 13 with fail
          refine(wpIn_wide (n:=8)).1 ?_
          gi_wp2
          refine hR.mono ?_
          rintro e w3 (⟨rfl,hJ3,hk3⟩ | ⟨rfl,hJx3⟩)
          ·gi_wp2
           go_wp2
           refine bodyPost_ret (results_none rfl _ _ _) rfl ?_
           exact⟨⟨_,rfl⟩,.inl (by rw [hpc.out,hpcs.out];exact hJ3)⟩
          ·gi_wp2
           go_wp2
           refine bodyPost_ret (results_none rfl _ _ _) rfl ?_
           exact⟨⟨_,rfl⟩,.inr ⟨pre++[(⟨xn,zk - 1⟩,pa,pb)],⟨[],by rw [hpc.out,hpcs.out];simp⟩,hJx3⟩⟩
attribute [local go_sem] Oper.semAt_some
def cps (l:List Iv):List Nat:=l.flatMap fun s=>[s.lo,s.hi+1]
theorem ZY (l:List Iv):(cps l).length=2 * l.length:=by
 induction l with
 | nil=>rfl
 | cons s l ih=>simp [cps] at ih ⊢;omega
theorem zah {l:List Iv} {x y:Nat} (h:ye l x=some y):y ∈ cps l:=by
 induction l with
 | nil=>cases h
 | cons s l ih=>
   unfold ye at h
   split at h
   ·cases h;simp [cps]
   ·split at h
    ·cases h;simp [cps]
    ·have:=ih h;simp [cps] at this ⊢;exact .inr (.inr this)
def YV (l:List Nat) (x:Nat):Nat:=l.countP fun y=>decide (x<y)
theorem ZX (l:List Nat) {x y:Nat} (h:x<y):YV l y<=YV l x:=by
 unfold YV
 exact List.countP_mono_left fun z _ hz=>by simp at hz ⊢;omega
theorem zcr {l:List Nat} {x y:Nat} (h:x<y) (hm:y ∈ l):YV l y+1<=YV l x:=by
 induction l with
 | nil=>cases hm
 | cons z l ih=>
   unfold YV
   rw [List.countP_cons,List.countP_cons]
   rcases List.mem_cons.1 hm with rfl | hm
   ·have:=ZX l h
    unfold YV at this
    simp [h];omega
   ·have:=ih hm
    unfold YV at this
    by_cases h1:y<z
    ·have h2:x<z:=by omega
     simp [h1,h2];omega
    ·simp [h1];omega
theorem Qs (a b:List Iv):∀(f x:Nat),(QU a b f x).length<=YV (cps a) x+YV (cps b) x+1
 | 0,_=>Nat.zero_le _
 | f+1,x=>by
   unfold QU
   cases h:kv (ye a x) (ye b x) with
   | none=>simp
   | some y=>
     have ih:=Qs a b f y
     have:YV (cps a) y+YV (cps b) y+1<=YV (cps a) x+YV (cps b) x:=by
      have key:ye a x=some y\/ye b x=some y:=by
       cases ea:ye a x<;>cases eb:ye b x<;>rw [ea,eb] at h<;>simp only [kv] at h
       ·cases h
       ·exact .inr h
       ·exact .inl h
       ·split at h
        ·exact .inr h
        ·exact .inl h
      rcases key with h | h
      ·have:=zcr (xr h) (zah h)
       have:=ZX (cps b) (xr h)
       omega
      ·have:=zcr (xr h) (zah h)
       have:=ZX (cps a) (xr h)
       omega
     simp;omega
theorem jF (a b:List Iv):(yO a b).length<=2 * (a.length+b.length)+1:=by
 have h1:=Qs a b zk 0
 have h2:YV (cps a) 0<=2 * a.length:=by rw [<-ZY];exact List.countP_le_length
 have h3:YV (cps b) 0<=2 * b.length:=by rw [<-ZY];exact List.countP_le_length
 unfold yO;omega
theorem J9 (out:List Iv) (s:Iv):(Q8 out s).length<=out.length+1:=by
 unfold Q8
 split
 ·simp
 ·rename_i t ht
  split
  ·have:out≠[]:=by intro e;subst e;simp at ht
   have:=List.length_pos_iff.2 this
   simp
   try omega
  ·simp
theorem jD (f:Bool->Bool->Bool) (xs:List (Iv × Bool × Bool)):∀ out:List Iv,(qg f out xs).length<=out.length+xs.length:=by
 induction xs with
 | nil=>intro out;simp [qg]
 | cons x xs ih=>
   intro out
   obtain⟨s,p,q⟩:=x
   simp only [qg]
   by_cases e:f p q=true
   ·have h1:=ih (Q8 out s)
    have h2:=J9 out s
    rw [if_pos e]
    simp only [List.length_cons];omega
   ·have h1:=ih out
    rw [if_neg e]
    simp only [List.length_cons];omega
theorem xq {f:Bool->Bool->Bool} {a b:List Iv}:∀(pre:List (Iv × Bool × Bool)) (x:Nat) (out:List Iv) (y:Iv × Bool × Bool) (r:List (Iv × Bool × Bool)),Cov a b x (pre++y::r)->Nrm out->(∀ t ∈ out,t.hi<x) ->
 Nrm (qg f out pre)/\(∀ t ∈ qg f out pre,t.hi<y.1.lo)/\y.1.lo<=y.1.hi/\y.1.hi<zk
 | [],x,out,(s,p,q),r,⟨h1,h2,h3,_⟩,ho,ht=>⟨ho,fun t h=>by have:=ht t h;show t.hi<s.lo;omega,by show s.lo<=s.hi;omega,h3⟩
 | (s,p,q)::pre,x,out,y,r,⟨h1,h2,h3,_,h5⟩,ho,ht=>by
   simp only [qg]
   have g:=Xm (s:=s) ho (fun t h=>by have:=ht t h;omega) (by omega) h3
   split
   ·exact xq pre _ _ y r h5 g.1 fun t h=>by have:=g.2.2 t h;omega
   ·exact xq pre _ _ y r h5 ho fun t h=>by have:=ht t h;omega
theorem zcT (o:List Iv) (t:Iv) (hi:Nat):(xw (o++[t])).set (o.length * 2+1) (.int .u64 hi)=xw (o++[⟨t.lo,hi⟩]):=by
 rw [vy,vy,List.set_append_right _ _ (by rw [y6];omega),y6]
 congr 1
 rw [show o.length * 2+1 - o.length * 2=1 from by omega]
 rfl
theorem OwnR.last {base:Nat} {w:World} {ad:Option Addr} {n cap:Nat} {o:List Iv} {t:Iv} (h:OwnR base w (.slice ad n cap) (o++[t])) :
 ∃ g,base<=g/\ad=some ⟨g,0,none⟩/\o.length+1<=cap/\cap<=maxLen/\w.cell? ⟨g,o.length * 2,none⟩=some (.int .u64 t.lo)/\w.cell? ⟨g,o.length * 2+1,none⟩=some (.int .u64 t.hi)/\t.lo<zk/\t.hi<zk:=by
 have hb:=h.2 t (by simp)
 have h1:=h.1
 rcases id h1.2 with⟨_,h0⟩ | ⟨g,cap',cur,hv,hg,hh,hn,hc,_⟩
 ·simp at h0
 ·simp only [Value.slice.injEq] at hv
  obtain⟨rfl,rfl,rfl⟩:=hv
  have hf:=vz (o++[t]) o.length (by simp)
  simp only [List.getElem_concat_length] at hf
  refine⟨g,hg,rfl,by simpa using hn,hc,?_,?_,hb⟩
  ·rw [h1.cellAt _ (by simp)];exact hf.1
  ·rw [h1.cellAt _ (by simp;omega)];exact hf.2
theorem OwnR.setHi {base:Nat} {w:World} {g n cap:Nat} {o:List Iv} {t:Iv} (h:OwnR base w (.slice (some ⟨g,0,none⟩) n cap) (o++[t])) (hn:n=o.length+1) (hi:Nat) (hh:hi<zk) :
 OwnR base (w.setCell ⟨g,o.length * 2+1,none⟩ (.int .u64 hi)) (.slice (some ⟨g,0,none⟩) n cap) (o++[⟨t.lo,hi⟩]):=by
 subst hn
 have h1:=h.1
 simp only [List.length_append,List.length_cons,List.length_nil,Nat.zero_add] at h1
 have:=(h1.stored (o.length * 2+1) (.int .u64 hi)).1
 rw [zcT] at this
 refine⟨by simpa using this,fun u hu=>?_⟩
 simp at hu
 rcases hu with hu | rfl
 ·exact h.2 u (by simp [hu])
 ·exact⟨(h.2 t (by simp)).1,hh⟩
theorem vG (f:Bool->Bool->Bool) (fid:Nat) (hent:∀ args w,(callFunc fid args).run Tryz.prog w=.ok (.enter fid args) w)
 (htk:∀ p q w,Calls Tryz.prog fid #[.agg #[.bool p,.bool q]] w fun e w'=>e=.returned (.bool (f p q))/\Below w.heap.size w w')
 (a b:List Iv) (va vb:Value) (w:World) (ha:Nrm a) (hb:Nrm b) (ra:RdR 0 w.heap.size w va a) (rb:RdR 0 w.heap.size w vb b) (hlen:a.length+b.length<=1073741824) :
 Calls Tryz.prog 61 #[va,vb,.func (.func fid) #[] #[]] w fun e w'=>∃ v,e=.returned v/\OwnR w.heap.size w' v (qy f a b)/\Below w.heap.size w w':=by
 obtain⟨aa,ca,rfl,_⟩:=id ra
 obtain⟨ab,cb,rfl,_⟩:=id rb
 refine callsIn_wide.1 (callsIn_of_wp_marks (n:=9) Tryz.func61 rfl trivial ?_ rfl)
 simp only [Tryz.ntmps61,List.size_toArray,List.length_cons,List.length_nil,Nat.reduceAdd,Nat.reduceSub,Array.replicate_succ,Array.replicate_zero,List.push_toArray,List.append_toArray,List.nil_append,List.cons_append]
 gi_wp2_with (refine⟨trivial,?_⟩;gi_at_call 88;refine(callsIn_wide.2 (Xi _ _ _ _ _ _ _)).mono ?_;rintro e w' ⟨rfl,rfl⟩)
 obtain⟨W0,hW0⟩:∃ W0,((((w.alloc (Obj.cells #[Value.func (Fn.func fid) #[] #[]] 98)).alloc (Obj.cells #[Value.slice none 0 0] 28)).alloc (Obj.cells #[Value.slice aa a.length ca] 28)).alloc (Obj.cells #[Value.slice ab b.length cb] 28))=W0:=⟨_,rfl⟩
 have hsz:W0.heap.size=w.heap.size+4:=by rw [<-hW0];simp
 have b0:Boxed W0 w.heap.size 98 (Value.func (Fn.func fid) #[] #[]):=by rw [<-hW0];exact(((Boxed.new w _ _).alloc _).alloc _).alloc _
 have b1:Boxed W0 (w.heap.size+1) 28 (Value.slice none 0 0):=by rw [<-hW0];have:=Boxed.new (w.alloc (Obj.cells #[Value.func (Fn.func fid) #[] #[]] 98)) 28 (Value.slice none 0 0);rw [World.size_alloc] at this;exact(this.alloc _).alloc _
 have b2:Boxed W0 (w.heap.size+1+1) 28 (Value.slice aa a.length ca):=by rw [<-hW0];have:=Boxed.new ((w.alloc (Obj.cells #[Value.func (Fn.func fid) #[] #[]] 98)).alloc (Obj.cells #[Value.slice none 0 0] 28)) 28 (Value.slice aa a.length ca);simp only [World.size_alloc] at this;exact this.alloc _
 have b3:Boxed W0 (w.heap.size+1+1+1) 28 (Value.slice ab b.length cb):=by rw [<-hW0];have:=Boxed.new (((w.alloc (Obj.cells #[Value.func (Fn.func fid) #[] #[]] 98)).alloc (Obj.cells #[Value.slice none 0 0] 28)).alloc (Obj.cells #[Value.slice aa a.length ca] 28)) 28 (Value.slice ab b.length cb);simp only [World.size_alloc] at this;exact this
 have hB0:Below w.heap.size w W0:=by rw [<-hW0];exact((((Below.refl _ _).alloc (Nat.le_refl _) _).alloc (by simp) _).alloc (by simp;omega) _).alloc (by simp;omega) _
 rw [hW0]
 clear hW0
 have hcov:=j4 ha hb
 have hpl:=jF a b
 refine ziP (w:=W0) 106 #[.pointer (some ⟨w.heap.size+1+1,0,none⟩),.pointer (some ⟨w.heap.size+1+1+1,0,none⟩)] rfl (enters_of Tryz.func106 (by kernel_rfl) rfl) za1 (fun _=>rfl)
  (fun k=>k=w.heap.size+1+1\/k=w.heap.size+1+1+1) (fun k=>k<w.heap.size\/k=w.heap.size+1+1\/k=w.heap.size+1+1+1) (yO a b) ?hit
  (fun k=>k=w.heap.size+1\/w.heap.size+6<=k) (fun k hk=>by omega) (by omega) ⟨by omega,by omega⟩
  (fun pre W=>(∃ v,Boxed W (w.heap.size+1) 28 v/\OwnR (w.heap.size+6) W v (qg f [] pre))/\Boxed W w.heap.size 98 (Value.func (Fn.func fid) #[] #[])/\Below w.heap.size w W)
  (fun _ _ _=>False) ?hI (fun _ _ _ _ h _=>h) ⟨⟨_,b1,OwnR.nil _ _⟩,b0,hB0⟩
  (fun pre x a' W=>((∃ v,Boxed W (w.heap.size+1) 28 v/\OwnR (w.heap.size+6) W v (qg f [] pre))/\Boxed W w.heap.size 98 (Value.func (Fn.func fid) #[] #[])/\Below w.heap.size w W) /\
    ∃ Bp Bs,W.heap[Bp]? = some (.cells #[.int .u64 x.1.lo,.int .u64 x.1.hi] 35 (0,0))/\W.heap[Bs]? = some (.cells #[.bool x.2.1,.bool x.2.2] 97 (0,0))/\w.heap.size+6<=Bp/\w.heap.size+6<=Bs /\
    a'={ tmps:=#[Value.slice aa a.length ca,Value.slice ab b.length cb,Value.func (Fn.func fid) #[] #[],undef,undef,Value.pointer (some ⟨w.heap.size,0,none⟩),Value.slice none 0 0,Value.pointer (some ⟨w.heap.size+1,0,none⟩),Value.pointer (some ⟨Bp,0,none⟩),Value.pointer (some ⟨Bs,0,none⟩),undef,Value.slice aa a.length ca,Value.slice ab b.length cb,Value.func (Fn.func 106) #[] #[Value.pointer (some ⟨w.heap.size+1+1,0,none⟩),Value.pointer (some ⟨w.heap.size+1+1+1,0,none⟩)],.agg #[.int .u64 x.1.lo,.int .u64 x.1.hi],.agg #[.bool x.2.1,.bool x.2.2],undef,undef,undef,undef,undef,undef,undef,undef,undef,undef,undef,undef,undef,undef,undef,undef,undef,undef,undef,undef,undef,undef,undef,undef,undef,undef,undef,undef,undef],defers:=[] })
  ?hAx ?hassign ?hbody ?hdone (fun _ _ _ _ h _=>h.elim)
 case hit=>
  intro W hk _
  exact J7 a b _ _ (w.heap.size+1+1) (w.heap.size+1+1+1) w.heap.size W ha hb (by omega) (by omega) (by omega)
   ⟨hk.boxed b2 id,hk.boxed b3 id,ra.below (hB0.trans (hk.below (by omega) fun _ _=>id)) (Nat.le_refl _),rb.below (hB0.trans (hk.below (by omega) fun _ _=>id)) (Nat.le_refl _),Suf.refl _ _,Suf.refl _ _⟩
 case hI=>
  rintro pre A B ⟨⟨v,h1,h2⟩,h3,h4⟩ hk
  exact⟨⟨v,hk.boxed h1 (by omega),h2.keep hk (fun g hg=>by omega)⟩,hk.boxed h3 (by omega),h4.trans (hk.below h4.size fun k hk=>by omega)⟩
 case hAx=>
  rintro pre x a' A B ⟨⟨⟨v,h1,h2⟩,h3,h4⟩,Bp,Bs,hp,hs,hp6,hs6,rfl⟩ hk
  exact⟨⟨⟨v,hk.boxed h1 (by omega),h2.keep hk (fun g hg=>by omega)⟩,hk.boxed h3 (by omega),h4.trans (hk.below h4.size fun k hk=>by omega)⟩,Bp,Bs,hk.obj hp (by omega),hk.obj hs (by omega),hp6,hs6,rfl⟩
 case hassign=>
  rintro l pre ⟨⟨lo,hi⟩,p,q⟩ W hpx hlt ⟨⟨v,h1,h2⟩,h3,h4⟩
  clear hpx
  dsimp only [za1]
  gi_wp2
  have hka:∀ o1 o2,Keep (fun k=>k=w.heap.size+1\/w.heap.size+6<=k) W ((W.alloc o1).alloc o2):=fun o1 o2=>((Keep.refl _ _).alloc _).alloc _
  refine⟨hka _ _,⟨⟨v,(h1.alloc _).alloc _,(h2.keep ((Keep.refl qe W).alloc _) fun _ _=>id).keep ((Keep.refl qe _).alloc _) fun _ _=>id⟩,(h3.alloc _).alloc _,(h4.alloc h4.size _).alloc (by simp;have:=h4.size;omega) _⟩,
   W.heap.size,W.heap.size+1,?_,?_,by omega,by omega,rfl⟩
  ·exact(Below.heap_alloc _ _ _ (by simp)).trans (World.alloc_heap_new W _)
  ·have:=World.alloc_heap_new (W.alloc (.cells #[.int .u64 lo,.int .u64 hi] 35)) (.cells #[.bool p,.bool q] 97)
   rwa [World.size_alloc] at this
 case hbody=>
  rintro l pre x a' W ⟨r,hpx⟩ hlt ⟨⟨⟨v,h1,h2⟩,h3,h4⟩,Bp,Bs,hp,hs,hp6,hs6,rfl⟩
  obtain⟨⟨lo,hi⟩,p,q⟩:=x
  obtain⟨m1,m2,m3,m4⟩:=xq (f:=f) pre 0 [] (⟨lo,hi⟩,p,q) r (by rw [show pre++(⟨lo,hi⟩,p,q)::r=yO a b from by rw [<-hpx];simp];exact hcov) trivial (fun _ h=>by cases h)
  have hml:=jD f pre []
  have hpr:pre.length+1<=(yO a b).length:=by rw [<-hpx];simp
  have c3:=h3.cell
  have cs0:W.cell? ⟨Bs,0,none⟩=some (.bool p):=by simp [World.cell?,hs]
  have cs1:W.cell? ⟨Bs,1,none⟩=some (.bool q):=by simp [World.cell?,hs]
  obtain⟨i0,hi0,hz0,hz1,hz2⟩:=info_parts Tryz.infoIv
  have HM:=Lib.hid (And.intro hpx (And.intro hcov (And.intro hpl (And.intro m1 (And.intro m2 m3)))))
  dsimp only at m3 m4
  clear hpx hcov m1 m2 hs
  gi_wp2_with fail
  refine⟨trivial,CallsIn.mono (CallsIn.inRound l (callsIn_wide.2 (htk p q W))) ?_⟩
  rintro e W1 ⟨rfl,hb1⟩
  have hk1:Keep qe W W1:=Keep.of_below' hb1 (Nat.le_refl _)
  have h1':=hk1.boxed h1 id
  have h2':=h2.keep hk1 fun _ _=>id
  have h3':=hk1.boxed h3 id
  have h4':=h4.trans (hb1.mono h4.size)
  have hp':=hk1.obj hp id
  have hlt':w.heap.size+6<=W1.heap.size:=by have:=hk1.size;omega
  have HK1:=Lib.hid hk1
  clear hb1 hk1 h1 h2 h3 h4 hp c3 cs0 cs1
  obtain⟨out,hout⟩:∃ out,out=qg f [] pre:=⟨_,rfl⟩
  rw [<-hout] at h2' hml
  have HO:=Lib.hid hout
  clear hout
  have c1:=h1'.cell
  have cp0:W1.cell? ⟨Bp,0,none⟩=some (.int .u64 lo):=by simp [World.cell?,hp']
  have cp1:W1.cell? ⟨Bp,1,none⟩=some (.int .u64 hi):=by simp [World.cell?,hp']
  cases ht:f p q with
  | false=>
    have HT:=Lib.hid ht
    gi_wp2
    exact⟨HK1.out.mono fun _ _ h=>h.elim,⟨v,h1',by rw [yf];simp only [qg,HT.out,<-HO.out];exact h2'⟩,h3',h4'⟩
  | true=>
    have HT:=Lib.hid ht
    obtain⟨ad,cap,rfl⟩:=h2'.val
    have HH:=Lib.hid h2'
    clear h2'
    rcases List.eq_nil_or_concat out with rfl | ⟨o',t,rfl⟩
    ·gi_wp2_with fail
     refine Kh (Sw:=qe) (fun _=>trivial) 11 45 (fun _=>True) (by kernel_rfl) (by kernel_rfl) rfl trivial ?_
     simp only [List.take_succ_cons,List.take_zero]
     repeat (first
      | (refine V5 (fun _=>trivial) ?_ rfl (fun a w hc _ hr=>?_) ?_;rotate_left;(simp [Rds,zA,lk,Op.operands,Call.operands,RdEq] at hr;go_simp;with_reducible rfl);dsimp only [List.nil_append,List.cons_append])
      | (refine jI rfl ?_ ?_;(first | exact .inl (zG rfl rfl) | exact .inr (zG rfl rfl));dsimp only [List.nil_append,List.cons_append])
      | (refine QQ (fun _=>trivial) rfl ?_ ?_ (fun a w hc _ hr=>?_) ?_;exact(zG rfl rfl);rotate_left;(simp [Rds,zA,lk,Op.operands,Call.operands,RdEq] at hr;go_simp;with_reducible rfl);dsimp only [List.nil_append,List.cons_append]))
     intro w2 _ hk2
     simp only [finG,forall_eq,List.nil_append,List.cons_append,List.drop_succ_cons,List.drop_zero,List.drop_nil]
     simp only [Act.put,List.setIfInBounds_toArray,List.set_cons_succ,List.set_cons_zero]
     have hk2':Keep qe W1 w2:=((Keep.refl qe W1).drew).trans hk2
     have e1:=hk2'.boxed h1' id
     have e3:=hk2'.boxed h3' id
     have e4:=h4'.trans (hk2'.below h4'.size fun _ _=>id)
     have eo:=(HH.out).keep hk2' fun _ _=>id
     have HE:=Lib.hid (And.intro eo (And.intro e3 e4))
     have d1:=e1.cell
     have d2:w2.cell? ⟨Bp,0,none⟩=some (.int .u64 lo):=hk2'.cell_some cp0 id
     have d3:w2.cell? ⟨Bp,1,none⟩=some (.int .u64 hi):=hk2'.cell_some cp1 id
     have hlt2:w.heap.size+6<=w2.heap.size:=Nat.le_trans hlt' hk2'.size
     have HK2:=Lib.hid hk2'
     clear hk2 hk2' e3 e4 eo c1 cp0 cp1 h1' h3' h4'
     gi_wp2_with (gi_at_builtin;go_loud (refine wpListIn_append_own _ rfl _ _ 28 rfl (w.heap.size+6) 35 i0 (.agg #[.int .u64 0,.int .u64 0]) 2 16 Tryz.underlying28 hi0 hz0 hz1 hz2 rfl (by decide) _ _ _ rfl (HE.out.1.1.alloc _) ⟨w2.heap.size,0,none⟩ 1 1 [.int .u64 lo,.int .u64 hi] rfl rfl (kw (cs:=#[.int .u64 lo,.int .u64 hi]) (t := 35) (fr:=(0,0)) (World.alloc_heap_new w2 _)) (by simp [Value.oneCell']) (by unfold maxLen;first | decide | omega) (by first | decide | omega) (by rw [World.size_alloc];omega) ?_);intro v' w3 hown' hgrow _;obtain⟨g',cap',rfl⟩:=ownsRow_succ hown';obtain⟨q1,q2,q3,q4⟩:=qO e1 (by decide) HE.out.1.1 hown' hgrow;have q1c:=q1.cell;have q1f:=q1.frozen)
     refine⟨((HK1.out.trans HK2.out).mono fun _ _ h=>h.elim).trans (q4.mono fun k _ h=>h),⟨_,q2,?_⟩,q4.boxed HE.out.2.1 (by omega),HE.out.2.2.trans (q4.below HE.out.2.2.size fun k _=>by omega)⟩
     rw [yf]
     simp only [qg,HT.out,if_true,<-HO.out]
     exact HE.out.1.snoc ⟨by show lo<zk;omega,by show hi<zk;omega⟩ q3
    ·simp only [List.concat_eq_append,List.length_append,List.length_cons,List.length_nil,Nat.zero_add] at *
     obtain⟨g,hgb,rfl,hcap,hcm,hct0,hct1,htb⟩:=HH.out.last
     have htl:t.lo<=t.hi/\t.hi<zk:=by
      have:=NF.lo_ge HM.out.2.2.2.1 t (by rw [<-HO.out];simp)
      exact⟨this.2.1,this.2.2⟩
     have hts:t.hi<lo:=HM.out.2.2.2.2.1 t (by rw [<-HO.out];simp)
     have ct0:W1.cell? ⟨g,o'.length * 2,none⟩=some (.int .u64 t.lo):=hct0
     have ct1:W1.cell? ⟨g,o'.length * 2+1,none⟩=some (.int .u64 t.hi):=hct1
     clear hct0 hct1
     unfold maxLen at hcm
     have hix:((o'.length:Nat):Int)<(o'.length:Int)+1:=by omega
     gi_wp2_with fail
     by_cases htt:t.hi+1=lo
     ·have hrel:(((zR t ⟨lo,hi⟩:Nat):Int) == 1)=true:=by
       have:zR t ⟨lo,hi⟩=1:=by unfold zR;rw [if_pos hts,if_pos htt]
       rw [this];rfl
      have HTT:=Lib.hid htt
      clear htt
      refine Kh (Sw:=qe) (fun _=>trivial) 11 45 (fun w'=>w'.cell? ⟨w.heap.size+1,0,none⟩=some (.slice (some ⟨g,0,none⟩) (o'.length+1) cap)/\w'.cell? ⟨g,o'.length * 2,none⟩=some (.int .u64 t.lo)/\w'.cell? ⟨g,o'.length * 2+1,none⟩=some (.int .u64 t.hi)/\w'.cell? ⟨Bp,0,none⟩=some (.int .u64 lo)/\w'.cell? ⟨Bp,1,none⟩=some (.int .u64 hi)) (by kernel_rfl) (by kernel_rfl) rfl ⟨c1,ct0,ct1,cp0,cp1⟩ ?_
      simp only [List.take_succ_cons,List.take_zero]
      repeat (first
       | (refine V5 (fun _=>trivial) ?_ rfl (fun a w hc _ hr=>?_) ?_;rotate_left;(simp [Rds,zA,lk,Op.operands,Call.operands,RdEq] at hr;go_simp;with_reducible rfl);dsimp only [List.nil_append,List.cons_append])
       | (refine jI rfl ?_ ?_;(first | exact .inl (zG rfl rfl) | exact .inr (zG rfl rfl));dsimp only [List.nil_append,List.cons_append])
       | (refine QQ (fun _=>trivial) rfl ?_ ?_ (fun a w hc _ hr=>?_) ?_;exact(zG rfl rfl);rotate_left;(simp [Rds,zA,lk,Op.operands,Call.operands,RdEq] at hr;go_simp;with_reducible rfl);dsimp only [List.nil_append,List.cons_append]))
      refine zhg (fun u _=>u=.int .i64 ((zR t ⟨lo,hi⟩:Nat):Int)) (yj _) rfl (zG rfl rfl) ?_ ?_
      ·intro a2 w2 hc hk hr K hK
       have HK:=Lib.hid hK
       clear hK
       simp [Rds,zA,lk,Op.operands,Call.operands,RdEq] at hr
       refine⟨fun _ _=>trivial,?_⟩
       go_simp
       refine CallsIn.mono (CallsIn.inRound l (callsIn_wide.2 (QF t ⟨lo,hi⟩ _ htl.1 (by show lo<=hi;omega) htl.2 (by show hi<zk;omega)))) ?_
       rintro e w3 ⟨rfl,hb⟩
       have hkb:Keep qe w2 w3:=Keep.of_below' hb (Nat.le_refl _)
       exact HK.out _ _ hkb ⟨hkb.cell_some hc.1 id,hkb.cell_some hc.2.1 id,hkb.cell_some hc.2.2.1 id,hkb.cell_some hc.2.2.2.1 id,hkb.cell_some hc.2.2.2.2 id⟩ rfl
      dsimp only [List.nil_append,List.cons_append]
      repeat (first
       | (refine V5 (fun _=>trivial) ?_ rfl (fun a w hc _ hr=>?_) ?_;rotate_left;(simp [Rds,zA,lk,Op.operands,Call.operands,RdEq] at hr;go_simp;with_reducible rfl);dsimp only [List.nil_append,List.cons_append])
       | (refine jI rfl ?_ ?_;(first | exact .inl (zG rfl rfl) | exact .inr (zG rfl rfl));dsimp only [List.nil_append,List.cons_append])
       | (refine QQ (fun _=>trivial) rfl ?_ ?_ (fun a w hc _ hr=>?_) ?_;exact(zG rfl rfl);rotate_left;(simp [Rds,zA,lk,Op.operands,Call.operands,RdEq] at hr;go_simp;with_reducible rfl);dsimp only [List.nil_append,List.cons_append]))
      intro w2 _ hk2
      simp only [finG,forall_eq,List.nil_append,List.cons_append,List.drop_succ_cons,List.drop_zero,List.drop_nil]
      simp only [Act.put,List.setIfInBounds_toArray,List.set_cons_succ,List.set_cons_zero]
      have hk2':Keep qe W1 w2:=((Keep.refl qe W1).drew).trans hk2
      have e1:=hk2'.boxed h1' id
      have e3:=hk2'.boxed h3' id
      have e4:=h4'.trans (hk2'.below h4'.size fun _ _=>id)
      have eo:=(HH.out).keep hk2' fun _ _=>id
      have er:w2.ownsRow (w.heap.size+6) 35 2 (.slice (some ⟨g,0,none⟩) (o'.length+1) cap) (o'.length+1) (xw (o'++[t])):=by have:=eo.1;simpa using this
      have ER:=Lib.hid er
      have HE:=Lib.hid (And.intro eo (And.intro e3 e4))
      have d1:=e1.cell
      have d3:w2.cell? ⟨Bp,1,none⟩=some (.int .u64 hi):=hk2'.cell_some cp1 id
      have d4:w2.cell? ⟨g,o'.length * 2+1,none⟩=some (.int .u64 t.hi):=hk2'.cell_some ct1 id
      have d5:w2.frozen? ⟨g,o'.length * 2+1,none⟩=false:=er.frozenAt _
      have HK2:=Lib.hid hk2'
      clear hk2 hk2' e3 e4 eo er c1 cp0 cp1 ct0 ct1 h1' h3' h4'
      gi_wp2
      have hkg:Keep (fun k=>k=g) w2 (w2.setCell ⟨g,o'.length * 2+1,none⟩ (.int .u64 hi)):=(Keep.refl (fun k=>k=g) w2).setCell (p:=⟨g,o'.length * 2+1,none⟩) (fun _=>rfl) _
      refine⟨((HK1.out.trans HK2.out).mono fun _ _ h=>h.elim).trans (hkg.mono fun k _ h=>.inr (by rw [h];exact hgb)),⟨_,hkg.boxed e1 (by omega),?_⟩,hkg.boxed HE.out.2.1 (by omega),HE.out.2.2.trans (hkg.below HE.out.2.2.size fun k hk=>by omega)⟩
      rw [yf]
      simp only [qg,HT.out,if_true,<-HO.out]
      rw [show Q8 (o'++[t]) ⟨lo,hi⟩=o'++[⟨t.lo,hi⟩] from by unfold Q8;rw [List.getLast?_concat];simp only;rw [if_pos HTT.out,List.dropLast_concat]]
      exact HE.out.1.setHi rfl hi (by omega)
     ·have hrel:(((zR t ⟨lo,hi⟩:Nat):Int) == 1)=false:=by
       have:zR t ⟨lo,hi⟩=0:=by unfold zR;rw [if_pos hts,if_neg htt]
       rw [this];rfl
      have HTT:=Lib.hid htt
      clear htt
      refine Kh (Sw:=qe) (fun _=>trivial) 11 45 (fun w'=>w'.cell? ⟨w.heap.size+1,0,none⟩=some (.slice (some ⟨g,0,none⟩) (o'.length+1) cap)/\w'.cell? ⟨g,o'.length * 2,none⟩=some (.int .u64 t.lo)/\w'.cell? ⟨g,o'.length * 2+1,none⟩=some (.int .u64 t.hi)/\w'.cell? ⟨Bp,0,none⟩=some (.int .u64 lo)/\w'.cell? ⟨Bp,1,none⟩=some (.int .u64 hi)) (by kernel_rfl) (by kernel_rfl) rfl ⟨c1,ct0,ct1,cp0,cp1⟩ ?_
      simp only [List.take_succ_cons,List.take_zero]
      repeat (first
       | (refine V5 (fun _=>trivial) ?_ rfl (fun a w hc _ hr=>?_) ?_;rotate_left;(simp [Rds,zA,lk,Op.operands,Call.operands,RdEq] at hr;go_simp;with_reducible rfl);dsimp only [List.nil_append,List.cons_append])
       | (refine jI rfl ?_ ?_;(first | exact .inl (zG rfl rfl) | exact .inr (zG rfl rfl));dsimp only [List.nil_append,List.cons_append])
       | (refine QQ (fun _=>trivial) rfl ?_ ?_ (fun a w hc _ hr=>?_) ?_;exact(zG rfl rfl);rotate_left;(simp [Rds,zA,lk,Op.operands,Call.operands,RdEq] at hr;go_simp;with_reducible rfl);dsimp only [List.nil_append,List.cons_append]))
      refine zhg (fun u _=>u=.int .i64 ((zR t ⟨lo,hi⟩:Nat):Int)) (yj _) rfl (zG rfl rfl) ?_ ?_
      ·intro a2 w2 hc hk hr K hK
       have HK:=Lib.hid hK
       clear hK
       simp [Rds,zA,lk,Op.operands,Call.operands,RdEq] at hr
       refine⟨fun _ _=>trivial,?_⟩
       go_simp
       refine CallsIn.mono (CallsIn.inRound l (callsIn_wide.2 (QF t ⟨lo,hi⟩ _ htl.1 (by show lo<=hi;omega) htl.2 (by show hi<zk;omega)))) ?_
       rintro e w3 ⟨rfl,hb⟩
       have hkb:Keep qe w2 w3:=Keep.of_below' hb (Nat.le_refl _)
       exact HK.out _ _ hkb ⟨hkb.cell_some hc.1 id,hkb.cell_some hc.2.1 id,hkb.cell_some hc.2.2.1 id,hkb.cell_some hc.2.2.2.1 id,hkb.cell_some hc.2.2.2.2 id⟩ rfl
      dsimp only [List.nil_append,List.cons_append]
      repeat (first
       | (refine V5 (fun _=>trivial) ?_ rfl (fun a w hc _ hr=>?_) ?_;rotate_left;(simp [Rds,zA,lk,Op.operands,Call.operands,RdEq] at hr;go_simp;with_reducible rfl);dsimp only [List.nil_append,List.cons_append])
       | (refine jI rfl ?_ ?_;(first | exact .inl (zG rfl rfl) | exact .inr (zG rfl rfl));dsimp only [List.nil_append,List.cons_append])
       | (refine QQ (fun _=>trivial) rfl ?_ ?_ (fun a w hc _ hr=>?_) ?_;exact(zG rfl rfl);rotate_left;(simp [Rds,zA,lk,Op.operands,Call.operands,RdEq] at hr;go_simp;with_reducible rfl);dsimp only [List.nil_append,List.cons_append]))
      intro w2 _ hk2
      simp only [finG,forall_eq,List.nil_append,List.cons_append,List.drop_succ_cons,List.drop_zero,List.drop_nil]
      simp only [Act.put,List.setIfInBounds_toArray,List.set_cons_succ,List.set_cons_zero]
      have hk2':Keep qe W1 w2:=((Keep.refl qe W1).drew).trans hk2
      have e1:=hk2'.boxed h1' id
      have e3:=hk2'.boxed h3' id
      have e4:=h4'.trans (hk2'.below h4'.size fun _ _=>id)
      have eo:=(HH.out).keep hk2' fun _ _=>id
      have er:w2.ownsRow (w.heap.size+6) 35 2 (.slice (some ⟨g,0,none⟩) (o'.length+1) cap) (o'.length+1) (xw (o'++[t])):=by have:=eo.1;simpa using this
      have ER:=Lib.hid er
      have HE:=Lib.hid (And.intro eo (And.intro e3 e4))
      have d1:=e1.cell
      have d2:w2.cell? ⟨Bp,0,none⟩=some (.int .u64 lo):=hk2'.cell_some cp0 id
      have d3:w2.cell? ⟨Bp,1,none⟩=some (.int .u64 hi):=hk2'.cell_some cp1 id
      have hlt2:w.heap.size+6<=w2.heap.size:=Nat.le_trans hlt' hk2'.size
      have HK2:=Lib.hid hk2'
      clear hk2 hk2' e3 e4 eo er c1 cp0 cp1 h1' h3' h4'
      gi_wp2_with (gi_at_builtin;go_loud (refine wpListIn_append_own _ rfl _ _ 28 rfl (w.heap.size+6) 35 i0 (.agg #[.int .u64 0,.int .u64 0]) 2 16 Tryz.underlying28 hi0 hz0 hz1 hz2 rfl (by decide) _ _ _ rfl (ER.out.alloc _) ⟨w2.heap.size,0,none⟩ 1 1 [.int .u64 lo,.int .u64 hi] rfl rfl (kw (cs:=#[.int .u64 lo,.int .u64 hi]) (t := 35) (fr:=(0,0)) (World.alloc_heap_new w2 _)) (by simp [Value.oneCell']) (by unfold maxLen;first | decide | omega) (by first | decide | omega) (by rw [World.size_alloc];omega) ?_);intro v' w3 hown' hgrow _;obtain⟨g',cap',rfl⟩:=ownsRow_succ hown';obtain⟨q1,q2,q3,q4⟩:=qO e1 (by decide) ER.out hown' hgrow;have q1c:=q1.cell;have q1f:=q1.frozen)
      refine⟨((HK1.out.trans HK2.out).mono fun _ _ h=>h.elim).trans (q4.mono fun k _ h=>h),⟨_,q2,?_⟩,q4.boxed HE.out.2.1 (by omega),HE.out.2.2.trans (q4.below HE.out.2.2.size fun k _=>by omega)⟩
      rw [yf]
      simp only [qg,HT.out,if_true,<-HO.out]
      rw [show Q8 (o'++[t]) ⟨lo,hi⟩=o'++[t]++[⟨lo,hi⟩] from by unfold Q8;rw [List.getLast?_concat];simp only;rw [if_neg HTT.out]]
      exact HE.out.1.snoc ⟨by show lo<zk;omega,by show hi<zk;omega⟩ (by simpa using q3)
 case hdone=>
  rintro W ⟨⟨v,h1,h2⟩,h3,h4⟩ hD
  have hc:=h1.cell
  gi_wp2
  refine⟨by simp,.inl ⟨_,_,rfl,run_takeDeferred hD,?_⟩⟩
  have hkD:Keep (fun k=>k=W0.heap.size) W (W.putObj W0.heap.size (.deferred none)):=(Keep.refl (fun k=>k=W0.heap.size) W).putObj (fun _=>rfl) _
  exact⟨_,results_tmp rfl _ _ _,v,rfl,(h2.keep hkD fun g hg=>by omega).mono (by omega),h4.trans (hkD.below h4.size fun k hk=>by omega)⟩
attribute [local go_sem] Oper.semAt_some
def zn (p q:Bool):Bool:=p || q
def y5 (p q:Bool):Bool:=p && q
def zm (p q:Bool):Bool:=p && !q
theorem V4 (a b:List Iv) (va vb:Value) (w:World) (ha:Nrm a) (hb:Nrm b) (ra:RdR 0 w.heap.size w va a) (rb:RdR 0 w.heap.size w vb b) (hlen:a.length+b.length<=1073741824) :
 Calls Tryz.prog 41 #[va,vb] w fun e w'=>∃ v,e=.returned v/\OwnR w.heap.size w' v (qy zn a b)/\Below w.heap.size w w':=by
 have hm:=vG zn 62 (enters_of Tryz.func62 (by kernel_rfl) rfl) Kq a b va vb w ha hb ra rb hlen
 have HM:=Lib.hid hm
 clear hm
 obtain⟨a1,c1,rfl,_⟩:=ra
 obtain⟨a2,c2,rfl,_⟩:=rb
 go_enter Tryz.func41,Tryz.ntmps41
 go_wp2_with (go_at_call 61;refine HM.out.mono ?_;rintro e w' ⟨v,rfl,hv,hb⟩)
 go_ret
 exact⟨_,rfl,‹_›,‹_›⟩
theorem Zu (a b:List Iv) (va vb:Value) (w:World) (ha:Nrm a) (hb:Nrm b) (ra:RdR 0 w.heap.size w va a) (rb:RdR 0 w.heap.size w vb b) (hlen:a.length+b.length<=1073741824) :
 Calls Tryz.prog 114 #[va,vb] w fun e w'=>∃ v,e=.returned v/\OwnR w.heap.size w' v (qy zm a b)/\Below w.heap.size w w':=by
 have hm:=vG zm 116 (enters_of Tryz.func116 (by kernel_rfl) rfl) Kp a b va vb w ha hb ra rb hlen
 have HM:=Lib.hid hm
 clear hm
 obtain⟨a1,c1,rfl,_⟩:=ra
 obtain⟨a2,c2,rfl,_⟩:=rb
 go_enter Tryz.func114,Tryz.ntmps114
 go_wp2_with (go_at_call 61;refine HM.out.mono ?_;rintro e w' ⟨v,rfl,hv,hb⟩)
 go_ret
 exact⟨_,rfl,‹_›,‹_›⟩
theorem ziL {w:World} {B:Nat} {s:Iv} (h:w.heap[B]? = some (.cells #[.int .u64 s.lo,.int .u64 s.hi] 35 (0,0))) (h1:s.lo<zk) (h2:s.hi<zk):RdR 0 w.heap.size w (.slice (some ⟨B,0,none⟩) 1 1) [s]:=by
 refine⟨_,1,rfl,by simp,by decide,fun _=>⟨B,0,rfl,Nat.zero_le _,(Array.getElem?_eq_some_iff.1 h).1,fun i hi=>?_⟩⟩
 obtain rfl:i=0:=by simpa using hi
 exact⟨by simp [World.cell?,h],by simp [World.cell?,h],h1,h2⟩
theorem zbn (a:List Iv) (va:Value) (s:Iv) (w:World) (ha:Nrm a) (hs:s.lo<=s.hi) (hs':s.hi<zk) (ra:RdR 0 w.heap.size w va a) (hlen:a.length<=1073741823) :
 Calls Tryz.prog 102 #[va,.agg #[.int .u64 s.lo,.int .u64 s.hi]] w fun e w'=>∃ v,e=.returned v/\OwnR w.heap.size w' v (qy zm [s] a)/\Below w.heap.size w w':=by
 obtain⟨a1,c1,rfl,_⟩:=id ra
 go_enter Tryz.func102,Tryz.ntmps102
 go_wp2_with fail
 obtain⟨w1,hw1⟩:∃ w1,((w.alloc (Obj.cells #[Value.int IntKind.u64 s.lo,Value.int IntKind.u64 s.hi] 35)).alloc (Obj.cells #[Value.int IntKind.u64 s.lo,Value.int IntKind.u64 s.hi] 35))=w1:=⟨_,rfl⟩
 have hb1:Below w.heap.size w w1:=by rw [<-hw1];exact((Below.refl _ _).alloc (Nat.le_refl _) _).alloc (by simp) _
 have hn:w1.heap[w.heap.size+1]? = some (.cells #[.int .u64 s.lo,.int .u64 s.hi] 35 (0,0)):=by
  rw [<-hw1];have:=World.alloc_heap_new (w.alloc (Obj.cells #[Value.int IntKind.u64 s.lo,Value.int IntKind.u64 s.hi] 35)) (Obj.cells #[Value.int IntKind.u64 s.lo,Value.int IntKind.u64 s.hi] 35);rwa [World.size_alloc] at this
 rw [hw1]
 clear hw1
 refine(Zu [s] a _ _ w1 ⟨Nat.zero_le _,hs,hs',trivial⟩ ha (ziL hn (by omega) hs') ((ra.below hb1 (Nat.le_refl _)).keep (Nat.le_refl _) hb1.size fun _ _ _=>rfl) (by simp;omega)).mono ?_
 rintro e w2 ⟨v,rfl,hv,hb⟩
 go_wp2
 go_ret
 exact⟨_,rfl,hv.mono hb1.size,hb1.trans (hb.mono hb1.size)⟩
attribute [local go_sem] Oper.semAt_some
theorem kc {w:World} {ops:Array Oper} {rest:List Oper} {o:Oper} {a:Act} {Q:Exit->Act->World->Prop} (hgd:o.guard=none) (s x:Operand)
 (ho:o.op=.call { callee:=.builtin .append,args:=#[s,x],argTypes:=#[28,28] }) (i:TypeInfo) (z:Value) (bytes:Nat)
 (hi:Tryz.prog.info? 35 = some i) (hz:i.zero=some z) (hsize:i.size=2) (hby:i.bytes=bytes) (hbb:bytes<=64) (hzs:z.cells.size=2)
 (B:Nat) (hs:a.eval s=.slice (some ⟨B,0,none⟩) 0 0) (hB:w.heap[B]? = some (.cells #[] 35 (0,0))) (n0:Nat) (hn0:n0<=B)
 {v:Value} {l:List Iv} (hx:a.eval x=v) (hr:RdR 0 w.heap.size w v l) (hl:l.length<=1099511627776)
 (h:∀ v' w',OwnR n0 w' v' l->Below B w w'->wpList Tryz.prog ops Q rest (a.put o.dst v') w') :
 wpList Tryz.prog ops Q (o::rest) a w:=by
 have hBl:B<w.heap.size:=(Array.getElem?_eq_some_iff.1 hB).1
 have hown:w.ownsRow n0 35 2 (.slice (some ⟨B,0,none⟩) 0 0) 0 []:=⟨rfl,.inr ⟨B,0,#[],rfl,hn0,hB,Nat.le_refl _,by decide,rfl,rfl⟩⟩
 have hbd:=hr.bound
 obtain⟨ad,cap,rfl,hlc,hcm,hc⟩:=hr
 cases ad with
 | none=>
   obtain rfl:l=[]:=by
    cases l with
    | nil=>rfl
    | cons s l=>obtain⟨b,off,e,_⟩:=hc (by simp);cases e
   refine wpList_plain hgd fun K hK=>?_
   have hfin:OwnR n0 w (.slice (some ⟨B,0,none⟩) 0 0) []:=⟨hown,by simp⟩
   have hq:=hK _ _ (h _ _ hfin (Below.refl _ _))
   clear hown hc hbd h hK hfin
   simp only [List.length_nil] at hx
   unfold Oper.wp execOp
   simp only [ho,resolve,invoke,builtin,Sem.run_bind,Sem.run_pure,Result.andThen_ok,List.map_toArray,List.map_cons,List.map_nil,hs,hx]
   go_simp
   exact hq
 | some ad=>
   refine wpList_append_own_at (P:=Tryz.prog) w hgd s x 28 ho n0 35 i z 2 bytes Tryz.underlying28 hi hz hsize hby hzs (by decide) _ 0 [] hs hown ad l.length cap (xw l) hx (y6 l) ?_ ?_ (by unfold maxLen;omega) ?_ (by omega) ?_
   ·intro j u hj
    have hlt:j<l.length * 2:=by
     have:=(List.getElem?_eq_some_iff.1 hj).1
     rwa [y6] at this
    have hne:l≠[]:=by intro e;subst e;simp at hlt
    obtain⟨b,off,e,_,_,hcell⟩:=hc hne
    cases e
    have hadd:(⟨b,off,none⟩:Addr).add j=⟨b,off+j,none⟩:=by unfold Addr.add;split<;>simp_all
    rw [hadd]
    have hk:j / 2<l.length:=by omega
    obtain⟨g1,g2,_⟩:=hcell (j / 2) hk
    obtain⟨f1,f2⟩:=vz l (j / 2) hk
    rcases Nat.mod_two_eq_zero_or_one j with h0 | h0
    ·have e:j / 2 * 2=j:=by omega
     rw [e] at g1 f1
     rw [f1] at hj
     cases hj
     exact g1
    ·have e:j / 2 * 2+1=j:=by omega
     rw [show off+j / 2 * 2+1=off+j from by omega] at g2
     rw [e] at f2
     rw [f2] at hj
     cases hj
     exact g2
   ·intro u hu
    simp [xw] at hu
    obtain⟨s,_,rfl | rfl⟩:=hu<;>rfl
   ·calc (0+l.length) * bytes<=1099511627776 * 64:=Nat.mul_le_mul (by omega) hbb
     _<=140737488355328:=by decide
   ·intro v' w' ho hg _ hv
    refine h v' w' ⟨?_,hbd⟩ ⟨hg.os,hg.tape,hg.output,hg.size,fun k hk=>hg.block k (by omega) (by simp [Value.ownBlock];omega)⟩
    simpa using ho
theorem zff (b:Addr) (n c:Nat) (w:World):(binOp .eql 28 (.slice (some b) n c) (.slice none 0 0)).run Tryz.prog w=.ok (.bool false) w:=by kernel_rfl
theorem zqL (n c:Nat) (w:World):(binOp .eql 28 (.slice none n c) (.slice none 0 0)).run Tryz.prog w=.ok (.bool true) w:=by kernel_rfl
theorem zeX {w:World} {v:Value} {l:List Iv} (hr:RdR 0 w.heap.size w v l) (hl:l.length<=1099511627776) :
 Calls Tryz.prog 19 #[v] w fun e w'=>∃ v',e=.returned v'/\OwnR w.heap.size w' v' l/\Below w.heap.size w w':=by
 obtain⟨i0,hi0,hz0,hz1,hz2⟩:=info_parts Tryz.infoIv
 have HR:=Lib.hid hr
 obtain⟨a,cap,rfl,h1,h2,h3⟩:=hr
 cases a with
 | none=>
   have H0:=Lib.hid (show l=[] from Classical.byContradiction fun hn=>by obtain⟨b,off,e,_⟩:=h3 hn;cases e)
   have hq:=zqL l.length cap
   clear h1 h2 h3 hi0 hz0 hz1 hz2
   go_enter Tryz.func19,Tryz.ntmps19
   go_wp2
   go_ret
   exact⟨_,rfl,by rw [H0.out];exact OwnR.nil _ _,Below.refl _ _⟩
 | some b=>
   clear h3
   have HA:Hid (RdR 0 (w.alloc (.cells #[] 35)).heap.size (w.alloc (.cells #[] 35)) (.slice (some b) l.length cap) l):=Lib.hid (HR.out.keep (Nat.le_refl _) (by simp) fun j _ h=>Below.heap_alloc _ _ _ h)
   have HN:=World.alloc_heap_new w (.cells #[] 35 (0,0))
   have hq:=zff b l.length cap
   go_enter Tryz.func19,Tryz.ntmps19
   go_wp2_with (at_builtin;refine kc rfl _ _ rfl i0 (.agg #[.int .u64 0,.int .u64 0]) 16 hi0 hz0 hz1 hz2 (by decide) rfl w.heap.size rfl HN w.heap.size (Nat.le_refl _) rfl HA.out hl ?_;intro v' w' ho hb')
   go_ret
   exact⟨v',rfl,ho,((Below.refl _ w).alloc (Nat.le_refl _) (.cells #[] 35 (0,0))).trans hb'⟩
end Go.Proofs.YtopfkkogooocgaaGreat
