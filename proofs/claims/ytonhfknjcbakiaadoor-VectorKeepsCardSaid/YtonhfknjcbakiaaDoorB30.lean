import Derived.Test.YtonhfknjcbakiaaDoorB17
import Derived.Test.YtonhfknjcbakiaaDoorB28
import Derived.Test.YtonhfknjcbakiaaDoorB29
set_option maxHeartbeats 16000000
set_option linter.unusedVariables false
set_option linter.unusedSimpArgs false
set_option maxRecDepth 100000
namespace Go.Proofs.YtonhfknjcbakiaaDoor
open Go.RowKit
def jS (c:Nat) (k:Int):PV:=if c=0 then .v .nilIface else .ifc 79 (.agg [.v (.int .i64 c),.v (.int .i64 k)])
def Z2 (c:Nat):PV:=.ifc 44 (.v (.int .i64 c))
theorem ym (c:Nat) (k:Int):SubP 0 (jS c k) (jS c k):=.eq _ (by unfold jS;split<;>rfl)
theorem jT (c:Nat) (k:Int):Cn Tryd.prog 25 [.v (.int .i64 c),.v (.int .i64 k)] (jS c k):=by
 refine zt Tryd.func25 2 ?_
 refine pw ?_
 unfold jS
 refine .i ?_ ?_<;>intro h<;>(try simp only [zb] at h)<;>first | refine pw ?_ | exact pd
 ·rw [if_pos (by omega)]
  exact pd
 ·rw [if_neg (by omega)]
  exact pd
theorem v8 (a b:Nat) (hb:b<zk):Cn Tryd.prog 61 [.v (.int .u64 a),.v (.int .u64 b)] (.tup [.v (.int .u64 (b - a - 1:Nat)),.v (.bool (decide (a<b)))]):=by
 have hM:=zw
 refine zt Tryd.func61 2 ?_
 refine pw ?_
 refine .i ?_ ?_<;>intro h<;>(try simp only [zb] at h)<;>first | refine pw ?_ | exact pd
 ·have h1:¬ a<b:=by omega
  have h2:b - a - 1=0:=by omega
  simp [h1,h2]
 ·simp [h]
theorem zea (s:Iv):Cn Tryd.prog 51 [Je s] (if s.lo<=s.hi then .v .nilIface else Z2 2):=by
 refine zt Tryd.func51 1 ?_
 refine pw ?_
 refine .i ?_ ?_<;>intro h<;>(try simp only [zb] at h)<;>first | refine pw ?_ | exact pd
 ·rw [if_neg (by omega)]
  unfold Z2
  exact pd
 ·rw [if_pos h]
  exact pd
theorem ziY (s t:Iv) (h1:s.lo<=s.hi) (h2:t.lo<=t.hi) (h3:s.hi<zk) (h4:t.hi<zk):Cn Tryd.prog 52 [Je s,Je t] (.v (.int .i64 (zR s t:Nat))):=by
 have hM:=zw
 refine zt Tryd.func52 2 ?_
 refine pw ?_
 refine .c (v8 s.hi t.lo (by omega)) ?_
 unfold zR
 by_cases k1:s.hi<t.lo
 ·have k2:¬ t.hi<s.lo:=by omega
  by_cases k3:s.hi+1=t.lo
  ·have k4:t.lo - s.hi - 1=0:=by omega
   rw [if_pos k1,if_pos k3,k4,decide_eq_true k1]
   refine pw ?_
   refine .c (v8 t.hi s.lo (by omega)) ?_
   rw [decide_eq_false k2]
   exact pd
  ·have k4:0<t.lo - s.hi - 1:=by omega
   rw [if_pos k1,if_neg k3,decide_eq_true k1]
   refine pw ?_
   refine .i ?_ ?_<;>intro k5<;>(try simp only [zb] at k5)<;>first | refine pw ?_ | exact pd
   ·refine .c (v8 t.hi s.lo (by omega)) ?_
    rw [decide_eq_false k2]
    exact pd
   ·exact absurd k4 (by omega)
 ·rw [if_neg k1,decide_eq_false k1]
  refine pw ?_
  refine .c (v8 t.hi s.lo (by omega)) ?_
  by_cases k2:t.hi<s.lo
  ·by_cases k3:t.hi+1=s.lo
   ·have k4:s.lo - t.hi - 1=0:=by omega
    rw [if_pos k2,if_pos k3,k4,decide_eq_true k2]
    exact pd
   ·have k4:0<s.lo - t.hi - 1:=by omega
    rw [if_pos k2,if_neg k3,decide_eq_true k2]
    refine pw ?_
    refine .i ?_ ?_<;>intro k5<;>(try simp only [zb] at k5)<;>first | refine pw ?_ | exact pd
    exact absurd k4 (by omega)
  ·rw [if_neg k2,decide_eq_false k2]
   exact pd
theorem VO (l:List Iv) (hb:∀ s ∈ l,s.lo<zk/\s.hi<zk) (hl:l.length<=1152921504606846976) (hC:(Zl l).1=0\/Cn Tryd.prog 17 [Z2 2] (.v (.int .i64 2))):Cn Tryd.prog 41 [rg l] (jS (Zl l).1 (Zl l).2):=by
 refine zt Tryd.func41 1 ?_
 refine pw ?_
 refine pLoop.go (fun k=>k<=l.length/\Zl l=QZ (y7 l k) (l.drop k) k/\∀ j (h:j<l.length),j<k->l[j].lo<=l[j].hi) (fun k=>[(8,.v (.int .i64 (k:Nat)))]) (fun _=>[]) (fun k=>l.length - k) 0 [8] ?_ ?_ ?_
 ·exact⟨Nat.zero_le _,rfl,fun j _ h=>absurd h (by omega)⟩
 ·exact pd
 ·rintro k ⟨hk,hm,hv⟩
  refine pw ?_
  refine .i ?_ ?_<;>intro h<;>(try simp only [zb] at h)<;>first | refine pw ?_ | exact pd
  ·rw [Yj h] at hm
   have hbk:=hb _ (List.getElem_mem h)
   refine .rd (zea l[k]) rfl ?_
   by_cases h1:l[k].lo<=l[k].hi
   ·rw [if_pos h1] at hm ⊢
    have hs:y7 l (k+1)=some l[k]:=by unfold y7;rw [if_neg (by omega)];exact List.getElem?_eq_getElem h
    have hv':∀ j (hj:j<l.length),j<k+1->l[j].lo<=l[j].hi:=fun j hj hjk=>by
     rcases Nat.lt_or_ge j k with h6 | h6
     ·exact hv j hj h6
     ·obtain rfl:j=k:=by omega
      exact h1
    refine pw ?_
    refine .i ?_ ?_<;>intro h2<;>(try simp only [zb] at h2)<;>first | refine pw ?_ | exact pd
    ·have hp:y7 l k=some l[k - 1]:=by unfold y7;rw [if_neg (by omega),List.getElem?_eq_getElem]
     rw [hp] at hm
     have hbp:=hb _ (List.getElem_mem (show k - 1<l.length by omega))
     refine .c (ziY l[k - 1] l[k] (hv (k - 1) (by omega) (by omega)) h1 hbp.2 hbk.2) ?_
     refine .i ?_ ?_<;>intro h3<;>(try simp only [zb] at h3)<;>first | refine pw ?_ | exact pd
     ·rw [if_neg (by omega)] at hm
      rw [hm]
      refine .c (jT 3 (k:Nat)) ?_
      exact ym _ _
     ·rw [if_pos (by omega)] at hm
      exact⟨k+1,⟨h,by rw [hs];exact hm,hv'⟩,by omega,rfl⟩
    ·have hp:y7 l k=none:=by unfold y7;rw [if_pos (by omega)]
     rw [hp] at hm
     exact⟨k+1,⟨h,by rw [hs];exact hm,hv'⟩,by omega,rfl⟩
   ·rw [if_neg h1] at hm ⊢
    unfold Z2 at hC ⊢
    rcases hC with hC | hC
    ·rw [hm] at hC
     cases hC
    ·refine pw ?_
     (first | refine .c (hC) ?_ | refine .o (hC) ?_)
     rw [hm]
     refine .c (jT 2 (k:Nat)) ?_
     exact ym _ _
  ·rw [List.drop_of_length_le h] at hm
   rw [hm]
   exact .eq _ rfl
theorem zfH (nb:Nat) (cs:List PV) (o:Nat):JU nb (.cp cs o)=true:=rfl
attribute [go_sem] zfH
theorem za0 (e:En) (hb:∀ s ∈ e.holes,s.lo<zk/\s.hi<zk) (hl:e.holes.length<=1152921504606846976) (hC:(Zl e.holes).1=0\/Cn Tryd.prog 17 [Z2 2] (.v (.int .i64 2))):Cn Tryd.prog 40 [.cp (ec e) 0] (jS (Zl e.holes).1 (Zl e.holes).2):=by
 refine zt Tryd.func40 1 ?_
 refine pw ?_
 refine .c (VO e.holes hb hl hC) ?_
 exact ym _ _
theorem zaZ (e:En) (hl:e.holes.length<=1152921504606846976):Cn Tryd.prog 39 [.cp (ec e) 0] (jS (hk e.max e.holes 0).1 (hk e.max e.holes 0).2):=by
 refine zt Tryd.func39 1 ?_
 refine pw ?_
 refine pLoop.go (fun k=>k<=e.holes.length/\hk e.max e.holes 0=hk e.max (e.holes.drop k) k) (fun k=>[(7,.v (.int .i64 (k:Nat)))]) (fun _=>[]) (fun k=>e.holes.length - k) 0 [7] ?_ ?_ ?_
 ·exact⟨Nat.zero_le _,rfl⟩
 ·exact pd
 ·rintro k ⟨hk1,hm⟩
  refine pw ?_
  refine .i ?_ ?_<;>intro h1<;>(try simp only [zb] at h1)<;>first | refine pw ?_ | exact pd
  ·rw [K3 h1] at hm
   refine .i ?_ ?_<;>intro h2<;>(try simp only [zb] at h2)<;>first | refine pw ?_ | exact pd
   ·rw [hm,if_pos h2]
    refine .c (jT 4 (k:Nat)) ?_
    exact ym _ _
   ·rw [if_neg (by omega)] at hm
    exact⟨k+1,⟨h1,hm⟩,by omega,rfl⟩
  ·rw [List.drop_of_length_le h1] at hm
   rw [hm]
   exact .eq _ rfl
theorem yk {x:Nat × Int} (h:x.1=0):jS x.1 x.2=.v .nilIface:=if_pos h
theorem vu {x:Nat × Int} (h:x.1≠0):jS x.1 x.2=.ifc 79 (.agg [.v (.int .i64 x.1),.v (.int .i64 x.2)]):=if_neg h
theorem zcJ (e:En) (hb:∀ s ∈ e.holes,s.lo<zk/\s.hi<zk) (hl:e.holes.length<=1152921504606846976) (hC:(Zl e.holes).1=0\/Cn Tryd.prog 17 [Z2 2] (.v (.int .i64 2))):Cn Tryd.prog 24 [ep e] (jS (yV e).1 (yV e).2):=by
 refine zt Tryd.func24 1 ?_
 refine pw ?_
 refine pLoop.go (fun k=>k<=2/\(1<=k->(Zl e.holes).1=0)/\(2<=k->(yV e).1=0)) (fun k=>[(12,.v (.int .i64 (k:Nat)))]) (fun _=>[]) (fun k=>2 - k) 0 [12] ?_ ?_ ?_
 ·exact⟨by omega,fun h=>absurd h (by omega),fun h=>absurd h (by omega)⟩
 ·exact pd
 ·rintro k ⟨hk1,h1,h2⟩
  obtain rfl | rfl | rfl:k=0\/k=1\/k=2:=by omega
  ·refine pw ?_
   refine .rd (za0 e hb hl hC) rfl ?_
   by_cases hz:(Zl e.holes).1=0
   ·rw [yk hz]
    refine pw ?_
    exact⟨1,⟨by omega,fun _=>hz,fun h=>absurd h (by omega)⟩,by omega,rfl⟩
   ·have e1:yV e=Zl e.holes:=if_neg hz
    rw [e1,vu hz]
    exact pd
  ·have hz:=h1 (by omega)
   have e1:yV e=hk e.max e.holes 0:=if_pos hz
   refine pw ?_
   refine .rd (zaZ e hl) rfl ?_
   by_cases hy:(hk e.max e.holes 0).1=0
   ·rw [yk hy]
    refine pw ?_
    exact⟨2,⟨by omega,fun _=>hz,fun _=>by rw [e1];exact hy⟩,by omega,rfl⟩
   ·rw [e1,vu hy]
    exact pd
  ·have hz:=h2 (by omega)
   rw [yk hz]
   exact pd
theorem zo5 (e:En) (hb:∀ s ∈ e.holes,s.lo<zk/\s.hi<zk) (h1:e.max<zk) (h2:e.rep<zk) (hl:e.holes.length<=1152921504606846976) (hC:(Zl e.holes).1=0\/Cn Tryd.prog 17 [Z2 2] (.v (.int .i64 2))):Cn Tryd.prog 29 [ep e] (.v (.bool (Xu e && !mem e.holes e.max))):=by
 have hr:=VU hb h1 h2
 refine zt Tryd.func29 1 ?_
 refine pw ?_
 refine .rd (zcJ e hb hl hC) rfl ?_
 by_cases hz:(yV e).1=0
 ·have hz':Xu e=true:=by unfold Xu;exact decide_eq_true hz
  rw [yk hz]
  refine pw ?_
  refine .c (zoS e e.max (hr.1 hz') hl) ?_
  simp [hz']
 ·have hz':Xu e=false:=by unfold Xu;exact decide_eq_false hz
  rw [vu hz]
  refine pw ?_
  simp [hz']
theorem Jg {e:En} (h:zO e):ZL e:=⟨h.1.lt,h.2.2.1,h.2.2.2⟩
section
variable (a b:En) (c:Nat) (ha:ZL a) (hb:ZL b) (hc:c<zk)
include ha hb hc
end
def HG (w:World):Prop:=w.cell? ⟨0,0,none⟩=some (.iface 103 (.agg #[.pointer (some ⟨1,39,none⟩)]))
theorem HG.of {D:Nat->Nat->Prop} {w:World} (h:GL D w):HG w:=(h _ rfl).2
theorem HG.pos {w:World} (h:HG w):0<w.heap.size:=World.block_lt_of_cell? w ⟨0,0,none⟩ h
theorem HG.alloc {w:World} (h:HG w) (o:Obj):HG (w.alloc o):=by
 unfold HG
 rw [World.cell?_alloc_lt _ _ ⟨0,0,none⟩ h.pos];exact h
theorem KK {f:FuncId} {ps:List PV} {r:PV} (hr:r.own=none) (hent:∀ args w,(callFunc f args).run Tryd.prog w=.ok (.enter f args) w)
 (h:∀(D:Nat->Nat->Prop) (w:World) (vs:Array Value),HG w->(∀ b o,D b o->b<w.heap.size)->vs.size=ps.length->(∀(i:Nat) p,ps[i]? = some p->Dat D w (vs.getD i undef) p) ->
   Calls Tryd.prog f vs w fun e w'=>∃ v,e=.returned v/\Below w.heap.size w w'/\Dat (fun b o=>D b o\/(w.heap.size<=b/\b<w'.heap.size)) w' v r):Cn Tryd.prog f ps r:=by
 refine⟨hent,fun D w vs hg hD hsz hd=>(h D w vs (.of hg) hD hsz hd).mono ?_⟩
 rintro e w' ⟨v,rfl,hb,hv⟩
 exact⟨v,_,rfl,hb,fun b o h=>.inl h,fun b o h=>h.imp id And.left,fun b o h=>h.elim (fun h=>Nat.lt_of_lt_of_le (hD b o h) hb.size) And.right,hv,zr hr⟩
theorem zjw {vs:Array Value} (h:vs.size=1):vs=#[vs.getD 0 undef]:=by
 obtain⟨l⟩:=vs
 match l,h with
 | [x],_=>rfl
theorem zb4 (c:Int) (w:World) (hg:HG w):Calls Tryd.prog 34 #[.iface 44 (.int .i64 c),.iface 68 (.pointer (some ⟨w.heap.size,0,none⟩))] (w.alloc (.cells #[.int .i64 0] 44))
 fun ev w'=>ev=.returned (.bool true)/\Below w.heap.size w w'/\w'.cell? ⟨w.heap.size,0,none⟩=some (.int .i64 c):=by
 refine(As.as_NN c ⟨w.heap.size,0,none⟩ (.int .i64 0) _ (hg.alloc _) (by simp) (by simp)).mono ?_
 rintro ev w' ⟨rfl,rfl⟩
 refine⟨rfl,?_,?_⟩
 ·refine Below.setCell (((((((Below.refl _ w).alloc ?_ _).alloc ?_ _).alloc ?_ _).alloc ?_ _).alloc ?_ _)) ?_ _<;>simp<;>omega
 ·refine World.cell?_setCell_same _ _ _ (u:=.int .i64 0) ?_
  rw [World.cell?_alloc_lt _ _ ⟨w.heap.size,0,none⟩ (by simp;omega),World.cell?_alloc_lt _ _ ⟨w.heap.size,0,none⟩ (by simp;omega),World.cell?_alloc_lt _ _ ⟨w.heap.size,0,none⟩ (by simp;omega),World.cell?_alloc_lt _ _ ⟨w.heap.size,0,none⟩ (by simp)]
  simp
theorem zb3 (c k:Int) (w:World) (hg:HG w):Calls Tryd.prog 34 #[.iface 79 (.agg #[.int .i64 c,.int .i64 k]),.iface 68 (.pointer (some ⟨w.heap.size,0,none⟩))] (w.alloc (.cells #[.int .i64 0] 44))
 fun ev w'=>ev=.returned (.bool true)/\Below w.heap.size w w'/\w'.cell? ⟨w.heap.size,0,none⟩=some (.int .i64 c):=by
 refine(As.as_FN c k ⟨w.heap.size,0,none⟩ (.int .i64 0) _ (hg.alloc _) (by simp) (by simp)).mono ?_
 rintro ev w' ⟨rfl,rfl⟩
 refine⟨rfl,?_,?_⟩
 ·refine Below.setCell ((((((((Below.refl _ w).alloc ?_ _).alloc ?_ _).alloc ?_ _).alloc ?_ _).alloc ?_ _).alloc ?_ _)) ?_ _<;>simp<;>omega
 ·refine World.cell?_setCell_same _ _ _ (u:=.int .i64 0) ?_
  rw [World.cell?_alloc_lt _ _ ⟨w.heap.size,0,none⟩ (by simp;omega),World.cell?_alloc_lt _ _ ⟨w.heap.size,0,none⟩ (by simp;omega),World.cell?_alloc_lt _ _ ⟨w.heap.size,0,none⟩ (by simp;omega),World.cell?_alloc_lt _ _ ⟨w.heap.size,0,none⟩ (by simp;omega),World.cell?_alloc_lt _ _ ⟨w.heap.size,0,none⟩ (by simp)]
  simp
theorem zcs (w:World):Calls Tryd.prog 17 #[.nilIface] w fun e w'=>e=.returned (.int .i64 0)/\Below w.heap.size w w':=by
 go_enter Tryd.func17,Tryd.ntmps17
 go_wp2
 go_ret
 exact⟨rfl,(Below.refl _ w).alloc (Nat.le_refl _) _⟩
theorem zhu (c:Int) (w:World) (hg:HG w):Calls Tryd.prog 17 #[.iface 44 (.int .i64 c)] w fun e w'=>e=.returned (.int .i64 c)/\Below w.heap.size w w':=by
 go_enter Tryd.func17,Tryd.ntmps17
 go_wp2_with (go_at_call 34;refine(zb4 c w hg).mono ?_;rintro e w1 ⟨rfl,hb,hc⟩)
 go_ret
 exact⟨rfl,hb⟩
theorem zht (c k:Int) (w:World) (hg:HG w):Calls Tryd.prog 17 #[.iface 79 (.agg #[.int .i64 c,.int .i64 k])] w fun e w'=>e=.returned (.int .i64 c)/\Below w.heap.size w w':=by
 go_enter Tryd.func17,Tryd.ntmps17
 go_wp2_with (go_at_call 34;refine(zb3 c k w hg).mono ?_;rintro e w1 ⟨rfl,hb,hc⟩)
 go_ret
 exact⟨rfl,hb⟩
def z2:Obj:=.cells #[.int .i64 0,.int .i64 0] 79
theorem zaW {D:Nat->Nat->Prop} {w:World} {v:Value} {c:Int} {t:TypeId} (h:Dat D w v (.ifc t (.v (.int .i64 c)))):v=.iface t (.int .i64 c):=by
 cases h with
 | ifc t x p h=>rw [h.v_inv]
theorem zaX {D:Nat->Nat->Prop} {w:World} {v:Value} {c k:Int} {t:TypeId} (h:Dat D w v (.ifc t (.agg [.v (.int .i64 c),.v (.int .i64 k)]))):v=.iface t (.agg #[.int .i64 c,.int .i64 k]):=by
 cases h with
 | ifc t x p h=>
   generalize hc:[PV.v (.int .i64 c),PV.v (.int .i64 k)]=cs at h
   cases h with
   | agg us cs hs _ h=>
     subst hc
     obtain⟨l⟩:=us
     match l,hs with
     | [x,y],_=>
       have e0:=(h 0 _ rfl).v_inv
       have e1:=(h 1 _ rfl).v_inv
       simp at e0 e1
       rw [e0,e1]
theorem KL (c:Nat):Cn Tryd.prog 17 [Z2 c] (.v (.int .i64 c)):=by
 refine KK rfl (enters_of Tryd.func17 (by kernel_rfl) rfl) fun D w vs hg hD hsz hd=>?_
 rw [zjw hsz,zaW (hd 0 _ rfl)]
 refine(zhu c w hg).mono ?_
 rintro e w' ⟨rfl,hb⟩
 exact⟨_,rfl,hb,.v _⟩
theorem Ju (c:Nat) (k:Int):Cn Tryd.prog 17 [jS c k] (.v (.int .i64 c)):=by
 refine KK rfl (enters_of Tryd.func17 (by kernel_rfl) rfl) fun D w vs hg hD hsz hd=>?_
 have h0:=hd 0 _ rfl
 unfold jS at h0
 rw [zjw hsz]
 by_cases hc:c=0
 ·rw [if_pos hc] at h0
  subst hc
  rw [h0.v_inv]
  refine(zcs w).mono ?_
  rintro e w' ⟨rfl,hb⟩
  exact⟨_,rfl,hb,.v _⟩
 ·rw [if_neg hc] at h0
  rw [zaX h0]
  refine(zht c k w hg).mono ?_
  rintro e w' ⟨rfl,hb⟩
  exact⟨_,rfl,hb,.v _⟩
theorem zpR {e:En} (h:zO e):YP e ↔ mem e.holes e.max=false:=by
 refine⟨zeO,fun hm=>⟨h,fun s hs=>?_⟩⟩
 rcases Nat.lt_or_eq_of_le (h.2.1 s hs) with h1 | h1
 ·exact h1
 ·have h2:=NF.lo_ge h.1 s hs
  have:mem e.holes e.max=true:=qf.2 ⟨s,hs,by omega,by omega⟩
  rw [hm] at this;cases this
def JF (v:List En):Bool:=v.all (fun e=>decide (e.holes.length<=30)) && decide (v.length<=20)
theorem vw {v:List En}:JF v=true ↔ (∀ e ∈ v,e.holes.length<=30)/\v.length<=20:=by simp [JF]
def prv (v:List En) (k:Nat):Nat:=match v[k - 1]? with
 | some p=>p.rep
 | none=>0
theorem Xl {v:List En} {k:Nat} (h:k - 1<v.length):prv v k=v[k - 1].rep:=by simp [prv,List.getElem?_eq_getElem h]
def hkV (v:List En):Nat->List En->Nat × Int
 | _,[]=>(0,-1)
 | k,e::r=>if (yV e).1≠0 then ((yV e).1,(k:Int)) else if 0<k/\e.rep<=prv v k then (3,(k:Int)) else hkV v (k+1) r
def jx (v:List En):Nat × Int:=hkV v 0 v
theorem Ve (v:List En):∀(k:Nat) (r:List En),r=v.drop k->((hkV v k r).1=0 ↔ (∀ e ∈ r,(yV e).1=0)/\∀ j (h:j<v.length),k<=j->0<j->v[j - 1].rep<v[j].rep)
 | k,[],h=>by
   have hl:=congrArg List.length h
   simp at hl
   simp only [hkV,List.not_mem_nil,false_implies,implies_true,true_and,true_iff]
   intro j hj hk
   omega
 | k,e::r,h=>by
   have hl:=congrArg List.length h
   simp at hl
   have hk:k<v.length:=by omega
   rw [List.drop_eq_getElem_cons hk,List.cons.injEq] at h
   obtain⟨he,hr⟩:=h
   have ih:=Ve v (k+1) r hr
   unfold hkV
   by_cases h1:(yV e).1≠0
   ·rw [if_pos h1]
    constructor
    ·intro h;exact absurd h h1
    ·rintro⟨h2,_⟩;exact absurd (h2 e (by simp)) h1
   ·rw [if_neg h1]
    have h1':(yV e).1=0:=by omega
    by_cases h2:0<k/\e.rep<=prv v k
    ·rw [if_pos h2]
     constructor
     ·intro h;cases h
     ·rintro⟨_,h3⟩
      have:=h3 k hk (Nat.le_refl _) h2.1
      have h22:=h2.2
      have h23:=congrArg En.rep he
      rw [Xl (by omega)] at h22
      omega
    ·rw [if_neg h2,ih]
     constructor
     ·rintro⟨h3,h4⟩
      refine⟨fun f hf=>?_,fun j hj hkj hj0=>?_⟩
      ·rcases List.mem_cons.1 hf with rfl | hf
       ·exact h1'
       ·exact h3 f hf
      ·rcases Nat.eq_or_lt_of_le hkj with rfl | hlt
       ·rw [Xl (by omega),he] at h2
        omega
       ·exact h4 j hj (by omega) hj0
     ·rintro⟨h3,h4⟩
      exact⟨fun f hf=>h3 f (by simp [hf]),fun j hj hkj hj0=>h4 j hj (by omega) hj0⟩
theorem zb0 {v:List En} (h:∀ j (h:j<v.length),0<j->v[j - 1].rep<v[j].rep):v.Pairwise fun a b=>a.rep<b.rep:=by
 rw [List.pairwise_iff_getElem]
 intro i j hi hj hij
 induction j with
 | zero=>omega
 | succ j ih=>
   have h1:=h (j+1) hj (by omega)
   simp only [Nat.add_sub_cancel] at h1
   rcases Nat.eq_or_lt_of_le (Nat.le_of_lt_succ hij) with rfl | h2
   ·exact h1
   ·have:=ih (by omega) h2
    omega
theorem XP {v:List En} (hb:∀ e ∈ v,ZL e):(jx v).1=0 ↔ RightV v:=by
 unfold jx
 rw [Ve v 0 v rfl]
 have hE:∀ e ∈ v,(yV e).1=0 ↔ zO e:=fun e he=>by
  have:=VU (hb e he).1 (hb e he).2.1 (hb e he).2.2
  unfold Xu at this
  simpa using this
 constructor
 ·rintro⟨h1,h2⟩
  exact⟨fun e he=>(hE e he).1 (h1 e he),zb0 fun j hj h0=>h2 j hj (Nat.zero_le _) h0⟩
 ·rintro⟨h1,h2⟩
  refine⟨fun e he=>(hE e he).2 (h1 e he),fun j hj _ h0=>?_⟩
  exact List.pairwise_iff_getElem.1 h2 (j - 1) j (by omega) hj (by omega)
def zpQ (v:List En):Bool:=v.all (fun e=>Xu e && !mem e.holes e.max) && decide ((jx v).1=0)
theorem zo0 {e:En} (h:ZL e):(Xu e && !mem e.holes e.max)=true ↔ YP e:=by
 rw [Bool.and_eq_true,VU h.1 h.2.1 h.2.2]
 constructor
 ·rintro⟨h1,h2⟩;exact(zpR h1).2 (by simpa using h2)
 ·intro h1;exact⟨h1.1,by rw [(zpR h1.1).1 h1];rfl⟩
theorem zp2 {v:List En} (hb:∀ e ∈ v,ZL e):zpQ v=true ↔ CanV v:=by
 unfold zpQ
 rw [Bool.and_eq_true,decide_eq_true_eq,XP hb,List.all_eq_true]
 constructor
 ·rintro⟨h1,h2⟩;exact⟨fun e he=>(zo0 (hb e he)).1 (h1 e he),h2.2⟩
 ·intro h;exact⟨fun e he=>(zo0 (hb e he)).2 (h.1 e he),h.right⟩
def fdV (r:Nat):Nat->List En->Int
 | _,[] => -1
 | k,e::t=>if e.rep=r then (k:Int) else fdV r (k+1) t
theorem X2 (r:Nat):∀(l:List En) (k:Nat),(fdV r k l=-1/\∀ e ∈ l,e.rep≠r)\/∃(i:Nat) (h:i<l.length),fdV r k l=((k+i:Nat):Int)/\l[i].rep=r
 | [],k=>.inl ⟨rfl,fun _ h=>by cases h⟩
 | e::t,k=>by
   unfold fdV
   by_cases h:e.rep=r
   ·rw [if_pos h]
    exact .inr ⟨0,by simp,by simp,h⟩
   ·rw [if_neg h]
    rcases X2 r t (k+1) with⟨h1,h2⟩ | ⟨i,hi,h1,h2⟩
    ·refine .inl ⟨h1,fun f hf=>?_⟩
     rcases List.mem_cons.1 hf with rfl | hf
     ·exact h
     ·exact h2 f hf
    ·exact .inr ⟨i+1,by simpa using hi,by rw [h1];omega,by simpa using h2⟩
theorem zoo {v:List En} (h:RightV v) (r:Nat):∃ i,i<=v.length/\(∀ j,(h:j<v.length)->j<i->v[j].rep<r)/\(∀ j,(h:j<v.length)->i<=j->r<=v[j].rep):=by
 have hp:=List.pairwise_iff_getElem.1 h.2
 obtain⟨i,h1,h2,h3⟩:=KV (fun j=>∃ h:j<v.length,v[j].rep<r) v.length fun a b hab hb ⟨h4,h5⟩=>by
  refine⟨by omega,?_⟩
  rcases Nat.lt_or_eq_of_le hab with h6 | h6
  ·have:=hp a b (by omega) hb h6
   omega
  ·subst h6;exact h5
 exact⟨i,h1,fun j hj hji=>(h2 j hji).2,fun j hj hij=>Nat.le_of_not_lt fun h=>h3 j hij hj ⟨hj,h⟩⟩
theorem zoj {v:List En} (hr:RightV v) {r i:Nat} (h1:∀ j,(h:j<v.length)->j<i->v[j].rep<r) (h2:∀ j,(h:j<v.length)->i<=j->r<=v[j].rep) :
 fdV r 0 v=if h:i<v.length then (if v[i].rep=r then (i:Int) else -1) else -1:=by
 have hp:=List.pairwise_iff_getElem.1 hr.2
 rcases X2 r v 0 with⟨e1,e2⟩ | ⟨j,hj,e1,e2⟩
 ·rw [e1]
  split
  ·rename_i h
   rw [if_neg (e2 _ (List.getElem_mem h))]
  ·rfl
 ·have hij:i<=j:=Nat.le_of_not_lt fun h=>by have:=h1 j hj h;omega
  have:i=j:=by
   rcases Nat.lt_or_eq_of_le hij with h | h
   ·have a1:=hp i j (by omega) hj h
    have a2:=h2 i (by omega) (Nat.le_refl _)
    omega
   ·exact h
  subst this
  rw [dif_pos hj,if_pos e2,e1,Nat.zero_add]
theorem zh8 {v:List En} (hr:RightV v) {r i:Nat} (hi:i<v.length) (h:v[i].rep=r):zT v r=kn v[i]:=by
 rw [<-h];exact kq hr.2 (List.getElem_mem hi)
def zZ:List Nat->List Nat->Int
 | [],[]=>0
 | [],_::_ => -1
 | _::_,[]=>1
 | a::x,b::y=>if a<b then -1 else if b<a then 1 else zZ x y
theorem jc:∀ a b,zZ a b=0 ↔ a=b
 | [],[]=>by simp [zZ]
 | [],_::_=>by simp [zZ]
 | _::_,[]=>by simp [zZ]
 | a::x,b::y=>by
   unfold zZ
   rw [List.cons.injEq]
   split
   ·constructor
    ·intro h;cases h
    ·rintro⟨h,_⟩;omega
   ·split
    ·constructor
     ·intro h;cases h
     ·rintro⟨h,_⟩;omega
    ·rw [jc x y]
     constructor
     ·intro h;exact⟨by omega,h⟩
     ·exact And.right
theorem zj5 (v:List En) (hl:v.length<=9223372036854775807):Cn Tryd.prog 4 [vp v] (.v (.bool (JF v))):=by
 refine zt Tryd.func4 1 ?_
 refine pw ?_
 refine pLoop.go (fun k=>k<=v.length/\JF v=((v.drop k).all (fun e=>decide (e.holes.length<=30)) && decide (v.length<=20))) (fun k=>[(3,.v (.int .i64 (k:Nat)))]) (fun _=>[]) (fun k=>v.length - k) 0 [3] ?_ ?_ ?_
 ·exact⟨Nat.zero_le _,rfl⟩
 ·exact pd
 ·rintro k ⟨hk,hm⟩
  refine pw ?_
  refine .i ?_ ?_<;>intro h<;>(try simp only [zb] at h)<;>first | refine pw ?_ | exact pd
  ·rw [List.drop_eq_getElem_cons h,List.all_cons] at hm
   refine pw ?_
   refine .i ?_ ?_<;>intro h2<;>(try simp only [zb] at h2)<;>first | refine pw ?_ | exact pd
   ·rw [hm,decide_eq_false (by omega)]
    rfl
   ·rw [decide_eq_true (by omega),Bool.true_and] at hm
    exact⟨k+1,⟨h,hm⟩,by omega,rfl⟩
  ·rw [hm,List.drop_of_length_le (by omega)]
   simp
   omega
theorem zdn (x:Nat):Cn Tryd.prog 53 [.v (.int .u64 x)] (.v (.bool false)):=by
 refine zt Tryd.func53 1 ?_
 exact pd
theorem zdm (x:Int):Cn Tryd.prog 55 [.v (.int .i64 x)] (.v (.bool false)):=by
 refine zt Tryd.func55 1 ?_
 exact pd
theorem XQ (x y:Nat):Cn Tryd.prog 42 [.v (.int .u64 x),.v (.int .u64 y)] (.v (.int .i64 (if x<y then -1 else if y<x then 1 else 0))):=by
 refine zt Tryd.func42 2 ?_
 refine pw ?_
 refine .c (zdn x) ?_
 refine .c (zdn y) ?_
 refine .i ?_ ?_<;>intro h1<;>(try simp only [zb] at h1)<;>first | refine pw ?_ | exact pd
 ·rw [if_pos h1]
 ·rw [if_neg (by omega)]
  refine .i ?_ ?_<;>intro h2<;>(try simp only [zb] at h2)<;>first | refine pw ?_ | exact pd
  ·rw [if_pos h2]
  ·rw [if_neg (by omega)]
theorem zhq (x y:Nat):Cn Tryd.prog 45 [.v (.int .i64 x),.v (.int .i64 y)] (.v (.int .i64 (if x<y then -1 else if y<x then 1 else 0))):=by
 refine zt Tryd.func45 2 ?_
 refine pw ?_
 refine .c (zdm x) ?_
 refine .c (zdm y) ?_
 refine .i ?_ ?_<;>intro h1<;>(try simp only [zb] at h1)<;>first | refine pw ?_ | exact pd
 ·rw [if_pos h1]
 ·rw [if_neg (by omega)]
  refine .i ?_ ?_<;>intro h2<;>(try simp only [zb] at h2)<;>first | refine pw ?_ | exact pd
  ·rw [if_pos h2]
  ·rw [if_neg (by omega)]
theorem zkx (r:Nat) (e:En):Cn Tryd.prog 26 [.v (.int .u64 r),ep e] (.v (.int .i64 (if e.rep<r then -1 else if r<e.rep then 1 else 0))):=by
 refine zt Tryd.func26 2 ?_
 refine pw ?_
 exact .d (XQ e.rep r)
theorem zfV (a b:List Nat) (ha:a.length<=1152921504606846976) (hb:b.length<=1152921504606846976):Cn Tryd.prog 33 [ns a,ns b] (.v (.int .i64 (zZ a b))):=by
 refine zt Tryd.func33 2 ?_
 refine pw ?_
 obtain⟨m,e1,h1,h2,h3⟩:∃ m:Nat,(if b.length<a.length then (b.length:Int) else (a.length:Int))=(m:Int)/\m<=a.length/\m<=b.length/\(m=a.length\/m=b.length):=by
  by_cases h:b.length<a.length
  ·exact⟨b.length,if_pos h,by omega,by omega,.inr rfl⟩
  ·exact⟨a.length,if_neg h,by omega,by omega,.inl rfl⟩
 rw [e1]
 refine pLoop.go (fun k=>k<=m/\zZ a b=zZ (a.drop k) (b.drop k)) (fun k=>[(11,.v (.int .i64 (k:Nat)))]) (fun _=>[]) (fun k=>m - k) 0 [11] ?_ ?_ ?_
 ·exact⟨Nat.zero_le _,rfl⟩
 ·exact pd
 ·rintro k ⟨hk,hm⟩
  refine pw ?_
  refine .i ?_ ?_<;>intro h<;>(try simp only [zb] at h)<;>first | refine pw ?_ | exact pd
  ·have ha':k<a.length:=by omega
   have hb':k<b.length:=by omega
   rw [List.drop_eq_getElem_cons ha',List.drop_eq_getElem_cons hb',zZ] at hm
   refine pw ?_
   refine .i ?_ ?_<;>intro h4<;>(try simp only [zb] at h4)<;>first | refine pw ?_ | exact pd
   ·refine .c (XQ a[k] b[k]) ?_
    rw [hm]
    by_cases h5:a[k]<b[k]
    ·rw [if_pos h5,if_pos h5]
    ·rw [if_neg h5,if_neg h5,if_pos (by omega),if_pos (by omega)]
   ·rw [if_neg (by omega),if_neg (by omega)] at hm
    exact⟨k+1,⟨h,hm⟩,by omega,rfl⟩
  ·refine .c (zhq a.length b.length) ?_
   have hx:a.drop k=[]\/b.drop k=[]:=by
    rcases h3 with h3 | h3
    ·exact .inl (List.drop_of_length_le (by omega))
    ·exact .inr (List.drop_of_length_le (by omega))
   have la:(a.drop k).length=a.length - k:=List.length_drop
   have lb:(b.drop k).length=b.length - k:=List.length_drop
   rw [hm]
   generalize a.drop k=x at *
   generalize b.drop k=y at *
   rcases hx with rfl | rfl
   ·cases y with
    | nil=>simp at la lb;rw [if_neg (by omega),if_neg (by omega)];rfl
    | cons c y=>simp at la lb;rw [if_pos (by omega)];rfl
   ·cases x with
    | nil=>simp at la lb;rw [if_neg (by omega),if_neg (by omega)];rfl
    | cons c y=>simp at la lb;rw [if_neg (by omega),if_pos (by omega)];rfl
theorem zrC (a b:List Nat) (ha:a.length<=1152921504606846976):Cn Tryd.prog 10 [ns a,ns b] (.v (.bool (decide (a=b)))):=by
 refine zt Tryd.func10 2 ?_
 refine pw ?_
 refine .i ?_ ?_<;>intro h0<;>(try simp only [zb] at h0)<;>first | refine pw ?_ | exact pd
 ·symm
  rw [decide_eq_false_iff_not]
  rintro rfl
  exact h0 rfl
 ·have h0':a.length=b.length:=by simpa using h0
  clear h0
  refine pLoop.go (fun k=>k<=a.length/\(a=b ↔ a.drop k=b.drop k)) (fun k=>[(13,.v (.int .i64 (k:Nat)))]) (fun _=>[]) (fun k=>a.length - k) 0 [13] ?_ ?_ ?_
  ·exact⟨Nat.zero_le _,Iff.rfl⟩
  ·exact pd
  ·rintro k ⟨hk,hm⟩
   refine pw ?_
   refine .i ?_ ?_<;>intro h<;>(try simp only [zb] at h)<;>first | refine pw ?_ | exact pd
   ·have hk':k<b.length:=by omega
    rw [List.drop_eq_getElem_cons h,List.drop_eq_getElem_cons hk',List.cons.injEq] at hm
    refine pw ?_
    refine .i ?_ ?_<;>intro e<;>(try simp only [zb] at e)<;>first | refine pw ?_ | exact pd
    ·symm
     rw [decide_eq_false_iff_not]
     intro he
     exact absurd (hm.1 he).1 (by omega)
    ·refine⟨k+1,⟨h,?_⟩,by omega,rfl⟩
     rw [hm]
     have e:a[k]=b[k]:=by omega
     exact⟨fun h=>h.2,fun h=>⟨e,h⟩⟩
   ·rw [eq_comm,decide_eq_true_eq,hm,List.drop_of_length_le (by omega),List.drop_of_length_le (by omega)]
theorem Ks (a b:List En) (ha:∀ e ∈ a,ZL e) (hb:∀ e ∈ b,ZL e) (la:(zv a).length<=1073741824) (lb:(zv b).length<=1073741824):Cn Tryd.prog 16 [vp a,vp b] (.v (.int .i64 (zZ (zv a) (zv b)))):=by
 refine zt Tryd.func16 2 ?_
 refine pw ?_
 refine .c (Yz a ha la) ?_
 refine .c (Yz b hb lb) ?_
 exact .d (zfV (zv a) (zv b) (by omega) (by omega))
theorem zji (a b:List En) (hl:a.length<=1152921504606846976) (hh:∀ e ∈ a,e.holes.length<=1152921504606846976):Cn Tryd.prog 7 [vp a,vp b] (.v (.bool (decide (a=b)))):=by
 refine zt Tryd.func7 2 ?_
 refine pw ?_
 refine .i ?_ ?_<;>intro h0<;>(try simp only [zb] at h0)<;>first | refine pw ?_ | exact pd
 ·symm
  rw [decide_eq_false_iff_not]
  rintro rfl
  exact h0 rfl
 ·have h0':a.length=b.length:=by simpa using h0
  clear h0
  refine pLoop.go (fun k=>k<=a.length/\(a=b ↔ a.drop k=b.drop k)) (fun k=>[(5,.v (.int .i64 (k:Nat)))]) (fun _=>[]) (fun k=>a.length - k) 0 [5] ?_ ?_ ?_
  ·exact⟨Nat.zero_le _,Iff.rfl⟩
  ·exact pd
  ·rintro k ⟨hk,hm⟩
   refine pw ?_
   refine .i ?_ ?_<;>intro h<;>(try simp only [zb] at h)<;>first | refine pw ?_ | exact pd
   ·have hk':k<b.length:=by omega
    rw [List.drop_eq_getElem_cons h,List.drop_eq_getElem_cons hk',List.cons.injEq] at hm
    refine pw ?_
    refine .c (zjh a[k] b[k] (hh _ (List.getElem_mem h))) ?_
    refine .i ?_ ?_<;>intro e<;>(try simp only [zb] at e)<;>first | refine pw ?_ | exact pd
    ·symm
     rw [decide_eq_false_iff_not]
     intro he
     exact e (hm.1 he).1
    ·refine⟨k+1,⟨h,?_⟩,by omega,rfl⟩
     rw [hm]
     exact⟨fun h=>h.2,fun h=>⟨e,h⟩⟩
   ·rw [eq_comm,decide_eq_true_eq,hm,List.drop_of_length_le (by omega),List.drop_of_length_le (by omega)]
def kfn:PV:=.cp [.fn (.func 26) [] []] 0
attribute [go_sem] kfn
theorem znQ (e:En) (r:Nat):Cn Tryd.prog 32 [ep e,.v (.int .u64 r),kfn] (.v (.int .i64 (if e.rep<r then -1 else if r<e.rep then 1 else 0))):=by
 refine zt Tryd.func32 3 ?_
 refine pw ?_
 exact .d (zkx r e)
theorem zoR (v:List En) (r:Nat) (i:Nat) (hi:i<=v.length) (h1:∀ j,(h:j<v.length)->j<i->v[j].rep<r) (h2:∀ j,(h:j<v.length)->i<=j->r<=v[j].rep) (hl:v.length<=1152921504606846976) :
 Cn Tryd.prog 31 [vp v,.v (.int .u64 r),.fn (.func 32) [] [kfn]] (.tup [.v (.int .i64 i),.v (.bool (if h:i<v.length then decide (v[i].rep=r) else false))]):=by
 refine zt Tryd.func31 3 ?_
 refine pw ?_
 refine pLoop.go (fun p:Nat × Nat=>p.1<=i/\i<=p.2/\p.2<=v.length) (fun p=>[(9,.v (.int .i64 (p.1:Nat))),(10,.v (.int .i64 (p.2:Nat)))]) (fun _=>[]) (fun p=>p.2 - p.1) (0,v.length) [9,10] ?_ ?_ ?_
 ·exact⟨Nat.zero_le _,hi,Nat.le_refl _⟩
 ·exact pd
 ·rintro⟨p,q⟩ ⟨k1,k2,k3⟩
  simp only at k1 k2 k3
  refine pw ?_
  refine .i ?_ ?_<;>intro h<;>(try simp only [zb] at h)<;>first | refine pw ?_ | exact pd
  ·have hm:(p+q) / 2<v.length:=by omega
   have a1:=h1 _ hm
   have a2:=h2 _ hm
   refine pw ?_
   refine .c (znQ v[(p+q) / 2] r) ?_
   refine .i ?_ ?_<;>intro h4<;>(try simp only [zb] at h4)<;>first | refine pw ?_ | exact pd
   ·refine⟨((p+q) / 2+1,q),⟨?_,k2,k3⟩,by simp only;omega,rfl,rfl⟩
    simp only
    refine Nat.lt_of_not_le fun h5=>?_
    have:=a2 h5
    rw [if_neg (by omega)] at h4
    split at h4<;>omega
   ·refine⟨(p,(p+q) / 2),⟨k1,?_,by simp only;omega⟩,by simp only;omega,rfl,rfl⟩
    simp only
    refine Nat.le_of_not_lt fun h5=>?_
    have:=a1 h5
    rw [if_pos this] at h4
    omega
  ·obtain rfl:p=i:=by omega
   obtain rfl:q=p:=by omega
   refine .i ?_ ?_<;>intro h4<;>(try simp only [zb] at h4)<;>first | refine pw ?_ | exact pd
   ·refine .c (znQ v[q] r) ?_
    have a2:=h2 _ h4 (Nat.le_refl _)
    rw [dif_pos h4,if_neg (by omega)]
    by_cases h5:v[q].rep=r
    ·rw [if_neg (by omega),decide_eq_true h5]
     simp
    ·rw [if_pos (by omega),decide_eq_false h5]
     simp
   ·rw [dif_neg (by omega)]
theorem zoK (v:List En) (r:Nat) (hr:RightV v) (hl:v.length<=1152921504606846976):Cn Tryd.prog 15 [vp v,.v (.int .u64 r)] (.v (.int .i64 (fdV r 0 v))):=by
 obtain⟨i,hi,h1,h2⟩:=zoo hr r
 rw [zoj hr h1 h2]
 refine zt Tryd.func15 2 ?_
 refine pw ?_
 refine .c (zoR v r i hi h1 h2 hl) ?_
 by_cases h:i<v.length
 ·rw [dif_pos h,dif_pos h]
  refine .i ?_ ?_<;>intro h3<;>(try simp only [zb] at h3)<;>first | refine pw ?_ | exact pd
  ·rw [if_neg h3]
  ·rw [if_pos h3]
 ·rw [dif_neg h,dif_neg h]
  exact pd
theorem zo6 (v:List En) (r c:Nat) (hr:RightV v) (hc:c<zk) (hl:v.length<=1152921504606846976) (hh:∀ e ∈ v,e.holes.length<=1152921504606846976):Cn Tryd.prog 14 [vp v,.v (.int .u64 r),.v (.int .u64 c)] (.v (.bool (mem (zT v r) c))):=by
 refine zt Tryd.func14 3 ?_
 refine pw ?_
 refine .rd (zoK v r hr hl) rfl ?_
 rcases X2 r v 0 with⟨e1,e2⟩ | ⟨i,hi,e1,e2⟩
 ·rw [e1,qC e2]
  refine pw ?_
  rfl
 ·rw [e1,zh8 hr hi e2,vC (hr.1 _ (List.getElem_mem hi)) hc,Nat.zero_add]
  refine pw ?_
  exact .d (zoS v[i] c (hr.1 _ (List.getElem_mem hi)) (hh _ (List.getElem_mem hi)))
theorem Kb (v:List En) (hb:∀ e ∈ v,ZL e) (hl:v.length<=9223372036854775807) (hh:∀ e ∈ v,e.holes.length<=9223372036854775807):Cn Tryd.prog 21 [vp v] (.tup [.v (.int .i64 (jx v).1),.v (.int .i64 (jx v).2)]):=by
 refine zt Tryd.func21 1 ?_
 refine pw ?_
 refine pLoop.go (fun k=>k<=v.length/\jx v=hkV v k (v.drop k)) (fun k=>[(4,.v (.int .i64 (k:Nat)))]) (fun _=>[]) (fun k=>v.length - k) 0 [4] ?_ ?_ ?_
 ·exact⟨Nat.zero_le _,rfl⟩
 ·exact pd
 ·rintro k ⟨hk,hm⟩
  refine pw ?_
  refine .i ?_ ?_<;>intro h<;>(try simp only [zb] at h)<;>first | refine pw ?_ | exact pd
  ·rw [List.drop_eq_getElem_cons h,hkV] at hm
   refine pw ?_
   refine .c (zcj v[k] (hh _ (List.getElem_mem h)) (hb _ (List.getElem_mem h)).1) ?_
   refine .i ?_ ?_<;>intro h2<;>(try simp only [zb] at h2)<;>first | refine pw ?_ | exact pd
   ·rw [if_pos (by omega)] at hm
    rw [hm]
   ·rw [if_neg (by omega)] at hm
    refine .i ?_ ?_<;>intro h3<;>(try simp only [zb] at h3)<;>first | refine pw ?_ | exact pd
    ·have hp:=Xl (v:=v) (k:=k) (by omega)
     rw [hp] at hm
     refine pw ?_
     refine .i ?_ ?_<;>intro h4<;>(try simp only [zb] at h4)<;>first | refine pw ?_ | exact pd
     ·rw [if_pos ⟨h3,h4⟩] at hm
      rw [hm]
      rfl
     ·rw [if_neg (fun h=>by omega)] at hm
      exact⟨k+1,⟨h,hm⟩,by omega,rfl⟩
    ·rw [if_neg (fun h=>by omega)] at hm
     exact⟨k+1,⟨h,hm⟩,by omega,rfl⟩
  ·rw [hm,List.drop_of_length_le (by omega)]
   rfl
theorem zq1 (v:List En) (hb:∀ e ∈ v,ZL e) (hl:v.length<=1152921504606846976) (hh:∀ e ∈ v,e.holes.length<=1152921504606846976):Cn Tryd.prog 8 [vp v] (.v (.bool (decide ((jx v).1=0)))):=by
 refine zt Tryd.func8 1 ?_
 refine pw ?_
 exact .d (Kb v hb (by omega) (fun e he=>Nat.le_trans (hh e he) (by omega)))
theorem zes (v:List En) (hb:∀ e ∈ v,ZL e) (hl:v.length<=1152921504606846976) (hh:∀ e ∈ v,e.holes.length<=1152921504606846976):Cn Tryd.prog 12 [vp v] (jS (jx v).1 (jx v).2):=by
 refine zt Tryd.func12 1 ?_
 refine pw ?_
 refine pLoop.go (fun k=>k<=v.length/\jx v=hkV v k (v.drop k)) (fun k=>[(8,.v (.int .i64 (k:Nat)))]) (fun _=>[]) (fun k=>v.length - k) 0 [8] ?_ ?_ ?_
 ·exact⟨Nat.zero_le _,rfl⟩
 ·exact pd
 ·rintro k ⟨hk,hm⟩
  refine pw ?_
  refine .i ?_ ?_<;>intro h<;>(try simp only [zb] at h)<;>first | refine pw ?_ | exact pd
  ·rw [List.drop_eq_getElem_cons h,hkV] at hm
   have hbk:=hb _ (List.getElem_mem h)
   have hhk:=hh _ (List.getElem_mem h)
   have hco:=Ju (yV v[k]).1 (yV v[k]).2
   refine pw ?_
   refine .rd (zcJ v[k] hbk.1 hhk (.inr (KL 2))) rfl ?_
   by_cases hz:(yV v[k]).1=0
   ·rw [yk hz]
    rw [if_neg (by omega)] at hm
    refine pw ?_
    refine .i ?_ ?_<;>intro h3<;>(try simp only [zb] at h3)<;>first | refine pw ?_ | exact pd
    ·have hp:=Xl (v:=v) (k:=k) (by omega)
     rw [hp] at hm
     refine pw ?_
     refine .c (zkx v[k - 1].rep v[k]) ?_
     refine .i ?_ ?_<;>intro h4<;>(try simp only [zb] at h4)<;>first | refine pw ?_ | exact pd
     ·have h5:v[k].rep<=v[k - 1].rep:=by split at h4<;>(try split at h4)<;>omega
      rw [if_pos ⟨h3,h5⟩] at hm
      rw [hm]
      refine .c (jT 3 k) ?_
      exact ym _ _
     ·have h5:¬ v[k].rep<=v[k - 1].rep:=by split at h4<;>(try split at h4)<;>omega
      rw [if_neg (fun h=>by omega)] at hm
      exact⟨k+1,⟨h,hm⟩,by omega,rfl⟩
    ·rw [if_neg (fun h=>by omega)] at hm
     exact⟨k+1,⟨h,hm⟩,by omega,rfl⟩
   ·rw [if_pos hz] at hm
    rw [hm]
    rw [vu hz] at hco ⊢
    refine pw ?_
    (first | refine .c (hco) ?_ | refine .o (hco) ?_)
    refine .c (jT (yV v[k]).1 k) ?_
    exact ym _ _
  ·rw [hm,List.drop_of_length_le (by omega)]
   exact .eq _ rfl
theorem zqJ (e:En) (hb:ZL e) (hl:e.holes.length<=1152921504606846976):Cn Tryd.prog 28 [ep e] (.v (.bool (!(Xu e && !mem e.holes e.max)))):=by
 refine zt Tryd.func28 1 ?_
 refine pw ?_
 exact .d (zo5 e hb.1 hb.2.1 hb.2.2 hl (.inr (KL 2)))
def ixV:Nat->List En->Int
 | _,[] => -1
 | k,e::r=>if (Xu e && !mem e.holes e.max)=true then ixV (k+1) r else (k:Int)
theorem zpY:∀(l:List En) (k:Nat),0<=ixV k l ↔ ¬ l.all (fun e=>Xu e && !mem e.holes e.max)=true
 | [],_=>by simp [ixV]
 | e::r,k=>by
   unfold ixV
   rw [List.all_cons]
   by_cases h:(Xu e && !mem e.holes e.max)=true
   ·rw [if_pos h,zpY r (k+1),h,Bool.true_and]
   ·rw [if_neg h]
    simp only [Bool.not_eq_true] at h
    rw [h]
    simp
theorem zpB (v:List En) (hb:∀ e ∈ v,ZL e) (hl:v.length<=1152921504606846976) (hh:∀ e ∈ v,e.holes.length<=1152921504606846976):Cn Tryd.prog 43 [vp v,.fn (.func 28) [] []] (.v (.int .i64 (ixV 0 v))):=by
 refine zt Tryd.func43 2 ?_
 refine pw ?_
 refine pLoop.go (fun k=>k<=v.length/\ixV 0 v=ixV k (v.drop k)) (fun k=>[(8,.v (.int .i64 (k:Nat)))]) (fun _=>[]) (fun k=>v.length - k) 0 [8] ?_ ?_ ?_
 ·exact⟨Nat.zero_le _,rfl⟩
 ·exact pd
 ·rintro k ⟨hk,hm⟩
  refine pw ?_
  refine .i ?_ ?_<;>intro h<;>(try simp only [zb] at h)<;>first | refine pw ?_ | exact pd
  ·rw [List.drop_eq_getElem_cons h,ixV] at hm
   refine pw ?_
   refine .rd (zqJ v[k] (hb _ (List.getElem_mem h)) (hh _ (List.getElem_mem h))) rfl ?_
   by_cases h2:(Xu v[k] && !mem v[k].holes v[k].max)=true
   ·rw [if_pos h2] at hm
    rw [h2]
    refine pw ?_
    exact⟨k+1,⟨h,hm⟩,by omega,rfl⟩
   ·rw [if_neg h2] at hm
    simp only [Bool.not_eq_true] at h2
    rw [h2,hm]
    exact pd
  ·rw [hm,List.drop_of_length_le (by omega)]
   rfl
theorem zpw (v:List En) (hb:∀ e ∈ v,ZL e) (hl:v.length<=1152921504606846976) (hh:∀ e ∈ v,e.holes.length<=1152921504606846976):Cn Tryd.prog 27 [vp v,.fn (.func 28) [] []] (.v (.bool (!v.all (fun e=>Xu e && !mem e.holes e.max)))):=by
 refine zt Tryd.func27 2 ?_
 refine pw ?_
 (first | refine .c (zpB v hb hl hh) ?_ | refine .o (zpB v hb hl hh) ?_)
 rw [Bool.eq_iff_iff,decide_eq_true_eq,zpY]
 simp
theorem zpc (v:List En) (hb:∀ e ∈ v,ZL e) (hl:v.length<=1152921504606846976) (hh:∀ e ∈ v,e.holes.length<=1152921504606846976):Cn Tryd.prog 13 [vp v] (.v (.bool (zpQ v))):=by
 unfold zpQ
 refine zt Tryd.func13 1 ?_
 refine pw ?_
 refine .rd (zes v hb hl hh) rfl ?_
 by_cases hz:(jx v).1=0
 ·rw [yk hz]
  refine pw ?_
  refine .c (zpw v hb hl hh) ?_
  simp [hz]
 ·rw [vu hz]
  refine pw ?_
  simp [hz]
def v9:List En:=[⟨7,5,[⟨2,3⟩]⟩]
def v9b:List En:=[⟨1,0,[]⟩,⟨1,0,[]⟩]
theorem kb:Cn Tryd.prog 5 [] (.v (.bool true)):=by
 have hb:∀ e ∈ v9,ZL e:=by simp [v9,ZL,zw]
 have hb0:∀ e ∈ ([]:List En),ZL e:=by simp
 have hb2:∀ e ∈ v9b,ZL e:=by simp [v9b,ZL,zw]
 have hr:CanV v9:=⟨by simp [v9,YP,zO,zw,Nrm,NF],by simp [v9]⟩
 have hz:(jx v9).1=0:=(XP hb).2 hr.right
 have hc:zpQ v9=true:=(zp2 hb).2 hr
 have hk:zT v9 7=kn ⟨7,5,[⟨2,3⟩]⟩:=rfl
 have h4:mem (zT v9 7) 4=true:=by rw [hk,vC (hr.1 _ (by simp [v9])).1 (by rw [zw];omega)];decide
 have h3:mem (zT v9 7) 3=false:=by rw [hk,vC (hr.1 _ (by simp [v9])).1 (by rw [zw];omega)];decide
 have hco:=Ju (jx v9b).1 (jx v9b).2
 have hx:jx v9b=(3,1):=by decide
 refine zt Tryd.func5 0 ?_
 refine pw ?_
 refine .c (Yz v9 hb (by decide)) ?_
 refine .rd (zrC (zv v9) [1,7,5,1,2,3] (by decide)) rfl ?_
 rw [show decide (zv v9=[1,7,5,1,2,3])=true by decide]
 refine pw ?_
 refine .rd (zes v9 hb (by decide) (by simp [v9])) rfl ?_
 rw [yk hz]
 refine pw ?_
 refine .rd (zpc v9 hb (by decide) (by simp [v9])) rfl ?_
 rw [hc]
 refine pw ?_
 refine .rd (zo6 v9 7 4 hr.right (by decide) (by decide) (by simp [v9])) rfl ?_
 rw [h4]
 refine pw ?_
 refine .rd (zo6 v9 7 3 hr.right (by decide) (by decide) (by simp [v9])) rfl ?_
 rw [h3]
 refine pw ?_
 refine .rd (zoK v9 8 hr.right (by decide)) rfl ?_
 rw [show fdV 8 0 v9=-1 by decide]
 refine pw ?_
 refine .rd (Ks [] v9 hb0 hb (by decide) (by decide)) rfl ?_
 rw [show zZ (zv []) (zv v9)=-1 by decide]
 refine pw ?_
 refine .rd (zes v9b hb2 (by decide) (by simp [v9b])) rfl ?_
 rw [hx] at hco ⊢
 refine pw ?_
 (first | exact .d (hco) | exact .q (hco))
def BdV (v:List En):Prop:=(∀ e ∈ v,ZL e)/\v.length<=9223372036854775807
theorem CanV.bd {v:List En} (h:CanV v):∀ e ∈ v,ZL e:=fun e he=>Jg (h.1 e he).1
end Go.Proofs.YtonhfknjcbakiaaDoor
