import Derived.Test.YtonhfknjcbakiaaGreatDoorB18
import Derived.Test.YtonhfknjcbakiaaGreatDoorB20
import Derived.Test.YtonhfknjcbakiaaGreatDoorB21
import Derived.Test.YtonhfknjcbakiaaGreatDoorB22
import Derived.Test.YtonhfknjcbakiaaGreatDoorB32
import Derived.Test.YtonhfknjcbakiaaGreatDoorB33
set_option maxHeartbeats 16000000
set_option linter.unusedVariables false
set_option linter.unusedSimpArgs false
set_option maxRecDepth 100000
namespace Go.Proofs.YtonhfknjcbakiaaGreatDoor
open Go.RowKit
def jS (c:Nat) (k:Int):PV:=if c=0 then .v .nilIface else .ifc 120 (.agg [.v (.int .i64 c),.v (.int .i64 k)])
def Z2 (c:Nat):PV:=.ifc 82 (.v (.int .i64 c))
theorem ym (c:Nat) (k:Int):SubP 0 (jS c k) (jS c k):=.eq _ (by unfold jS;split<;>rfl)
theorem jT (c:Nat) (k:Int):Cn Tryz.prog 104 [.v (.int .i64 c),.v (.int .i64 k)] (jS c k):=by
 refine zt Tryz.func104 2 ?_
 refine pw ?_
 unfold jS
 refine .i ?_ ?_<;>intro h<;>(try simp only [zb] at h)<;>first | refine pw ?_ | exact pd
 ·rw [if_pos (by omega)]
  exact pd
 ·rw [if_neg (by omega)]
  exact pd
theorem v8 (a b:Nat) (hb:b<zk):Cn Tryz.prog 168 [.v (.int .u64 a),.v (.int .u64 b)] (.tup [.v (.int .u64 (b - a - 1:Nat)),.v (.bool (decide (a<b)))]):=by
 have hM:=zw
 refine zt Tryz.func168 2 ?_
 refine pw ?_
 refine .i ?_ ?_<;>intro h<;>(try simp only [zb] at h)<;>first | refine pw ?_ | exact pd
 ·have h1:¬ a<b:=by omega
  have h2:b - a - 1=0:=by omega
  simp [h1,h2]
 ·simp [h]
theorem zea (s:Iv):Cn Tryz.prog 121 [Je s] (if s.lo<=s.hi then .v .nilIface else Z2 2):=by
 refine zt Tryz.func121 1 ?_
 refine pw ?_
 refine .i ?_ ?_<;>intro h<;>(try simp only [zb] at h)<;>first | refine pw ?_ | exact pd
 ·rw [if_neg (by omega)]
  unfold Z2
  exact pd
 ·rw [if_pos h]
  exact pd
theorem ziY (s t:Iv) (h1:s.lo<=s.hi) (h2:t.lo<=t.hi) (h3:s.hi<zk) (h4:t.hi<zk):Cn Tryz.prog 122 [Je s,Je t] (.v (.int .i64 (zR s t:Nat))):=by
 have hM:=zw
 refine zt Tryz.func122 2 ?_
 refine pw ?_
 refine .c (v8 s.hi t.lo (by omega)) ?_
 unfold zR
 by_cases k1:s.hi<t.lo
 ·have k2:¬ t.hi<s.lo:=by omega
  by_cases k3:s.hi+1=t.lo
  ·have k4:t.lo - s.hi - 1=0:=by omega
   rw [if_pos k1,if_pos k3,k4,decide_eq_true k1]
   refine pw ?_
   refine .c (v8 t.hi s.lo (by omega)) ?_
   rw [decide_eq_false k2]
   exact pd
  ·have k4:0<t.lo - s.hi - 1:=by omega
   rw [if_pos k1,if_neg k3,decide_eq_true k1]
   refine pw ?_
   refine .i ?_ ?_<;>intro k5<;>(try simp only [zb] at k5)<;>first | refine pw ?_ | exact pd
   ·refine .c (v8 t.hi s.lo (by omega)) ?_
    rw [decide_eq_false k2]
    exact pd
   ·exact absurd k4 (by omega)
 ·rw [if_neg k1,decide_eq_false k1]
  refine pw ?_
  refine .c (v8 t.hi s.lo (by omega)) ?_
  by_cases k2:t.hi<s.lo
  ·by_cases k3:t.hi+1=s.lo
   ·have k4:s.lo - t.hi - 1=0:=by omega
    rw [if_pos k2,if_pos k3,k4,decide_eq_true k2]
    exact pd
   ·have k4:0<s.lo - t.hi - 1:=by omega
    rw [if_pos k2,if_neg k3,decide_eq_true k2]
    refine pw ?_
    refine .i ?_ ?_<;>intro k5<;>(try simp only [zb] at k5)<;>first | refine pw ?_ | exact pd
    exact absurd k4 (by omega)
  ·rw [if_neg k2,decide_eq_false k2]
   exact pd
theorem rcheck_c (l:List Iv) (hb:∀ s ∈ l,s.lo<zk/\s.hi<zk) (hl:l.length<=1152921504606846976) (hC:(Zl l).1=0\/Cn Tryz.prog 51 [Z2 2] (.v (.int .i64 2))):Cn Tryz.prog 79 [rg l] (jS (Zl l).1 (Zl l).2):=by
 refine zt Tryz.func79 1 ?_
 refine pw ?_
 refine pLoop.go (fun k=>k<=l.length/\Zl l=QZ (y7 l k) (l.drop k) k/\∀ j (h:j<l.length),j<k->l[j].lo<=l[j].hi) (fun k=>[(8,.v (.int .i64 (k:Nat)))]) (fun _=>[]) (fun k=>l.length - k) 0 [8] ?_ ?_ ?_
 ·exact⟨Nat.zero_le _,rfl,fun j _ h=>absurd h (by omega)⟩
 ·exact pd
 ·rintro k ⟨hk,hm,hv⟩
  refine pw ?_
  refine .i ?_ ?_<;>intro h<;>(try simp only [zb] at h)<;>first | refine pw ?_ | exact pd
  ·rw [Yj h] at hm
   have hbk:=hb _ (List.getElem_mem h)
   refine .rd (zea l[k]) rfl ?_
   by_cases h1:l[k].lo<=l[k].hi
   ·rw [if_pos h1] at hm ⊢
    have hs:y7 l (k+1)=some l[k]:=by unfold y7;rw [if_neg (by omega)];exact List.getElem?_eq_getElem h
    have hv':∀ j (hj:j<l.length),j<k+1->l[j].lo<=l[j].hi:=fun j hj hjk=>by
     rcases Nat.lt_or_ge j k with h6 | h6
     ·exact hv j hj h6
     ·obtain rfl:j=k:=by omega
      exact h1
    refine pw ?_
    refine .i ?_ ?_<;>intro h2<;>(try simp only [zb] at h2)<;>first | refine pw ?_ | exact pd
    ·have hp:y7 l k=some l[k - 1]:=by unfold y7;rw [if_neg (by omega),List.getElem?_eq_getElem]
     rw [hp] at hm
     have hbp:=hb _ (List.getElem_mem (show k - 1<l.length by omega))
     refine .c (ziY l[k - 1] l[k] (hv (k - 1) (by omega) (by omega)) h1 hbp.2 hbk.2) ?_
     refine .i ?_ ?_<;>intro h3<;>(try simp only [zb] at h3)<;>first | refine pw ?_ | exact pd
     ·rw [if_neg (by omega)] at hm
      rw [hm]
      refine .c (jT 3 (k:Nat)) ?_
      exact ym _ _
     ·rw [if_pos (by omega)] at hm
      exact⟨k+1,⟨h,by rw [hs];exact hm,hv'⟩,by omega,rfl⟩
    ·have hp:y7 l k=none:=by unfold y7;rw [if_pos (by omega)]
     rw [hp] at hm
     exact⟨k+1,⟨h,by rw [hs];exact hm,hv'⟩,by omega,rfl⟩
   ·rw [if_neg h1] at hm ⊢
    unfold Z2 at hC ⊢
    rcases hC with hC | hC
    ·rw [hm] at hC
     cases hC
    ·refine pw ?_
     (first | refine .c (hC) ?_ | refine .o (hC) ?_)
     rw [hm]
     refine .c (jT 2 (k:Nat)) ?_
     exact ym _ _
  ·rw [List.drop_of_length_le h] at hm
   rw [hm]
   exact .eq _ rfl
theorem zfH (nb:Nat) (cs:List PV) (o:Nat):JU nb (.cp cs o)=true:=rfl
attribute [go_sem] zfH
theorem za0 (e:En) (hb:∀ s ∈ e.holes,s.lo<zk/\s.hi<zk) (hl:e.holes.length<=1152921504606846976) (hC:(Zl e.holes).1=0\/Cn Tryz.prog 51 [Z2 2] (.v (.int .i64 2))):Cn Tryz.prog 189 [.cp (ec e) 0] (jS (Zl e.holes).1 (Zl e.holes).2):=by
 refine zt Tryz.func189 1 ?_
 refine pw ?_
 refine .c (rcheck_c e.holes hb hl hC) ?_
 exact ym _ _
theorem zaZ (e:En) (hl:e.holes.length<=1152921504606846976):Cn Tryz.prog 188 [.cp (ec e) 0] (jS (hk e.max e.holes 0).1 (hk e.max e.holes 0).2):=by
 refine zt Tryz.func188 1 ?_
 refine pw ?_
 refine pLoop.go (fun k=>k<=e.holes.length/\hk e.max e.holes 0=hk e.max (e.holes.drop k) k) (fun k=>[(7,.v (.int .i64 (k:Nat)))]) (fun _=>[]) (fun k=>e.holes.length - k) 0 [7] ?_ ?_ ?_
 ·exact⟨Nat.zero_le _,rfl⟩
 ·exact pd
 ·rintro k ⟨hk1,hm⟩
  refine pw ?_
  refine .i ?_ ?_<;>intro h1<;>(try simp only [zb] at h1)<;>first | refine pw ?_ | exact pd
  ·rw [K3 h1] at hm
   refine .i ?_ ?_<;>intro h2<;>(try simp only [zb] at h2)<;>first | refine pw ?_ | exact pd
   ·rw [hm,if_pos h2]
    refine .c (jT 4 (k:Nat)) ?_
    exact ym _ _
   ·rw [if_neg (by omega)] at hm
    exact⟨k+1,⟨h1,hm⟩,by omega,rfl⟩
  ·rw [List.drop_of_length_le h1] at hm
   rw [hm]
   exact .eq _ rfl
theorem yk {x:Nat × Int} (h:x.1=0):jS x.1 x.2=.v .nilIface:=if_pos h
theorem vu {x:Nat × Int} (h:x.1≠0):jS x.1 x.2=.ifc 120 (.agg [.v (.int .i64 x.1),.v (.int .i64 x.2)]):=if_neg h
theorem zcJ (e:En) (hb:∀ s ∈ e.holes,s.lo<zk/\s.hi<zk) (hl:e.holes.length<=1152921504606846976) (hC:(Zl e.holes).1=0\/Cn Tryz.prog 51 [Z2 2] (.v (.int .i64 2))):Cn Tryz.prog 156 [ep e] (jS (yV e).1 (yV e).2):=by
 refine zt Tryz.func156 1 ?_
 refine pw ?_
 refine pLoop.go (fun k=>k<=2/\(1<=k->(Zl e.holes).1=0)/\(2<=k->(yV e).1=0)) (fun k=>[(12,.v (.int .i64 (k:Nat)))]) (fun _=>[]) (fun k=>2 - k) 0 [12] ?_ ?_ ?_
 ·exact⟨by omega,fun h=>absurd h (by omega),fun h=>absurd h (by omega)⟩
 ·exact pd
 ·rintro k ⟨hk1,h1,h2⟩
  obtain rfl | rfl | rfl:k=0\/k=1\/k=2:=by omega
  ·refine pw ?_
   refine .rd (za0 e hb hl hC) rfl ?_
   by_cases hz:(Zl e.holes).1=0
   ·rw [yk hz]
    refine pw ?_
    exact⟨1,⟨by omega,fun _=>hz,fun h=>absurd h (by omega)⟩,by omega,rfl⟩
   ·have e1:yV e=Zl e.holes:=if_neg hz
    rw [e1,vu hz]
    exact pd
  ·have hz:=h1 (by omega)
   have e1:yV e=hk e.max e.holes 0:=if_pos hz
   refine pw ?_
   refine .rd (zaZ e hl) rfl ?_
   by_cases hy:(hk e.max e.holes 0).1=0
   ·rw [yk hy]
    refine pw ?_
    exact⟨2,⟨by omega,fun _=>hz,fun _=>by rw [e1];exact hy⟩,by omega,rfl⟩
   ·rw [e1,vu hy]
    exact pd
  ·have hz:=h2 (by omega)
   rw [yk hz]
   exact pd
theorem Jg {e:En} (h:zO e):ZL e:=⟨h.1.lt,h.2.2.1,h.2.2.2⟩
section
variable (a b:En) (c:Nat) (ha:ZL a) (hb:ZL b) (hc:c<zk)
include ha hb hc
end
def HG (w:World):Prop:=w.cell? ⟨0,0,none⟩=some (.iface 217 (.agg #[.pointer (some ⟨2,44,none⟩)]))
theorem HG.of {D:Nat->Nat->Prop} {w:World} (h:GL D w):HG w:=(h _ rfl).2
theorem HG.pos {w:World} (h:HG w):0<w.heap.size:=World.block_lt_of_cell? w ⟨0,0,none⟩ h
theorem HG.alloc {w:World} (h:HG w) (o:Obj):HG (w.alloc o):=by
 unfold HG
 rw [World.cell?_alloc_lt _ _ ⟨0,0,none⟩ h.pos];exact h
theorem KK {f:FuncId} {ps:List PV} {r:PV} (hr:r.own=none) (hent:∀ args w,(callFunc f args).run Tryz.prog w=.ok (.enter f args) w)
 (h:∀(D:Nat->Nat->Prop) (w:World) (vs:Array Value),HG w->(∀ b o,D b o->b<w.heap.size)->vs.size=ps.length->(∀(i:Nat) p,ps[i]? = some p->Dat D w (vs.getD i undef) p) ->
   Calls Tryz.prog f vs w fun e w'=>∃ v,e=.returned v/\Below w.heap.size w w'/\Dat (fun b o=>D b o\/(w.heap.size<=b/\b<w'.heap.size)) w' v r):Cn Tryz.prog f ps r:=by
 refine⟨hent,fun D w vs hg hD hsz hd=>(h D w vs (.of hg) hD hsz hd).mono ?_⟩
 rintro e w' ⟨v,rfl,hb,hv⟩
 exact⟨v,_,rfl,hb,fun b o h=>.inl h,fun b o h=>h.imp id And.left,fun b o h=>h.elim (fun h=>Nat.lt_of_lt_of_le (hD b o h) hb.size) And.right,hv,zr hr⟩
theorem zjw {vs:Array Value} (h:vs.size=1):vs=#[vs.getD 0 undef]:=by
 obtain⟨l⟩:=vs
 match l,h with
 | [x],_=>rfl
theorem zb4 (c:Int) (w:World) (hg:HG w):Calls Tryz.prog 94 #[.iface 82 (.int .i64 c),.iface 127 (.pointer (some ⟨w.heap.size,0,none⟩))] (w.alloc (.cells #[.int .i64 0] 82))
 fun ev w'=>ev=.returned (.bool true)/\Below w.heap.size w w'/\w'.cell? ⟨w.heap.size,0,none⟩=some (.int .i64 c):=by
 refine(As.as_NN c ⟨w.heap.size,0,none⟩ (.int .i64 0) _ (hg.alloc _) (by simp) (by simp)).mono ?_
 rintro ev w' ⟨rfl,rfl⟩
 refine⟨rfl,?_,?_⟩
 ·refine Below.setCell (((((((Below.refl _ w).alloc ?_ _).alloc ?_ _).alloc ?_ _).alloc ?_ _).alloc ?_ _)) ?_ _<;>simp<;>omega
 ·refine World.cell?_setCell_same _ _ _ (u:=.int .i64 0) ?_
  rw [World.cell?_alloc_lt _ _ ⟨w.heap.size,0,none⟩ (by simp;omega),World.cell?_alloc_lt _ _ ⟨w.heap.size,0,none⟩ (by simp;omega),World.cell?_alloc_lt _ _ ⟨w.heap.size,0,none⟩ (by simp;omega),World.cell?_alloc_lt _ _ ⟨w.heap.size,0,none⟩ (by simp)]
  simp
theorem zb3 (c k:Int) (w:World) (hg:HG w):Calls Tryz.prog 94 #[.iface 120 (.agg #[.int .i64 c,.int .i64 k]),.iface 127 (.pointer (some ⟨w.heap.size,0,none⟩))] (w.alloc (.cells #[.int .i64 0] 82))
 fun ev w'=>ev=.returned (.bool true)/\Below w.heap.size w w'/\w'.cell? ⟨w.heap.size,0,none⟩=some (.int .i64 c):=by
 refine(As.as_FN c k ⟨w.heap.size,0,none⟩ (.int .i64 0) _ (hg.alloc _) (by simp) (by simp)).mono ?_
 rintro ev w' ⟨rfl,rfl⟩
 refine⟨rfl,?_,?_⟩
 ·refine Below.setCell ((((((((Below.refl _ w).alloc ?_ _).alloc ?_ _).alloc ?_ _).alloc ?_ _).alloc ?_ _).alloc ?_ _)) ?_ _<;>simp<;>omega
 ·refine World.cell?_setCell_same _ _ _ (u:=.int .i64 0) ?_
  rw [World.cell?_alloc_lt _ _ ⟨w.heap.size,0,none⟩ (by simp;omega),World.cell?_alloc_lt _ _ ⟨w.heap.size,0,none⟩ (by simp;omega),World.cell?_alloc_lt _ _ ⟨w.heap.size,0,none⟩ (by simp;omega),World.cell?_alloc_lt _ _ ⟨w.heap.size,0,none⟩ (by simp;omega),World.cell?_alloc_lt _ _ ⟨w.heap.size,0,none⟩ (by simp)]
  simp
theorem zcs (w:World):Calls Tryz.prog 51 #[.nilIface] w fun e w'=>e=.returned (.int .i64 0)/\Below w.heap.size w w':=by
 go_enter Tryz.func51,Tryz.ntmps51
 go_wp2
 go_ret
 exact⟨rfl,(Below.refl _ w).alloc (Nat.le_refl _) _⟩
theorem zhu (c:Int) (w:World) (hg:HG w):Calls Tryz.prog 51 #[.iface 82 (.int .i64 c)] w fun e w'=>e=.returned (.int .i64 c)/\Below w.heap.size w w':=by
 go_enter Tryz.func51,Tryz.ntmps51
 go_wp2_with (go_at_call 94;refine(zb4 c w hg).mono ?_;rintro e w1 ⟨rfl,hb,hc⟩)
 go_ret
 exact⟨rfl,hb⟩
theorem zht (c k:Int) (w:World) (hg:HG w):Calls Tryz.prog 51 #[.iface 120 (.agg #[.int .i64 c,.int .i64 k])] w fun e w'=>e=.returned (.int .i64 c)/\Below w.heap.size w w':=by
 go_enter Tryz.func51,Tryz.ntmps51
 go_wp2_with (go_at_call 94;refine(zb3 c k w hg).mono ?_;rintro e w1 ⟨rfl,hb,hc⟩)
 go_ret
 exact⟨rfl,hb⟩
def z2:Obj:=.cells #[.int .i64 0,.int .i64 0] 120
theorem zaW {D:Nat->Nat->Prop} {w:World} {v:Value} {c:Int} {t:TypeId} (h:Dat D w v (.ifc t (.v (.int .i64 c)))):v=.iface t (.int .i64 c):=by
 cases h with
 | ifc t x p h=>rw [h.v_inv]
theorem zaX {D:Nat->Nat->Prop} {w:World} {v:Value} {c k:Int} {t:TypeId} (h:Dat D w v (.ifc t (.agg [.v (.int .i64 c),.v (.int .i64 k)]))):v=.iface t (.agg #[.int .i64 c,.int .i64 k]):=by
 cases h with
 | ifc t x p h=>
   generalize hc:[PV.v (.int .i64 c),PV.v (.int .i64 k)]=cs at h
   cases h with
   | agg us cs hs _ h=>
     subst hc
     obtain⟨l⟩:=us
     match l,hs with
     | [x,y],_=>
       have e0:=(h 0 _ rfl).v_inv
       have e1:=(h 1 _ rfl).v_inv
       simp at e0 e1
       rw [e0,e1]
theorem KL (c:Nat):Cn Tryz.prog 51 [Z2 c] (.v (.int .i64 c)):=by
 refine KK rfl (enters_of Tryz.func51 (by kernel_rfl) rfl) fun D w vs hg hD hsz hd=>?_
 rw [zjw hsz,zaW (hd 0 _ rfl)]
 refine(zhu c w hg).mono ?_
 rintro e w' ⟨rfl,hb⟩
 exact⟨_,rfl,hb,.v _⟩
theorem Ju (c:Nat) (k:Int):Cn Tryz.prog 51 [jS c k] (.v (.int .i64 c)):=by
 refine KK rfl (enters_of Tryz.func51 (by kernel_rfl) rfl) fun D w vs hg hD hsz hd=>?_
 have h0:=hd 0 _ rfl
 unfold jS at h0
 rw [zjw hsz]
 by_cases hc:c=0
 ·rw [if_pos hc] at h0
  subst hc
  rw [h0.v_inv]
  refine(zcs w).mono ?_
  rintro e w' ⟨rfl,hb⟩
  exact⟨_,rfl,hb,.v _⟩
 ·rw [if_neg hc] at h0
  rw [zaX h0]
  refine(zht c k w hg).mono ?_
  rintro e w' ⟨rfl,hb⟩
  exact⟨_,rfl,hb,.v _⟩
def JF (v:List En):Bool:=v.all (fun e=>decide (e.holes.length<=30)) && decide (v.length<=20)
theorem vw {v:List En}:JF v=true ↔ (∀ e ∈ v,e.holes.length<=30)/\v.length<=20:=by simp [JF]
def prv (v:List En) (k:Nat):Nat:=match v[k - 1]? with
 | some p=>p.rep
 | none=>0
theorem Xl {v:List En} {k:Nat} (h:k - 1<v.length):prv v k=v[k - 1].rep:=by simp [prv,List.getElem?_eq_getElem h]
def hkV (v:List En):Nat->List En->Nat × Int
 | _,[]=>(0,-1)
 | k,e::r=>if (yV e).1≠0 then ((yV e).1,(k:Int)) else if 0<k/\e.rep<=prv v k then (3,(k:Int)) else hkV v (k+1) r
def jx (v:List En):Nat × Int:=hkV v 0 v
theorem Ve (v:List En):∀(k:Nat) (r:List En),r=v.drop k->((hkV v k r).1=0 ↔ (∀ e ∈ r,(yV e).1=0)/\∀ j (h:j<v.length),k<=j->0<j->v[j - 1].rep<v[j].rep)
 | k,[],h=>by
   have hl:=congrArg List.length h
   simp at hl
   simp only [hkV,List.not_mem_nil,false_implies,implies_true,true_and,true_iff]
   intro j hj hk
   omega
 | k,e::r,h=>by
   have hl:=congrArg List.length h
   simp at hl
   have hk:k<v.length:=by omega
   rw [List.drop_eq_getElem_cons hk,List.cons.injEq] at h
   obtain⟨he,hr⟩:=h
   have ih:=Ve v (k+1) r hr
   unfold hkV
   by_cases h1:(yV e).1≠0
   ·rw [if_pos h1]
    constructor
    ·intro h;exact absurd h h1
    ·rintro⟨h2,_⟩;exact absurd (h2 e (by simp)) h1
   ·rw [if_neg h1]
    have h1':(yV e).1=0:=by omega
    by_cases h2:0<k/\e.rep<=prv v k
    ·rw [if_pos h2]
     constructor
     ·intro h;cases h
     ·rintro⟨_,h3⟩
      have:=h3 k hk (Nat.le_refl _) h2.1
      have h22:=h2.2
      have h23:=congrArg En.rep he
      rw [Xl (by omega)] at h22
      omega
    ·rw [if_neg h2,ih]
     constructor
     ·rintro⟨h3,h4⟩
      refine⟨fun f hf=>?_,fun j hj hkj hj0=>?_⟩
      ·rcases List.mem_cons.1 hf with rfl | hf
       ·exact h1'
       ·exact h3 f hf
      ·rcases Nat.eq_or_lt_of_le hkj with rfl | hlt
       ·rw [Xl (by omega),he] at h2
        omega
       ·exact h4 j hj (by omega) hj0
     ·rintro⟨h3,h4⟩
      exact⟨fun f hf=>h3 f (by simp [hf]),fun j hj hkj hj0=>h4 j hj (by omega) hj0⟩
theorem zb0 {v:List En} (h:∀ j (h:j<v.length),0<j->v[j - 1].rep<v[j].rep):v.Pairwise fun a b=>a.rep<b.rep:=by
 rw [List.pairwise_iff_getElem]
 intro i j hi hj hij
 induction j with
 | zero=>omega
 | succ j ih=>
   have h1:=h (j+1) hj (by omega)
   simp only [Nat.add_sub_cancel] at h1
   rcases Nat.eq_or_lt_of_le (Nat.le_of_lt_succ hij) with rfl | h2
   ·exact h1
   ·have:=ih (by omega) h2
    omega
theorem XP {v:List En} (hb:∀ e ∈ v,ZL e):(jx v).1=0 ↔ RightV v:=by
 unfold jx
 rw [Ve v 0 v rfl]
 have hE:∀ e ∈ v,(yV e).1=0 ↔ zO e:=fun e he=>by
  have:=VU (hb e he).1 (hb e he).2.1 (hb e he).2.2
  unfold Xu at this
  simpa using this
 constructor
 ·rintro⟨h1,h2⟩
  exact⟨fun e he=>(hE e he).1 (h1 e he),zb0 fun j hj h0=>h2 j hj (Nat.zero_le _) h0⟩
 ·rintro⟨h1,h2⟩
  refine⟨fun e he=>(hE e he).2 (h1 e he),fun j hj _ h0=>?_⟩
  exact List.pairwise_iff_getElem.1 h2 (j - 1) j (by omega) hj (by omega)
def fdV (r:Nat):Nat->List En->Int
 | _,[] => -1
 | k,e::t=>if e.rep=r then (k:Int) else fdV r (k+1) t
theorem X2 (r:Nat):∀(l:List En) (k:Nat),(fdV r k l=-1/\∀ e ∈ l,e.rep≠r)\/∃(i:Nat) (h:i<l.length),fdV r k l=((k+i:Nat):Int)/\l[i].rep=r
 | [],k=>.inl ⟨rfl,fun _ h=>by cases h⟩
 | e::t,k=>by
   unfold fdV
   by_cases h:e.rep=r
   ·rw [if_pos h]
    exact .inr ⟨0,by simp,by simp,h⟩
   ·rw [if_neg h]
    rcases X2 r t (k+1) with⟨h1,h2⟩ | ⟨i,hi,h1,h2⟩
    ·refine .inl ⟨h1,fun f hf=>?_⟩
     rcases List.mem_cons.1 hf with rfl | hf
     ·exact h
     ·exact h2 f hf
    ·exact .inr ⟨i+1,by simpa using hi,by rw [h1];omega,by simpa using h2⟩
theorem zoo {v:List En} (h:RightV v) (r:Nat):∃ i,i<=v.length/\(∀ j,(h:j<v.length)->j<i->v[j].rep<r)/\(∀ j,(h:j<v.length)->i<=j->r<=v[j].rep):=by
 have hp:=List.pairwise_iff_getElem.1 h.2
 obtain⟨i,h1,h2,h3⟩:=KV (fun j=>∃ h:j<v.length,v[j].rep<r) v.length fun a b hab hb ⟨h4,h5⟩=>by
  refine⟨by omega,?_⟩
  rcases Nat.lt_or_eq_of_le hab with h6 | h6
  ·have:=hp a b (by omega) hb h6
   omega
  ·subst h6;exact h5
 exact⟨i,h1,fun j hj hji=>(h2 j hji).2,fun j hj hij=>Nat.le_of_not_lt fun h=>h3 j hij hj ⟨hj,h⟩⟩
theorem zoj {v:List En} (hr:RightV v) {r i:Nat} (h1:∀ j,(h:j<v.length)->j<i->v[j].rep<r) (h2:∀ j,(h:j<v.length)->i<=j->r<=v[j].rep) :
 fdV r 0 v=if h:i<v.length then (if v[i].rep=r then (i:Int) else -1) else -1:=by
 have hp:=List.pairwise_iff_getElem.1 hr.2
 rcases X2 r v 0 with⟨e1,e2⟩ | ⟨j,hj,e1,e2⟩
 ·rw [e1]
  split
  ·rename_i h
   rw [if_neg (e2 _ (List.getElem_mem h))]
  ·rfl
 ·have hij:i<=j:=Nat.le_of_not_lt fun h=>by have:=h1 j hj h;omega
  have:i=j:=by
   rcases Nat.lt_or_eq_of_le hij with h | h
   ·have a1:=hp i j (by omega) hj h
    have a2:=h2 i (by omega) (Nat.le_refl _)
    omega
   ·exact h
  subst this
  rw [dif_pos hj,if_pos e2,e1,Nat.zero_add]
theorem zh8 {v:List En} (hr:RightV v) {r i:Nat} (hi:i<v.length) (h:v[i].rep=r):zT v r=kn v[i]:=by
 rw [<-h];exact kq hr.2 (List.getElem_mem hi)
def zZ:List Nat->List Nat->Int
 | [],[]=>0
 | [],_::_ => -1
 | _::_,[]=>1
 | a::x,b::y=>if a<b then -1 else if b<a then 1 else zZ x y
theorem jc:∀ a b,zZ a b=0 ↔ a=b
 | [],[]=>by simp [zZ]
 | [],_::_=>by simp [zZ]
 | _::_,[]=>by simp [zZ]
 | a::x,b::y=>by
   unfold zZ
   rw [List.cons.injEq]
   split
   ·constructor
    ·intro h;cases h
    ·rintro⟨h,_⟩;omega
   ·split
    ·constructor
     ·intro h;cases h
     ·rintro⟨h,_⟩;omega
    ·rw [jc x y]
     constructor
     ·intro h;exact⟨by omega,h⟩
     ·exact And.right
theorem zj5 (v:List En) (hl:v.length<=9223372036854775807):Cn Tryz.prog 53 [vp v] (.v (.bool (JF v))):=by
 refine zt Tryz.func53 1 ?_
 refine pw ?_
 refine pLoop.go (fun k=>k<=v.length/\JF v=((v.drop k).all (fun e=>decide (e.holes.length<=30)) && decide (v.length<=20))) (fun k=>[(3,.v (.int .i64 (k:Nat)))]) (fun _=>[]) (fun k=>v.length - k) 0 [3] ?_ ?_ ?_
 ·exact⟨Nat.zero_le _,rfl⟩
 ·exact pd
 ·rintro k ⟨hk,hm⟩
  refine pw ?_
  refine .i ?_ ?_<;>intro h<;>(try simp only [zb] at h)<;>first | refine pw ?_ | exact pd
  ·rw [List.drop_eq_getElem_cons h,List.all_cons] at hm
   refine pw ?_
   refine .i ?_ ?_<;>intro h2<;>(try simp only [zb] at h2)<;>first | refine pw ?_ | exact pd
   ·rw [hm,decide_eq_false (by omega)]
    rfl
   ·rw [decide_eq_true (by omega),Bool.true_and] at hm
    exact⟨k+1,⟨h,hm⟩,by omega,rfl⟩
  ·rw [hm,List.drop_of_length_le (by omega)]
   simp
   omega
theorem zdn (x:Nat):Cn Tryz.prog 170 [.v (.int .u64 x)] (.v (.bool false)):=by
 refine zt Tryz.func170 1 ?_
 exact pd
theorem XQ (x y:Nat):Cn Tryz.prog 129 [.v (.int .u64 x),.v (.int .u64 y)] (.v (.int .i64 (if x<y then -1 else if y<x then 1 else 0))):=by
 refine zt Tryz.func129 2 ?_
 refine pw ?_
 refine .c (zdn x) ?_
 refine .c (zdn y) ?_
 refine .i ?_ ?_<;>intro h1<;>(try simp only [zb] at h1)<;>first | refine pw ?_ | exact pd
 ·rw [if_pos h1]
 ·rw [if_neg (by omega)]
  refine .i ?_ ?_<;>intro h2<;>(try simp only [zb] at h2)<;>first | refine pw ?_ | exact pd
  ·rw [if_pos h2]
  ·rw [if_neg (by omega)]
theorem zkx (r:Nat) (e:En):Cn Tryz.prog 157 [.v (.int .u64 r),ep e] (.v (.int .i64 (if e.rep<r then -1 else if r<e.rep then 1 else 0))):=by
 refine zt Tryz.func157 2 ?_
 refine pw ?_
 exact .d (XQ e.rep r)
theorem zji (a b:List En) (hl:a.length<=1152921504606846976) (hh:∀ e ∈ a,e.holes.length<=1152921504606846976):Cn Tryz.prog 61 [vp a,vp b] (.v (.bool (decide (a=b)))):=by
 refine zt Tryz.func61 2 ?_
 refine pw ?_
 refine .i ?_ ?_<;>intro h0<;>(try simp only [zb] at h0)<;>first | refine pw ?_ | exact pd
 ·symm
  rw [decide_eq_false_iff_not]
  rintro rfl
  exact h0 rfl
 ·have h0':a.length=b.length:=by simpa using h0
  clear h0
  refine pLoop.go (fun k=>k<=a.length/\(a=b ↔ a.drop k=b.drop k)) (fun k=>[(5,.v (.int .i64 (k:Nat)))]) (fun _=>[]) (fun k=>a.length - k) 0 [5] ?_ ?_ ?_
  ·exact⟨Nat.zero_le _,Iff.rfl⟩
  ·exact pd
  ·rintro k ⟨hk,hm⟩
   refine pw ?_
   refine .i ?_ ?_<;>intro h<;>(try simp only [zb] at h)<;>first | refine pw ?_ | exact pd
   ·have hk':k<b.length:=by omega
    rw [List.drop_eq_getElem_cons h,List.drop_eq_getElem_cons hk',List.cons.injEq] at hm
    refine pw ?_
    refine .c (zjh a[k] b[k] (hh _ (List.getElem_mem h))) ?_
    refine .i ?_ ?_<;>intro e<;>(try simp only [zb] at e)<;>first | refine pw ?_ | exact pd
    ·symm
     rw [decide_eq_false_iff_not]
     intro he
     exact e (hm.1 he).1
    ·refine⟨k+1,⟨h,?_⟩,by omega,rfl⟩
     rw [hm]
     exact⟨fun h=>h.2,fun h=>⟨e,h⟩⟩
   ·rw [eq_comm,decide_eq_true_eq,hm,List.drop_of_length_le (by omega),List.drop_of_length_le (by omega)]
def kfn:PV:=.cp [.fn (.func 157) [] []] 0
attribute [go_sem] kfn
theorem znQ (e:En) (r:Nat):Cn Tryz.prog 187 [ep e,.v (.int .u64 r),kfn] (.v (.int .i64 (if e.rep<r then -1 else if r<e.rep then 1 else 0))):=by
 refine zt Tryz.func187 3 ?_
 refine pw ?_
 exact .d (zkx r e)
theorem zoR (v:List En) (r:Nat) (i:Nat) (hi:i<=v.length) (h1:∀ j,(h:j<v.length)->j<i->v[j].rep<r) (h2:∀ j,(h:j<v.length)->i<=j->r<=v[j].rep) (hl:v.length<=1152921504606846976) :
 Cn Tryz.prog 186 [vp v,.v (.int .u64 r),.fn (.func 187) [] [kfn]] (.tup [.v (.int .i64 i),.v (.bool (if h:i<v.length then decide (v[i].rep=r) else false))]):=by
 refine zt Tryz.func186 3 ?_
 refine pw ?_
 refine pLoop.go (fun p:Nat × Nat=>p.1<=i/\i<=p.2/\p.2<=v.length) (fun p=>[(9,.v (.int .i64 (p.1:Nat))),(10,.v (.int .i64 (p.2:Nat)))]) (fun _=>[]) (fun p=>p.2 - p.1) (0,v.length) [9,10] ?_ ?_ ?_
 ·exact⟨Nat.zero_le _,hi,Nat.le_refl _⟩
 ·exact pd
 ·rintro⟨p,q⟩ ⟨k1,k2,k3⟩
  simp only at k1 k2 k3
  refine pw ?_
  refine .i ?_ ?_<;>intro h<;>(try simp only [zb] at h)<;>first | refine pw ?_ | exact pd
  ·have hm:(p+q) / 2<v.length:=by omega
   have a1:=h1 _ hm
   have a2:=h2 _ hm
   refine pw ?_
   refine .c (znQ v[(p+q) / 2] r) ?_
   refine .i ?_ ?_<;>intro h4<;>(try simp only [zb] at h4)<;>first | refine pw ?_ | exact pd
   ·refine⟨((p+q) / 2+1,q),⟨?_,k2,k3⟩,by simp only;omega,rfl,rfl⟩
    simp only
    refine Nat.lt_of_not_le fun h5=>?_
    have:=a2 h5
    rw [if_neg (by omega)] at h4
    split at h4<;>omega
   ·refine⟨(p,(p+q) / 2),⟨k1,?_,by simp only;omega⟩,by simp only;omega,rfl,rfl⟩
    simp only
    refine Nat.le_of_not_lt fun h5=>?_
    have:=a1 h5
    rw [if_pos this] at h4
    omega
  ·obtain rfl:p=i:=by omega
   obtain rfl:q=p:=by omega
   refine .i ?_ ?_<;>intro h4<;>(try simp only [zb] at h4)<;>first | refine pw ?_ | exact pd
   ·refine .c (znQ v[q] r) ?_
    have a2:=h2 _ h4 (Nat.le_refl _)
    rw [dif_pos h4,if_neg (by omega)]
    by_cases h5:v[q].rep=r
    ·rw [if_neg (by omega),decide_eq_true h5]
     simp
    ·rw [if_pos (by omega),decide_eq_false h5]
     simp
   ·rw [dif_neg (by omega)]
theorem zoK (v:List En) (r:Nat) (hr:RightV v) (hl:v.length<=1152921504606846976):Cn Tryz.prog 154 [vp v,.v (.int .u64 r)] (.v (.int .i64 (fdV r 0 v))):=by
 obtain⟨i,hi,h1,h2⟩:=zoo hr r
 rw [zoj hr h1 h2]
 refine zt Tryz.func154 2 ?_
 refine pw ?_
 refine .c (zoR v r i hi h1 h2 hl) ?_
 by_cases h:i<v.length
 ·rw [dif_pos h,dif_pos h]
  refine .i ?_ ?_<;>intro h3<;>(try simp only [zb] at h3)<;>first | refine pw ?_ | exact pd
  ·rw [if_neg h3]
  ·rw [if_pos h3]
 ·rw [dif_neg h,dif_neg h]
  exact pd
theorem zo6 (v:List En) (r c:Nat) (hr:RightV v) (hc:c<zk) (hl:v.length<=1152921504606846976) (hh:∀ e ∈ v,e.holes.length<=1152921504606846976):Cn Tryz.prog 102 [vp v,.v (.int .u64 r),.v (.int .u64 c)] (.v (.bool (mem (zT v r) c))):=by
 refine zt Tryz.func102 3 ?_
 refine pw ?_
 refine .rd (zoK v r hr hl) rfl ?_
 rcases X2 r v 0 with⟨e1,e2⟩ | ⟨i,hi,e1,e2⟩
 ·rw [e1,qC e2]
  refine pw ?_
  rfl
 ·rw [e1,zh8 hr hi e2,vC (hr.1 _ (List.getElem_mem hi)) hc,Nat.zero_add]
  refine pw ?_
  exact .d (zoS v[i] c (hr.1 _ (List.getElem_mem hi)) (hh _ (List.getElem_mem hi)))
theorem Kb (v:List En) (hb:∀ e ∈ v,ZL e) (hl:v.length<=9223372036854775807) (hh:∀ e ∈ v,e.holes.length<=9223372036854775807):Cn Tryz.prog 92 [vp v] (.tup [.v (.int .i64 (jx v).1),.v (.int .i64 (jx v).2)]):=by
 refine zt Tryz.func92 1 ?_
 refine pw ?_
 refine pLoop.go (fun k=>k<=v.length/\jx v=hkV v k (v.drop k)) (fun k=>[(4,.v (.int .i64 (k:Nat)))]) (fun _=>[]) (fun k=>v.length - k) 0 [4] ?_ ?_ ?_
 ·exact⟨Nat.zero_le _,rfl⟩
 ·exact pd
 ·rintro k ⟨hk,hm⟩
  refine pw ?_
  refine .i ?_ ?_<;>intro h<;>(try simp only [zb] at h)<;>first | refine pw ?_ | exact pd
  ·rw [List.drop_eq_getElem_cons h,hkV] at hm
   refine pw ?_
   refine .c (zcj v[k] (hh _ (List.getElem_mem h)) (hb _ (List.getElem_mem h)).1) ?_
   refine .i ?_ ?_<;>intro h2<;>(try simp only [zb] at h2)<;>first | refine pw ?_ | exact pd
   ·rw [if_pos (by omega)] at hm
    rw [hm]
   ·rw [if_neg (by omega)] at hm
    refine .i ?_ ?_<;>intro h3<;>(try simp only [zb] at h3)<;>first | refine pw ?_ | exact pd
    ·have hp:=Xl (v:=v) (k:=k) (by omega)
     rw [hp] at hm
     refine pw ?_
     refine .i ?_ ?_<;>intro h4<;>(try simp only [zb] at h4)<;>first | refine pw ?_ | exact pd
     ·rw [if_pos ⟨h3,h4⟩] at hm
      rw [hm]
      rfl
     ·rw [if_neg (fun h=>by omega)] at hm
      exact⟨k+1,⟨h,hm⟩,by omega,rfl⟩
    ·rw [if_neg (fun h=>by omega)] at hm
     exact⟨k+1,⟨h,hm⟩,by omega,rfl⟩
  ·rw [hm,List.drop_of_length_le (by omega)]
   rfl
theorem zes (v:List En) (hb:∀ e ∈ v,ZL e) (hl:v.length<=1152921504606846976) (hh:∀ e ∈ v,e.holes.length<=1152921504606846976):Cn Tryz.prog 105 [vp v] (jS (jx v).1 (jx v).2):=by
 refine zt Tryz.func105 1 ?_
 refine pw ?_
 refine pLoop.go (fun k=>k<=v.length/\jx v=hkV v k (v.drop k)) (fun k=>[(8,.v (.int .i64 (k:Nat)))]) (fun _=>[]) (fun k=>v.length - k) 0 [8] ?_ ?_ ?_
 ·exact⟨Nat.zero_le _,rfl⟩
 ·exact pd
 ·rintro k ⟨hk,hm⟩
  refine pw ?_
  refine .i ?_ ?_<;>intro h<;>(try simp only [zb] at h)<;>first | refine pw ?_ | exact pd
  ·rw [List.drop_eq_getElem_cons h,hkV] at hm
   have hbk:=hb _ (List.getElem_mem h)
   have hhk:=hh _ (List.getElem_mem h)
   have hco:=Ju (yV v[k]).1 (yV v[k]).2
   refine pw ?_
   refine .rd (zcJ v[k] hbk.1 hhk (.inr (KL 2))) rfl ?_
   by_cases hz:(yV v[k]).1=0
   ·rw [yk hz]
    rw [if_neg (by omega)] at hm
    refine pw ?_
    refine .i ?_ ?_<;>intro h3<;>(try simp only [zb] at h3)<;>first | refine pw ?_ | exact pd
    ·have hp:=Xl (v:=v) (k:=k) (by omega)
     rw [hp] at hm
     refine pw ?_
     refine .c (zkx v[k - 1].rep v[k]) ?_
     refine .i ?_ ?_<;>intro h4<;>(try simp only [zb] at h4)<;>first | refine pw ?_ | exact pd
     ·have h5:v[k].rep<=v[k - 1].rep:=by split at h4<;>(try split at h4)<;>omega
      rw [if_pos ⟨h3,h5⟩] at hm
      rw [hm]
      refine .c (jT 3 k) ?_
      exact ym _ _
     ·have h5:¬ v[k].rep<=v[k - 1].rep:=by split at h4<;>(try split at h4)<;>omega
      rw [if_neg (fun h=>by omega)] at hm
      exact⟨k+1,⟨h,hm⟩,by omega,rfl⟩
    ·rw [if_neg (fun h=>by omega)] at hm
     exact⟨k+1,⟨h,hm⟩,by omega,rfl⟩
   ·rw [if_pos hz] at hm
    rw [hm]
    rw [vu hz] at hco ⊢
    refine pw ?_
    (first | refine .c (hco) ?_ | refine .o (hco) ?_)
    refine .c (jT (yV v[k]).1 k) ?_
    exact ym _ _
  ·rw [hm,List.drop_of_length_le (by omega)]
   exact .eq _ rfl
def us (l:List Nat):PV:=.sl (l.map yN) .sh
attribute [go_sem] us
theorem zik (x:Nat):Cn Tryz.prog 208 [.v (.int .u64 x)] (.v (.bool false)):=by
 refine zt Tryz.func208 1 ?_
 exact pd
theorem zie (x y:Nat):Cn Tryz.prog 207 [.v (.int .u64 x),.v (.int .u64 y)] (.v (.bool (decide (x<y)))):=by
 refine zt Tryz.func207 2 ?_
 refine pw ?_
 exact .d (zdn x)
theorem zaI (l:List Nat) (x i:Nat) (hi:i<=l.length) (h1:∀ j,(h:j<l.length)->j<i->l[j]<x) (h2:∀ j,(h:j<l.length)->i<=j->x<=l[j]) (hl:l.length<=1152921504606846976) :
 Cn Tryz.prog 192 [us l,.v (.int .u64 x)] (.tup [.v (.int .i64 i),.v (.bool (decide (l[i]? = some x)))]):=by
 refine zt Tryz.func192 2 ?_
 refine pw ?_
 refine pLoop.go (fun p:Nat × Nat=>p.1<=i/\i<=p.2/\p.2<=l.length) (fun p=>[(7,.v (.int .i64 (p.1:Nat))),(8,.v (.int .i64 (p.2:Nat)))]) (fun _=>[]) (fun p=>p.2 - p.1) (0,l.length) [7,8] ?_ ?_ ?_
 ·exact⟨Nat.zero_le _,hi,Nat.le_refl _⟩
 ·exact pd
 ·rintro⟨p,q⟩ ⟨k1,k2,k3⟩
  simp only at k1 k2 k3
  refine pw ?_
  refine .i ?_ ?_<;>intro h<;>(try simp only [zb] at h)<;>first | refine pw ?_ | exact pd
  ·have hm:(p+q) / 2<l.length:=by omega
   refine pw ?_
   refine .c (zie l[(p+q) / 2] x) ?_
   refine .i ?_ ?_<;>intro h4<;>(try simp only [zb] at h4)<;>first | refine pw ?_ | exact pd
   ·refine⟨((p+q) / 2+1,q),⟨?_,k2,k3⟩,by simp only;omega,rfl,rfl⟩
    simp only
    refine Nat.lt_of_not_le fun h5=>?_
    have:=h2 _ hm h5
    omega
   ·refine⟨(p,(p+q) / 2),⟨k1,?_,by simp only;omega⟩,by simp only;omega,rfl,rfl⟩
    simp only
    refine Nat.le_of_not_lt fun h5=>?_
    have:=h1 _ hm h5
    omega
  ·obtain rfl:p=i:=by omega
   obtain rfl:q=p:=by omega
   refine .i ?_ ?_<;>intro h4<;>(try simp only [zb] at h4)<;>first | refine pw ?_ | exact pd
   ·rw [show l[q]? = some l[q] from List.getElem?_eq_getElem h4]
    refine .i ?_ ?_<;>intro h5<;>(try simp only [zb] at h5)<;>first | refine pw ?_ | exact pd
    ·simp [h5]
    ·refine .c (zik l[q]) ?_
     simp [h5]
   ·rw [show l[q]? = none from List.getElem?_eq_none (by omega)]
    simp
end Go.Proofs.YtonhfknjcbakiaaGreatDoor
namespace Go.Proofs.YtonhfknjcbakiaaGreatDoor
open Go.RowKit Go.Maps
attribute [-go_sem] z7
theorem XY {D:Nat->Nat->Prop} {w:World} {x a b:Value} (h:Dat D w x (.tup [.v a,.v b])):x=.tuple #[a,b]:=by
 cases h with
 | tup vs cs hs h=>
   obtain⟨l⟩:=vs
   match l,hs with
   | [p,q],_=>
     have e0:=(h 0 _ rfl).v_inv
     have e1:=(h 1 _ rfl).v_inv
     simp at e0 e1
     rw [e0,e1]
theorem jP {f:FuncId} {ps:List PV} {r:PV} (h:Cn Tryz.prog f ps r) {D:Nat->Nat->Prop} {w:World} {vs:Array Value} (hG:GL D w) (hD:∀ b o,D b o->b<w.heap.size) (hsz:vs.size=ps.length) (hd:∀(i:Nat) p,ps[i]? = some p->Dat D w (vs.getD i undef) p) :
 Calls Tryz.prog f vs w fun e w'=>∃ v,e=.returned v/\Below w.heap.size w w'/\Dat (fun b o=>D b o\/(w.heap.size<=b/\b<w'.heap.size)) w' v r:=by
 refine(h.2 D w vs hG hD hsz hd).mono ?_
 rintro e w' ⟨v,D',rfl,hb,_,q2,q3,hd,_⟩
 exact⟨v,rfl,hb,hd.mono (fun b o h=>(q2 b o h).imp id fun h'=>⟨h',q3 b o h⟩) fun _ _ _ _ h=>h⟩
theorem OwnU.keep {base:Nat} {w w':World} {v:Value} {l:List Nat} (h:OwnU base w v l) (hb:∀ g,v.ownBlock=some g->w'.heap[g]? = w.heap[g]?):OwnU base w' v l:=by
 refine⟨h.1,?_⟩
 rcases h.2 with h | ⟨g,cap,cur,e,hg,hc,r⟩
 ·exact .inl h
 ·exact .inr ⟨g,cap,cur,e,hg,(hb g (by rw [e];rfl)).trans hc,r⟩
theorem OwnU.lt {base:Nat} {w:World} {v:Value} {l:List Nat} (h:OwnU base w v l):∀ g,v.ownBlock=some g->base<=g/\g<w.heap.size:=fun g hg=>World.ownsRow.lt h g hg
theorem KC (x:Nat):∀ {l:List Nat},YN l->∃ i,i<=l.length/\(∀ j,(h:j<l.length)->j<i->l[j]<x)/\(∀ j,(h:j<l.length)->i<=j->x<=l[j])
 | [],_=>⟨0,Nat.le_refl _,fun j h=>absurd h (by simp),fun j h=>absurd h (by simp)⟩
 | y::l,h=>by
   have ⟨h1,h2⟩:=List.pairwise_cons.1 h
   by_cases hy:y<x
   ·obtain⟨i,hi,q1,q2⟩:=KC x h2
    refine⟨i+1,by simp;omega,fun j hj hji=>?_,fun j hj hij=>?_⟩
    ·match j with
     | 0=>exact hy
     | j+1=>exact q1 j (by simpa using hj) (by omega)
    ·match j with
     | 0=>omega
     | j+1=>exact q2 j (by simpa using hj) (by omega)
   ·refine⟨0,Nat.zero_le _,fun j _ hj=>by omega,fun j hj _=>?_⟩
    match j with
    | 0=>simp;omega
    | j+1=>
      have hj':j<l.length:=by simpa using hj
      have:=h1 _ (List.getElem_mem hj')
      simp only [List.getElem_cons_succ]
      omega
theorem zmj {C:Nat->Nat->Prop} {base:Nat} {w:World} {v:Value} {l:List Nat} (x i:Nat) (hown:OwnU base w v l) (hC:∀ b o,C b o->b<w.heap.size) (hG:GL C w) (hi:i<=l.length) (h1:∀ j,(h:j<l.length)->j<i->l[j]<x) (h2:∀ j,(h:j<l.length)->i<=j->x<=l[j]) (hl:l.length<=1152921504606846976) :
 Calls Tryz.prog 192 #[v,.int .u64 (x:Nat)] w fun e w'=>(∃ b,e=.returned (.tuple #[.int .i64 (i:Nat),.bool b]))/\Below w.heap.size w w':=by
 refine(jP (zaI l x i hi h1 h2 hl) (D:=fun b o=>C b o\/(base<=b/\b<w.heap.size)) (hG.mono (fun _ _ h=>.inl h) fun _ _ _ _ h=>h) (fun b o h=>h.elim (hC b o) And.right) rfl (fun j p hp=>?_)).mono ?_
 ·match j,hp with
  | 0,hp=>cases hp;exact vL hown fun b o h1 h2=>.inr ⟨h1,h2⟩
  | 1,hp=>cases hp;exact .v _
  | j+2,hp=>simp at hp
 ·rintro e w' ⟨v,rfl,hb,hd⟩
  rw [XY hd]
  exact⟨⟨_,rfl⟩,hb⟩
theorem zaD {C:Nat->Nat->Prop} {base rb:Nat} {w:World} {v:Value} {xs:List Nat} (x:Nat) (hown:OwnU base w v (srt xs)) (hbx:Boxed w rb 198 v) (hrb:rb<base) (hnot:x ∉ xs) (hl:(srt xs).length<=4194304) (hbase:base<=w.heap.size) (hC:∀ b o,C b o->b<w.heap.size) (hG:GL C w) :
 Calls Tryz.prog 160 #[.pointer (some ⟨rb,0,none⟩),.int .u64 (x:Nat)] w fun e w'=>(∃ u,e=.returned u)/\∃ v',Boxed w' rb 198 v'/\OwnU base w' v' (srt (xs++[x]))/\Keep (fun k=>k=rb\/base<=k) w w':=by
 obtain⟨i,hi,q1,q2⟩:=KC x (yi xs)
 have HBS:=Lib.hid (zmj x i hown hC hG hi q1 q2 (by omega))
 have hins:srt (xs++[x])=(srt xs).take i++x::(srt xs).drop i:=kJ hi (fun k hk hik=>by
  have h1:=q2 k hk hik
  have h2:(srt xs)[k]≠x:=fun e=>hnot (qr.1 (e ▸ List.getElem_mem hk))
  omega) (by
  rcases Nat.eq_zero_or_pos i with h0 | h0
  ·exact .inl h0
  ·exact .inr ⟨by omega,q1 _ (by omega) (by omega)⟩)
 have HI:=Lib.hid hins
 have HO:=Lib.hid hown
 have HX:=Lib.hid hbx
 have c0:=hbx.cell
 have hrw:=hbx.lt
 clear hins hown hbx hC hG q1 q2 hnot
 have tokA:True:=trivial
 have tokB:True:=trivial
 go_enter Tryz.func160,Tryz.ntmps160
 go_wp2_with (first
  | (go_at_call 192;have _t:=tokA;refine HBS.out.mono ?_;rintro e w1 ⟨⟨bb,rfl⟩,hb1⟩
     have c1:w1.cell? ⟨rb,0,none⟩=some v:=(World.cell?_of_block (a:=⟨rb,0,none⟩) (hb1.block rb hrw)).trans c0
     have HB1:=Lib.hid hb1
     clear hb1 tokA)
  | (go_at_call 193;have _t:=tokB
     refine(Y9 base w1.heap.size _ _ v (srt xs) x i hi (HO.out.keep fun g hg=>by rw [Below.heap_alloc _ _ _ (Nat.lt_of_lt_of_le (HO.out.lt g hg).2 HB1.out.size),HB1.out.block g (HO.out.lt g hg).2]) (World.alloc_heap_new w1 _) (fun e=>by have h8:=(HO.out.lt _ e).2;have h9:=HB1.out.size;omega) (by omega) (by have:=HB1.out.size;simp;omega)).mono ?_
     rintro e w3 ⟨v',rfl,ho3,hg3,_⟩
     have hx3:Boxed w3 rb 198 v:=((show Boxed w1 rb _ v from (HB1.out.block rb hrw).trans HX.out).alloc _).kept hg3 (fun e=>by have:=(HO.out.lt rb e.symm).1;omega)
     have c3:=hx3.cell
     have f3:=hx3.frozen
     have HX3:=Lib.hid hx3
     have HK3:=Lib.hid ((((Keep.of_below' (S:=fun k=>k=rb\/base<=k) HB1.out (Nat.le_refl _)).alloc _).grown hg3 fun k hk _=>.inr (HO.out.lt k hk).1))
     rw [<-HI.out] at ho3
     obtain⟨g3,cap3,cur3,rfl,_⟩:=(show _\/_ from ho3.cases).resolve_left (fun h=>by have:=h.2;rw [HI.out] at this;simp at this)
     have HO3:=Lib.hid ho3
     clear hx3 hg3 ho3 tokB)
  | go_in)
 go_end0
 exact⟨⟨_,rfl⟩,_,HX3.out.set _,HO3.out.keep fun g hg=>Below.heap_setCell _ _ _ _ (by have:=(HO3.out.lt g hg).1;show g≠rb;omega),HK3.out.setCell (fun _=>.inl rfl) _⟩
end Go.Proofs.YtonhfknjcbakiaaGreatDoor
namespace Go.Proofs.YtonhfknjcbakiaaGreatDoor
open Go.RowKit
theorem zS {f:FuncId} {ps:List PV} {b:Bool} (hc:Cn Tryz.prog f ps (.v (.bool b))) {D:Nat->Nat->Prop} {w:World} {vs:Array Value} (hG:GL D w) (hD:∀ b o,D b o->b<w.heap.size) (hsz:vs.size=ps.length) (hd:∀(i:Nat) p,ps[i]? = some p->Dat D w (vs.getD i undef) p) :
 Calls Tryz.prog f vs w fun e w'=>e=.returned (.bool b)/\Below w.heap.size w w':=by
 refine(jP hc hG hD hsz hd).mono ?_
 rintro e w' ⟨u,rfl,hb,hd⟩
 have e:=(Rel.dat (ρ:=fun _=>0) (nb:=0) hd).v_inv
 rw [e]
 exact⟨rfl,hb⟩
theorem vj {S:Nat->Prop} {w:World} {a:Option Addr} {n c:Nat} (h:MuE S w (.slice a n c)) {j:Nat} (hj:j<n):∃ b off m0 m1 ah lh ch,a=some ⟨b,off,none⟩/\S b/\w.cell? ⟨b,off+j * 3,none⟩=some (.int .u64 m0)/\w.frozen? ⟨b,off+j * 3,none⟩=false/\w.cell? ⟨b,off+j * 3+1,none⟩=some (.int .u64 m1)/\w.frozen? ⟨b,off+j * 3+1,none⟩=false/\w.cell? ⟨b,off+j * 3+2,none⟩=some (.slice ah lh ch)/\lh<=ch/\ch<=2 ^ 63 - 1/\MuI S w (.slice ah lh ch):=by
 obtain⟨n',a',cap,e,_,_,h3⟩:=h
 cases e
 obtain⟨b,off,rfl,h4⟩:=h3 (by omega)
 obtain⟨⟨q0,m0,q1,q2⟩,⟨_,m1,q3,q4⟩,v,q5,q6⟩:=h4 j hj
 have q7:=q6
 obtain⟨lh,ah,ch,rfl,hl,hm,_⟩:=q7
 exact⟨b,off,m0,m1,ah,lh,ch,rfl,q0,q1,q2,q3,q4,q5,hl,hm,q6⟩
theorem zrm {S:Nat->Prop} {w:World} {a:Option Addr} {n c:Nat} (h:MuI S w (.slice a n c)) {j:Nat} (hj:j<n):∃ b off m0 m1,a=some ⟨b,off,none⟩/\S b/\w.cell? ⟨b,off+j * 2,none⟩=some (.int .u64 m0)/\w.frozen? ⟨b,off+j * 2,none⟩=false/\w.cell? ⟨b,off+j * 2+1,none⟩=some (.int .u64 m1)/\w.frozen? ⟨b,off+j * 2+1,none⟩=false:=by
 obtain⟨n',a',cap,e,_,_,h3⟩:=h
 cases e
 obtain⟨b,off,rfl,h4⟩:=h3 (by omega)
 obtain⟨⟨q0,m0,q1,q2⟩,⟨_,m1,q3,q4⟩⟩:=h4 j hj
 exact⟨b,off,m0,m1,rfl,q0,q1,q2,q3,q4⟩
theorem wp_some {P:Program} {c:Code} {a:Act} {W:World} {Q:Exit->Act->World->Prop} {R:World->Prop} (h:R W) (k:∀ W,R W->c.wp P Q a W):c.wp P Q a W:=k W h
theorem zsm {S:Nat->Prop} {w:World} {a:Option Addr} {n c:Nat} (h:MuF S w (.slice a n c)) {j:Nat} (hj:j<n):∃ b off ai li ci av lv cv,a=some ⟨b,off,none⟩/\w.cell? ⟨b,off+j * 2,none⟩=some (.slice ai li ci)/\li<=ci/\ci<=2 ^ 63 - 1/\MuI S w (.slice ai li ci)/\w.cell? ⟨b,off+j * 2+1,none⟩=some (.slice av lv cv)/\lv<=cv/\cv<=2 ^ 63 - 1/\MuE S w (.slice av lv cv):=by
 obtain⟨n',a',cap,e,_,_,h3⟩:=h
 cases e
 obtain⟨b,off,rfl,h4⟩:=h3 (by omega)
 obtain⟨⟨x,q1,q2⟩,y,q3,q4⟩:=h4 j hj
 have q5:=q2
 have q6:=q4
 obtain⟨li,ai,ci,rfl,l1,l2,_⟩:=q5
 obtain⟨lv,av,cv,rfl,l3,l4,_⟩:=q6
 exact⟨b,off,ai,li,ci,av,lv,cv,rfl,q1,l1,l2,q2,q3,l3,l4,q4⟩
theorem NumAt.lt {S:Nat->Prop} {w:World} {b o:Nat} (h:NumAt S w b o):NumAt (fun b=>S b/\b<w.heap.size) w b o:=⟨⟨h.1,by
 obtain⟨_,m,h1,_⟩:=h
 exact World.block_lt_of_cell? _ _ h1⟩,h.2⟩
theorem MuI.lt {S:Nat->Prop} {w:World} {v:Value} (h:MuI S w v):MuI (fun b=>S b/\b<w.heap.size) w v:=h.imp fun _ h=>h.imp fun _ _ h=>⟨h.1.lt,h.2.lt⟩
theorem MuE.lt {S:Nat->Prop} {w:World} {v:Value} (h:MuE S w v):MuE (fun b=>S b/\b<w.heap.size) w v:=h.imp fun _ h=>h.imp fun _ _ h=>⟨h.1.lt,h.2.1.lt,h.2.2.imp fun _ g=>⟨g.1,g.2.lt⟩⟩
theorem MuF.lt {S:Nat->Prop} {w:World} {v:Value} (h:MuF S w v):MuF (fun b=>S b/\b<w.heap.size) w v:=h.imp fun _ h=>h.imp fun _ _ h=>⟨h.1.imp fun _ g=>⟨g.1,g.2.lt⟩,h.2.imp fun _ g=>⟨g.1,g.2.lt⟩⟩
def Jd (A M:Nat) (w w':World):Prop:=Kd A w w'/\Keep (fun k=>A<=k/\k<M) w w'
theorem Jd.refl (A M:Nat) (w:World):Jd A M w w:=⟨Kd.refl _ _,Keep.refl _ _⟩
theorem Jd.trans {A M:Nat} {w w1 w2:World} (h:Jd A M w w1) (g:Jd A M w1 w2):Jd A M w w2:=⟨h.1.trans g.1,h.2.trans g.2⟩
theorem Jd.set {A M:Nat} {w w1:World} (h:Jd A M w w1) {b o:Nat} {m:Int} (hb:A<=b/\b<M) (hc:w1.cell? ⟨b,o,none⟩=some (.int .u64 m)) (x:Int):Jd A M w (w1.setCell ⟨b,o,none⟩ (.int .u64 x)):=
 ⟨h.1.set hb.1 hc x,h.2.setCell (p:=⟨b,o,none⟩) (fun _=>hb) _⟩
def Pw (w w3:World) (M N:Nat) (W:World):Prop:=Below w.heap.size w W/\(∀ j,M<=j->j<N->W.heap[j]? = w3.heap[j]?)/\N<=W.heap.size
theorem Pw.below {w w3 W W':World} {M N:Nat} (h:Pw w w3 M N W) (hb:Below W.heap.size W W'):Pw w w3 M N W':=
 ⟨h.1.trans (hb.mono h.1.size),fun j h1 h2=>(hb.block j (Nat.lt_of_lt_of_le h2 h.2.2)).trans (h.2.1 j h1 h2),Nat.le_trans h.2.2 hb.size⟩
theorem Pw.jd {w w3 W W':World} {M N A:Nat} (h:Pw w w3 M N W) (hb:Jd A M W W') (hA:w.heap.size<=A):Pw w w3 M N W':=
 ⟨h.1.trans (hb.1.below.mono hA),fun j h1 h2=>(hb.2.block j (Nat.lt_of_lt_of_le h2 h.2.2) (by omega)).trans (h.2.1 j h1 h2),Nat.le_trans h.2.2 hb.2.size⟩
theorem Pw.kd {w w3 W W':World} {M N B:Nat} (h:Pw w w3 M N W) (hb:Kd B W W') (hB:w.heap.size<=B) (hN:N<=B):Pw w w3 M N W':=
 ⟨h.1.trans (hb.below.mono hB),fun j h1 h2=>(hb.below.block j (Nat.lt_of_lt_of_le h2 hN)).trans (h.2.1 j h1 h2),Nat.le_trans h.2.2 hb.below.size⟩
end Go.Proofs.YtonhfknjcbakiaaGreatDoor
namespace Go.Proofs.YtonhfknjcbakiaaGreatDoor
theorem Ji:∀(r xs:List Nat),YN r->(∀ y ∈ r,y ∈ xs)->r.length<=xs.length:=by
 intro r
 induction r with
 | nil=>intro xs _ _;exact Nat.zero_le _
 | cons x r ih=>
   intro xs h hm
   have h':=List.pairwise_cons.1 h
   have:=ih (xs.erase x) h'.2 fun y hy=>by
    have h3:=h'.1 y hy
    exact(List.mem_erase_of_ne (by omega)).2 (hm y (by simp [hy]))
   have hx:x ∈ xs:=hm x (by simp)
   rw [List.length_erase_of_mem hx] at this
   have:=List.length_pos_of_mem hx
   simp;omega
def Ed (l:List Iv) (x:Nat):Prop:=x<zk/\mem l x≠(if x=0 then false else mem l (x - 1))
theorem NF.lo_prev:∀ {l:List Iv} {n:Nat},NF n l->∀ s ∈ l,s.lo≠0->mem l (s.lo - 1)=false
 | [],_,_,s,hs,_=>by cases hs
 | t::l,n,h,s,hs,h0=>by
   obtain⟨h1,h2,h3,h4⟩:=h
   rcases List.mem_cons.1 hs with rfl | hs
   ·rw [zz,h4.mem_lt (by omega),decide_eq_false (show ¬ s.lo<=s.lo - 1 by omega)]
    rfl
   ·have:=h4.lo_ge s hs
    rw [zz,NF.lo_prev h4 s hs h0,decide_eq_false (show ¬ s.lo - 1<=t.hi by omega)]
    simp
theorem NF.asc:∀ {l:List Iv} {n:Nat},NF n l->YN (l.map Iv.lo)
 | [],_,_=>List.Pairwise.nil
 | t::l,n,h=>by
   refine List.pairwise_cons.2 ⟨fun y hy=>?_,NF.asc h.2.2.2⟩
   obtain⟨s,hs,rfl⟩:=List.mem_map.1 hy
   have:=h.2.2.2.lo_ge s hs
   have:=h.2.1
   omega
theorem zjS {l:List Iv} (h:Nrm l) {s:Iv} (hs:s ∈ l):Ed l s.lo:=by
 have h1:=NF.lo_ge h s hs
 have h2:mem l s.lo=true:=qf.2 ⟨s,hs,Nat.le_refl _,h1.2.1⟩
 refine⟨by omega,?_⟩
 rw [h2]
 split
 ·simp
 ·rename_i h0
  rw [NF.lo_prev h s hs h0]
  simp
theorem zcK {l:List Iv} {C:List Nat} (h:Nrm l) (hC:∀ x,Ed l x->x ∈ C):l.length<=C.length:=by
 have:=Ji (l.map Iv.lo) C (NF.asc h) fun y hy=>by
  obtain⟨s,hs,rfl⟩:=List.mem_map.1 hy
  exact hC _ (zjS h hs)
 simpa using this
theorem Y3 {l:List Iv} (h:∀ s ∈ l,s.lo<=s.hi/\s.hi<zk) {x:Nat} (hx:Ed l x):x ∈ z6 l:=by
 refine Classical.byContradiction fun hn=>hx.2 ?_
 split
 ·rename_i h0
  subst h0
  cases hm:mem l 0 with
  | false=>rfl
  | true=>
    obtain⟨s,hs,h1,h2⟩:=qf.1 hm
    exact absurd (show 0 ∈ z6 l from List.mem_flatMap.2 ⟨s,hs,List.mem_cons.2 (.inl (by omega))⟩) hn
 ·exact Qh h (x:=x - 1) (y:=x) (by omega) hx.1 fun c hc=>by
   have:c≠x:=fun e=>hn (e ▸ hc)
   omega
theorem Nrm.ivs2 {l:List Iv} (h:Nrm l):∀ s ∈ l,s.lo<=s.hi/\s.hi<zk:=fun s hs=>(NF.lo_ge h s hs).2
theorem zcM {f:Bool->Bool->Bool} (hf:f false false=false) {a b:List Iv} (ha:Nrm a) (hb:Nrm b) {x:Nat} (h:Ed (qy f a b) x):Ed a x\/Ed b x:=by
 obtain⟨hx,hne⟩:=h
 by_cases h1:mem a x=(if x=0 then false else mem a (x - 1))
 ·by_cases h2:mem b x=(if x=0 then false else mem b (x - 1))
  ·refine absurd ?_ hne
   rw [qj ha hb hx,h1,h2]
   split
   ·exact hf
   ·rw [qj ha hb (by omega)]
  ·exact .inr ⟨hx,h2⟩
 ·exact .inl ⟨hx,h1⟩
theorem zcL {x:Nat}:¬ Ed [] x:=fun h=>h.2 (by simp)
theorem zhC {m n x:Nat} (h:Ed [⟨m,n⟩] x):x=m\/x=n+1:=by
 obtain⟨_,h⟩:=h
 rw [jl,jl] at h
 by_cases e1:x=m
 ·exact .inl e1
 ·by_cases e2:x=n+1
  ·exact .inr e2
  ·refine absurd ?_ h
   split
   ·rename_i h0
    rw [decide_eq_false (show ¬ m<=x by omega)]
    rfl
   ·rw [Bool.eq_iff_iff]
    simp only [Bool.and_eq_true,decide_eq_true_eq]
    omega
def EdV (C:Nat->List Nat) (v:List En):Prop:=∀ r x,Ed (zT v r) x->x ∈ C r
structure IV (C:Nat->List Nat) (R:List Nat) (v:List En):Prop where
 right:RightV v
 ed:EdV C v
 rep:∀ e ∈ v,e.rep ∈ R
structure WV (C:Nat->List Nat) (R:List Nat) (v:List En):Prop where
 can:CanV v
 ed:EdV C v
 rep:∀ e ∈ v,e.rep ∈ R
variable {C C':Nat->List Nat} {R R':List Nat} {v a b:List En}
theorem WV.iv (h:WV C R v):IV C R v:=⟨h.can.right,h.ed,h.rep⟩
theorem WV.nil:WV C R []:=⟨⟨fun e h=>(by cases h),List.Pairwise.nil⟩,fun r x h=>absurd h (by rw [kr];exact zcL),fun e h=>(by cases h)⟩
theorem IV.mono (h:IV C R v) (hC:∀ r x,x ∈ C r->x ∈ C' r) (hR:∀ x ∈ R,x ∈ R'):IV C' R' v:=⟨h.right,fun r x hx=>hC _ _ (h.ed r x hx),fun e he=>hR _ (h.rep e he)⟩
theorem WV.mono (h:WV C R v) (hC:∀ r x,x ∈ C r->x ∈ C' r) (hR:∀ x ∈ R,x ∈ R'):WV C' R' v:=⟨h.can,fun r x hx=>hC _ _ (h.ed r x hx),fun e he=>hR _ (h.rep e he)⟩
theorem IV.lat {f:Bool->Bool->Bool} (hf:f false false=false) (ha:IV C R a) (hb:IV C R b):WV C R (ks f a b):=by
 refine⟨Xe f ha.right hb.right,fun r x hx=>?_,fun e he=>?_⟩
 ·rw [JR hf ha.right hb.right] at hx
  rcases zcM hf (qi ha.right r) (qi hb.right r) hx with h | h
  ·exact ha.ed r x h
  ·exact hb.ed r x h
 ·have:=qr.1 (zdd e he)
  rcases List.mem_append.1 this with h | h
  ·obtain⟨e',he',h⟩:=List.mem_map.1 h
   rw [<-h];exact ha.rep e' he'
  ·obtain⟨e',he',h⟩:=List.mem_map.1 h
   rw [<-h];exact hb.rep e' he'
theorem QY {e:En} (h:YP e) {L:List Nat} (hL:∀ x,Ed (kn e) x->x ∈ L):e.holes.length<=L.length+2:=by
 have h1:=ZM h
 have h2:=(jO h).1
 have hn:=qT h.1
 rw [qD h2] at h1
 have h3:e.holes=qy zm [⟨0,QV (kn e)⟩] (kn e):=by
  have:=congrArg (fun p=>p.1.holes) h1
  exact this.symm
 have ht:=(x9 hn h2).2
 have h0:=qG (Nat.zero_le (QV (kn e))) ht
 rw [h3]
 have:=zcK (C:=0::(QV (kn e)+1)::L) (qH (f:=zm) h0 hn) fun x hx=>by
  rcases zcM fM0 h0 hn hx with h | h
  ·rcases zhC h with h | h<;>simp [h]
  ·simp [hL x h]
 simpa using this
theorem zb5 (h:v.Pairwise fun a b=>a.rep<b.rep):YN (zM v):=by
 unfold YN zM
 rw [List.pairwise_map]
 exact h
theorem WV.bv (h:WV C R v) {n m:Nat} (hC:∀ r,(C r).length<=n) (hR:R.length<=m):BV m (n+2) v:=by
 refine⟨h.can.right,?_,fun e he=>?_⟩
 ·have:=Ji (zM v) R (zb5 h.can.2) fun y hy=>by
   obtain⟨e,he,rfl⟩:=List.mem_map.1 hy
   exact h.rep e he
  simp only [zM,List.length_map] at this
  omega
 ·have:=QY (h.can.1 e he) (L:=C e.rep) fun x hx=>h.ed e.rep x (by rw [kq h.can.2 he];exact hx)
  have:=hC e.rep
  omega
theorem IV.of (h:RightV v):IV (fun r=>z6 (zT v r)) (zM v) v:=⟨h,fun r x hx=>Y3 (qi h r).ivs2 hx,fun e he=>List.mem_map.2 ⟨e,he,rfl⟩⟩
end Go.Proofs.YtonhfknjcbakiaaGreatDoor
namespace Go.Proofs.YtonhfknjcbakiaaGreatDoor
open Go.RowKit
theorem CanV.bd {v:List En} (h:CanV v):∀ e ∈ v,ZL e:=fun e he=>Jg (h.1 e he).1
structure Fg where
 items:List Iv
 vec:List En
deriving DecidableEq
instance : Inhabited Fg:=⟨⟨[],[]⟩⟩
theorem Fg.ext' {f g:Fg} (h1:f.items=g.items) (h2:f.vec=g.vec):f=g:=by cases f;cases g;simp_all
def fc (f:Fg):List PV:=[rg f.items,vp f.vec]
def fp (f:Fg):PV:=.agg (fc f)
def kp (k:List Fg):PV:=.sl (k.map fc) .sh
attribute [go_sem] kp fp fc
def ZS (f:Fg):Prop:=Nrm f.items/\RightV f.vec
def RightK (k:List Fg):Prop:=∀ f ∈ k,ZS f
def BdF (f:Fg):Prop:=BdR f.items/\(∀ e ∈ f.vec,ZL e)/\f.items.length<=9223372036854775807/\f.vec.length<=9223372036854775807
def BdK (k:List Fg):Prop:=(∀ f ∈ k,BdF f)/\k.length<=9223372036854775807
def HlK (k:List Fg):Prop:=∀ f ∈ k,∀ e ∈ f.vec,e.holes.length<=9223372036854775807
def vx (k:List Fg):Bool:=k.all (fun f=>decide (f.items.length<=20) && JF f.vec) && decide (k.length<=12)
theorem Z3 {k:List Fg}:vx k=true ↔ (∀ f ∈ k,f.items.length<=20/\JF f.vec=true)/\k.length<=12:=by simp [vx]
def hkK:Nat->List Fg->Nat × Int
 | _,[]=>(0,-1)
 | i,f::r=>if (Zl f.items).1≠0 then ((Zl f.items).1,(i:Int)) else if (jx f.vec).1≠0 then ((jx f.vec).1,(i:Int)) else hkK (i+1) r
def ckK (k:List Fg):Nat × Int:=hkK 0 k
theorem Vd:∀(i:Nat) (k:List Fg),(hkK i k).1=0 ↔ ∀ f ∈ k,(Zl f.items).1=0/\(jx f.vec).1=0
 | _,[]=>by simp [hkK]
 | i,f::r=>by
   have ih:=Vd (i+1) r
   unfold hkK
   by_cases h1:(Zl f.items).1≠0
   ·rw [if_pos h1]
    exact⟨fun h=>absurd h h1,fun h=>(h f (by simp)).1⟩
   ·rw [if_neg h1]
    by_cases h2:(jx f.vec).1≠0
    ·rw [if_pos h2]
     exact⟨fun h=>absurd h h2,fun h=>(h f (by simp)).2⟩
    ·rw [if_neg h2,ih]
     constructor
     ·intro h g hg
      rcases List.mem_cons.1 hg with rfl | hg
      ·exact⟨by omega,by omega⟩
      ·exact h g hg
     ·intro h g hg
      exact h g (by simp [hg])
theorem ZN {k:List Fg} (hb:BdK k):(ckK k).1=0 ↔ RightK k:=by
 unfold ckK
 rw [Vd]
 constructor
 ·intro h f hf
  obtain⟨h1,h2⟩:=h f hf
  have hbf:=hb.1 f hf
  exact⟨(YT fun s hs=>(hbf.1 s hs).2).1 h1,(XP hbf.2.1).1 h2⟩
 ·intro h f hf
  have hbf:=hb.1 f hf
  exact⟨(YT fun s hs=>(hbf.1 s hs).2).2 (h f hf).1,(XP hbf.2.1).2 (h f hf).2⟩
def qd (i:Nat):Nat->List Fg->List (Nat × Fg)
 | _,[]=>[]
 | n,f::r=>if mem f.items i=true then (n,f)::qd i (n+1) r else qd i (n+1) r
theorem QR (i:Nat) (f:Fg):∀(n:Nat) (l:List Fg),qd i n (l++[f])=qd i n l++(if mem f.items i=true then [(n+l.length,f)] else [])
 | n,[]=>by simp [qd]
 | n,g::l=>by
   have ih:=QR i f (n+1) l
   have e:n+1+l.length=n+(l.length+1):=by omega
   rw [List.cons_append,qd,qd,ih,List.length_cons,e]
   split<;>simp
theorem j9 {k:List Fg} {j:Nat} (i:Nat) (h:j<k.length):qd i 0 (k.take (j+1))=qd i 0 (k.take j)++(if mem k[j].items i=true then [(j,k[j])] else []):=by
 rw [List.take_succ_eq_append_getElem h,QR,List.length_take,Nat.min_eq_left (by omega),Nat.zero_add]
theorem jv {i:Nat} {p:Nat × Fg}:∀ {n:Nat} {l:List Fg},p ∈ qd i n l->p.2 ∈ l/\mem p.2.items i=true/\n<=p.1/\p.1<n+l.length
 | n,[],h=>by cases h
 | n,f::l,h=>by
   unfold qd at h
   split at h
   ·rename_i hf
    rcases List.mem_cons.1 h with rfl | h
    ·exact⟨by simp,hf,Nat.le_refl _,by simp⟩
    ·obtain⟨h1,h2,h3,h4⟩:=jv h
     exact⟨by simp [h1],h2,by omega,by simp;omega⟩
   ·obtain⟨h1,h2,h3,h4⟩:=jv h
    exact⟨by simp [h1],h2,by omega,by simp;omega⟩
theorem YL {i:Nat} {q:Fg->Bool}:∀(n:Nat) (l:List Fg),(qd i n l).any (fun p=>q p.2)=l.any fun f=>mem f.items i && q f
 | _,[]=>rfl
 | n,f::l=>by
   have ih:=YL (i:=i) (q:=q) (n+1) l
   unfold qd
   rw [List.any_cons,<-ih]
   cases h:mem f.items i<;>simp
def zU (k:List Fg) (i:Nat):List Nat:=(qd i 0 k).map Prod.fst
def zqx (k:List Fg) (i r c:Nat):Bool:=k.any fun f=>mem f.items i && mem (zT f.vec r) c
theorem jh (k:List Fg) (i r c:Nat):(qd i 0 k).any (fun p=>mem (zT p.2.vec r) c)=zqx k i r c:=YL (q:=fun f=>mem (zT f.vec r) c) 0 k
noncomputable def qc (k:List Fg) (i:Nat):List En:=(qd i 0 k).foldl (fun o p=>ks zn o p.2.vec) []
def JM (k:List Fg):List Iv:=k.foldl (fun o f=>qy zn o f.items) []
theorem RightK.take {k:List Fg} (h:RightK k) (j:Nat):RightK (k.take j):=fun f hf=>h f (List.mem_of_mem_take hf)
def CK (k:List Fg) (r:Nat):List Nat:=k.flatMap fun f=>z6 (zT f.vec r)
def RK (k:List Fg):List Nat:=k.flatMap fun f=>zM f.vec
def CI (k:List Fg):List Nat:=k.flatMap fun f=>z6 f.items
theorem IV.frag {k:List Fg} (h:RightK k) {f:Fg} (hf:f ∈ k):IV (CK k) (RK k) f.vec:=
 (IV.of (h f hf).2).mono (fun r x hx=>List.mem_flatMap.2 ⟨f,hf,hx⟩) fun x hx=>List.mem_flatMap.2 ⟨f,hf,hx⟩
def IK (C:Nat->List Nat) (R:List Nat) (k:List Fg):Prop:=∀ f ∈ k,IV C R f.vec
theorem RightK.ik {k:List Fg} (h:RightK k):IK (CK k) (RK k) k:=fun f hf=>IV.frag h hf
theorem IK.take {C:Nat->List Nat} {R:List Nat} {k:List Fg} (h:IK C R k) (j:Nat):IK C R (k.take j):=fun f hf=>h f (List.mem_of_mem_take hf)
theorem zgT {C:Nat->List Nat} {R:List Nat}:∀(l:List (Nat × Fg)) (o:List En),(∀ p ∈ l,IV C R p.2.vec)->WV C R o->WV C R (l.foldl (fun o p=>ks zn o p.2.vec) o) /\
 ∀ r c,c<zk->mem (zT (l.foldl (fun o p=>ks zn o p.2.vec) o) r) c=(mem (zT o r) c || l.any fun p=>mem (zT p.2.vec r) c)
 | [],o,_,ho=>⟨ho,fun r c _=>by simp⟩
 | p::l,o,hl,ho=>by
   have hp:=hl p (by simp)
   obtain⟨h1,h2⟩:=zgT l (ks zn o p.2.vec) (fun q hq=>hl q (by simp [hq])) (ho.iv.lat fU0 hp)
   refine⟨h1,fun r c hc=>?_⟩
   rw [List.foldl_cons,h2 r c hc,JR fU0 ho.can.right hp.right,qj (qi ho.can.right r) (qi hp.right r) hc,List.any_cons]
   simp only [zn,Bool.or_assoc]
theorem IK.at {C:Nat->List Nat} {R:List Nat} {k:List Fg} (h:IK C R k) (i:Nat):WV C R (qc k i)/\∀ r c,c<zk->mem (zT (qc k i) r) c=zqx k i r c:=by
 obtain⟨h1,h2⟩:=zgT (qd i 0 k) [] (fun p hp=>h _ (jv hp).1) WV.nil
 refine⟨h1,fun r c hc=>?_⟩
 rw [<-jh]
 have:=h2 r c hc
 rw [kr,Xf,Bool.false_or] at this
 exact this
theorem Zp:∀(l:List Fg) (o:List Iv),Nrm o->(∀ f ∈ l,Nrm f.items)->Nrm (l.foldl (fun o f=>qy zn o f.items) o) /\
 (∀ x,x<zk->mem (l.foldl (fun o f=>qy zn o f.items) o) x=(mem o x || l.any fun f=>mem f.items x))/\∀ x,Ed (l.foldl (fun o f=>qy zn o f.items) o) x->Ed o x\/x ∈ CI l
 | [],o,ho,_=>⟨ho,fun x _=>by simp,fun x h=>.inl h⟩
 | f::l,o,ho,hl=>by
   have hf:=hl f (by simp)
   obtain⟨h1,h2,h3⟩:=Zp l (qy zn o f.items) (qH ho hf) fun g hg=>hl g (by simp [hg])
   refine⟨h1,fun x hx=>?_,fun x hx=>?_⟩
   ·rw [List.foldl_cons,h2 x hx,qj ho hf hx,List.any_cons]
    simp only [zn,Bool.or_assoc]
   ·rcases h3 x hx with h | h
    ·rcases zcM fU0 ho hf h with h | h
     ·exact .inl h
     ·exact .inr (List.mem_flatMap.2 ⟨f,by simp,Y3 hf.ivs2 h⟩)
    ·obtain⟨g,hg,h⟩:=List.mem_flatMap.1 h
     exact .inr (List.mem_flatMap.2 ⟨g,by simp [hg],h⟩)
theorem RightK.items {k:List Fg} (h:RightK k):Nrm (JM k)/\(∀ x,x<zk->mem (JM k) x=k.any fun f=>mem f.items x)/\(JM k).length<=(CI k).length:=by
 obtain⟨h1,h2,h3⟩:=Zp k [] trivial fun f hf=>(h f hf).1
 refine⟨h1,fun x hx=>?_,zcK h1 fun x hx=>?_⟩
 ·have:=h2 x hx
  rw [Xf,Bool.false_or] at this
  exact this
 ·exact(h3 x hx).resolve_left zcL
theorem qL {α β:Type} {g:α->List β} {n:Nat}:∀ {l:List α},(∀ x ∈ l,(g x).length<=n)->(l.flatMap g).length<=l.length * n
 | [],_=>by simp
 | x::l,h=>by
   have:=qL (l:=l) fun y hy=>h y (by simp [hy])
   have h1:=h x (by simp)
   rw [List.flatMap_cons,List.length_append,List.length_cons,Nat.add_mul,Nat.one_mul]
   omega
theorem X4 {k:List Fg} (h:vx k=true) (hr:RightK k):(∀ r,(CK k r).length<=1512)/\(RK k).length<=240/\(CI k).length<=480:=by
 obtain⟨h1,h2⟩:=Z3.1 h
 have hk:∀ n,k.length * n<=12 * n:=fun n=>Nat.mul_le_mul_right n h2
 refine⟨fun r=>?_,?_,?_⟩
 ·refine Nat.le_trans (qL (n:=126) fun f hf=>?_) (hk 126)
  have:=vw.1 (h1 f hf).2
  have l1:=vq (zT f.vec r)
  have l2:=ji (n:=20) (h:=30) ⟨(hr f hf).2,this.2,this.1⟩ r
  omega
 ·refine Nat.le_trans (qL (n:=20) fun f hf=>?_) (hk 20)
  have:=vw.1 (h1 f hf).2
  simp only [zM,List.length_map]
  omega
 ·refine Nat.le_trans (qL (n:=40) fun f hf=>?_) (hk 40)
  have l1:=vq f.items
  have:=(h1 f hf).1
  omega
def OkC (C:Nat->List Nat) (R:List Nat):Prop:=(∀ r,(C r).length<=9000)/\R.length<=1048576
theorem zrk {k:List Fg} (h:vx k=true) (hr:RightK k):OkC (CK k) (RK k):=by
 obtain⟨h1,h2,_⟩:=X4 h hr
 exact⟨fun r=>by have:=h1 r;omega,by omega⟩
end Go.Proofs.YtonhfknjcbakiaaGreatDoor
namespace Go.Proofs.YtonhfknjcbakiaaGreatDoor
open Go.RowKit Go.Maps
attribute [-go_sem] z7
theorem jL {n:Nat} {A B C:World} {S:Nat->Prop} (h:Below n A B) (hk:Keep S B C) (hs:∀ k,k<n->¬ S k) (hn:n<=A.heap.size):Below n A C:=
 ⟨hk.os.trans h.os,hk.tape.trans h.tape,hk.output.trans h.output,Nat.le_trans h.size hk.size,fun k hkn=>(hk.block k (by have:=h.size;omega) (hs k hkn)).trans (h.block k hkn)⟩
theorem yD {w w':World} {b r n YV:Nat} {D:DV} {left:Lit->Bool} (h:w.ranges Tryz.prog 24 rV b r n D left YV) (hb:w'.heap[b]? = w.heap[b]?) (hr:w'.heap[r]? = w.heap[r]?):w'.ranges Tryz.prog 24 rV b r n D left YV:=by
 obtain⟨es,clock,since,seen,c0,h1,F,hs,hD,h2,rest⟩:=h
 exact⟨es,clock,since,seen,c0,hb.trans h1,F,hs,hD,hr.trans h2,rest⟩
theorem zhV:∀(key:Value) (kl:Lit),keyOf Tryz.prog 24 key=some kl->∃ x:{r:Nat // r<zk},key=Value.int .u64 (x.1:Nat):=fun key kl h=>by
 obtain⟨x,rfl,_,hw⟩:=Maps.keyOf_int_inv Tryz.underlying24 h
 simp [Lit.wf,IntKind.min,IntKind.max,IntKind.signed,IntKind.bits] at hw
 refine⟨⟨x.toNat,by rw [zw];omega⟩,?_⟩
 rw [Int.toNat_of_nonneg (by omega)]
theorem QM {left:Lit->Bool} {r x:Nat}:(left (kR r) && !(kR r).sameKey (kR x))=false ↔ left (kR r)=false\/r=x:=by
 have h:(kR r).sameKey (kR x)=decide (r=x):=by
  simp [kR,Lit.sameKey]
  omega
 rw [h]
 cases left (kR r)<;>simp
theorem zeK:∀(r xs:List Nat),YN r->(∀ y ∈ r,y ∈ xs)->r.length<=xs.length:=by
 intro r
 induction r with
 | nil=>intro xs _ _;exact Nat.zero_le _
 | cons x r ih=>
   intro xs h hm
   have h':=List.pairwise_cons.1 h
   have:=ih (xs.erase x) h'.2 fun y hy=>by
    have h3:=h'.1 y hy
    exact(List.mem_erase_of_ne (by omega)).2 (hm y (by simp [hy]))
   have hx:x ∈ xs:=hm x (by simp)
   rw [List.length_erase_of_mem hx] at this
   have:=List.length_pos_of_mem hx
   simp;omega
theorem zkr (a1 a2:Option Addr) (n1 n2 c1 c2:Nat) (w:World):(Instr.index 200 (.agg #[.slice a1 n1 c1,.slice a2 n2 c2]) (.int .i64 0)).run Tryz.prog w=.ok (.slice a1 n1 c1) w:=by kernel_rfl
theorem zks (a1 a2:Option Addr) (n1 n2 c1 c2:Nat) (w:World):(Instr.index 200 (.agg #[.slice a1 n1 c1,.slice a2 n2 c2]) (.int .i64 1)).run Tryz.prog w=.ok (.slice a2 n2 c2) w:=by kernel_rfl
theorem zkk:(Tryz.prog.info? 38).map (fun i=>(i.zero,i.size,i.bytes))=some (some (.agg #[.int .u64 0,.int .u64 0,.slice none 0 0]),3,40):=by kernel_rfl
theorem OwnU.shape {base:Nat} {w:World} {v:Value} {l:List Nat} (h:OwnU base w v l):∃ ad cap,v=.slice ad l.length cap/\l.length<=cap/\cap<=maxLen/\(l≠[]->∃ g,ad=some ⟨g,0,none⟩/\g<w.heap.size/\∀ j (hj:j<l.length),w.cell? ⟨g,j,none⟩=some (.int .u64 (l[j]:Nat))):=by
 rcases h.cases with⟨rfl,rfl⟩ | ⟨g,cap,cur,rfl,h1,h2,h3,h4,h5,h6,h7⟩
 ·exact⟨none,0,rfl,Nat.le_refl _,Nat.zero_le _,fun h=>absurd rfl h⟩
 ·refine⟨_,cap,rfl,h4,h5,fun _=>⟨g,rfl,h2,fun j hj=>?_⟩⟩
  have:=World.ownsRow.cells h (g:=g) rfl j (uV l[j]) (by rw [List.getElem?_map,List.getElem?_eq_getElem hj];rfl)
  rw [zh,Nat.zero_add] at this
  exact this
theorem zac {f:Bool->Bool->Bool} {a b:List En} {r:Nat} {e:En} {ok:Bool} (h:Qi r (qy f (zT a r) (zT b r))=(e,ok)):vE f a b r=if ok=true then some e else none:=by
 unfold vE Xd
 rw [h]
theorem KZ {f:Bool->Bool->Bool} {a b:List En} {L:List Nat} {k:Nat} (hk:k<L.length):(L.take (k+1)).filterMap (vE f a b)=(L.take k).filterMap (vE f a b)++(vE f a b L[k]).toList:=by
 rw [List.take_succ_eq_append_getElem hk,List.filterMap_append,List.filterMap_cons,List.filterMap_nil]
 cases vE f a b L[k]<;>rfl
theorem Ja {P:Program} {f:FuncId} {t:Tmp} {xs:List Operand} {c:Call} {o:Oper} {a:Act} {w:World} {K:Act->World->Prop} {Q:Exit->Act->World->Prop} (ho:o.op=.call c) (hc:c.callee=.value (.tmp t)) (hv:a.eval (.tmp t)=.func (.func f) #[] #[]) (ha:c.args.toList=xs)
 (he:∀ args w,(callFunc f args).run P w=.ok (.enter f args) w)
 (h:Calls P f (xs.map a.eval).toArray w fun e w''=>match e with | .returned v=>K (a.put o.dst v) w'' | .panicked chain=>Q (.panic chain) a w'' | .outgrown=>LetsOut Q):o.wp P a w K Q:=by
 have hr:(execOp a.eval o).run P w=.ok (.enter f (xs.map a.eval).toArray) w:=by
  have e:c.args.map a.eval=(xs.map a.eval).toArray:=Array.toList_inj.1 (by rw [Array.toList_map,ha])
  simp only [execOp,ho,resolve,hc,e,hv,Deferred.ofValue,Sem.run_bind,Sem.run_pure,Result.andThen_ok,invoke]
  rw [show (#[]++(xs.map a.eval).toArray++#[]:Array Value)=(xs.map a.eval).toArray from by simp]
  exact he _ _
 unfold Oper.wp
 rw [hr,Oper.upon_enter]
 exact h.mono (fun e w' h=>by cases e<;>exact h)
theorem Zi {P:Program} {w:World} {o:Oper} {a:Act} {K:Act->World->Prop} {Q:Exit->Act->World->Prop} (s x:Operand) (t:TypeId)
 (ho:o.op=.call { callee:=.builtin .append,args:=#[s,x],argTypes:=#[t,t] })
 (base:Nat) (e:TypeId) (i:TypeInfo) (z:Value) (size bytes:Nat) (ht:P.underlying t=some (.slice e)) (hi:P.info? e=some i) (hz:i.zero=some z)
 (hsize:i.size=size) (hby:i.bytes=bytes) (hzs:z.cells.size=size) (hsz:0<size)
 (v:Value) (n:Nat) (xs:List Value) (hs:a.eval s=v) (hown:w.ownsRow base e size v n xs)
 (ad:Addr) (m c:Nat) (news:List Value) (hx:a.eval x=.slice (some ad) m c) (hl:news.length=m * size) (hnews:∀ j u,news[j]? = some u->w.cell? (ad.add j)=some u) (h1:∀ u ∈ news,u.oneCell'=true)
 (h63:n+m<=maxLen) (hbytes:(n+m) * bytes<=140737488355328) (hbase:base<=w.heap.size)
 (h:∀ v' w',w'.ownsRow base e size v' (n+m) (xs++news)->w.grownBy w' v.ownBlock->(v'=.slice none 0 0 ↔ v=.slice none 0 0/\m=0)->(v'.ownBlock=v.ownBlock\/v'.ownBlock=some w.heap.size)->K (a.put o.dst v') w') :
 o.wp P a w K Q:=by
 obtain⟨v',w',hr,h2,h3,h4,h5⟩:=run_append_own_at (P:=P) w base t o.type e i z size bytes ht hi hz hsize hby hzs hsz v n xs hown ad m c news hl hnews h1 h63 hbytes hbase
 unfold Oper.wp execOp
 simp only [ho,resolve,invoke,builtin,Sem.run_bind,Sem.run_pure,Result.andThen_ok,List.map_toArray,List.map_cons,List.map_nil,hs,hx,hr]
 exact h v' w' h2 h3 h4 h5
theorem zcD (C:Nat->Nat->Prop) (a b:List En) (va vb:Value) (w:World) (f:Bool->Bool->Bool) (op:FuncId) (hop:∀ r,Cn Tryz.prog op [rg (zT a r),rg (zT b r)] (rg (qy f (zT a r) (zT b r))))
 (ha:SmV a) (hb:SmV b) (ra:RdF C w.heap.size w va a) (rb:RdF C w.heap.size w vb b) (hC:∀ b o,C b o->b<w.heap.size) (hG:GL C w) :
 Calls Tryz.prog 112 #[va,vb,.func (.func op) #[] #[]] w fun e w'=>∃ v,e=.returned v/\Below w.heap.size w w'/\Dat (DL C w.heap.size w') w' v (vp (ks f a b))/\MuE (w.heap.size<=·) w' v:=by
 have HP0:=Lib.hid (J4 C a b va vb w ha hb ra rb hC hG)
 have HGL:=Lib.hid hG
 have hent:=(hop 0).1
 have HOP:=Lib.hid hop
 have HM:=Lib.hid (Xr ha.1 hb.1)
 obtain⟨dom,hdom⟩:∃ dom,dom=zM a++zM b:=⟨_,rfl⟩
 have hdl:dom.length<=2097152:=by have h1:=ha.2.1;have h2:=hb.2.1;rw [hdom];simp [zM];omega
 have hlat:ks f a b=(srt dom).filterMap (vE f a b):=by rw [hdom];rfl
 rw [<-hdom] at HM
 have HLat:=Lib.hid hlat
 have HDom:=Lib.hid hdom
 clear hG ra rb hop hlat
 have tokA:True:=trivial
 have tokB:True:=trivial
 go_enter Tryz.func112,Tryz.ntmps112
 go_wp2_with (first
  | (go_at_call 159;have _t:=tokA;refine HP0.out.mono ?_;rintro e w1 ⟨rfl,hb1,D,hown,hpd⟩
     rw [<-hdom] at hpd
     have hmb:w.heap.size<w1.heap.size:=hown.lt
     have HO1:=Lib.hid hown
     have HP1:=Lib.hid hpd
     have HB1:=Lib.hid hb1
     clear hown hpd hb1 tokA)
  | (at_range;have _t:=tokB;refine wpList_range_own _ rfl _ 195 rfl 24 200 vF Tryz.underlying195 rV w.heap.size (a.length+b.length) D rfl (HO1.out.alloc _) ?_;intro w2 hrg2 hg2 hs2;clear tokB)
  | go_in)
 go_frame
 simp only [World.size_alloc] at hrg2 hs2 ⊢
 clear hdom
 have HG2:=Lib.hid hg2
 have hbx2:Boxed w2 w1.heap.size 198 (.slice none 0 0):=(Boxed.new w1 _ _).kept hg2 (by simp)
 have HK2:Hid (∀ k,k<w1.heap.size->w2.heap[k]? = w1.heap[k]?):=Lib.hid fun k hk=>(hg2.block k (by simp;omega) (by simp)).trans (Below.heap_alloc _ _ _ hk)
 have HB2:=Lib.hid (jL HB1.out (S:=fun _=>False) ⟨hg2.os,hg2.tape,hg2.output,Nat.le_trans (by simp) hg2.size,fun k hk _=>HK2.out k hk⟩ (fun _ _ h=>h) (Nat.le_refl _))
 clear hg2
 go_loopg [9] (Maps.size D) (fun g x wr=>∃ left xs v,wr.ranges Tryz.prog 24 rV w.heap.size (w1.heap.size+1) (a.length+b.length) D left g/\(∀ r,r ∈ xs ↔ r ∈ dom/\left (kR r)=false)/\(∀ r,left (kR r)=true->r ∈ dom) /\
  OwnU (w1.heap.size+2) wr v (srt xs)/\Boxed wr w1.heap.size 198 v/\Keep (fun k=>w1.heap.size<=k) w2 wr)
 case atStart=>
  have hpd:=HP1.out
  refine⟨Maps.has D,[],.slice none 0 0,hrg2,fun r=>?_,fun r h=>?_,?_,hbx2,Keep.refl _ _⟩
  ·rw [(hpd.2 r).1];simp
  ·rw [(hpd.2 r).1] at h;simpa using h
  ·rw [XB];exact World.ownsRow_nil _ _ _ _
 case round=>
  obtain⟨left,xs,v,hrg,hxs,hlf,hown,hbx,hK⟩:=hrel
  obtain⟨wl,hwl⟩:∃ x,x=wr:=⟨_,rfl⟩
  subst hwl
  have HRG:=Lib.hid hrg
  have HXS:=Lib.hid hxs
  have HLF:=Lib.hid hlf
  have HOW:=Lib.hid hown
  have HBX:=Lib.hid hbx
  have HKL:=Lib.hid hK
  have hsl:(srt xs).length<=2097152:=Nat.le_trans (zeK _ dom (yi xs) fun y hy=>((hxs y).1 (qr.1 hy)).1) hdl
  have hw2l:w2.heap.size<=wl.heap.size:=hK.size
  have HKW:Hid (∀ k,k<w1.heap.size->wl.heap[k]? = w1.heap[k]?):=Lib.hid fun k hk=>(hK.block k (by omega) (by omega)).trans (HK2.out k hk)
  have HBL:=Lib.hid (jL HB2.out hK (fun k hk=>by omega) (Nat.le_refl _))
  have HGW:Hid (GL C wl):=Lib.hid (HGL.out.mono (fun _ _ h=>h) fun j o x hj hx=>(World.cell?_of_block (a:=⟨j,o,none⟩) (HBL.out.block j (hC j o hj))).trans hx)
  clear hrg2 hbx2 hrg hxs hlf hown hbx hK
  go_wp2_with (first
   | (at_next;refine wpList_next_ranges _ rfl _ rfl 24 vF rV (fun r:{r:Nat // r<zk}=>Value.int .u64 (r.1:Nat)) (fun c:Value=>c) zhV (fun v y _=>⟨v,rfl⟩) w.heap.size (w1.heap.size+1) (a.length+b.length) D left gk rfl HRG.out ?_ ?_)
   | go_in)
  ·intro hc0 hl0
   have hL:srt xs=srt dom:=XA (yi dom) fun y=>by rw [qr,HXS.out y,hl0];simp
   have HOW2:=HOW.out
   rw [hL] at HOW2 hsl
   have c0:=HBX.out.cell
   have hown:=HRG.out.owns
   have HO:=Lib.hid hown
   clear hown hl0 hL HOW HXS HLF
   obtain⟨L,hLL⟩:∃ L,L=srt dom:=⟨_,rfl⟩
   rw [<-hLL] at HOW2 hsl
   obtain⟨ad,cap,rfl,hcap,hcm,hcl⟩:=HOW2.shape
   unfold maxLen at hcm
   have HCL:=Lib.hid hcl
   have HLL:=Lib.hid hLL
   clear hcl hLL HOW2
   go_wp2_with fail
   go_loopg [10,29] L.length (fun g y x wr=>∃ k,k<=L.length/\g=L.length - k/\x=.int .i64 k/\OutE C w.heap.size wl.heap.size wr y ((L.take k).filterMap (vE f a b))/\Keep (fun k=>wl.heap.size<=k) wl wr)
   case atStart=>exact⟨0,Nat.zero_le _,rfl,rfl,OutE.start _ _ _ _,Keep.refl _ _⟩
   case round=>
    obtain⟨k,hk,rfl,rfl,hout,hKr⟩:=hrel
    have HKR:=Lib.hid hKr
    have HOUT:=Lib.hid hout
    clear hKr hout
    have hwrl:=HKR.out.size
    have HRW:Hid (∀ j,j<wl.heap.size->wr.heap[j]? = wl.heap[j]?):=Lib.hid fun j hj=>HKR.out.block j hj (by omega)
    have HBR:=Lib.hid (jL HBL.out HKR.out (fun k hk=>by omega) (Nat.le_refl _))
    by_cases hlt:k<L.length
    ·obtain⟨g,had,hgl,hcells⟩:=HCL.out (fun e=>by rw [e] at hlt;simp at hlt)
     subst had
     obtain⟨r,hr⟩:∃ r,r=L[k]:=⟨_,rfl⟩
     have hrm:r<zk:=HM.out r (by rw [hr,<-HLL.out];exact List.getElem_mem hlt)
     have ck:wr.cell? ⟨g,k,none⟩=some (.int .u64 (r:Nat)):=by rw [hr];exact(World.cell?_of_block (a:=⟨g,k,none⟩) (HRW.out g hgl)).trans (hcells k hlt)
     obtain⟨s0,s1,hat,hd0,hd1⟩:=(HP1.out.2 r).2
     obtain⟨a0,n0,rfl⟩:=zK hd0
     obtain⟨a1,n1,rfl⟩:=zK hd1
     have hlk:=Qf (yg HO.out (HRW.out _ (by omega))) hrm hat
     have hmw:∀ j o x,DL C w.heap.size w1 j o->w1.cell? ⟨j,o,none⟩=some x->wr.cell? ⟨j,o,none⟩=some x:=fun j o x hj hx=>by
      have hj1:=World.block_lt_of_cell? w1 ⟨j,o,none⟩ hx
      exact(World.cell?_of_block (a:=⟨j,o,none⟩) ((HRW.out j (Nat.lt_of_lt_of_le hj1 (by omega))).trans (HKW.out j hj1))).trans hx
     have hdx:∀ j o,DL C w.heap.size w1 j o->DX C w.heap.size wr u10 j o:=fun j o hj=>⟨hj.imp id fun h=>⟨h.1,by omega⟩,fun e=>by
      have h5:=(HOUT.out.owns j e).1
      rcases hj with hj | hj
      ·have:=hC j o hj;omega
      ·omega⟩
     have hDXb:∀ j o,DX C w.heap.size wr u10 j o->j<wr.heap.size:=fun j o h=>h.1.elim (fun h=>by have:=hC j o h;omega) And.right
     have hGX:GL (DX C w.heap.size wr u10) wr:=HGW.out.mono (fun j o h=>⟨.inl h,fun e=>by have h5:=(HOUT.out.owns j e).1;have:=hC j o h;omega⟩) fun j o x hj hx=>(World.cell?_of_block (a:=⟨j,o,none⟩) (HRW.out j (by have:=hC j o hj;omega))).trans hx
     have HXB:=Lib.hid hDXb
     have HGX:=Lib.hid hGX
     have HOPC:=Lib.hid (jP (HOP.out r) hGX hDXb (vs:=#[.slice a0 (zT a r).length n0,.slice a1 (zT b r).length n1]) rfl (fun i p hp=>by
      match i,hp with
      | 0,hp=>cases hp;exact hd0.mono hdx hmw
      | 1,hp=>cases hp;exact hd1.mono hdx hmw
      | i+2,hp=>simp at hp))
     have hnr:Nrm (qy f (zT a r) (zT b r)):=qH (qi ha.1 r) (qi hb.1 r)
     have hol:(qy f (zT a r) (zT b r)).length<=80100:=by
      have h1:=xR f (zT a r) (zT b r)
      have h2:=ji (n:=1048576) (h:=10000) ha r
      have h3:=ji (n:=1048576) (h:=10000) hb r
      omega
     obtain⟨e,ok,hE⟩:∃ e ok,Qi r (qy f (zT a r) (zT b r))=(e,ok):=⟨_,_,rfl⟩
     have HOF:=Lib.hid (And.intro hE hnr)
     have hlo:=zac (f:=f) (a:=a) (b:=b) hE
     have hst:=KZ (f:=f) (a:=a) (b:=b) hlt
     rw [<-hr,hlo] at hst
     have HST:=Lib.hid hst
     have hhl:e.holes.length<=1000000:=by
      have:=J0 r (qy f (zT a r) (zT b r))
      rw [hE] at this
      simp only at this
      omega
     have hn0:(zT a r).length<=maxLen:=by have:=ji (n:=1048576) (h:=10000) ha r;unfold maxLen;omega
     have hn1:(zT b r).length<=maxLen:=by have:=ji (n:=1048576) (h:=10000) hb r;unfold maxLen;omega
     unfold maxLen at hn0 hn1
     have i0:=zkr a0 a1 (zT a r).length (zT b r).length n0 n1
     have i1:=zks a0 a1 (zT a r).length (zT b r).length n0 n1
     obtain⟨ls,hls⟩:∃ ls,ls=qy f (zT a r) (zT b r):=⟨_,rfl⟩
     rw [<-hls] at HOF HOPC hol
     clear hE hlo hst hat hd0 hd1 hmw hdx hcells hDXb hGX hnr hr hls
     have tokD:True:=trivial
     have tokE:True:=trivial
     have tokF:True:=trivial
     cases ok with
     | false=>
       go_wp2_with fail
       refine Ja (t:=35) (f:=op) (xs:=[.tmp 39,.tmp 43]) rfl rfl rfl rfl hent ?_
       refine HOPC.out.mono ?_
       rintro e' w3 ⟨v3,rfl,hb3,hd3⟩
       obtain⟨a3,n3,rfl⟩:=zK hd3
       have HB3:=Lib.hid hb3
       have HD3:=Lib.hid hd3
       clear hb3 hd3
       dsimp only
       go_wp2_with fail
       refine(zso r (je HD3.out (fun j o h=>h.elim (fun h=>Nat.lt_of_lt_of_le (HXB.out j o h) HB3.out.size) And.right) fun s hs=>by have:=NF.lo_ge HOF.out.2 s hs;omega) HOF.out.2 (by omega) HOF.out.1).mono ?_
       rintro e' w4 ⟨u4,rfl,ho4,hb4⟩
       obtain⟨a4,n4,rfl⟩:=ho4.val
       have hd4':Dat (fun j o=>w3.heap.size<=j/\j<w4.heap.size) w4 (.slice a4 e.holes.length n4) (rg e.holes):=jp ho4.rd fun j o h1 h2=>⟨h1,h2⟩
       have HM4:=Lib.hid ho4.mu
       have HB4:=Lib.hid hb4
       have HD4:=Lib.hid hd4'
       clear hb4 ho4 hd4'
       dsimp only
       go_wp2_with fail
       go_roundg (L.length - (k+1))
       case measure=>omega
       case rel=>
        have h34:=HB3.out.size
        have h44:=HB4.out.size
        refine⟨k+1,hlt,rfl,by simp,?_,HKR.out.trans (((Keep.of_below' HB3.out (Nat.le_refl _)).trans (Keep.of_below' HB4.out (Nat.le_refl _))).alloc _)⟩
        rw [HST.out]
        simp only [Bool.false_eq_true,if_false,Option.toList_none,List.append_nil]
        exact HOUT.out.keep (by simp;omega) fun j hj=>by rw [Below.heap_alloc _ _ _ (by omega),HB4.out.block j (by omega),HB3.out.block j hj]
     | true=>
       go_wp2_with fail
       refine Ja (t:=35) (f:=op) (xs:=[.tmp 39,.tmp 43]) rfl rfl rfl rfl hent ?_
       refine HOPC.out.mono ?_
       rintro e' w3 ⟨v3,rfl,hb3,hd3⟩
       obtain⟨a3,n3,rfl⟩:=zK hd3
       have HB3:=Lib.hid hb3
       have HD3:=Lib.hid hd3
       clear hb3 hd3
       dsimp only
       go_wp2_with fail
       refine(zso r (je HD3.out (fun j o h=>h.elim (fun h=>Nat.lt_of_lt_of_le (HXB.out j o h) HB3.out.size) And.right) fun s hs=>by have:=NF.lo_ge HOF.out.2 s hs;omega) HOF.out.2 (by omega) HOF.out.1).mono ?_
       rintro e' w4 ⟨u4,rfl,ho4,hb4⟩
       obtain⟨a4,n4,rfl⟩:=ho4.val
       have hd4':Dat (fun j o=>w3.heap.size<=j/\j<w4.heap.size) w4 (.slice a4 e.holes.length n4) (rg e.holes):=jp ho4.rd fun j o h1 h2=>⟨h1,h2⟩
       have HM4:=Lib.hid ho4.mu
       have HB4:=Lib.hid hb4
       have HD4:=Lib.hid hd4'
       clear hb4 ho4 hd4'
       dsimp only
       go_wp2_with fail
       have hz5:((w4.alloc (.cells #[.int .u64 e.rep,.int .u64 e.max,.slice a4 e.holes.length n4] 38)).alloc (.cells #[.int .u64 e.rep,.int .u64 e.max,.slice a4 e.holes.length n4] 38)).heap.size=w4.heap.size+2:=by simp
       have h34:=HB3.out.size
       have h44:=HB4.out.size
       have hb5:∀ j,j<wr.heap.size->((w4.alloc (.cells #[.int .u64 e.rep,.int .u64 e.max,.slice a4 e.holes.length n4] 38)).alloc (.cells #[.int .u64 e.rep,.int .u64 e.max,.slice a4 e.holes.length n4] 38)).heap[j]? = wr.heap[j]?:=fun j hj=>by
        rw [Below.heap_alloc _ _ _ (by simp;omega),Below.heap_alloc _ _ _ (by omega),HB4.out.block j (by omega),HB3.out.block j hj]
       obtain⟨xs5,h15,h25⟩:=HOUT.out.keep (by omega) hb5
       have hnb:((w4.alloc (.cells #[.int .u64 e.rep,.int .u64 e.max,.slice a4 e.holes.length n4] 38)).alloc (.cells #[.int .u64 e.rep,.int .u64 e.max,.slice a4 e.holes.length n4] 38)).heap[w4.heap.size+1]? = some (.cells #[.int .u64 e.rep,.int .u64 e.max,.slice a4 e.holes.length n4] 38 (0,0)):=by
        have:=World.alloc_heap_new (w4.alloc (.cells #[.int .u64 e.rep,.int .u64 e.max,.slice a4 e.holes.length n4] 38)) (.cells #[.int .u64 e.rep,.int .u64 e.max,.slice a4 e.holes.length n4] 38)
        rwa [World.size_alloc] at this
       have hd5:Dat (DX C w.heap.size ((w4.alloc (.cells #[.int .u64 e.rep,.int .u64 e.max,.slice a4 e.holes.length n4] 38)).alloc (.cells #[.int .u64 e.rep,.int .u64 e.max,.slice a4 e.holes.length n4] 38)) u10) ((w4.alloc (.cells #[.int .u64 e.rep,.int .u64 e.max,.slice a4 e.holes.length n4] 38)).alloc (.cells #[.int .u64 e.rep,.int .u64 e.max,.slice a4 e.holes.length n4] 38)) (.slice a4 e.holes.length n4) (rg e.holes):=by
        refine HD4.out.mono (fun j o h=>?_) fun j o x h hx=>?_
        ·have key:wr.heap.size<=j->j<w4.heap.size->DX C w.heap.size ((w4.alloc (.cells #[.int .u64 e.rep,.int .u64 e.max,.slice a4 e.holes.length n4] 38)).alloc (.cells #[.int .u64 e.rep,.int .u64 e.max,.slice a4 e.holes.length n4] 38)) u10 j o:=fun h1 h2=>⟨.inr ⟨by omega,by omega⟩,fun h=>by have:=(HOUT.out.owns j h).2;omega⟩
         exact key (by omega) h.2
        ·have hj4:=World.block_lt_of_cell? w4 ⟨j,o,none⟩ hx
         exact(World.cell?_of_block (a:=⟨j,o,none⟩) (by rw [Below.heap_alloc _ _ _ (by simp;exact Nat.lt_succ_of_lt hj4),Below.heap_alloc _ _ _ hj4])).trans hx
       have hm5:MuI (fun b=>(wl.heap.size<=b/\b<((w4.alloc (.cells #[.int .u64 e.rep,.int .u64 e.max,.slice a4 e.holes.length n4] 38)).alloc (.cells #[.int .u64 e.rep,.int .u64 e.max,.slice a4 e.holes.length n4] 38)).heap.size)/\u10.ownBlock≠some b) ((w4.alloc (.cells #[.int .u64 e.rep,.int .u64 e.max,.slice a4 e.holes.length n4] 38)).alloc (.cells #[.int .u64 e.rep,.int .u64 e.max,.slice a4 e.holes.length n4] 38)) (.slice a4 e.holes.length n4):=
        (HM4.out.same (fun j hj hlt=>by rw [Below.heap_alloc _ _ _ (by simp;exact Nat.lt_succ_of_lt hlt),Below.heap_alloc _ _ _ hlt])).mono fun j h=>⟨⟨by omega,by omega⟩,fun e=>by have:=(HOUT.out.owns j e).2;omega⟩
       have hel:((L.take k).filterMap (vE f a b)).length<=k:=Nat.le_trans (List.length_filterMap_le _ _) (by simp;omega)
       obtain⟨ie,hie,hze,hse,hbe⟩:=info_parts zkk
       refine Zi _ _ 32 rfl wl.heap.size 38 ie _ 3 40 Tryz.underlying32 hie hze hse hbe rfl (by decide) _ _ xs5 rfl h15 ⟨w4.heap.size+1,0,none⟩ 1 1 [.int .u64 e.rep,.int .u64 e.max,.slice a4 e.holes.length n4] rfl rfl (fun j u hj=>by
        rw [zh,Nat.zero_add]
        exact(zW hnb j u (by simpa using hj)).1) (fun u hu=>by simp at hu;rcases hu with rfl | rfl | rfl<;>rfl) (by unfold maxLen;omega) (by omega) (by omega) ?_
       intro v6 w6 ho6 hg6 _ hbl6
       have HP6:=Lib.hid (OutE.push (mb:=w.heap.size) h25 h15 hd5 hm5 hC (by omega) ho6 hg6 hbl6)
       have HG6:=Lib.hid hg6
       have HB5:=Lib.hid hb5
       have HZ5:=Lib.hid hz5
       have HOB:=Lib.hid (fun j (h:u10.ownBlock=some j)=>(HOUT.out.owns j h).1)
       clear ho6 hg6 hbl6 h15 h25 hd5 hm5 hnb hb5 hz5
       go_wp2_with fail
       go_roundg (L.length - (k+1))
       case measure=>omega
       case rel=>
        refine⟨k+1,hlt,rfl,by simp,?_,HKR.out.trans ((((((Keep.of_below' HB3.out (Nat.le_refl _)).trans (Keep.of_below' HB4.out (Nat.le_refl _))).alloc _).alloc _).grown HG6.out fun j hj _=>HOB.out j hj))⟩
        rw [HST.out]
        simp only [if_true,Option.toList_some]
        exact HP6.out
    ·obtain rfl:k=L.length:=by omega
     go_wp2_with fail
     refine bodyPost_ret (results_tmp rfl _ _ _) rfl ?_
     have h:=HOUT.out.dat (by omega)
     rw [List.take_length,HLL.out,<-HLat.out] at h
     exact⟨_,rfl,HBR.out,h,HOUT.out.mu.mono fun j hj=>by omega⟩
  ·intro x hx c kl y ys w3 cnt3 hkey hlk hv hat hrg3 hlt hg3 hs3 hen
   try dsimp only at hkey hen ⊢
   obtain rfl:kl=kR x:=by
    have:=(Zq hx).symm.trans hkey
    simpa using this.symm
   have HRG3:=Lib.hid hrg3
   have HK3:=Lib.hid ((HKL.out.grown hg3 (fun k hk _=>by cases hk;omega)))
   have hb3:∀ k,k≠w1.heap.size+1->k<wl.heap.size->w3.heap[k]? = wl.heap[k]?:=fun k hk hkl=>hg3.block k hkl (fun e=>hk (by cases e;rfl))
   have HB3:=Lib.hid hb3
   have hblt:=HBX.out.lt
   have HAD:=Lib.hid (zaD (C:=C) (base:=w1.heap.size+2) (rb:=w1.heap.size) (w:=w3) (v:=v) (xs:=xs) x (HOW.out.keep fun g hg=>hb3 g (by have:=(HOW.out.lt g hg).1;omega) (HOW.out.lt g hg).2) ((hb3 _ (by omega) hblt).trans HBX.out) (by omega) (fun h=>by have:=((HXS.out x).1 h).2;rw [hlk] at this;cases this) (by omega) (by omega)
    (fun b o h=>by have:=hC b o h;omega) (HGW.out.mono (fun _ _ h=>h) fun j o y hj hy=>(World.cell?_of_block (a:=⟨j,o,none⟩) (hb3 j (by have:=hC j o hj;omega) (by have:=hC j o hj;omega))).trans hy))
   clear hkey hv hat hrg3 hg3 hb3
   have tokC:True:=trivial
   go_wp2_with (first
    | (go_at_call 160;have _t:=tokC;refine HAD.out.mono ?_;rintro e w4 ⟨⟨u,rfl⟩,v',hbx4,ho4,hk4⟩;have HBX4:=Lib.hid hbx4;have HO4:=Lib.hid ho4;have HK4:=Lib.hid hk4;clear hbx4 ho4 hk4 tokC)
    | go_in)
   go_roundg cnt3
   case measure=>exact hlt
   case rel=>
    have hm:∀ k,k<w3.heap.size->k≠w1.heap.size->k<w1.heap.size+2->w4.heap[k]? = w3.heap[k]?:=fun k hk h1 h2=>HK4.out.block k hk (by omega)
    refine⟨_,xs++[x],v',yD HRG3.out (hm _ (by omega) (by omega) (by omega)) (hm _ (by omega) (by omega) (by omega)),fun r=>?_,fun r h=>?_,HO4.out,HBX4.out,HK3.out.trans (HK4.out.mono fun k _ h=>by omega)⟩
    ·rw [QM,List.mem_append,HXS.out r,List.mem_singleton]
     constructor
     ·rintro(⟨h1,h2⟩ | rfl)
      ·exact⟨h1,.inl h2⟩
      ·exact⟨HLF.out _ hlk,.inr rfl⟩
     ·rintro⟨h1,h2 | h2⟩
      ·exact .inl ⟨h1,h2⟩
      ·exact .inr h2
    ·exact HLF.out r (by cases h0:left (kR r) with | true=>rfl | false=>rw [h0] at h;simp at h)
theorem yZ {f:FuncId} {ps:List PV} {r:PV} (hr:r.own=none) (hent:∀ args w,(callFunc f args).run Tryz.prog w=.ok (.enter f args) w)
 (h:∀(D:Nat->Nat->Prop) (w:World) (vs:Array Value),GL D w->(∀ b o,D b o->b<w.heap.size)->vs.size=ps.length->(∀(i:Nat) p,ps[i]? = some p->Dat D w (vs.getD i undef) p) ->
   Calls Tryz.prog f vs w fun e w'=>∃ v,e=.returned v/\Below w.heap.size w w'/\Dat (fun b o=>D b o\/(w.heap.size<=b/\b<w'.heap.size)) w' v r):Cn Tryz.prog f ps r:=by
 refine⟨hent,fun D w vs hG hD hsz hd=>(h D w vs hG hD hsz hd).mono ?_⟩
 rintro e w' ⟨v,rfl,hb,hv⟩
 exact⟨v,_,rfl,hb,fun b o h=>.inl h,fun b o h=>h.imp id And.left,fun b o h=>h.elim (fun h=>Nat.lt_of_lt_of_le (hD b o h) hb.size) And.right,hv,zr hr⟩
theorem zjx {vs:Array Value} (h:vs.size=3):vs=#[vs.getD 0 undef,vs.getD 1 undef,vs.getD 2 undef]:=by
 obtain⟨l⟩:=vs
 match l,h with
 | [x,y,z],_=>rfl
theorem zcA {D:Nat->Nat->Prop} {w:World} {x:Value} {f:Fn} (h:Dat D w x (.fn f [] [])):x=.func f #[] #[]:=by
 cases h with
 | fn f va vb fs cs h1 h2 _ _=>
   rw [Array.size_eq_zero_iff.1 h1,Array.size_eq_zero_iff.1 h2]
theorem SmV.bd {v:List En} (h:SmV v):∀ e ∈ v,ZL e:=fun e he=>Jg (h.1.1 e he)
theorem zde (a b:List En) (f:Bool->Bool->Bool) (op:FuncId) (hop:∀ r,Cn Tryz.prog op [rg (zT a r),rg (zT b r)] (rg (qy f (zT a r) (zT b r)))) (ha:SmV a) (hb:SmV b) :
 Cn Tryz.prog 112 [vp a,vp b,.fn (.func op) [] []] (vp (ks f a b)):=by
 refine yZ rfl (enters_of Tryz.func112 (by kernel_rfl) rfl) fun D w vs hG hD hsz hd=>?_
 rw [zjx hsz,zcA (hd 2 _ rfl)]
 refine(zcD D a b _ _ w f op hop ha hb (dat_rdf (hd 0 _ rfl) hD ha.bd) (dat_rdf (hd 1 _ rfl) hD hb.bd) hD hG).mono ?_
 rintro e w' ⟨v,rfl,hbl,hd,_⟩
 exact⟨v,rfl,hbl,hd.mono (fun b o h=>h.imp id fun h=>⟨by omega,h.2⟩) fun _ _ _ _ h=>h⟩
theorem qS {v:List En} (h:SmV v) (r:Nat):Nrm (zT v r)/\(zT v r).length<=20003:=⟨qi h.1 r,ji (n:=1048576) (h:=10000) h r⟩
theorem zdc (a b:List En) (ha:SmV a) (hb:SmV b):Cn Tryz.prog 65 [vp a,vp b] (vp (ks zn a b)):=by
 have h:=zde a b zn 69 (fun r=>zaz _ _ (qS ha r).1 (qS hb r).1 (by have:=(qS ha r).2;have:=(qS hb r).2;omega)) ha hb
 refine zt Tryz.func65 2 ?_
 refine pw ?_
 (first | exact .d (h) | exact .q (h))
theorem ve {P:Program} (w:World) (t ty e:TypeId) (i:TypeInfo) (ht:P.underlying t=some (.slice e)) (hi:P.info? e=some i) (ba:Option Addr) (n cp c:Nat) (hn:n<=cp) :
 (Builtin.append_ #[t,t] ty #[.slice ba n cp,.slice none 0 c]).run P w=.ok (.slice ba n cp) w:=by
 cases ba<;>simp [Builtin.append_,run_underlying ht,sizeOf,typeInfo,hi,Builtin.lenOf,Builtin.firstCells,hn,storeCells]
end Go.Proofs.YtonhfknjcbakiaaGreatDoor
namespace Go.Proofs.YtonhfknjcbakiaaGreatDoor
open Go.RowKit
def cp2 (a b:Nat):PV:=.agg [.v (.int .u64 a),.v (.int .u64 b)]
def cw (n:Nat):PV:=cp2 (n / zk) (n % zk)
attribute [go_sem] cp2 cw
theorem RightV.take {v:List En} (h:RightV v) (k:Nat):RightV (v.take k):=⟨fun e he=>h.1 e (List.mem_of_mem_take he),h.2.sublist (List.take_sublist _ _)⟩
def vps (vs:List (List En)):PV:=.sl (vs.map fun v=>[vp v]) .sh
attribute [go_sem] vps
theorem zo3 {x:List Iv} (hx:Nrm x):qy zm x []=x:=vK hx trivial hx fun t _=>by simp [zm]
theorem kn0 (r m:Nat) (hm:m<zk):kn ⟨r,m,[]⟩=[⟨0,m⟩]:=zo3 (qG (Nat.zero_le _) hm)
def u10:List En:=[⟨1,4,[]⟩,⟨2,3,[]⟩]
def c10:List En:=[⟨3,0,[]⟩]
theorem SmV.g {v:List En} (h:SmV v):v.length<=1152921504606846976/\∀ e ∈ v,e.holes.length<=1152921504606846976:=⟨by have:=h.2.1;omega,fun e he=>by have:=h.2.2 e he;omega⟩
end Go.Proofs.YtonhfknjcbakiaaGreatDoor
