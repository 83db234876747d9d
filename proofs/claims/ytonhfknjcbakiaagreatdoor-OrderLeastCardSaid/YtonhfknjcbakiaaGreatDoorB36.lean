import Derived.Test.YtonhfknjcbakiaaGreatDoorB19
import Derived.Test.YtonhfknjcbakiaaGreatDoorB20
import Derived.Test.YtonhfknjcbakiaaGreatDoorB34
import Derived.Test.YtonhfknjcbakiaaGreatDoorB35
set_option maxHeartbeats 16000000
set_option linter.unusedVariables false
set_option linter.unusedSimpArgs false
set_option maxRecDepth 100000
namespace Go.Proofs.YtonhfknjcbakiaaGreatDoor
open Go.RowKit
def jS (c:Nat) (k:Int):PV:=if c=0 then .v .nilIface else .ifc 120 (.agg [.v (.int .i64 c),.v (.int .i64 k)])
def Z2 (c:Nat):PV:=.ifc 82 (.v (.int .i64 c))
theorem ym (c:Nat) (k:Int):SubP 0 (jS c k) (jS c k):=.eq _ (by unfold jS;split<;>rfl)
theorem jT (c:Nat) (k:Int):Cn Tryz.prog 104 [.v (.int .i64 c),.v (.int .i64 k)] (jS c k):=by
 refine zt Tryz.func104 2 ?_
 refine pw ?_
 unfold jS
 refine .i ?_ ?_<;>intro h<;>(try simp only [zb] at h)<;>first | refine pw ?_ | exact pd
 ·rw [if_pos (by omega)]
  exact pd
 ·rw [if_neg (by omega)]
  exact pd
theorem v8 (a b:Nat) (hb:b<M64):Cn Tryz.prog 168 [.v (.int .u64 a),.v (.int .u64 b)] (.tup [.v (.int .u64 (b - a - 1:Nat)),.v (.bool (decide (a<b)))]):=by
 have hM:=zw
 refine zt Tryz.func168 2 ?_
 refine pw ?_
 refine .i ?_ ?_<;>intro h<;>(try simp only [zb] at h)<;>first | refine pw ?_ | exact pd
 ·have h1:¬ a<b:=by omega
  have h2:b - a - 1=0:=by omega
  simp [h1,h2]
 ·simp [h]
theorem zea (s:Iv):Cn Tryz.prog 121 [Je s] (if s.lo<=s.hi then .v .nilIface else Z2 2):=by
 refine zt Tryz.func121 1 ?_
 refine pw ?_
 refine .i ?_ ?_<;>intro h<;>(try simp only [zb] at h)<;>first | refine pw ?_ | exact pd
 ·rw [if_neg (by omega)]
  unfold Z2
  exact pd
 ·rw [if_pos h]
  exact pd
theorem ziY (s t:Iv) (h1:s.lo<=s.hi) (h2:t.lo<=t.hi) (h3:s.hi<M64) (h4:t.hi<M64):Cn Tryz.prog 122 [Je s,Je t] (.v (.int .i64 (zR s t:Nat))):=by
 have hM:=zw
 refine zt Tryz.func122 2 ?_
 refine pw ?_
 refine .c (v8 s.hi t.lo (by omega)) ?_
 unfold zR
 by_cases k1:s.hi<t.lo
 ·have k2:¬ t.hi<s.lo:=by omega
  by_cases k3:s.hi+1=t.lo
  ·have k4:t.lo - s.hi - 1=0:=by omega
   rw [if_pos k1,if_pos k3,k4,decide_eq_true k1]
   refine pw ?_
   refine .c (v8 t.hi s.lo (by omega)) ?_
   rw [decide_eq_false k2]
   exact pd
  ·have k4:0<t.lo - s.hi - 1:=by omega
   rw [if_pos k1,if_neg k3,decide_eq_true k1]
   refine pw ?_
   refine .i ?_ ?_<;>intro k5<;>(try simp only [zb] at k5)<;>first | refine pw ?_ | exact pd
   ·refine .c (v8 t.hi s.lo (by omega)) ?_
    rw [decide_eq_false k2]
    exact pd
   ·exact absurd k4 (by omega)
 ·rw [if_neg k1,decide_eq_false k1]
  refine pw ?_
  refine .c (v8 t.hi s.lo (by omega)) ?_
  by_cases k2:t.hi<s.lo
  ·by_cases k3:t.hi+1=s.lo
   ·have k4:s.lo - t.hi - 1=0:=by omega
    rw [if_pos k2,if_pos k3,k4,decide_eq_true k2]
    exact pd
   ·have k4:0<s.lo - t.hi - 1:=by omega
    rw [if_pos k2,if_neg k3,decide_eq_true k2]
    refine pw ?_
    refine .i ?_ ?_<;>intro k5<;>(try simp only [zb] at k5)<;>first | refine pw ?_ | exact pd
    exact absurd k4 (by omega)
  ·rw [if_neg k2,decide_eq_false k2]
   exact pd
theorem VO (l:List Iv) (hb:∀ s ∈ l,s.lo<M64/\s.hi<M64) (hl:l.length<=1152921504606846976) (hC:(Zl l).1=0\/Cn Tryz.prog 51 [Z2 2] (.v (.int .i64 2))):Cn Tryz.prog 79 [rg l] (jS (Zl l).1 (Zl l).2):=by
 refine zt Tryz.func79 1 ?_
 refine pw ?_
 refine pLoop.go (fun k=>k<=l.length/\Zl l=QZ (y7 l k) (l.drop k) k/\∀ j (h:j<l.length),j<k->l[j].lo<=l[j].hi) (fun k=>[(8,.v (.int .i64 (k:Nat)))]) (fun _=>[]) (fun k=>l.length - k) 0 [8] ?_ ?_ ?_
 ·exact⟨Nat.zero_le _,rfl,fun j _ h=>absurd h (by omega)⟩
 ·exact pd
 ·rintro k ⟨hk,hm,hv⟩
  refine pw ?_
  refine .i ?_ ?_<;>intro h<;>(try simp only [zb] at h)<;>first | refine pw ?_ | exact pd
  ·rw [Yj h] at hm
   have hbk:=hb _ (List.getElem_mem h)
   refine .rd (zea l[k]) rfl ?_
   by_cases h1:l[k].lo<=l[k].hi
   ·rw [if_pos h1] at hm ⊢
    have hs:y7 l (k+1)=some l[k]:=by unfold y7;rw [if_neg (by omega)];exact List.getElem?_eq_getElem h
    have hv':∀ j (hj:j<l.length),j<k+1->l[j].lo<=l[j].hi:=fun j hj hjk=>by
     rcases Nat.lt_or_ge j k with h6 | h6
     ·exact hv j hj h6
     ·obtain rfl:j=k:=by omega
      exact h1
    refine pw ?_
    refine .i ?_ ?_<;>intro h2<;>(try simp only [zb] at h2)<;>first | refine pw ?_ | exact pd
    ·have hp:y7 l k=some l[k - 1]:=by unfold y7;rw [if_neg (by omega),List.getElem?_eq_getElem]
     rw [hp] at hm
     have hbp:=hb _ (List.getElem_mem (show k - 1<l.length by omega))
     refine .c (ziY l[k - 1] l[k] (hv (k - 1) (by omega) (by omega)) h1 hbp.2 hbk.2) ?_
     refine .i ?_ ?_<;>intro h3<;>(try simp only [zb] at h3)<;>first | refine pw ?_ | exact pd
     ·rw [if_neg (by omega)] at hm
      rw [hm]
      refine .c (jT 3 (k:Nat)) ?_
      exact ym _ _
     ·rw [if_pos (by omega)] at hm
      exact⟨k+1,⟨h,by rw [hs];exact hm,hv'⟩,by omega,rfl⟩
    ·have hp:y7 l k=none:=by unfold y7;rw [if_pos (by omega)]
     rw [hp] at hm
     exact⟨k+1,⟨h,by rw [hs];exact hm,hv'⟩,by omega,rfl⟩
   ·rw [if_neg h1] at hm ⊢
    unfold Z2 at hC ⊢
    rcases hC with hC | hC
    ·rw [hm] at hC
     cases hC
    ·refine pw ?_
     (first | refine .c (hC) ?_ | refine .o (hC) ?_)
     rw [hm]
     refine .c (jT 2 (k:Nat)) ?_
     exact ym _ _
  ·rw [List.drop_of_length_le h] at hm
   rw [hm]
   exact .eq _ rfl
theorem zfH (nb:Nat) (cs:List PV) (o:Nat):JU nb (.cp cs o)=true:=rfl
attribute [go_sem] zfH
theorem za0 (e:En) (hb:∀ s ∈ e.holes,s.lo<M64/\s.hi<M64) (hl:e.holes.length<=1152921504606846976) (hC:(Zl e.holes).1=0\/Cn Tryz.prog 51 [Z2 2] (.v (.int .i64 2))):Cn Tryz.prog 189 [.cp (ec e) 0] (jS (Zl e.holes).1 (Zl e.holes).2):=by
 refine zt Tryz.func189 1 ?_
 refine pw ?_
 refine .c (VO e.holes hb hl hC) ?_
 exact ym _ _
theorem zaZ (e:En) (hl:e.holes.length<=1152921504606846976):Cn Tryz.prog 188 [.cp (ec e) 0] (jS (hk e.max e.holes 0).1 (hk e.max e.holes 0).2):=by
 refine zt Tryz.func188 1 ?_
 refine pw ?_
 refine pLoop.go (fun k=>k<=e.holes.length/\hk e.max e.holes 0=hk e.max (e.holes.drop k) k) (fun k=>[(7,.v (.int .i64 (k:Nat)))]) (fun _=>[]) (fun k=>e.holes.length - k) 0 [7] ?_ ?_ ?_
 ·exact⟨Nat.zero_le _,rfl⟩
 ·exact pd
 ·rintro k ⟨hk1,hm⟩
  refine pw ?_
  refine .i ?_ ?_<;>intro h1<;>(try simp only [zb] at h1)<;>first | refine pw ?_ | exact pd
  ·rw [K3 h1] at hm
   refine .i ?_ ?_<;>intro h2<;>(try simp only [zb] at h2)<;>first | refine pw ?_ | exact pd
   ·rw [hm,if_pos h2]
    refine .c (jT 4 (k:Nat)) ?_
    exact ym _ _
   ·rw [if_neg (by omega)] at hm
    exact⟨k+1,⟨h1,hm⟩,by omega,rfl⟩
  ·rw [List.drop_of_length_le h1] at hm
   rw [hm]
   exact .eq _ rfl
theorem yk {x:Nat × Int} (h:x.1=0):jS x.1 x.2=.v .nilIface:=if_pos h
theorem vu {x:Nat × Int} (h:x.1≠0):jS x.1 x.2=.ifc 120 (.agg [.v (.int .i64 x.1),.v (.int .i64 x.2)]):=if_neg h
theorem zcJ (e:En) (hb:∀ s ∈ e.holes,s.lo<M64/\s.hi<M64) (hl:e.holes.length<=1152921504606846976) (hC:(Zl e.holes).1=0\/Cn Tryz.prog 51 [Z2 2] (.v (.int .i64 2))):Cn Tryz.prog 156 [ep e] (jS (yV e).1 (yV e).2):=by
 refine zt Tryz.func156 1 ?_
 refine pw ?_
 refine pLoop.go (fun k=>k<=2/\(1<=k->(Zl e.holes).1=0)/\(2<=k->(yV e).1=0)) (fun k=>[(12,.v (.int .i64 (k:Nat)))]) (fun _=>[]) (fun k=>2 - k) 0 [12] ?_ ?_ ?_
 ·exact⟨by omega,fun h=>absurd h (by omega),fun h=>absurd h (by omega)⟩
 ·exact pd
 ·rintro k ⟨hk1,h1,h2⟩
  obtain rfl | rfl | rfl:k=0\/k=1\/k=2:=by omega
  ·refine pw ?_
   refine .rd (za0 e hb hl hC) rfl ?_
   by_cases hz:(Zl e.holes).1=0
   ·rw [yk hz]
    refine pw ?_
    exact⟨1,⟨by omega,fun _=>hz,fun h=>absurd h (by omega)⟩,by omega,rfl⟩
   ·have e1:yV e=Zl e.holes:=if_neg hz
    rw [e1,vu hz]
    exact pd
  ·have hz:=h1 (by omega)
   have e1:yV e=hk e.max e.holes 0:=if_pos hz
   refine pw ?_
   refine .rd (zaZ e hl) rfl ?_
   by_cases hy:(hk e.max e.holes 0).1=0
   ·rw [yk hy]
    refine pw ?_
    exact⟨2,⟨by omega,fun _=>hz,fun _=>by rw [e1];exact hy⟩,by omega,rfl⟩
   ·rw [e1,vu hy]
    exact pd
  ·have hz:=h2 (by omega)
   rw [yk hz]
   exact pd
theorem znN (e:En) (c:Nat) (hl:e.holes.length<=1152921504606846976):Cn Tryz.prog 135 [ep e,.v (.int .u64 c)] (.v (.bool (decide (c<=e.max) && !mem e.holes c))):=by
 refine zt Tryz.func135 2 ?_
 refine pw ?_
 refine .i ?_ ?_<;>intro h1<;>(try simp only [zb] at h1)<;>first | refine pw ?_ | exact pd
 ·refine .c (kU e.holes c hl) ?_
  simp [h1]
 ·have h1':¬ c<=e.max:=by omega
  simp [h1']
theorem Jg {e:En} (h:zO e):ZL e:=⟨h.1.lt,h.2.2.1,h.2.2.2⟩
section
variable (a b:En) (c:Nat) (ha:ZL a) (hb:ZL b) (hc:c<M64)
include ha hb hc
end
def HG (w:World):Prop:=w.cell? ⟨0,0,none⟩=some (.iface 217 (.agg #[.pointer (some ⟨2,44,none⟩)]))
theorem HG.of {D:Nat->Nat->Prop} {w:World} (h:GL D w):HG w:=(h _ rfl).2
theorem HG.pos {w:World} (h:HG w):0<w.heap.size:=World.block_lt_of_cell? w ⟨0,0,none⟩ h
theorem HG.alloc {w:World} (h:HG w) (o:Obj):HG (w.alloc o):=by
 unfold HG
 rw [World.cell?_alloc_lt _ _ ⟨0,0,none⟩ h.pos];exact h
theorem KK {f:FuncId} {ps:List PV} {r:PV} (hr:r.own=none) (hent:∀ args w,(callFunc f args).run Tryz.prog w=.ok (.enter f args) w)
 (h:∀(D:Nat->Nat->Prop) (w:World) (vs:Array Value),HG w->(∀ b o,D b o->b<w.heap.size)->vs.size=ps.length->(∀(i:Nat) p,ps[i]? = some p->Dat D w (vs.getD i undef) p) ->
   Calls Tryz.prog f vs w fun e w'=>∃ v,e=.returned v/\Below w.heap.size w w'/\Dat (fun b o=>D b o\/(w.heap.size<=b/\b<w'.heap.size)) w' v r):Cn Tryz.prog f ps r:=by
 refine⟨hent,fun D w vs hg hD hsz hd=>(h D w vs (.of hg) hD hsz hd).mono ?_⟩
 rintro e w' ⟨v,rfl,hb,hv⟩
 exact⟨v,_,rfl,hb,fun b o h=>.inl h,fun b o h=>h.imp id And.left,fun b o h=>h.elim (fun h=>Nat.lt_of_lt_of_le (hD b o h) hb.size) And.right,hv,zr hr⟩
theorem zjw {vs:Array Value} (h:vs.size=1):vs=#[vs.getD 0 undef]:=by
 obtain⟨l⟩:=vs
 match l,h with
 | [x],_=>rfl
theorem zb4 (c:Int) (w:World) (hg:HG w):Calls Tryz.prog 94 #[.iface 82 (.int .i64 c),.iface 127 (.pointer (some ⟨w.heap.size,0,none⟩))] (w.alloc (.cells #[.int .i64 0] 82))
 fun ev w'=>ev=.returned (.bool true)/\Below w.heap.size w w'/\w'.cell? ⟨w.heap.size,0,none⟩=some (.int .i64 c):=by
 refine(As.as_NN c ⟨w.heap.size,0,none⟩ (.int .i64 0) _ (hg.alloc _) (by simp) (by simp)).mono ?_
 rintro ev w' ⟨rfl,rfl⟩
 refine⟨rfl,?_,?_⟩
 ·refine Below.setCell (((((((Below.refl _ w).alloc ?_ _).alloc ?_ _).alloc ?_ _).alloc ?_ _).alloc ?_ _)) ?_ _<;>simp<;>omega
 ·refine World.cell?_setCell_same _ _ _ (u:=.int .i64 0) ?_
  rw [World.cell?_alloc_lt _ _ ⟨w.heap.size,0,none⟩ (by simp;omega),World.cell?_alloc_lt _ _ ⟨w.heap.size,0,none⟩ (by simp;omega),World.cell?_alloc_lt _ _ ⟨w.heap.size,0,none⟩ (by simp;omega),World.cell?_alloc_lt _ _ ⟨w.heap.size,0,none⟩ (by simp)]
  simp
theorem zb3 (c k:Int) (w:World) (hg:HG w):Calls Tryz.prog 94 #[.iface 120 (.agg #[.int .i64 c,.int .i64 k]),.iface 127 (.pointer (some ⟨w.heap.size,0,none⟩))] (w.alloc (.cells #[.int .i64 0] 82))
 fun ev w'=>ev=.returned (.bool true)/\Below w.heap.size w w'/\w'.cell? ⟨w.heap.size,0,none⟩=some (.int .i64 c):=by
 refine(As.as_FN c k ⟨w.heap.size,0,none⟩ (.int .i64 0) _ (hg.alloc _) (by simp) (by simp)).mono ?_
 rintro ev w' ⟨rfl,rfl⟩
 refine⟨rfl,?_,?_⟩
 ·refine Below.setCell ((((((((Below.refl _ w).alloc ?_ _).alloc ?_ _).alloc ?_ _).alloc ?_ _).alloc ?_ _).alloc ?_ _)) ?_ _<;>simp<;>omega
 ·refine World.cell?_setCell_same _ _ _ (u:=.int .i64 0) ?_
  rw [World.cell?_alloc_lt _ _ ⟨w.heap.size,0,none⟩ (by simp;omega),World.cell?_alloc_lt _ _ ⟨w.heap.size,0,none⟩ (by simp;omega),World.cell?_alloc_lt _ _ ⟨w.heap.size,0,none⟩ (by simp;omega),World.cell?_alloc_lt _ _ ⟨w.heap.size,0,none⟩ (by simp;omega),World.cell?_alloc_lt _ _ ⟨w.heap.size,0,none⟩ (by simp)]
  simp
theorem zcs (w:World):Calls Tryz.prog 51 #[.nilIface] w fun e w'=>e=.returned (.int .i64 0)/\Below w.heap.size w w':=by
 go_enter Tryz.func51,Tryz.ntmps51
 go_wp2
 go_ret
 exact⟨rfl,(Below.refl _ w).alloc (Nat.le_refl _) _⟩
theorem zhu (c:Int) (w:World) (hg:HG w):Calls Tryz.prog 51 #[.iface 82 (.int .i64 c)] w fun e w'=>e=.returned (.int .i64 c)/\Below w.heap.size w w':=by
 go_enter Tryz.func51,Tryz.ntmps51
 go_wp2_with (go_at_call 94;refine(zb4 c w hg).mono ?_;rintro e w1 ⟨rfl,hb,hc⟩)
 go_ret
 exact⟨rfl,hb⟩
theorem zht (c k:Int) (w:World) (hg:HG w):Calls Tryz.prog 51 #[.iface 120 (.agg #[.int .i64 c,.int .i64 k])] w fun e w'=>e=.returned (.int .i64 c)/\Below w.heap.size w w':=by
 go_enter Tryz.func51,Tryz.ntmps51
 go_wp2_with (go_at_call 94;refine(zb3 c k w hg).mono ?_;rintro e w1 ⟨rfl,hb,hc⟩)
 go_ret
 exact⟨rfl,hb⟩
def z2:Obj:=.cells #[.int .i64 0,.int .i64 0] 120
theorem zaW {D:Nat->Nat->Prop} {w:World} {v:Value} {c:Int} {t:TypeId} (h:Dat D w v (.ifc t (.v (.int .i64 c)))):v=.iface t (.int .i64 c):=by
 cases h with
 | ifc t x p h=>rw [h.v_inv]
theorem zaX {D:Nat->Nat->Prop} {w:World} {v:Value} {c k:Int} {t:TypeId} (h:Dat D w v (.ifc t (.agg [.v (.int .i64 c),.v (.int .i64 k)]))):v=.iface t (.agg #[.int .i64 c,.int .i64 k]):=by
 cases h with
 | ifc t x p h=>
   generalize hc:[PV.v (.int .i64 c),PV.v (.int .i64 k)]=cs at h
   cases h with
   | agg us cs hs _ h=>
     subst hc
     obtain⟨l⟩:=us
     match l,hs with
     | [x,y],_=>
       have e0:=(h 0 _ rfl).v_inv
       have e1:=(h 1 _ rfl).v_inv
       simp at e0 e1
       rw [e0,e1]
theorem KL (c:Nat):Cn Tryz.prog 51 [Z2 c] (.v (.int .i64 c)):=by
 refine KK rfl (enters_of Tryz.func51 (by kernel_rfl) rfl) fun D w vs hg hD hsz hd=>?_
 rw [zjw hsz,zaW (hd 0 _ rfl)]
 refine(zhu c w hg).mono ?_
 rintro e w' ⟨rfl,hb⟩
 exact⟨_,rfl,hb,.v _⟩
theorem Ju (c:Nat) (k:Int):Cn Tryz.prog 51 [jS c k] (.v (.int .i64 c)):=by
 refine KK rfl (enters_of Tryz.func51 (by kernel_rfl) rfl) fun D w vs hg hD hsz hd=>?_
 have h0:=hd 0 _ rfl
 unfold jS at h0
 rw [zjw hsz]
 by_cases hc:c=0
 ·rw [if_pos hc] at h0
  subst hc
  rw [h0.v_inv]
  refine(zcs w).mono ?_
  rintro e w' ⟨rfl,hb⟩
  exact⟨_,rfl,hb,.v _⟩
 ·rw [if_neg hc] at h0
  rw [zaX h0]
  refine(zht c k w hg).mono ?_
  rintro e w' ⟨rfl,hb⟩
  exact⟨_,rfl,hb,.v _⟩
def JF (v:List En):Bool:=v.all (fun e=>decide (e.holes.length<=30)) && decide (v.length<=20)
theorem vw {v:List En}:JF v=true ↔ (∀ e ∈ v,e.holes.length<=30)/\v.length<=20:=by simp [JF]
def prv (v:List En) (k:Nat):Nat:=match v[k - 1]? with
 | some p=>p.rep
 | none=>0
theorem Xl {v:List En} {k:Nat} (h:k - 1<v.length):prv v k=v[k - 1].rep:=by simp [prv,List.getElem?_eq_getElem h]
def hkV (v:List En):Nat->List En->Nat × Int
 | _,[]=>(0,-1)
 | k,e::r=>if (yV e).1≠0 then ((yV e).1,(k:Int)) else if 0<k/\e.rep<=prv v k then (3,(k:Int)) else hkV v (k+1) r
def jx (v:List En):Nat × Int:=hkV v 0 v
theorem Ve (v:List En):∀(k:Nat) (r:List En),r=v.drop k->((hkV v k r).1=0 ↔ (∀ e ∈ r,(yV e).1=0)/\∀ j (h:j<v.length),k<=j->0<j->v[j - 1].rep<v[j].rep)
 | k,[],h=>by
   have hl:=congrArg List.length h
   simp at hl
   simp only [hkV,List.not_mem_nil,false_implies,implies_true,true_and,true_iff]
   intro j hj hk
   omega
 | k,e::r,h=>by
   have hl:=congrArg List.length h
   simp at hl
   have hk:k<v.length:=by omega
   rw [List.drop_eq_getElem_cons hk,List.cons.injEq] at h
   obtain⟨he,hr⟩:=h
   have ih:=Ve v (k+1) r hr
   unfold hkV
   by_cases h1:(yV e).1≠0
   ·rw [if_pos h1]
    constructor
    ·intro h;exact absurd h h1
    ·rintro⟨h2,_⟩;exact absurd (h2 e (by simp)) h1
   ·rw [if_neg h1]
    have h1':(yV e).1=0:=by omega
    by_cases h2:0<k/\e.rep<=prv v k
    ·rw [if_pos h2]
     constructor
     ·intro h;cases h
     ·rintro⟨_,h3⟩
      have:=h3 k hk (Nat.le_refl _) h2.1
      have h22:=h2.2
      have h23:=congrArg En.rep he
      rw [Xl (by omega)] at h22
      omega
    ·rw [if_neg h2,ih]
     constructor
     ·rintro⟨h3,h4⟩
      refine⟨fun f hf=>?_,fun j hj hkj hj0=>?_⟩
      ·rcases List.mem_cons.1 hf with rfl | hf
       ·exact h1'
       ·exact h3 f hf
      ·rcases Nat.eq_or_lt_of_le hkj with rfl | hlt
       ·rw [Xl (by omega),he] at h2
        omega
       ·exact h4 j hj (by omega) hj0
     ·rintro⟨h3,h4⟩
      exact⟨fun f hf=>h3 f (by simp [hf]),fun j hj hkj hj0=>h4 j hj (by omega) hj0⟩
theorem zb0 {v:List En} (h:∀ j (h:j<v.length),0<j->v[j - 1].rep<v[j].rep):v.Pairwise fun a b=>a.rep<b.rep:=by
 rw [List.pairwise_iff_getElem]
 intro i j hi hj hij
 induction j with
 | zero=>omega
 | succ j ih=>
   have h1:=h (j+1) hj (by omega)
   simp only [Nat.add_sub_cancel] at h1
   rcases Nat.eq_or_lt_of_le (Nat.le_of_lt_succ hij) with rfl | h2
   ·exact h1
   ·have:=ih (by omega) h2
    omega
theorem XP {v:List En} (hb:∀ e ∈ v,ZL e):(jx v).1=0 ↔ RightV v:=by
 unfold jx
 rw [Ve v 0 v rfl]
 have hE:∀ e ∈ v,(yV e).1=0 ↔ zO e:=fun e he=>by
  have:=VU (hb e he).1 (hb e he).2.1 (hb e he).2.2
  unfold Xu at this
  simpa using this
 constructor
 ·rintro⟨h1,h2⟩
  exact⟨fun e he=>(hE e he).1 (h1 e he),zb0 fun j hj h0=>h2 j hj (Nat.zero_le _) h0⟩
 ·rintro⟨h1,h2⟩
  refine⟨fun e he=>(hE e he).2 (h1 e he),fun j hj _ h0=>?_⟩
  exact List.pairwise_iff_getElem.1 h2 (j - 1) j (by omega) hj (by omega)
def fdV (r:Nat):Nat->List En->Int
 | _,[] => -1
 | k,e::t=>if e.rep=r then (k:Int) else fdV r (k+1) t
theorem X2 (r:Nat):∀(l:List En) (k:Nat),(fdV r k l=-1/\∀ e ∈ l,e.rep≠r)\/∃(i:Nat) (h:i<l.length),fdV r k l=((k+i:Nat):Int)/\l[i].rep=r
 | [],k=>.inl ⟨rfl,fun _ h=>by cases h⟩
 | e::t,k=>by
   unfold fdV
   by_cases h:e.rep=r
   ·rw [if_pos h]
    exact .inr ⟨0,by simp,by simp,h⟩
   ·rw [if_neg h]
    rcases X2 r t (k+1) with⟨h1,h2⟩ | ⟨i,hi,h1,h2⟩
    ·refine .inl ⟨h1,fun f hf=>?_⟩
     rcases List.mem_cons.1 hf with rfl | hf
     ·exact h
     ·exact h2 f hf
    ·exact .inr ⟨i+1,by simpa using hi,by rw [h1];omega,by simpa using h2⟩
theorem zoo {v:List En} (h:RightV v) (r:Nat):∃ i,i<=v.length/\(∀ j,(h:j<v.length)->j<i->v[j].rep<r)/\(∀ j,(h:j<v.length)->i<=j->r<=v[j].rep):=by
 have hp:=List.pairwise_iff_getElem.1 h.2
 obtain⟨i,h1,h2,h3⟩:=KV (fun j=>∃ h:j<v.length,v[j].rep<r) v.length fun a b hab hb ⟨h4,h5⟩=>by
  refine⟨by omega,?_⟩
  rcases Nat.lt_or_eq_of_le hab with h6 | h6
  ·have:=hp a b (by omega) hb h6
   omega
  ·subst h6;exact h5
 exact⟨i,h1,fun j hj hji=>(h2 j hji).2,fun j hj hij=>Nat.le_of_not_lt fun h=>h3 j hij hj ⟨hj,h⟩⟩
theorem zoj {v:List En} (hr:RightV v) {r i:Nat} (h1:∀ j,(h:j<v.length)->j<i->v[j].rep<r) (h2:∀ j,(h:j<v.length)->i<=j->r<=v[j].rep) :
 fdV r 0 v=if h:i<v.length then (if v[i].rep=r then (i:Int) else -1) else -1:=by
 have hp:=List.pairwise_iff_getElem.1 hr.2
 rcases X2 r v 0 with⟨e1,e2⟩ | ⟨j,hj,e1,e2⟩
 ·rw [e1]
  split
  ·rename_i h
   rw [if_neg (e2 _ (List.getElem_mem h))]
  ·rfl
 ·have hij:i<=j:=Nat.le_of_not_lt fun h=>by have:=h1 j hj h;omega
  have:i=j:=by
   rcases Nat.lt_or_eq_of_le hij with h | h
   ·have a1:=hp i j (by omega) hj h
    have a2:=h2 i (by omega) (Nat.le_refl _)
    omega
   ·exact h
  subst this
  rw [dif_pos hj,if_pos e2,e1,Nat.zero_add]
theorem zh8 {v:List En} (hr:RightV v) {r i:Nat} (hi:i<v.length) (h:v[i].rep=r):zT v r=kn v[i]:=by
 rw [<-h];exact kq hr.2 (List.getElem_mem hi)
def zZ:List Nat->List Nat->Int
 | [],[]=>0
 | [],_::_ => -1
 | _::_,[]=>1
 | a::x,b::y=>if a<b then -1 else if b<a then 1 else zZ x y
theorem ZV:∀ a b,zZ b a=- zZ a b
 | [],[]=>rfl
 | [],_::_=>rfl
 | _::_,[]=>rfl
 | a::x,b::y=>by
   unfold zZ
   split
   ·rw [if_neg (by omega)];try rfl
   ·split
    ·rfl
    ·exact ZV x y
theorem jc:∀ a b,zZ a b=0 ↔ a=b
 | [],[]=>by simp [zZ]
 | [],_::_=>by simp [zZ]
 | _::_,[]=>by simp [zZ]
 | a::x,b::y=>by
   unfold zZ
   rw [List.cons.injEq]
   split
   ·constructor
    ·intro h;cases h
    ·rintro⟨h,_⟩;omega
   ·split
    ·constructor
     ·intro h;cases h
     ·rintro⟨h,_⟩;omega
    ·rw [jc x y]
     constructor
     ·intro h;exact⟨by omega,h⟩
     ·exact And.right
theorem ZW:∀ a b c,zZ a b<=0->zZ b c<=0->zZ a c<=0
 | [],_,[],_,_=>by simp [zZ]
 | [],_,_::_,_,_=>by simp [zZ]
 | _::_,[],_,h,_=>by simp [zZ] at h
 | _::_,_::_,[],_,h=>by simp [zZ] at h
 | a::x,b::y,c::z,h1,h2=>by
   unfold zZ at h1 h2 ⊢
   split
   ·omega
   ·split at h1
    ·split at h2
     ·omega
     ·split at h2
      ·omega
      ·omega
    ·split at h1
     ·omega
     ·split at h2
      ·omega
      ·split at h2
       ·omega
       ·rw [if_neg (by omega)]
        exact ZW x y z h1 h2
theorem Yn:∀ {a b:List Iv},a.flatMap (fun s=>[s.lo,s.hi])=b.flatMap (fun s=>[s.lo,s.hi])->a=b
 | [],[],_=>rfl
 | [],_::_,h=>by simp at h
 | _::_,[],h=>by simp at h
 | s::a,t::b,h=>by
   simp only [List.flatMap_cons,List.cons_append,List.nil_append,List.cons.injEq] at h
   rw [Iv.ext' h.1 h.2.1,Yn h.2.2]
theorem xx (a:List Iv):(a.flatMap (fun s=>[s.lo,s.hi])).length=2 * a.length:=by
 induction a with
 | nil=>rfl
 | cons s a ih=>simp only [List.flatMap_cons,List.length_append,List.length_cons,List.length_nil,ih];omega
theorem YA:∀ {a b:List En} ,a.length=b.length->a.flatMap zC=b.flatMap zC->a=b
 | [],[],_,_=>rfl
 | [],_::_,h,_=>by simp at h
 | _::_,[],h,_=>by simp at h
 | e::a,f::b,hl,h=>by
   simp only [List.flatMap_cons,zC,List.cons_append,List.cons.injEq] at h
   obtain⟨h1,h2,h3,h4⟩:=h
   have h5:=List.append_inj h4 (by rw [xx,xx,h3])
   rw [En.ext' h1 h2 (Yn h5.1),YA (by simpa using hl) h5.2]
theorem Vv {a b:List En} (h:zv a=zv b):a=b:=by
 unfold zv at h
 simp only [List.cons.injEq] at h
 exact YA h.1 h.2
end Go.Proofs.YtonhfknjcbakiaaGreatDoor
namespace Go.Proofs.YtonhfknjcbakiaaGreatDoor
theorem Ji:∀(r xs:List Nat),YN r->(∀ y ∈ r,y ∈ xs)->r.length<=xs.length:=by
 intro r
 induction r with
 | nil=>intro xs _ _;exact Nat.zero_le _
 | cons x r ih=>
   intro xs h hm
   have h':=List.pairwise_cons.1 h
   have:=ih (xs.erase x) h'.2 fun y hy=>by
    have h3:=h'.1 y hy
    exact(List.mem_erase_of_ne (by omega)).2 (hm y (by simp [hy]))
   have hx:x ∈ xs:=hm x (by simp)
   rw [List.length_erase_of_mem hx] at this
   have:=List.length_pos_of_mem hx
   simp;omega
def Ed (l:List Iv) (x:Nat):Prop:=x<M64/\mem l x≠(if x=0 then false else mem l (x - 1))
theorem NF.lo_prev:∀ {l:List Iv} {n:Nat},NF n l->∀ s ∈ l,s.lo≠0->mem l (s.lo - 1)=false
 | [],_,_,s,hs,_=>by cases hs
 | t::l,n,h,s,hs,h0=>by
   obtain⟨h1,h2,h3,h4⟩:=h
   rcases List.mem_cons.1 hs with rfl | hs
   ·rw [zz,h4.mem_lt (by omega),decide_eq_false (show ¬ s.lo<=s.lo - 1 by omega)]
    rfl
   ·have:=h4.lo_ge s hs
    rw [zz,NF.lo_prev h4 s hs h0,decide_eq_false (show ¬ s.lo - 1<=t.hi by omega)]
    simp
theorem NF.asc:∀ {l:List Iv} {n:Nat},NF n l->YN (l.map Iv.lo)
 | [],_,_=>List.Pairwise.nil
 | t::l,n,h=>by
   refine List.pairwise_cons.2 ⟨fun y hy=>?_,NF.asc h.2.2.2⟩
   obtain⟨s,hs,rfl⟩:=List.mem_map.1 hy
   have:=h.2.2.2.lo_ge s hs
   have:=h.2.1
   omega
theorem zjS {l:List Iv} (h:Nrm l) {s:Iv} (hs:s ∈ l):Ed l s.lo:=by
 have h1:=NF.lo_ge h s hs
 have h2:mem l s.lo=true:=qf.2 ⟨s,hs,Nat.le_refl _,h1.2.1⟩
 refine⟨by omega,?_⟩
 rw [h2]
 split
 ·simp
 ·rename_i h0
  rw [NF.lo_prev h s hs h0]
  simp
theorem zcK {l:List Iv} {C:List Nat} (h:Nrm l) (hC:∀ x,Ed l x->x ∈ C):l.length<=C.length:=by
 have:=Ji (l.map Iv.lo) C (NF.asc h) fun y hy=>by
  obtain⟨s,hs,rfl⟩:=List.mem_map.1 hy
  exact hC _ (zjS h hs)
 simpa using this
theorem Y3 {l:List Iv} (h:∀ s ∈ l,s.lo<=s.hi/\s.hi<M64) {x:Nat} (hx:Ed l x):x ∈ z6 l:=by
 refine Classical.byContradiction fun hn=>hx.2 ?_
 split
 ·rename_i h0
  subst h0
  cases hm:mem l 0 with
  | false=>rfl
  | true=>
    obtain⟨s,hs,h1,h2⟩:=qf.1 hm
    exact absurd (show 0 ∈ z6 l from List.mem_flatMap.2 ⟨s,hs,List.mem_cons.2 (.inl (by omega))⟩) hn
 ·exact Qh h (x:=x - 1) (y:=x) (by omega) hx.1 fun c hc=>by
   have:c≠x:=fun e=>hn (e ▸ hc)
   omega
theorem Nrm.ivs2 {l:List Iv} (h:Nrm l):∀ s ∈ l,s.lo<=s.hi/\s.hi<M64:=fun s hs=>(NF.lo_ge h s hs).2
theorem zcM {f:Bool->Bool->Bool} (hf:f false false=false) {a b:List Iv} (ha:Nrm a) (hb:Nrm b) {x:Nat} (h:Ed (qy f a b) x):Ed a x\/Ed b x:=by
 obtain⟨hx,hne⟩:=h
 by_cases h1:mem a x=(if x=0 then false else mem a (x - 1))
 ·by_cases h2:mem b x=(if x=0 then false else mem b (x - 1))
  ·refine absurd ?_ hne
   rw [qj ha hb hx,h1,h2]
   split
   ·exact hf
   ·rw [qj ha hb (by omega)]
  ·exact .inr ⟨hx,h2⟩
 ·exact .inl ⟨hx,h1⟩
theorem zcL {x:Nat}:¬ Ed [] x:=fun h=>h.2 (by simp)
theorem zhC {m n x:Nat} (h:Ed [⟨m,n⟩] x):x=m\/x=n+1:=by
 obtain⟨_,h⟩:=h
 rw [jl,jl] at h
 by_cases e1:x=m
 ·exact .inl e1
 ·by_cases e2:x=n+1
  ·exact .inr e2
  ·refine absurd ?_ h
   split
   ·rename_i h0
    rw [decide_eq_false (show ¬ m<=x by omega)]
    rfl
   ·rw [Bool.eq_iff_iff]
    simp only [Bool.and_eq_true,decide_eq_true_eq]
    omega
def EdV (C:Nat->List Nat) (v:List En):Prop:=∀ r x,Ed (zT v r) x->x ∈ C r
structure IV (C:Nat->List Nat) (R:List Nat) (v:List En):Prop where
 right:RightV v
 ed:EdV C v
 rep:∀ e ∈ v,e.rep ∈ R
structure WV (C:Nat->List Nat) (R:List Nat) (v:List En):Prop where
 can:CanV v
 ed:EdV C v
 rep:∀ e ∈ v,e.rep ∈ R
variable {C C':Nat->List Nat} {R R':List Nat} {v a b:List En}
theorem WV.iv (h:WV C R v):IV C R v:=⟨h.can.right,h.ed,h.rep⟩
theorem WV.nil:WV C R []:=⟨⟨fun e h=>(by cases h),List.Pairwise.nil⟩,fun r x h=>absurd h (by rw [kr];exact zcL),fun e h=>(by cases h)⟩
theorem IV.mono (h:IV C R v) (hC:∀ r x,x ∈ C r->x ∈ C' r) (hR:∀ x ∈ R,x ∈ R'):IV C' R' v:=⟨h.right,fun r x hx=>hC _ _ (h.ed r x hx),fun e he=>hR _ (h.rep e he)⟩
theorem WV.mono (h:WV C R v) (hC:∀ r x,x ∈ C r->x ∈ C' r) (hR:∀ x ∈ R,x ∈ R'):WV C' R' v:=⟨h.can,fun r x hx=>hC _ _ (h.ed r x hx),fun e he=>hR _ (h.rep e he)⟩
theorem IV.lat {f:Bool->Bool->Bool} (hf:f false false=false) (ha:IV C R a) (hb:IV C R b):WV C R (ks f a b):=by
 refine⟨Xe f ha.right hb.right,fun r x hx=>?_,fun e he=>?_⟩
 ·rw [JR hf ha.right hb.right] at hx
  rcases zcM hf (qi ha.right r) (qi hb.right r) hx with h | h
  ·exact ha.ed r x h
  ·exact hb.ed r x h
 ·have:=qr.1 (zdd e he)
  rcases List.mem_append.1 this with h | h
  ·obtain⟨e',he',h⟩:=List.mem_map.1 h
   rw [<-h];exact ha.rep e' he'
  ·obtain⟨e',he',h⟩:=List.mem_map.1 h
   rw [<-h];exact hb.rep e' he'
theorem IV.canVec (h:IV C R v):WV C R (zi v):=by
 refine⟨jN h.right,fun r x hx=>h.ed r x (by rwa [ja h.right] at hx),fun e he=>?_⟩
 obtain⟨e',he',h1⟩:=List.mem_filterMap.1 he
 rw [(v9 h1).2.2]
 exact h.rep e' he'
theorem QY {e:En} (h:YP e) {L:List Nat} (hL:∀ x,Ed (kn e) x->x ∈ L):e.holes.length<=L.length+2:=by
 have h1:=ZM h
 have h2:=(jO h).1
 have hn:=qT h.1
 rw [qD h2] at h1
 have h3:e.holes=qy zm [⟨0,QV (kn e)⟩] (kn e):=by
  have:=congrArg (fun p=>p.1.holes) h1
  exact this.symm
 have ht:=(x9 hn h2).2
 have h0:=qG (Nat.zero_le (QV (kn e))) ht
 rw [h3]
 have:=zcK (C:=0::(QV (kn e)+1)::L) (qH (f:=zm) h0 hn) fun x hx=>by
  rcases zcM fM0 h0 hn hx with h | h
  ·rcases zhC h with h | h<;>simp [h]
  ·simp [hL x h]
 simpa using this
theorem zb5 (h:v.Pairwise fun a b=>a.rep<b.rep):YN (zM v):=by
 unfold YN zM
 rw [List.pairwise_map]
 exact h
theorem WV.bv (h:WV C R v) {n m:Nat} (hC:∀ r,(C r).length<=n) (hR:R.length<=m):BV m (n+2) v:=by
 refine⟨h.can.right,?_,fun e he=>?_⟩
 ·have:=Ji (zM v) R (zb5 h.can.2) fun y hy=>by
   obtain⟨e,he,rfl⟩:=List.mem_map.1 hy
   exact h.rep e he
  simp only [zM,List.length_map] at this
  omega
 ·have:=QY (h.can.1 e he) (L:=C e.rep) fun x hx=>h.ed e.rep x (by rw [kq h.can.2 he];exact hx)
  have:=hC e.rep
  omega
theorem IV.of (h:RightV v):IV (fun r=>z6 (zT v r)) (zM v) v:=⟨h,fun r x hx=>Y3 (qi h r).ivs2 hx,fun e he=>List.mem_map.2 ⟨e,he,rfl⟩⟩
end Go.Proofs.YtonhfknjcbakiaaGreatDoor
namespace Go.Proofs.YtonhfknjcbakiaaGreatDoor
open Go.RowKit
theorem zj5 (v:List En) (hl:v.length<=9223372036854775807):Cn Tryz.prog 53 [vp v] (.v (.bool (JF v))):=by
 refine zt Tryz.func53 1 ?_
 refine pw ?_
 refine pLoop.go (fun k=>k<=v.length/\JF v=((v.drop k).all (fun e=>decide (e.holes.length<=30)) && decide (v.length<=20))) (fun k=>[(3,.v (.int .i64 (k:Nat)))]) (fun _=>[]) (fun k=>v.length - k) 0 [3] ?_ ?_ ?_
 ·exact⟨Nat.zero_le _,rfl⟩
 ·exact pd
 ·rintro k ⟨hk,hm⟩
  refine pw ?_
  refine .i ?_ ?_<;>intro h<;>(try simp only [zb] at h)<;>first | refine pw ?_ | exact pd
  ·rw [List.drop_eq_getElem_cons h,List.all_cons] at hm
   refine pw ?_
   refine .i ?_ ?_<;>intro h2<;>(try simp only [zb] at h2)<;>first | refine pw ?_ | exact pd
   ·rw [hm,decide_eq_false (by omega)]
    rfl
   ·rw [decide_eq_true (by omega),Bool.true_and] at hm
    exact⟨k+1,⟨h,hm⟩,by omega,rfl⟩
  ·rw [hm,List.drop_of_length_le (by omega)]
   simp
   omega
theorem zdn (x:Nat):Cn Tryz.prog 170 [.v (.int .u64 x)] (.v (.bool false)):=by
 refine zt Tryz.func170 1 ?_
 exact pd
theorem zdm (x:Int):Cn Tryz.prog 228 [.v (.int .i64 x)] (.v (.bool false)):=by
 refine zt Tryz.func228 1 ?_
 exact pd
theorem XQ (x y:Nat):Cn Tryz.prog 129 [.v (.int .u64 x),.v (.int .u64 y)] (.v (.int .i64 (if x<y then -1 else if y<x then 1 else 0))):=by
 refine zt Tryz.func129 2 ?_
 refine pw ?_
 refine .c (zdn x) ?_
 refine .c (zdn y) ?_
 refine .i ?_ ?_<;>intro h1<;>(try simp only [zb] at h1)<;>first | refine pw ?_ | exact pd
 ·rw [if_pos h1]
 ·rw [if_neg (by omega)]
  refine .i ?_ ?_<;>intro h2<;>(try simp only [zb] at h2)<;>first | refine pw ?_ | exact pd
  ·rw [if_pos h2]
  ·rw [if_neg (by omega)]
theorem zhq (x y:Nat):Cn Tryz.prog 213 [.v (.int .i64 x),.v (.int .i64 y)] (.v (.int .i64 (if x<y then -1 else if y<x then 1 else 0))):=by
 refine zt Tryz.func213 2 ?_
 refine pw ?_
 refine .c (zdm x) ?_
 refine .c (zdm y) ?_
 refine .i ?_ ?_<;>intro h1<;>(try simp only [zb] at h1)<;>first | refine pw ?_ | exact pd
 ·rw [if_pos h1]
 ·rw [if_neg (by omega)]
  refine .i ?_ ?_<;>intro h2<;>(try simp only [zb] at h2)<;>first | refine pw ?_ | exact pd
  ·rw [if_pos h2]
  ·rw [if_neg (by omega)]
theorem zkx (r:Nat) (e:En):Cn Tryz.prog 157 [.v (.int .u64 r),ep e] (.v (.int .i64 (if e.rep<r then -1 else if r<e.rep then 1 else 0))):=by
 refine zt Tryz.func157 2 ?_
 refine pw ?_
 exact .d (XQ e.rep r)
theorem zfV (a b:List Nat) (ha:a.length<=1152921504606846976) (hb:b.length<=1152921504606846976):Cn Tryz.prog 199 [ns a,ns b] (.v (.int .i64 (zZ a b))):=by
 refine zt Tryz.func199 2 ?_
 refine pw ?_
 obtain⟨m,e1,h1,h2,h3⟩:∃ m:Nat,(if b.length<a.length then (b.length:Int) else (a.length:Int))=(m:Int)/\m<=a.length/\m<=b.length/\(m=a.length\/m=b.length):=by
  by_cases h:b.length<a.length
  ·exact⟨b.length,if_pos h,by omega,by omega,.inr rfl⟩
  ·exact⟨a.length,if_neg h,by omega,by omega,.inl rfl⟩
 rw [e1]
 refine pLoop.go (fun k=>k<=m/\zZ a b=zZ (a.drop k) (b.drop k)) (fun k=>[(11,.v (.int .i64 (k:Nat)))]) (fun _=>[]) (fun k=>m - k) 0 [11] ?_ ?_ ?_
 ·exact⟨Nat.zero_le _,rfl⟩
 ·exact pd
 ·rintro k ⟨hk,hm⟩
  refine pw ?_
  refine .i ?_ ?_<;>intro h<;>(try simp only [zb] at h)<;>first | refine pw ?_ | exact pd
  ·have ha':k<a.length:=by omega
   have hb':k<b.length:=by omega
   rw [List.drop_eq_getElem_cons ha',List.drop_eq_getElem_cons hb',zZ] at hm
   refine pw ?_
   refine .i ?_ ?_<;>intro h4<;>(try simp only [zb] at h4)<;>first | refine pw ?_ | exact pd
   ·refine .c (XQ a[k] b[k]) ?_
    rw [hm]
    by_cases h5:a[k]<b[k]
    ·rw [if_pos h5,if_pos h5]
    ·rw [if_neg h5,if_neg h5,if_pos (by omega),if_pos (by omega)]
   ·rw [if_neg (by omega),if_neg (by omega)] at hm
    exact⟨k+1,⟨h,hm⟩,by omega,rfl⟩
  ·refine .c (zhq a.length b.length) ?_
   have hx:a.drop k=[]\/b.drop k=[]:=by
    rcases h3 with h3 | h3
    ·exact .inl (List.drop_of_length_le (by omega))
    ·exact .inr (List.drop_of_length_le (by omega))
   have la:(a.drop k).length=a.length - k:=List.length_drop
   have lb:(b.drop k).length=b.length - k:=List.length_drop
   rw [hm]
   generalize a.drop k=x at *
   generalize b.drop k=y at *
   rcases hx with rfl | rfl
   ·cases y with
    | nil=>simp at la lb;rw [if_neg (by omega),if_neg (by omega)];rfl
    | cons c y=>simp at la lb;rw [if_pos (by omega)];rfl
   ·cases x with
    | nil=>simp at la lb;rw [if_neg (by omega),if_neg (by omega)];rfl
    | cons c y=>simp at la lb;rw [if_neg (by omega),if_pos (by omega)];rfl
theorem Ks (a b:List En) (ha:∀ e ∈ a,ZL e) (hb:∀ e ∈ b,ZL e) (la:(zv a).length<=1073741824) (lb:(zv b).length<=1073741824):Cn Tryz.prog 165 [vp a,vp b] (.v (.int .i64 (zZ (zv a) (zv b)))):=by
 refine zt Tryz.func165 2 ?_
 refine pw ?_
 refine .c (Yz a ha la) ?_
 refine .c (Yz b hb lb) ?_
 exact .d (zfV (zv a) (zv b) (by omega) (by omega))
theorem zji (a b:List En) (hl:a.length<=1152921504606846976) (hh:∀ e ∈ a,e.holes.length<=1152921504606846976):Cn Tryz.prog 61 [vp a,vp b] (.v (.bool (decide (a=b)))):=by
 refine zt Tryz.func61 2 ?_
 refine pw ?_
 refine .i ?_ ?_<;>intro h0<;>(try simp only [zb] at h0)<;>first | refine pw ?_ | exact pd
 ·symm
  rw [decide_eq_false_iff_not]
  rintro rfl
  exact h0 rfl
 ·have h0':a.length=b.length:=by simpa using h0
  clear h0
  refine pLoop.go (fun k=>k<=a.length/\(a=b ↔ a.drop k=b.drop k)) (fun k=>[(5,.v (.int .i64 (k:Nat)))]) (fun _=>[]) (fun k=>a.length - k) 0 [5] ?_ ?_ ?_
  ·exact⟨Nat.zero_le _,Iff.rfl⟩
  ·exact pd
  ·rintro k ⟨hk,hm⟩
   refine pw ?_
   refine .i ?_ ?_<;>intro h<;>(try simp only [zb] at h)<;>first | refine pw ?_ | exact pd
   ·have hk':k<b.length:=by omega
    rw [List.drop_eq_getElem_cons h,List.drop_eq_getElem_cons hk',List.cons.injEq] at hm
    refine pw ?_
    refine .c (zjh a[k] b[k] (hh _ (List.getElem_mem h))) ?_
    refine .i ?_ ?_<;>intro e<;>(try simp only [zb] at e)<;>first | refine pw ?_ | exact pd
    ·symm
     rw [decide_eq_false_iff_not]
     intro he
     exact e (hm.1 he).1
    ·refine⟨k+1,⟨h,?_⟩,by omega,rfl⟩
     rw [hm]
     exact⟨fun h=>h.2,fun h=>⟨e,h⟩⟩
   ·rw [eq_comm,decide_eq_true_eq,hm,List.drop_of_length_le (by omega),List.drop_of_length_le (by omega)]
theorem zbB (v:List En) (r:Nat) (hl:v.length<=1152921504606846976):Cn Tryz.prog 134 [vp v,.v (.int .u64 r)] (.v (.int .i64 (fdV r 0 v))):=by
 refine zt Tryz.func134 2 ?_
 refine pw ?_
 refine pLoop.go (fun k=>k<=v.length/\fdV r 0 v=fdV r k (v.drop k)) (fun k=>[(5,.v (.int .i64 (k:Nat)))]) (fun _=>[]) (fun k=>v.length - k) 0 [5] ?_ ?_ ?_
 ·exact⟨Nat.zero_le _,rfl⟩
 ·exact pd
 ·rintro k ⟨hk,hm⟩
  refine pw ?_
  refine .i ?_ ?_<;>intro h<;>(try simp only [zb] at h)<;>first | refine pw ?_ | exact pd
  ·rw [List.drop_eq_getElem_cons h,fdV] at hm
   refine pw ?_
   refine .i ?_ ?_<;>intro h2<;>(try simp only [zb] at h2)<;>first | refine pw ?_ | exact pd
   ·rw [hm,if_pos h2]
   ·rw [if_neg h2] at hm
    exact⟨k+1,⟨h,hm⟩,by omega,rfl⟩
  ·rw [hm,List.drop_of_length_le (by omega)]
   rfl
def kfn:PV:=.cp [.fn (.func 157) [] []] 0
attribute [go_sem] kfn
theorem znQ (e:En) (r:Nat):Cn Tryz.prog 187 [ep e,.v (.int .u64 r),kfn] (.v (.int .i64 (if e.rep<r then -1 else if r<e.rep then 1 else 0))):=by
 refine zt Tryz.func187 3 ?_
 refine pw ?_
 exact .d (zkx r e)
theorem zoR (v:List En) (r:Nat) (i:Nat) (hi:i<=v.length) (h1:∀ j,(h:j<v.length)->j<i->v[j].rep<r) (h2:∀ j,(h:j<v.length)->i<=j->r<=v[j].rep) (hl:v.length<=1152921504606846976) :
 Cn Tryz.prog 186 [vp v,.v (.int .u64 r),.fn (.func 187) [] [kfn]] (.tup [.v (.int .i64 i),.v (.bool (if h:i<v.length then decide (v[i].rep=r) else false))]):=by
 refine zt Tryz.func186 3 ?_
 refine pw ?_
 refine pLoop.go (fun p:Nat × Nat=>p.1<=i/\i<=p.2/\p.2<=v.length) (fun p=>[(9,.v (.int .i64 (p.1:Nat))),(10,.v (.int .i64 (p.2:Nat)))]) (fun _=>[]) (fun p=>p.2 - p.1) (0,v.length) [9,10] ?_ ?_ ?_
 ·exact⟨Nat.zero_le _,hi,Nat.le_refl _⟩
 ·exact pd
 ·rintro⟨p,q⟩ ⟨k1,k2,k3⟩
  simp only at k1 k2 k3
  refine pw ?_
  refine .i ?_ ?_<;>intro h<;>(try simp only [zb] at h)<;>first | refine pw ?_ | exact pd
  ·have hm:(p+q) / 2<v.length:=by omega
   have a1:=h1 _ hm
   have a2:=h2 _ hm
   refine pw ?_
   refine .c (znQ v[(p+q) / 2] r) ?_
   refine .i ?_ ?_<;>intro h4<;>(try simp only [zb] at h4)<;>first | refine pw ?_ | exact pd
   ·refine⟨((p+q) / 2+1,q),⟨?_,k2,k3⟩,by simp only;omega,rfl,rfl⟩
    simp only
    refine Nat.lt_of_not_le fun h5=>?_
    have:=a2 h5
    rw [if_neg (by omega)] at h4
    split at h4<;>omega
   ·refine⟨(p,(p+q) / 2),⟨k1,?_,by simp only;omega⟩,by simp only;omega,rfl,rfl⟩
    simp only
    refine Nat.le_of_not_lt fun h5=>?_
    have:=a1 h5
    rw [if_pos this] at h4
    omega
  ·obtain rfl:p=i:=by omega
   obtain rfl:q=p:=by omega
   refine .i ?_ ?_<;>intro h4<;>(try simp only [zb] at h4)<;>first | refine pw ?_ | exact pd
   ·refine .c (znQ v[q] r) ?_
    have a2:=h2 _ h4 (Nat.le_refl _)
    rw [dif_pos h4,if_neg (by omega)]
    by_cases h5:v[q].rep=r
    ·rw [if_neg (by omega),decide_eq_true h5]
     simp
    ·rw [if_pos (by omega),decide_eq_false h5]
     simp
   ·rw [dif_neg (by omega)]
theorem zoK (v:List En) (r:Nat) (hr:RightV v) (hl:v.length<=1152921504606846976):Cn Tryz.prog 154 [vp v,.v (.int .u64 r)] (.v (.int .i64 (fdV r 0 v))):=by
 obtain⟨i,hi,h1,h2⟩:=zoo hr r
 rw [zoj hr h1 h2]
 refine zt Tryz.func154 2 ?_
 refine pw ?_
 refine .c (zoR v r i hi h1 h2 hl) ?_
 by_cases h:i<v.length
 ·rw [dif_pos h,dif_pos h]
  refine .i ?_ ?_<;>intro h3<;>(try simp only [zb] at h3)<;>first | refine pw ?_ | exact pd
  ·rw [if_neg h3]
  ·rw [if_pos h3]
 ·rw [dif_neg h,dif_neg h]
  exact pd
theorem zo6 (v:List En) (r c:Nat) (hr:RightV v) (hc:c<M64) (hl:v.length<=1152921504606846976) (hh:∀ e ∈ v,e.holes.length<=1152921504606846976):Cn Tryz.prog 102 [vp v,.v (.int .u64 r),.v (.int .u64 c)] (.v (.bool (mem (zT v r) c))):=by
 refine zt Tryz.func102 3 ?_
 refine pw ?_
 refine .rd (zoK v r hr hl) rfl ?_
 rcases X2 r v 0 with⟨e1,e2⟩ | ⟨i,hi,e1,e2⟩
 ·rw [e1,qC e2]
  refine pw ?_
  rfl
 ·rw [e1,zh8 hr hi e2,vC (hr.1 _ (List.getElem_mem hi)) hc,Nat.zero_add]
  refine pw ?_
  exact .d (zoS v[i] c (hr.1 _ (List.getElem_mem hi)) (hh _ (List.getElem_mem hi)))
theorem zl8 (v:List En) (r c:Nat) (hr:RightV v) (hc:c<M64) (hl:v.length<=1152921504606846976) (hh:∀ e ∈ v,e.holes.length<=1152921504606846976):Cn Tryz.prog 90 [vp v,.v (.int .u64 r),.v (.int .u64 c)] (.v (.bool (mem (zT v r) c))):=by
 refine zt Tryz.func90 3 ?_
 refine pw ?_
 refine .rd (zbB v r hl) rfl ?_
 rcases X2 r v 0 with⟨e1,e2⟩ | ⟨i,hi,e1,e2⟩
 ·rw [e1,qC e2]
  refine pw ?_
  rfl
 ·rw [e1,zh8 hr hi e2,vC (hr.1 _ (List.getElem_mem hi)) hc,Nat.zero_add]
  refine pw ?_
  exact .d (znN v[i] c (hh _ (List.getElem_mem hi)))
theorem Kb (v:List En) (hb:∀ e ∈ v,ZL e) (hl:v.length<=9223372036854775807) (hh:∀ e ∈ v,e.holes.length<=9223372036854775807):Cn Tryz.prog 92 [vp v] (.tup [.v (.int .i64 (jx v).1),.v (.int .i64 (jx v).2)]):=by
 refine zt Tryz.func92 1 ?_
 refine pw ?_
 refine pLoop.go (fun k=>k<=v.length/\jx v=hkV v k (v.drop k)) (fun k=>[(4,.v (.int .i64 (k:Nat)))]) (fun _=>[]) (fun k=>v.length - k) 0 [4] ?_ ?_ ?_
 ·exact⟨Nat.zero_le _,rfl⟩
 ·exact pd
 ·rintro k ⟨hk,hm⟩
  refine pw ?_
  refine .i ?_ ?_<;>intro h<;>(try simp only [zb] at h)<;>first | refine pw ?_ | exact pd
  ·rw [List.drop_eq_getElem_cons h,hkV] at hm
   refine pw ?_
   refine .c (zcj v[k] (hh _ (List.getElem_mem h)) (hb _ (List.getElem_mem h)).1) ?_
   refine .i ?_ ?_<;>intro h2<;>(try simp only [zb] at h2)<;>first | refine pw ?_ | exact pd
   ·rw [if_pos (by omega)] at hm
    rw [hm]
   ·rw [if_neg (by omega)] at hm
    refine .i ?_ ?_<;>intro h3<;>(try simp only [zb] at h3)<;>first | refine pw ?_ | exact pd
    ·have hp:=Xl (v:=v) (k:=k) (by omega)
     rw [hp] at hm
     refine pw ?_
     refine .i ?_ ?_<;>intro h4<;>(try simp only [zb] at h4)<;>first | refine pw ?_ | exact pd
     ·rw [if_pos ⟨h3,h4⟩] at hm
      rw [hm]
      rfl
     ·rw [if_neg (fun h=>by omega)] at hm
      exact⟨k+1,⟨h,hm⟩,by omega,rfl⟩
    ·rw [if_neg (fun h=>by omega)] at hm
     exact⟨k+1,⟨h,hm⟩,by omega,rfl⟩
  ·rw [hm,List.drop_of_length_le (by omega)]
   rfl
theorem zes (v:List En) (hb:∀ e ∈ v,ZL e) (hl:v.length<=1152921504606846976) (hh:∀ e ∈ v,e.holes.length<=1152921504606846976):Cn Tryz.prog 105 [vp v] (jS (jx v).1 (jx v).2):=by
 refine zt Tryz.func105 1 ?_
 refine pw ?_
 refine pLoop.go (fun k=>k<=v.length/\jx v=hkV v k (v.drop k)) (fun k=>[(8,.v (.int .i64 (k:Nat)))]) (fun _=>[]) (fun k=>v.length - k) 0 [8] ?_ ?_ ?_
 ·exact⟨Nat.zero_le _,rfl⟩
 ·exact pd
 ·rintro k ⟨hk,hm⟩
  refine pw ?_
  refine .i ?_ ?_<;>intro h<;>(try simp only [zb] at h)<;>first | refine pw ?_ | exact pd
  ·rw [List.drop_eq_getElem_cons h,hkV] at hm
   have hbk:=hb _ (List.getElem_mem h)
   have hhk:=hh _ (List.getElem_mem h)
   have hco:=Ju (yV v[k]).1 (yV v[k]).2
   refine pw ?_
   refine .rd (zcJ v[k] hbk.1 hhk (.inr (KL 2))) rfl ?_
   by_cases hz:(yV v[k]).1=0
   ·rw [yk hz]
    rw [if_neg (by omega)] at hm
    refine pw ?_
    refine .i ?_ ?_<;>intro h3<;>(try simp only [zb] at h3)<;>first | refine pw ?_ | exact pd
    ·have hp:=Xl (v:=v) (k:=k) (by omega)
     rw [hp] at hm
     refine pw ?_
     refine .c (zkx v[k - 1].rep v[k]) ?_
     refine .i ?_ ?_<;>intro h4<;>(try simp only [zb] at h4)<;>first | refine pw ?_ | exact pd
     ·have h5:v[k].rep<=v[k - 1].rep:=by split at h4<;>(try split at h4)<;>omega
      rw [if_pos ⟨h3,h5⟩] at hm
      rw [hm]
      refine .c (jT 3 k) ?_
      exact ym _ _
     ·have h5:¬ v[k].rep<=v[k - 1].rep:=by split at h4<;>(try split at h4)<;>omega
      rw [if_neg (fun h=>by omega)] at hm
      exact⟨k+1,⟨h,hm⟩,by omega,rfl⟩
    ·rw [if_neg (fun h=>by omega)] at hm
     exact⟨k+1,⟨h,hm⟩,by omega,rfl⟩
   ·rw [if_pos hz] at hm
    rw [hm]
    rw [vu hz] at hco ⊢
    refine pw ?_
    (first | refine .c (hco) ?_ | refine .o (hco) ?_)
    refine .c (jT (yV v[k]).1 k) ?_
    exact ym _ _
  ·rw [hm,List.drop_of_length_le (by omega)]
   exact .eq _ rfl
theorem yY {v:List En} {k:Nat} (h:k<v.length):zi (v.take (k+1))=if (kP v[k]).2 then zi (v.take k)++[(kP v[k]).1] else zi (v.take k):=by
 unfold zi
 rw [List.take_succ_eq_append_getElem h,List.filterMap_append]
 simp only [List.filterMap_cons,List.filterMap_nil,QX]
 split
 ·rename_i h1;split at h1
  ·cases h1
  ·rename_i h2;rw [if_neg h2,List.append_nil]
 ·rename_i h1;split at h1
  ·rename_i h2;cases h1;rw [if_pos h2]
  ·cases h1
theorem ZU (v:List En) (k:Nat):(zi (v.take k)).length<=k:=by
 have:=List.length_filterMap_le QX (v.take k)
 have h2:(v.take k).length<=k:=List.length_take_le _ _
 unfold zi
 omega
theorem zer (v:List En) (hr:RightV v) (hl:v.length<=1048576) (hh:∀ e ∈ v,e.holes.length<=10000):Cn Tryz.prog 118 [vp v] (vp (zi v)):=by
 refine zt Tryz.func118 1 ?_
 refine pw ?_
 refine pLoop.go (fun k=>k<=v.length) (fun k=>[(3,.sl ((zi (v.take k)).map ec) (.r 23 3)),(10,.v (.int .i64 (k:Nat)))]) (fun _=>[]) (fun k=>v.length - k) 0 [3,10] ?_ ?_ ?_
 ·exact Nat.zero_le _
 ·refine pw ?_
  rfl
 ·rintro k hk
  have hlen:=ZU v k
  refine pw ?_
  refine .i ?_ ?_<;>intro h<;>(try simp only [zb] at h)<;>first | refine pw ?_ | exact pd
  ·refine .c (zeP v[k] (hr.1 _ (List.getElem_mem h)) (hh _ (List.getElem_mem h))) ?_
   refine .i ?_ ?_<;>intro h2<;>(try simp only [zb] at h2)<;>first | refine pw ?_ | exact pd
   ·refine⟨k+1,h,by omega,?_,rfl⟩
    rw [yY h,if_pos h2]
    simp
    rfl
   ·refine⟨k+1,h,by omega,?_,rfl⟩
    rw [yY h,if_neg (by simpa using h2)]
  ·rw [List.take_of_length_le (by omega)]
theorem CanV.bd {v:List En} (h:CanV v):∀ e ∈ v,ZL e:=fun e he=>Jg (h.1 e he).1
structure Fg where
 items:List Iv
 vec:List En
deriving DecidableEq
instance : Inhabited Fg:=⟨⟨[],[]⟩⟩
theorem Fg.ext' {f g:Fg} (h1:f.items=g.items) (h2:f.vec=g.vec):f=g:=by cases f;cases g;simp_all
def fc (f:Fg):List PV:=[rg f.items,vp f.vec]
def fp (f:Fg):PV:=.agg (fc f)
def kp (k:List Fg):PV:=.sl (k.map fc) .sh
attribute [go_sem] kp fp fc
def ZS (f:Fg):Prop:=Nrm f.items/\RightV f.vec
def RightK (k:List Fg):Prop:=∀ f ∈ k,ZS f
def BdF (f:Fg):Prop:=BdR f.items/\(∀ e ∈ f.vec,ZL e)/\f.items.length<=9223372036854775807/\f.vec.length<=9223372036854775807
def BdK (k:List Fg):Prop:=(∀ f ∈ k,BdF f)/\k.length<=9223372036854775807
def HlK (k:List Fg):Prop:=∀ f ∈ k,∀ e ∈ f.vec,e.holes.length<=9223372036854775807
def vx (k:List Fg):Bool:=k.all (fun f=>decide (f.items.length<=20) && JF f.vec) && decide (k.length<=12)
theorem Z3 {k:List Fg}:vx k=true ↔ (∀ f ∈ k,f.items.length<=20/\JF f.vec=true)/\k.length<=12:=by simp [vx]
def hkK:Nat->List Fg->Nat × Int
 | _,[]=>(0,-1)
 | i,f::r=>if (Zl f.items).1≠0 then ((Zl f.items).1,(i:Int)) else if (jx f.vec).1≠0 then ((jx f.vec).1,(i:Int)) else hkK (i+1) r
def ckK (k:List Fg):Nat × Int:=hkK 0 k
theorem Vd:∀(i:Nat) (k:List Fg),(hkK i k).1=0 ↔ ∀ f ∈ k,(Zl f.items).1=0/\(jx f.vec).1=0
 | _,[]=>by simp [hkK]
 | i,f::r=>by
   have ih:=Vd (i+1) r
   unfold hkK
   by_cases h1:(Zl f.items).1≠0
   ·rw [if_pos h1]
    exact⟨fun h=>absurd h h1,fun h=>(h f (by simp)).1⟩
   ·rw [if_neg h1]
    by_cases h2:(jx f.vec).1≠0
    ·rw [if_pos h2]
     exact⟨fun h=>absurd h h2,fun h=>(h f (by simp)).2⟩
    ·rw [if_neg h2,ih]
     constructor
     ·intro h g hg
      rcases List.mem_cons.1 hg with rfl | hg
      ·exact⟨by omega,by omega⟩
      ·exact h g hg
     ·intro h g hg
      exact h g (by simp [hg])
theorem ZN {k:List Fg} (hb:BdK k):(ckK k).1=0 ↔ RightK k:=by
 unfold ckK
 rw [Vd]
 constructor
 ·intro h f hf
  obtain⟨h1,h2⟩:=h f hf
  have hbf:=hb.1 f hf
  exact⟨(YT fun s hs=>(hbf.1 s hs).2).1 h1,(XP hbf.2.1).1 h2⟩
 ·intro h f hf
  have hbf:=hb.1 f hf
  exact⟨(YT fun s hs=>(hbf.1 s hs).2).2 (h f hf).1,(XP hbf.2.1).2 (h f hf).2⟩
def qd (i:Nat):Nat->List Fg->List (Nat × Fg)
 | _,[]=>[]
 | n,f::r=>if mem f.items i=true then (n,f)::qd i (n+1) r else qd i (n+1) r
theorem QR (i:Nat) (f:Fg):∀(n:Nat) (l:List Fg),qd i n (l++[f])=qd i n l++(if mem f.items i=true then [(n+l.length,f)] else [])
 | n,[]=>by simp [qd]
 | n,g::l=>by
   have ih:=QR i f (n+1) l
   have e:n+1+l.length=n+(l.length+1):=by omega
   rw [List.cons_append,qd,qd,ih,List.length_cons,e]
   split<;>simp
theorem j9 {k:List Fg} {j:Nat} (i:Nat) (h:j<k.length):qd i 0 (k.take (j+1))=qd i 0 (k.take j)++(if mem k[j].items i=true then [(j,k[j])] else []):=by
 rw [List.take_succ_eq_append_getElem h,QR,List.length_take,Nat.min_eq_left (by omega),Nat.zero_add]
theorem jv {i:Nat} {p:Nat × Fg}:∀ {n:Nat} {l:List Fg},p ∈ qd i n l->p.2 ∈ l/\mem p.2.items i=true/\n<=p.1/\p.1<n+l.length
 | n,[],h=>by cases h
 | n,f::l,h=>by
   unfold qd at h
   split at h
   ·rename_i hf
    rcases List.mem_cons.1 h with rfl | h
    ·exact⟨by simp,hf,Nat.le_refl _,by simp⟩
    ·obtain⟨h1,h2,h3,h4⟩:=jv h
     exact⟨by simp [h1],h2,by omega,by simp;omega⟩
   ·obtain⟨h1,h2,h3,h4⟩:=jv h
    exact⟨by simp [h1],h2,by omega,by simp;omega⟩
theorem Zg (i:Nat):∀(n:Nat) (l:List Fg),(qd i n l).length<=l.length
 | _,[]=>Nat.le_refl _
 | n,f::l=>by
   have:=Zg i (n+1) l
   unfold qd
   split<;>simp<;>omega
theorem YL {i:Nat} {q:Fg->Bool}:∀(n:Nat) (l:List Fg),(qd i n l).any (fun p=>q p.2)=l.any fun f=>mem f.items i && q f
 | _,[]=>rfl
 | n,f::l=>by
   have ih:=YL (i:=i) (q:=q) (n+1) l
   unfold qd
   rw [List.any_cons,<-ih]
   cases h:mem f.items i<;>simp
def zU (k:List Fg) (i:Nat):List Nat:=(qd i 0 k).map Prod.fst
theorem JX {k:List Fg} {j:Nat} (i:Nat) (h:j<k.length):zU (k.take (j+1)) i=zU (k.take j) i++(if mem k[j].items i=true then [j] else []):=by
 unfold zU
 rw [j9 i h,List.map_append]
 split<;>rfl
theorem zbk (k:List Fg) (i:Nat):(zU k i).length<=k.length:=by
 unfold zU
 rw [List.length_map]
 exact Zg _ _ _
def hasK (k:List Fg) (i r c:Nat):Bool:=k.any fun f=>mem f.items i && mem (zT f.vec r) c
theorem jh (k:List Fg) (i r c:Nat):(qd i 0 k).any (fun p=>mem (zT p.2.vec r) c)=hasK k i r c:=YL (q:=fun f=>mem (zT f.vec r) c) 0 k
noncomputable def qc (k:List Fg) (i:Nat):List En:=(qd i 0 k).foldl (fun o p=>ks zn o p.2.vec) []
theorem zbT (i:Nat):qc [] i=[]:=rfl
theorem Ku {k:List Fg} {j:Nat} (i:Nat) (h:j<k.length):qc (k.take (j+1)) i=if mem k[j].items i=true then ks zn (qc (k.take j) i) k[j].vec else qc (k.take j) i:=by
 unfold qc
 rw [j9 i h,List.foldl_append]
 split<;>rfl
def JM (k:List Fg):List Iv:=k.foldl (fun o f=>qy zn o f.items) []
theorem RightK.take {k:List Fg} (h:RightK k) (j:Nat):RightK (k.take j):=fun f hf=>h f (List.mem_of_mem_take hf)
def CK (k:List Fg) (r:Nat):List Nat:=k.flatMap fun f=>z6 (zT f.vec r)
def RK (k:List Fg):List Nat:=k.flatMap fun f=>zM f.vec
def CI (k:List Fg):List Nat:=k.flatMap fun f=>z6 f.items
theorem IV.frag {k:List Fg} (h:RightK k) {f:Fg} (hf:f ∈ k):IV (CK k) (RK k) f.vec:=
 (IV.of (h f hf).2).mono (fun r x hx=>List.mem_flatMap.2 ⟨f,hf,hx⟩) fun x hx=>List.mem_flatMap.2 ⟨f,hf,hx⟩
def IK (C:Nat->List Nat) (R:List Nat) (k:List Fg):Prop:=∀ f ∈ k,IV C R f.vec
theorem RightK.ik {k:List Fg} (h:RightK k):IK (CK k) (RK k) k:=fun f hf=>IV.frag h hf
theorem IK.take {C:Nat->List Nat} {R:List Nat} {k:List Fg} (h:IK C R k) (j:Nat):IK C R (k.take j):=fun f hf=>h f (List.mem_of_mem_take hf)
theorem zgT {C:Nat->List Nat} {R:List Nat}:∀(l:List (Nat × Fg)) (o:List En),(∀ p ∈ l,IV C R p.2.vec)->WV C R o->WV C R (l.foldl (fun o p=>ks zn o p.2.vec) o) /\
 ∀ r c,c<M64->mem (zT (l.foldl (fun o p=>ks zn o p.2.vec) o) r) c=(mem (zT o r) c || l.any fun p=>mem (zT p.2.vec r) c)
 | [],o,_,ho=>⟨ho,fun r c _=>by simp⟩
 | p::l,o,hl,ho=>by
   have hp:=hl p (by simp)
   obtain⟨h1,h2⟩:=zgT l (ks zn o p.2.vec) (fun q hq=>hl q (by simp [hq])) (ho.iv.lat fU0 hp)
   refine⟨h1,fun r c hc=>?_⟩
   rw [List.foldl_cons,h2 r c hc,JR fU0 ho.can.right hp.right,qj (qi ho.can.right r) (qi hp.right r) hc,List.any_cons]
   simp only [zn,Bool.or_assoc]
theorem IK.at {C:Nat->List Nat} {R:List Nat} {k:List Fg} (h:IK C R k) (i:Nat):WV C R (qc k i)/\∀ r c,c<M64->mem (zT (qc k i) r) c=hasK k i r c:=by
 obtain⟨h1,h2⟩:=zgT (qd i 0 k) [] (fun p hp=>h _ (jv hp).1) WV.nil
 refine⟨h1,fun r c hc=>?_⟩
 rw [<-jh]
 have:=h2 r c hc
 rw [kr,Xf,Bool.false_or] at this
 exact this
theorem Zp:∀(l:List Fg) (o:List Iv),Nrm o->(∀ f ∈ l,Nrm f.items)->Nrm (l.foldl (fun o f=>qy zn o f.items) o) /\
 (∀ x,x<M64->mem (l.foldl (fun o f=>qy zn o f.items) o) x=(mem o x || l.any fun f=>mem f.items x))/\∀ x,Ed (l.foldl (fun o f=>qy zn o f.items) o) x->Ed o x\/x ∈ CI l
 | [],o,ho,_=>⟨ho,fun x _=>by simp,fun x h=>.inl h⟩
 | f::l,o,ho,hl=>by
   have hf:=hl f (by simp)
   obtain⟨h1,h2,h3⟩:=Zp l (qy zn o f.items) (qH ho hf) fun g hg=>hl g (by simp [hg])
   refine⟨h1,fun x hx=>?_,fun x hx=>?_⟩
   ·rw [List.foldl_cons,h2 x hx,qj ho hf hx,List.any_cons]
    simp only [zn,Bool.or_assoc]
   ·rcases h3 x hx with h | h
    ·rcases zcM fU0 ho hf h with h | h
     ·exact .inl h
     ·exact .inr (List.mem_flatMap.2 ⟨f,by simp,Y3 hf.ivs2 h⟩)
    ·obtain⟨g,hg,h⟩:=List.mem_flatMap.1 h
     exact .inr (List.mem_flatMap.2 ⟨g,by simp [hg],h⟩)
theorem RightK.items {k:List Fg} (h:RightK k):Nrm (JM k)/\(∀ x,x<M64->mem (JM k) x=k.any fun f=>mem f.items x)/\(JM k).length<=(CI k).length:=by
 obtain⟨h1,h2,h3⟩:=Zp k [] trivial fun f hf=>(h f hf).1
 refine⟨h1,fun x hx=>?_,zcK h1 fun x hx=>?_⟩
 ·have:=h2 x hx
  rw [Xf,Bool.false_or] at this
  exact this
 ·exact(h3 x hx).resolve_left zcL
theorem qL {α β:Type} {g:α->List β} {n:Nat}:∀ {l:List α},(∀ x ∈ l,(g x).length<=n)->(l.flatMap g).length<=l.length * n
 | [],_=>by simp
 | x::l,h=>by
   have:=qL (l:=l) fun y hy=>h y (by simp [hy])
   have h1:=h x (by simp)
   rw [List.flatMap_cons,List.length_append,List.length_cons,Nat.add_mul,Nat.one_mul]
   omega
theorem X4 {k:List Fg} (h:vx k=true) (hr:RightK k):(∀ r,(CK k r).length<=1512)/\(RK k).length<=240/\(CI k).length<=480:=by
 obtain⟨h1,h2⟩:=Z3.1 h
 have hk:∀ n,k.length * n<=12 * n:=fun n=>Nat.mul_le_mul_right n h2
 refine⟨fun r=>?_,?_,?_⟩
 ·refine Nat.le_trans (qL (n:=126) fun f hf=>?_) (hk 126)
  have:=vw.1 (h1 f hf).2
  have l1:=vq (zT f.vec r)
  have l2:=ji (n:=20) (h:=30) ⟨(hr f hf).2,this.2,this.1⟩ r
  omega
 ·refine Nat.le_trans (qL (n:=20) fun f hf=>?_) (hk 20)
  have:=vw.1 (h1 f hf).2
  simp only [zM,List.length_map]
  omega
 ·refine Nat.le_trans (qL (n:=40) fun f hf=>?_) (hk 40)
  have l1:=vq f.items
  have:=(h1 f hf).1
  omega
def OkC (C:Nat->List Nat) (R:List Nat):Prop:=(∀ r,(C r).length<=9000)/\R.length<=1048576
def qX (k:List Fg) (x y:Nat):Bool:=k.all fun f=>mem f.items x == mem f.items y
theorem qo {k:List Fg} {x y:Nat}:qX k x y=true ↔ ∀ f ∈ k,mem f.items x=mem f.items y:=by simp [qX]
theorem j8 {x y:Nat}:∀ {k:List Fg} {n:Nat},(∀ f ∈ k,mem f.items x=mem f.items y)->qd x n k=qd y n k
 | [],_,_=>rfl
 | f::k,n,h=>by
   rw [qd,qd,j8 (k:=k) fun g hg=>h g (by simp [hg]),h f (by simp)]
theorem Zh {x y:Nat}:∀ {k:List Fg} {n:Nat},(qd x n k).map Prod.fst=(qd y n k).map Prod.fst->∀ f ∈ k,mem f.items x=mem f.items y
 | [],_,_,f,hf=>by cases hf
 | g::k,n,h,f,hf=>by
   have no:∀ z,n ∉ (qd z (n+1) k).map Prod.fst:=fun z hz=>by
    obtain⟨p,hp,e⟩:=List.mem_map.1 hz
    have:=(jv hp).2.2.1
    omega
   rw [qd,qd] at h
   cases hx:mem g.items x<;>cases hy:mem g.items y<;>rw [hx,hy] at h<;>simp only [if_true,if_false,Bool.false_eq_true,List.map_cons] at h
   ·rcases List.mem_cons.1 hf with rfl | hf
    ·rw [hx,hy]
    ·exact Zh h f hf
   ·exact absurd (h ▸ List.mem_cons_self) (no x)
   ·exact absurd (h ▸ List.mem_cons_self) (no y)
   ·rcases List.mem_cons.1 hf with rfl | hf
    ·rw [hx,hy]
    ·exact Zh (List.cons.inj h).2 f hf
theorem Vp {k:List Fg} {x y:Nat}:zU k x=zU k y ↔ qX k x y=true:=by
 rw [qo]
 exact⟨fun h=>Zh h,fun h=>by unfold zU;rw [j8 h]⟩
theorem Yt {k:List Fg} {x y:Nat} (h:qX k x y=true) (r c:Nat):hasK k x r c=hasK k y r c:=by rw [<-jh,<-jh,j8 (qo.1 h)]
theorem km {k:List Fg} {i r c:Nat}:hasK k i r c=true ↔ ∃ f ∈ k,mem f.items i=true/\mem (zT f.vec r) c=true:=by simp [hasK]
noncomputable def zq (k:List Fg):List Nat:=(zH (k.map Fg.items)).filter fun x=>decide (x=0) || !qX k (x - 1) x
theorem xc (k:List Fg):YN (zq k):=(x8 _).filter _
theorem vZ {k:List Fg} (h:RightK k) {x:Nat}:x ∈ zq k ↔ x<M64/\(x=0\/qX k (x - 1) x=false):=by
 unfold zq
 rw [List.mem_filter]
 constructor
 ·rintro⟨h1,h2⟩
  refine⟨Ze (fun l hl s hs=>?_) x h1,by simpa using h2⟩
  obtain⟨f,hf,rfl⟩:=List.mem_map.1 hl
  have:=NF.lo_ge (h f hf).1 s hs
  omega
 ·rintro⟨h1,h2⟩
  refine⟨?_,by simpa using h2⟩
  unfold zH
  rw [qr]
  unfold yU
  rcases Nat.eq_zero_or_pos x with h0 | h0
  ·simp [h0]
  ·have h3:=h2.resolve_left (by omega)
   refine List.mem_cons.2 (.inr ?_)
   have:∃ f ∈ k,mem f.items (x - 1)≠mem f.items x:=Classical.byContradiction fun hn=>by
    have:qX k (x - 1) x=true:=qo.2 fun f hf=>Classical.byContradiction fun he=>hn ⟨f,hf,he⟩
    rw [h3] at this
    cases this
   obtain⟨f,hf,hne⟩:=this
   exact List.mem_flatMap.2 ⟨f.items,List.mem_map.2 ⟨f,hf,rfl⟩,Y3 (h f hf).1.ivs2 ⟨h1,by rw [if_neg (by omega)];exact fun e=>hne e.symm⟩⟩
theorem XC {k:List Fg} (h:RightK k):0 ∈ zq k:=(vZ h).2 ⟨xM,.inl rfl⟩
theorem vY (k:List Fg):(zq k).length<=1+(CI k).length:=by
 have h1:(zq k).length<=(zH (k.map Fg.items)).length:=List.length_filter_le _ _
 have h2:(zH (k.map Fg.items)).length<=(yU (k.map Fg.items)).length:=ju _
 have h3:(yU (k.map Fg.items)).length=1+(CI k).length:=by
  unfold yU CI
  rw [List.length_cons,List.flatMap_map]
  omega
 omega
def vN:List Nat->List Iv
 | []=>[]
 | [x]=>[⟨x,M64 - 1⟩]
 | x::y::r=>⟨x,y - 1⟩::vN (y::r)
theorem vO:∀ l:List Nat,(vN l).length=l.length
 | []=>rfl
 | [_]=>rfl
 | x::y::r=>by rw [vN,List.length_cons,vO (y::r)];rfl
theorem Vx:∀(l:List Nat) (i:Nat) (h:i<l.length),(vN l)[i]'(by rw [vO];exact h)=⟨l[i],if h:i+1<l.length then l[i+1] - 1 else M64 - 1⟩
 | [x],0,_=>by simp [vN]
 | x::y::r,0,_=>by simp [vN]
 | x::y::r,i+1,h=>by
   have:=Vx (y::r) i (by simpa using h)
   simp only [vN,List.getElem_cons_succ]
   rw [this]
   simp
theorem YD:∀ {l:List Nat},YN l->(∀ x ∈ l,x<M64)->(∀ s ∈ vN l,s.lo<=s.hi/\s.hi<M64/\s.lo ∈ l)/\(vN l).Pairwise (fun s t=>s.hi<t.lo)/\(∀ s ∈ vN l,∀ y ∈ l,s.lo<y->s.hi<y)/\∀ i x r,l=x::r->x<=i->i<M64->∃ s ∈ vN l,s.lo<=i/\i<=s.hi
 | [],_,_=>⟨fun s h=>(by cases h),List.Pairwise.nil,fun s h=>(by cases h),fun i x r h=>by cases h⟩
 | [x],_,hl=>by
   have hx:=hl x (by simp)
   refine⟨fun s h=>?_,by simp [vN],fun s h y hy hlt=>?_,fun i y r h h1 h2=>?_⟩
   ·simp only [vN,List.mem_singleton] at h
    subst h
    exact⟨by simp only;omega,by simp only;omega,by simp⟩
   ·simp only [vN,List.mem_singleton] at h hy
    subst h hy
    simp at hlt
   ·cases h
    exact⟨⟨x,M64 - 1⟩,by simp [vN],h1,by simp only;omega⟩
 | x::y::r,ha,hl=>by
   have hp:=List.pairwise_cons.1 ha
   have hxy:=hp.1 y (by simp)
   have hy:=hl y (by simp)
   obtain⟨h1,h2,h3,h4⟩:=YD hp.2 fun z hz=>hl z (by simp [hz])
   have hge:∀ z ∈ y::r,y<=z:=fun z hz=>by
    rcases List.mem_cons.1 hz with rfl | hz
    ·exact Nat.le_refl _
    ·exact Nat.le_of_lt ((List.pairwise_cons.1 hp.2).1 z hz)
   rw [vN]
   refine⟨fun s h=>?_,List.pairwise_cons.2 ⟨fun t ht=>?_,h2⟩,fun s h z hz hlt=>?_,fun i x' r' h k1 k2=>?_⟩
   ·rcases List.mem_cons.1 h with rfl | h
    ·exact⟨by simp only;omega,by simp only;omega,by simp⟩
    ·obtain⟨q1,q2,q3⟩:=h1 s h
     exact⟨q1,q2,by rw [List.mem_cons];exact .inr q3⟩
   ·have:=hge _ (h1 t ht).2.2
    simp only;omega
   ·rcases List.mem_cons.1 h with e | hs'
    ·subst e
     rcases List.mem_cons.1 hz with e | hz
     ·subst e;simp at hlt
     ·have:=hge z hz
      simp only;omega
    ·rcases List.mem_cons.1 hz with e | hz
     ·subst e
      have:=hge _ (h1 s hs').2.2
      omega
     ·exact h3 s hs' z hz hlt
   ·cases h
    rcases Nat.lt_or_ge i y with hi | hi
    ·exact⟨⟨x,y - 1⟩,by simp,k1,by simp only;omega⟩
    ·obtain⟨s,hs,q⟩:=h4 i y r rfl hi k2
     exact⟨s,by simp [hs],q⟩
noncomputable def y4 (k:List Fg):List Iv:=vN (zq k)
noncomputable def zu (k:List Fg):List Iv:=(y4 k).filter fun s=>decide (0<(zU k s.lo).length)
section
variable {k:List Fg} (h:RightK k)
include h
theorem x7:∀ x ∈ zq k,x<M64:=fun x hx=>((vZ h).1 hx).1
theorem xO:(∀ s ∈ y4 k,s.lo<=s.hi/\s.hi<M64/\s.lo ∈ zq k)/\(y4 k).Pairwise (fun s t=>s.hi<t.lo)/\(∀ s ∈ y4 k,∀ y ∈ zq k,s.lo<y->s.hi<y)/\∀ i,i<M64->∃ s ∈ y4 k,s.lo<=i/\i<=s.hi:=by
 obtain⟨h1,h2,h3,h4⟩:=YD (xc k) (x7 h)
 refine⟨h1,h2,h3,fun i hi=>?_⟩
 have h0:=XC h
 cases hs:zq k with
 | nil=>rw [hs] at h0;cases h0
 | cons x r=>
   have:x=0:=by
    rw [hs] at h0
    rcases List.mem_cons.1 h0 with e | e
    ·exact e.symm
    ·have ha:=xc k
     rw [hs] at ha
     have:=(List.pairwise_cons.1 ha).1 0 e
     omega
   exact h4 i x r hs (by omega) hi
theorem jR {s:Iv} (hs:s ∈ y4 k):∀ {x:Nat},s.lo<=x->x<=s.hi->qX k s.lo x=true:=by
 obtain⟨h1,_,h3,_⟩:=xO h
 intro x
 induction x with
 | zero=>intro hlo _;rw [show s.lo=0 by omega];exact qo.2 fun f _=>rfl
 | succ x ih=>
   intro hlo hhi
   rcases Nat.eq_or_lt_of_le hlo with e | hlt
   ·rw [e];exact qo.2 fun f _=>rfl
   ·have h5:=ih (by omega) (by omega)
    have h6:qX k x (x+1)=true:=by
     cases h7:qX k x (x+1) with
     | true=>rfl
     | false=>
       have:=h3 s hs (x+1) ((vZ h).2 ⟨by have:=(h1 s hs).2.1;omega,.inr (by rw [Nat.add_sub_cancel];exact h7)⟩) hlt
       omega
    exact qo.2 fun f hf=>(qo.1 h5 f hf).trans (qo.1 h6 f hf)
theorem Xj {i:Nat} (hi:i<M64) (hm:0<(zU k i).length):∃ s ∈ zu k,s.lo<=i/\i<=s.hi:=by
 obtain⟨s,hs,h1,h2⟩:=(xO h).2.2.2 i hi
 refine⟨s,List.mem_filter.2 ⟨hs,?_⟩,h1,h2⟩
 rw [decide_eq_true_eq,Vp.2 (jR h hs h1 h2)]
 exact hm
theorem yt:(∀ s ∈ zu k,s.lo<=s.hi/\s.hi<M64/\s ∈ y4 k/\0<(zU k s.lo).length)/\(zu k).Pairwise (fun s t=>s.hi<t.lo):=by
 refine⟨fun s hs=>?_,(xO h).2.1.filter _⟩
 obtain⟨h1,h2⟩:=List.mem_filter.1 hs
 obtain⟨q1,q2,_⟩:=(xO h).1 s h1
 exact⟨q1,q2,h1,by simpa using h2⟩
end
theorem xW (k:List Fg):(zu k).length<=1+(CI k).length:=by
 have h1:(zu k).length<=(y4 k).length:=List.length_filter_le _ _
 have h2:(y4 k).length=(zq k).length:=vO _
 have:=vY k
 omega
noncomputable def jq (k:List Fg):List Fg:=(zu k).map fun s=>⟨[s],qc k s.lo⟩
theorem ZB {k:List Fg} {f:Fg} (hf:f ∈ jq k):∃ s ∈ zu k,f=⟨[s],qc k s.lo⟩:=by
 obtain⟨s,hs,e⟩:=List.mem_map.1 hf
 exact⟨s,hs,e.symm⟩
theorem zfJ {s:Iv} {x:Nat}:mem [s] x=true ↔ s.lo<=x/\x<=s.hi:=by simp [mem]
def xh (k:List Fg):Prop:=k.Pairwise fun f g=>∀ x,x<M64->¬(mem f.items x=true/\mem g.items x=true)
theorem IK.refine {C:Nat->List Nat} {R:List Nat} {k:List Fg} (hk:IK C R k):∀ f ∈ jq k,WV C R f.vec:=fun f hf=>by
 obtain⟨s,_,rfl⟩:=ZB hf
 exact(hk.at s.lo).1
theorem Yb {k:List Fg} (h:RightK k):RightK (jq k):=fun f hf=>by
 obtain⟨s,hs,rfl⟩:=ZB hf
 obtain⟨h1,h2,_⟩:=(yt h).1 s hs
 exact⟨qG h1 h2,(h.ik.at s.lo).1.can.right⟩
theorem zeD {k:List Fg} (h:RightK k):xh (jq k):=by
 unfold xh jq
 rw [List.pairwise_map]
 refine(yt h).2.imp fun hst x _ ⟨h1,h2⟩=>?_
 have:=zfJ.1 h1
 have:=zfJ.1 h2
 omega
theorem JJ {k:List Fg} (h:RightK k) {V:Nat->List En} {P:Nat->Nat->Nat->Bool} (hV:∀ x r c,x<M64->c<M64->mem (zT (V x) r) c=P x r c) (hs:∀ x y r c,qX k x y=true->P x r c=P y r c) (h0:∀ x r c,zU k x=[]->P x r c=false)
 {i r c:Nat} (hi:i<M64) (hc:c<M64):hasK ((zu k).map fun s=>⟨[s],V s.lo⟩) i r c=P i r c:=by
 rw [Bool.eq_iff_iff,km]
 constructor
 ·rintro⟨f,hf,h1,h2⟩
  obtain⟨s,hs',rfl⟩:=List.mem_map.1 hf
  obtain⟨q1,q2,q3,_⟩:=(yt h).1 s hs'
  have h3:=zfJ.1 h1
  rw [hV s.lo r c (by omega) hc,hs _ _ _ _ (jR h q3 h3.1 h3.2)] at h2
  exact h2
 ·intro hp
  have hm:0<(zU k i).length:=Nat.pos_of_ne_zero fun e=>by
   have:=h0 i r c (List.length_eq_zero_iff.1 e)
   rw [hp] at this
   cases this
  obtain⟨s,hs',h1,h2⟩:=Xj h hi hm
  obtain⟨q1,q2,q3,_⟩:=(yt h).1 s hs'
  refine⟨_,List.mem_map.2 ⟨s,hs',rfl⟩,zfJ.2 ⟨h1,h2⟩,?_⟩
  rw [hV s.lo r c (by omega) hc,hs _ _ _ _ (jR h q3 h1 h2)]
  exact hp
theorem zc0 {k:List Fg} {x:Nat} (r c:Nat) (h:zU k x=[]):hasK k x r c=false:=by
 rw [<-jh]
 unfold zU at h
 rw [List.map_eq_nil_iff.1 h]
 rfl
theorem zfp {k:List Fg} (h:RightK k) {i r c:Nat} (hi:i<M64) (hc:c<M64):hasK (jq k) i r c=hasK k i r c:=
 JJ h (V:=qc k) (P:=hasK k) (fun x r c _ hc=>(h.ik.at x).2 r c hc) (fun _ _ r c h=>Yt h r c) (fun _ r c h=>zc0 r c h) hi hc
def ZH (v w:List En):Prop:=zZ (zv v) (zv w)<0
theorem ku (v:List En):¬ ZH v v:=by unfold ZH;rw [(jc _ _).2 rfl];decide
theorem k8 {a b c:List En} (h1:ZH a b) (h2:ZH b c):ZH a c:=by
 unfold ZH at *
 have h3:=ZW _ _ _ (Int.le_of_lt h1) (Int.le_of_lt h2)
 rcases Int.lt_or_eq_of_le h3 with h | h
 ·exact h
 ·have e:=Vv ((jc _ _).1 h)
  subst e
  have:=ZV (zv a) (zv b)
  omega
theorem zfI {a b:List En} (h1:¬ ZH a b) (h2:zZ (zv a) (zv b)≠0):ZH b a:=by
 unfold ZH at *
 have:=ZV (zv a) (zv b)
 omega
theorem YU {a b:List En} (h:zZ (zv a) (zv b)=0):a=b:=Vv ((jc _ _).1 h)
def qN:List Fg->Fg->List Fg
 | [],f=>[f]
 | g::r,f=>if zZ (zv g.vec) (zv f.vec)<0 then g::qN r f else if zZ (zv g.vec) (zv f.vec)=0 then ⟨qy zn g.items f.items,f.vec⟩::r else f::g::r
def yo (o:List Fg) (f:Fg):List Fg:=if zi f.vec=[]\/f.items=[] then o else qN o ⟨f.items,zi f.vec⟩
def zL (k:List Fg):List Fg:=k.foldl yo []
def OkG (f:Fg):Prop:=CanV f.vec/\f.vec≠[]/\Nrm f.items/\f.items≠[]
structure GrpI (k:List Fg):Prop where
 ok:∀ f ∈ k,OkG f
 srt:k.Pairwise fun f g=>ZH f.vec g.vec
theorem GrpI.nil:GrpI []:=⟨fun f h=>(by cases h),List.Pairwise.nil⟩
theorem GrpI.tail {f:Fg} {k:List Fg} (h:GrpI (f::k)):GrpI k:=⟨fun g hg=>h.ok g (by simp [hg]),(List.pairwise_cons.1 h.srt).2⟩
theorem GrpI.right {k:List Fg} (h:GrpI k):RightK k:=fun f hf=>⟨(h.ok f hf).2.2.1,(h.ok f hf).1.right⟩
theorem JZ {l:List Iv} (h:Nrm l) (hn:l≠[]):∃ x,x<M64/\mem l x=true:=by
 cases l with
 | nil=>exact absurd rfl hn
 | cons s l=>
   have:=NF.lo_ge h s (by simp)
   exact⟨s.lo,by omega,qf.2 ⟨s,by simp,Nat.le_refl _,this.2.1⟩⟩
theorem zig {l:List Iv} {x:Nat} (h:mem l x=true):l≠[]:=fun e=>by rw [e] at h;cases h
theorem Yw:∀ {o:List Fg} {f:Fg},GrpI o->OkG f->(∀ g ∈ qN o f,OkG g/\(g.vec=f.vec\/g ∈ o))/\GrpI (qN o f)/\(∀ i r c,i<M64->hasK (qN o f) i r c=(hasK o i r c || (mem f.items i && mem (zT f.vec r) c)))
 | [],f,_,hf=>⟨fun g hg=>by simp only [qN,List.mem_singleton] at hg;subst hg;exact⟨hf,.inl rfl⟩,⟨fun g hg=>by simp only [qN,List.mem_singleton] at hg;subst hg;exact hf,by simp [qN]⟩,fun i r c _=>by simp [qN,hasK]⟩
 | g::o,f,ho,hf=>by
   have hg:=ho.ok g (by simp)
   have hp:=List.pairwise_cons.1 ho.srt
   unfold qN
   by_cases h1:zZ (zv g.vec) (zv f.vec)<0
   ·rw [if_pos h1]
    obtain⟨k1,k2,k3⟩:=Yw ho.tail hf
    refine⟨fun x hx=>?_,⟨fun x hx=>?_,List.pairwise_cons.2 ⟨fun x hx=>?_,k2.srt⟩⟩,fun i r c hi=>?_⟩
    ·rcases List.mem_cons.1 hx with rfl | hx
     ·exact⟨hg,.inr (by simp)⟩
     ·exact⟨(k1 x hx).1,(k1 x hx).2.imp id fun h=>by simp [h]⟩
    ·rcases List.mem_cons.1 hx with rfl | hx
     ·exact hg
     ·exact(k1 x hx).1
    ·rcases (k1 x hx).2 with e | e
     ·rw [e];exact h1
     ·exact hp.1 x e
    ·have:=k3 i r c hi
     unfold hasK at this ⊢
     rw [List.any_cons,List.any_cons,this,Bool.or_assoc]
   ·rw [if_neg h1]
    by_cases h2:zZ (zv g.vec) (zv f.vec)=0
    ·rw [if_pos h2]
     have e:g.vec=f.vec:=YU h2
     have hn:OkG ⟨qy zn g.items f.items,f.vec⟩:=by
      refine⟨hf.1,hf.2.1,qH hg.2.2.1 hf.2.2.1,?_⟩
      obtain⟨x,hx,hm⟩:=JZ hg.2.2.1 hg.2.2.2
      refine zig (x:=x) ?_
      show mem (qy zn g.items f.items) x=true
      rw [qj hg.2.2.1 hf.2.2.1 hx,hm]
      rfl
     refine⟨fun x hx=>?_,⟨fun x hx=>?_,List.pairwise_cons.2 ⟨fun x hx=>?_,hp.2⟩⟩,fun i r c hi=>?_⟩
     ·rcases List.mem_cons.1 hx with rfl | hx
      ·exact⟨hn,.inl rfl⟩
      ·exact⟨ho.ok x (by simp [hx]),.inr (by simp [hx])⟩
     ·rcases List.mem_cons.1 hx with rfl | hx
      ·exact hn
      ·exact ho.ok x (by simp [hx])
     ·have:=hp.1 x hx
      rw [e] at this
      exact this
     ·unfold hasK
      rw [List.any_cons,List.any_cons]
      simp only
      rw [qj hg.2.2.1 hf.2.2.1 hi,e]
      simp only [zn]
      cases mem g.items i<;>cases mem f.items i<;>cases mem (zT f.vec r) c<;>simp
    ·rw [if_neg h2]
     have h3:ZH f.vec g.vec:=zfI h1 h2
     refine⟨fun x hx=>?_,⟨fun x hx=>?_,List.pairwise_cons.2 ⟨fun x hx=>?_,ho.srt⟩⟩,fun i r c hi=>?_⟩
     ·rcases List.mem_cons.1 hx with rfl | hx
      ·exact⟨hf,.inl rfl⟩
      ·exact⟨ho.ok x hx,.inr hx⟩
     ·rcases List.mem_cons.1 hx with rfl | hx
      ·exact hf
      ·exact ho.ok x hx
     ·rcases List.mem_cons.1 hx with rfl | hx
      ·exact h3
      ·exact k8 h3 (hp.1 x hx)
     ·unfold hasK
      rw [List.any_cons,Bool.or_comm]
theorem Yi {f:Fg} (h:ZS f) (hn:¬(zi f.vec=[]\/f.items=[])):OkG ⟨f.items,zi f.vec⟩:=⟨jN h.2,fun e=>hn (.inl e),h.1,fun e=>hn (.inr e)⟩
theorem Yr {o:List Fg} {f:Fg} (ho:GrpI o) (hf:ZS f):GrpI (yo o f)/\∀ i r c,i<M64->hasK (yo o f) i r c=(hasK o i r c || (mem f.items i && mem (zT f.vec r) c)):=by
 unfold yo
 split
 ·rename_i h
  refine⟨ho,fun i r c _=>?_⟩
  rcases h with h | h
  ·rw [<-ja hf.2,h,kr]
   simp
  ·rw [h]
   simp
 ·rename_i h
  obtain⟨_,k2,k3⟩:=Yw ho (Yi hf h)
  refine⟨k2,fun i r c hi=>?_⟩
  rw [k3 i r c hi]
  simp only
  rw [ja hf.2]
theorem jV:∀ {k:List Fg} {o:List Fg},GrpI o->RightK k->GrpI (k.foldl yo o)/\∀ i r c,i<M64->hasK (k.foldl yo o) i r c=(hasK o i r c || hasK k i r c)
 | [],o,ho,_=>⟨ho,fun i r c _=>by simp [hasK]⟩
 | f::k,o,ho,hk=>by
   obtain⟨h1,h2⟩:=Yr ho (hk f (by simp))
   obtain⟨h3,h4⟩:=jV (k:=k) h1 fun g hg=>hk g (by simp [hg])
   refine⟨h3,fun i r c hi=>?_⟩
   rw [List.foldl_cons,h4 i r c hi,h2 i r c hi,Bool.or_assoc]
   rfl
theorem vB {k:List Fg} (h:RightK k):GrpI (zL k):=(jV GrpI.nil h).1
theorem za5 {k:List Fg} (h:RightK k) {i r c:Nat} (hi:i<M64):hasK (zL k) i r c=hasK k i r c:=by
 have:=(jV GrpI.nil h).2 i r c hi
 rw [show hasK [] i r c=false from rfl,Bool.false_or] at this
 exact this
theorem Qa:∀ {o:List Fg} {f:Fg},(∀ g ∈ o,Nrm g.items)->Nrm f.items->xh o->(∀ g ∈ o,∀ x,x<M64->¬(mem g.items x=true/\mem f.items x=true)) ->
 xh (qN o f)/\∀ g ∈ qN o f,Nrm g.items/\∀ x,x<M64->mem g.items x=true->mem f.items x=true\/∃ g' ∈ o,mem g'.items x=true
 | [],f,_,hf,_,_=>⟨by simp [qN,xh],fun g hg=>by simp only [qN,List.mem_singleton] at hg;subst hg;exact⟨hf,fun x _ hm=>.inl hm⟩⟩
 | g::o,f,ho,hf,ha,hd=>by
   have hg:=ho g (by simp)
   have hp:=List.pairwise_cons.1 ha
   unfold qN
   by_cases h1:zZ (zv g.vec) (zv f.vec)<0
   ·rw [if_pos h1]
    obtain⟨k1,k2⟩:=Qa (fun x hx=>ho x (by simp [hx])) hf hp.2 fun x hx=>hd x (by simp [hx])
    refine⟨List.pairwise_cons.2 ⟨fun x hx z hz ⟨m1,m2⟩=>?_,k1⟩,fun x hx=>?_⟩
    ·rcases (k2 x hx).2 z hz m2 with e | ⟨y,hy,e⟩
     ·exact hd g (by simp) z hz ⟨m1,e⟩
     ·exact hp.1 y hy z hz ⟨m1,e⟩
    ·rcases List.mem_cons.1 hx with rfl | hx
     ·exact⟨hg,fun z _ hm=>.inr ⟨x,by simp,hm⟩⟩
     ·refine⟨(k2 x hx).1,fun z hz hm=>((k2 x hx).2 z hz hm).imp id ?_⟩
      rintro⟨y,hy,e⟩
      exact⟨y,by simp [hy],e⟩
   ·rw [if_neg h1]
    by_cases h2:zZ (zv g.vec) (zv f.vec)=0
    ·rw [if_pos h2]
     refine⟨List.pairwise_cons.2 ⟨fun x hx z hz ⟨m1,m2⟩=>?_,hp.2⟩,fun x hx=>?_⟩
     ·simp only at m1
      rw [qj hg hf hz] at m1
      simp only [zn,Bool.or_eq_true] at m1
      rcases m1 with m1 | m1
      ·exact hp.1 x hx z hz ⟨m1,m2⟩
      ·exact hd x (by simp [hx]) z hz ⟨m2,m1⟩
     ·rcases List.mem_cons.1 hx with rfl | hx
      ·refine⟨qH hg hf,fun z hz hm=>?_⟩
       simp only at hm
       rw [qj hg hf hz] at hm
       simp only [zn,Bool.or_eq_true] at hm
       rcases hm with hm | hm
       ·exact .inr ⟨g,by simp,hm⟩
       ·exact .inl hm
      ·exact⟨ho x (by simp [hx]),fun z _ hm=>.inr ⟨x,by simp [hx],hm⟩⟩
    ·rw [if_neg h2]
     refine⟨List.pairwise_cons.2 ⟨fun x hx z hz ⟨m1,m2⟩=>hd x hx z hz ⟨m2,m1⟩,ha⟩,fun x hx=>?_⟩
     rcases List.mem_cons.1 hx with rfl | hx
     ·exact⟨hf,fun z _ hm=>.inl hm⟩
     ·exact⟨ho x hx,fun z _ hm=>.inr ⟨x,hx,hm⟩⟩
theorem vA:∀ {k o:List Fg},(∀ g ∈ o,Nrm g.items)->(∀ f ∈ k,Nrm f.items)->xh o->xh k->(∀ g ∈ o,∀ f ∈ k,∀ x,x<M64->¬(mem g.items x=true/\mem f.items x=true))->xh (k.foldl yo o)
 | [],o,_,_,ha,_,_=>ha
 | f::k,o,ho,hk,ha,hak,hd=>by
   have hp:=List.pairwise_cons.1 hak
   rw [List.foldl_cons]
   unfold yo
   split
   ·exact vA ho (fun g hg=>hk g (by simp [hg])) ha hp.2 fun g hg f' hf'=>hd g hg f' (by simp [hf'])
   ·obtain⟨k1,k2⟩:=Qa (f:=⟨f.items,zi f.vec⟩) ho (hk f (by simp)) ha fun g hg=>hd g hg f (by simp)
    refine vA (fun g hg=>(k2 g hg).1) (fun g hg=>hk g (by simp [hg])) k1 hp.2 fun g hg f' hf' x hx ⟨m1,m2⟩=>?_
    rcases (k2 g hg).2 x hx m1 with e | ⟨y,hy,e⟩
    ·exact hp.1 f' hf' x hx ⟨e,m2⟩
    ·exact hd y hy f' (by simp [hf']) x hx ⟨e,m2⟩
structure CanK (k:List Fg):Prop where
 gi:GrpI k
 apart:xh k
theorem za4 {k:List Fg} (h:RightK k) (ha:xh k):CanK (zL k):=⟨vB h,vA (fun g h=>(by cases h)) (fun f hf=>(h f hf).1) List.Pairwise.nil ha fun g h=>(by cases h)⟩
theorem CanK.one {k:List Fg} (h:CanK k) {f:Fg} (hf:f ∈ k) {i:Nat} (hi:i<M64) (hm:mem f.items i=true) (r c:Nat):hasK k i r c=mem (zT f.vec r) c:=by
 rw [Bool.eq_iff_iff,km]
 constructor
 ·rintro⟨g,hg,m1,m2⟩
  have:f=g:=by
   obtain⟨a,ha,rfl⟩:=List.getElem_of_mem hf
   obtain⟨b,hb,rfl⟩:=List.getElem_of_mem hg
   rcases Nat.lt_trichotomy a b with e | e | e
   ·exact absurd ⟨hm,m1⟩ (List.pairwise_iff_getElem.1 h.apart a b ha hb e i hi)
   ·subst e;rfl
   ·exact absurd ⟨m1,hm⟩ (List.pairwise_iff_getElem.1 h.apart b a hb ha e i hi)
  subst this
  exact m2
 ·intro m2
  exact⟨f,hf,hm,m2⟩
theorem CanK.vec {k:List Fg} (h:CanK k) {f g:Fg} (hf:f ∈ k) (hg:g ∈ k) (e:f.vec=g.vec):f=g:=by
 obtain⟨a,ha,rfl⟩:=List.getElem_of_mem hf
 obtain⟨b,hb,rfl⟩:=List.getElem_of_mem hg
 rcases Nat.lt_trichotomy a b with e3 | e3 | e3
 ·have:=List.pairwise_iff_getElem.1 h.gi.srt a b ha hb e3
  rw [e] at this
  exact absurd this (ku _)
 ·subst e3;rfl
 ·have:=List.pairwise_iff_getElem.1 h.gi.srt b a hb ha e3
  rw [e] at this
  exact absurd this (ku _)
theorem zaK {v:List En} (h:CanV v) (hn:v≠[]):∃ r c,c<M64/\mem (zT v r) c=true:=by
 cases v with
 | nil=>exact absurd rfl hn
 | cons e v=>
   have he:=h.1 e (by simp)
   obtain⟨x,hx,hm⟩:=JZ (qT he.1) (jO he).1
   exact⟨e.rep,x,hx,by rw [qm,if_pos rfl];exact hm⟩
theorem Yh {a b:List Fg} (ha:CanK a) (hb:CanK b) (h:∀ i r c,i<M64->c<M64->hasK a i r c=hasK b i r c) {f:Fg} (hf:f ∈ a):∃ g ∈ b,g.vec=f.vec/\∀ x,x<M64->mem f.items x=true->mem g.items x=true:=by
 have ok:=ha.gi.ok f hf
 have key:∀ x,x<M64->mem f.items x=true->∃ g ∈ b,g.vec=f.vec/\mem g.items x=true:=fun x hx hm=>by
  obtain⟨r,c,hc,hk⟩:=zaK ok.1 ok.2.1
  have h1:=ha.one hf hx hm r c
  rw [hk,h x r c hx hc] at h1
  obtain⟨g,hg,m1,_⟩:=km.1 h1
  refine⟨g,hg,?_,m1⟩
  have okg:=hb.gi.ok g hg
  refine Zk okg.1 ok.1 fun r=>Nrm.unique (qi okg.1.right r) (qi ok.1.right r) fun c hc=>?_
  rw [<-hb.one hg hx m1 r c,<-ha.one hf hx hm r c,h x r c hx hc]
 obtain⟨x,hx,hm⟩:=JZ ok.2.2.1 ok.2.2.2
 obtain⟨g,hg,e,_⟩:=key x hx hm
 refine⟨g,hg,e,fun y hy hm'=>?_⟩
 obtain⟨g',hg',e',m'⟩:=key y hy hm'
 rw [hb.vec hg hg' (e.trans e'.symm)]
 exact m'
theorem ZD:∀ {a b:List Fg},a.Pairwise (fun f g=>ZH f.vec g.vec)->b.Pairwise (fun f g=>ZH f.vec g.vec)->(∀ f,f ∈ a ↔ f ∈ b)->a=b
 | [],[],_,_,_=>rfl
 | [],y::b,_,_,h=>absurd ((h y).2 (by simp)) (by simp)
 | x::a,[],_,_,h=>absurd ((h x).1 (by simp)) (by simp)
 | x::a,y::b,ha,hb,h=>by
   have ha':=List.pairwise_cons.1 ha
   have hb':=List.pairwise_cons.1 hb
   have hxy:x=y:=by
    have h1:=(h x).1 (by simp)
    have h2:=(h y).2 (by simp)
    simp at h1 h2
    rcases h1 with h1 | h1
    ·exact h1
    ·rcases h2 with h2 | h2
     ·exact h2.symm
     ·exact absurd (k8 (hb'.1 x h1) (ha'.1 y h2)) (ku _)
   subst hxy
   congr 1
   refine ZD ha'.2 hb'.2 fun z=>?_
   have:=h z
   simp at this
   constructor
   ·intro hz
    rcases this.1 (.inr hz) with e | e
    ·subst e;exact absurd (ha'.1 z hz) (ku _)
    ·exact e
   ·intro hz
    rcases this.2 (.inr hz) with e | e
    ·subst e;exact absurd (hb'.1 z hz) (ku _)
    ·exact e
theorem XN {a b:List Fg} (ha:CanK a) (hb:CanK b) (h:∀ i r c,i<M64->c<M64->hasK a i r c=hasK b i r c):a=b:=by
 have half:∀ {a b:List Fg},CanK a->CanK b->(∀ i r c,i<M64->c<M64->hasK a i r c=hasK b i r c)->∀ f ∈ a,f ∈ b:=fun {a b} ha hb h f hf=>by
  obtain⟨g,hg,e,hi⟩:=Yh ha hb h hf
  obtain⟨f',hf',e',hi'⟩:=Yh hb ha (fun i r c q1 q2=>(h i r c q1 q2).symm) hg
  have:f'=f:=ha.vec hf' hf (e'.trans e)
  subst this
  have:g=f':=Fg.ext' (Nrm.unique (hb.gi.ok g hg).2.2.1 (ha.gi.ok f' hf).2.2.1 fun x hx=>by
   rw [Bool.eq_iff_iff]
   exact⟨hi' x hx,hi x hx⟩) e
  rw [<-this]
  exact hg
 exact ZD ha.gi.srt hb.gi.srt fun f=>⟨half ha hb h f,half hb ha (fun i r c q1 q2=>(h i r c q1 q2).symm) f⟩
noncomputable def zbx (k:List Fg):List Fg:=zL (jq k)
noncomputable def yy (f:Bool->Bool->Bool) (a b:List Fg):List Fg:=(zu (a++b)).map fun s=>⟨[s],ks f (qc a s.lo) (qc b s.lo)⟩
noncomputable def vh (f:Bool->Bool->Bool) (a b:List Fg):List Fg:=zL (yy f a b)
theorem zbX {k:List Fg} (h:RightK k):CanK (zbx k):=za4 (Yb h) (zeD h)
theorem zbW {k:List Fg} (h:RightK k) {i r c:Nat} (hi:i<M64) (hc:c<M64):hasK (zbx k) i r c=hasK k i r c:=by
 unfold zbx
 rw [za5 (Yb h) hi,zfp h hi hc]
theorem RightK.app {a b:List Fg} (ha:RightK a) (hb:RightK b):RightK (a++b):=fun f hf=>(List.mem_append.1 hf).elim (ha f) (hb f)
theorem xU {f:Bool->Bool->Bool} {a b:List Fg} (ha:RightK a) (hb:RightK b):RightK (yy f a b):=fun g hg=>by
 obtain⟨s,hs,rfl⟩:=List.mem_map.1 hg
 obtain⟨h1,h2,_⟩:=(yt (ha.app hb)).1 s hs
 exact⟨qG h1 h2,(Xe f (ha.ik.at s.lo).1.can.right (hb.ik.at s.lo).1.can.right).right⟩
theorem Xh {f:Bool->Bool->Bool} {a b:List Fg} (ha:RightK a) (hb:RightK b):xh (yy f a b):=by
 unfold xh yy
 rw [List.pairwise_map]
 refine(yt (ha.app hb)).2.imp fun hst x _ ⟨h1,h2⟩=>?_
 have:=zfJ.1 h1
 have:=zfJ.1 h2
 omega
theorem ze5 {f:Bool->Bool->Bool} {a b:List Fg} (ha:RightK a) (hb:RightK b):CanK (vh f a b):=za4 (xU ha hb) (Xh ha hb)
theorem zcZ {f:Bool->Bool->Bool} (hf:f false false=false) {a b:List Fg} (ha:RightK a) (hb:RightK b) {i r c:Nat} (hi:i<M64) (hc:c<M64):hasK (vh f a b) i r c=f (hasK a i r c) (hasK b i r c):=by
 unfold vh
 rw [za5 (xU ha hb) hi]
 refine JJ (ha.app hb) (V:=fun x=>ks f (qc a x) (qc b x)) (P:=fun x r c=>f (hasK a x r c) (hasK b x r c)) (fun x r c _ hc=>?_) (fun x y r c hs=>?_) (fun x r c hn=>?_) hi hc
 ·have h1:=ha.ik.at x
  have h2:=hb.ik.at x
  rw [JR hf h1.1.can.right h2.1.can.right,qj (qi h1.1.can.right r) (qi h2.1.can.right r) hc,h1.2 r c hc,h2.2 r c hc]
 ·have hs':=qo.1 hs
  rw [Yt (k:=a) (qo.2 fun g hg=>hs' g (by simp [hg])),Yt (k:=b) (qo.2 fun g hg=>hs' g (by simp [hg]))]
 ·have h0:=zc0 (k:=a++b) r c hn
  unfold hasK at h0 ⊢
  rw [List.any_append,Bool.or_eq_false_iff] at h0
  rw [h0.1,h0.2,hf]
theorem CanK.right {k:List Fg} (h:CanK k):RightK k:=h.gi.right
theorem znD {f:Bool->Bool->Bool} (hf:f false false=false) {a b c:List Fg} (ha:RightK a) (hb:RightK b) (hc:CanK c) (h:∀ i r x,i<M64->x<M64->hasK c i r x=f (hasK a i r x) (hasK b i r x)):vh f a b=c:=
 XN (ze5 ha hb) hc fun i r x hi hx=>by rw [zcZ hf ha hb hi hx,h i r x hi hx]
def cp2 (a b:Nat):PV:=.agg [.v (.int .u64 a),.v (.int .u64 b)]
def cw (n:Nat):PV:=cp2 (n / M64) (n % M64)
attribute [go_sem] cp2 cw
end Go.Proofs.YtonhfknjcbakiaaGreatDoor
