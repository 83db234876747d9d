import Derived.Test.YtonhfknjcbakiaaGreatDoorB19
import Derived.Test.YtonhfknjcbakiaaGreatDoorB20
import Derived.Test.YtonhfknjcbakiaaGreatDoorB35
import Derived.Test.YtonhfknjcbakiaaGreatDoorB36
set_option maxHeartbeats 16000000
set_option linter.unusedVariables false
set_option linter.unusedSimpArgs false
set_option maxRecDepth 100000
namespace Go.Proofs.YtonhfknjcbakiaaGreatDoor
open Go.RowKit
def jS (c:Nat) (k:Int):PV:=if c=0 then .v .nilIface else .ifc 120 (.agg [.v (.int .i64 c),.v (.int .i64 k)])
def Z2 (c:Nat):PV:=.ifc 82 (.v (.int .i64 c))
theorem ym (c:Nat) (k:Int):SubP 0 (jS c k) (jS c k):=.eq _ (by unfold jS;split<;>rfl)
theorem jT (c:Nat) (k:Int):Cn Tryz.prog 104 [.v (.int .i64 c),.v (.int .i64 k)] (jS c k):=by
 refine zt Tryz.func104 2 ?_
 refine pw ?_
 unfold jS
 refine .i ?_ ?_<;>intro h<;>(try simp only [nrm_l] at h)<;>first | refine pw ?_ | exact pd
 ·rw [if_pos (by omega)]
  exact pd
 ·rw [if_neg (by omega)]
  exact pd
theorem v8 (a b:Nat) (hb:b<M64):Cn Tryz.prog 168 [.v (.int .u64 a),.v (.int .u64 b)] (.tup [.v (.int .u64 (b - a - 1:Nat)),.v (.bool (decide (a<b)))]):=by
 have w:=zw
 refine zt Tryz.func168 2 ?_
 refine pw ?_
 refine .i ?_ ?_<;>intro h<;>(try simp only [nrm_l] at h)<;>first | refine pw ?_ | exact pd
 ·have j:¬ a<b:=by omega
  have u:b - a - 1=0:=by omega
  simp [j,u]
 ·simp [h]
theorem zea (s:Iv):Cn Tryz.prog 121 [Je s] (if s.lo<=s.hi then .v .nilIface else Z2 2):=by
 refine zt Tryz.func121 1 ?_
 refine pw ?_
 refine .i ?_ ?_<;>intro h<;>(try simp only [nrm_l] at h)<;>first | refine pw ?_ | exact pd
 ·rw [if_neg (by omega)]
  unfold Z2
  exact pd
 ·rw [if_pos h]
  exact pd
theorem ziY (s t:Iv) (A:s.lo<=s.hi) (B:t.lo<=t.hi) (C:s.hi<M64) (E:t.hi<M64):Cn Tryz.prog 122 [Je s,Je t] (.v (.int .i64 (zR s t:Nat))):=by
 have F:=zw
 refine zt Tryz.func122 2 ?_
 refine pw ?_
 refine .c (v8 s.hi t.lo (by omega)) ?_
 unfold zR
 by_cases u:s.hi<t.lo
 ·have a:¬ t.hi<s.lo:=by omega
  by_cases w:s.hi+1=t.lo
  ·have j:t.lo - s.hi - 1=0:=by omega
   rw [if_pos u,if_pos w,j,decide_eq_true u]
   refine pw ?_
   refine .c (v8 t.hi s.lo (by omega)) ?_
   rw [decide_eq_false a]
   exact pd
  ·have j:0<t.lo - s.hi - 1:=by omega
   rw [if_pos u,if_neg w,decide_eq_true u]
   refine pw ?_
   refine .i ?_ ?_<;>intro y<;>(try simp only [nrm_l] at y)<;>first | refine pw ?_ | exact pd
   ·refine .c (v8 t.hi s.lo (by omega)) ?_
    rw [decide_eq_false a]
    exact pd
   ·exact absurd j (by omega)
 ·rw [if_neg u,decide_eq_false u]
  refine pw ?_
  refine .c (v8 t.hi s.lo (by omega)) ?_
  by_cases a:t.hi<s.lo
  ·by_cases w:t.hi+1=s.lo
   ·have j:s.lo - t.hi - 1=0:=by omega
    rw [if_pos a,if_pos w,j,decide_eq_true a]
    exact pd
   ·have j:0<s.lo - t.hi - 1:=by omega
    rw [if_pos a,if_neg w,decide_eq_true a]
    refine pw ?_
    refine .i ?_ ?_<;>intro y<;>(try simp only [nrm_l] at y)<;>first | refine pw ?_ | exact pd
    exact absurd j (by omega)
  ·rw [if_neg a,decide_eq_false a]
   exact pd
theorem VO (l:List Iv) (hb:∀ s ∈ l,s.lo<M64/\s.hi<M64) (hl:l.length<=1152921504606846976) (u:(Zl l).1=0\/Cn Tryz.prog 51 [Z2 2] (.v (.int .i64 2))):Cn Tryz.prog 79 [rg l] (jS (Zl l).1 (Zl l).2):=by
 refine zt Tryz.func79 1 ?_
 refine pw ?_
 refine pLoop.go (fun k=>k<=l.length/\Zl l=QZ (y7 l k) (l.drop k) k/\∀ j (h:j<l.length),j<k->l[j].lo<=l[j].hi) (fun k=>[(8,.v (.int .i64 (k:Nat)))]) (fun _=>[]) (fun k=>l.length - k) 0 [8] ?_ ?_ ?_
 ·exact⟨Nat.zero_le _,rfl,fun j _ h=>absurd h (by omega)⟩
 ·exact pd
 ·rintro k ⟨hk,a,G⟩
  refine pw ?_
  refine .i ?_ ?_<;>intro h<;>(try simp only [nrm_l] at h)<;>first | refine pw ?_ | exact pd
  ·rw [Yj h] at a
   have A:=hb _ (List.getElem_mem h)
   refine .rd (zea l[k]) rfl ?_
   by_cases y:l[k].lo<=l[k].hi
   ·rw [if_pos y] at a ⊢
    have hs:y7 l (k+1)=some l[k]:=by unfold y7;rw [if_neg (by omega)];exact List.getElem?_eq_getElem h
    have w:∀ j (F:j<l.length),j<k+1->l[j].lo<=l[j].hi:=fun j F J=>by
     rcases Nat.lt_or_ge j k with E | E
     ·exact G j F E
     ·obtain rfl:j=k:=by omega
      exact y
    refine pw ?_
    refine .i ?_ ?_<;>intro H<;>(try simp only [nrm_l] at H)<;>first | refine pw ?_ | exact pd
    ·have C:y7 l k=some l[k - 1]:=by unfold y7;rw [if_neg (by omega),List.getElem?_eq_getElem]
     rw [C] at a
     have B:=hb _ (List.getElem_mem (show k - 1<l.length by omega))
     refine .c (ziY l[k - 1] l[k] (G (k - 1) (by omega) (by omega)) y B.2 A.2) ?_
     refine .i ?_ ?_<;>intro I<;>(try simp only [nrm_l] at I)<;>first | refine pw ?_ | exact pd
     ·rw [if_neg (by omega)] at a
      rw [a]
      refine .c (jT 3 (k:Nat)) ?_
      exact ym _ _
     ·rw [if_pos (by omega)] at a
      exact⟨k+1,⟨h,by rw [hs];exact a,w⟩,by omega,rfl⟩
    ·have C:y7 l k=none:=by unfold y7;rw [if_pos (by omega)]
     rw [C] at a
     exact⟨k+1,⟨h,by rw [hs];exact a,w⟩,by omega,rfl⟩
   ·rw [if_neg y] at a ⊢
    unfold Z2 at u ⊢
    rcases u with u | u
    ·rw [a] at u
     cases u
    ·refine pw ?_
     (first | refine .c (u) ?_ | refine .o (u) ?_)
     rw [a]
     refine .c (jT 2 (k:Nat)) ?_
     exact ym _ _
  ·rw [List.drop_of_length_le h] at a
   rw [a]
   exact .eq _ rfl
theorem zpJ (l:List Iv) (a:Nrm l) (hl:l.length<=1152921504606846976):Cn Tryz.prog 79 [rg l] (.v .nilIface):=by
 have hz:=(YT (l:=l) fun s hs=>(a.lt s hs).2).2 a
 have:=VO l a.lt hl (.inl hz)
 unfold jS at this
 rw [if_pos hz] at this
 exact this
theorem zfH (j:Nat) (a:List PV) (o:Nat):JU j (.cp a o)=true:=rfl
attribute [go_sem] zfH
theorem za0 (e:En) (hb:∀ s ∈ e.holes,s.lo<M64/\s.hi<M64) (hl:e.holes.length<=1152921504606846976) (a:(Zl e.holes).1=0\/Cn Tryz.prog 51 [Z2 2] (.v (.int .i64 2))):Cn Tryz.prog 189 [.cp (ec e) 0] (jS (Zl e.holes).1 (Zl e.holes).2):=by
 refine zt Tryz.func189 1 ?_
 refine pw ?_
 refine .c (VO e.holes hb hl a) ?_
 exact ym _ _
theorem zaZ (e:En) (hl:e.holes.length<=1152921504606846976):Cn Tryz.prog 188 [.cp (ec e) 0] (jS (hk e.max e.holes 0).1 (hk e.max e.holes 0).2):=by
 refine zt Tryz.func188 1 ?_
 refine pw ?_
 refine pLoop.go (fun k=>k<=e.holes.length/\hk e.max e.holes 0=hk e.max (e.holes.drop k) k) (fun k=>[(7,.v (.int .i64 (k:Nat)))]) (fun _=>[]) (fun k=>e.holes.length - k) 0 [7] ?_ ?_ ?_
 ·exact⟨Nat.zero_le _,rfl⟩
 ·exact pd
 ·rintro k ⟨w,a⟩
  refine pw ?_
  refine .i ?_ ?_<;>intro j<;>(try simp only [nrm_l] at j)<;>first | refine pw ?_ | exact pd
  ·rw [K3 j] at a
   refine .i ?_ ?_<;>intro u<;>(try simp only [nrm_l] at u)<;>first | refine pw ?_ | exact pd
   ·rw [a,if_pos u]
    refine .c (jT 4 (k:Nat)) ?_
    exact ym _ _
   ·rw [if_neg (by omega)] at a
    exact⟨k+1,⟨j,a⟩,by omega,rfl⟩
  ·rw [List.drop_of_length_le j] at a
   rw [a]
   exact .eq _ rfl
theorem yk {x:Nat × Int} (h:x.1=0):jS x.1 x.2=.v .nilIface:=if_pos h
theorem vu {x:Nat × Int} (h:x.1≠0):jS x.1 x.2=.ifc 120 (.agg [.v (.int .i64 x.1),.v (.int .i64 x.2)]):=if_neg h
theorem zcJ (e:En) (hb:∀ s ∈ e.holes,s.lo<M64/\s.hi<M64) (hl:e.holes.length<=1152921504606846976) (w:(Zl e.holes).1=0\/Cn Tryz.prog 51 [Z2 2] (.v (.int .i64 2))):Cn Tryz.prog 156 [ep e] (jS (yV e).1 (yV e).2):=by
 refine zt Tryz.func156 1 ?_
 refine pw ?_
 refine pLoop.go (fun k=>k<=2/\(1<=k->(Zl e.holes).1=0)/\(2<=k->(yV e).1=0)) (fun k=>[(12,.v (.int .i64 (k:Nat)))]) (fun _=>[]) (fun k=>2 - k) 0 [12] ?_ ?_ ?_
 ·exact⟨by omega,fun h=>absurd h (by omega),fun h=>absurd h (by omega)⟩
 ·exact pd
 ·rintro k ⟨y,j,u⟩
  obtain rfl | rfl | rfl:k=0\/k=1\/k=2:=by omega
  ·refine pw ?_
   refine .rd (za0 e hb hl w) rfl ?_
   by_cases hz:(Zl e.holes).1=0
   ·rw [yk hz]
    refine pw ?_
    exact⟨1,⟨by omega,fun _=>hz,fun h=>absurd h (by omega)⟩,by omega,rfl⟩
   ·have e1:yV e=Zl e.holes:=if_neg hz
    rw [e1,vu hz]
    exact pd
  ·have hz:=j (by omega)
   have e1:yV e=hk e.max e.holes 0:=if_pos hz
   refine pw ?_
   refine .rd (zaZ e hl) rfl ?_
   by_cases a:(hk e.max e.holes 0).1=0
   ·rw [yk a]
    refine pw ?_
    exact⟨2,⟨by omega,fun _=>hz,fun _=>by rw [e1];exact a⟩,by omega,rfl⟩
   ·rw [e1,vu a]
    exact pd
  ·have hz:=u (by omega)
   rw [yk hz]
   exact pd
theorem znN (e:En) (c:Nat) (hl:e.holes.length<=1152921504606846976):Cn Tryz.prog 135 [ep e,.v (.int .u64 c)] (.v (.bool (decide (c<=e.max) && !mem e.holes c))):=by
 refine zt Tryz.func135 2 ?_
 refine pw ?_
 refine .i ?_ ?_<;>intro j<;>(try simp only [nrm_l] at j)<;>first | refine pw ?_ | exact pd
 ·refine .c (kU e.holes c hl) ?_
  simp [j]
 ·have a:¬ c<=e.max:=by omega
  simp [a]
theorem Jg {e:En} (h:zO e):ZL e:=⟨h.1.lt,h.2.2.1,h.2.2.2⟩
section
variable (a b:En) (c:Nat) (ha:ZL a) (hb:ZL b) (hc:c<M64)
include ha hb hc
end
def HG (w:World):Prop:=w.cell? ⟨0,0,none⟩=some (.iface 217 (.agg #[.pointer (some ⟨2,44,none⟩)]))
theorem HG.of {D:Nat->Nat->Prop} {w:World} (h:GL D w):HG w:=(h _ rfl).2
theorem HG.pos {w:World} (h:HG w):0<w.heap.size:=World.block_lt_of_cell? w ⟨0,0,none⟩ h
theorem HG.alloc {w:World} (h:HG w) (o:Obj):HG (w.alloc o):=by
 unfold HG
 rw [World.cell?_alloc_lt _ _ ⟨0,0,none⟩ h.pos];exact h
theorem KK {f:FuncId} {B:List PV} {r:PV} (G:r.own=none) (j:∀ a w,(callFunc f a).run Tryz.prog w=.ok (.enter f a) w)
 (h:∀(D:Nat->Nat->Prop) (w:World) (u:Array Value),HG w->(∀ b o,D b o->b<w.heap.size)->u.size=B.length->(∀(i:Nat) p,B[i]? = some p->Dat D w (u.getD i undef) p) ->
   Calls Tryz.prog f u w fun e y=>∃ v,e=.returned v/\Below w.heap.size w y/\Dat (fun b o=>D b o\/(w.heap.size<=b/\b<y.heap.size)) y v r):Cn Tryz.prog f B r:=by
 refine⟨j,fun D w u F C A E=>(h D w u (.of F) C A E).mono ?_⟩
 rintro e y ⟨v,rfl,hb,H⟩
 exact⟨v,_,rfl,hb,fun b o h=>.inl h,fun b o h=>h.imp id And.left,fun b o h=>h.elim (fun h=>Nat.lt_of_lt_of_le (C b o h) hb.size) And.right,H,zr G⟩
theorem zjw {a:Array Value} (h:a.size=1):a=#[a.getD 0 undef]:=by
 obtain⟨l⟩:=a
 match l,h with
 | [x],_=>rfl
theorem zb4 (c:Int) (w:World) (j:HG w):Calls Tryz.prog 94 #[.iface 82 (.int .i64 c),.iface 127 (.pointer (some ⟨w.heap.size,0,none⟩))] (w.alloc (.cells #[.int .i64 0] 82))
 fun ev a=>ev=.returned (.bool true)/\Below w.heap.size w a/\a.cell? ⟨w.heap.size,0,none⟩=some (.int .i64 c):=by
 refine(As.as_NN c ⟨w.heap.size,0,none⟩ (.int .i64 0) _ (j.alloc _) (by simp) (by simp)).mono ?_
 rintro ev a ⟨rfl,rfl⟩
 refine⟨rfl,?_,?_⟩
 ·refine Below.setCell (((((((Below.refl _ w).alloc ?_ _).alloc ?_ _).alloc ?_ _).alloc ?_ _).alloc ?_ _)) ?_ _<;>simp<;>omega
 ·refine World.cell?_setCell_same _ _ _ (u:=.int .i64 0) ?_
  rw [World.cell?_alloc_lt _ _ ⟨w.heap.size,0,none⟩ (by simp;omega),World.cell?_alloc_lt _ _ ⟨w.heap.size,0,none⟩ (by simp;omega),World.cell?_alloc_lt _ _ ⟨w.heap.size,0,none⟩ (by simp;omega),World.cell?_alloc_lt _ _ ⟨w.heap.size,0,none⟩ (by simp)]
  simp
theorem zb3 (c k:Int) (w:World) (j:HG w):Calls Tryz.prog 94 #[.iface 120 (.agg #[.int .i64 c,.int .i64 k]),.iface 127 (.pointer (some ⟨w.heap.size,0,none⟩))] (w.alloc (.cells #[.int .i64 0] 82))
 fun ev a=>ev=.returned (.bool true)/\Below w.heap.size w a/\a.cell? ⟨w.heap.size,0,none⟩=some (.int .i64 c):=by
 refine(As.as_FN c k ⟨w.heap.size,0,none⟩ (.int .i64 0) _ (j.alloc _) (by simp) (by simp)).mono ?_
 rintro ev a ⟨rfl,rfl⟩
 refine⟨rfl,?_,?_⟩
 ·refine Below.setCell ((((((((Below.refl _ w).alloc ?_ _).alloc ?_ _).alloc ?_ _).alloc ?_ _).alloc ?_ _).alloc ?_ _)) ?_ _<;>simp<;>omega
 ·refine World.cell?_setCell_same _ _ _ (u:=.int .i64 0) ?_
  rw [World.cell?_alloc_lt _ _ ⟨w.heap.size,0,none⟩ (by simp;omega),World.cell?_alloc_lt _ _ ⟨w.heap.size,0,none⟩ (by simp;omega),World.cell?_alloc_lt _ _ ⟨w.heap.size,0,none⟩ (by simp;omega),World.cell?_alloc_lt _ _ ⟨w.heap.size,0,none⟩ (by simp;omega),World.cell?_alloc_lt _ _ ⟨w.heap.size,0,none⟩ (by simp)]
  simp
theorem zcs (w:World):Calls Tryz.prog 51 #[.nilIface] w fun e a=>e=.returned (.int .i64 0)/\Below w.heap.size w a:=by
 go_enter Tryz.func51,Tryz.ntmps51
 go_wp2
 go_ret
 exact⟨rfl,(Below.refl _ w).alloc (Nat.le_refl _) _⟩
theorem zhu (c:Int) (w:World) (a:HG w):Calls Tryz.prog 51 #[.iface 82 (.int .i64 c)] w fun e j=>e=.returned (.int .i64 c)/\Below w.heap.size w j:=by
 go_enter Tryz.func51,Tryz.ntmps51
 go_wp2_with (go_at_call 94;refine(zb4 c w a).mono ?_;rintro e u ⟨rfl,hb,hc⟩)
 go_ret
 exact⟨rfl,hb⟩
theorem zht (c k:Int) (w:World) (a:HG w):Calls Tryz.prog 51 #[.iface 120 (.agg #[.int .i64 c,.int .i64 k])] w fun e j=>e=.returned (.int .i64 c)/\Below w.heap.size w j:=by
 go_enter Tryz.func51,Tryz.ntmps51
 go_wp2_with (go_at_call 94;refine(zb3 c k w a).mono ?_;rintro e u ⟨rfl,hb,hc⟩)
 go_ret
 exact⟨rfl,hb⟩
def z2:Obj:=.cells #[.int .i64 0,.int .i64 0] 120
theorem zaW {D:Nat->Nat->Prop} {w:World} {v:Value} {c:Int} {t:TypeId} (h:Dat D w v (.ifc t (.v (.int .i64 c)))):v=.iface t (.int .i64 c):=by
 cases h with
 | ifc t x p h=>rw [h.v_inv]
theorem zaX {D:Nat->Nat->Prop} {w:World} {v:Value} {c k:Int} {t:TypeId} (h:Dat D w v (.ifc t (.agg [.v (.int .i64 c),.v (.int .i64 k)]))):v=.iface t (.agg #[.int .i64 c,.int .i64 k]):=by
 cases h with
 | ifc t x p h=>
   generalize hc:[PV.v (.int .i64 c),PV.v (.int .i64 k)]=cs at h
   cases h with
   | agg us cs hs _ h=>
     subst hc
     obtain⟨l⟩:=us
     match l,hs with
     | [x,y],_=>
       have a:=(h 0 _ rfl).v_inv
       have e1:=(h 1 _ rfl).v_inv
       simp at a e1
       rw [a,e1]
theorem KL (c:Nat):Cn Tryz.prog 51 [Z2 c] (.v (.int .i64 c)):=by
 refine KK rfl (enters_of Tryz.func51 (by kernel_rfl) rfl) fun D w A u y a j=>?_
 rw [zjw a,zaW (j 0 _ rfl)]
 refine(zhu c w u).mono ?_
 rintro e B ⟨rfl,hb⟩
 exact⟨_,rfl,hb,.v _⟩
theorem Ju (c:Nat) (k:Int):Cn Tryz.prog 51 [jS c k] (.v (.int .i64 c)):=by
 refine KK rfl (enters_of Tryz.func51 (by kernel_rfl) rfl) fun D w C y B j u=>?_
 have a:=u 0 _ rfl
 unfold jS at a
 rw [zjw j]
 by_cases hc:c=0
 ·rw [if_pos hc] at a
  subst hc
  rw [a.v_inv]
  refine(zcs w).mono ?_
  rintro e A ⟨rfl,hb⟩
  exact⟨_,rfl,hb,.v _⟩
 ·rw [if_neg hc] at a
  rw [zaX a]
  refine(zht c k w y).mono ?_
  rintro e A ⟨rfl,hb⟩
  exact⟨_,rfl,hb,.v _⟩
theorem zcd (e:En) (h:zO e) (hl:e.holes.length<=10000):Cn Tryz.prog 178 [ep e] (.tup [ep (kP e).1,.v (.bool (kP e).2)]):=by
 have a:=kW e
 refine zt Tryz.func178 1 ?_
 refine pw ?_
 refine .c (Vl e h (by omega)) ?_
 refine .c (zg1 e.rep (kn e) (qT h) (by omega)) ?_
 rfl
def JF (v:List En):Bool:=v.all (fun e=>decide (e.holes.length<=30)) && decide (v.length<=20)
theorem vw {v:List En}:JF v=true ↔ (∀ e ∈ v,e.holes.length<=30)/\v.length<=20:=by simp [JF]
def prv (v:List En) (k:Nat):Nat:=match v[k - 1]? with
 | some p=>p.rep
 | none=>0
theorem Xl {v:List En} {k:Nat} (h:k - 1<v.length):prv v k=v[k - 1].rep:=by simp [prv,List.getElem?_eq_getElem h]
def hkV (v:List En):Nat->List En->Nat × Int
 | _,[]=>(0,-1)
 | k,e::r=>if (yV e).1≠0 then ((yV e).1,(k:Int)) else if 0<k/\e.rep<=prv v k then (3,(k:Int)) else hkV v (k+1) r
def jx (v:List En):Nat × Int:=hkV v 0 v
theorem Ve (v:List En):∀(k:Nat) (r:List En),r=v.drop k->((hkV v k r).1=0 ↔ (∀ e ∈ r,(yV e).1=0)/\∀ j (h:j<v.length),k<=j->0<j->v[j - 1].rep<v[j].rep)
 | k,[],h=>by
   have hl:=congrArg List.length h
   simp at hl
   simp only [hkV,List.not_mem_nil,false_implies,implies_true,true_and,true_iff]
   intro j C hk
   omega
 | k,e::r,h=>by
   have hl:=congrArg List.length h
   simp at hl
   have hk:k<v.length:=by omega
   rw [List.drop_eq_getElem_cons hk,List.cons.injEq] at h
   obtain⟨H,K⟩:=h
   have ih:=Ve v (k+1) r K
   unfold hkV
   by_cases B:(yV e).1≠0
   ·rw [if_pos B]
    constructor
    ·intro h;exact absurd h B
    ·rintro⟨a,_⟩;exact absurd (a e (by simp)) B
   ·rw [if_neg B]
    have E:(yV e).1=0:=by omega
    by_cases a:0<k/\e.rep<=prv v k
    ·rw [if_pos a]
     constructor
     ·intro h;cases h
     ·rintro⟨_,w⟩
      have:=w k hk (Nat.le_refl _) a.1
      have F:=a.2
      have I:=congrArg En.rep H
      rw [Xl (by omega)] at F
      omega
    ·rw [if_neg a,ih]
     constructor
     ·rintro⟨w,G⟩
      refine⟨fun f y=>?_,fun j C A u=>?_⟩
      ·rcases List.mem_cons.1 y with rfl | y
       ·exact E
       ·exact w f y
      ·rcases Nat.eq_or_lt_of_le A with rfl | J
       ·rw [Xl (by omega),H] at a
        omega
       ·exact G j C (by omega) u
     ·rintro⟨w,G⟩
      exact⟨fun f y=>w f (by simp [y]),fun j C A u=>G j C (by omega) u⟩
theorem zb0 {v:List En} (h:∀ j (h:j<v.length),0<j->v[j - 1].rep<v[j].rep):v.Pairwise fun a b=>a.rep<b.rep:=by
 rw [List.pairwise_iff_getElem]
 intro i j hi A u
 induction j with
 | zero=>omega
 | succ j ih=>
   have w:=h (j+1) A (by omega)
   simp only [Nat.add_sub_cancel] at w
   rcases Nat.eq_or_lt_of_le (Nat.le_of_lt_succ u) with rfl | y
   ·exact w
   ·have:=ih (by omega) y
    omega
theorem XP {v:List En} (hb:∀ e ∈ v,ZL e):(jx v).1=0 ↔ RightV v:=by
 unfold jx
 rw [Ve v 0 v rfl]
 have B:∀ e ∈ v,(yV e).1=0 ↔ zO e:=fun e a=>by
  have:=VU (hb e a).1 (hb e a).2.1 (hb e a).2.2
  unfold Xu at this
  simpa using this
 constructor
 ·rintro⟨u,w⟩
  exact⟨fun e a=>(B e a).1 (u e a),zb0 fun j y A=>w j y (Nat.zero_le _) A⟩
 ·rintro⟨u,w⟩
  refine⟨fun e a=>(B e a).2 (u e a),fun j y _ A=>?_⟩
  exact List.pairwise_iff_getElem.1 w (j - 1) j (by omega) y (by omega)
def fdV (r:Nat):Nat->List En->Int
 | _,[] => -1
 | k,e::t=>if e.rep=r then (k:Int) else fdV r (k+1) t
theorem X2 (r:Nat):∀(l:List En) (k:Nat),(fdV r k l=-1/\∀ e ∈ l,e.rep≠r)\/∃(i:Nat) (h:i<l.length),fdV r k l=((k+i:Nat):Int)/\l[i].rep=r
 | [],k=>.inl ⟨rfl,fun _ h=>by cases h⟩
 | e::t,k=>by
   unfold fdV
   by_cases h:e.rep=r
   ·rw [if_pos h]
    exact .inr ⟨0,by simp,by simp,h⟩
   ·rw [if_neg h]
    rcases X2 r t (k+1) with⟨a,j⟩ | ⟨i,hi,a,j⟩
    ·refine .inl ⟨a,fun f u=>?_⟩
     rcases List.mem_cons.1 u with rfl | u
     ·exact h
     ·exact j f u
    ·exact .inr ⟨i+1,by simpa using hi,by rw [a];omega,by simpa using j⟩
theorem zoo {v:List En} (h:RightV v) (r:Nat):∃ i,i<=v.length/\(∀ j,(h:j<v.length)->j<i->v[j].rep<r)/\(∀ j,(h:j<v.length)->i<=j->r<=v[j].rep):=by
 have F:=List.pairwise_iff_getElem.1 h.2
 obtain⟨i,B,C,E⟩:=KV (fun j=>∃ h:j<v.length,v[j].rep<r) v.length fun a b hab hb ⟨h4,h5⟩=>by
  refine⟨by omega,?_⟩
  rcases Nat.lt_or_eq_of_le hab with u | u
  ·have:=F a b (by omega) hb u
   omega
  ·subst u;exact h5
 exact⟨i,B,fun j y A=>(C j A).2,fun j y w=>Nat.le_of_not_lt fun h=>E j w y ⟨y,h⟩⟩
theorem zoj {v:List En} (B:RightV v) {r i:Nat} (w:∀ j,(h:j<v.length)->j<i->v[j].rep<r) (y:∀ j,(h:j<v.length)->i<=j->r<=v[j].rep) :
 fdV r 0 v=if h:i<v.length then (if v[i].rep=r then (i:Int) else -1) else -1:=by
 have A:=List.pairwise_iff_getElem.1 B.2
 rcases X2 r v 0 with⟨e1,e2⟩ | ⟨j,u,e1,e2⟩
 ·rw [e1]
  split
  ·rename_i h
   rw [if_neg (e2 _ (List.getElem_mem h))]
  ·rfl
 ·have a:i<=j:=Nat.le_of_not_lt fun h=>by have:=w j u h;omega
  have:i=j:=by
   rcases Nat.lt_or_eq_of_le a with h | h
   ·have C:=A i j (by omega) u h
    have E:=y i (by omega) (Nat.le_refl _)
    omega
   ·exact h
  subst this
  rw [dif_pos u,if_pos e2,e1,Nat.zero_add]
theorem zh8 {v:List En} (a:RightV v) {r i:Nat} (hi:i<v.length) (h:v[i].rep=r):zT v r=kn v[i]:=by
 rw [<-h];exact kq a.2 (List.getElem_mem hi)
def zZ:List Nat->List Nat->Int
 | [],[]=>0
 | [],_::_ => -1
 | _::_,[]=>1
 | a::x,b::y=>if a<b then -1 else if b<a then 1 else zZ x y
theorem ZV:∀ a b,zZ b a=- zZ a b
 | [],[]=>rfl
 | [],_::_=>rfl
 | _::_,[]=>rfl
 | a::x,b::y=>by
   unfold zZ
   split
   ·rw [if_neg (by omega)];try rfl
   ·split
    ·rfl
    ·exact ZV x y
theorem jc:∀ a b,zZ a b=0 ↔ a=b
 | [],[]=>by simp [zZ]
 | [],_::_=>by simp [zZ]
 | _::_,[]=>by simp [zZ]
 | a::x,b::y=>by
   unfold zZ
   rw [List.cons.injEq]
   split
   ·constructor
    ·intro h;cases h
    ·rintro⟨h,_⟩;omega
   ·split
    ·constructor
     ·intro h;cases h
     ·rintro⟨h,_⟩;omega
    ·rw [jc x y]
     constructor
     ·intro h;exact⟨by omega,h⟩
     ·exact And.right
theorem ZW:∀ a b c,zZ a b<=0->zZ b c<=0->zZ a c<=0
 | [],_,[],_,_=>by simp [zZ]
 | [],_,_::_,_,_=>by simp [zZ]
 | _::_,[],_,h,_=>by simp [zZ] at h
 | _::_,_::_,[],_,h=>by simp [zZ] at h
 | a::x,b::y,c::z,h1,h2=>by
   unfold zZ at h1 h2 ⊢
   split
   ·omega
   ·split at h1
    ·split at h2
     ·omega
     ·split at h2
      ·omega
      ·omega
    ·split at h1
     ·omega
     ·split at h2
      ·omega
      ·split at h2
       ·omega
       ·rw [if_neg (by omega)]
        exact ZW x y z h1 h2
theorem Yn:∀ {a b:List Iv},a.flatMap (fun s=>[s.lo,s.hi])=b.flatMap (fun s=>[s.lo,s.hi])->a=b
 | [],[],_=>rfl
 | [],_::_,h=>by simp at h
 | _::_,[],h=>by simp at h
 | s::a,t::b,h=>by
   simp only [List.flatMap_cons,List.cons_append,List.nil_append,List.cons.injEq] at h
   rw [Iv.ext' h.1 h.2.1,Yn h.2.2]
theorem xx (a:List Iv):(a.flatMap (fun s=>[s.lo,s.hi])).length=2 * a.length:=by
 induction a with
 | nil=>rfl
 | cons s a ih=>simp only [List.flatMap_cons,List.length_append,List.length_cons,List.length_nil,ih];omega
theorem YA:∀ {a b:List En} ,a.length=b.length->a.flatMap zC=b.flatMap zC->a=b
 | [],[],_,_=>rfl
 | [],_::_,h,_=>by simp at h
 | _::_,[],h,_=>by simp at h
 | e::a,f::b,hl,h=>by
   simp only [List.flatMap_cons,zC,List.cons_append,List.cons.injEq] at h
   obtain⟨u,w,y,A⟩:=h
   have j:=List.append_inj A (by rw [xx,xx,y])
   rw [En.ext' u w (Yn j.1),YA (by simpa using hl) j.2]
theorem Vv {a b:List En} (h:zv a=zv b):a=b:=by
 unfold zv at h
 simp only [List.cons.injEq] at h
 exact YA h.1 h.2
def ZJ (v:List En) (i:Nat):List Nat:=v.length::(v.take i).flatMap zC
def Q7 (v:List En) (i:Nat) (h:i<v.length) (j:Nat):List Nat:=ZJ v i++[v[i].rep,v[i].max,v[i].holes.length]++(v[i].holes.take j).flatMap fun s=>[s.lo,s.hi]
theorem ziE (v:List En):ZJ v 0=[v.length]:=by simp [ZJ]
theorem VF {v:List En} {i:Nat} (h:¬ i<v.length):ZJ v i=zv v:=by unfold ZJ zv;rw [List.take_of_length_le (by omega)]
theorem ziD {v:List En} {i:Nat} (h:i<v.length):Q7 v i h 0=ZJ v i++[v[i].rep,v[i].max,v[i].holes.length]:=by simp [Q7]
theorem zbu {v:List En} {i:Nat} (h:i<v.length) {j:Nat} (a:j<v[i].holes.length):Q7 v i h (j+1)=Q7 v i h j++[v[i].holes[j].lo,v[i].holes[j].hi]:=by
 unfold Q7
 rw [List.take_succ_eq_append_getElem a,List.flatMap_append]
 simp
theorem zdH {v:List En} {i:Nat} (h:i<v.length) {j:Nat} (a:¬ j<v[i].holes.length):Q7 v i h j=ZJ v (i+1):=by
 unfold Q7 ZJ
 rw [List.take_of_length_le (l:=v[i].holes) (i:=j) (by omega),List.take_succ_eq_append_getElem h,List.flatMap_append]
 simp [zC]
theorem vQ {v:List En} (h:∀ e ∈ v,e.holes.length<=1048576):∀ i,i<=v.length->(ZJ v i).length<=1+2097155 * i
 | 0,_=>by simp [ZJ]
 | i+1,hi=>by
   have ih:=vQ h i (by omega)
   have hl:=h _ (List.getElem_mem (show i<v.length by omega))
   unfold ZJ at ih ⊢
   rw [List.take_succ_eq_append_getElem (show i<v.length by omega),List.flatMap_append]
   simp only [List.length_cons,List.length_append,List.flatMap_cons,List.flatMap_nil,List.append_nil,zC,xx] at ih ⊢
   omega
theorem zdI {v:List En} (hb:∀ e ∈ v,e.holes.length<=1048576) {i:Nat} (h:i<v.length) {j:Nat} (a:j<=v[i].holes.length):(Q7 v i h j).length<=4+2097155 * i+2 * j:=by
 have:=vQ hb i (by omega)
 unfold Q7
 simp only [List.length_append,List.length_cons,List.length_nil,xx,List.length_take]
 omega
end Go.Proofs.YtonhfknjcbakiaaGreatDoor
namespace Go.Proofs.YtonhfknjcbakiaaGreatDoor
theorem Ji:∀(r a:List Nat),YN r->(∀ y ∈ r,y ∈ a)->r.length<=a.length:=by
 intro r
 induction r with
 | nil=>intro a _ _;exact Nat.zero_le _
 | cons x r ih=>
   intro a h u
   have j:=List.pairwise_cons.1 h
   have:=ih (a.erase x) j.2 fun y A=>by
    have B:=j.1 y A
    exact(List.mem_erase_of_ne (by omega)).2 (u y (by simp [A]))
   have w:x ∈ a:=u x (by simp)
   rw [List.length_erase_of_mem w] at this
   have:=List.length_pos_of_mem w
   simp;omega
def Ed (l:List Iv) (x:Nat):Prop:=x<M64/\mem l x≠(if x=0 then false else mem l (x - 1))
theorem NF.lo_prev:∀ {l:List Iv} {n:Nat},NF n l->∀ s ∈ l,s.lo≠0->mem l (s.lo - 1)=false
 | [],_,_,s,hs,_=>by cases hs
 | t::l,n,h,s,hs,h0=>by
   obtain⟨j,u,w,a⟩:=h
   rcases List.mem_cons.1 hs with rfl | hs
   ·rw [zz,a.mem_lt (by omega),decide_eq_false (show ¬ s.lo<=s.lo - 1 by omega)]
    rfl
   ·have:=a.lo_ge s hs
    rw [zz,NF.lo_prev a s hs h0,decide_eq_false (show ¬ s.lo - 1<=t.hi by omega)]
    simp
theorem NF.asc:∀ {l:List Iv} {n:Nat},NF n l->YN (l.map Iv.lo)
 | [],_,_=>List.Pairwise.nil
 | t::l,n,h=>by
   refine List.pairwise_cons.2 ⟨fun y a=>?_,NF.asc h.2.2.2⟩
   obtain⟨s,hs,rfl⟩:=List.mem_map.1 a
   have:=h.2.2.2.lo_ge s hs
   have:=h.2.1
   omega
theorem zjS {l:List Iv} (h:Nrm l) {s:Iv} (hs:s ∈ l):Ed l s.lo:=by
 have a:=NF.lo_ge h s hs
 have j:mem l s.lo=true:=qf.2 ⟨s,hs,Nat.le_refl _,a.2.1⟩
 refine⟨by omega,?_⟩
 rw [j]
 split
 ·simp
 ·rename_i h0
  rw [NF.lo_prev h s hs h0]
  simp
theorem zcK {l:List Iv} {C:List Nat} (h:Nrm l) (a:∀ x,Ed l x->x ∈ C):l.length<=C.length:=by
 have:=Ji (l.map Iv.lo) C (NF.asc h) fun y j=>by
  obtain⟨s,hs,rfl⟩:=List.mem_map.1 j
  exact a _ (zjS h hs)
 simpa using this
theorem Y3 {l:List Iv} (h:∀ s ∈ l,s.lo<=s.hi/\s.hi<M64) {x:Nat} (j:Ed l x):x ∈ z6 l:=by
 refine Classical.byContradiction fun a=>j.2 ?_
 split
 ·rename_i h0
  subst h0
  cases hm:mem l 0 with
  | false=>rfl
  | true=>
    obtain⟨s,hs,u,w⟩:=qf.1 hm
    exact absurd (show 0 ∈ z6 l from List.mem_flatMap.2 ⟨s,hs,List.mem_cons.2 (.inl (by omega))⟩) a
 ·exact Qh h (x:=x - 1) (y:=x) (by omega) j.1 fun c hc=>by
   have:c≠x:=fun e=>a (e ▸ hc)
   omega
theorem Nrm.ivs2 {l:List Iv} (h:Nrm l):∀ s ∈ l,s.lo<=s.hi/\s.hi<M64:=fun s hs=>(NF.lo_ge h s hs).2
theorem zcM {f:Bool->Bool->Bool} (A:f false false=false) {a b:List Iv} (ha:Nrm a) (hb:Nrm b) {x:Nat} (h:Ed (qy f a b) x):Ed a x\/Ed b x:=by
 obtain⟨u,j⟩:=h
 by_cases w:mem a x=(if x=0 then false else mem a (x - 1))
 ·by_cases y:mem b x=(if x=0 then false else mem b (x - 1))
  ·refine absurd ?_ j
   rw [qj ha hb u,w,y]
   split
   ·exact A
   ·rw [qj ha hb (by omega)]
  ·exact .inr ⟨u,y⟩
 ·exact .inl ⟨u,w⟩
theorem zcL {x:Nat}:¬ Ed [] x:=fun h=>h.2 (by simp)
theorem zhC {m n x:Nat} (h:Ed [⟨m,n⟩] x):x=m\/x=n+1:=by
 obtain⟨_,h⟩:=h
 rw [jl,jl] at h
 by_cases e1:x=m
 ·exact .inl e1
 ·by_cases e2:x=n+1
  ·exact .inr e2
  ·refine absurd ?_ h
   split
   ·rename_i h0
    rw [decide_eq_false (show ¬ m<=x by omega)]
    rfl
   ·rw [Bool.eq_iff_iff]
    simp only [Bool.and_eq_true,decide_eq_true_eq]
    omega
def EdV (C:Nat->List Nat) (v:List En):Prop:=∀ r x,Ed (zT v r) x->x ∈ C r
structure IV (C:Nat->List Nat) (R:List Nat) (v:List En):Prop where
 right:RightV v
 ed:EdV C v
 rep:∀ e ∈ v,e.rep ∈ R
structure WV (C:Nat->List Nat) (R:List Nat) (v:List En):Prop where
 can:CanV v
 ed:EdV C v
 rep:∀ e ∈ v,e.rep ∈ R
variable {C C':Nat->List Nat} {R R':List Nat} {v a b:List En}
theorem WV.iv (h:WV C R v):IV C R v:=⟨h.can.right,h.ed,h.rep⟩
theorem WV.nil:WV C R []:=⟨⟨fun e h=>(by cases h),List.Pairwise.nil⟩,fun r x h=>absurd h (by rw [kr];exact zcL),fun e h=>(by cases h)⟩
theorem IV.mono (h:IV C R v) (a:∀ r x,x ∈ C r->x ∈ C' r) (j:∀ x ∈ R,x ∈ R'):IV C' R' v:=⟨h.right,fun r x w=>a _ _ (h.ed r x w),fun e u=>j _ (h.rep e u)⟩
theorem WV.mono (h:WV C R v) (a:∀ r x,x ∈ C r->x ∈ C' r) (j:∀ x ∈ R,x ∈ R'):WV C' R' v:=⟨h.can,fun r x w=>a _ _ (h.ed r x w),fun e u=>j _ (h.rep e u)⟩
theorem IV.lat {f:Bool->Bool->Bool} (w:f false false=false) (ha:IV C R a) (hb:IV C R b):WV C R (ks f a b):=by
 refine⟨Xe f ha.right hb.right,fun r x y=>?_,fun e A=>?_⟩
 ·rw [JR w ha.right hb.right] at y
  rcases zcM w (qi ha.right r) (qi hb.right r) y with h | h
  ·exact ha.ed r x h
  ·exact hb.ed r x h
 ·have:=qr.1 (zdd e A)
  rcases List.mem_append.1 this with h | h
  ·obtain⟨u,j,h⟩:=List.mem_map.1 h
   rw [<-h];exact ha.rep u j
  ·obtain⟨u,j,h⟩:=List.mem_map.1 h
   rw [<-h];exact hb.rep u j
theorem IV.canVec (h:IV C R v):WV C R (zi v):=by
 refine⟨jN h.right,fun r x y=>h.ed r x (by rwa [ja h.right] at y),fun e w=>?_⟩
 obtain⟨j,a,u⟩:=List.mem_filterMap.1 w
 rw [(v9 u).2.2]
 exact h.rep j a
theorem QY {e:En} (h:YP e) {L:List Nat} (A:∀ x,Ed (kn e) x->x ∈ L):e.holes.length<=L.length+2:=by
 have u:=ZM h
 have w:=(jO h).1
 have a:=qT h.1
 rw [qD w] at u
 have y:e.holes=qy zm [⟨0,QV (kn e)⟩] (kn e):=by
  have:=congrArg (fun p=>p.1.holes) u
  exact this.symm
 have ht:=(x9 a w).2
 have j:=qG (Nat.zero_le (QV (kn e))) ht
 rw [y]
 have:=zcK (C:=0::(QV (kn e)+1)::L) (qH (f:=zm) j a) fun x B=>by
  rcases zcM fM0 j a B with h | h
  ·rcases zhC h with h | h<;>simp [h]
  ·simp [A x h]
 simpa using this
theorem zb5 (h:v.Pairwise fun a b=>a.rep<b.rep):YN (zM v):=by
 unfold YN zM
 rw [List.pairwise_map]
 exact h
theorem WV.bv (h:WV C R v) {n m:Nat} (j:∀ r,(C r).length<=n) (A:R.length<=m):BV m (n+2) v:=by
 refine⟨h.can.right,?_,fun e a=>?_⟩
 ·have:=Ji (zM v) R (zb5 h.can.2) fun y w=>by
   obtain⟨e,a,rfl⟩:=List.mem_map.1 w
   exact h.rep e a
  simp only [zM,List.length_map] at this
  omega
 ·have:=QY (h.can.1 e a) (L:=C e.rep) fun x u=>h.ed e.rep x (by rw [kq h.can.2 a];exact u)
  have:=j e.rep
  omega
theorem IV.of (h:RightV v):IV (fun r=>z6 (zT v r)) (zM v) v:=⟨h,fun r x j=>Y3 (qi h r).ivs2 j,fun e a=>List.mem_map.2 ⟨e,a,rfl⟩⟩
end Go.Proofs.YtonhfknjcbakiaaGreatDoor
namespace Go.Proofs.YtonhfknjcbakiaaGreatDoor
open Go.RowKit
theorem zj5 (v:List En) (hl:v.length<=9223372036854775807):Cn Tryz.prog 53 [vp v] (.v (.bool (JF v))):=by
 refine zt Tryz.func53 1 ?_
 refine pw ?_
 refine pLoop.go (fun k=>k<=v.length/\JF v=((v.drop k).all (fun e=>decide (e.holes.length<=30)) && decide (v.length<=20))) (fun k=>[(3,.v (.int .i64 (k:Nat)))]) (fun _=>[]) (fun k=>v.length - k) 0 [3] ?_ ?_ ?_
 ·exact⟨Nat.zero_le _,rfl⟩
 ·exact pd
 ·rintro k ⟨hk,a⟩
  refine pw ?_
  refine .i ?_ ?_<;>intro h<;>(try simp only [nrm_l] at h)<;>first | refine pw ?_ | exact pd
  ·rw [List.drop_eq_getElem_cons h,List.all_cons] at a
   refine pw ?_
   refine .i ?_ ?_<;>intro j<;>(try simp only [nrm_l] at j)<;>first | refine pw ?_ | exact pd
   ·rw [a,decide_eq_false (by omega)]
    rfl
   ·rw [decide_eq_true (by omega),Bool.true_and] at a
    exact⟨k+1,⟨h,a⟩,by omega,rfl⟩
  ·rw [a,List.drop_of_length_le (by omega)]
   simp
   omega
theorem zdn (x:Nat):Cn Tryz.prog 170 [.v (.int .u64 x)] (.v (.bool false)):=by
 refine zt Tryz.func170 1 ?_
 exact pd
theorem zdm (x:Int):Cn Tryz.prog 228 [.v (.int .i64 x)] (.v (.bool false)):=by
 refine zt Tryz.func228 1 ?_
 exact pd
theorem XQ (x y:Nat):Cn Tryz.prog 129 [.v (.int .u64 x),.v (.int .u64 y)] (.v (.int .i64 (if x<y then -1 else if y<x then 1 else 0))):=by
 refine zt Tryz.func129 2 ?_
 refine pw ?_
 refine .c (zdn x) ?_
 refine .c (zdn y) ?_
 refine .i ?_ ?_<;>intro a<;>(try simp only [nrm_l] at a)<;>first | refine pw ?_ | exact pd
 ·rw [if_pos a]
 ·rw [if_neg (by omega)]
  refine .i ?_ ?_<;>intro j<;>(try simp only [nrm_l] at j)<;>first | refine pw ?_ | exact pd
  ·rw [if_pos j]
  ·rw [if_neg (by omega)]
theorem zhq (x y:Nat):Cn Tryz.prog 213 [.v (.int .i64 x),.v (.int .i64 y)] (.v (.int .i64 (if x<y then -1 else if y<x then 1 else 0))):=by
 refine zt Tryz.func213 2 ?_
 refine pw ?_
 refine .c (zdm x) ?_
 refine .c (zdm y) ?_
 refine .i ?_ ?_<;>intro a<;>(try simp only [nrm_l] at a)<;>first | refine pw ?_ | exact pd
 ·rw [if_pos a]
 ·rw [if_neg (by omega)]
  refine .i ?_ ?_<;>intro j<;>(try simp only [nrm_l] at j)<;>first | refine pw ?_ | exact pd
  ·rw [if_pos j]
  ·rw [if_neg (by omega)]
theorem zkx (r:Nat) (e:En):Cn Tryz.prog 157 [.v (.int .u64 r),ep e] (.v (.int .i64 (if e.rep<r then -1 else if r<e.rep then 1 else 0))):=by
 refine zt Tryz.func157 2 ?_
 refine pw ?_
 exact .d (XQ e.rep r)
theorem zfV (a b:List Nat) (ha:a.length<=1152921504606846976) (hb:b.length<=1152921504606846976):Cn Tryz.prog 199 [ns a,ns b] (.v (.int .i64 (zZ a b))):=by
 refine zt Tryz.func199 2 ?_
 refine pw ?_
 obtain⟨m,e1,H,I,B⟩:∃ m:Nat,(if b.length<a.length then (b.length:Int) else (a.length:Int))=(m:Int)/\m<=a.length/\m<=b.length/\(m=a.length\/m=b.length):=by
  by_cases h:b.length<a.length
  ·exact⟨b.length,if_pos h,by omega,by omega,.inr rfl⟩
  ·exact⟨a.length,if_neg h,by omega,by omega,.inl rfl⟩
 rw [e1]
 refine pLoop.go (fun k=>k<=m/\zZ a b=zZ (a.drop k) (b.drop k)) (fun k=>[(11,.v (.int .i64 (k:Nat)))]) (fun _=>[]) (fun k=>m - k) 0 [11] ?_ ?_ ?_
 ·exact⟨Nat.zero_le _,rfl⟩
 ·exact pd
 ·rintro k ⟨hk,j⟩
  refine pw ?_
  refine .i ?_ ?_<;>intro h<;>(try simp only [nrm_l] at h)<;>first | refine pw ?_ | exact pd
  ·have C:k<a.length:=by omega
   have E:k<b.length:=by omega
   rw [List.drop_eq_getElem_cons C,List.drop_eq_getElem_cons E,zZ] at j
   refine pw ?_
   refine .i ?_ ?_<;>intro F<;>(try simp only [nrm_l] at F)<;>first | refine pw ?_ | exact pd
   ·refine .c (XQ a[k] b[k]) ?_
    rw [j]
    by_cases u:a[k]<b[k]
    ·rw [if_pos u,if_pos u]
    ·rw [if_neg u,if_neg u,if_pos (by omega),if_pos (by omega)]
   ·rw [if_neg (by omega),if_neg (by omega)] at j
    exact⟨k+1,⟨h,j⟩,by omega,rfl⟩
  ·refine .c (zhq a.length b.length) ?_
   have G:a.drop k=[]\/b.drop k=[]:=by
    rcases B with B | B
    ·exact .inl (List.drop_of_length_le (by omega))
    ·exact .inr (List.drop_of_length_le (by omega))
   have w:(a.drop k).length=a.length - k:=List.length_drop
   have A:(b.drop k).length=b.length - k:=List.length_drop
   rw [j]
   generalize a.drop k=x at *
   generalize b.drop k=y at *
   rcases G with rfl | rfl
   ·cases y with
    | nil=>simp at w A;rw [if_neg (by omega),if_neg (by omega)];rfl
    | cons c y=>simp at w A;rw [if_pos (by omega)];rfl
   ·cases x with
    | nil=>simp at w A;rw [if_neg (by omega),if_neg (by omega)];rfl
    | cons c y=>simp at w A;rw [if_neg (by omega),if_pos (by omega)];rfl
theorem Ks (a b:List En) (ha:∀ e ∈ a,ZL e) (hb:∀ e ∈ b,ZL e) (j:(zv a).length<=1073741824) (u:(zv b).length<=1073741824):Cn Tryz.prog 165 [vp a,vp b] (.v (.int .i64 (zZ (zv a) (zv b)))):=by
 refine zt Tryz.func165 2 ?_
 refine pw ?_
 refine .c (Yz a ha j) ?_
 refine .c (Yz b hb u) ?_
 exact .d (zfV (zv a) (zv b) (by omega) (by omega))
theorem zji (a b:List En) (hl:a.length<=1152921504606846976) (B:∀ e ∈ a,e.holes.length<=1152921504606846976):Cn Tryz.prog 61 [vp a,vp b] (.v (.bool (decide (a=b)))):=by
 refine zt Tryz.func61 2 ?_
 refine pw ?_
 refine .i ?_ ?_<;>intro j<;>(try simp only [nrm_l] at j)<;>first | refine pw ?_ | exact pd
 ·symm
  rw [decide_eq_false_iff_not]
  rintro rfl
  exact j rfl
 ·have y:a.length=b.length:=by simpa using j
  clear j
  refine pLoop.go (fun k=>k<=a.length/\(a=b ↔ a.drop k=b.drop k)) (fun k=>[(5,.v (.int .i64 (k:Nat)))]) (fun _=>[]) (fun k=>a.length - k) 0 [5] ?_ ?_ ?_
  ·exact⟨Nat.zero_le _,Iff.rfl⟩
  ·exact pd
  ·rintro k ⟨hk,u⟩
   refine pw ?_
   refine .i ?_ ?_<;>intro h<;>(try simp only [nrm_l] at h)<;>first | refine pw ?_ | exact pd
   ·have w:k<b.length:=by omega
    rw [List.drop_eq_getElem_cons h,List.drop_eq_getElem_cons w,List.cons.injEq] at u
    refine pw ?_
    refine .c (zjh a[k] b[k] (B _ (List.getElem_mem h))) ?_
    refine .i ?_ ?_<;>intro e<;>(try simp only [nrm_l] at e)<;>first | refine pw ?_ | exact pd
    ·symm
     rw [decide_eq_false_iff_not]
     intro A
     exact e (u.1 A).1
    ·refine⟨k+1,⟨h,?_⟩,by omega,rfl⟩
     rw [u]
     exact⟨fun h=>h.2,fun h=>⟨e,h⟩⟩
   ·rw [eq_comm,decide_eq_true_eq,u,List.drop_of_length_le (by omega),List.drop_of_length_le (by omega)]
theorem zbB (v:List En) (r:Nat) (hl:v.length<=1152921504606846976):Cn Tryz.prog 134 [vp v,.v (.int .u64 r)] (.v (.int .i64 (fdV r 0 v))):=by
 refine zt Tryz.func134 2 ?_
 refine pw ?_
 refine pLoop.go (fun k=>k<=v.length/\fdV r 0 v=fdV r k (v.drop k)) (fun k=>[(5,.v (.int .i64 (k:Nat)))]) (fun _=>[]) (fun k=>v.length - k) 0 [5] ?_ ?_ ?_
 ·exact⟨Nat.zero_le _,rfl⟩
 ·exact pd
 ·rintro k ⟨hk,a⟩
  refine pw ?_
  refine .i ?_ ?_<;>intro h<;>(try simp only [nrm_l] at h)<;>first | refine pw ?_ | exact pd
  ·rw [List.drop_eq_getElem_cons h,fdV] at a
   refine pw ?_
   refine .i ?_ ?_<;>intro j<;>(try simp only [nrm_l] at j)<;>first | refine pw ?_ | exact pd
   ·rw [a,if_pos j]
   ·rw [if_neg j] at a
    exact⟨k+1,⟨h,a⟩,by omega,rfl⟩
  ·rw [a,List.drop_of_length_le (by omega)]
   rfl
def kfn:PV:=.cp [.fn (.func 157) [] []] 0
attribute [go_sem] kfn
theorem znQ (e:En) (r:Nat):Cn Tryz.prog 187 [ep e,.v (.int .u64 r),kfn] (.v (.int .i64 (if e.rep<r then -1 else if r<e.rep then 1 else 0))):=by
 refine zt Tryz.func187 3 ?_
 refine pw ?_
 exact .d (zkx r e)
theorem zoR (v:List En) (r:Nat) (i:Nat) (hi:i<=v.length) (G:∀ j,(h:j<v.length)->j<i->v[j].rep<r) (y:∀ j,(h:j<v.length)->i<=j->r<=v[j].rep) (hl:v.length<=1152921504606846976) :
 Cn Tryz.prog 186 [vp v,.v (.int .u64 r),.fn (.func 187) [] [kfn]] (.tup [.v (.int .i64 i),.v (.bool (if h:i<v.length then decide (v[i].rep=r) else false))]):=by
 refine zt Tryz.func186 3 ?_
 refine pw ?_
 refine pLoop.go (fun p:Nat × Nat=>p.1<=i/\i<=p.2/\p.2<=v.length) (fun p=>[(9,.v (.int .i64 (p.1:Nat))),(10,.v (.int .i64 (p.2:Nat)))]) (fun _=>[]) (fun p=>p.2 - p.1) (0,v.length) [9,10] ?_ ?_ ?_
 ·exact⟨Nat.zero_le _,hi,Nat.le_refl _⟩
 ·exact pd
 ·rintro⟨p,q⟩ ⟨B,C,E⟩
  simp only at B C E
  refine pw ?_
  refine .i ?_ ?_<;>intro h<;>(try simp only [nrm_l] at h)<;>first | refine pw ?_ | exact pd
  ·have A:(p+q) / 2<v.length:=by omega
   have F:=G _ A
   have w:=y _ A
   refine pw ?_
   refine .c (znQ v[(p+q) / 2] r) ?_
   refine .i ?_ ?_<;>intro a<;>(try simp only [nrm_l] at a)<;>first | refine pw ?_ | exact pd
   ·refine⟨((p+q) / 2+1,q),⟨?_,C,E⟩,by simp only;omega,rfl,rfl⟩
    simp only
    refine Nat.lt_of_not_le fun u=>?_
    have:=w u
    rw [if_neg (by omega)] at a
    split at a<;>omega
   ·refine⟨(p,(p+q) / 2),⟨B,?_,by simp only;omega⟩,by simp only;omega,rfl,rfl⟩
    simp only
    refine Nat.le_of_not_lt fun u=>?_
    have:=F u
    rw [if_pos this] at a
    omega
  ·obtain rfl:p=i:=by omega
   obtain rfl:q=p:=by omega
   refine .i ?_ ?_<;>intro a<;>(try simp only [nrm_l] at a)<;>first | refine pw ?_ | exact pd
   ·refine .c (znQ v[q] r) ?_
    have w:=y _ a (Nat.le_refl _)
    rw [dif_pos a,if_neg (by omega)]
    by_cases u:v[q].rep=r
    ·rw [if_neg (by omega),decide_eq_true u]
     simp
    ·rw [if_pos (by omega),decide_eq_false u]
     simp
   ·rw [dif_neg (by omega)]
theorem zoK (v:List En) (r:Nat) (w:RightV v) (hl:v.length<=1152921504606846976):Cn Tryz.prog 154 [vp v,.v (.int .u64 r)] (.v (.int .i64 (fdV r 0 v))):=by
 obtain⟨i,hi,j,u⟩:=zoo w r
 rw [zoj w j u]
 refine zt Tryz.func154 2 ?_
 refine pw ?_
 refine .c (zoR v r i hi j u hl) ?_
 by_cases h:i<v.length
 ·rw [dif_pos h,dif_pos h]
  refine .i ?_ ?_<;>intro a<;>(try simp only [nrm_l] at a)<;>first | refine pw ?_ | exact pd
  ·rw [if_neg a]
  ·rw [if_pos a]
 ·rw [dif_neg h,dif_neg h]
  exact pd
theorem zo6 (v:List En) (r c:Nat) (a:RightV v) (hc:c<M64) (hl:v.length<=1152921504606846976) (j:∀ e ∈ v,e.holes.length<=1152921504606846976):Cn Tryz.prog 102 [vp v,.v (.int .u64 r),.v (.int .u64 c)] (.v (.bool (mem (zT v r) c))):=by
 refine zt Tryz.func102 3 ?_
 refine pw ?_
 refine .rd (zoK v r a hl) rfl ?_
 rcases X2 r v 0 with⟨e1,e2⟩ | ⟨i,hi,e1,e2⟩
 ·rw [e1,qC e2]
  refine pw ?_
  rfl
 ·rw [e1,zh8 a hi e2,vC (a.1 _ (List.getElem_mem hi)) hc,Nat.zero_add]
  refine pw ?_
  exact .d (zoS v[i] c (a.1 _ (List.getElem_mem hi)) (j _ (List.getElem_mem hi)))
theorem zl8 (v:List En) (r c:Nat) (a:RightV v) (hc:c<M64) (hl:v.length<=1152921504606846976) (j:∀ e ∈ v,e.holes.length<=1152921504606846976):Cn Tryz.prog 90 [vp v,.v (.int .u64 r),.v (.int .u64 c)] (.v (.bool (mem (zT v r) c))):=by
 refine zt Tryz.func90 3 ?_
 refine pw ?_
 refine .rd (zbB v r hl) rfl ?_
 rcases X2 r v 0 with⟨e1,e2⟩ | ⟨i,hi,e1,e2⟩
 ·rw [e1,qC e2]
  refine pw ?_
  rfl
 ·rw [e1,zh8 a hi e2,vC (a.1 _ (List.getElem_mem hi)) hc,Nat.zero_add]
  refine pw ?_
  exact .d (znN v[i] c (j _ (List.getElem_mem hi)))
theorem Kb (v:List En) (hb:∀ e ∈ v,ZL e) (hl:v.length<=9223372036854775807) (y:∀ e ∈ v,e.holes.length<=9223372036854775807):Cn Tryz.prog 92 [vp v] (.tup [.v (.int .i64 (jx v).1),.v (.int .i64 (jx v).2)]):=by
 refine zt Tryz.func92 1 ?_
 refine pw ?_
 refine pLoop.go (fun k=>k<=v.length/\jx v=hkV v k (v.drop k)) (fun k=>[(4,.v (.int .i64 (k:Nat)))]) (fun _=>[]) (fun k=>v.length - k) 0 [4] ?_ ?_ ?_
 ·exact⟨Nat.zero_le _,rfl⟩
 ·exact pd
 ·rintro k ⟨hk,a⟩
  refine pw ?_
  refine .i ?_ ?_<;>intro h<;>(try simp only [nrm_l] at h)<;>first | refine pw ?_ | exact pd
  ·rw [List.drop_eq_getElem_cons h,hkV] at a
   refine pw ?_
   refine .c (zcj v[k] (y _ (List.getElem_mem h)) (hb _ (List.getElem_mem h)).1) ?_
   refine .i ?_ ?_<;>intro w<;>(try simp only [nrm_l] at w)<;>first | refine pw ?_ | exact pd
   ·rw [if_pos (by omega)] at a
    rw [a]
   ·rw [if_neg (by omega)] at a
    refine .i ?_ ?_<;>intro j<;>(try simp only [nrm_l] at j)<;>first | refine pw ?_ | exact pd
    ·have A:=Xl (v:=v) (k:=k) (by omega)
     rw [A] at a
     refine pw ?_
     refine .i ?_ ?_<;>intro u<;>(try simp only [nrm_l] at u)<;>first | refine pw ?_ | exact pd
     ·rw [if_pos ⟨j,u⟩] at a
      rw [a]
      rfl
     ·rw [if_neg (fun h=>by omega)] at a
      exact⟨k+1,⟨h,a⟩,by omega,rfl⟩
    ·rw [if_neg (fun h=>by omega)] at a
     exact⟨k+1,⟨h,a⟩,by omega,rfl⟩
  ·rw [a,List.drop_of_length_le (by omega)]
   rfl
theorem zes (v:List En) (hb:∀ e ∈ v,ZL e) (hl:v.length<=1152921504606846976) (C:∀ e ∈ v,e.holes.length<=1152921504606846976):Cn Tryz.prog 105 [vp v] (jS (jx v).1 (jx v).2):=by
 refine zt Tryz.func105 1 ?_
 refine pw ?_
 refine pLoop.go (fun k=>k<=v.length/\jx v=hkV v k (v.drop k)) (fun k=>[(8,.v (.int .i64 (k:Nat)))]) (fun _=>[]) (fun k=>v.length - k) 0 [8] ?_ ?_ ?_
 ·exact⟨Nat.zero_le _,rfl⟩
 ·exact pd
 ·rintro k ⟨hk,a⟩
  refine pw ?_
  refine .i ?_ ?_<;>intro h<;>(try simp only [nrm_l] at h)<;>first | refine pw ?_ | exact pd
  ·rw [List.drop_eq_getElem_cons h,hkV] at a
   have w:=hb _ (List.getElem_mem h)
   have y:=C _ (List.getElem_mem h)
   have j:=Ju (yV v[k]).1 (yV v[k]).2
   refine pw ?_
   refine .rd (zcJ v[k] w.1 y (.inr (KL 2))) rfl ?_
   by_cases hz:(yV v[k]).1=0
   ·rw [yk hz]
    rw [if_neg (by omega)] at a
    refine pw ?_
    refine .i ?_ ?_<;>intro A<;>(try simp only [nrm_l] at A)<;>first | refine pw ?_ | exact pd
    ·have E:=Xl (v:=v) (k:=k) (by omega)
     rw [E] at a
     refine pw ?_
     refine .c (zkx v[k - 1].rep v[k]) ?_
     refine .i ?_ ?_<;>intro u<;>(try simp only [nrm_l] at u)<;>first | refine pw ?_ | exact pd
     ·have B:v[k].rep<=v[k - 1].rep:=by split at u<;>(try split at u)<;>omega
      rw [if_pos ⟨A,B⟩] at a
      rw [a]
      refine .c (jT 3 k) ?_
      exact ym _ _
     ·have B:¬ v[k].rep<=v[k - 1].rep:=by split at u<;>(try split at u)<;>omega
      rw [if_neg (fun h=>by omega)] at a
      exact⟨k+1,⟨h,a⟩,by omega,rfl⟩
    ·rw [if_neg (fun h=>by omega)] at a
     exact⟨k+1,⟨h,a⟩,by omega,rfl⟩
   ·rw [if_pos hz] at a
    rw [a]
    rw [vu hz] at j ⊢
    refine pw ?_
    (first | refine .c (j) ?_ | refine .o (j) ?_)
    refine .c (jT (yV v[k]).1 k) ?_
    exact ym _ _
  ·rw [a,List.drop_of_length_le (by omega)]
   exact .eq _ rfl
theorem yY {v:List En} {k:Nat} (h:k<v.length):zi (v.take (k+1))=if (kP v[k]).2 then zi (v.take k)++[(kP v[k]).1] else zi (v.take k):=by
 unfold zi
 rw [List.take_succ_eq_append_getElem h,List.filterMap_append]
 simp only [List.filterMap_cons,List.filterMap_nil,QX]
 split
 ·rename_i h1;split at h1
  ·cases h1
  ·rename_i h2;rw [if_neg h2,List.append_nil]
 ·rename_i h1;split at h1
  ·rename_i h2;cases h1;rw [if_pos h2]
  ·cases h1
theorem ZU (v:List En) (k:Nat):(zi (v.take k)).length<=k:=by
 have:=List.length_filterMap_le QX (v.take k)
 have a:(v.take k).length<=k:=List.length_take_le _ _
 unfold zi
 omega
theorem zer (v:List En) (w:RightV v) (hl:v.length<=1048576) (u:∀ e ∈ v,e.holes.length<=10000):Cn Tryz.prog 118 [vp v] (vp (zi v)):=by
 refine zt Tryz.func118 1 ?_
 refine pw ?_
 refine pLoop.go (fun k=>k<=v.length) (fun k=>[(3,.sl ((zi (v.take k)).map ec) (.r 23 3)),(10,.v (.int .i64 (k:Nat)))]) (fun _=>[]) (fun k=>v.length - k) 0 [3,10] ?_ ?_ ?_
 ·exact Nat.zero_le _
 ·refine pw ?_
  rfl
 ·rintro k hk
  have j:=ZU v k
  refine pw ?_
  refine .i ?_ ?_<;>intro h<;>(try simp only [nrm_l] at h)<;>first | refine pw ?_ | exact pd
  ·refine .c (zeP v[k] (w.1 _ (List.getElem_mem h)) (u _ (List.getElem_mem h))) ?_
   refine .i ?_ ?_<;>intro a<;>(try simp only [nrm_l] at a)<;>first | refine pw ?_ | exact pd
   ·refine⟨k+1,h,by omega,?_,rfl⟩
    rw [yY h,if_pos a]
    simp
    rfl
   ·refine⟨k+1,h,by omega,?_,rfl⟩
    rw [yY h,if_neg (by simpa using a)]
  ·rw [List.take_of_length_le (by omega)]
theorem Ka (v:List En) (w:RightV v) (hl:v.length<=1048576) (u:∀ e ∈ v,e.holes.length<=10000):Cn Tryz.prog 149 [vp v] (vp (zi v)):=by
 refine zt Tryz.func149 1 ?_
 refine pw ?_
 refine pLoop.go (fun k=>k<=v.length) (fun k=>[(3,.sl ((zi (v.take k)).map ec) (.r 25 3)),(4,.v (.int .i64 (k:Nat)))]) (fun _=>[]) (fun k=>v.length - k) 0 [3,4] ?_ ?_ ?_
 ·exact Nat.zero_le _
 ·refine pw ?_
  rfl
 ·rintro k hk
  have j:=ZU v k
  refine pw ?_
  refine .i ?_ ?_<;>intro h<;>(try simp only [nrm_l] at h)<;>first | refine pw ?_ | exact pd
  ·refine .c (zcd v[k] (w.1 _ (List.getElem_mem h)) (u _ (List.getElem_mem h))) ?_
   refine .i ?_ ?_<;>intro a<;>(try simp only [nrm_l] at a)<;>first | refine pw ?_ | exact pd
   ·refine⟨k+1,h,by omega,?_,rfl⟩
    rw [yY h,if_pos a]
    simp
    rfl
   ·refine⟨k+1,h,by omega,?_,rfl⟩
    rw [yY h,if_neg (by simpa using a)]
  ·rw [List.take_of_length_le (by omega)]
theorem kE (v:List En) (hl:v.length<=1024) (u:∀ e ∈ v,e.holes.length<=1048576):Cn Tryz.prog 179 [vp v] (ns (zv v)):=by
 have y:=zw
 refine zt Tryz.func179 1 ?_
 refine pw ?_
 refine pLoop.go (fun i=>i<=v.length) (fun i=>[(3,.sl ((ZJ v i).map yN) (.r 9 1)),(4,.v (.int .i64 (i:Nat)))]) (fun _=>[]) (fun i=>v.length - i) 0 [3,4,9] ?_ ?_ ?_
 ·exact Nat.zero_le _
 ·rw [ziE]
  exact pd
 ·rintro i hi
  have a:=vQ u i hi
  refine pw ?_
  refine .i ?_ ?_<;>intro h<;>(try simp only [nrm_l] at h)<;>first | refine pw ?_ | exact pd
  ·have A:=u _ (List.getElem_mem h)
   refine pw ?_
   refine cutP.full rfl ?_ rfl ?_ ?_
   ·exact pd
   ·exact pd
   refine pw ?_
   refine pLoop.go (fun j=>j<=v[i].holes.length) (fun j=>[(3,.sl ((Q7 v i h j).map yN) (.r 9 1)),(5,.v (.int .i64 (j:Nat)))]) (fun _=>[]) (fun j=>v[i].holes.length - j) 0 [3,5,35,16] ?_ ?_ ?_
   ·exact Nat.zero_le _
   ·rw [ziD]
    refine pw ?_
    simp [yN]
   ·rintro j w
    have a:=zdI u h w
    refine pw ?_
    refine .i ?_ ?_<;>intro hc<;>(try simp only [nrm_l] at hc)<;>first | refine pw ?_ | exact pd
    ·refine cutP.full rfl ?_ rfl ?_ ?_
     ·exact pd
     ·exact pd
     refine pw ?_
     refine⟨j+1,hc,by omega,?_,rfl⟩
     rw [zbu h hc]
     simp [yN]
    ·refine⟨i+1,h,by omega,?_,rfl⟩
     rw [zdH h (by omega)]
  ·rw [VF (by omega)]
theorem Xp (a b:List En) (ha:∀ e ∈ a,e.holes.length<=1048576) (hb:∀ e ∈ b,e.holes.length<=1048576) (C:a.length<=1024) (j:b.length<=1024):Cn Tryz.prog 150 [vp a,vp b] (.v (.int .i64 (zZ (zv a) (zv b)))):=by
 have L:=vQ ha a.length (Nat.le_refl _)
 have M:=vQ hb b.length (Nat.le_refl _)
 rw [VF (by omega)] at L M
 refine zt Tryz.func150 2 ?_
 refine pw ?_
 refine .c (kE a C ha) ?_
 refine .c (kE b j hb) ?_
 generalize zv a=x at *
 generalize zv b=y at *
 refine pLoop.go (fun k=>k<=x.length/\k<=y.length/\zZ x y=zZ (x.drop k) (y.drop k)) (fun k=>[(7,.v (.int .i64 (k:Nat)))]) (fun _=>[]) (fun k=>x.length - k) 0 [7] ?_ ?_ ?_
 ·exact⟨Nat.zero_le _,Nat.zero_le _,rfl⟩
 ·exact pd
 ·rintro k ⟨I,J,E⟩
  refine pw ?_
  have B:¬(k<x.length/\k<y.length)->(if x.length<y.length then (-1:Int) else if y.length<x.length then 1 else 0)=zZ x y:=fun K=>by
   have C:(x.drop k).length=x.length - k:=List.length_drop
   have j:(y.drop k).length=y.length - k:=List.length_drop
   rw [E]
   cases hx:x.drop k with
   | nil=>
     rw [hx] at C
     cases hy:y.drop k with
     | nil=>rw [hy] at j;simp at C j;rw [if_neg (by omega),if_neg (by omega)];rfl
     | cons c z=>rw [hy] at j;simp at C j;rw [if_pos (by omega)];rfl
   | cons c z=>
     rw [hx] at C
     cases hy:y.drop k with
     | nil=>rw [hy] at j;simp at C j;rw [if_neg (by omega),if_pos (by omega)];rfl
     | cons d u=>rw [hy] at j;simp at C j;exact absurd ⟨by omega,by omega⟩ K
  have H:¬(k<x.length/\k<y.length)->True:=fun _=>trivial
  refine .i ?_ ?_<;>intro F<;>(try simp only [nrm_l] at F)<;>first | refine pw ?_ | exact pd
  ·refine .i ?_ ?_<;>intro G<;>(try simp only [nrm_l] at G)<;>first | refine pw ?_ | exact pd
   ·rw [List.drop_eq_getElem_cons F,List.drop_eq_getElem_cons G,zZ] at E
    refine pw ?_
    refine .i ?_ ?_<;>intro w<;>(try simp only [nrm_l] at w)<;>first | refine pw ?_ | exact pd
    ·rw [E,if_pos w]
    ·refine .i ?_ ?_<;>intro A<;>(try simp only [nrm_l] at A)<;>first | refine pw ?_ | exact pd
     ·rw [E,if_neg (by omega),if_pos A]
     ·rw [if_neg (by omega),if_neg (by omega)] at E
      exact⟨k+1,⟨F,G,E⟩,by omega,rfl⟩
   ·rw [<-B (by omega)]
    refine .i ?_ ?_<;>intro w<;>(try simp only [nrm_l] at w)<;>first | refine pw ?_ | exact pd
    ·rw [if_pos w]
    ·refine .i ?_ ?_<;>intro A<;>(try simp only [nrm_l] at A)<;>first | refine pw ?_ | exact pd
     ·rw [if_neg (by omega),if_pos A]
     ·rw [if_neg (by omega),if_neg (by omega)]
  ·rw [<-B (by omega)]
   refine .i ?_ ?_<;>intro w<;>(try simp only [nrm_l] at w)<;>first | refine pw ?_ | exact pd
   ·rw [if_pos w]
   ·refine .i ?_ ?_<;>intro A<;>(try simp only [nrm_l] at A)<;>first | refine pw ?_ | exact pd
    ·rw [if_neg (by omega),if_pos A]
    ·rw [if_neg (by omega),if_neg (by omega)]
theorem CanV.bd {v:List En} (h:CanV v):∀ e ∈ v,ZL e:=fun e a=>Jg (h.1 e a).1
structure Fg where
 items:List Iv
 vec:List En
deriving DecidableEq
instance : Inhabited Fg:=⟨⟨[],[]⟩⟩
theorem Fg.ext' {f g:Fg} (a:f.items=g.items) (j:f.vec=g.vec):f=g:=by cases f;cases g;simp_all
def fc (f:Fg):List PV:=[rg f.items,vp f.vec]
def fp (f:Fg):PV:=.agg (fc f)
def kp (k:List Fg):PV:=.sl (k.map fc) .sh
attribute [go_sem] kp fp fc
def ZS (f:Fg):Prop:=Nrm f.items/\RightV f.vec
def RightK (k:List Fg):Prop:=∀ f ∈ k,ZS f
def BdF (f:Fg):Prop:=BdR f.items/\(∀ e ∈ f.vec,ZL e)/\f.items.length<=9223372036854775807/\f.vec.length<=9223372036854775807
def BdK (k:List Fg):Prop:=(∀ f ∈ k,BdF f)/\k.length<=9223372036854775807
def HlK (k:List Fg):Prop:=∀ f ∈ k,∀ e ∈ f.vec,e.holes.length<=9223372036854775807
def vx (k:List Fg):Bool:=k.all (fun f=>decide (f.items.length<=20) && JF f.vec) && decide (k.length<=12)
theorem Z3 {k:List Fg}:vx k=true ↔ (∀ f ∈ k,f.items.length<=20/\JF f.vec=true)/\k.length<=12:=by simp [vx]
def hkK:Nat->List Fg->Nat × Int
 | _,[]=>(0,-1)
 | i,f::r=>if (Zl f.items).1≠0 then ((Zl f.items).1,(i:Int)) else if (jx f.vec).1≠0 then ((jx f.vec).1,(i:Int)) else hkK (i+1) r
def ckK (k:List Fg):Nat × Int:=hkK 0 k
theorem Vd:∀(i:Nat) (k:List Fg),(hkK i k).1=0 ↔ ∀ f ∈ k,(Zl f.items).1=0/\(jx f.vec).1=0
 | _,[]=>by simp [hkK]
 | i,f::r=>by
   have ih:=Vd (i+1) r
   unfold hkK
   by_cases j:(Zl f.items).1≠0
   ·rw [if_pos j]
    exact⟨fun h=>absurd h j,fun h=>(h f (by simp)).1⟩
   ·rw [if_neg j]
    by_cases u:(jx f.vec).1≠0
    ·rw [if_pos u]
     exact⟨fun h=>absurd h u,fun h=>(h f (by simp)).2⟩
    ·rw [if_neg u,ih]
     constructor
     ·intro h g a
      rcases List.mem_cons.1 a with rfl | a
      ·exact⟨by omega,by omega⟩
      ·exact h g a
     ·intro h g a
      exact h g (by simp [a])
theorem ZN {k:List Fg} (hb:BdK k):(ckK k).1=0 ↔ RightK k:=by
 unfold ckK
 rw [Vd]
 constructor
 ·intro h f j
  obtain⟨u,w⟩:=h f j
  have a:=hb.1 f j
  exact⟨(YT fun s hs=>(a.1 s hs).2).1 u,(XP a.2.1).1 w⟩
 ·intro h f j
  have a:=hb.1 f j
  exact⟨(YT fun s hs=>(a.1 s hs).2).2 (h f j).1,(XP a.2.1).2 (h f j).2⟩
def qd (i:Nat):Nat->List Fg->List (Nat × Fg)
 | _,[]=>[]
 | n,f::r=>if mem f.items i=true then (n,f)::qd i (n+1) r else qd i (n+1) r
theorem QR (i:Nat) (f:Fg):∀(n:Nat) (l:List Fg),qd i n (l++[f])=qd i n l++(if mem f.items i=true then [(n+l.length,f)] else [])
 | n,[]=>by simp [qd]
 | n,g::l=>by
   have ih:=QR i f (n+1) l
   have e:n+1+l.length=n+(l.length+1):=by omega
   rw [List.cons_append,qd,qd,ih,List.length_cons,e]
   split<;>simp
theorem j9 {k:List Fg} {j:Nat} (i:Nat) (h:j<k.length):qd i 0 (k.take (j+1))=qd i 0 (k.take j)++(if mem k[j].items i=true then [(j,k[j])] else []):=by
 rw [List.take_succ_eq_append_getElem h,QR,List.length_take,Nat.min_eq_left (by omega),Nat.zero_add]
theorem jv {i:Nat} {p:Nat × Fg}:∀ {n:Nat} {l:List Fg},p ∈ qd i n l->p.2 ∈ l/\mem p.2.items i=true/\n<=p.1/\p.1<n+l.length
 | n,[],h=>by cases h
 | n,f::l,h=>by
   unfold qd at h
   split at h
   ·rename_i hf
    rcases List.mem_cons.1 h with rfl | h
    ·exact⟨by simp,hf,Nat.le_refl _,by simp⟩
    ·obtain⟨a,j,u,w⟩:=jv h
     exact⟨by simp [a],j,by omega,by simp;omega⟩
   ·obtain⟨a,j,u,w⟩:=jv h
    exact⟨by simp [a],j,by omega,by simp;omega⟩
theorem Zg (i:Nat):∀(n:Nat) (l:List Fg),(qd i n l).length<=l.length
 | _,[]=>Nat.le_refl _
 | n,f::l=>by
   have:=Zg i (n+1) l
   unfold qd
   split<;>simp<;>omega
theorem YL {i:Nat} {q:Fg->Bool}:∀(n:Nat) (l:List Fg),(qd i n l).any (fun p=>q p.2)=l.any fun f=>mem f.items i && q f
 | _,[]=>rfl
 | n,f::l=>by
   have ih:=YL (i:=i) (q:=q) (n+1) l
   unfold qd
   rw [List.any_cons,<-ih]
   cases h:mem f.items i<;>simp
def zU (k:List Fg) (i:Nat):List Nat:=(qd i 0 k).map Prod.fst
theorem JX {k:List Fg} {j:Nat} (i:Nat) (h:j<k.length):zU (k.take (j+1)) i=zU (k.take j) i++(if mem k[j].items i=true then [j] else []):=by
 unfold zU
 rw [j9 i h,List.map_append]
 split<;>rfl
theorem zbk (k:List Fg) (i:Nat):(zU k i).length<=k.length:=by
 unfold zU
 rw [List.length_map]
 exact Zg _ _ _
def hasK (k:List Fg) (i r c:Nat):Bool:=k.any fun f=>mem f.items i && mem (zT f.vec r) c
theorem jh (k:List Fg) (i r c:Nat):(qd i 0 k).any (fun p=>mem (zT p.2.vec r) c)=hasK k i r c:=YL (q:=fun f=>mem (zT f.vec r) c) 0 k
noncomputable def qc (k:List Fg) (i:Nat):List En:=(qd i 0 k).foldl (fun o p=>ks zn o p.2.vec) []
theorem zbT (i:Nat):qc [] i=[]:=rfl
theorem Ku {k:List Fg} {j:Nat} (i:Nat) (h:j<k.length):qc (k.take (j+1)) i=if mem k[j].items i=true then ks zn (qc (k.take j) i) k[j].vec else qc (k.take j) i:=by
 unfold qc
 rw [j9 i h,List.foldl_append]
 split<;>rfl
def JM (k:List Fg):List Iv:=k.foldl (fun o f=>qy zn o f.items) []
theorem RightK.take {k:List Fg} (h:RightK k) (j:Nat):RightK (k.take j):=fun f a=>h f (List.mem_of_mem_take a)
def CK (k:List Fg) (r:Nat):List Nat:=k.flatMap fun f=>z6 (zT f.vec r)
def RK (k:List Fg):List Nat:=k.flatMap fun f=>zM f.vec
def CI (k:List Fg):List Nat:=k.flatMap fun f=>z6 f.items
theorem IV.frag {k:List Fg} (h:RightK k) {f:Fg} (a:f ∈ k):IV (CK k) (RK k) f.vec:=
 (IV.of (h f a).2).mono (fun r x j=>List.mem_flatMap.2 ⟨f,a,j⟩) fun x j=>List.mem_flatMap.2 ⟨f,a,j⟩
def IK (C:Nat->List Nat) (R:List Nat) (k:List Fg):Prop:=∀ f ∈ k,IV C R f.vec
theorem RightK.ik {k:List Fg} (h:RightK k):IK (CK k) (RK k) k:=fun f a=>IV.frag h a
theorem IK.take {C:Nat->List Nat} {R:List Nat} {k:List Fg} (h:IK C R k) (j:Nat):IK C R (k.take j):=fun f a=>h f (List.mem_of_mem_take a)
theorem zgT {C:Nat->List Nat} {R:List Nat}:∀(l:List (Nat × Fg)) (o:List En),(∀ p ∈ l,IV C R p.2.vec)->WV C R o->WV C R (l.foldl (fun o p=>ks zn o p.2.vec) o) /\
 ∀ r c,c<M64->mem (zT (l.foldl (fun o p=>ks zn o p.2.vec) o) r) c=(mem (zT o r) c || l.any fun p=>mem (zT p.2.vec r) c)
 | [],o,_,ho=>⟨ho,fun r c _=>by simp⟩
 | p::l,o,hl,ho=>by
   have a:=hl p (by simp)
   obtain⟨j,u⟩:=zgT l (ks zn o p.2.vec) (fun q w=>hl q (by simp [w])) (ho.iv.lat fU0 a)
   refine⟨j,fun r c hc=>?_⟩
   rw [List.foldl_cons,u r c hc,JR fU0 ho.can.right a.right,qj (qi ho.can.right r) (qi a.right r) hc,List.any_cons]
   simp only [zn,Bool.or_assoc]
theorem IK.at {C:Nat->List Nat} {R:List Nat} {k:List Fg} (h:IK C R k) (i:Nat):WV C R (qc k i)/\∀ r c,c<M64->mem (zT (qc k i) r) c=hasK k i r c:=by
 obtain⟨a,j⟩:=zgT (qd i 0 k) [] (fun p u=>h _ (jv u).1) WV.nil
 refine⟨a,fun r c hc=>?_⟩
 rw [<-jh]
 have:=j r c hc
 rw [kr,Xf,Bool.false_or] at this
 exact this
theorem Zp:∀(l:List Fg) (o:List Iv),Nrm o->(∀ f ∈ l,Nrm f.items)->Nrm (l.foldl (fun o f=>qy zn o f.items) o) /\
 (∀ x,x<M64->mem (l.foldl (fun o f=>qy zn o f.items) o) x=(mem o x || l.any fun f=>mem f.items x))/\∀ x,Ed (l.foldl (fun o f=>qy zn o f.items) o) x->Ed o x\/x ∈ CI l
 | [],o,ho,_=>⟨ho,fun x _=>by simp,fun x h=>.inl h⟩
 | f::l,o,ho,hl=>by
   have a:=hl f (by simp)
   obtain⟨w,y,A⟩:=Zp l (qy zn o f.items) (qH ho a) fun g u=>hl g (by simp [u])
   refine⟨w,fun x j=>?_,fun x j=>?_⟩
   ·rw [List.foldl_cons,y x j,qj ho a j,List.any_cons]
    simp only [zn,Bool.or_assoc]
   ·rcases A x j with h | h
    ·rcases zcM fU0 ho a h with h | h
     ·exact .inl h
     ·exact .inr (List.mem_flatMap.2 ⟨f,by simp,Y3 a.ivs2 h⟩)
    ·obtain⟨g,u,h⟩:=List.mem_flatMap.1 h
     exact .inr (List.mem_flatMap.2 ⟨g,by simp [u],h⟩)
theorem RightK.items {k:List Fg} (h:RightK k):Nrm (JM k)/\(∀ x,x<M64->mem (JM k) x=k.any fun f=>mem f.items x)/\(JM k).length<=(CI k).length:=by
 obtain⟨j,u,w⟩:=Zp k [] trivial fun f y=>(h f y).1
 refine⟨j,fun x a=>?_,zcK j fun x a=>?_⟩
 ·have:=u x a
  rw [Xf,Bool.false_or] at this
  exact this
 ·exact(w x a).resolve_left zcL
theorem qL {α β:Type} {g:α->List β} {n:Nat}:∀ {l:List α},(∀ x ∈ l,(g x).length<=n)->(l.flatMap g).length<=l.length * n
 | [],_=>by simp
 | x::l,h=>by
   have:=qL (l:=l) fun y a=>h y (by simp [a])
   have j:=h x (by simp)
   rw [List.flatMap_cons,List.length_append,List.length_cons,Nat.add_mul,Nat.one_mul]
   omega
theorem X4 {k:List Fg} (h:vx k=true) (w:RightK k):(∀ r,(CK k r).length<=1512)/\(RK k).length<=240/\(CI k).length<=480:=by
 obtain⟨j,u⟩:=Z3.1 h
 have hk:∀ n,k.length * n<=12 * n:=fun n=>Nat.mul_le_mul_right n u
 refine⟨fun r=>?_,?_,?_⟩
 ·refine Nat.le_trans (qL (n:=126) fun f a=>?_) (hk 126)
  have:=vw.1 (j f a).2
  have y:=vq (zT f.vec r)
  have A:=ji (n:=20) (h:=30) ⟨(w f a).2,this.2,this.1⟩ r
  omega
 ·refine Nat.le_trans (qL (n:=20) fun f a=>?_) (hk 20)
  have:=vw.1 (j f a).2
  simp only [zM,List.length_map]
  omega
 ·refine Nat.le_trans (qL (n:=40) fun f a=>?_) (hk 40)
  have y:=vq f.items
  have:=(j f a).1
  omega
def OkC (C:Nat->List Nat) (R:List Nat):Prop:=(∀ r,(C r).length<=9000)/\R.length<=1048576
def qX (k:List Fg) (x y:Nat):Bool:=k.all fun f=>mem f.items x == mem f.items y
theorem qo {k:List Fg} {x y:Nat}:qX k x y=true ↔ ∀ f ∈ k,mem f.items x=mem f.items y:=by simp [qX]
theorem j8 {x y:Nat}:∀ {k:List Fg} {n:Nat},(∀ f ∈ k,mem f.items x=mem f.items y)->qd x n k=qd y n k
 | [],_,_=>rfl
 | f::k,n,h=>by
   rw [qd,qd,j8 (k:=k) fun g a=>h g (by simp [a]),h f (by simp)]
theorem Zh {x y:Nat}:∀ {k:List Fg} {n:Nat},(qd x n k).map Prod.fst=(qd y n k).map Prod.fst->∀ f ∈ k,mem f.items x=mem f.items y
 | [],_,_,f,a=>by cases a
 | g::k,n,h,f,a=>by
   have no:∀ z,n ∉ (qd z (n+1) k).map Prod.fst:=fun z hz=>by
    obtain⟨p,j,e⟩:=List.mem_map.1 hz
    have:=(jv j).2.2.1
    omega
   rw [qd,qd] at h
   cases hx:mem g.items x<;>cases hy:mem g.items y<;>rw [hx,hy] at h<;>simp only [if_true,if_false,Bool.false_eq_true,List.map_cons] at h
   ·rcases List.mem_cons.1 a with rfl | a
    ·rw [hx,hy]
    ·exact Zh h f a
   ·exact absurd (h ▸ List.mem_cons_self) (no x)
   ·exact absurd (h ▸ List.mem_cons_self) (no y)
   ·rcases List.mem_cons.1 a with rfl | a
    ·rw [hx,hy]
    ·exact Zh (List.cons.inj h).2 f a
theorem Vp {k:List Fg} {x y:Nat}:zU k x=zU k y ↔ qX k x y=true:=by
 rw [qo]
 exact⟨fun h=>Zh h,fun h=>by unfold zU;rw [j8 h]⟩
theorem Yt {k:List Fg} {x y:Nat} (h:qX k x y=true) (r c:Nat):hasK k x r c=hasK k y r c:=by rw [<-jh,<-jh,j8 (qo.1 h)]
theorem hasK_iff {k:List Fg} {i r c:Nat}:hasK k i r c=true ↔ ∃ f ∈ k,mem f.items i=true/\mem (zT f.vec r) c=true:=by simp [hasK]
noncomputable def zq (k:List Fg):List Nat:=(zH (k.map Fg.items)).filter fun x=>decide (x=0) || !qX k (x - 1) x
theorem xc (k:List Fg):YN (zq k):=(x8 _).filter _
theorem vZ {k:List Fg} (h:RightK k) {x:Nat}:x ∈ zq k ↔ x<M64/\(x=0\/qX k (x - 1) x=false):=by
 unfold zq
 rw [List.mem_filter]
 constructor
 ·rintro⟨u,j⟩
  refine⟨Ze (fun l hl s hs=>?_) x u,by simpa using j⟩
  obtain⟨f,a,rfl⟩:=List.mem_map.1 hl
  have:=NF.lo_ge (h f a).1 s hs
  omega
 ·rintro⟨u,j⟩
  refine⟨?_,by simpa using j⟩
  unfold zH
  rw [qr]
  unfold yU
  rcases Nat.eq_zero_or_pos x with y | y
  ·simp [y]
  ·have A:=j.resolve_left (by omega)
   refine List.mem_cons.2 (.inr ?_)
   have:∃ f ∈ k,mem f.items (x - 1)≠mem f.items x:=Classical.byContradiction fun C=>by
    have:qX k (x - 1) x=true:=qo.2 fun f a=>Classical.byContradiction fun B=>C ⟨f,a,B⟩
    rw [A] at this
    cases this
   obtain⟨f,a,w⟩:=this
   exact List.mem_flatMap.2 ⟨f.items,List.mem_map.2 ⟨f,a,rfl⟩,Y3 (h f a).1.ivs2 ⟨u,by rw [if_neg (by omega)];exact fun e=>w e.symm⟩⟩
theorem XC {k:List Fg} (h:RightK k):0 ∈ zq k:=(vZ h).2 ⟨xM,.inl rfl⟩
theorem vY (k:List Fg):(zq k).length<=1+(CI k).length:=by
 have a:(zq k).length<=(zH (k.map Fg.items)).length:=List.length_filter_le _ _
 have j:(zH (k.map Fg.items)).length<=(yU (k.map Fg.items)).length:=ju _
 have u:(yU (k.map Fg.items)).length=1+(CI k).length:=by
  unfold yU CI
  rw [List.length_cons,List.flatMap_map]
  omega
 omega
def vN:List Nat->List Iv
 | []=>[]
 | [x]=>[⟨x,M64 - 1⟩]
 | x::y::r=>⟨x,y - 1⟩::vN (y::r)
theorem vO:∀ l:List Nat,(vN l).length=l.length
 | []=>rfl
 | [_]=>rfl
 | x::y::r=>by rw [vN,List.length_cons,vO (y::r)];rfl
theorem Vx:∀(l:List Nat) (i:Nat) (h:i<l.length),(vN l)[i]'(by rw [vO];exact h)=⟨l[i],if h:i+1<l.length then l[i+1] - 1 else M64 - 1⟩
 | [x],0,_=>by simp [vN]
 | x::y::r,0,_=>by simp [vN]
 | x::y::r,i+1,h=>by
   have:=Vx (y::r) i (by simpa using h)
   simp only [vN,List.getElem_cons_succ]
   rw [this]
   simp
theorem YD:∀ {l:List Nat},YN l->(∀ x ∈ l,x<M64)->(∀ s ∈ vN l,s.lo<=s.hi/\s.hi<M64/\s.lo ∈ l)/\(vN l).Pairwise (fun s t=>s.hi<t.lo)/\(∀ s ∈ vN l,∀ y ∈ l,s.lo<y->s.hi<y)/\∀ i x r,l=x::r->x<=i->i<M64->∃ s ∈ vN l,s.lo<=i/\i<=s.hi
 | [],_,_=>⟨fun s h=>(by cases h),List.Pairwise.nil,fun s h=>(by cases h),fun i x r h=>by cases h⟩
 | [x],_,hl=>by
   have M:=hl x (by simp)
   refine⟨fun s h=>?_,by simp [vN],fun s h y B a=>?_,fun i y r h u C=>?_⟩
   ·simp only [vN,List.mem_singleton] at h
    subst h
    exact⟨by simp only;omega,by simp only;omega,by simp⟩
   ·simp only [vN,List.mem_singleton] at h B
    subst h B
    simp at a
   ·cases h
    exact⟨⟨x,M64 - 1⟩,by simp [vN],u,by simp only;omega⟩
 | x::y::r,ha,hl=>by
   have A:=List.pairwise_cons.1 ha
   have G:=A.1 y (by simp)
   have B:=hl y (by simp)
   obtain⟨u,C,E,F⟩:=YD A.2 fun z hz=>hl z (by simp [hz])
   have j:∀ z ∈ y::r,y<=z:=fun z hz=>by
    rcases List.mem_cons.1 hz with rfl | hz
    ·exact Nat.le_refl _
    ·exact Nat.le_of_lt ((List.pairwise_cons.1 A.2).1 z hz)
   rw [vN]
   refine⟨fun s h=>?_,List.pairwise_cons.2 ⟨fun t ht=>?_,C⟩,fun s h z hz a=>?_,fun i O N h H I=>?_⟩
   ·rcases List.mem_cons.1 h with rfl | h
    ·exact⟨by simp only;omega,by simp only;omega,by simp⟩
    ·obtain⟨J,K,L⟩:=u s h
     exact⟨J,K,by rw [List.mem_cons];exact .inr L⟩
   ·have:=j _ (u t ht).2.2
    simp only;omega
   ·rcases List.mem_cons.1 h with e | w
    ·subst e
     rcases List.mem_cons.1 hz with e | hz
     ·subst e;simp at a
     ·have:=j z hz
      simp only;omega
    ·rcases List.mem_cons.1 hz with e | hz
     ·subst e
      have:=j _ (u s w).2.2
      omega
     ·exact E s w z hz a
   ·cases h
    rcases Nat.lt_or_ge i y with hi | hi
    ·exact⟨⟨x,y - 1⟩,by simp,H,by simp only;omega⟩
    ·obtain⟨s,hs,q⟩:=F i y r rfl hi I
     exact⟨s,by simp [hs],q⟩
noncomputable def y4 (k:List Fg):List Iv:=vN (zq k)
noncomputable def zu (k:List Fg):List Iv:=(y4 k).filter fun s=>decide (0<(zU k s.lo).length)
section
variable {k:List Fg} (h:RightK k)
include h
theorem x7:∀ x ∈ zq k,x<M64:=fun x a=>((vZ h).1 a).1
theorem xO:(∀ s ∈ y4 k,s.lo<=s.hi/\s.hi<M64/\s.lo ∈ zq k)/\(y4 k).Pairwise (fun s t=>s.hi<t.lo)/\(∀ s ∈ y4 k,∀ y ∈ zq k,s.lo<y->s.hi<y)/\∀ i,i<M64->∃ s ∈ y4 k,s.lo<=i/\i<=s.hi:=by
 obtain⟨j,u,w,A⟩:=YD (xc k) (x7 h)
 refine⟨j,u,w,fun i hi=>?_⟩
 have a:=XC h
 cases hs:zq k with
 | nil=>rw [hs] at a;cases a
 | cons x r=>
   have:x=0:=by
    rw [hs] at a
    rcases List.mem_cons.1 a with e | e
    ·exact e.symm
    ·have ha:=xc k
     rw [hs] at ha
     have:=(List.pairwise_cons.1 ha).1 0 e
     omega
   exact A i x r hs (by omega) hi
theorem jR {s:Iv} (hs:s ∈ y4 k):∀ {x:Nat},s.lo<=x->x<=s.hi->qX k s.lo x=true:=by
 obtain⟨w,_,y,_⟩:=xO h
 intro x
 induction x with
 | zero=>intro a _;rw [show s.lo=0 by omega];exact qo.2 fun f _=>rfl
 | succ x ih=>
   intro a C
   rcases Nat.eq_or_lt_of_le a with e | j
   ·rw [e];exact qo.2 fun f _=>rfl
   ·have A:=ih (by omega) (by omega)
    have B:qX k x (x+1)=true:=by
     cases h7:qX k x (x+1) with
     | true=>rfl
     | false=>
       have:=y s hs (x+1) ((vZ h).2 ⟨by have:=(w s hs).2.1;omega,.inr (by rw [Nat.add_sub_cancel];exact h7)⟩) j
       omega
    exact qo.2 fun f u=>(qo.1 A f u).trans (qo.1 B f u)
theorem Xj {i:Nat} (hi:i<M64) (u:0<(zU k i).length):∃ s ∈ zu k,s.lo<=i/\i<=s.hi:=by
 obtain⟨s,hs,a,j⟩:=(xO h).2.2.2 i hi
 refine⟨s,List.mem_filter.2 ⟨hs,?_⟩,a,j⟩
 rw [decide_eq_true_eq,Vp.2 (jR h hs a j)]
 exact u
theorem yt:(∀ s ∈ zu k,s.lo<=s.hi/\s.hi<M64/\s ∈ y4 k/\0<(zU k s.lo).length)/\(zu k).Pairwise (fun s t=>s.hi<t.lo):=by
 refine⟨fun s hs=>?_,(xO h).2.1.filter _⟩
 obtain⟨a,j⟩:=List.mem_filter.1 hs
 obtain⟨u,w,_⟩:=(xO h).1 s a
 exact⟨u,w,a,by simpa using j⟩
end
theorem xW (k:List Fg):(zu k).length<=1+(CI k).length:=by
 have a:(zu k).length<=(y4 k).length:=List.length_filter_le _ _
 have j:(y4 k).length=(zq k).length:=vO _
 have:=vY k
 omega
noncomputable def jq (k:List Fg):List Fg:=(zu k).map fun s=>⟨[s],qc k s.lo⟩
theorem ZB {k:List Fg} {f:Fg} (a:f ∈ jq k):∃ s ∈ zu k,f=⟨[s],qc k s.lo⟩:=by
 obtain⟨s,hs,e⟩:=List.mem_map.1 a
 exact⟨s,hs,e.symm⟩
theorem zfJ {s:Iv} {x:Nat}:mem [s] x=true ↔ s.lo<=x/\x<=s.hi:=by simp [mem]
def xh (k:List Fg):Prop:=k.Pairwise fun f g=>∀ x,x<M64->¬(mem f.items x=true/\mem g.items x=true)
theorem IK.refine {C:Nat->List Nat} {R:List Nat} {k:List Fg} (hk:IK C R k):∀ f ∈ jq k,WV C R f.vec:=fun f a=>by
 obtain⟨s,_,rfl⟩:=ZB a
 exact(hk.at s.lo).1
theorem Yb {k:List Fg} (h:RightK k):RightK (jq k):=fun f u=>by
 obtain⟨s,hs,rfl⟩:=ZB u
 obtain⟨a,j,_⟩:=(yt h).1 s hs
 exact⟨qG a j,(h.ik.at s.lo).1.can.right⟩
theorem zeD {k:List Fg} (h:RightK k):xh (jq k):=by
 unfold xh jq
 rw [List.pairwise_map]
 refine(yt h).2.imp fun hst x _ ⟨h1,h2⟩=>?_
 have:=zfJ.1 h1
 have:=zfJ.1 h2
 omega
theorem JJ {k:List Fg} (h:RightK k) {V:Nat->List En} {P:Nat->Nat->Nat->Bool} (B:∀ x r c,x<M64->c<M64->mem (zT (V x) r) c=P x r c) (hs:∀ x y r c,qX k x y=true->P x r c=P y r c) (E:∀ x r c,zU k x=[]->P x r c=false)
 {i r c:Nat} (hi:i<M64) (hc:c<M64):hasK ((zu k).map fun s=>⟨[s],V s.lo⟩) i r c=P i r c:=by
 rw [Bool.eq_iff_iff,hasK_iff]
 constructor
 ·rintro⟨f,F,u,j⟩
  obtain⟨s,a,rfl⟩:=List.mem_map.1 F
  obtain⟨H,I,w,_⟩:=(yt h).1 s a
  have A:=zfJ.1 u
  rw [B s.lo r c (by omega) hc,hs _ _ _ _ (jR h w A.1 A.2)] at j
  exact j
 ·intro C
  have G:0<(zU k i).length:=Nat.pos_of_ne_zero fun e=>by
   have:=E i r c (List.length_eq_zero_iff.1 e)
   rw [C] at this
   cases this
  obtain⟨s,a,u,j⟩:=Xj h hi G
  obtain⟨H,I,w,_⟩:=(yt h).1 s a
  refine⟨_,List.mem_map.2 ⟨s,a,rfl⟩,zfJ.2 ⟨u,j⟩,?_⟩
  rw [B s.lo r c (by omega) hc,hs _ _ _ _ (jR h w u j)]
  exact C
theorem zc0 {k:List Fg} {x:Nat} (r c:Nat) (h:zU k x=[]):hasK k x r c=false:=by
 rw [<-jh]
 unfold zU at h
 rw [List.map_eq_nil_iff.1 h]
 rfl
theorem zfp {k:List Fg} (h:RightK k) {i r c:Nat} (hi:i<M64) (hc:c<M64):hasK (jq k) i r c=hasK k i r c:=
 JJ h (V:=qc k) (P:=hasK k) (fun x r c _ hc=>(h.ik.at x).2 r c hc) (fun _ _ r c h=>Yt h r c) (fun _ r c h=>zc0 r c h) hi hc
end Go.Proofs.YtonhfknjcbakiaaGreatDoor
