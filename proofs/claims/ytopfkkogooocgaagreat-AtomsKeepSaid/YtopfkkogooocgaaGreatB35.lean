import Derived.Test.YtopfkkogooocgaaGreatB17
import Derived.Test.YtopfkkogooocgaaGreatB18
import Derived.Test.YtopfkkogooocgaaGreatB21
import Derived.Test.YtopfkkogooocgaaGreatB33
import Derived.Test.YtopfkkogooocgaaGreatB34
set_option maxHeartbeats 16000000
set_option linter.unusedVariables false
set_option linter.unusedSimpArgs false
set_option maxRecDepth 100000
namespace Go.Proofs.YtopfkkogooocgaaGreat
open Go.RowKit
theorem zfH (nb:Nat) (cs:List PV) (o:Nat):JU nb (.cp cs o)=true:=rfl
attribute [go_sem] zfH
theorem Jg {e:En} (h:zO e):ZL e:=⟨h.1.lt,h.2.2.1,h.2.2.2⟩
section
variable (a b:En) (c:Nat) (ha:ZL a) (hb:ZL b) (hc:c<zk)
include ha hb hc
end
def JF (v:List En):Bool:=v.all (fun e=>decide (e.holes.length<=30)) && decide (v.length<=20)
theorem vw {v:List En}:JF v=true ↔ (∀ e ∈ v,e.holes.length<=30)/\v.length<=20:=by simp [JF]
def prv (v:List En) (k:Nat):Nat:=match v[k - 1]? with
 | some p=>p.rep
 | none=>0
theorem Xl {v:List En} {k:Nat} (h:k - 1<v.length):prv v k=v[k - 1].rep:=by simp [prv,List.getElem?_eq_getElem h]
def hkV (v:List En):Nat->List En->Nat × Int
 | _,[]=>(0,-1)
 | k,e::r=>if (yV e).1≠0 then ((yV e).1,(k:Int)) else if 0<k/\e.rep<=prv v k then (3,(k:Int)) else hkV v (k+1) r
def jx (v:List En):Nat × Int:=hkV v 0 v
theorem Ve (v:List En):∀(k:Nat) (r:List En),r=v.drop k->((hkV v k r).1=0 ↔ (∀ e ∈ r,(yV e).1=0)/\∀ j (h:j<v.length),k<=j->0<j->v[j - 1].rep<v[j].rep)
 | k,[],h=>by
   have hl:=congrArg List.length h
   simp at hl
   simp only [hkV,List.not_mem_nil,false_implies,implies_true,true_and,true_iff]
   intro j hj hk
   omega
 | k,e::r,h=>by
   have hl:=congrArg List.length h
   simp at hl
   have hk:k<v.length:=by omega
   rw [List.drop_eq_getElem_cons hk,List.cons.injEq] at h
   obtain⟨he,hr⟩:=h
   have ih:=Ve v (k+1) r hr
   unfold hkV
   by_cases h1:(yV e).1≠0
   ·rw [if_pos h1]
    constructor
    ·intro h;exact absurd h h1
    ·rintro⟨h2,_⟩;exact absurd (h2 e (by simp)) h1
   ·rw [if_neg h1]
    have h1':(yV e).1=0:=by omega
    by_cases h2:0<k/\e.rep<=prv v k
    ·rw [if_pos h2]
     constructor
     ·intro h;cases h
     ·rintro⟨_,h3⟩
      have:=h3 k hk (Nat.le_refl _) h2.1
      have h22:=h2.2
      have h23:=congrArg En.rep he
      rw [Xl (by omega)] at h22
      omega
    ·rw [if_neg h2,ih]
     constructor
     ·rintro⟨h3,h4⟩
      refine⟨fun f hf=>?_,fun j hj hkj hj0=>?_⟩
      ·rcases List.mem_cons.1 hf with rfl | hf
       ·exact h1'
       ·exact h3 f hf
      ·rcases Nat.eq_or_lt_of_le hkj with rfl | hlt
       ·rw [Xl (by omega),he] at h2
        omega
       ·exact h4 j hj (by omega) hj0
     ·rintro⟨h3,h4⟩
      exact⟨fun f hf=>h3 f (by simp [hf]),fun j hj hkj hj0=>h4 j hj (by omega) hj0⟩
theorem zb0 {v:List En} (h:∀ j (h:j<v.length),0<j->v[j - 1].rep<v[j].rep):v.Pairwise fun a b=>a.rep<b.rep:=by
 rw [List.pairwise_iff_getElem]
 intro i j hi hj hij
 induction j with
 | zero=>omega
 | succ j ih=>
   have h1:=h (j+1) hj (by omega)
   simp only [Nat.add_sub_cancel] at h1
   rcases Nat.eq_or_lt_of_le (Nat.le_of_lt_succ hij) with rfl | h2
   ·exact h1
   ·have:=ih (by omega) h2
    omega
theorem XP {v:List En} (hb:∀ e ∈ v,ZL e):(jx v).1=0 ↔ RightV v:=by
 unfold jx
 rw [Ve v 0 v rfl]
 have hE:∀ e ∈ v,(yV e).1=0 ↔ zO e:=fun e he=>by
  have:=VU (hb e he).1 (hb e he).2.1 (hb e he).2.2
  unfold Xu at this
  simpa using this
 constructor
 ·rintro⟨h1,h2⟩
  exact⟨fun e he=>(hE e he).1 (h1 e he),zb0 fun j hj h0=>h2 j hj (Nat.zero_le _) h0⟩
 ·rintro⟨h1,h2⟩
  refine⟨fun e he=>(hE e he).2 (h1 e he),fun j hj _ h0=>?_⟩
  exact List.pairwise_iff_getElem.1 h2 (j - 1) j (by omega) hj (by omega)
def zZ:List Nat->List Nat->Int
 | [],[]=>0
 | [],_::_ => -1
 | _::_,[]=>1
 | a::x,b::y=>if a<b then -1 else if b<a then 1 else zZ x y
theorem ZV:∀ a b,zZ b a=- zZ a b
 | [],[]=>rfl
 | [],_::_=>rfl
 | _::_,[]=>rfl
 | a::x,b::y=>by
   unfold zZ
   split
   ·rw [if_neg (by omega)];try rfl
   ·split
    ·rfl
    ·exact ZV x y
theorem jc:∀ a b,zZ a b=0 ↔ a=b
 | [],[]=>by simp [zZ]
 | [],_::_=>by simp [zZ]
 | _::_,[]=>by simp [zZ]
 | a::x,b::y=>by
   unfold zZ
   rw [List.cons.injEq]
   split
   ·constructor
    ·intro h;cases h
    ·rintro⟨h,_⟩;omega
   ·split
    ·constructor
     ·intro h;cases h
     ·rintro⟨h,_⟩;omega
    ·rw [jc x y]
     constructor
     ·intro h;exact⟨by omega,h⟩
     ·exact And.right
theorem ZW:∀ a b c,zZ a b<=0->zZ b c<=0->zZ a c<=0
 | [],_,[],_,_=>by simp [zZ]
 | [],_,_::_,_,_=>by simp [zZ]
 | _::_,[],_,h,_=>by simp [zZ] at h
 | _::_,_::_,[],_,h=>by simp [zZ] at h
 | a::x,b::y,c::z,h1,h2=>by
   unfold zZ at h1 h2 ⊢
   split
   ·omega
   ·split at h1
    ·split at h2
     ·omega
     ·split at h2
      ·omega
      ·omega
    ·split at h1
     ·omega
     ·split at h2
      ·omega
      ·split at h2
       ·omega
       ·rw [if_neg (by omega)]
        exact ZW x y z h1 h2
theorem Yn:∀ {a b:List Iv},a.flatMap (fun s=>[s.lo,s.hi])=b.flatMap (fun s=>[s.lo,s.hi])->a=b
 | [],[],_=>rfl
 | [],_::_,h=>by simp at h
 | _::_,[],h=>by simp at h
 | s::a,t::b,h=>by
   simp only [List.flatMap_cons,List.cons_append,List.nil_append,List.cons.injEq] at h
   rw [Iv.ext' h.1 h.2.1,Yn h.2.2]
theorem xx (a:List Iv):(a.flatMap (fun s=>[s.lo,s.hi])).length=2 * a.length:=by
 induction a with
 | nil=>rfl
 | cons s a ih=>simp only [List.flatMap_cons,List.length_append,List.length_cons,List.length_nil,ih];omega
theorem YA:∀ {a b:List En} ,a.length=b.length->a.flatMap zC=b.flatMap zC->a=b
 | [],[],_,_=>rfl
 | [],_::_,h,_=>by simp at h
 | _::_,[],h,_=>by simp at h
 | e::a,f::b,hl,h=>by
   simp only [List.flatMap_cons,zC,List.cons_append,List.cons.injEq] at h
   obtain⟨h1,h2,h3,h4⟩:=h
   have h5:=List.append_inj h4 (by rw [xx,xx,h3])
   rw [En.ext' h1 h2 (Yn h5.1),YA (by simpa using hl) h5.2]
theorem Vv {a b:List En} (h:zv a=zv b):a=b:=by
 unfold zv at h
 simp only [List.cons.injEq] at h
 exact YA h.1 h.2
theorem zj5 (v:List En) (hl:v.length<=9223372036854775807):Cn Tryz.prog 25 [vp v] (.v (.bool (JF v))):=by
 refine zt Tryz.func25 1 ?_
 refine pw ?_
 refine pLoop.go (fun k=>k<=v.length/\JF v=((v.drop k).all (fun e=>decide (e.holes.length<=30)) && decide (v.length<=20))) (fun k=>[(3,.v (.int .i64 (k:Nat)))]) (fun _=>[]) (fun k=>v.length - k) 0 [3] ?_ ?_ ?_
 ·exact⟨Nat.zero_le _,rfl⟩
 ·exact pd
 ·rintro k ⟨hk,hm⟩
  refine pw ?_
  refine .i ?_ ?_<;>intro h<;>(try simp only [zb] at h)<;>first | refine pw ?_ | exact pd
  ·rw [List.drop_eq_getElem_cons h,List.all_cons] at hm
   refine pw ?_
   refine .i ?_ ?_<;>intro h2<;>(try simp only [zb] at h2)<;>first | refine pw ?_ | exact pd
   ·rw [hm,decide_eq_false (by omega)]
    rfl
   ·rw [decide_eq_true (by omega),Bool.true_and] at hm
    exact⟨k+1,⟨h,hm⟩,by omega,rfl⟩
  ·rw [hm,List.drop_of_length_le (by omega)]
   simp
   omega
theorem zdn (x:Nat):Cn Tryz.prog 96 [.v (.int .u64 x)] (.v (.bool false)):=by
 refine zt Tryz.func96 1 ?_
 exact pd
theorem zdm (x:Int):Cn Tryz.prog 104 [.v (.int .i64 x)] (.v (.bool false)):=by
 refine zt Tryz.func104 1 ?_
 exact pd
theorem XQ (x y:Nat):Cn Tryz.prog 85 [.v (.int .u64 x),.v (.int .u64 y)] (.v (.int .i64 (if x<y then -1 else if y<x then 1 else 0))):=by
 refine zt Tryz.func85 2 ?_
 refine pw ?_
 refine .c (zdn x) ?_
 refine .c (zdn y) ?_
 refine .i ?_ ?_<;>intro h1<;>(try simp only [zb] at h1)<;>first | refine pw ?_ | exact pd
 ·rw [if_pos h1]
 ·rw [if_neg (by omega)]
  refine .i ?_ ?_<;>intro h2<;>(try simp only [zb] at h2)<;>first | refine pw ?_ | exact pd
  ·rw [if_pos h2]
  ·rw [if_neg (by omega)]
theorem zhq (x y:Nat):Cn Tryz.prog 86 [.v (.int .i64 x),.v (.int .i64 y)] (.v (.int .i64 (if x<y then -1 else if y<x then 1 else 0))):=by
 refine zt Tryz.func86 2 ?_
 refine pw ?_
 refine .c (zdm x) ?_
 refine .c (zdm y) ?_
 refine .i ?_ ?_<;>intro h1<;>(try simp only [zb] at h1)<;>first | refine pw ?_ | exact pd
 ·rw [if_pos h1]
 ·rw [if_neg (by omega)]
  refine .i ?_ ?_<;>intro h2<;>(try simp only [zb] at h2)<;>first | refine pw ?_ | exact pd
  ·rw [if_pos h2]
  ·rw [if_neg (by omega)]
theorem zfV (a b:List Nat) (ha:a.length<=1152921504606846976) (hb:b.length<=1152921504606846976):Cn Tryz.prog 59 [ns a,ns b] (.v (.int .i64 (zZ a b))):=by
 refine zt Tryz.func59 2 ?_
 refine pw ?_
 obtain⟨m,e1,h1,h2,h3⟩:∃ m:Nat,(if b.length<a.length then (b.length:Int) else (a.length:Int))=(m:Int)/\m<=a.length/\m<=b.length/\(m=a.length\/m=b.length):=by
  by_cases h:b.length<a.length
  ·exact⟨b.length,if_pos h,by omega,by omega,.inr rfl⟩
  ·exact⟨a.length,if_neg h,by omega,by omega,.inl rfl⟩
 rw [e1]
 refine pLoop.go (fun k=>k<=m/\zZ a b=zZ (a.drop k) (b.drop k)) (fun k=>[(11,.v (.int .i64 (k:Nat)))]) (fun _=>[]) (fun k=>m - k) 0 [11] ?_ ?_ ?_
 ·exact⟨Nat.zero_le _,rfl⟩
 ·exact pd
 ·rintro k ⟨hk,hm⟩
  refine pw ?_
  refine .i ?_ ?_<;>intro h<;>(try simp only [zb] at h)<;>first | refine pw ?_ | exact pd
  ·have ha':k<a.length:=by omega
   have hb':k<b.length:=by omega
   rw [List.drop_eq_getElem_cons ha',List.drop_eq_getElem_cons hb',zZ] at hm
   refine pw ?_
   refine .i ?_ ?_<;>intro h4<;>(try simp only [zb] at h4)<;>first | refine pw ?_ | exact pd
   ·refine .c (XQ a[k] b[k]) ?_
    rw [hm]
    by_cases h5:a[k]<b[k]
    ·rw [if_pos h5,if_pos h5]
    ·rw [if_neg h5,if_neg h5,if_pos (by omega),if_pos (by omega)]
   ·rw [if_neg (by omega),if_neg (by omega)] at hm
    exact⟨k+1,⟨h,hm⟩,by omega,rfl⟩
  ·refine .c (zhq a.length b.length) ?_
   have hx:a.drop k=[]\/b.drop k=[]:=by
    rcases h3 with h3 | h3
    ·exact .inl (List.drop_of_length_le (by omega))
    ·exact .inr (List.drop_of_length_le (by omega))
   have la:(a.drop k).length=a.length - k:=List.length_drop
   have lb:(b.drop k).length=b.length - k:=List.length_drop
   rw [hm]
   generalize a.drop k=x at *
   generalize b.drop k=y at *
   rcases hx with rfl | rfl
   ·cases y with
    | nil=>simp at la lb;rw [if_neg (by omega),if_neg (by omega)];rfl
    | cons c y=>simp at la lb;rw [if_pos (by omega)];rfl
   ·cases x with
    | nil=>simp at la lb;rw [if_neg (by omega),if_neg (by omega)];rfl
    | cons c y=>simp at la lb;rw [if_neg (by omega),if_pos (by omega)];rfl
theorem zrC (a b:List Nat) (ha:a.length<=1152921504606846976):Cn Tryz.prog 14 [ns a,ns b] (.v (.bool (decide (a=b)))):=by
 refine zt Tryz.func14 2 ?_
 refine pw ?_
 refine .i ?_ ?_<;>intro h0<;>(try simp only [zb] at h0)<;>first | refine pw ?_ | exact pd
 ·symm
  rw [decide_eq_false_iff_not]
  rintro rfl
  exact h0 rfl
 ·have h0':a.length=b.length:=by simpa using h0
  clear h0
  refine pLoop.go (fun k=>k<=a.length/\(a=b ↔ a.drop k=b.drop k)) (fun k=>[(13,.v (.int .i64 (k:Nat)))]) (fun _=>[]) (fun k=>a.length - k) 0 [13] ?_ ?_ ?_
  ·exact⟨Nat.zero_le _,Iff.rfl⟩
  ·exact pd
  ·rintro k ⟨hk,hm⟩
   refine pw ?_
   refine .i ?_ ?_<;>intro h<;>(try simp only [zb] at h)<;>first | refine pw ?_ | exact pd
   ·have hk':k<b.length:=by omega
    rw [List.drop_eq_getElem_cons h,List.drop_eq_getElem_cons hk',List.cons.injEq] at hm
    refine pw ?_
    refine .i ?_ ?_<;>intro e<;>(try simp only [zb] at e)<;>first | refine pw ?_ | exact pd
    ·symm
     rw [decide_eq_false_iff_not]
     intro he
     exact absurd (hm.1 he).1 (by omega)
    ·refine⟨k+1,⟨h,?_⟩,by omega,rfl⟩
     rw [hm]
     have e:a[k]=b[k]:=by omega
     exact⟨fun h=>h.2,fun h=>⟨e,h⟩⟩
   ·rw [eq_comm,decide_eq_true_eq,hm,List.drop_of_length_le (by omega),List.drop_of_length_le (by omega)]
theorem Ks (a b:List En) (ha:∀ e ∈ a,ZL e) (hb:∀ e ∈ b,ZL e) (la:(zv a).length<=1073741824) (lb:(zv b).length<=1073741824):Cn Tryz.prog 40 [vp a,vp b] (.v (.int .i64 (zZ (zv a) (zv b)))):=by
 refine zt Tryz.func40 2 ?_
 refine pw ?_
 refine .c (Yz a ha la) ?_
 refine .c (Yz b hb lb) ?_
 exact .d (zfV (zv a) (zv b) (by omega) (by omega))
theorem zji (a b:List En) (hl:a.length<=1152921504606846976) (hh:∀ e ∈ a,e.holes.length<=1152921504606846976):Cn Tryz.prog 24 [vp a,vp b] (.v (.bool (decide (a=b)))):=by
 refine zt Tryz.func24 2 ?_
 refine pw ?_
 refine .i ?_ ?_<;>intro h0<;>(try simp only [zb] at h0)<;>first | refine pw ?_ | exact pd
 ·symm
  rw [decide_eq_false_iff_not]
  rintro rfl
  exact h0 rfl
 ·have h0':a.length=b.length:=by simpa using h0
  clear h0
  refine pLoop.go (fun k=>k<=a.length/\(a=b ↔ a.drop k=b.drop k)) (fun k=>[(5,.v (.int .i64 (k:Nat)))]) (fun _=>[]) (fun k=>a.length - k) 0 [5] ?_ ?_ ?_
  ·exact⟨Nat.zero_le _,Iff.rfl⟩
  ·exact pd
  ·rintro k ⟨hk,hm⟩
   refine pw ?_
   refine .i ?_ ?_<;>intro h<;>(try simp only [zb] at h)<;>first | refine pw ?_ | exact pd
   ·have hk':k<b.length:=by omega
    rw [List.drop_eq_getElem_cons h,List.drop_eq_getElem_cons hk',List.cons.injEq] at hm
    refine pw ?_
    refine .c (zjh a[k] b[k] (hh _ (List.getElem_mem h))) ?_
    refine .i ?_ ?_<;>intro e<;>(try simp only [zb] at e)<;>first | refine pw ?_ | exact pd
    ·symm
     rw [decide_eq_false_iff_not]
     intro he
     exact e (hm.1 he).1
    ·refine⟨k+1,⟨h,?_⟩,by omega,rfl⟩
     rw [hm]
     exact⟨fun h=>h.2,fun h=>⟨e,h⟩⟩
   ·rw [eq_comm,decide_eq_true_eq,hm,List.drop_of_length_le (by omega),List.drop_of_length_le (by omega)]
theorem Kb (v:List En) (hb:∀ e ∈ v,ZL e) (hl:v.length<=9223372036854775807) (hh:∀ e ∈ v,e.holes.length<=9223372036854775807):Cn Tryz.prog 46 [vp v] (.tup [.v (.int .i64 (jx v).1),.v (.int .i64 (jx v).2)]):=by
 refine zt Tryz.func46 1 ?_
 refine pw ?_
 refine pLoop.go (fun k=>k<=v.length/\jx v=hkV v k (v.drop k)) (fun k=>[(4,.v (.int .i64 (k:Nat)))]) (fun _=>[]) (fun k=>v.length - k) 0 [4] ?_ ?_ ?_
 ·exact⟨Nat.zero_le _,rfl⟩
 ·exact pd
 ·rintro k ⟨hk,hm⟩
  refine pw ?_
  refine .i ?_ ?_<;>intro h<;>(try simp only [zb] at h)<;>first | refine pw ?_ | exact pd
  ·rw [List.drop_eq_getElem_cons h,hkV] at hm
   refine pw ?_
   refine .c (zcj v[k] (hh _ (List.getElem_mem h)) (hb _ (List.getElem_mem h)).1) ?_
   refine .i ?_ ?_<;>intro h2<;>(try simp only [zb] at h2)<;>first | refine pw ?_ | exact pd
   ·rw [if_pos (by omega)] at hm
    rw [hm]
   ·rw [if_neg (by omega)] at hm
    refine .i ?_ ?_<;>intro h3<;>(try simp only [zb] at h3)<;>first | refine pw ?_ | exact pd
    ·have hp:=Xl (v:=v) (k:=k) (by omega)
     rw [hp] at hm
     refine pw ?_
     refine .i ?_ ?_<;>intro h4<;>(try simp only [zb] at h4)<;>first | refine pw ?_ | exact pd
     ·rw [if_pos ⟨h3,h4⟩] at hm
      rw [hm]
      rfl
     ·rw [if_neg (fun h=>by omega)] at hm
      exact⟨k+1,⟨h,hm⟩,by omega,rfl⟩
    ·rw [if_neg (fun h=>by omega)] at hm
     exact⟨k+1,⟨h,hm⟩,by omega,rfl⟩
  ·rw [hm,List.drop_of_length_le (by omega)]
   rfl
theorem yY {v:List En} {k:Nat} (h:k<v.length):zi (v.take (k+1))=if (kP v[k]).2 then zi (v.take k)++[(kP v[k]).1] else zi (v.take k):=by
 unfold zi
 rw [List.take_succ_eq_append_getElem h,List.filterMap_append]
 simp only [List.filterMap_cons,List.filterMap_nil,QX]
 split
 ·rename_i h1;split at h1
  ·cases h1
  ·rename_i h2;rw [if_neg h2,List.append_nil]
 ·rename_i h1;split at h1
  ·rename_i h2;cases h1;rw [if_pos h2]
  ·cases h1
theorem ZU (v:List En) (k:Nat):(zi (v.take k)).length<=k:=by
 have:=List.length_filterMap_le QX (v.take k)
 have h2:(v.take k).length<=k:=List.length_take_le _ _
 unfold zi
 omega
def us (l:List Nat):PV:=.sl (l.map yN) .sh
attribute [go_sem] us
theorem zik (x:Nat):Cn Tryz.prog 111 [.v (.int .u64 x)] (.v (.bool false)):=by
 refine zt Tryz.func111 1 ?_
 exact pd
theorem zie (x y:Nat):Cn Tryz.prog 76 [.v (.int .u64 x),.v (.int .u64 y)] (.v (.bool (decide (x<y)))):=by
 refine zt Tryz.func76 2 ?_
 refine pw ?_
 exact .d (zdn x)
theorem zaI (l:List Nat) (x i:Nat) (hi:i<=l.length) (h1:∀ j,(h:j<l.length)->j<i->l[j]<x) (h2:∀ j,(h:j<l.length)->i<=j->x<=l[j]) (hl:l.length<=1152921504606846976) :
 Cn Tryz.prog 100 [us l,.v (.int .u64 x)] (.tup [.v (.int .i64 i),.v (.bool (decide (l[i]? = some x)))]):=by
 refine zt Tryz.func100 2 ?_
 refine pw ?_
 refine pLoop.go (fun p:Nat × Nat=>p.1<=i/\i<=p.2/\p.2<=l.length) (fun p=>[(7,.v (.int .i64 (p.1:Nat))),(8,.v (.int .i64 (p.2:Nat)))]) (fun _=>[]) (fun p=>p.2 - p.1) (0,l.length) [7,8] ?_ ?_ ?_
 ·exact⟨Nat.zero_le _,hi,Nat.le_refl _⟩
 ·exact pd
 ·rintro⟨p,q⟩ ⟨k1,k2,k3⟩
  simp only at k1 k2 k3
  refine pw ?_
  refine .i ?_ ?_<;>intro h<;>(try simp only [zb] at h)<;>first | refine pw ?_ | exact pd
  ·have hm:(p+q) / 2<l.length:=by omega
   refine pw ?_
   refine .c (zie l[(p+q) / 2] x) ?_
   refine .i ?_ ?_<;>intro h4<;>(try simp only [zb] at h4)<;>first | refine pw ?_ | exact pd
   ·refine⟨((p+q) / 2+1,q),⟨?_,k2,k3⟩,by simp only;omega,rfl,rfl⟩
    simp only
    refine Nat.lt_of_not_le fun h5=>?_
    have:=h2 _ hm h5
    omega
   ·refine⟨(p,(p+q) / 2),⟨k1,?_,by simp only;omega⟩,by simp only;omega,rfl,rfl⟩
    simp only
    refine Nat.le_of_not_lt fun h5=>?_
    have:=h1 _ hm h5
    omega
  ·obtain rfl:p=i:=by omega
   obtain rfl:q=p:=by omega
   refine .i ?_ ?_<;>intro h4<;>(try simp only [zb] at h4)<;>first | refine pw ?_ | exact pd
   ·rw [show l[q]? = some l[q] from List.getElem?_eq_getElem h4]
    refine .i ?_ ?_<;>intro h5<;>(try simp only [zb] at h5)<;>first | refine pw ?_ | exact pd
    ·simp [h5]
    ·refine .c (zik l[q]) ?_
     simp [h5]
   ·rw [show l[q]? = none from List.getElem?_eq_none (by omega)]
    simp
end Go.Proofs.YtopfkkogooocgaaGreat
namespace Go.Proofs.YtopfkkogooocgaaGreat
open Go.RowKit Go.Maps
attribute [-go_sem] z7
theorem XY {D:Nat->Nat->Prop} {w:World} {x a b:Value} (h:Dat D w x (.tup [.v a,.v b])):x=.tuple #[a,b]:=by
 cases h with
 | tup vs cs hs h=>
   obtain⟨l⟩:=vs
   match l,hs with
   | [p,q],_=>
     have e0:=(h 0 _ rfl).v_inv
     have e1:=(h 1 _ rfl).v_inv
     simp at e0 e1
     rw [e0,e1]
theorem jP {f:FuncId} {ps:List PV} {r:PV} (h:Cn Tryz.prog f ps r) {D:Nat->Nat->Prop} {w:World} {vs:Array Value} (hG:GL D w) (hD:∀ b o,D b o->b<w.heap.size) (hsz:vs.size=ps.length) (hd:∀(i:Nat) p,ps[i]? = some p->Dat D w (vs.getD i undef) p) :
 Calls Tryz.prog f vs w fun e w'=>∃ v,e=.returned v/\Below w.heap.size w w'/\Dat (fun b o=>D b o\/(w.heap.size<=b/\b<w'.heap.size)) w' v r:=by
 refine(h.2 D w vs hG hD hsz hd).mono ?_
 rintro e w' ⟨v,D',rfl,hb,_,q2,q3,hd,_⟩
 exact⟨v,rfl,hb,hd.mono (fun b o h=>(q2 b o h).imp id fun h'=>⟨h',q3 b o h⟩) fun _ _ _ _ h=>h⟩
theorem OwnU.keep {base:Nat} {w w':World} {v:Value} {l:List Nat} (h:OwnU base w v l) (hb:∀ g,v.ownBlock=some g->w'.heap[g]? = w.heap[g]?):OwnU base w' v l:=by
 refine⟨h.1,?_⟩
 rcases h.2 with h | ⟨g,cap,cur,e,hg,hc,r⟩
 ·exact .inl h
 ·exact .inr ⟨g,cap,cur,e,hg,(hb g (by rw [e];rfl)).trans hc,r⟩
theorem OwnU.lt {base:Nat} {w:World} {v:Value} {l:List Nat} (h:OwnU base w v l):∀ g,v.ownBlock=some g->base<=g/\g<w.heap.size:=fun g hg=>World.ownsRow.lt h g hg
theorem KC (x:Nat):∀ {l:List Nat},YN l->∃ i,i<=l.length/\(∀ j,(h:j<l.length)->j<i->l[j]<x)/\(∀ j,(h:j<l.length)->i<=j->x<=l[j])
 | [],_=>⟨0,Nat.le_refl _,fun j h=>absurd h (by simp),fun j h=>absurd h (by simp)⟩
 | y::l,h=>by
   have ⟨h1,h2⟩:=List.pairwise_cons.1 h
   by_cases hy:y<x
   ·obtain⟨i,hi,q1,q2⟩:=KC x h2
    refine⟨i+1,by simp;omega,fun j hj hji=>?_,fun j hj hij=>?_⟩
    ·match j with
     | 0=>exact hy
     | j+1=>exact q1 j (by simpa using hj) (by omega)
    ·match j with
     | 0=>omega
     | j+1=>exact q2 j (by simpa using hj) (by omega)
   ·refine⟨0,Nat.zero_le _,fun j _ hj=>by omega,fun j hj _=>?_⟩
    match j with
    | 0=>simp;omega
    | j+1=>
      have hj':j<l.length:=by simpa using hj
      have:=h1 _ (List.getElem_mem hj')
      simp only [List.getElem_cons_succ]
      omega
theorem zmj {C:Nat->Nat->Prop} {base:Nat} {w:World} {v:Value} {l:List Nat} (x i:Nat) (hown:OwnU base w v l) (hC:∀ b o,C b o->b<w.heap.size) (hG:GL C w) (hi:i<=l.length) (h1:∀ j,(h:j<l.length)->j<i->l[j]<x) (h2:∀ j,(h:j<l.length)->i<=j->x<=l[j]) (hl:l.length<=1152921504606846976) :
 Calls Tryz.prog 100 #[v,.int .u64 (x:Nat)] w fun e w'=>(∃ b,e=.returned (.tuple #[.int .i64 (i:Nat),.bool b]))/\Below w.heap.size w w':=by
 refine(jP (zaI l x i hi h1 h2 hl) (D:=fun b o=>C b o\/(base<=b/\b<w.heap.size)) (hG.mono (fun _ _ h=>.inl h) fun _ _ _ _ h=>h) (fun b o h=>h.elim (hC b o) And.right) rfl (fun j p hp=>?_)).mono ?_
 ·match j,hp with
  | 0,hp=>cases hp;exact vL hown fun b o h1 h2=>.inr ⟨h1,h2⟩
  | 1,hp=>cases hp;exact .v _
  | j+2,hp=>simp at hp
 ·rintro e w' ⟨v,rfl,hb,hd⟩
  rw [XY hd]
  exact⟨⟨_,rfl⟩,hb⟩
theorem zaD {C:Nat->Nat->Prop} {base rb:Nat} {w:World} {v:Value} {xs:List Nat} (x:Nat) (hown:OwnU base w v (srt xs)) (hbx:Boxed w rb 122 v) (hrb:rb<base) (hnot:x ∉ xs) (hl:(srt xs).length<=4194304) (hbase:base<=w.heap.size) (hC:∀ b o,C b o->b<w.heap.size) (hG:GL C w) :
 Calls Tryz.prog 83 #[.pointer (some ⟨rb,0,none⟩),.int .u64 (x:Nat)] w fun e w'=>(∃ u,e=.returned u)/\∃ v',Boxed w' rb 122 v'/\OwnU base w' v' (srt (xs++[x]))/\Keep (fun k=>k=rb\/base<=k) w w':=by
 obtain⟨i,hi,q1,q2⟩:=KC x (yi xs)
 have HBS:=Lib.hid (zmj x i hown hC hG hi q1 q2 (by omega))
 have hins:srt (xs++[x])=(srt xs).take i++x::(srt xs).drop i:=kJ hi (fun k hk hik=>by
  have h1:=q2 k hk hik
  have h2:(srt xs)[k]≠x:=fun e=>hnot (qr.1 (e ▸ List.getElem_mem hk))
  omega) (by
  rcases Nat.eq_zero_or_pos i with h0 | h0
  ·exact .inl h0
  ·exact .inr ⟨by omega,q1 _ (by omega) (by omega)⟩)
 have HI:=Lib.hid hins
 have HO:=Lib.hid hown
 have HX:=Lib.hid hbx
 have c0:=hbx.cell
 have hrw:=hbx.lt
 clear hins hown hbx hC hG q1 q2 hnot
 have tokA:True:=trivial
 have tokB:True:=trivial
 go_enter Tryz.func83,Tryz.ntmps83
 go_wp2_with (first
  | (go_at_call 100;have _t:=tokA;refine HBS.out.mono ?_;rintro e w1 ⟨⟨bb,rfl⟩,hb1⟩
     have c1:w1.cell? ⟨rb,0,none⟩=some v:=(World.cell?_of_block (a:=⟨rb,0,none⟩) (hb1.block rb hrw)).trans c0
     have HB1:=Lib.hid hb1
     clear hb1 tokA)
  | (go_at_call 101;have _t:=tokB
     refine(Y9 base w1.heap.size _ _ v (srt xs) x i hi (HO.out.keep fun g hg=>by rw [Below.heap_alloc _ _ _ (Nat.lt_of_lt_of_le (HO.out.lt g hg).2 HB1.out.size),HB1.out.block g (HO.out.lt g hg).2]) (World.alloc_heap_new w1 _) (fun e=>by have h8:=(HO.out.lt _ e).2;have h9:=HB1.out.size;omega) (by omega) (by have:=HB1.out.size;simp;omega)).mono ?_
     rintro e w3 ⟨v',rfl,ho3,hg3,_⟩
     have hx3:Boxed w3 rb 122 v:=((show Boxed w1 rb _ v from (HB1.out.block rb hrw).trans HX.out).alloc _).kept hg3 (fun e=>by have:=(HO.out.lt rb e.symm).1;omega)
     have c3:=hx3.cell
     have f3:=hx3.frozen
     have HX3:=Lib.hid hx3
     have HK3:=Lib.hid ((((Keep.of_below' (S:=fun k=>k=rb\/base<=k) HB1.out (Nat.le_refl _)).alloc _).grown hg3 fun k hk _=>.inr (HO.out.lt k hk).1))
     rw [<-HI.out] at ho3
     obtain⟨g3,cap3,cur3,rfl,_⟩:=(show _\/_ from ho3.cases).resolve_left (fun h=>by have:=h.2;rw [HI.out] at this;simp at this)
     have HO3:=Lib.hid ho3
     clear hx3 hg3 ho3 tokB)
  | go_in)
 go_end0
 exact⟨⟨_,rfl⟩,_,HX3.out.set _,HO3.out.keep fun g hg=>Below.heap_setCell _ _ _ _ (by have:=(HO3.out.lt g hg).1;show g≠rb;omega),HK3.out.setCell (fun _=>.inl rfl) _⟩
theorem jL {n:Nat} {A B C:World} {S:Nat->Prop} (h:Below n A B) (hk:Keep S B C) (hs:∀ k,k<n->¬ S k) (hn:n<=A.heap.size):Below n A C:=
 ⟨hk.os.trans h.os,hk.tape.trans h.tape,hk.output.trans h.output,Nat.le_trans h.size hk.size,fun k hkn=>(hk.block k (by have:=h.size;omega) (hs k hkn)).trans (h.block k hkn)⟩
theorem yD {w w':World} {b r n YV:Nat} {D:DV} {left:Lit->Bool} (h:w.ranges Tryz.prog 33 rV b r n D left YV) (hb:w'.heap[b]? = w.heap[b]?) (hr:w'.heap[r]? = w.heap[r]?):w'.ranges Tryz.prog 33 rV b r n D left YV:=by
 obtain⟨es,clock,since,seen,c0,h1,F,hs,hD,h2,rest⟩:=h
 exact⟨es,clock,since,seen,c0,hb.trans h1,F,hs,hD,hr.trans h2,rest⟩
theorem zhV:∀(key:Value) (kl:Lit),keyOf Tryz.prog 33 key=some kl->∃ x:{r:Nat // r<zk},key=Value.int .u64 (x.1:Nat):=fun key kl h=>by
 obtain⟨x,rfl,_,hw⟩:=Maps.keyOf_int_inv Tryz.underlying33 h
 simp [Lit.wf,IntKind.min,IntKind.max,IntKind.signed,IntKind.bits] at hw
 refine⟨⟨x.toNat,by rw [zw];omega⟩,?_⟩
 rw [Int.toNat_of_nonneg (by omega)]
theorem QM {left:Lit->Bool} {r x:Nat}:(left (kR r) && !(kR r).sameKey (kR x))=false ↔ left (kR r)=false\/r=x:=by
 have h:(kR r).sameKey (kR x)=decide (r=x):=by
  simp [kR,Lit.sameKey]
  omega
 rw [h]
 cases left (kR r)<;>simp
theorem zeK:∀(r xs:List Nat),YN r->(∀ y ∈ r,y ∈ xs)->r.length<=xs.length:=by
 intro r
 induction r with
 | nil=>intro xs _ _;exact Nat.zero_le _
 | cons x r ih=>
   intro xs h hm
   have h':=List.pairwise_cons.1 h
   have:=ih (xs.erase x) h'.2 fun y hy=>by
    have h3:=h'.1 y hy
    exact(List.mem_erase_of_ne (by omega)).2 (hm y (by simp [hy]))
   have hx:x ∈ xs:=hm x (by simp)
   rw [List.length_erase_of_mem hx] at this
   have:=List.length_pos_of_mem hx
   simp;omega
theorem zkr (a1 a2:Option Addr) (n1 n2 c1 c2:Nat) (w:World):(Instr.index 125 (.agg #[.slice a1 n1 c1,.slice a2 n2 c2]) (.int .i64 0)).run Tryz.prog w=.ok (.slice a1 n1 c1) w:=by kernel_rfl
theorem zks (a1 a2:Option Addr) (n1 n2 c1 c2:Nat) (w:World):(Instr.index 125 (.agg #[.slice a1 n1 c1,.slice a2 n2 c2]) (.int .i64 1)).run Tryz.prog w=.ok (.slice a2 n2 c2) w:=by kernel_rfl
theorem zkk:(Tryz.prog.info? 37).map (fun i=>(i.zero,i.size,i.bytes))=some (some (.agg #[.int .u64 0,.int .u64 0,.slice none 0 0]),3,40):=by kernel_rfl
theorem OwnU.shape {base:Nat} {w:World} {v:Value} {l:List Nat} (h:OwnU base w v l):∃ ad cap,v=.slice ad l.length cap/\l.length<=cap/\cap<=maxLen/\(l≠[]->∃ g,ad=some ⟨g,0,none⟩/\g<w.heap.size/\∀ j (hj:j<l.length),w.cell? ⟨g,j,none⟩=some (.int .u64 (l[j]:Nat))):=by
 rcases h.cases with⟨rfl,rfl⟩ | ⟨g,cap,cur,rfl,h1,h2,h3,h4,h5,h6,h7⟩
 ·exact⟨none,0,rfl,Nat.le_refl _,Nat.zero_le _,fun h=>absurd rfl h⟩
 ·refine⟨_,cap,rfl,h4,h5,fun _=>⟨g,rfl,h2,fun j hj=>?_⟩⟩
  have:=World.ownsRow.cells h (g:=g) rfl j (uV l[j]) (by rw [List.getElem?_map,List.getElem?_eq_getElem hj];rfl)
  rw [zh,Nat.zero_add] at this
  exact this
theorem zac {f:Bool->Bool->Bool} {a b:List En} {r:Nat} {e:En} {ok:Bool} (h:Qi r (qy f (zT a r) (zT b r))=(e,ok)):vE f a b r=if ok=true then some e else none:=by
 unfold vE Xd
 rw [h]
theorem KZ {f:Bool->Bool->Bool} {a b:List En} {L:List Nat} {k:Nat} (hk:k<L.length):(L.take (k+1)).filterMap (vE f a b)=(L.take k).filterMap (vE f a b)++(vE f a b L[k]).toList:=by
 rw [List.take_succ_eq_append_getElem hk,List.filterMap_append,List.filterMap_cons,List.filterMap_nil]
 cases vE f a b L[k]<;>rfl
theorem Ja {P:Program} {f:FuncId} {t:Tmp} {xs:List Operand} {c:Call} {o:Oper} {a:Act} {w:World} {K:Act->World->Prop} {Q:Exit->Act->World->Prop} (ho:o.op=.call c) (hc:c.callee=.value (.tmp t)) (hv:a.eval (.tmp t)=.func (.func f) #[] #[]) (ha:c.args.toList=xs)
 (he:∀ args w,(callFunc f args).run P w=.ok (.enter f args) w)
 (h:Calls P f (xs.map a.eval).toArray w fun e w''=>match e with | .returned v=>K (a.put o.dst v) w'' | .panicked chain=>Q (.panic chain) a w'' | .outgrown=>LetsOut Q):o.wp P a w K Q:=by
 have hr:(execOp a.eval o).run P w=.ok (.enter f (xs.map a.eval).toArray) w:=by
  have e:c.args.map a.eval=(xs.map a.eval).toArray:=Array.toList_inj.1 (by rw [Array.toList_map,ha])
  simp only [execOp,ho,resolve,hc,e,hv,Deferred.ofValue,Sem.run_bind,Sem.run_pure,Result.andThen_ok,invoke]
  rw [show (#[]++(xs.map a.eval).toArray++#[]:Array Value)=(xs.map a.eval).toArray from by simp]
  exact he _ _
 unfold Oper.wp
 rw [hr,Oper.upon_enter]
 exact h.mono (fun e w' h=>by cases e<;>exact h)
theorem Zi {P:Program} {w:World} {o:Oper} {a:Act} {K:Act->World->Prop} {Q:Exit->Act->World->Prop} (s x:Operand) (t:TypeId)
 (ho:o.op=.call { callee:=.builtin .append,args:=#[s,x],argTypes:=#[t,t] })
 (base:Nat) (e:TypeId) (i:TypeInfo) (z:Value) (size bytes:Nat) (ht:P.underlying t=some (.slice e)) (hi:P.info? e=some i) (hz:i.zero=some z)
 (hsize:i.size=size) (hby:i.bytes=bytes) (hzs:z.cells.size=size) (hsz:0<size)
 (v:Value) (n:Nat) (xs:List Value) (hs:a.eval s=v) (hown:w.ownsRow base e size v n xs)
 (ad:Addr) (m c:Nat) (news:List Value) (hx:a.eval x=.slice (some ad) m c) (hl:news.length=m * size) (hnews:∀ j u,news[j]? = some u->w.cell? (ad.add j)=some u) (h1:∀ u ∈ news,u.oneCell'=true)
 (h63:n+m<=maxLen) (hbytes:(n+m) * bytes<=140737488355328) (hbase:base<=w.heap.size)
 (h:∀ v' w',w'.ownsRow base e size v' (n+m) (xs++news)->w.grownBy w' v.ownBlock->(v'=.slice none 0 0 ↔ v=.slice none 0 0/\m=0)->(v'.ownBlock=v.ownBlock\/v'.ownBlock=some w.heap.size)->K (a.put o.dst v') w') :
 o.wp P a w K Q:=by
 obtain⟨v',w',hr,h2,h3,h4,h5⟩:=run_append_own_at (P:=P) w base t o.type e i z size bytes ht hi hz hsize hby hzs hsz v n xs hown ad m c news hl hnews h1 h63 hbytes hbase
 unfold Oper.wp execOp
 simp only [ho,resolve,invoke,builtin,Sem.run_bind,Sem.run_pure,Result.andThen_ok,List.map_toArray,List.map_cons,List.map_nil,hs,hx,hr]
 exact h v' w' h2 h3 h4 h5
theorem zcD (C:Nat->Nat->Prop) (a b:List En) (va vb:Value) (w:World) (f:Bool->Bool->Bool) (op:FuncId) (hop:∀ r,Cn Tryz.prog op [rg (zT a r),rg (zT b r)] (rg (qy f (zT a r) (zT b r))))
 (ha:SmV a) (hb:SmV b) (ra:RdF C w.heap.size w va a) (rb:RdF C w.heap.size w vb b) (hC:∀ b o,C b o->b<w.heap.size) (hG:GL C w) :
 Calls Tryz.prog 58 #[va,vb,.func (.func op) #[] #[]] w fun e w'=>∃ v,e=.returned v/\Below w.heap.size w w'/\Dat (DL C w.heap.size w') w' v (vp (ks f a b))/\MuE (w.heap.size<=·) w' v:=by
 have HP0:=Lib.hid (J4 C a b va vb w ha hb ra rb hC hG)
 have HGL:=Lib.hid hG
 have hent:=(hop 0).1
 have HOP:=Lib.hid hop
 have HM:=Lib.hid (Xr ha.1 hb.1)
 obtain⟨dom,hdom⟩:∃ dom,dom=zM a++zM b:=⟨_,rfl⟩
 have hdl:dom.length<=2097152:=by have h1:=ha.2.1;have h2:=hb.2.1;rw [hdom];simp [zM];omega
 have hlat:ks f a b=(srt dom).filterMap (vE f a b):=by rw [hdom];rfl
 rw [<-hdom] at HM
 have HLat:=Lib.hid hlat
 have HDom:=Lib.hid hdom
 clear hG ra rb hop hlat
 have tokA:True:=trivial
 have tokB:True:=trivial
 go_enter Tryz.func58,Tryz.ntmps58
 go_wp2_with (first
  | (go_at_call 82;have _t:=tokA;refine HP0.out.mono ?_;rintro e w1 ⟨rfl,hb1,D,hown,hpd⟩
     rw [<-hdom] at hpd
     have hmb:w.heap.size<w1.heap.size:=hown.lt
     have HO1:=Lib.hid hown
     have HP1:=Lib.hid hpd
     have HB1:=Lib.hid hb1
     clear hown hpd hb1 tokA)
  | (at_range;have _t:=tokB;refine wpList_range_own _ rfl _ 119 rfl 33 125 vF Tryz.underlying119 rV w.heap.size (a.length+b.length) D rfl (HO1.out.alloc _) ?_;intro w2 hrg2 hg2 hs2;clear tokB)
  | go_in)
 go_frame
 simp only [World.size_alloc] at hrg2 hs2 ⊢
 clear hdom
 have HG2:=Lib.hid hg2
 have hbx2:Boxed w2 w1.heap.size 122 (.slice none 0 0):=(Boxed.new w1 _ _).kept hg2 (by simp)
 have HK2:Hid (∀ k,k<w1.heap.size->w2.heap[k]? = w1.heap[k]?):=Lib.hid fun k hk=>(hg2.block k (by simp;omega) (by simp)).trans (Below.heap_alloc _ _ _ hk)
 have HB2:=Lib.hid (jL HB1.out (S:=fun _=>False) ⟨hg2.os,hg2.tape,hg2.output,Nat.le_trans (by simp) hg2.size,fun k hk _=>HK2.out k hk⟩ (fun _ _ h=>h) (Nat.le_refl _))
 clear hg2
 go_loopg [9] (Maps.size D) (fun g x wr=>∃ left xs v,wr.ranges Tryz.prog 33 rV w.heap.size (w1.heap.size+1) (a.length+b.length) D left g/\(∀ r,r ∈ xs ↔ r ∈ dom/\left (kR r)=false)/\(∀ r,left (kR r)=true->r ∈ dom) /\
  OwnU (w1.heap.size+2) wr v (srt xs)/\Boxed wr w1.heap.size 122 v/\Keep (fun k=>w1.heap.size<=k) w2 wr)
 case atStart=>
  have hpd:=HP1.out
  refine⟨Maps.has D,[],.slice none 0 0,hrg2,fun r=>?_,fun r h=>?_,?_,hbx2,Keep.refl _ _⟩
  ·rw [(hpd.2 r).1];simp
  ·rw [(hpd.2 r).1] at h;simpa using h
  ·rw [XB];exact World.ownsRow_nil _ _ _ _
 case round=>
  obtain⟨left,xs,v,hrg,hxs,hlf,hown,hbx,hK⟩:=hrel
  obtain⟨wl,hwl⟩:∃ x,x=wr:=⟨_,rfl⟩
  subst hwl
  have HRG:=Lib.hid hrg
  have HXS:=Lib.hid hxs
  have HLF:=Lib.hid hlf
  have HOW:=Lib.hid hown
  have HBX:=Lib.hid hbx
  have HKL:=Lib.hid hK
  have hsl:(srt xs).length<=2097152:=Nat.le_trans (zeK _ dom (yi xs) fun y hy=>((hxs y).1 (qr.1 hy)).1) hdl
  have hw2l:w2.heap.size<=wl.heap.size:=hK.size
  have HKW:Hid (∀ k,k<w1.heap.size->wl.heap[k]? = w1.heap[k]?):=Lib.hid fun k hk=>(hK.block k (by omega) (by omega)).trans (HK2.out k hk)
  have HBL:=Lib.hid (jL HB2.out hK (fun k hk=>by omega) (Nat.le_refl _))
  have HGW:Hid (GL C wl):=Lib.hid (HGL.out.mono (fun _ _ h=>h) fun j o x hj hx=>(World.cell?_of_block (a:=⟨j,o,none⟩) (HBL.out.block j (hC j o hj))).trans hx)
  clear hrg2 hbx2 hrg hxs hlf hown hbx hK
  go_wp2_with (first
   | (at_next;refine wpList_next_ranges _ rfl _ rfl 33 vF rV (fun r:{r:Nat // r<zk}=>Value.int .u64 (r.1:Nat)) (fun c:Value=>c) zhV (fun v y _=>⟨v,rfl⟩) w.heap.size (w1.heap.size+1) (a.length+b.length) D left gk rfl HRG.out ?_ ?_)
   | go_in)
  ·intro hc0 hl0
   have hL:srt xs=srt dom:=XA (yi dom) fun y=>by rw [qr,HXS.out y,hl0];simp
   have HOW2:=HOW.out
   rw [hL] at HOW2 hsl
   have c0:=HBX.out.cell
   have hown:=HRG.out.owns
   have HO:=Lib.hid hown
   clear hown hl0 hL HOW HXS HLF
   obtain⟨L,hLL⟩:∃ L,L=srt dom:=⟨_,rfl⟩
   rw [<-hLL] at HOW2 hsl
   obtain⟨ad,cap,rfl,hcap,hcm,hcl⟩:=HOW2.shape
   unfold maxLen at hcm
   have HCL:=Lib.hid hcl
   have HLL:=Lib.hid hLL
   clear hcl hLL HOW2
   go_wp2_with fail
   go_loopg [10,29] L.length (fun g y x wr=>∃ k,k<=L.length/\g=L.length - k/\x=.int .i64 k/\OutE C w.heap.size wl.heap.size wr y ((L.take k).filterMap (vE f a b))/\Keep (fun k=>wl.heap.size<=k) wl wr)
   case atStart=>exact⟨0,Nat.zero_le _,rfl,rfl,OutE.start _ _ _ _,Keep.refl _ _⟩
   case round=>
    obtain⟨k,hk,rfl,rfl,hout,hKr⟩:=hrel
    have HKR:=Lib.hid hKr
    have HOUT:=Lib.hid hout
    clear hKr hout
    have hwrl:=HKR.out.size
    have HRW:Hid (∀ j,j<wl.heap.size->wr.heap[j]? = wl.heap[j]?):=Lib.hid fun j hj=>HKR.out.block j hj (by omega)
    have HBR:=Lib.hid (jL HBL.out HKR.out (fun k hk=>by omega) (Nat.le_refl _))
    by_cases hlt:k<L.length
    ·obtain⟨g,had,hgl,hcells⟩:=HCL.out (fun e=>by rw [e] at hlt;simp at hlt)
     subst had
     obtain⟨r,hr⟩:∃ r,r=L[k]:=⟨_,rfl⟩
     have hrm:r<zk:=HM.out r (by rw [hr,<-HLL.out];exact List.getElem_mem hlt)
     have ck:wr.cell? ⟨g,k,none⟩=some (.int .u64 (r:Nat)):=by rw [hr];exact(World.cell?_of_block (a:=⟨g,k,none⟩) (HRW.out g hgl)).trans (hcells k hlt)
     obtain⟨s0,s1,hat,hd0,hd1⟩:=(HP1.out.2 r).2
     obtain⟨a0,n0,rfl⟩:=zK hd0
     obtain⟨a1,n1,rfl⟩:=zK hd1
     have hlk:=Qf (yg HO.out (HRW.out _ (by omega))) hrm hat
     have hmw:∀ j o x,DL C w.heap.size w1 j o->w1.cell? ⟨j,o,none⟩=some x->wr.cell? ⟨j,o,none⟩=some x:=fun j o x hj hx=>by
      have hj1:=World.block_lt_of_cell? w1 ⟨j,o,none⟩ hx
      exact(World.cell?_of_block (a:=⟨j,o,none⟩) ((HRW.out j (Nat.lt_of_lt_of_le hj1 (by omega))).trans (HKW.out j hj1))).trans hx
     have hdx:∀ j o,DL C w.heap.size w1 j o->DX C w.heap.size wr u10 j o:=fun j o hj=>⟨hj.imp id fun h=>⟨h.1,by omega⟩,fun e=>by
      have h5:=(HOUT.out.owns j e).1
      rcases hj with hj | hj
      ·have:=hC j o hj;omega
      ·omega⟩
     have hDXb:∀ j o,DX C w.heap.size wr u10 j o->j<wr.heap.size:=fun j o h=>h.1.elim (fun h=>by have:=hC j o h;omega) And.right
     have hGX:GL (DX C w.heap.size wr u10) wr:=HGW.out.mono (fun j o h=>⟨.inl h,fun e=>by have h5:=(HOUT.out.owns j e).1;have:=hC j o h;omega⟩) fun j o x hj hx=>(World.cell?_of_block (a:=⟨j,o,none⟩) (HRW.out j (by have:=hC j o hj;omega))).trans hx
     have HXB:=Lib.hid hDXb
     have HGX:=Lib.hid hGX
     have HOPC:=Lib.hid (jP (HOP.out r) hGX hDXb (vs:=#[.slice a0 (zT a r).length n0,.slice a1 (zT b r).length n1]) rfl (fun i p hp=>by
      match i,hp with
      | 0,hp=>cases hp;exact hd0.mono hdx hmw
      | 1,hp=>cases hp;exact hd1.mono hdx hmw
      | i+2,hp=>simp at hp))
     have hnr:Nrm (qy f (zT a r) (zT b r)):=qH (qi ha.1 r) (qi hb.1 r)
     have hol:(qy f (zT a r) (zT b r)).length<=80100:=by
      have h1:=xR f (zT a r) (zT b r)
      have h2:=ji (n:=1048576) (h:=10000) ha r
      have h3:=ji (n:=1048576) (h:=10000) hb r
      omega
     obtain⟨e,ok,hE⟩:∃ e ok,Qi r (qy f (zT a r) (zT b r))=(e,ok):=⟨_,_,rfl⟩
     have HOF:=Lib.hid (And.intro hE hnr)
     have hlo:=zac (f:=f) (a:=a) (b:=b) hE
     have hst:=KZ (f:=f) (a:=a) (b:=b) hlt
     rw [<-hr,hlo] at hst
     have HST:=Lib.hid hst
     have hhl:e.holes.length<=1000000:=by
      have:=J0 r (qy f (zT a r) (zT b r))
      rw [hE] at this
      simp only at this
      omega
     have hn0:(zT a r).length<=maxLen:=by have:=ji (n:=1048576) (h:=10000) ha r;unfold maxLen;omega
     have hn1:(zT b r).length<=maxLen:=by have:=ji (n:=1048576) (h:=10000) hb r;unfold maxLen;omega
     unfold maxLen at hn0 hn1
     have i0:=zkr a0 a1 (zT a r).length (zT b r).length n0 n1
     have i1:=zks a0 a1 (zT a r).length (zT b r).length n0 n1
     obtain⟨ls,hls⟩:∃ ls,ls=qy f (zT a r) (zT b r):=⟨_,rfl⟩
     rw [<-hls] at HOF HOPC hol
     clear hE hlo hst hat hd0 hd1 hmw hdx hcells hDXb hGX hnr hr hls
     have tokD:True:=trivial
     have tokE:True:=trivial
     have tokF:True:=trivial
     cases ok with
     | false=>
       go_wp2_with fail
       refine Ja (t:=35) (f:=op) (xs:=[.tmp 39,.tmp 43]) rfl rfl rfl rfl hent ?_
       refine HOPC.out.mono ?_
       rintro e' w3 ⟨v3,rfl,hb3,hd3⟩
       obtain⟨a3,n3,rfl⟩:=zK hd3
       have HB3:=Lib.hid hb3
       have HD3:=Lib.hid hd3
       clear hb3 hd3
       dsimp only
       go_wp2_with fail
       refine(zso r (je HD3.out (fun j o h=>h.elim (fun h=>Nat.lt_of_lt_of_le (HXB.out j o h) HB3.out.size) And.right) fun s hs=>by have:=NF.lo_ge HOF.out.2 s hs;omega) HOF.out.2 (by omega) HOF.out.1).mono ?_
       rintro e' w4 ⟨u4,rfl,ho4,hb4⟩
       obtain⟨a4,n4,rfl⟩:=ho4.val
       have hd4':Dat (fun j o=>w3.heap.size<=j/\j<w4.heap.size) w4 (.slice a4 e.holes.length n4) (rg e.holes):=jp ho4.rd fun j o h1 h2=>⟨h1,h2⟩
       have HM4:=Lib.hid ho4.mu
       have HB4:=Lib.hid hb4
       have HD4:=Lib.hid hd4'
       clear hb4 ho4 hd4'
       dsimp only
       go_wp2_with fail
       go_roundg (L.length - (k+1))
       case measure=>omega
       case rel=>
        have h34:=HB3.out.size
        have h44:=HB4.out.size
        refine⟨k+1,hlt,rfl,by simp,?_,HKR.out.trans (((Keep.of_below' HB3.out (Nat.le_refl _)).trans (Keep.of_below' HB4.out (Nat.le_refl _))).alloc _)⟩
        rw [HST.out]
        simp only [Bool.false_eq_true,if_false,Option.toList_none,List.append_nil]
        exact HOUT.out.keep (by simp;omega) fun j hj=>by rw [Below.heap_alloc _ _ _ (by omega),HB4.out.block j (by omega),HB3.out.block j hj]
     | true=>
       go_wp2_with fail
       refine Ja (t:=35) (f:=op) (xs:=[.tmp 39,.tmp 43]) rfl rfl rfl rfl hent ?_
       refine HOPC.out.mono ?_
       rintro e' w3 ⟨v3,rfl,hb3,hd3⟩
       obtain⟨a3,n3,rfl⟩:=zK hd3
       have HB3:=Lib.hid hb3
       have HD3:=Lib.hid hd3
       clear hb3 hd3
       dsimp only
       go_wp2_with fail
       refine(zso r (je HD3.out (fun j o h=>h.elim (fun h=>Nat.lt_of_lt_of_le (HXB.out j o h) HB3.out.size) And.right) fun s hs=>by have:=NF.lo_ge HOF.out.2 s hs;omega) HOF.out.2 (by omega) HOF.out.1).mono ?_
       rintro e' w4 ⟨u4,rfl,ho4,hb4⟩
       obtain⟨a4,n4,rfl⟩:=ho4.val
       have hd4':Dat (fun j o=>w3.heap.size<=j/\j<w4.heap.size) w4 (.slice a4 e.holes.length n4) (rg e.holes):=jp ho4.rd fun j o h1 h2=>⟨h1,h2⟩
       have HM4:=Lib.hid ho4.mu
       have HB4:=Lib.hid hb4
       have HD4:=Lib.hid hd4'
       clear hb4 ho4 hd4'
       dsimp only
       go_wp2_with fail
       have hz5:((w4.alloc (.cells #[.int .u64 e.rep,.int .u64 e.max,.slice a4 e.holes.length n4] 37)).alloc (.cells #[.int .u64 e.rep,.int .u64 e.max,.slice a4 e.holes.length n4] 37)).heap.size=w4.heap.size+2:=by simp
       have h34:=HB3.out.size
       have h44:=HB4.out.size
       have hb5:∀ j,j<wr.heap.size->((w4.alloc (.cells #[.int .u64 e.rep,.int .u64 e.max,.slice a4 e.holes.length n4] 37)).alloc (.cells #[.int .u64 e.rep,.int .u64 e.max,.slice a4 e.holes.length n4] 37)).heap[j]? = wr.heap[j]?:=fun j hj=>by
        rw [Below.heap_alloc _ _ _ (by simp;omega),Below.heap_alloc _ _ _ (by omega),HB4.out.block j (by omega),HB3.out.block j hj]
       obtain⟨xs5,h15,h25⟩:=HOUT.out.keep (by omega) hb5
       have hnb:((w4.alloc (.cells #[.int .u64 e.rep,.int .u64 e.max,.slice a4 e.holes.length n4] 37)).alloc (.cells #[.int .u64 e.rep,.int .u64 e.max,.slice a4 e.holes.length n4] 37)).heap[w4.heap.size+1]? = some (.cells #[.int .u64 e.rep,.int .u64 e.max,.slice a4 e.holes.length n4] 37 (0,0)):=by
        have:=World.alloc_heap_new (w4.alloc (.cells #[.int .u64 e.rep,.int .u64 e.max,.slice a4 e.holes.length n4] 37)) (.cells #[.int .u64 e.rep,.int .u64 e.max,.slice a4 e.holes.length n4] 37)
        rwa [World.size_alloc] at this
       have hd5:Dat (DX C w.heap.size ((w4.alloc (.cells #[.int .u64 e.rep,.int .u64 e.max,.slice a4 e.holes.length n4] 37)).alloc (.cells #[.int .u64 e.rep,.int .u64 e.max,.slice a4 e.holes.length n4] 37)) u10) ((w4.alloc (.cells #[.int .u64 e.rep,.int .u64 e.max,.slice a4 e.holes.length n4] 37)).alloc (.cells #[.int .u64 e.rep,.int .u64 e.max,.slice a4 e.holes.length n4] 37)) (.slice a4 e.holes.length n4) (rg e.holes):=by
        refine HD4.out.mono (fun j o h=>?_) fun j o x h hx=>?_
        ·have key:wr.heap.size<=j->j<w4.heap.size->DX C w.heap.size ((w4.alloc (.cells #[.int .u64 e.rep,.int .u64 e.max,.slice a4 e.holes.length n4] 37)).alloc (.cells #[.int .u64 e.rep,.int .u64 e.max,.slice a4 e.holes.length n4] 37)) u10 j o:=fun h1 h2=>⟨.inr ⟨by omega,by omega⟩,fun h=>by have:=(HOUT.out.owns j h).2;omega⟩
         exact key (by omega) h.2
        ·have hj4:=World.block_lt_of_cell? w4 ⟨j,o,none⟩ hx
         exact(World.cell?_of_block (a:=⟨j,o,none⟩) (by rw [Below.heap_alloc _ _ _ (by simp;exact Nat.lt_succ_of_lt hj4),Below.heap_alloc _ _ _ hj4])).trans hx
       have hm5:MuI (fun b=>(wl.heap.size<=b/\b<((w4.alloc (.cells #[.int .u64 e.rep,.int .u64 e.max,.slice a4 e.holes.length n4] 37)).alloc (.cells #[.int .u64 e.rep,.int .u64 e.max,.slice a4 e.holes.length n4] 37)).heap.size)/\u10.ownBlock≠some b) ((w4.alloc (.cells #[.int .u64 e.rep,.int .u64 e.max,.slice a4 e.holes.length n4] 37)).alloc (.cells #[.int .u64 e.rep,.int .u64 e.max,.slice a4 e.holes.length n4] 37)) (.slice a4 e.holes.length n4):=
        (HM4.out.same (fun j hj hlt=>by rw [Below.heap_alloc _ _ _ (by simp;exact Nat.lt_succ_of_lt hlt),Below.heap_alloc _ _ _ hlt])).mono fun j h=>⟨⟨by omega,by omega⟩,fun e=>by have:=(HOUT.out.owns j e).2;omega⟩
       have hel:((L.take k).filterMap (vE f a b)).length<=k:=Nat.le_trans (List.length_filterMap_le _ _) (by simp;omega)
       obtain⟨ie,hie,hze,hse,hbe⟩:=info_parts zkk
       refine Zi _ _ 30 rfl wl.heap.size 37 ie _ 3 40 Tryz.underlying30 hie hze hse hbe rfl (by decide) _ _ xs5 rfl h15 ⟨w4.heap.size+1,0,none⟩ 1 1 [.int .u64 e.rep,.int .u64 e.max,.slice a4 e.holes.length n4] rfl rfl (fun j u hj=>by
        rw [zh,Nat.zero_add]
        exact(zW hnb j u (by simpa using hj)).1) (fun u hu=>by simp at hu;rcases hu with rfl | rfl | rfl<;>rfl) (by unfold maxLen;omega) (by omega) (by omega) ?_
       intro v6 w6 ho6 hg6 _ hbl6
       have HP6:=Lib.hid (OutE.push (mb:=w.heap.size) h25 h15 hd5 hm5 hC (by omega) ho6 hg6 hbl6)
       have HG6:=Lib.hid hg6
       have HB5:=Lib.hid hb5
       have HZ5:=Lib.hid hz5
       have HOB:=Lib.hid (fun j (h:u10.ownBlock=some j)=>(HOUT.out.owns j h).1)
       clear ho6 hg6 hbl6 h15 h25 hd5 hm5 hnb hb5 hz5
       go_wp2_with fail
       go_roundg (L.length - (k+1))
       case measure=>omega
       case rel=>
        refine⟨k+1,hlt,rfl,by simp,?_,HKR.out.trans ((((((Keep.of_below' HB3.out (Nat.le_refl _)).trans (Keep.of_below' HB4.out (Nat.le_refl _))).alloc _).alloc _).grown HG6.out fun j hj _=>HOB.out j hj))⟩
        rw [HST.out]
        simp only [if_true,Option.toList_some]
        exact HP6.out
    ·obtain rfl:k=L.length:=by omega
     go_wp2_with fail
     refine bodyPost_ret (results_tmp rfl _ _ _) rfl ?_
     have h:=HOUT.out.dat (by omega)
     rw [List.take_length,HLL.out,<-HLat.out] at h
     exact⟨_,rfl,HBR.out,h,HOUT.out.mu.mono fun j hj=>by omega⟩
  ·intro x hx c kl y ys w3 cnt3 hkey hlk hv hat hrg3 hlt hg3 hs3 hen
   try dsimp only at hkey hen ⊢
   obtain rfl:kl=kR x:=by
    have:=(Zq hx).symm.trans hkey
    simpa using this.symm
   have HRG3:=Lib.hid hrg3
   have HK3:=Lib.hid ((HKL.out.grown hg3 (fun k hk _=>by cases hk;omega)))
   have hb3:∀ k,k≠w1.heap.size+1->k<wl.heap.size->w3.heap[k]? = wl.heap[k]?:=fun k hk hkl=>hg3.block k hkl (fun e=>hk (by cases e;rfl))
   have HB3:=Lib.hid hb3
   have hblt:=HBX.out.lt
   have HAD:=Lib.hid (zaD (C:=C) (base:=w1.heap.size+2) (rb:=w1.heap.size) (w:=w3) (v:=v) (xs:=xs) x (HOW.out.keep fun g hg=>hb3 g (by have:=(HOW.out.lt g hg).1;omega) (HOW.out.lt g hg).2) ((hb3 _ (by omega) hblt).trans HBX.out) (by omega) (fun h=>by have:=((HXS.out x).1 h).2;rw [hlk] at this;cases this) (by omega) (by omega)
    (fun b o h=>by have:=hC b o h;omega) (HGW.out.mono (fun _ _ h=>h) fun j o y hj hy=>(World.cell?_of_block (a:=⟨j,o,none⟩) (hb3 j (by have:=hC j o hj;omega) (by have:=hC j o hj;omega))).trans hy))
   clear hkey hv hat hrg3 hg3 hb3
   have tokC:True:=trivial
   go_wp2_with (first
    | (go_at_call 83;have _t:=tokC;refine HAD.out.mono ?_;rintro e w4 ⟨⟨u,rfl⟩,v',hbx4,ho4,hk4⟩;have HBX4:=Lib.hid hbx4;have HO4:=Lib.hid ho4;have HK4:=Lib.hid hk4;clear hbx4 ho4 hk4 tokC)
    | go_in)
   go_roundg cnt3
   case measure=>exact hlt
   case rel=>
    have hm:∀ k,k<w3.heap.size->k≠w1.heap.size->k<w1.heap.size+2->w4.heap[k]? = w3.heap[k]?:=fun k hk h1 h2=>HK4.out.block k hk (by omega)
    refine⟨_,xs++[x],v',yD HRG3.out (hm _ (by omega) (by omega) (by omega)) (hm _ (by omega) (by omega) (by omega)),fun r=>?_,fun r h=>?_,HO4.out,HBX4.out,HK3.out.trans (HK4.out.mono fun k _ h=>by omega)⟩
    ·rw [QM,List.mem_append,HXS.out r,List.mem_singleton]
     constructor
     ·rintro(⟨h1,h2⟩ | rfl)
      ·exact⟨h1,.inl h2⟩
      ·exact⟨HLF.out _ hlk,.inr rfl⟩
     ·rintro⟨h1,h2 | h2⟩
      ·exact .inl ⟨h1,h2⟩
      ·exact .inr h2
    ·exact HLF.out r (by cases h0:left (kR r) with | true=>rfl | false=>rw [h0] at h;simp at h)
theorem yZ {f:FuncId} {ps:List PV} {r:PV} (hr:r.own=none) (hent:∀ args w,(callFunc f args).run Tryz.prog w=.ok (.enter f args) w)
 (h:∀(D:Nat->Nat->Prop) (w:World) (vs:Array Value),GL D w->(∀ b o,D b o->b<w.heap.size)->vs.size=ps.length->(∀(i:Nat) p,ps[i]? = some p->Dat D w (vs.getD i undef) p) ->
   Calls Tryz.prog f vs w fun e w'=>∃ v,e=.returned v/\Below w.heap.size w w'/\Dat (fun b o=>D b o\/(w.heap.size<=b/\b<w'.heap.size)) w' v r):Cn Tryz.prog f ps r:=by
 refine⟨hent,fun D w vs hG hD hsz hd=>(h D w vs hG hD hsz hd).mono ?_⟩
 rintro e w' ⟨v,rfl,hb,hv⟩
 exact⟨v,_,rfl,hb,fun b o h=>.inl h,fun b o h=>h.imp id And.left,fun b o h=>h.elim (fun h=>Nat.lt_of_lt_of_le (hD b o h) hb.size) And.right,hv,zr hr⟩
theorem zjx {vs:Array Value} (h:vs.size=3):vs=#[vs.getD 0 undef,vs.getD 1 undef,vs.getD 2 undef]:=by
 obtain⟨l⟩:=vs
 match l,h with
 | [x,y,z],_=>rfl
theorem zcA {D:Nat->Nat->Prop} {w:World} {x:Value} {f:Fn} (h:Dat D w x (.fn f [] [])):x=.func f #[] #[]:=by
 cases h with
 | fn f va vb fs cs h1 h2 _ _=>
   rw [Array.size_eq_zero_iff.1 h1,Array.size_eq_zero_iff.1 h2]
theorem SmV.bd {v:List En} (h:SmV v):∀ e ∈ v,ZL e:=fun e he=>Jg (h.1.1 e he)
theorem zde (a b:List En) (f:Bool->Bool->Bool) (op:FuncId) (hop:∀ r,Cn Tryz.prog op [rg (zT a r),rg (zT b r)] (rg (qy f (zT a r) (zT b r)))) (ha:SmV a) (hb:SmV b) :
 Cn Tryz.prog 58 [vp a,vp b,.fn (.func op) [] []] (vp (ks f a b)):=by
 refine yZ rfl (enters_of Tryz.func58 (by kernel_rfl) rfl) fun D w vs hG hD hsz hd=>?_
 rw [zjx hsz,zcA (hd 2 _ rfl)]
 refine(zcD D a b _ _ w f op hop ha hb (dat_rdf (hd 0 _ rfl) hD ha.bd) (dat_rdf (hd 1 _ rfl) hD hb.bd) hD hG).mono ?_
 rintro e w' ⟨v,rfl,hbl,hd,_⟩
 exact⟨v,rfl,hbl,hd.mono (fun b o h=>h.imp id fun h=>⟨by omega,h.2⟩) fun _ _ _ _ h=>h⟩
theorem qS {v:List En} (h:SmV v) (r:Nat):Nrm (zT v r)/\(zT v r).length<=20003:=⟨qi h.1 r,ji (n:=1048576) (h:=10000) h r⟩
theorem zdc (a b:List En) (ha:SmV a) (hb:SmV b):Cn Tryz.prog 37 [vp a,vp b] (vp (ks zn a b)):=by
 have h:=zde a b zn 41 (fun r=>zaz _ _ (qS ha r).1 (qS hb r).1 (by have:=(qS ha r).2;have:=(qS hb r).2;omega)) ha hb
 refine zt Tryz.func37 2 ?_
 refine pw ?_
 (first | exact .d (h) | exact .q (h))
theorem ve {P:Program} (w:World) (t ty e:TypeId) (i:TypeInfo) (ht:P.underlying t=some (.slice e)) (hi:P.info? e=some i) (ba:Option Addr) (n cp c:Nat) (hn:n<=cp) :
 (Builtin.append_ #[t,t] ty #[.slice ba n cp,.slice none 0 c]).run P w=.ok (.slice ba n cp) w:=by
 cases ba<;>simp [Builtin.append_,run_underlying ht,sizeOf,typeInfo,hi,Builtin.lenOf,Builtin.firstCells,hn,storeCells]
end Go.Proofs.YtopfkkogooocgaaGreat
namespace Go.Proofs.YtopfkkogooocgaaGreat
open Go.RowKit
attribute [-go_sem] z7
theorem dat_row {D:Nat->Nat->Prop} {w:World} {x:Value} {es:List (List PV)} {sz:Nat} (h:Dat D w x (.sl es .sh)) (hs:∀ e ∈ es,e.length=sz) :
 ∃ ad cap xs,x=.slice ad es.length cap/\es.length<=cap/\cap<=maxLen/\xs.length=es.length * sz/\(∀ u ∈ xs,u.oneCell'=true)/\((es.length=0/\xs=[])\/∃ b off,ad=some ⟨b,off,none⟩/\∀(j:Nat) (u:Value),xs[j]? = some u->D b (off+j)/\w.cell? ⟨b,off+j,none⟩=some u) /\
  ∀(i:Nat) (e:List PV) (j:Nat) (p:PV),es[i]? = some e->e[j]? = some p->∃ u,xs[i * sz+j]? = some u/\Dat D w u p:=by
 generalize ho:Ow.sh=o at h
 cases h with
 | sl a cap sz' es o b off u hc hz hm ha hsz hD hd=>
   by_cases hn:es=[]
   ·subst hn
    exact⟨a,cap,[],rfl,hc,hm,by simp,fun _ h=>by simp at h,.inl ⟨rfl,rfl⟩,fun i e j p h=>by simp at h⟩
   ·obtain rfl:sz'=sz:=by
     cases es with
     | nil=>exact absurd rfl hn
     | cons e es=>exact(hsz 0 e rfl).symm.trans (hs e (by simp))
    refine⟨a,cap,(List.range (es.length * sz')).map u,rfl,hc,hm,by simp,fun v hv=>?_,.inr ⟨b,off,ha hn,fun j v hv=>?_⟩,fun i e j p he hp=>?_⟩
    ·obtain⟨j,hj,rfl⟩:=List.mem_map.1 hv
     exact(hD j (by simpa using hj)).2.2
    ·rw [List.getElem?_map] at hv
     obtain⟨k,hk,rfl⟩:=Option.map_eq_some_iff.1 hv
     obtain⟨h1,rfl⟩:=List.getElem?_eq_some_iff.1 hk
     simp at h1
     rw [List.getElem_range]
     exact⟨(hD j h1).1,(hD j h1).2.1⟩
    ·have hi:=(List.getElem?_eq_some_iff.1 he).1
     have hj:j<sz':=by rw [<-hsz i e he];exact(List.getElem?_eq_some_iff.1 hp).1
     have hlt:i * sz'+j<es.length * sz':=by
      have:=Nat.mul_le_mul_right sz' (show i+1<=es.length from hi)
      rw [Nat.add_mul] at this;omega
     refine⟨u (i * sz'+j),?_,hd i e j p he hp⟩
     rw [List.getElem?_map,List.getElem?_range hlt]
     rfl
theorem v5 (w:World) (t ty e:TypeId) (i0:TypeInfo) (z:Value) (sz by':Nat) (ht:Tryz.prog.underlying t=some (.slice e)) (hi:Tryz.prog.info? e=some i0) (hz:i0.zero=some z) (hs:i0.size=sz) (hb:i0.bytes=by') (hzs:z.cells.size=sz) (hsz:0<sz) (hby:by'<=64)
 (base:Nat) (v:Value) (n:Nat) (xs:List Value) (hown:w.ownsRow base e sz v n xs) (ad:Option Addr) (m c:Nat) (news:List Value) (hl:news.length=m * sz)
 (hnews:(m=0/\ad=none)\/∃ a,ad=some a/\∀ j u,news[j]? = some u->w.cell? (a.add j)=some u) (h1:∀ u ∈ news,u.oneCell'=true) (h63:n+m<=1073741824) (hbase:base<=w.heap.size) :
 ∃ v' w',(Builtin.append_ #[t,t] ty #[v,.slice ad m c]).run Tryz.prog w=.ok v' w'/\w'.ownsRow base e sz v' (n+m) (xs++news)/\w.grownBy w' v.ownBlock/\(v'.ownBlock=v.ownBlock\/v'.ownBlock=some w.heap.size):=by
 rcases hnews with⟨rfl,rfl⟩ | ⟨a,rfl,hn⟩
 ·obtain rfl:news=[]:=List.length_eq_zero_iff.1 (by simpa using hl)
  obtain⟨ba,cp,rfl,hcp⟩:∃ ba cp,v=.slice ba n cp/\n<=cp:=by
   rcases hown.2 with⟨rfl,rfl⟩ | ⟨g,cap,cur,rfl,_,_,h,_⟩
   ·exact⟨none,0,rfl,Nat.le_refl _⟩
   ·exact⟨_,_,rfl,h⟩
  exact⟨_,w,ve w t ty _ i0 ht hi ba n cp c hcp,by simpa using hown,jW _ _,.inl rfl⟩
 ·obtain⟨v',w',r1,r2,r3,_,r5⟩:=run_append_own_at (P:=Tryz.prog) w base t ty e i0 z sz by' ht hi hz hs hb hzs hsz v n xs hown a m c news hl hn h1 (by unfold maxLen;omega) (by
   calc (n+m) * by'<=1073741824 * 64:=Nat.mul_le_mul h63 hby
    _<=140737488355328:=by decide) hbase
  exact⟨v',w',r1,r2,r3,r5⟩
theorem zq6 {ops:Array Oper} {rest:List Oper} {o:Oper} {a:Act} {w:World} {Q:Exit->Act->World->Prop} (s x:Operand) (t e:TypeId) (hgd:o.guard=none)
 (ho:o.op=.call { callee:=.builtin .append,args:=#[s,x],argTypes:=#[t,t] }) (i0:TypeInfo) (z:Value) (sz by':Nat) (ht:Tryz.prog.underlying t=some (.slice e)) (hi:Tryz.prog.info? e=some i0) (hz:i0.zero=some z) (hss:i0.size=sz) (hb:i0.bytes=by') (hzs:z.cells.size=sz) (hsz:0<sz) (hby:by'<=64)
 (base:Nat) (v:Value) (n:Nat) (xs:List Value) (hs:a.eval s=v) (hown:w.ownsRow base e sz v n xs)
 (ad:Option Addr) (m c:Nat) (news:List Value) (hx:a.eval x=.slice ad m c) (hl:news.length=m * sz) (hnews:(m=0/\ad=none)\/∃ a,ad=some a/\∀ j u,news[j]? = some u->w.cell? (a.add j)=some u) (h1:∀ u ∈ news,u.oneCell'=true) (h63:n+m<=1073741824) (hbase:base<=w.heap.size)
 (h:∀ v' w',w'.ownsRow base e sz v' (n+m) (xs++news)->w.grownBy w' v.ownBlock->(v'.ownBlock=v.ownBlock\/v'.ownBlock=some w.heap.size)->wpList Tryz.prog ops Q rest (a.put o.dst v') w'):wpList Tryz.prog ops Q (o::rest) a w:=by
 have hw:Region.wanted o (yielded ops a.tmps)=true:=by simp [Region.wanted,hgd]
 unfold wpList
 rw [if_pos hw]
 refine .inl ?_
 obtain⟨v',w',hr,h2,h3,h4⟩:=v5 w t o.type e i0 z sz by' ht hi hz hss hb hzs hsz hby base v n xs hown ad m c news hl hnews h1 h63 hbase
 unfold Oper.wp execOp
 simp only [ho,resolve,invoke,builtin,Sem.run_bind,Sem.run_pure,Result.andThen_ok,List.map_toArray,List.map_cons,List.map_nil,hs,hx,hr]
 exact h v' w' h2 h3 h4
theorem zrH {w:World} {base A:Nat} {e:TypeId} {sz:Nat} (hA:base<=A) (h:w.heap[A]? = some (.cells #[] e (0,0))):w.ownsRow base e sz (.slice (some ⟨A,0,none⟩) 0 0) 0 []:=⟨by simp,.inr ⟨A,0,#[],rfl,hA,h,Nat.le_refl _,Nat.zero_le _,by simp,by simp⟩⟩
theorem eqlV_some (ad:Addr) (n c:Nat) (w:World):(binOp .eql 30 (.slice (some ad) n c) (.slice none 0 0)).run Tryz.prog w=.ok (.bool false) w:=by kernel_rfl
theorem eqlV_none (n c:Nat) (w:World):(binOp .eql 30 (.slice none n c) (.slice none 0 0)).run Tryz.prog w=.ok (.bool true) w:=by kernel_rfl
theorem zqZ:(Tryz.prog.info? 37).map (fun i=>(i.zero,i.size,i.bytes))=some (some (.agg #[.int .u64 0,.int .u64 0,.slice none 0 0]),3,40):=by kernel_rfl
theorem znV {D:Nat->Nat->Prop} {w:World} {x:Value} {es:List (List PV)} (d:Dat D w x (.sl es .sh)) (hs:∀ e ∈ es,e.length=3) (hl:es.length<=1073741824) :
 Calls Tryz.prog 33 #[x] w fun e w'=>∃ u xs,e=.returned u/\Below w.heap.size w w'/\w'.ownsRow w.heap.size 37 3 u es.length xs/\∀(i:Nat) (e:List PV) (j:Nat) (p:PV),es[i]? = some e->e[j]? = some p->∃ v,xs[i * 3+j]? = some v/\Dat D w v p:=by
 obtain⟨ad,cap,xs,rfl,_,_,h1,h2,h3,h4⟩:=dat_row d hs
 obtain⟨i0,hi0,hz0,hz1,hz2⟩:=info_parts zqZ
 cases ad with
 | none=>
   obtain⟨e0,rfl⟩:es.length=0/\xs=[]:=by
    rcases h3 with h | ⟨b,off,e,_⟩
    ·exact h
    ·cases e
   have hq:=eqlV_none es.length cap
   have H4:=Lib.hid h4
   have E0:=Lib.hid e0
   clear h1 h2 h3 h4 d hl hi0 hz0 hz1 hz2 e0
   go_enter Tryz.func33,Tryz.ntmps33
   go_wp2
   go_ret
   refine⟨_,[],rfl,Below.refl _ _,?_,H4.out⟩
   rw [E0.out]
   exact World.ownsRow_nil _ _ _ _
 | some ad=>
   have hq:=eqlV_some ad es.length cap
   have hcell:∀(j:Nat) (u:Value),xs[j]? = some u->(w.alloc (.cells #[] 37)).cell? (ad.add j)=some u:=fun j u hu=>by
    rcases h3 with⟨_,e⟩ | ⟨b,off,e,h⟩
    ·rw [e] at hu;simp at hu
    ·cases e
     have hx:=(h j u hu).2
     rw [zh]
     exact(World.cell?_of_block (a:=⟨b,off+j,none⟩) (Below.heap_alloc _ _ _ (World.block_lt_of_cell? w _ hx))).trans hx
   have HN:=Lib.hid (World.alloc_heap_new w (.cells #[] 37 (0,0)))
   have HC:=Lib.hid hcell
   have H1:=Lib.hid h1
   have H2:=Lib.hid h2
   have H4:=Lib.hid h4
   have HI:=Lib.hid (And.intro hi0 (And.intro hz0 (And.intro hz1 hz2)))
   clear h1 h2 h3 h4 d hcell hi0 hz0 hz1 hz2
   go_enter Tryz.func33,Tryz.ntmps33
   go_wp2_with (at_builtin;refine zq6 _ _ 30 37 rfl rfl i0 _ 3 40 Tryz.underlying30 HI.out.1 HI.out.2.1 HI.out.2.2.1 HI.out.2.2.2 rfl (by decide) (by decide) w.heap.size _ 0 [] rfl (zrH (Nat.le_refl _) HN.out) _ es.length cap xs rfl H1.out (.inr ⟨_,rfl,HC.out⟩) H2.out (by omega) (by simp) ?_;intro v' w' ho hg hv)
   go_ret
   rw [Nat.zero_add] at ho
   refine⟨v',xs,rfl,?_,ho,H4.out⟩
   exact(((Below.refl _ w).alloc (Nat.le_refl _) _).grown hg (by simp) fun j hj=>by cases hj;exact Nat.le_refl _)
end Go.Proofs.YtopfkkogooocgaaGreat
