import Derived.Test.YtopfkkogooocgaaGreatB42
set_option linter.unusedVariables false
set_option linter.unusedSimpArgs false
set_option maxRecDepth 100000
namespace Go.Proofs.YtopfkkogooocgaaGreat
open Go.ChangeShapes Go.WideShapes Go.ChangeAt Go.RowKit Go.Deep
section
variable {H:Type} {enc:TypeId × Value->H} {w:World} {base:Nat} {spare:Nat->Bool} {held:Bool}
theorem zfi {n:Nat} {a:Addr} {cs:List Value} {y:DataW H × List MemPlace} (h1:w.cells? base a 2=some cs) (h2:DataW.trod enc Tryz.prog w base spare held n 32 cs=some y):a.spot=none/\a.block<w.heap.size/\∃ f,rdC fc (fun f=>BdF f/\∀ e ∈ f.vec,e.holes.length<=9223372036854775807) w a.block a.off f:=by
 obtain⟨v0,v1,k,y0,y1,e0,e1,g0,g1⟩:=YB Tryz.underlying32 rfl rfl (by kernel_rfl) (by kernel_rfl) h1 h2
 obtain⟨v0',l,q0,hl⟩:=ZA g0
 obtain⟨v1',v,q1,hv⟩:=zet g1
 obtain rfl:v0=v0':=by simpa using q0
 obtain rfl:v1=v1':=by simpa using q1
 obtain⟨b,off,spot⟩:=a
 obtain rfl:spot=none:=World.cell?_spot e0
 obtain⟨d1,b1,n1⟩:=VQ (cv:=ec) (bd:=fun e=>ZL e/\e.holes.length<=9223372036854775807) (fun _=>rfl) hv
 have d0:Dat (ZG w) w v0 (rg l):=jp hl fun _ _ _ h=>h
 have hlb:=hl.bound
 have hll:l.length<=9223372036854775807:=by have:=hl.len;unfold maxLen at this;omega
 have o0:v0.oneCell'=true:=by obtain⟨a0,c0,rfl,_⟩:=hl;rfl
 have o1:v1.oneCell'=true:=by obtain⟨a0,c0,rfl,_⟩:=hv;rfl
 refine⟨rfl,World.block_lt_of_cell? _ _ e0,⟨l,v⟩,fun j p hp=>?_,⟨hlb,fun e he=>(b1 e he).1,hll,n1⟩,fun e he=>(b1 e he).2⟩
 match j,hp with
 | 0,hp=>cases hp;exact⟨_,e0,o0,d0⟩
 | 1,hp=>cases hp;exact⟨_,by simpa [Addr.add] using e1,o1,d1⟩
theorem zbd {fuel:Nat} {cs:List Value} {x:DataW H × List MemPlace} (h:DataW.trod enc Tryz.prog w base spare held fuel 23 cs=some x):∃ v l,cs=[v]/\RdSl 2 (rdC fc (fun f=>BdF f/\∀ e ∈ f.vec,e.holes.length<=9223372036854775807)) 0 w.heap.size w v l:=
 Za (rdC fc (fun f=>BdF f/\∀ e ∈ f.vec,e.holes.length<=9223372036854775807)) Tryz.underlying23 (by kernel_rfl) (fun _ _ _ _ h1 h2=>zfi h1 h2) h
theorem zo4 {r:Reach} {b0:Nat} {v:Value} {d:DataW H} {ps:List MemPlace} (hval:Value.okWide Tryz.prog w r b0 23 v) (h:DataW.Trod enc Tryz.prog w base spare held 23 v d ps):∃ l,Dat (ZG w) w v (kp l)/\BdK l/\HlK l:=by
 obtain⟨a,len,cap,rfl⟩:=okWide_slice Tryz.underlying23 hval
 obtain⟨fuel,hf⟩:=h
 obtain⟨v,l,hv,hl⟩:=zbd hf
 simp [Value.cells] at hv
 rw [<-hv] at hl
 obtain⟨h1,h2,h3⟩:=VQ (cv:=fc) (bd:=(fun f=>BdF f/\∀ e ∈ f.vec,e.holes.length<=9223372036854775807)) (fun _=>rfl) hl
 exact⟨l,h1,⟨fun f hf=>(h2 f hf).1,h3⟩,fun f hf=>(h2 f hf).2⟩
theorem zg2 {r:Reach} {b0:Nat} {v:Value} {d:DataW H} {ps:List MemPlace} (hval:Value.okWide Tryz.prog w r b0 23 v) (h:DataW.Trod enc Tryz.prog w base spare held 23 v d ps):∃ l,Dat (ZG w) w v (kp l)/\BdK l:=
 (zo4 hval h).imp fun _ h=>⟨h.1,h.2.1⟩
def xp (x:Nat × Nat × Nat):PV:=.agg [.v (.int .u64 (x.1:Nat)),.v (.int .u64 (x.2.1:Nat)),.v (.int .u64 (x.2.2:Nat))]
attribute [go_sem] xp
end
end Go.Proofs.YtopfkkogooocgaaGreat
namespace Go.Proofs.YtopfkkogooocgaaGreat
open Go.RowKit
theorem zc8 (k:List Fg) (hb:BdK k):Cn Tryz.prog 11 [kp k] (.v (.bool (vx k))):=by
 have hl:=hb.2
 refine zt Tryz.func11 1 ?_
 refine pw ?_
 refine pLoop.go (fun j=>j<=k.length/\vx k=((k.drop j).all (fun f=>decide (f.items.length<=20) && JF f.vec) && decide (k.length<=12))) (fun j=>[(3,.v (.int .i64 (j:Nat)))]) (fun _=>[]) (fun j=>k.length - j) 0 [3] ?_ ?_ ?_
 ·exact⟨Nat.zero_le _,rfl⟩
 ·exact pd
 ·rintro j ⟨hj,hm⟩
  refine pw ?_
  refine .i ?_ ?_<;>intro h<;>(try simp only [zb] at h)<;>first | refine pw ?_ | exact pd
  ·rw [List.drop_eq_getElem_cons h,List.all_cons] at hm
   have hbj:=hb.1 _ (List.getElem_mem h)
   have hbi:=hbj.2.2.1
   refine pw ?_
   refine .i ?_ ?_<;>intro h2<;>(try simp only [zb] at h2)<;>first | refine pw ?_ | exact pd
   ·rw [hm,decide_eq_false (by omega)]
    rfl
   ·rw [decide_eq_true (by omega),Bool.true_and] at hm
    refine .c (zj5 k[j].vec hbj.2.2.2) ?_
    refine .i ?_ ?_<;>intro h3<;>(try simp only [zb] at h3)<;>first | refine pw ?_ | exact pd
    ·rw [hm,h3]
     rfl
    ·rw [h3,Bool.true_and] at hm
     exact⟨j+1,⟨h,hm⟩,by omega,rfl⟩
  ·rw [hm,List.drop_of_length_le (by omega)]
   simp
   omega
theorem znL (k:List Fg) (hb:BdK k) (hh:HlK k):Cn Tryz.prog 26 [kp k] (.tup [.v (.int .i64 (ckK k).1),.v (.int .i64 (ckK k).2)]):=by
 have hl:=hb.2
 refine zt Tryz.func26 1 ?_
 refine pw ?_
 refine pLoop.go (fun j=>j<=k.length/\ckK k=hkK j (k.drop j)) (fun j=>[(4,.v (.int .i64 (j:Nat)))]) (fun _=>[]) (fun j=>k.length - j) 0 [4] ?_ ?_ ?_
 ·exact⟨Nat.zero_le _,rfl⟩
 ·exact pd
 ·rintro j ⟨hj,hm⟩
  refine pw ?_
  refine .i ?_ ?_<;>intro h<;>(try simp only [zb] at h)<;>first | refine pw ?_ | exact pd
  ·rw [List.drop_eq_getElem_cons h,hkK] at hm
   have hbj:=hb.1 _ (List.getElem_mem h)
   have hhj:=hh _ (List.getElem_mem h)
   refine pw ?_
   refine .c (XO k[j].items hbj.2.2.1 hbj.1) ?_
   refine .i ?_ ?_<;>intro h2<;>(try simp only [zb] at h2)<;>first | refine pw ?_ | exact pd
   ·rw [if_neg (by omega)] at hm
    refine .c (Kb k[j].vec hbj.2.1 hbj.2.2.2 hhj) ?_
    refine .i ?_ ?_<;>intro h3<;>(try simp only [zb] at h3)<;>first | refine pw ?_ | exact pd
    ·rw [if_pos (by omega)] at hm
     rw [hm]
    ·rw [if_neg (by omega)] at hm
     exact⟨j+1,⟨h,hm⟩,by omega,rfl⟩
   ·rw [if_pos (by omega)] at hm
    refine .i ?_ ?_<;>intro h3<;>(try simp only [zb] at h3)<;>first | refine pw ?_ | exact pd
    ·rw [hm]
    ·exact absurd h3 (by omega)
  ·rw [hm,List.drop_of_length_le (by omega)]
   rfl
theorem SzK.hl {k:List Fg} (hz:SzK k):HlK k:=fun f hf e he=>Nat.le_trans ((hz.2 f hf).2.2 e he) (by omega)
theorem VS (k:List Fg) (hb:BdK k) (hz:SzK k):Cn Tryz.prog 26 [kp k] (.tup [.v (.int .i64 (ckK k).1),.v (.int .i64 (ckK k).2)]):=znL k hb hz.hl
theorem Vm (k:List Fg) (hb:BdK k) (hz:SzK k):Cn Tryz.prog 12 [kp k] (.v (.bool (decide ((ckK k).1=0)))):=by
 refine zt Tryz.func12 1 ?_
 refine pw ?_
 exact .d (VS k hb hz)
theorem zfq (a b:List Fg) (hz:SzK a):Cn Tryz.prog 10 [kp a,kp b] (.v (.bool (decide (a=b)))):=by
 have hl:=hz.1
 refine zt Tryz.func10 2 ?_
 refine pw ?_
 refine .i ?_ ?_<;>intro h0<;>(try simp only [zb] at h0)<;>first | refine pw ?_ | exact pd
 ·symm
  rw [decide_eq_false_iff_not]
  rintro rfl
  exact h0 rfl
 ·have h0':a.length=b.length:=by simpa using h0
  clear h0
  refine pLoop.go (fun k=>k<=a.length/\(a=b ↔ a.drop k=b.drop k)) (fun k=>[(5,.v (.int .i64 (k:Nat)))]) (fun _=>[]) (fun k=>a.length - k) 0 [5] ?_ ?_ ?_
  ·exact⟨Nat.zero_le _,Iff.rfl⟩
  ·exact pd
  ·rintro k ⟨hk,hm⟩
   refine pw ?_
   refine .i ?_ ?_<;>intro h<;>(try simp only [zb] at h)<;>first | refine pw ?_ | exact pd
   ·have hk':k<b.length:=by omega
    have hzj:=hz.2 _ (List.getElem_mem h)
    rw [List.drop_eq_getElem_cons h,List.drop_eq_getElem_cons hk',List.cons.injEq] at hm
    refine pw ?_
    refine .c (zgI a[k].items b[k].items hzj.1) ?_
    refine .i ?_ ?_<;>intro e<;>(try simp only [zb] at e)<;>first | refine pw ?_ | exact pd
    ·symm
     rw [decide_eq_false_iff_not]
     intro he
     exact e (congrArg Fg.items (hm.1 he).1)
    ·refine .c (zji a[k].vec b[k].vec hzj.2.1 hzj.2.2) ?_
     refine .i ?_ ?_<;>intro e2<;>(try simp only [zb] at e2)<;>first | refine pw ?_ | exact pd
     ·symm
      rw [decide_eq_false_iff_not]
      intro he
      exact e2 (congrArg Fg.vec (hm.1 he).1)
     ·refine⟨k+1,⟨h,?_⟩,by omega,rfl⟩
      rw [hm]
      exact⟨fun h=>h.2,fun h=>⟨Fg.ext' e e2,h⟩⟩
   ·rw [eq_comm,decide_eq_true_eq,hm,List.drop_of_length_le (by omega),List.drop_of_length_le (by omega)]
theorem zjX (a b:List Nat) (ha:a.length<=1152921504606846976):Cn Tryz.prog 30 [is a,is b] (.v (.bool (decide (a=b)))):=by
 refine zt Tryz.func30 2 ?_
 refine pw ?_
 refine .i ?_ ?_<;>intro h0<;>(try simp only [zb] at h0)<;>first | refine pw ?_ | exact pd
 ·symm
  rw [decide_eq_false_iff_not]
  rintro rfl
  exact h0 rfl
 ·have h0':a.length=b.length:=by simpa using h0
  clear h0
  refine pLoop.go (fun k=>k<=a.length/\(a=b ↔ a.drop k=b.drop k)) (fun k=>[(13,.v (.int .i64 (k:Nat)))]) (fun _=>[]) (fun k=>a.length - k) 0 [13] ?_ ?_ ?_
  ·exact⟨Nat.zero_le _,Iff.rfl⟩
  ·exact pd
  ·rintro k ⟨hk,hm⟩
   refine pw ?_
   refine .i ?_ ?_<;>intro h<;>(try simp only [zb] at h)<;>first | refine pw ?_ | exact pd
   ·have hk':k<b.length:=by omega
    rw [List.drop_eq_getElem_cons h,List.drop_eq_getElem_cons hk',List.cons.injEq] at hm
    refine pw ?_
    refine .i ?_ ?_<;>intro e<;>(try simp only [zb] at e)<;>first | refine pw ?_ | exact pd
    ·symm
     rw [decide_eq_false_iff_not]
     intro he
     exact absurd (hm.1 he).1 (by omega)
    ·refine⟨k+1,⟨h,?_⟩,by omega,rfl⟩
     rw [hm]
     have e:a[k]=b[k]:=by omega
     exact⟨fun h=>h.2,fun h=>⟨e,h⟩⟩
   ·rw [eq_comm,decide_eq_true_eq,hm,List.drop_of_length_le (by omega),List.drop_of_length_le (by omega)]
theorem X3 {k:List Fg} (h:vx k=true):k.length<=12/\∀ f ∈ k,f.items.length<=20/\f.vec.length<=20/\∀ e ∈ f.vec,e.holes.length<=30:=by
 obtain⟨h1,h2⟩:=Z3.1 h
 exact⟨h2,fun f hf=>⟨(h1 f hf).1,(vw.1 (h1 f hf).2).2,(vw.1 (h1 f hf).2).1⟩⟩
theorem zcS {k:List Fg} (h:vx k=true):SzK k:=by
 obtain⟨h1,h2⟩:=X3 h
 exact⟨by omega,fun f hf=>by
  obtain⟨q1,q2,q3⟩:=h2 f hf
  exact⟨by omega,by omega,fun e he=>by have:=q3 e he;omega⟩⟩
end Go.Proofs.YtopfkkogooocgaaGreat
