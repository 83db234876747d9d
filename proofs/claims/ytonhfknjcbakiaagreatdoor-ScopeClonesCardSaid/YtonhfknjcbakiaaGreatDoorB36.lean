import Derived.Test.YtonhfknjcbakiaaGreatDoorB35
set_option maxHeartbeats 16000000
set_option linter.unusedVariables false
set_option linter.unusedSimpArgs false
set_option maxRecDepth 100000
namespace Go.Proofs.YtonhfknjcbakiaaGreatDoor
open Go.ChangeShapes Go.WideShapes Go.ChangeAt Go.RowKit Go.Deep
section
variable {H:Type} {enc:TypeId × Value->H} {w:World} {base:Nat} {spare:Nat->Bool} {held:Bool}
end
section
variable {H:Type} {enc:TypeId × Value->H} {w:World} {base:Nat} {spare:Nat->Bool} {held:Bool}
def zhh (w:World) (b o:Nat) (ps:List PV):Prop:=∀(j:Nat) (p:PV),ps[j]? = some p->∃ u,w.cell? ⟨b,o+j,none⟩=some u/\u.oneCell'=true/\Dat (ZG w) w u p
def rdC {α:Type} (cv:α->List PV) (bd:α->Prop) (w:World) (b o:Nat) (x:α):Prop:=zhh w b o (cv x)/\bd x
theorem VQ {α:Type} {cv:α->List PV} {bd:α->Prop} {sz:Nat} {v:Value} {l:List α} (hsz:∀ x,(cv x).length=sz) (h:RdSl sz (rdC cv bd) 0 w.heap.size w v l):Dat (ZG w) w v (.sl (l.map cv) .sh)/\(∀ x ∈ l,bd x)/\l.length<=9223372036854775807:=by
 obtain⟨a,cap,rfl,h1,h2,h3⟩:=h
 have hlm:l.length<=9223372036854775807:=by unfold maxLen at h2;omega
 suffices hs:Dat (ZG w) w (.slice a (l.map cv).length cap) (.sl (l.map cv) .sh)/\∀ x ∈ l,bd x from ⟨by rw [List.length_map] at hs;exact hs.1,hs.2,hlm⟩
 by_cases hne:l=[]
 ·subst hne
  exact⟨.sl a cap sz [] .sh 0 0 (fun _=>undef) (by simp) (fun h=>by cases h) h2 (fun h=>absurd rfl h) (fun i e h=>by simp at h) (fun j h=>by simp at h) (fun i e j p h=>by simp at h),fun _ h=>by cases h⟩
 obtain⟨b,off,rfl,hb1,hb2,hc⟩:=h3 hne
 have key:∀ j,j<l.length * sz->∃ u,w.cell? ⟨b,off+j,none⟩=some u/\u.oneCell'=true/\∀(i k:Nat) (hi:i<l.length) (p:PV),j=i * sz+k->(cv l[i])[k]? = some p->Dat (ZG w) w u p:=fun j hj=>by
  have hp:0<sz:=by
   rcases Nat.eq_zero_or_pos sz with h0 | h0
   ·subst h0;simp at hj
   ·exact h0
  have hi:j / sz<l.length:=Nat.div_lt_of_lt_mul (by rw [Nat.mul_comm];exact hj)
  have hk:j % sz<(cv l[j / sz]).length:=by rw [hsz];exact Nat.mod_lt _ hp
  obtain⟨u,u1,u2,u3⟩:=(hc _ hi).1 (j % sz) _ (List.getElem?_eq_getElem hk)
  have e:off+j / sz * sz+j % sz=off+j:=by have:=Nat.div_add_mod j sz;rw [Nat.mul_comm] at this;omega
  rw [e] at u1
  refine⟨u,u1,u2,fun i k hi2 p hjk hp2=>?_⟩
  have hk2:k<sz:=by have:=(List.getElem?_eq_some_iff.1 hp2).1;rwa [hsz] at this
  have q1:j / sz=i:=by rw [hjk];rw [Nat.mul_comm,Nat.mul_add_div hp,Nat.div_eq_of_lt hk2];omega
  have q2:j % sz=k:=by rw [hjk];rw [Nat.mul_comm,Nat.mul_add_mod,Nat.mod_eq_of_lt hk2]
  subst q1
  subst q2
  rw [List.getElem?_eq_getElem hk] at hp2
  cases hp2
  exact u3
 obtain⟨f,hf⟩:∃ f:Nat->Value,∀ j,j<l.length * sz->w.cell? ⟨b,off+j,none⟩=some (f j)/\(f j).oneCell'=true/\∀(i k:Nat) (hi:i<l.length) (p:PV),j=i * sz+k->(cv l[i])[k]? = some p->Dat (ZG w) w (f j) p:=by
  refine⟨fun j=>if h:j<l.length * sz then (key j h).choose else undef,fun j hj=>?_⟩
  simp only [dif_pos hj]
  exact(key j hj).choose_spec
 refine⟨.sl _ cap sz _ .sh b off f (by simpa using h1) (fun h=>by cases h) h2 (fun _=>rfl) (fun i e h=>?_) (fun j hj=>?_) (fun i e j p he hp=>?_),fun x hx=>?_⟩
 ·simp only [List.getElem?_map,Option.map_eq_some_iff] at h
  obtain⟨s,_,rfl⟩:=h
  exact hsz s
 ·obtain⟨f1,f2,_⟩:=hf j (by simpa using hj)
  exact⟨hb2,f1,f2⟩
 ·have hi:i<l.length:=by have:=(List.getElem?_eq_some_iff.1 he).1;simpa using this
  rw [xo hi] at he
  cases he
  have hj:j<sz:=by have:=(List.getElem?_eq_some_iff.1 hp).1;rwa [hsz] at this
  have:i * sz+j<l.length * sz:=by
   have:=Nat.mul_le_mul_right sz (show i+1<=l.length from hi)
   rw [Nat.add_mul] at this;omega
  exact(hf _ this).2.2 i j hi p rfl hp
 ·obtain⟨i,hi,rfl⟩:=List.getElem_of_mem hx
  exact(hc i hi).2
theorem V2 {P:Program} {e:TypeId} {f0 f1 f2:Field} {n:Nat} {a:Addr} {cs:List Value} {y:DataW H × List MemPlace} (he:P.underlying e=some (.struct #[f0,f1,f2])) (o0:f0.offset=0) (o1:f1.offset=1) (o2:f2.offset=2) (c0:P.cellsOf f0.type=1) (c1:P.cellsOf f1.type=1) (c2:P.cellsOf f2.type=1)
 (h1:w.cells? base a 3=some cs) (h2:DataW.trod enc P w base spare held n e cs=some y) :
 ∃ v0 v1 v2 k y0 y1 y2,w.cell? a=some v0/\w.cell? (a.add 1)=some v1/\w.cell? (a.add 2)=some v2/\DataW.trod enc P w base spare held k f0.type [v0]=some y0/\DataW.trod enc P w base spare held k f1.type [v1]=some y1/\DataW.trod enc P w base spare held k f2.type [v2]=some y2:=by
 obtain⟨_,hlen,hcell⟩:=World.cells?_some h1
 obtain⟨xs,k,_,_,_,hxl,hf⟩:=DataW.trod_struct he h2
 match xs,hxl,cs,hlen with
 | [y0,y1,y2],_,[v0,v1,v2],_=>
   have g0:=hf 0 f0 rfl
   have g1:=hf 1 f1 rfl
   have g2:=hf 2 f2 rfl
   simp [o0,o1,o2,c0,c1,c2] at g0 g1 g2
   have e0:=hcell 0 (by omega)
   have e1:=hcell 1 (by omega)
   have e2:=hcell 2 (by omega)
   exact⟨v0,v1,v2,k,y0,y1,y2,by simpa [Addr.add] using e0,by simpa using e1,by simpa using e2,g0,g1,g2⟩
instance : Inhabited En:=⟨⟨0,0,[]⟩⟩
theorem zfb {n:Nat} {a:Addr} {cs:List Value} {y:DataW H × List MemPlace} (h1:w.cells? base a 3=some cs) (h2:DataW.trod enc Tryz.prog w base spare held n 38 cs=some y):a.spot=none/\a.block<w.heap.size/\∃ e,rdC ec (fun e=>ZL e/\e.holes.length<=9223372036854775807) w a.block a.off e:=by
 obtain⟨v0,v1,v2,k,y0,y1,y2,e0,e1,e2,g0,g1,g2⟩:=V2 Tryz.underlying38 rfl rfl rfl (by kernel_rfl) (by kernel_rfl) (by kernel_rfl) h1 h2
 obtain⟨m0,q0,hm0⟩:=kM Tryz.underlying24 g0
 obtain⟨m1,q1,hm1⟩:=kM Tryz.underlying24 g1
 obtain⟨v2',l,q2,hl⟩:=ZA g2
 obtain rfl:v0=_:=by simpa using q0
 obtain rfl:v1=_:=by simpa using q1
 obtain rfl:v2=v2':=by simpa using q2
 obtain⟨b,off,spot⟩:=a
 obtain rfl:spot=none:=World.cell?_spot e0
 refine⟨rfl,World.block_lt_of_cell? _ _ e0,⟨m0,m1,l⟩,fun j p hp=>?_,⟨hl.bound,hm1,hm0⟩,by have:=hl.len;unfold maxLen at this;omega⟩
 have hd:Dat (ZG w) w v2 (rg l):=jp hl fun _ _ _ h=>h
 obtain⟨aa,c,rfl,_⟩:=hl
 match j,hp with
 | 0,hp=>cases hp;exact⟨_,e0,rfl,.v _⟩
 | 1,hp=>cases hp;exact⟨_,by simpa [Addr.add] using e1,rfl,.v _⟩
 | 2,hp=>cases hp;exact⟨_,by simpa [Addr.add] using e2,rfl,hd⟩
theorem zet {fuel:Nat} {cs:List Value} {x:DataW H × List MemPlace} (h:DataW.trod enc Tryz.prog w base spare held fuel 32 cs=some x):∃ v l,cs=[v]/\RdSl 3 (rdC ec (fun e=>ZL e/\e.holes.length<=9223372036854775807)) 0 w.heap.size w v l:=
 Za (rdC ec (fun e=>ZL e/\e.holes.length<=9223372036854775807)) Tryz.underlying32 (by kernel_rfl) (fun _ _ _ _ h1 h2=>zfb h1 h2) h
end
section
variable {H:Type} {enc:TypeId × Value->H} {w:World} {base:Nat} {spare:Nat->Bool} {held:Bool}
theorem zfi {n:Nat} {a:Addr} {cs:List Value} {y:DataW H × List MemPlace} (h1:w.cells? base a 2=some cs) (h2:DataW.trod enc Tryz.prog w base spare held n 34 cs=some y):a.spot=none/\a.block<w.heap.size/\∃ f,rdC fc (fun f=>BdF f/\∀ e ∈ f.vec,e.holes.length<=9223372036854775807) w a.block a.off f:=by
 obtain⟨v0,v1,k,y0,y1,e0,e1,g0,g1⟩:=YB Tryz.underlying34 rfl rfl (by kernel_rfl) (by kernel_rfl) h1 h2
 obtain⟨v0',l,q0,hl⟩:=ZA g0
 obtain⟨v1',v,q1,hv⟩:=zet g1
 obtain rfl:v0=v0':=by simpa using q0
 obtain rfl:v1=v1':=by simpa using q1
 obtain⟨b,off,spot⟩:=a
 obtain rfl:spot=none:=World.cell?_spot e0
 obtain⟨d1,b1,n1⟩:=VQ (cv:=ec) (bd:=fun e=>ZL e/\e.holes.length<=9223372036854775807) (fun _=>rfl) hv
 have d0:Dat (ZG w) w v0 (rg l):=jp hl fun _ _ _ h=>h
 have hlb:=hl.bound
 have hll:l.length<=9223372036854775807:=by have:=hl.len;unfold maxLen at this;omega
 have o0:v0.oneCell'=true:=by obtain⟨a0,c0,rfl,_⟩:=hl;rfl
 have o1:v1.oneCell'=true:=by obtain⟨a0,c0,rfl,_⟩:=hv;rfl
 refine⟨rfl,World.block_lt_of_cell? _ _ e0,⟨l,v⟩,fun j p hp=>?_,⟨hlb,fun e he=>(b1 e he).1,hll,n1⟩,fun e he=>(b1 e he).2⟩
 match j,hp with
 | 0,hp=>cases hp;exact⟨_,e0,o0,d0⟩
 | 1,hp=>cases hp;exact⟨_,by simpa [Addr.add] using e1,o1,d1⟩
theorem zbd {fuel:Nat} {cs:List Value} {x:DataW H × List MemPlace} (h:DataW.trod enc Tryz.prog w base spare held fuel 23 cs=some x):∃ v l,cs=[v]/\RdSl 2 (rdC fc (fun f=>BdF f/\∀ e ∈ f.vec,e.holes.length<=9223372036854775807)) 0 w.heap.size w v l:=
 Za (rdC fc (fun f=>BdF f/\∀ e ∈ f.vec,e.holes.length<=9223372036854775807)) Tryz.underlying23 (by kernel_rfl) (fun _ _ _ _ h1 h2=>zfi h1 h2) h
theorem zo4 {r:Reach} {b0:Nat} {v:Value} {d:DataW H} {ps:List MemPlace} (hval:Value.okWide Tryz.prog w r b0 23 v) (h:DataW.Trod enc Tryz.prog w base spare held 23 v d ps):∃ l,Dat (ZG w) w v (kp l)/\BdK l/\HlK l:=by
 obtain⟨a,len,cap,rfl⟩:=okWide_slice Tryz.underlying23 hval
 obtain⟨fuel,hf⟩:=h
 obtain⟨v,l,hv,hl⟩:=zbd hf
 simp [Value.cells] at hv
 rw [<-hv] at hl
 obtain⟨h1,h2,h3⟩:=VQ (cv:=fc) (bd:=(fun f=>BdF f/\∀ e ∈ f.vec,e.holes.length<=9223372036854775807)) (fun _=>rfl) hl
 exact⟨l,h1,⟨fun f hf=>(h2 f hf).1,h3⟩,fun f hf=>(h2 f hf).2⟩
theorem zg2 {r:Reach} {b0:Nat} {v:Value} {d:DataW H} {ps:List MemPlace} (hval:Value.okWide Tryz.prog w r b0 23 v) (h:DataW.Trod enc Tryz.prog w base spare held 23 v d ps):∃ l,Dat (ZG w) w v (kp l)/\BdK l:=
 (zo4 hval h).imp fun _ h=>⟨h.1,h.2.1⟩
def xp (x:Nat × Nat × Nat):PV:=.agg [.v (.int .u64 (x.1:Nat)),.v (.int .u64 (x.2.1:Nat)),.v (.int .u64 (x.2.2:Nat))]
attribute [go_sem] xp
end
end Go.Proofs.YtonhfknjcbakiaaGreatDoor
namespace Go.Proofs.YtonhfknjcbakiaaGreatDoor
open Go.RowKit
theorem zc8 (k:List Fg) (hb:BdK k):Cn Tryz.prog 13 [kp k] (.v (.bool (vx k))):=by
 have hl:=hb.2
 refine zt Tryz.func13 1 ?_
 refine pw ?_
 refine pLoop.go (fun j=>j<=k.length/\vx k=((k.drop j).all (fun f=>decide (f.items.length<=20) && JF f.vec) && decide (k.length<=12))) (fun j=>[(3,.v (.int .i64 (j:Nat)))]) (fun _=>[]) (fun j=>k.length - j) 0 [3] ?_ ?_ ?_
 ·exact⟨Nat.zero_le _,rfl⟩
 ·exact pd
 ·rintro j ⟨hj,hm⟩
  refine pw ?_
  refine .i ?_ ?_<;>intro h<;>(try simp only [zb] at h)<;>first | refine pw ?_ | exact pd
  ·rw [List.drop_eq_getElem_cons h,List.all_cons] at hm
   have hbj:=hb.1 _ (List.getElem_mem h)
   have hbi:=hbj.2.2.1
   refine pw ?_
   refine .i ?_ ?_<;>intro h2<;>(try simp only [zb] at h2)<;>first | refine pw ?_ | exact pd
   ·rw [hm,decide_eq_false (by omega)]
    rfl
   ·rw [decide_eq_true (by omega),Bool.true_and] at hm
    refine .c (zj5 k[j].vec hbj.2.2.2) ?_
    refine .i ?_ ?_<;>intro h3<;>(try simp only [zb] at h3)<;>first | refine pw ?_ | exact pd
    ·rw [hm,h3]
     rfl
    ·rw [h3,Bool.true_and] at hm
     exact⟨j+1,⟨h,hm⟩,by omega,rfl⟩
  ·rw [hm,List.drop_of_length_le (by omega)]
   simp
   omega
theorem znL (k:List Fg) (hb:BdK k) (hh:HlK k):Cn Tryz.prog 36 [kp k] (.tup [.v (.int .i64 (ckK k).1),.v (.int .i64 (ckK k).2)]):=by
 have hl:=hb.2
 refine zt Tryz.func36 1 ?_
 refine pw ?_
 refine pLoop.go (fun j=>j<=k.length/\ckK k=hkK j (k.drop j)) (fun j=>[(4,.v (.int .i64 (j:Nat)))]) (fun _=>[]) (fun j=>k.length - j) 0 [4] ?_ ?_ ?_
 ·exact⟨Nat.zero_le _,rfl⟩
 ·exact pd
 ·rintro j ⟨hj,hm⟩
  refine pw ?_
  refine .i ?_ ?_<;>intro h<;>(try simp only [zb] at h)<;>first | refine pw ?_ | exact pd
  ·rw [List.drop_eq_getElem_cons h,hkK] at hm
   have hbj:=hb.1 _ (List.getElem_mem h)
   have hhj:=hh _ (List.getElem_mem h)
   refine pw ?_
   refine .c (XO k[j].items hbj.2.2.1 hbj.1) ?_
   refine .i ?_ ?_<;>intro h2<;>(try simp only [zb] at h2)<;>first | refine pw ?_ | exact pd
   ·rw [if_neg (by omega)] at hm
    refine .c (Kb k[j].vec hbj.2.1 hbj.2.2.2 hhj) ?_
    refine .i ?_ ?_<;>intro h3<;>(try simp only [zb] at h3)<;>first | refine pw ?_ | exact pd
    ·rw [if_pos (by omega)] at hm
     rw [hm]
    ·rw [if_neg (by omega)] at hm
     exact⟨j+1,⟨h,hm⟩,by omega,rfl⟩
   ·rw [if_pos (by omega)] at hm
    refine .i ?_ ?_<;>intro h3<;>(try simp only [zb] at h3)<;>first | refine pw ?_ | exact pd
    ·rw [hm]
    ·exact absurd h3 (by omega)
  ·rw [hm,List.drop_of_length_le (by omega)]
   rfl
theorem SzK.hl {k:List Fg} (hz:SzK k):HlK k:=fun f hf e he=>Nat.le_trans ((hz.2 f hf).2.2 e he) (by omega)
theorem VS (k:List Fg) (hb:BdK k) (hz:SzK k):Cn Tryz.prog 36 [kp k] (.tup [.v (.int .i64 (ckK k).1),.v (.int .i64 (ckK k).2)]):=znL k hb hz.hl
theorem Vm (k:List Fg) (hb:BdK k) (hz:SzK k):Cn Tryz.prog 17 [kp k] (.v (.bool (decide ((ckK k).1=0)))):=by
 refine zt Tryz.func17 1 ?_
 refine pw ?_
 exact .d (VS k hb hz)
theorem Vh (k:List Fg) (hb:BdK k) (hz:SzK k):Cn Tryz.prog 54 [kp k] (jS (ckK k).1 (ckK k).2):=by
 have hl:=hz.1
 refine zt Tryz.func54 1 ?_
 refine pw ?_
 refine pLoop.go (fun j=>j<=k.length/\ckK k=hkK j (k.drop j)) (fun j=>[(9,.v (.int .i64 (j:Nat)))]) (fun _=>[]) (fun j=>k.length - j) 0 [9] ?_ ?_ ?_
 ·exact⟨Nat.zero_le _,rfl⟩
 ·exact pd
 ·rintro j ⟨hj,hm⟩
  refine pw ?_
  refine .i ?_ ?_<;>intro h<;>(try simp only [zb] at h)<;>first | refine pw ?_ | exact pd
  ·rw [List.drop_eq_getElem_cons h,hkK] at hm
   have hbj:=hb.1 _ (List.getElem_mem h)
   have hzj:=hz.2 _ (List.getElem_mem h)
   have hco1:=Ju (Zl k[j].items).1 (Zl k[j].items).2
   have hco2:=Ju (jx k[j].vec).1 (jx k[j].vec).2
   refine pw ?_
   refine .rd (rcheck_c k[j].items hbj.1 hzj.1 (.inr (KL 2))) rfl ?_
   by_cases h1:(Zl k[j].items).1=0
   ·rw [yk h1]
    rw [if_neg (by omega)] at hm
    refine pw ?_
    refine .rd (zes k[j].vec hbj.2.1 hzj.2.1 hzj.2.2) rfl ?_
    by_cases h2:(jx k[j].vec).1=0
    ·rw [yk h2]
     rw [if_neg (by omega)] at hm
     refine pw ?_
     exact⟨j+1,⟨h,hm⟩,by omega,rfl⟩
    ·rw [if_pos h2] at hm
     rw [hm]
     rw [vu h2] at hco2 ⊢
     refine pw ?_
     (first | refine .c (hco2) ?_ | refine .o (hco2) ?_)
     refine .c (jT (jx k[j].vec).1 j) ?_
     exact ym _ _
   ·rw [if_pos h1] at hm
    rw [hm]
    rw [vu h1] at hco1 ⊢
    refine pw ?_
    (first | refine .c (hco1) ?_ | refine .o (hco1) ?_)
    refine .c (jT (Zl k[j].items).1 j) ?_
    exact ym _ _
  ·rw [hm,List.drop_of_length_le (by omega)]
   exact .eq _ rfl
theorem zfq (a b:List Fg) (hz:SzK a):Cn Tryz.prog 16 [kp a,kp b] (.v (.bool (decide (a=b)))):=by
 have hl:=hz.1
 refine zt Tryz.func16 2 ?_
 refine pw ?_
 refine .i ?_ ?_<;>intro h0<;>(try simp only [zb] at h0)<;>first | refine pw ?_ | exact pd
 ·symm
  rw [decide_eq_false_iff_not]
  rintro rfl
  exact h0 rfl
 ·have h0':a.length=b.length:=by simpa using h0
  clear h0
  refine pLoop.go (fun k=>k<=a.length/\(a=b ↔ a.drop k=b.drop k)) (fun k=>[(5,.v (.int .i64 (k:Nat)))]) (fun _=>[]) (fun k=>a.length - k) 0 [5] ?_ ?_ ?_
  ·exact⟨Nat.zero_le _,Iff.rfl⟩
  ·exact pd
  ·rintro k ⟨hk,hm⟩
   refine pw ?_
   refine .i ?_ ?_<;>intro h<;>(try simp only [zb] at h)<;>first | refine pw ?_ | exact pd
   ·have hk':k<b.length:=by omega
    have hzj:=hz.2 _ (List.getElem_mem h)
    rw [List.drop_eq_getElem_cons h,List.drop_eq_getElem_cons hk',List.cons.injEq] at hm
    refine pw ?_
    refine .c (zgI a[k].items b[k].items hzj.1) ?_
    refine .i ?_ ?_<;>intro e<;>(try simp only [zb] at e)<;>first | refine pw ?_ | exact pd
    ·symm
     rw [decide_eq_false_iff_not]
     intro he
     exact e (congrArg Fg.items (hm.1 he).1)
    ·refine .c (zji a[k].vec b[k].vec hzj.2.1 hzj.2.2) ?_
     refine .i ?_ ?_<;>intro e2<;>(try simp only [zb] at e2)<;>first | refine pw ?_ | exact pd
     ·symm
      rw [decide_eq_false_iff_not]
      intro he
      exact e2 (congrArg Fg.vec (hm.1 he).1)
     ·refine⟨k+1,⟨h,?_⟩,by omega,rfl⟩
      rw [hm]
      exact⟨fun h=>h.2,fun h=>⟨Fg.ext' e e2,h⟩⟩
   ·rw [eq_comm,decide_eq_true_eq,hm,List.drop_of_length_le (by omega),List.drop_of_length_le (by omega)]
theorem zjX (a b:List Nat) (ha:a.length<=1152921504606846976):Cn Tryz.prog 56 [is a,is b] (.v (.bool (decide (a=b)))):=by
 refine zt Tryz.func56 2 ?_
 refine pw ?_
 refine .i ?_ ?_<;>intro h0<;>(try simp only [zb] at h0)<;>first | refine pw ?_ | exact pd
 ·symm
  rw [decide_eq_false_iff_not]
  rintro rfl
  exact h0 rfl
 ·have h0':a.length=b.length:=by simpa using h0
  clear h0
  refine pLoop.go (fun k=>k<=a.length/\(a=b ↔ a.drop k=b.drop k)) (fun k=>[(13,.v (.int .i64 (k:Nat)))]) (fun _=>[]) (fun k=>a.length - k) 0 [13] ?_ ?_ ?_
  ·exact⟨Nat.zero_le _,Iff.rfl⟩
  ·exact pd
  ·rintro k ⟨hk,hm⟩
   refine pw ?_
   refine .i ?_ ?_<;>intro h<;>(try simp only [zb] at h)<;>first | refine pw ?_ | exact pd
   ·have hk':k<b.length:=by omega
    rw [List.drop_eq_getElem_cons h,List.drop_eq_getElem_cons hk',List.cons.injEq] at hm
    refine pw ?_
    refine .i ?_ ?_<;>intro e<;>(try simp only [zb] at e)<;>first | refine pw ?_ | exact pd
    ·symm
     rw [decide_eq_false_iff_not]
     intro he
     exact absurd (hm.1 he).1 (by omega)
    ·refine⟨k+1,⟨h,?_⟩,by omega,rfl⟩
     rw [hm]
     have e:a[k]=b[k]:=by omega
     exact⟨fun h=>h.2,fun h=>⟨e,h⟩⟩
   ·rw [eq_comm,decide_eq_true_eq,hm,List.drop_of_length_le (by omega),List.drop_of_length_le (by omega)]
def k11:List Fg:=[⟨[⟨1,5⟩],[⟨1,3,[]⟩]⟩,⟨[⟨4,9⟩],[⟨2,0,[]⟩]⟩]
def u11:List En:=[⟨1,3,[]⟩,⟨2,0,[]⟩]
def b11:List Fg:=[⟨[⟨2,1⟩],[]⟩]
theorem kn3 (r:Nat):kn ⟨r,3,[]⟩=[⟨0,3⟩]:=kn0 _ _ (by rw [zw];omega)
theorem zps (r:Nat):kn ⟨r,0,[]⟩=[⟨0,0⟩]:=kn0 _ _ (by rw [zw];omega)
theorem r11:RightK k11:=by simp [k11,RightK,ZS,RightV,zO,zw,Nrm,NF]
theorem zrp:CanV u11:=⟨by simp [u11,YP,zO,zw,Nrm,NF],by simp [u11]⟩
theorem zsh:BdK k11:=⟨by simp [k11,BdF,BdR,ZL,zw],by simp [k11]⟩
theorem zsi:BdK b11:=⟨by simp [b11,BdF,BdR,ZL,zw],by simp [b11]⟩
theorem zsO:SzK k11:=⟨by simp [k11],by simp [k11]⟩
theorem zsr:SzK b11:=⟨by simp [b11],by simp [b11]⟩
theorem zrz:vx k11=true:=by decide
theorem zrl (i r c:Nat):zqx k11 i r c=((mem [⟨1,5⟩] i && mem (if 1=r then [⟨0,3⟩] else []) c) || (mem [⟨4,9⟩] i && mem (if 2=r then [⟨0,0⟩] else []) c)):=by
 simp only [zqx,k11,List.any_cons,List.any_nil,qm,kr,kn3,zps,Bool.or_false]
theorem zsE:qc k11 4=u11:=by
 have h:=r11.ik.at 4
 refine Zk h.1.can zrp fun r=>Nrm.unique (qi h.1.can.right r) (qi zrp.right r) fun c hc=>?_
 rw [h.2 r c hc,zrl]
 simp only [u11,qm,kr,kn3,zps]
 by_cases h1:1=r
 ·rw [if_pos h1,if_pos h1,if_neg (by omega)]
  simp [mem]
 ·rw [if_neg h1,if_neg h1]
  simp [mem]
theorem n19:Nrm [⟨1,9⟩]:=qG (by decide) (by rw [zw];omega)
theorem zsG:JM k11=[⟨1,9⟩]:=Nrm.unique r11.items.1 n19 fun x hx=>by
 rw [r11.items.2.1 x hx,Bool.eq_iff_iff]
 simp [k11,mem]
 omega
theorem zsJ:zU k11 4=[0,1]:=by decide
theorem zrq:Cn Tryz.prog 14 [] (.v (.bool true)):=by
 have hz:(ckK k11).1=0:=(ZN zsh).2 r11
 have hg:=zsO
 have hgb:=zsr
 have ok:=zrk zrz r11
 have hs:=fun f hf=>zfh zrz r11 (f:=f) hf
 have h1:zqx k11 4 1 3=true:=by rw [zrl];decide
 have h2:zqx k11 4 2 0=true:=by rw [zrl];decide
 have h3:zqx k11 3 2 0=false:=by rw [zrl];decide
 have hx:ckK b11=(2,0):=by decide
 have hco:=Ju (ckK b11).1 (ckK b11).2
 have hl:=X4 zrz r11
 have a1:=zgU k11 4 r11.ik ok r11 hs hg
 have a2:=zrE k11 r11 hg (by decide) (by omega)
 have a3:=K9 k11 4 r11 hg (by decide)
 rw [zsE,u11] at a1
 rw [zsG] at a2
 rw [zsJ] at a3
 have c1:=zoW k11 4 1 3 r11 (by rw [zw];omega) hg
 have c2:=zoW k11 4 2 0 r11 (by rw [zw];omega) hg
 have c3:=zoW k11 3 2 0 r11 (by rw [zw];omega) hg
 rw [h1] at c1
 rw [h2] at c2
 rw [h3] at c3
 have d1:=Vh k11 zsh hg
 rw [yk hz] at d1
 have d2:=Vh b11 zsi hgb
 rw [hx] at d2 hco
 have e1:=zgI [⟨1,9⟩] [⟨1,9⟩] (by decide)
 have e2:=zjX [0,1] [0,1] (by decide)
 refine zt Tryz.func14 0 ?_
 refine pw ?_
 (first | refine .c (d1) ?_ | refine .o (d1) ?_)
 (first | refine .c (c1) ?_ | refine .o (c1) ?_)
 (first | refine .c (c2) ?_ | refine .o (c2) ?_)
 (first | refine .c (c3) ?_ | refine .o (c3) ?_)
 (first | refine .c (a1) ?_ | refine .o (a1) ?_)
 (first | refine .c (a2) ?_ | refine .o (a2) ?_)
 (first | refine .c (e1) ?_ | refine .o (e1) ?_)
 (first | refine .c (a3) ?_ | refine .o (a3) ?_)
 (first | refine .c (e2) ?_ | refine .o (e2) ?_)
 (first | refine .c (d2) ?_ | refine .o (d2) ?_)
 (first | exact .d (hco) | exact .q (hco))
theorem X3 {k:List Fg} (h:vx k=true):k.length<=12/\∀ f ∈ k,f.items.length<=20/\f.vec.length<=20/\∀ e ∈ f.vec,e.holes.length<=30:=by
 obtain⟨h1,h2⟩:=Z3.1 h
 exact⟨h2,fun f hf=>⟨(h1 f hf).1,(vw.1 (h1 f hf).2).2,(vw.1 (h1 f hf).2).1⟩⟩
theorem zcS {k:List Fg} (h:vx k=true):SzK k:=by
 obtain⟨h1,h2⟩:=X3 h
 exact⟨by omega,fun f hf=>by
  obtain⟨q1,q2,q3⟩:=h2 f hf
  exact⟨by omega,by omega,fun e he=>by have:=q3 e he;omega⟩⟩
end Go.Proofs.YtonhfknjcbakiaaGreatDoor
