import Derived.Test.YtopfkkogooocgaaGreatB41
import Derived.Test.YtopfkkogooocgaaGreatB43
import Derived.Test.YtopfkkogooocgaaGreatB44
set_option maxHeartbeats 16000000
set_option linter.unusedVariables false
set_option linter.unusedSimpArgs false
set_option maxRecDepth 100000
namespace Go.Proofs.YtopfkkogooocgaaGreat
open Go.RowKit
def qX (k:List Fg) (x y:Nat):Bool:=k.all fun f=>mem f.items x == mem f.items y
theorem qo {k:List Fg} {x y:Nat}:qX k x y=true ↔ ∀ f ∈ k,mem f.items x=mem f.items y:=by simp [qX]
theorem j8 {x y:Nat}:∀ {k:List Fg} {n:Nat},(∀ f ∈ k,mem f.items x=mem f.items y)->qd x n k=qd y n k
 | [],_,_=>rfl
 | f::k,n,h=>by
   rw [qd,qd,j8 (k:=k) fun g hg=>h g (by simp [hg]),h f (by simp)]
theorem Zh {x y:Nat}:∀ {k:List Fg} {n:Nat},(qd x n k).map Prod.fst=(qd y n k).map Prod.fst->∀ f ∈ k,mem f.items x=mem f.items y
 | [],_,_,f,hf=>by cases hf
 | g::k,n,h,f,hf=>by
   have no:∀ z,n ∉ (qd z (n+1) k).map Prod.fst:=fun z hz=>by
    obtain⟨p,hp,e⟩:=List.mem_map.1 hz
    have:=(jv hp).2.2.1
    omega
   rw [qd,qd] at h
   cases hx:mem g.items x<;>cases hy:mem g.items y<;>rw [hx,hy] at h<;>simp only [if_true,if_false,Bool.false_eq_true,List.map_cons] at h
   ·rcases List.mem_cons.1 hf with rfl | hf
    ·rw [hx,hy]
    ·exact Zh h f hf
   ·exact absurd (h ▸ List.mem_cons_self) (no x)
   ·exact absurd (h ▸ List.mem_cons_self) (no y)
   ·rcases List.mem_cons.1 hf with rfl | hf
    ·rw [hx,hy]
    ·exact Zh (List.cons.inj h).2 f hf
theorem Vp {k:List Fg} {x y:Nat}:zU k x=zU k y ↔ qX k x y=true:=by
 rw [qo]
 exact⟨fun h=>Zh h,fun h=>by unfold zU;rw [j8 h]⟩
theorem km {k:List Fg} {i r c:Nat}:hasK k i r c=true ↔ ∃ f ∈ k,mem f.items i=true/\mem (zT f.vec r) c=true:=by simp [hasK]
noncomputable def zq (k:List Fg):List Nat:=(zH (k.map Fg.items)).filter fun x=>decide (x=0) || !qX k (x - 1) x
theorem xc (k:List Fg):YN (zq k):=(x8 _).filter _
theorem vZ {k:List Fg} (h:RightK k) {x:Nat}:x ∈ zq k ↔ x<zk/\(x=0\/qX k (x - 1) x=false):=by
 unfold zq
 rw [List.mem_filter]
 constructor
 ·rintro⟨h1,h2⟩
  refine⟨Ze (fun l hl s hs=>?_) x h1,by simpa using h2⟩
  obtain⟨f,hf,rfl⟩:=List.mem_map.1 hl
  have:=NF.lo_ge (h f hf).1 s hs
  omega
 ·rintro⟨h1,h2⟩
  refine⟨?_,by simpa using h2⟩
  unfold zH
  rw [qr]
  unfold yU
  rcases Nat.eq_zero_or_pos x with h0 | h0
  ·simp [h0]
  ·have h3:=h2.resolve_left (by omega)
   refine List.mem_cons.2 (.inr ?_)
   have:∃ f ∈ k,mem f.items (x - 1)≠mem f.items x:=Classical.byContradiction fun hn=>by
    have:qX k (x - 1) x=true:=qo.2 fun f hf=>Classical.byContradiction fun he=>hn ⟨f,hf,he⟩
    rw [h3] at this
    cases this
   obtain⟨f,hf,hne⟩:=this
   exact List.mem_flatMap.2 ⟨f.items,List.mem_map.2 ⟨f,hf,rfl⟩,Y3 (h f hf).1.ivs2 ⟨h1,by rw [if_neg (by omega)];exact fun e=>hne e.symm⟩⟩
theorem XC {k:List Fg} (h:RightK k):0 ∈ zq k:=(vZ h).2 ⟨xM,.inl rfl⟩
theorem vY (k:List Fg):(zq k).length<=1+(CI k).length:=by
 have h1:(zq k).length<=(zH (k.map Fg.items)).length:=List.length_filter_le _ _
 have h2:(zH (k.map Fg.items)).length<=(yU (k.map Fg.items)).length:=ju _
 have h3:(yU (k.map Fg.items)).length=1+(CI k).length:=by
  unfold yU CI
  rw [List.length_cons,List.flatMap_map]
  omega
 omega
def vN:List Nat->List Iv
 | []=>[]
 | [x]=>[⟨x,zk - 1⟩]
 | x::y::r=>⟨x,y - 1⟩::vN (y::r)
theorem vO:∀ l:List Nat,(vN l).length=l.length
 | []=>rfl
 | [_]=>rfl
 | x::y::r=>by rw [vN,List.length_cons,vO (y::r)];rfl
theorem Vx:∀(l:List Nat) (i:Nat) (h:i<l.length),(vN l)[i]'(by rw [vO];exact h)=⟨l[i],if h:i+1<l.length then l[i+1] - 1 else zk - 1⟩
 | [x],0,_=>by simp [vN]
 | x::y::r,0,_=>by simp [vN]
 | x::y::r,i+1,h=>by
   have:=Vx (y::r) i (by simpa using h)
   simp only [vN,List.getElem_cons_succ]
   rw [this]
   simp
theorem YD:∀ {l:List Nat},YN l->(∀ x ∈ l,x<zk)->(∀ s ∈ vN l,s.lo<=s.hi/\s.hi<zk/\s.lo ∈ l)/\(vN l).Pairwise (fun s t=>s.hi<t.lo)/\(∀ s ∈ vN l,∀ y ∈ l,s.lo<y->s.hi<y)/\∀ i x r,l=x::r->x<=i->i<zk->∃ s ∈ vN l,s.lo<=i/\i<=s.hi
 | [],_,_=>⟨fun s h=>(by cases h),List.Pairwise.nil,fun s h=>(by cases h),fun i x r h=>by cases h⟩
 | [x],_,hl=>by
   have hx:=hl x (by simp)
   refine⟨fun s h=>?_,by simp [vN],fun s h y hy hlt=>?_,fun i y r h h1 h2=>?_⟩
   ·simp only [vN,List.mem_singleton] at h
    subst h
    exact⟨by simp only;omega,by simp only;omega,by simp⟩
   ·simp only [vN,List.mem_singleton] at h hy
    subst h hy
    simp at hlt
   ·cases h
    exact⟨⟨x,zk - 1⟩,by simp [vN],h1,by simp only;omega⟩
 | x::y::r,ha,hl=>by
   have hp:=List.pairwise_cons.1 ha
   have hxy:=hp.1 y (by simp)
   have hy:=hl y (by simp)
   obtain⟨h1,h2,h3,h4⟩:=YD hp.2 fun z hz=>hl z (by simp [hz])
   have hge:∀ z ∈ y::r,y<=z:=fun z hz=>by
    rcases List.mem_cons.1 hz with rfl | hz
    ·exact Nat.le_refl _
    ·exact Nat.le_of_lt ((List.pairwise_cons.1 hp.2).1 z hz)
   rw [vN]
   refine⟨fun s h=>?_,List.pairwise_cons.2 ⟨fun t ht=>?_,h2⟩,fun s h z hz hlt=>?_,fun i x' r' h k1 k2=>?_⟩
   ·rcases List.mem_cons.1 h with rfl | h
    ·exact⟨by simp only;omega,by simp only;omega,by simp⟩
    ·obtain⟨q1,q2,q3⟩:=h1 s h
     exact⟨q1,q2,by rw [List.mem_cons];exact .inr q3⟩
   ·have:=hge _ (h1 t ht).2.2
    simp only;omega
   ·rcases List.mem_cons.1 h with e | hs'
    ·subst e
     rcases List.mem_cons.1 hz with e | hz
     ·subst e;simp at hlt
     ·have:=hge z hz
      simp only;omega
    ·rcases List.mem_cons.1 hz with e | hz
     ·subst e
      have:=hge _ (h1 s hs').2.2
      omega
     ·exact h3 s hs' z hz hlt
   ·cases h
    rcases Nat.lt_or_ge i y with hi | hi
    ·exact⟨⟨x,y - 1⟩,by simp,k1,by simp only;omega⟩
    ·obtain⟨s,hs,q⟩:=h4 i y r rfl hi k2
     exact⟨s,by simp [hs],q⟩
noncomputable def y4 (k:List Fg):List Iv:=vN (zq k)
noncomputable def zu (k:List Fg):List Iv:=(y4 k).filter fun s=>decide (0<(zU k s.lo).length)
section
variable {k:List Fg} (h:RightK k)
include h
theorem x7:∀ x ∈ zq k,x<zk:=fun x hx=>((vZ h).1 hx).1
theorem xO:(∀ s ∈ y4 k,s.lo<=s.hi/\s.hi<zk/\s.lo ∈ zq k)/\(y4 k).Pairwise (fun s t=>s.hi<t.lo)/\(∀ s ∈ y4 k,∀ y ∈ zq k,s.lo<y->s.hi<y)/\∀ i,i<zk->∃ s ∈ y4 k,s.lo<=i/\i<=s.hi:=by
 obtain⟨h1,h2,h3,h4⟩:=YD (xc k) (x7 h)
 refine⟨h1,h2,h3,fun i hi=>?_⟩
 have h0:=XC h
 cases hs:zq k with
 | nil=>rw [hs] at h0;cases h0
 | cons x r=>
   have:x=0:=by
    rw [hs] at h0
    rcases List.mem_cons.1 h0 with e | e
    ·exact e.symm
    ·have ha:=xc k
     rw [hs] at ha
     have:=(List.pairwise_cons.1 ha).1 0 e
     omega
   exact h4 i x r hs (by omega) hi
theorem yt:(∀ s ∈ zu k,s.lo<=s.hi/\s.hi<zk/\s ∈ y4 k/\0<(zU k s.lo).length)/\(zu k).Pairwise (fun s t=>s.hi<t.lo):=by
 refine⟨fun s hs=>?_,(xO h).2.1.filter _⟩
 obtain⟨h1,h2⟩:=List.mem_filter.1 hs
 obtain⟨q1,q2,_⟩:=(xO h).1 s h1
 exact⟨q1,q2,h1,by simpa using h2⟩
end
theorem xW (k:List Fg):(zu k).length<=1+(CI k).length:=by
 have h1:(zu k).length<=(y4 k).length:=List.length_filter_le _ _
 have h2:(y4 k).length=(zq k).length:=vO _
 have:=vY k
 omega
noncomputable def jq (k:List Fg):List Fg:=(zu k).map fun s=>⟨[s],qc k s.lo⟩
theorem ZB {k:List Fg} {f:Fg} (hf:f ∈ jq k):∃ s ∈ zu k,f=⟨[s],qc k s.lo⟩:=by
 obtain⟨s,hs,e⟩:=List.mem_map.1 hf
 exact⟨s,hs,e.symm⟩
def xh (k:List Fg):Prop:=k.Pairwise fun f g=>∀ x,x<zk->¬(mem f.items x=true/\mem g.items x=true)
theorem IK.refine {C:Nat->List Nat} {R:List Nat} {k:List Fg} (hk:IK C R k):∀ f ∈ jq k,WV C R f.vec:=fun f hf=>by
 obtain⟨s,_,rfl⟩:=ZB hf
 exact(hk.at s.lo).1
theorem Yb {k:List Fg} (h:RightK k):RightK (jq k):=fun f hf=>by
 obtain⟨s,hs,rfl⟩:=ZB hf
 obtain⟨h1,h2,_⟩:=(yt h).1 s hs
 exact⟨qG h1 h2,(h.ik.at s.lo).1.can.right⟩
end Go.Proofs.YtopfkkogooocgaaGreat
namespace Go.Proofs.YtopfkkogooocgaaGreat
open Go.RowKit Go.Maps
attribute [-go_sem] z7
def MapS (D:DV) (S:List Nat):Prop:=IsMap D/\∀ r,has D (kR r)=decide (r ∈ S)
theorem MapS.nil:MapS (.map []) []:=⟨⟨[],rfl⟩,fun r=>by simp [has]⟩
theorem MapS.put {D:DV} {S:List Nat} (h:MapS D S) (r:Nat) (v:DV):MapS (D.put (kR r) v) (S++[r]):=by
 refine⟨h.1.put _ _,fun s=>?_⟩
 by_cases e:s=r
 ·subst e
  rw [has_put_same h.1 (Qc _)];simp
 ·rw [has_put_other (fun h=>e (Xa h)),h.2 s];simp [e]
def MI (B:Nat) (w:World) (S:List Nat):Prop:=∃ D,w.ownsMap Tryz.prog 33 rV B S.length D/\MapS D S
theorem MI.made (w:World):MI w.heap.size (w.alloc (.map #[] 0)) []:=⟨_,World.ownsMap_made _ _ _ _,MapS.nil⟩
theorem MI.keep {B:Nat} {w w':World} {S:List Nat} (h:MI B w S) (hb:w'.heap[B]? = w.heap[B]?):MI B w' S:=by
 obtain⟨D,h1,h2⟩:=h
 exact⟨D,yg h1 hb,h2⟩
theorem MI.lt {B:Nat} {w:World} {S:List Nat} (h:MI B w S):B<w.heap.size:=by
 obtain⟨D,h1,_⟩:=h
 exact h1.lt
theorem xe {w:World} {ops:Array Oper} {rest:List Oper} {o:Oper} {a:Act} {Q:Exit->Act->World->Prop} (hg:o.guard=none) (m x v:Operand)
 (hop:o.op=.mapUpdate 56 m x v\/o.op=.insert 56 m x v) {B:Nat} {S:List Nat} (hm:a.eval m=.map (some B)) (h:MI B w S) (hn:S.length<maxLen) {r:Nat} (hr:r<zk) (hx:a.eval x=.int .u64 (r:Nat))
 (hK:∀ w',MI B w' (S++[r])->w.grownBy w' (some B)->wpList Tryz.prog ops Q rest (a.put o.dst undef) w'):wpList Tryz.prog ops Q (o::rest) a w:=by
 obtain⟨D,h1,h2⟩:=h
 refine wpList_plain hg fun K' hK'=>?_
 obtain⟨w',hrun,r1,r2⟩:=h1.update vF Tryz.underlying56 hn (Zq hr) (val:=a.eval v) rfl
 unfold Oper.wp
 rcases hop with hop | hop
 ·simp [execOp,hop,hm,hx,hrun,Result.andThen]
  exact hK' _ _ (hK w' ⟨_,by simpa using r1,h2.put r _⟩ r2)
 ·simp [execOp,hop,hm,hx,hrun,Result.andThen]
  exact hK' _ _ (hK w' ⟨_,by simpa using r1,h2.put r _⟩ r2)
def rdG (n0:Nat) (w:World) (b o:Nat) (f:Fg):Prop:=(∃ hv,w.cell? ⟨b,o,none⟩=some hv/\RdR 0 n0 w hv f.items)/\∃ ad n c,w.cell? ⟨b,o+1,none⟩=some (.slice ad n c)
theorem ze3 {D:Nat->Nat->Prop} {w:World} {x:Value} {k:List Fg} (h:Dat D w x (kp k)) (hD:∀ b o,D b o->b<w.heap.size) (hb:RightK k):RdSl 2 (rdG w.heap.size) 0 w.heap.size w x k:=by
 unfold kp at h
 generalize he:k.map fc=es at h
 cases h with
 | sl a cap sz es o b off u hc hz hm ha hsz hd hx=>
   have hl:es.length=k.length:=by rw [<-he];simp
   refine⟨a,cap,by rw [hl],by omega,hm,fun hne=>?_⟩
   have hpos:0<k.length:=List.length_pos_iff.2 hne
   have g:∀ i (h:i<k.length),es[i]? = some (fc k[i]):=fun i h=>by rw [<-he];exact xo h
   obtain rfl:2=sz:=hsz 0 _ (g 0 hpos)
   have hes:es≠[]:=by intro e;subst e;simp at hl;omega
   have hdlt:b<w.heap.size:=hD _ _ (hd 0 (by omega)).1
   refine⟨b,off,ha hes,Nat.zero_le _,hdlt,fun i hi=>?_⟩
   have e0:=hx i _ 0 _ (g i hi) rfl
   have e1:=hx i _ 1 _ (g i hi) rfl
   have c0:=(hd (i * 2+0) (by omega)).2.1
   have c1:=(hd (i * 2+1) (by omega)).2.1
   obtain⟨ad,c,sz',b',off',f',q,_⟩:=(Rel.dat (ρ:=fun _=>0) (nb:=0) (show Dat D w (u (i * 2+1)) (.sl (k[i].vec.map ec) .sh) from e1)).inv_sl
   rw [q] at c1
   exact⟨⟨_,c0,je e0 hD (hb _ (List.getElem_mem hi)).1.lt⟩,_,_,_,c1⟩
theorem RdG.keep {n0:Nat} {w w':World} {v:Value} {k:List Fg} (h:RdSl 2 (rdG n0) 0 n0 w v k) (hb:∀ j,j<n0->w'.heap[j]? = w.heap[j]?):RdSl 2 (rdG n0) 0 n0 w' v k:=
 RdSl.keep h (Nat.le_refl _) (Nat.le_refl _) fun b o x _ h2 ⟨⟨hv,c0,c1⟩,ad,n,c,c2⟩=>
  ⟨⟨hv,(World.cell?_of_block (a:=⟨b,o,none⟩) (hb b h2)).trans c0,c1.keep (Nat.le_refl _) (Nat.le_refl _) fun b _ h=>hb b h⟩,ad,n,c,(World.cell?_of_block (a:=⟨b,o+1,none⟩) (hb b h2)).trans c2⟩
theorem Ky {k:List Fg} {i:Nat} (hi:i<k.length):CI (k.take (i+1))=CI (k.take i)++z6 k[i].items:=by
 unfold CI
 rw [List.take_succ_eq_append_getElem hi,List.flatMap_append]
 simp
theorem zaV {l:List Iv} {j:Nat} (hj:j<l.length):z6 (l.take (j+1))=z6 (l.take j)++jQ l[j]:=by
 unfold z6
 rw [List.take_succ_eq_append_getElem hj,List.flatMap_append]
 simp
theorem ze0 {s:Iv} (h:s.hi=zk - 1):jQ s=[s.lo]:=by unfold jQ;rw [if_neg (by omega)]
theorem zcz {s:Iv} (h:s.hi<zk - 1):jQ s=[s.lo]++[s.hi+1]:=by unfold jQ;rw [if_pos h];rfl
theorem zfO (w:World):Calls Tryz.prog 28 #[.int .u64 18446744073709551615] w fun e w'=>e=.returned (.tuple #[.int .u64 0,.bool false])/\w'=w:=by
 go_enter Tryz.func28,Tryz.ntmps28
 go_wp2
 all_goals (refine bodyPost_ret (results_tmp2 rfl _ _ _) rfl ?_;refine⟨?_,rfl⟩;simp;try omega)
theorem zdr (x:Nat) (hx:x<18446744073709551615) (w:World):Calls Tryz.prog 28 #[.int .u64 (x:Nat)] w fun e w'=>e=.returned (.tuple #[.int .u64 ((x:Int)+1),.bool true])/\w'=w:=by
 go_enter Tryz.func28,Tryz.ntmps28
 go_wp2
 all_goals (refine bodyPost_ret (results_tmp2 rfl _ _ _) rfl ?_;refine⟨?_,rfl⟩;simp;try omega)
theorem zgc (w:World):Calls Tryz.prog 29 #[.int .u64 0] w fun e w'=>e=.returned (.tuple #[.int .u64 0,.bool false])/\w'=w:=by
 go_enter Tryz.func29,Tryz.ntmps29
 go_wp2
 all_goals (refine bodyPost_ret (results_tmp2 rfl _ _ _) rfl ?_;refine⟨?_,rfl⟩;simp;try omega)
theorem VH (x:Nat) (hx:x<18446744073709551615) (w:World):Calls Tryz.prog 29 #[.int .u64 ((x:Int)+1)] w fun e w'=>e=.returned (.tuple #[.int .u64 (x:Nat),.bool true])/\w'=w:=by
 go_enter Tryz.func29,Tryz.ntmps29
 go_wp2
 all_goals (refine bodyPost_ret (results_tmp2 rfl _ _ _) rfl ?_;refine⟨?_,rfl⟩;simp;try omega)
def RgS (B r n:Nat) (S:List Nat) (keep:Nat->Bool) (g:Nat) (left:Lit->Bool) (w:World):Prop:=
 ∃ D,w.ranges Tryz.prog 33 rV B r n D left g/\IsMap D/\(∀ x,has D (kR x)=(decide (x ∈ S) && (left (kR x) || keep x)))/\∀ x,left (kR x)=true->x ∈ S
def GotS (S:List Nat) (left:Lit->Bool) (l:List Nat):Prop:=l.Nodup/\∀ x,x ∈ l ↔ x ∈ S/\left (kR x)=false
theorem zay {left:Lit->Bool} {r x:Nat}:(left (kR r) && !(kR r).sameKey (kR x))=(left (kR r) && !decide (r=x)):=by
 have h:(kR r).sameKey (kR x)=decide (r=x):=by
  simp [kR,Lit.sameKey]
  omega
 rw [h]
section
variable {B r n g x:Nat} {S:List Nat} {kp:Nat->Bool} {left:Lit->Bool} {w:World} {D:DV}
theorem RgS.next (hD:IsMap D) (hh:∀ y,has D (kR y)=(decide (y ∈ S) && (left (kR y) || kp y))) (hl:∀ y,left (kR y)=true->y ∈ S) (hx:left (kR x)=true) (hk:kp x=true)
 (h:w.ranges Tryz.prog 33 rV B r n D (fun z=>left z && !z.sameKey (kR x)) g):RgS B r n S kp g (fun z=>left z && !z.sameKey (kR x)) w:=by
 refine⟨D,h,hD,fun y=>?_,fun y hy=>hl y ?_⟩
 ·dsimp only
  rw [hh y,zay]
  by_cases e:y=x
  ·subst e;simp [hk]
  ·simp [e]
 ·dsimp only at hy
  cases h0:left (kR y) with
  | true=>rfl
  | false=>rw [h0] at hy;simp at hy
theorem RgS.del (hD:IsMap D) (hh:∀ y,has D (kR y)=(decide (y ∈ S) && (left (kR y) || kp y))) (hl:∀ y,left (kR y)=true->y ∈ S) (hk:kp x=false)
 (h:w.ranges Tryz.prog 33 rV B r n (D.del (kR x)) (fun z=>(left z && !z.sameKey (kR x)) && !z.sameKey (kR x)) g):RgS B r n S kp g (fun z=>left z && !z.sameKey (kR x)) w:=by
 rw [Maps.strike_twice] at h
 refine⟨_,h,hD.del _,fun y=>?_,fun y hy=>hl y ?_⟩
 ·dsimp only
  rw [zay]
  by_cases e:y=x
  ·subst e;rw [has_del_same];simp [hk]
  ·rw [has_del_other (fun h=>e (Xa h)),hh y];simp [e]
 ·dsimp only at hy
  cases h0:left (kR y) with
  | true=>rfl
  | false=>rw [h0] at hy;simp at hy
theorem RgS.keep {w':World} (h:RgS B r n S kp g left w) (hb:w'.heap[B]? = w.heap[B]?) (hr:w'.heap[r]? = w.heap[r]?):RgS B r n S kp g left w':=by
 obtain⟨D,h1,h2⟩:=h
 exact⟨D,yD h1 hb hr,h2⟩
theorem GotS.nil (h:∀ y,left (kR y)=true ↔ y ∈ S):GotS S left []:=
 ⟨List.nodup_nil,fun y=>by
  constructor
  ·intro h;cases h
  ·rintro⟨h1,h2⟩
   rw [(h y).2 h1] at h2
   cases h2⟩
theorem GotS.push {l:List Nat} (h:GotS S left l) (hx:left (kR x)=true) (hS:x ∈ S):GotS S (fun z=>left z && !z.sameKey (kR x)) (l++[x]):=by
 refine⟨List.nodup_append.2 ⟨h.1,by simp,fun a ha b hb e=>?_⟩,fun y=>?_⟩
 ·rw [List.mem_singleton] at hb
  rw [e,hb] at ha
  have:=((h.2 x).1 ha).2
  rw [hx] at this
  cases this
 ·dsimp only
  rw [QM,List.mem_append,List.mem_singleton,h.2 y]
  constructor
  ·rintro(⟨h1,h2⟩ | rfl)
   ·exact⟨h1,.inl h2⟩
   ·exact⟨hS,.inr rfl⟩
  ·rintro⟨h1,h2 | h2⟩
   ·exact .inl ⟨h1,h2⟩
   ·exact .inr h2
end
def kpB (k:List Fg) (x:Nat):Bool:=decide (x=0) || !decide (zU k (x - 1)=zU k x)
theorem Yd {k:List Fg} (hr:RightK k) {l:List Nat} (hp:l.Pairwise (·<=·)) (hn:l.Nodup) (hm:∀ x,x ∈ l ↔ x ∈ 0::CI k/\(x=0\/zU k (x - 1)≠zU k x)):l=zq k:=by
 have ha:YN l:=by
  refine(List.pairwise_and_iff.2 ⟨hp,hn⟩).imp ?_
  intro a b h
  have:=h.1
  have:=h.2
  omega
 refine jK ha (xc k) fun x=>?_
 rw [hm,zq,List.mem_filter,zH,qr,yU]
 have e1:(k.map Fg.items).flatMap z6=CI k:=by unfold CI;rw [List.flatMap_map]
 rw [e1]
 simp only [Bool.or_eq_true,decide_eq_true_eq,Bool.not_eq_true']
 refine and_congr_right fun _=>or_congr_right ?_
 rw [ne_eq,Vp,Bool.not_eq_true]
def MemV (C:Nat->Nat->Prop) (l:List Nat) (u:Value) (w:World):Prop:=∃ D:Nat->Nat->Prop,(∀ b o,C b o->D b o)/\(∀ b o,D b o->b<w.heap.size)/\Dat D w u (is l)
theorem MemV.stab {C:Nat->Nat->Prop} {l:List Nat} (u:Value) (w w':World) (h:MemV C l u w) (hk:Keep qe w w'):MemV C l u w':=by
 obtain⟨D,h1,h2,h3⟩:=h
 exact⟨D,h1,fun b o hd=>Nat.lt_of_lt_of_le (h2 b o hd) hk.size,h3.mono (fun _ _ h=>h) fun b o x hd hx=>(World.cell?_of_block (a:=⟨b,o,none⟩) (hk.block b (h2 b o hd) id)).trans hx⟩
theorem Xg {C:Nat->Nat->Prop} {w0 w:World} {k:List Fg} {v:Value} (x:Nat) (hr:RightK k) (hz:SzK k) (hkl:k.length<=1073741824) (hd:Dat C w0 v (kp k)) (hC:∀ b o,C b o->b<w0.heap.size) (hG:GL C w0) (hb:Below w0.heap.size w0 w) :
 Calls Tryz.prog 31 #[v,.int .u64 (x:Nat)] w fun e w'=>∃ u,e=.returned u/\Below w.heap.size w w'/\MemV C (zU k x) u w':=by
 have hw:∀ b o y,C b o->w0.cell? ⟨b,o,none⟩=some y->w.cell? ⟨b,o,none⟩=some y:=fun b o y hc hy=>(World.cell?_of_block (a:=⟨b,o,none⟩) (hb.block b (hC b o hc))).trans hy
 have hC':∀ b o,C b o->b<w.heap.size:=fun b o h=>Nat.lt_of_lt_of_le (hC b o h) hb.size
 refine(jP (K9 k x hr hz hkl) (hG.mono (fun _ _ h=>h) hw) hC' (vs:=#[v,.int .u64 (x:Nat)]) rfl (fun i p hp=>by
  match i,hp with
  | 0,hp=>cases hp;exact hd.mono (fun _ _ h=>h) hw
  | 1,hp=>cases hp;exact .v _
  | i+2,hp=>simp at hp)).mono ?_
 rintro e w' ⟨u,rfl,hb',hd'⟩
 exact⟨u,rfl,hb',_,fun b o h=>.inl h,fun b o h=>h.elim (fun h=>Nat.lt_of_lt_of_le (hC' b o h) hb'.size) And.right,hd'⟩
theorem zgP {C:Nat->Nat->Prop} {w0 w:World} {a b:List Nat} {u v:Value} (r:Bool) (hr:decide (a=b)=r) (ha:a.length<=1152921504606846976) (hC:∀ b o,C b o->b<w0.heap.size) (hG:GL C w0) (hb:Below w0.heap.size w0 w) (hu:MemV C a u w) (hv:MemV C b v w) :
 Calls Tryz.prog 30 #[u,v] w fun e w'=>e=.returned (.bool r)/\Below w.heap.size w w':=by
 subst hr
 obtain⟨D1,p1,p2,p3⟩:=hu
 obtain⟨D2,q1,q2,q3⟩:=hv
 have hw:∀ b o y,C b o->w0.cell? ⟨b,o,none⟩=some y->w.cell? ⟨b,o,none⟩=some y:=fun b o y hc hy=>(World.cell?_of_block (a:=⟨b,o,none⟩) (hb.block b (hC b o hc))).trans hy
 refine(jP (D:=fun b o=>D1 b o\/D2 b o) (zjX a b ha) (hG.mono (fun b o h=>.inl (p1 b o h)) hw) (fun b o h=>h.elim (p2 b o) (q2 b o)) (vs:=#[u,v]) rfl (fun i p hp=>by
  match i,hp with
  | 0,hp=>cases hp;exact p3.mono (fun _ _ h=>.inl h) fun _ _ _ _ h=>h
  | 1,hp=>cases hp;exact q3.mono (fun _ _ h=>.inr h) fun _ _ _ _ h=>h
  | i+2,hp=>simp at hp)).mono ?_
 rintro e w' ⟨r,rfl,hb',hd'⟩
 rw [hd'.v_inv]
 exact⟨rfl,hb'⟩
theorem XJ {k:List Fg} (i:Nat):(CI (k.take i)).length<=(CI k).length:=by
 have:CI k=CI (k.take i)++CI (k.drop i):=by unfold CI;rw [<-List.flatMap_append,List.take_append_drop]
 rw [this,List.length_append];omega
theorem Q0 {l:List Iv} (j:Nat):(z6 (l.take j)).length<=(z6 l).length:=by
 have:z6 l=z6 (l.take j)++z6 (l.drop j):=by unfold z6;rw [<-List.flatMap_append,List.take_append_drop]
 rw [this,List.length_append];omega
theorem XD (C:Nat->Nat->Prop) (k:List Fg) (vk:Value) (w:World) (hr:RightK k) (hz:SzK k) (hkl:k.length<=1073741824) (hT:(CI k).length<=1000000) (rk:Dat C w vk (kp k)) (hC:∀ b o,C b o->b<w.heap.size) (hG:GL C w) :
 Calls Tryz.prog 15 #[vk] w fun e w'=>∃ v,e=.returned v/\Below w.heap.size w w'/\OwnU w.heap.size w' v (zq k):=by
 have hmm:=@run_makeMap Tryz.prog
 have rg:=ze3 rk hC hr
 have RK:=Lib.hid rk
 have RG:=Lib.hid rg
 have HR:=Lib.hid hr
 have HGL:=Lib.hid hG
 obtain⟨aa,ca,rfl,hac,ham,_⟩:=rg
 unfold maxLen at ham
 clear rk hG
 have tokA:True:=trivial
 go_enter Tryz.func15,Tryz.ntmps15
 go_wp2_with (first
  | (have _t:=tokA;refine xe rfl _ _ _ (.inr rfl) rfl (MI.made w) (by decide) (r:=0) xM rfl ?_;clear tokA;intro w1 hmi hg1;dsimp only [Act.put])
  | go_in)
 have hs1:w.heap.size<w1.heap.size:=hmi.lt
 have HB1:Hid (Below w.heap.size w w1):=Lib.hid (((Below.refl _ w).alloc (Nat.le_refl _) (.map #[] 0)).grown hg1 (by simp) fun j hj=>by cases hj;exact Nat.le_refl _)
 have HM1:=Lib.hid hmi
 clear hmi hg1
 go_wp2_with fail
 go_loopg [19] k.length (fun g x wr=>∃ i,i<=k.length/\g=k.length - i/\x=.int .i64 i/\MI w.heap.size wr (0::CI (k.take i))/\Below w.heap.size w wr)
 case atStart=>exact⟨0,Nat.zero_le _,rfl,rfl,by simpa [CI] using HM1.out,HB1.out⟩
 case round=>
  obtain⟨i,hi,rfl,rfl,hmi,hB⟩:=hrel
  clear HM1 HB1 hs1
  have HMI:=Lib.hid hmi
  have HB:=Lib.hid hB
  clear hmi hB
  by_cases hlt:i<k.length
  ·obtain⟨a',cap',hav,_,_,hcl⟩:=id RG.out
   obtain⟨bb,off,hab,_,hbn,hcel⟩:=hcl (by intro e;subst e;simp at hlt)
   obtain⟨rfl,_,rfl⟩:aa=a'/\k.length=k.length/\ca=cap':=by simpa using hav
   subst hab
   obtain⟨⟨hv,c0,hrr⟩,av,nv,cv,c1⟩:=hcel i hlt
   replace c0:=(HB.out.cell (p:=⟨bb,off+i * 2,none⟩) hbn).trans c0
   replace c1:=(HB.out.cell (p:=⟨bb,off+i * 2+1,none⟩) hbn).trans c1
   have HE:Hid (∃ f,f=k[i]):=⟨_,rfl⟩
   obtain⟨f,hf⟩:=HE.out
   rw [<-hf] at hrr
   have HF:=Lib.hid hf
   have hfr:ZS f:=by rw [hf];exact hr _ (List.getElem_mem hlt)
   have HFR:=Lib.hid hfr
   obtain⟨ai,ci,rfl,hic,him,_⟩:=id hrr
   have HRR:=Lib.hid hrr
   have hlen:(CI (k.take i)).length+(z6 f.items).length<=1000000:=by
    have:=XJ (k:=k) (i+1)
    rw [Ky hlt,<-hf,List.length_append] at this
    omega
   clear hcl hcel hav hrr hf HE hfr
   unfold maxLen at him
   obtain⟨wo,hwo⟩:∃ wo,wo=wr:=⟨_,rfl⟩
   subst hwo
   go_wp2_with fail
   go_loopg [26] f.items.length (fun g x wq=>∃ j,j<=f.items.length/\g=f.items.length - j/\x=.int .i64 j/\MI w.heap.size wq (0::CI (k.take i)++z6 (f.items.take j))/\Below w.heap.size w wq)
   case atStart=>exact⟨0,Nat.zero_le _,rfl,rfl,by simpa [z6] using HMI.out.keep (Below.heap_alloc _ _ _ HMI.out.lt),HB.out.alloc HB.out.size _⟩
   case round=>
    obtain⟨j,hj,rfl,rfl,hmq,hbq⟩:=hrel
    have HMQ:=Lib.hid hmq
    have HBQ:=Lib.hid hbq
    clear HMI hmq hbq
    by_cases hjl:j<f.items.length
    ·obtain⟨a',cap',hav,_,_,hcl⟩:=HRR.out.keep (w':=wr) (Nat.le_refl _) (Nat.le_refl _) fun b _ h=>HBQ.out.block b h
     obtain⟨bi,oi,hab,_,hbn,hcel⟩:=hcl (by intro e;rw [e] at hjl;simp at hjl)
     obtain⟨rfl,_,rfl⟩:ai=a'/\f.items.length=f.items.length/\ci=cap':=by simpa using hav
     subst hab
     obtain⟨d0,d1,l0,l1⟩:=hcel j hjl
     obtain⟨s,hs⟩:∃ s,s=f.items[j]:=⟨_,rfl⟩
     have hle:s.lo<=s.hi/\s.hi<zk:=by rw [hs];exact HFR.out.1.ivs2 _ (List.getElem_mem hjl)
     have hct:=zaV hjl
     have hcl2:=Q0 (l:=f.items) (j+1)
     rw [<-hs] at d0 d1 l0 l1 hct
     rw [hct,List.length_append] at hcl2
     have HCT:=Lib.hid hct
     clear hcl hcel hav hs hct
     have tokB:True:=trivial
     have tokC:True:=trivial
     by_cases hlast:s.hi=zk - 1
     ·have hc1:=ze0 hlast
      have hh:((s.hi:Nat):Int)=18446744073709551615:=by rw [hlast,zw];rfl
      rw [hh] at d1
      have HC1:=Lib.hid hc1
      clear hc1 hlast hh
      have hBl:=HMQ.out.lt
      go_wp2_with (first
       | (at_mapUpdate;have _t:=tokB;refine xe rfl _ _ _ (.inl rfl) rfl (HMQ.out.keep (Below.heap_alloc _ _ _ HMQ.out.lt)) (by simp;unfold maxLen;omega) (r:=s.lo) l0 rfl ?_;clear tokB;intro w2 hm2 hg2
          have hx2:w2.heap[wr.heap.size]? = some (.cells #[.int .u64 s.lo,.int .u64 18446744073709551615] 35 (0,0)):=(hg2.block _ (by simp) (by simp;omega)).trans (World.alloc_heap_new _ _)
          have f2:=(zW hx2 1 _ rfl).1
          have HM2:=Lib.hid hm2;have HG2:=Lib.hid hg2;clear hm2 hg2 hx2;dsimp only [Act.put])
       | (go_at_call 28;refine(zfO _).mono ?_;rintro e w' ⟨rfl,rfl⟩)
       | go_in)
      go_roundg (f.items.length - (j+1))
      case measure=>omega
      case rel=>
       refine⟨j+1,hjl,rfl,by simp,?_,((HBQ.out.alloc HBQ.out.size _).grown HG2.out (by simp;have:=HBQ.out.size;omega) fun j hj=>by cases hj;exact Nat.le_refl _)⟩
       rw [HCT.out,HC1.out,<-List.append_assoc];exact HM2.out
     ·obtain⟨y,hy⟩:∃ y,s.hi=y:=⟨_,rfl⟩
      have hM:=zw
      have hc1:=zcz (s:=s) (by omega)
      rw [hy] at d1 hc1 hlast hle l1
      have HC1:=Lib.hid hc1
      have hy64:y<18446744073709551615:=by omega
      have hy65:y+1<zk:=by omega
      rw [hc1,List.length_append] at hcl2
      simp at hcl2
      clear hc1 hlast hy hM
      have hBl:=HMQ.out.lt
      go_wp2_with (first
       | (at_mapUpdate;have _t:=tokB;refine xe rfl _ _ _ (.inl rfl) rfl (HMQ.out.keep (Below.heap_alloc _ _ _ HMQ.out.lt)) (by simp;unfold maxLen;omega) (r:=s.lo) l0 rfl ?_;clear tokB;intro w2 hm2 hg2
          have hx2:w2.heap[wr.heap.size]? = some (.cells #[.int .u64 s.lo,.int .u64 y] 35 (0,0)):=(hg2.block _ (by simp) (by simp;omega)).trans (World.alloc_heap_new _ _)
          have f2:=(zW hx2 1 _ rfl).1
          have HM2:=Lib.hid hm2;have HG2:=Lib.hid hg2;clear hm2 hg2 hx2;dsimp only [Act.put])
       | (go_at_call 28;refine(zdr y hy64 _).mono ?_;rintro e w' ⟨rfl,rfl⟩)
       | (at_mapUpdate;have _t:=tokC;refine xe rfl _ _ _ (.inl rfl) rfl HM2.out (by simp;unfold maxLen;omega) (r:=y+1) hy65 rfl ?_;clear tokC;intro w3 hm3 hg3;have HM3:=Lib.hid hm3;have HG3:=Lib.hid hg3;clear hm3 hg3;dsimp only [Act.put])
       | go_in)
      go_roundg (f.items.length - (j+1))
      case measure=>omega
      case rel=>
       refine⟨j+1,hjl,rfl,by simp,?_,((HBQ.out.alloc HBQ.out.size _).grown HG2.out (by simp;have:=HBQ.out.size;omega) fun j hj=>by cases hj;exact Nat.le_refl _).grown HG3.out (by have:=HBQ.out.size;have:=HG2.out.size;simp at this;omega) fun j hj=>by cases hj;exact Nat.le_refl _⟩
       have:=HM3.out
       rw [HCT.out,HC1.out]
       simpa using this
    ·obtain rfl:j=f.items.length:=by omega
     rw [List.take_length] at HMQ
     go_wp2_with fail
     go_roundg (k.length - (i+1))
     case measure=>omega
     case rel=>
      refine⟨i+1,hlt,rfl,by simp,?_,HBQ.out⟩
      rw [Ky hlt,<-HF.out]
      exact HMQ.out
  ·obtain rfl:i=k.length:=by omega
   rw [List.take_length] at HMI
   obtain⟨S,hS⟩:∃ S,S=0::CI k:=⟨_,rfl⟩
   rw [<-hS] at HMI
   have hSl:S.length<=1000001:=by rw [hS];simp;omega
   have HS:=Lib.hid hS
   clear hS
   obtain⟨D,hown,hms⟩:=HMI.out
   have hBl:=hown.lt
   have HO:=Lib.hid hown
   have HMS:=Lib.hid hms
   clear hown hms
   obtain⟨wo,hwo⟩:∃ wo,wo=wr:=⟨_,rfl⟩
   subst hwo
   have tokB:True:=trivial
   go_wp2_with (first
    | (at_range;have _t:=tokB;refine wpList_range_own _ rfl _ 56 rfl 33 4 vF Tryz.underlying56 rV w.heap.size S.length D rfl HO.out ?_;intro w2 hrg2 hg2 hs2;clear tokB)
    | go_in)
   go_frame
   have HR2:Hid (RgS w.heap.size wo.heap.size S.length S (kpB k) (Maps.size D) (Maps.has D) w2):=Lib.hid ⟨D,hrg2,HMS.out.1,fun x=>by rw [HMS.out.2 x];simp;exact .inl,fun x h=>by rw [HMS.out.2 x] at h;simpa using h⟩
   have HB2:Hid (Below w.heap.size w w2):=Lib.hid (HB.out.grown hg2 HB.out.size fun j hj=>by cases hj)
   clear hrg2 hg2 HO HMI HMS
   go_loopg [] (Maps.size D) (fun g wr=>∃ left,RgS w.heap.size wo.heap.size S.length S (kpB k) g left wr/\Below w.heap.size w wr)
   case atStart=>exact⟨_,HR2.out,HB2.out⟩
   case round=>
    obtain⟨left,hrs,hB3⟩:=hrel
    obtain⟨D3,hrg,hIM,hhas,hlf⟩:=hrs
    have HRG:=Lib.hid hrg
    have HIM:=Lib.hid hIM
    have HHS:=Lib.hid hhas
    have HLF:=Lib.hid hlf
    have HB3:=Lib.hid hB3
    clear hrg hIM hhas hlf hB3 HR2 HB2
    go_wp2_with (first
     | (at_next;refine wpList_next_ranges _ rfl _ rfl 33 vF rV (fun r:{r:Nat // r<zk}=>Value.int .u64 (r.1:Nat)) (fun c:Value=>c) zhV (fun v y _=>⟨v,rfl⟩) w.heap.size wo.heap.size S.length D3 left gk rfl HRG.out ?_ ?_)
     | go_in)
    ·intro hc0 hl0
     obtain⟨wl,hwl⟩:∃ wl,wl=wr:=⟨_,rfl⟩
     subst hwl
     obtain⟨S2,hS2⟩:∃ S2,S2=S.filter (kpB k):=⟨_,rfl⟩
     have hms2:∀ y,has D3 (kR y)=decide (y ∈ S2):=fun y=>by rw [HHS.out y,hl0,hS2,Bool.false_or];simp [List.mem_filter]
     have hS2l:S2.length<=1000001:=by have:=List.length_filter_le (kpB k) S;rw [<-hS2] at this;omega
     have HM2:=Lib.hid hms2
     have HS2:=Lib.hid hS2
     have hown:=HRG.out.owns
     have HO:=Lib.hid hown
     have hwlw:w.heap.size<wl.heap.size:=hown.lt
     clear hms2 hS2 hown hl0 hc0
     have tokG:True:=trivial
     go_wp2_with (first
      | (at_range;have _t:=tokG;refine wpList_range_own _ rfl _ 56 rfl 33 4 vF Tryz.underlying56 rV w.heap.size S.length D3 rfl HO.out ?_;intro w5 hrg5 hg5 hs5;clear tokG)
      | go_in)
     go_frame
     have HR5:=Lib.hid hrg5
     have HB5:Hid (Below w.heap.size w w5):=Lib.hid (HB3.out.grown hg5 HB3.out.size fun j hj=>by cases hj)
     have hs5':wl.heap.size+1<=w5.heap.size:=by omega
     clear hrg5 hg5
     go_loopg [13] (Maps.size D3) (fun g v wr=>∃ left l,wr.ranges Tryz.prog 33 rV w.heap.size wl.heap.size S.length D3 left g/\GotS S2 left l/\(∀ y,left (kR y)=true->y ∈ S2)/\OwnU (wl.heap.size+1) wr v l/\Below w.heap.size w wr)
     case atStart=>exact⟨_,[],HR5.out,GotS.nil fun y=>by rw [HM2.out y,decide_eq_true_iff],fun y h=>by rw [HM2.out y] at h;simpa using h,World.ownsRow_nil _ _ _ _,HB5.out⟩
     case round=>
      obtain⟨left2,l,hrg,hgot,hlf,hown,hB6⟩:=hrel
      have HRG6:=Lib.hid hrg
      have HGT:=Lib.hid hgot
      have HLF6:=Lib.hid hlf
      have HOW:=Lib.hid hown
      have HB6:=Lib.hid hB6
      have hll:l.length<=1000001:=Nat.le_trans (qM l S2 hgot.1 fun y hy=>((hgot.2 y).1 hy).1) hS2l
      have hrs6:=hrg.lt
      obtain⟨ad,cap,rfl,hlc,hcm,_⟩:=hown.shape
      unfold maxLen at hcm
      clear hrg hgot hlf hown hB6 HR5 HB5
      go_wp2_with (first
       | (at_next;refine wpList_next_ranges _ rfl _ rfl 33 vF rV (fun r:{r:Nat // r<zk}=>Value.int .u64 (r.1:Nat)) (fun c:Value=>c) zhV (fun v y _=>⟨v,rfl⟩) w.heap.size wl.heap.size S.length D3 left2 gk rfl HRG6.out ?_ ?_)
       | go_in)
      ·intro hc0 hl0
       have hmem:∀ y,y ∈ l ↔ y ∈ S2:=fun y=>by rw [HGT.out.2 y,hl0];simp
       have h0l:0 ∈ l:=(hmem 0).2 (by rw [HS2.out,List.mem_filter,HS.out];exact⟨by simp,by simp [kpB]⟩)
       have hlne:l≠[]:=fun e=>by rw [e] at h0l;cases h0l
       obtain⟨l',hperm,hpw,hcall⟩:=zeb HOW.out hlne (by omega)
       have hfin:l'=zq k:=Yd hr hpw (hperm.nodup_iff.2 HGT.out.1) fun y=>by
        rw [hperm.mem_iff,hmem,HS2.out,HS.out,List.mem_filter]
        refine and_congr_right fun _=>?_
        simp [kpB]
       have hob:∀ j,(Value.slice ad l.length cap).ownBlock=some j->wl.heap.size+1<=j:=fun j hj=>(HOW.out.lt j hj).1
       have HFN:=Lib.hid hfin
       have HCL:=Lib.hid hcall
       have HOB:=Lib.hid hob
       clear hmem h0l hlne hperm hpw hfin hcall hl0 hc0 hob
       have tokH:True:=trivial
       go_wp2_with (first
        | (go_at_call 32;have _t:=tokH;refine HCL.out.mono ?_;rintro e w9 ⟨rfl,ho9,hg9⟩;have HO9:=Lib.hid ho9;have HG9:=Lib.hid hg9;clear ho9 hg9 tokH)
        | go_in)
       refine bodyPost_ret (results_tmp rfl _ _ _) rfl ?_
       exact⟨_,rfl,HB6.out.grown HG9.out HB6.out.size fun j hj=>by have:=HOB.out j hj;omega,by rw [<-HFN.out];exact HO9.out.base (by omega)⟩
      ·intro x hx c kl y ys w7 cnt7 hkey hlk hv hat hrg7 hlt7 hg7 hs7 hen
       try dsimp only at hkey hen ⊢
       obtain rfl:kl=kR x:=by
        have:=(Zq hx).symm.trans hkey
        simpa using this.symm
       have HRG7:=Lib.hid hrg7
       have HG7:=Lib.hid hg7
       have HS7:=Lib.hid hs7
       have hs7w:wl.heap.size+1<=w7.heap.size:=by omega
       have HLK:=Lib.hid hlk
       obtain⟨i0,hi0,hz0,hz1,hz2⟩:=info_parts Vf
       have HO7:Hid (OwnU (wl.heap.size+1) (w7.alloc (.cells #[.int .u64 (x:Nat)] 33)) (.slice ad l.length cap) l):=Lib.hid (HOW.out.keep fun g hg=>by
        have h1:=HOW.out.lt g hg
        rw [Below.heap_alloc _ _ _ (by rw [HS7.out];exact h1.2),HG7.out.block g h1.2 (fun e=>by cases e;omega)])
       have hnb:=World.alloc_heap_new w7 (.cells #[.int .u64 (x:Nat)] 33 (0,0))
       clear hkey hv hat hrg7 hg7 hlk hs7
       have tokH:True:=trivial
       go_wp2_with (first
        | (at_builtin;have _t:=tokH;refine wpList_append_own_at _ rfl _ _ 41 rfl (wl.heap.size+1) 33 i0 (.int .u64 0) 1 8 Tryz.underlying41 hi0 hz0 hz1 hz2 rfl (by decide) _ _ _ rfl HO7.out ⟨w7.heap.size,0,none⟩ 1 1 [.int .u64 (x:Nat)] rfl rfl (kw (cs:=#[.int .u64 (x:Nat)]) (t := 33) (fr:=(0,0)) hnb) (by simp [Value.oneCell']) (by unfold maxLen;omega) (by omega) (by simp;omega) ?_;intro v' w8 ho hgr _ _;clear tokH;have HO8:=Lib.hid ho;have HG8:=Lib.hid hgr;clear ho hgr)
        | go_in)
       have hob:∀ j,(Value.slice ad l.length cap).ownBlock=some j->wl.heap.size+1<=j:=fun j hj=>(HOW.out.lt j hj).1
       have hb78:∀ j,j<wl.heap.size+1->w8.heap[j]? = w7.heap[j]?:=fun j hj=>by
        rw [HG8.out.block j (by simp;omega) (fun e=>by have:=hob j e.symm;omega),Below.heap_alloc _ _ _ (by omega)]
       go_roundg cnt7
       case measure=>exact hlt7
       case rel=>
        refine⟨_,l++[x],yD HRG7.out (hb78 _ (by omega)) (hb78 _ (by omega)),HGT.out.push HLK.out (HLF6.out _ HLK.out),fun r h=>?_,?_,?_⟩
        ·exact HLF6.out r (by cases h0:left2 (kR r) with | true=>rfl | false=>rw [h0] at h;simp at h)
        ·have:=HO8.out
         unfold OwnU
         simpa [uV] using this
        ·exact((HB6.out.grown HG7.out HB6.out.size fun j hj=>by cases hj;omega).alloc (by have:=HG7.out.size;have:=HB6.out.size;omega) _).grown HG8.out (by simp;have:=HB6.out.size;omega) fun j hj=>by have:=hob j hj;omega
    ·intro x hx c kl y ys w3 cnt3 hkey hlk hv hat hrg3 hlt hg3 hs3 hen
     try dsimp only at hkey hen ⊢
     obtain rfl:kl=kR x:=by
      have:=(Zq hx).symm.trans hkey
      simpa using this.symm
     have HRG3:=Lib.hid hrg3
     have HB4:Hid (Below w.heap.size w w3):=Lib.hid (HB3.out.grown hg3 HB3.out.size fun j hj=>by cases hj;exact HB.out.size)
     have HLK:=Lib.hid hlk
     clear hkey hv hat hrg3 hg3 hlk
     cases x with
     | zero=>
       go_wp2_with (first | (go_at_call 29;refine(zgc _).mono ?_;rintro e w' ⟨rfl,rfl⟩) | go_in)
       go_roundg cnt3
       case measure=>exact hlt
       case rel=>exact⟨_,RgS.next HIM.out HHS.out HLF.out HLK.out (by simp [kpB]) HRG3.out,HB4.out⟩
     | succ x=>
       have hx64:x<18446744073709551615:=by have:=zw;omega
       have hml:(zU k x).length<=1152921504606846976:=by
        have h1:=Zg x 0 k
        unfold zU
        rw [List.length_map]
        omega
       have tokC:True:=trivial
       have tokD:True:=trivial
       have tokE:True:=trivial
       have tokF:True:=trivial
       by_cases heq:zU k x=zU k (x+1)
       ·have HQ:=Lib.hid (show decide (zU k x=zU k (x+1))=true from decide_eq_true heq)
        have HKB:=Lib.hid (show kpB k (x+1)=false by simp [kpB,heq])
        clear heq
        go_wp2_with (first
         | (go_at_call 29;refine(VH x hx64 _).mono ?_;rintro e w' ⟨rfl,rfl⟩)
         | (go_at_call 31;have _t:=tokC;refine(Xg x hr hz hkl RK.out hC HGL.out HB4.out).mono ?_;rintro e w4 ⟨u1,rfl,hb1,hm1⟩;have HB5:=Lib.hid hb1;have HM5:=Lib.hid hm1;clear hb1 hm1 tokC)
         | (go_at_call 31;have _t:=tokD;refine(Xg (x+1) hr hz hkl RK.out hC HGL.out (HB4.out.trans (HB5.out.mono HB4.out.size))).mono ?_;rintro e w5 ⟨u2,rfl,hb1,hm1⟩;have HB6:=Lib.hid hb1;have HM6:=Lib.hid hm1;clear hb1 hm1 tokD)
         | (go_at_call 30;have _t:=tokE;refine(zgP true HQ.out hml hC HGL.out ((HB4.out.trans (HB5.out.mono HB4.out.size)).trans (HB6.out.mono ((HB4.out.trans (HB5.out.mono HB4.out.size)).size))) (HM5.out.stab _ _ _ (Keep.of_below' HB6.out (Nat.le_refl _))) HM6.out).mono ?_;rintro e w6 ⟨rfl,hb1⟩;have HB7:=Lib.hid (((Below.refl _ _).trans HB5.out).trans ((HB6.out.mono HB5.out.size).trans (hb1.mono (Nat.le_trans HB5.out.size HB6.out.size))));clear hb1 tokE)
         | (at_delete;have _t:=tokF;refine wpList_delete_ranges _ rfl _ _ 56 33 rfl 4 vF Tryz.underlying56 rV w.heap.size wo.heap.size S.length D3 _ cnt3 rfl (yD HRG3.out (HB7.out.block _ (Nat.lt_trans hBl HRG3.out.lt)) (HB7.out.block _ HRG3.out.lt)) _ (kR (x+1)) rfl (Zq hx) ?_;intro w7 cnt4 hrg7 hle7 hturn;clear tokF;have HRG7:=Lib.hid hrg7;have HG7:=Lib.hid hturn.grown;clear hrg7 hturn;dsimp only [Act.put])
         | go_in)
        go_roundg cnt4
        case measure=>omega
        case rel=>exact⟨_,RgS.del HIM.out HHS.out HLF.out HKB.out HRG7.out,(HB4.out.trans (HB7.out.mono HB4.out.size)).grown HG7.out (HB4.out.trans (HB7.out.mono HB4.out.size)).size fun j hj=>by cases hj;exact Nat.le_refl _⟩
       ·have HQ:=Lib.hid (show decide (zU k x=zU k (x+1))=false from decide_eq_false heq)
        have HKB:=Lib.hid (show kpB k (x+1)=true by simp [kpB,heq])
        clear heq
        go_wp2_with (first
         | (go_at_call 29;refine(VH x hx64 _).mono ?_;rintro e w' ⟨rfl,rfl⟩)
         | (go_at_call 31;have _t:=tokC;refine(Xg x hr hz hkl RK.out hC HGL.out HB4.out).mono ?_;rintro e w4 ⟨u1,rfl,hb1,hm1⟩;have HB5:=Lib.hid hb1;have HM5:=Lib.hid hm1;clear hb1 hm1 tokC)
         | (go_at_call 31;have _t:=tokD;refine(Xg (x+1) hr hz hkl RK.out hC HGL.out (HB4.out.trans (HB5.out.mono HB4.out.size))).mono ?_;rintro e w5 ⟨u2,rfl,hb1,hm1⟩;have HB6:=Lib.hid hb1;have HM6:=Lib.hid hm1;clear hb1 hm1 tokD)
         | (go_at_call 30;have _t:=tokE;refine(zgP false HQ.out hml hC HGL.out ((HB4.out.trans (HB5.out.mono HB4.out.size)).trans (HB6.out.mono ((HB4.out.trans (HB5.out.mono HB4.out.size)).size))) (HM5.out.stab _ _ _ (Keep.of_below' HB6.out (Nat.le_refl _))) HM6.out).mono ?_;rintro e w6 ⟨rfl,hb1⟩;have HB7:=Lib.hid (((Below.refl _ _).trans HB5.out).trans ((HB6.out.mono HB5.out.size).trans (hb1.mono (Nat.le_trans HB5.out.size HB6.out.size))));clear hb1 tokE)
         | go_in)
        go_roundg cnt3
        case measure=>exact hlt
        case rel=>exact⟨_,(RgS.next HIM.out HHS.out HLF.out HLK.out HKB.out HRG3.out).keep (HB7.out.block _ (Nat.lt_trans hBl HRG3.out.lt)) (HB7.out.block _ HRG3.out.lt),HB4.out.trans (HB7.out.mono HB4.out.size)⟩
end Go.Proofs.YtopfkkogooocgaaGreat
namespace Go.Proofs.YtopfkkogooocgaaGreat
open Go.RowKit
theorem zaG (k:List Fg) (hr:RightK k) (hz:SzK k) (hkl:k.length<=1073741824) (hT:(CI k).length<=1000000):Cn Tryz.prog 15 [kp k] (ns (zq k)):=by
 refine yZ rfl (enters_of Tryz.func15 (by kernel_rfl) rfl) fun D w vs hG hD hsz hd=>?_
 rw [KB hsz]
 refine(XD D k _ w hr hz hkl hT (hd 0 _ rfl) hD hG).mono ?_
 rintro e w' ⟨v,rfl,hb,ho⟩
 exact⟨v,rfl,hb,vL ho fun b o h1 h2=>.inr ⟨h1,h2⟩⟩
noncomputable def Vy (k:List Fg) (j:Nat):List Iv:=((y4 k).take j).filter fun s=>decide (0<(zU k s.lo).length)
theorem Vz (k:List Fg) {j:Nat} (h:(zq k).length<=j):Vy k j=zu k:=by
 unfold Vy zu
 rw [List.take_of_length_le (by unfold y4;rw [vO];exact h)]
theorem VB (k:List Fg) (j:Nat):(Vy k j).length<=j:=Nat.le_trans (List.length_filter_le _ _) (List.length_take_le _ _)
theorem YE {k:List Fg} {j:Nat} (h:j<(zq k).length):Vy k (j+1)=Vy k j++if zU k (zq k)[j]=[] then [] else [⟨(zq k)[j],if h:j+1<(zq k).length then (zq k)[j+1] - 1 else zk - 1⟩]:=by
 have hc:j<(y4 k).length:=by unfold y4;rw [vO];exact h
 unfold Vy
 rw [List.take_succ_eq_append_getElem hc,List.filter_append]
 congr 1
 have hg:(y4 k)[j]=⟨(zq k)[j],if h:j+1<(zq k).length then (zq k)[j+1] - 1 else zk - 1⟩:=Vx _ _ h
 rw [hg]
 by_cases h0:zU k (zq k)[j]=[]
 ·rw [if_pos h0];simp [h0]
 ·rw [if_neg h0];simp [List.length_pos_iff.2 h0]
theorem ZE {k:List Fg} (hr:RightK k) {j:Nat} (h:j+1<(zq k).length):1<=(zq k)[j+1]/\(zq k)[j+1]<zk:=by
 refine⟨?_,x7 hr _ (List.getElem_mem h)⟩
 have:=List.pairwise_iff_getElem.1 (xc k) j (j+1) (by omega) h (by omega)
 omega
theorem zdF (k:List Fg) (hr:RightK k) (hz:SzK k) (hkl:k.length<=1073741824) (hT:(CI k).length<=1000000):Cn Tryz.prog 17 [kp k] (rg (zu k)):=by
 have hsl:=vY k
 have hM:=zw
 refine zt Tryz.func17 1 ?_
 refine pw ?_
 refine .c (zaG k hr hz hkl hT) ?_
 refine pLoop.go (fun j=>j<=(zq k).length) (fun j=>[(3,.sl ((Vy k j).map Q2) (.r 38 2)),(12,.v (.int .i64 (j:Nat)))]) (fun _=>[]) (fun j=>(zq k).length - j) 0 [3,12] ?_ ?_ ?_
 ·exact Nat.zero_le _
 ·refine pw ?_
  rfl
 ·rintro j hj
  have hpl:=VB k j
  refine pw ?_
  refine .i ?_ ?_<;>intro h<;>(try simp only [zb] at h)<;>first | refine pw ?_ | exact pd
  ·have hst:=YE h
   have hlt:=x7 hr _ (List.getElem_mem h)
   refine pw ?_
   refine .c (K9 k (zq k)[j] hr hz hkl) ?_
   refine .i ?_ ?_<;>intro h2<;>(try simp only [zb] at h2)<;>first | refine pw ?_ | exact pd
   ·rw [if_pos h2,List.append_nil] at hst
    exact⟨j+1,h,by omega,by rw [hst],rfl⟩
   ·rw [if_neg h2] at hst
    refine .i ?_ ?_<;>intro h3<;>(try simp only [zb] at h3)<;>first | refine pw ?_ | exact pd
    ·obtain⟨n1,n2⟩:=ZE hr h3
     rw [dif_pos h3] at hst
     refine pw ?_
     refine⟨j+1,h,by omega,?_,rfl⟩
     rw [hst]
     simp [Q2]
    ·rw [dif_neg (by omega)] at hst
     refine pw ?_
     refine⟨j+1,h,by omega,?_,rfl⟩
     rw [hst]
     simp [Q2,hM]
  ·rw [Vz k (by omega)]
structure Ok12 (C:Nat->List Nat) (R:List Nat) (k:List Fg):Prop where
 r:RightK k
 z:SzK k
 l:k.length<=1048576
 t:(CI k).length<=1000000
 i:∀ f ∈ k,f.items.length<=1048576
 ik:IK C R k
 ok:OkC C R
 s:∀ f ∈ k,SmV f.vec
noncomputable def zij (k:List Fg) (s:Iv):Fg:=⟨[s],qc k s.lo⟩
theorem zil (k:List Fg) {j:Nat} (h:j<(zu k).length):((zu k).take (j+1)).map (fun s=>fc (zij k s))=((zu k).take j).map (fun s=>fc (zij k s))++[fc (zij k (zu k)[j])]:=by
 rw [List.take_succ_eq_append_getElem h,List.map_append];rfl
theorem zjf (k:List Fg) {j:Nat} (h:(zu k).length<=j):((zu k).take j).map (fun s=>fc (zij k s))=(jq k).map fc:=by
 rw [List.take_of_length_le h];unfold jq;rw [List.map_map];rfl
theorem ziJ {C:Nat->List Nat} {R:List Nat} (k:List Fg) (h12:Ok12 C R k):Cn Tryz.prog 8 [kp k] (kp (jq k)):=by
 have hpl:=xW k
 have h12t:=h12.t
 refine zt Tryz.func8 1 ?_
 refine pw ?_
 refine .c (zdF k h12.r h12.z (by have:=h12.l;omega) h12.t) ?_
 refine pLoop.go (fun j=>j<=(zu k).length) (fun j=>[(3,.sl (((zu k).take j).map (fun s=>fc (zij k s))) (.r 22 2)),(9,.v (.int .i64 (j:Nat)))]) (fun _=>[]) (fun j=>(zu k).length - j) 0 [3,9] ?_ ?_ ?_
 ·exact Nat.zero_le _
 ·exact pd
 ·rintro j hj
  refine pw ?_
  refine .i ?_ ?_<;>intro h<;>(try simp only [zb] at h)<;>first | refine pw ?_ | exact pd
  ·have hst:=zil k h
   refine .c (zgU k (zu k)[j].lo h12.ik h12.ok h12.r h12.s h12.z) ?_
   refine cutP.full rfl ?_ rfl ?_ ?_
   ·exact pd
   ·exact pd
   ·refine pw ?_
    exact⟨j+1,h,by omega,hst.symm,rfl⟩
  ·exact zjf k (by omega)
end Go.Proofs.YtopfkkogooocgaaGreat
namespace Go.Proofs.YtopfkkogooocgaaGreat
open Go.RowKit
attribute [-go_sem] z7
theorem zsd {w:World} {b lo hi:Nat} {t:TypeId} (h:w.heap[b]? = some (.cells #[.int .u64 lo,.int .u64 hi] t (0,0))):MuI (·=b) w (.slice (some ⟨b,0,none⟩) 1 1):=by
 refine⟨1,_,1,rfl,Nat.le_refl _,by decide,fun _=>⟨b,0,rfl,fun j hj=>?_⟩⟩
 obtain rfl:j=0:=by omega
 have e0:=zW h 0 _ rfl
 have e1:=zW h 1 _ rfl
 exact⟨⟨rfl,_,e0.1,e0.2⟩,rfl,_,e1.1,e1.2⟩
theorem zrW {C:Nat->List Nat} {R:List Nat} (k:List Fg) (h12:Ok12 C R k) {D:Nat->Nat->Prop} {w:World} {x:Value} (hG:GL D w) (hD:∀ b o,D b o->b<w.heap.size) (d:Dat D w x (kp k)) :
 Calls Tryz.prog 8 #[x] w fun e w'=>∃ v B,e=.returned v/\Below w.heap.size w w'/\(w.heap.size<=B/\B<=w'.heap.size)/\MG B w' v (zu k).length:=by
 have hpl:=xW k
 have h12t:=h12.t
 have hpi:=jP (vs:=#[x]) (zdF k h12.r h12.z (by have:=h12.l;omega) h12.t) hG hD rfl (fun i p hp=>by
  match i,hp with
  | 0,hp=>cases hp;exact d
  | i+1,hp=>simp at hp)
 obtain⟨ax,cx,_,rfl,_⟩:=kX d hD
 have hat:∀(i:Nat) (W:World),Below w.heap.size w W->Calls Tryz.prog 21 #[.slice ax k.length cx,.int .u64 (i:Nat)] W fun e w'=>∃ a n c,e=.returned (.slice a n c)/\Below W.heap.size W w'/\MuE (W.heap.size<=·) w' (.slice a n c):=fun i W hW=>by
  have hw:∀ b o x,D b o->w.cell? ⟨b,o,none⟩=some x->W.cell? ⟨b,o,none⟩=some x:=fun b o x h hx=>(World.cell?_of_block (a:=⟨b,o,none⟩) (hW.block b (hD b o h))).trans hx
  refine(zsk k i h12.ik h12.ok h12.r h12.s h12.z (hG.mono (fun _ _ h=>h) hw) (fun b o h=>Nat.lt_of_lt_of_le (hD b o h) hW.size) (d.mono (fun _ _ h=>h) hw)).mono ?_
  rintro e w' ⟨u,rfl,hb,hm⟩
  have hm':=hm
  obtain⟨n,a,c,rfl,_⟩:=hm'
  exact⟨a,n,c,rfl,hb,hm⟩
 have hbd:∀ s ∈ zu k,s.lo<zk/\s.hi<zk:=fun s hs=>by
  have hn:Nrm [s]:=(Yb h12.r (zij k s) (List.mem_map.2 ⟨s,hs,rfl⟩)).1
  have:=NF.lo_ge hn s (by simp)
  omega
 obtain⟨i0,hi0,hz0,hz1,hz2⟩:=info_parts Z9
 have HI:=Lib.hid (And.intro hi0 (And.intro hz0 (And.intro hz1 hz2)))
 have HPI:=Lib.hid hpi
 have HAT:=Lib.hid hat
 have HBD:=Lib.hid hbd
 have HDD:=Lib.hid hD
 clear hi0 hz0 hz1 hz2 hpi hat hbd hG hD d
 obtain⟨N,hN⟩:∃ N,N=(zu k).length:=⟨_,rfl⟩
 rw [<-hN] at hpl
 have HN:=Lib.hid hN
 go_enter Tryz.func8,Tryz.ntmps8
 go_wp2_with (go_at_call 17;refine HPI.out.mono ?_;rintro e w1 ⟨u1,rfl,hb1,hd1⟩
              have hrd:RdR 0 w1.heap.size w1 u1 (zu k):=je hd1 (fun b o h=>h.elim (fun h=>Nat.lt_of_lt_of_le (HDD.out b o h) hb1.size) And.right) HBD.out
              obtain⟨a1,c1,rfl⟩:=zK hd1
              rw [<-hN] at hrd ⊢
              have HRD:=Lib.hid hrd
              have HB1:=Lib.hid hb1
              have hs1:=hb1.size
              clear hd1 hrd hb1 hN)
 go_loopg [3,9] N (fun gh y x wr=>∃ j,j<=N/\gh=N - j/\x=.int .i64 j/\MG w1.heap.size wr y j/\Below w1.heap.size w1 wr)
 case atStart=>exact⟨0,Nat.zero_le _,rfl,rfl,MG.nil _ _,Below.refl _ _⟩
 case round=>
  obtain⟨j,hj,rfl,rfl,hmg,hb1r⟩:=hrel
  have HMG:=Lib.hid hmg
  have hs1r:=hb1r.size
  have HBR:=Lib.hid (HB1.out.trans (hb1r.mono hs1))
  have hgu:∀ g,u3.ownBlock=some g->w1.heap.size<=g/\g<wr.heap.size:=fun g hg=>by
   obtain⟨_,h,_⟩:=hmg
   exact h.lt g hg
  by_cases hlt:j<N
  ·obtain⟨s,hs⟩:∃ s,s=(zu k)[j]'(by rw [<-HN.out];exact hlt):=⟨_,rfl⟩
   obtain⟨b,off,rfl,hbl,c0,c1⟩:∃ b off,a1=some ⟨b,off,none⟩/\b<w1.heap.size/\wr.cell? ⟨b,off+j * 2,none⟩=some (.int .u64 s.lo)/\wr.cell? ⟨b,off+j * 2+1,none⟩=some (.int .u64 s.hi):=by
    obtain⟨a',cap,e,_,_,h3⟩:=HRD.out
    cases e
    obtain⟨b,off,rfl,_,h4,h5⟩:=h3 (fun e=>by have h:=congrArg List.length e;simp only [List.length_nil] at h;omega)
    obtain⟨q0,q1,_⟩:=h5 j hlt
    rw [<-hs] at q0 q1
    exact⟨b,off,rfl,h4,(hb1r.cell (p:=⟨b,off+j * 2,none⟩) h4).trans q0,(hb1r.cell (p:=⟨b,off+j * 2+1,none⟩) h4).trans q1⟩
   have HAT1:=Lib.hid (HAT.out s.lo)
   have hle:=HRD.out.len
   obtain⟨wb,hwb⟩:∃ wb,wb=wr.alloc (.cells #[.int .u64 s.lo,.int .u64 s.hi] 35):=⟨_,rfl⟩
   have hxb:wb.heap[wr.heap.size]? = some (.cells #[.int .u64 s.lo,.int .u64 s.hi] 35 (0,0)):=by rw [hwb];exact World.alloc_heap_new wr _
   have hbb:Below wr.heap.size wr wb:=by rw [hwb];exact(Below.refl _ wr).alloc (Nat.le_refl _) _
   have hsb:wb.heap.size=wr.heap.size+1:=by rw [hwb];simp
   have HBB:=Lib.hid hbb
   have HB1R:=Lib.hid hb1r
   have HGU:=Lib.hid hgu
   have g0:=(zW hxb 0 _ rfl).1
   have g1:=(zW hxb 1 _ rfl).1
   clear hs hxb hbb hmg hb1r hgu
   go_wp2_with fail
   rw [<-hwb]
   have hc1:Below wb.heap.size wb wb.drew:=(Below.refl _ _).drew
   clear hwb c0 c1
   refine Kg (Sw:=qe) 9 25 (fun w9=>Below wb.heap.size wb w9/\w9.cell? ⟨wr.heap.size,0,none⟩=some (.int .u64 s.lo)/\w9.cell? ⟨wr.heap.size,1,none⟩=some (.int .u64 s.hi)) (by kernel_rfl) (by kernel_rfl) rfl ⟨hc1,g0,g1⟩ ?_
   simp only [List.take_succ_cons,List.take_zero]
   refine Jz ?_
   refine V7 (fun u w9=>∃ vb vt,u=.slice (some ⟨vb,0,none⟩) 1 1/\w9.heap[vb]? = some (.cells #[.int .u64 s.lo,.int .u64 s.hi] vt (0,0))/\wb.heap.size<=vb) (fun u _ _ h hk=>by obtain⟨vb,vt,e,h1,h2⟩:=h;exact⟨vb,vt,e,hk.obj h1 id,h2⟩) rfl ?_ ?_
   ·intro a2 w2 hc hk hr K hK
    have HK:=Lib.hid hK
    clear hK
    simp [Rds,zA,lk,Op.operands,Call.operands,RdEq] at hr
    go_simp
    refine HK.out _ _ ((Keep.refl _ _).alloc _) ⟨hc.1.alloc hc.1.size _,?_,?_⟩ ⟨w2.heap.size,_,rfl,World.alloc_heap_new w2 _,hc.1.size⟩
    ·exact((Keep.refl qe _).alloc _).cell_some hc.2.1 id
    ·exact((Keep.refl qe _).alloc _).cell_some hc.2.2 id
   dsimp only [List.nil_append,List.cons_append]
   refine Jz ?_
   refine V7 (fun u w9=>∃ a n c,u=.slice a n c/\MuE (wb.heap.size<=·) w9 u) (fun u _ _ h hk=>by obtain⟨a,n,c,e,h⟩:=h;exact⟨a,n,c,e,h.same fun b _ hl=>hk.block b hl id⟩) rfl ?_ ?_
   ·intro a2 w2 hc hk hr K hK
    have HK:=Lib.hid hK
    clear hK
    simp [Rds,zA,lk,Op.operands,Call.operands,RdEq] at hr
    go_simp
    refine(HAT1.out _ (HBR.out.trans ((HBB.out.mono (by omega)).trans (hc.1.mono (by omega))))).mono ?_
    rintro e w3 ⟨a,n,c,rfl,hb,hm⟩
    have hkb:Keep qe _ w3:=Keep.of_below' hb (Nat.le_refl _)
    exact HK.out _ _ hkb ⟨hc.1.trans (hb.mono hc.1.size),hkb.cell_some hc.2.1 id,hkb.cell_some hc.2.2 id⟩ ⟨a,n,c,rfl,hm.mono fun b h=>by have:=hc.1.size;omega⟩
   dsimp only [List.nil_append,List.cons_append]
   refine Jz ?_
   refine V7 (fun u w9=>∃ vi vt a n c,u=.agg #[.slice (some ⟨vi,0,none⟩) 1 1,.slice a n c]/\w9.heap[vi]? = some (.cells #[.int .u64 s.lo,.int .u64 s.hi] vt (0,0))/\wb.heap.size<=vi/\MuE (wb.heap.size<=·) w9 (.slice a n c)) (fun u _ _ h hk=>by obtain⟨vi,vt,a,n,c,e,h1,h2,h⟩:=h;exact⟨vi,vt,a,n,c,e,hk.obj h1 id,h2,h.same fun b _ hl=>hk.block b hl id⟩) rfl ?_ ?_
   ·intro a2 w2 hc hk hr K hK
    have HK:=Lib.hid hK
    clear hK
    simp [Rds,zA,lk,Op.operands,Call.operands,RdEq] at hr
    obtain⟨⟨_,⟨e1,e2⟩,vi,rfl,⟨vt,hvi⟩,hvl⟩,_,⟨e3,e4⟩,⟨a,n,c,rfl⟩,hv⟩:=hr
    go_simp
    exact HK.out _ _ (Keep.refl _ _) hc ⟨vi,vt,a,n,c,rfl,hvi,hvl,hv⟩
   dsimp only [List.nil_append,List.cons_append]
   refine Jz ?_
   refine V7 (fun u w9=>∃ vb vf vi vt a n c,u=.slice (some ⟨vb,0,none⟩) 1 1/\w9.heap[vb]? = some (.cells #[.slice (some ⟨vi,0,none⟩) 1 1,.slice a n c] vf (0,0))/\wb.heap.size<=vb/\w9.heap[vi]? = some (.cells #[.int .u64 s.lo,.int .u64 s.hi] vt (0,0))/\wb.heap.size<=vi/\MuE (wb.heap.size<=·) w9 (.slice a n c)) (fun u _ _ h hk=>by obtain⟨vb,vf,vi,vt,a,n,c,e,h1,h2,h3,h4,h⟩:=h;exact⟨vb,vf,vi,vt,a,n,c,e,hk.obj h1 id,h2,hk.obj h3 id,h4,h.same fun b _ hl=>hk.block b hl id⟩) rfl ?_ ?_
   ·intro a2 w2 hc hk hr K hK
    have HK:=Lib.hid hK
    clear hK
    simp [Rds,zA,lk,Op.operands,Call.operands,RdEq] at hr
    obtain⟨_,⟨e1,e2⟩,vi,vt,a,n,c,rfl,hvi,hvl,hv⟩:=hr
    go_simp
    refine HK.out _ _ ((Keep.refl _ _).alloc _) ⟨hc.1.alloc hc.1.size _,?_,?_⟩ ⟨w2.heap.size,_,vi,vt,a,n,c,rfl,World.alloc_heap_new w2 _,hc.1.size,((Keep.refl qe _).alloc _).obj hvi id,hvl,hv.same fun b _ hl=>Below.heap_alloc _ _ _ hl⟩
    ·exact((Keep.refl qe _).alloc _).cell_some hc.2.1 id
    ·exact((Keep.refl qe _).alloc _).cell_some hc.2.2 id
   dsimp only [List.nil_append,List.cons_append]
   intro w2 hc2 hk2
   simp only [finG,forall_eq,List.nil_append,List.cons_append,List.drop_succ_cons,List.drop_zero,List.drop_nil]
   simp only [Act.put,List.setIfInBounds_toArray,List.set_cons_succ,List.set_cons_zero]
   rintro _ ⟨_,_,rfl,_⟩ _ ⟨_,_,_,rfl,_⟩ _ ⟨_,_,_,_,_,rfl,_⟩ _ ⟨vb,vf,vi,vt,a,n,c,rfl,hvb,hvl,hvi,hvj,hv⟩
   have HCB:=Lib.hid hc2.1
   have hsz2:=hc2.1.size
   have hmg2:=HMG.out.keep (w':=w2) (by omega) (fun b _ hb=>(HCB.out.block b (by omega)).trans (HBB.out.block b hb))
   obtain⟨xs,hxs,_⟩:=id hmg2
   have hbo:∀ b,wb.heap.size<=b->b<w2.heap.size->Bo w1.heap.size w2 u3 b:=fun b h1 h2=>⟨⟨by omega,h2⟩,fun e=>by have:=(HGU.out b e).2;omega⟩
   have hp:MuI (Bo w1.heap.size w2 u3) w2 (.slice (some ⟨vi,0,none⟩) 1 1):=(zsd hvi).mono fun b e=>by subst e;exact hbo _ hvj (Array.getElem?_eq_some_iff.1 hvi).1
   have hq:MuE (Bo w1.heap.size w2 u3) w2 (.slice a n c):=hv.lt.mono fun b h=>hbo b h.1 h.2
   have hbw1:Below w1.heap.size w1 w2:=HB1R.out.trans ((HBB.out.mono (by omega)).trans (HCB.out.mono (by omega)))
   clear hc2 hk2 hc1 g0 g1
   go_wp2_with fail
   refine Zi _ _ 23 rfl w1.heap.size 32 i0 _ 2 48 Tryz.underlying23 HI.out.1 HI.out.2.1 HI.out.2.2.1 HI.out.2.2.2 rfl (by decide) _ _ xs rfl hxs ⟨vb,0,none⟩ 1 1 [.slice (some ⟨vi,0,none⟩) 1 1,.slice a n c] rfl rfl (fun j u hj=>by
    rw [zh,Nat.zero_add]
    exact(zW hvb j u (by simpa using hj)).1) (fun u hu=>by simp at hu;rcases hu with rfl | rfl<;>rfl) (by unfold maxLen;omega) (by omega) (by omega) ?_
   intro v6 w6 ho6 hg6 _ hbl6
   have HP6:=Lib.hid (hmg2.push hxs hp hq ho6 hg6 hbl6)
   have HG7:=Lib.hid (hbw1.grown hg6 hbw1.size fun k hk=>(HGU.out k hk).1)
   clear ho6 hg6 hbl6 hmg2 hxs hp hq hbw1 hbo hvb hvi hv
   go_wp2_with fail
   go_roundg (N - (j+1))
   case measure=>omega
   case rel=>exact⟨j+1,hlt,rfl,by simp,HP6.out,HG7.out⟩
  ·obtain rfl:j=N:=by omega
   go_wp2_with fail
   refine bodyPost_ret (results_tmp rfl _ _ _) rfl ?_
   exact⟨_,_,rfl,HBR.out,⟨hs1,hs1r⟩,by rw [<-HN.out];exact HMG.out⟩
end Go.Proofs.YtopfkkogooocgaaGreat
namespace Go.Proofs.YtopfkkogooocgaaGreat
open Go.RowKit
def ZH (v w:List En):Prop:=zZ (zv v) (zv w)<0
theorem ku (v:List En):¬ ZH v v:=by unfold ZH;rw [(jc _ _).2 rfl];decide
theorem k8 {a b c:List En} (h1:ZH a b) (h2:ZH b c):ZH a c:=by
 unfold ZH at *
 have h3:=ZW _ _ _ (Int.le_of_lt h1) (Int.le_of_lt h2)
 rcases Int.lt_or_eq_of_le h3 with h | h
 ·exact h
 ·have e:=Vv ((jc _ _).1 h)
  subst e
  have:=ZV (zv a) (zv b)
  omega
theorem zfI {a b:List En} (h1:¬ ZH a b) (h2:zZ (zv a) (zv b)≠0):ZH b a:=by
 unfold ZH at *
 have:=ZV (zv a) (zv b)
 omega
theorem YU {a b:List En} (h:zZ (zv a) (zv b)=0):a=b:=Vv ((jc _ _).1 h)
def qN:List Fg->Fg->List Fg
 | [],f=>[f]
 | g::r,f=>if zZ (zv g.vec) (zv f.vec)<0 then g::qN r f else if zZ (zv g.vec) (zv f.vec)=0 then ⟨qy zn g.items f.items,f.vec⟩::r else f::g::r
def yo (o:List Fg) (f:Fg):List Fg:=if zi f.vec=[]\/f.items=[] then o else qN o ⟨f.items,zi f.vec⟩
def zL (k:List Fg):List Fg:=k.foldl yo []
def OkG (f:Fg):Prop:=CanV f.vec/\f.vec≠[]/\Nrm f.items/\f.items≠[]
structure GrpI (k:List Fg):Prop where
 ok:∀ f ∈ k,OkG f
 srt:k.Pairwise fun f g=>ZH f.vec g.vec
theorem GrpI.nil:GrpI []:=⟨fun f h=>(by cases h),List.Pairwise.nil⟩
theorem GrpI.tail {f:Fg} {k:List Fg} (h:GrpI (f::k)):GrpI k:=⟨fun g hg=>h.ok g (by simp [hg]),(List.pairwise_cons.1 h.srt).2⟩
theorem GrpI.right {k:List Fg} (h:GrpI k):RightK k:=fun f hf=>⟨(h.ok f hf).2.2.1,(h.ok f hf).1.right⟩
theorem JZ {l:List Iv} (h:Nrm l) (hn:l≠[]):∃ x,x<zk/\mem l x=true:=by
 cases l with
 | nil=>exact absurd rfl hn
 | cons s l=>
   have:=NF.lo_ge h s (by simp)
   exact⟨s.lo,by omega,qf.2 ⟨s,by simp,Nat.le_refl _,this.2.1⟩⟩
theorem zig {l:List Iv} {x:Nat} (h:mem l x=true):l≠[]:=fun e=>by rw [e] at h;cases h
theorem Yw:∀ {o:List Fg} {f:Fg},GrpI o->OkG f->(∀ g ∈ qN o f,OkG g/\(g.vec=f.vec\/g ∈ o))/\GrpI (qN o f)/\(∀ i r c,i<zk->hasK (qN o f) i r c=(hasK o i r c || (mem f.items i && mem (zT f.vec r) c)))
 | [],f,_,hf=>⟨fun g hg=>by simp only [qN,List.mem_singleton] at hg;subst hg;exact⟨hf,.inl rfl⟩,⟨fun g hg=>by simp only [qN,List.mem_singleton] at hg;subst hg;exact hf,by simp [qN]⟩,fun i r c _=>by simp [qN,hasK]⟩
 | g::o,f,ho,hf=>by
   have hg:=ho.ok g (by simp)
   have hp:=List.pairwise_cons.1 ho.srt
   unfold qN
   by_cases h1:zZ (zv g.vec) (zv f.vec)<0
   ·rw [if_pos h1]
    obtain⟨k1,k2,k3⟩:=Yw ho.tail hf
    refine⟨fun x hx=>?_,⟨fun x hx=>?_,List.pairwise_cons.2 ⟨fun x hx=>?_,k2.srt⟩⟩,fun i r c hi=>?_⟩
    ·rcases List.mem_cons.1 hx with rfl | hx
     ·exact⟨hg,.inr (by simp)⟩
     ·exact⟨(k1 x hx).1,(k1 x hx).2.imp id fun h=>by simp [h]⟩
    ·rcases List.mem_cons.1 hx with rfl | hx
     ·exact hg
     ·exact(k1 x hx).1
    ·rcases (k1 x hx).2 with e | e
     ·rw [e];exact h1
     ·exact hp.1 x e
    ·have:=k3 i r c hi
     unfold hasK at this ⊢
     rw [List.any_cons,List.any_cons,this,Bool.or_assoc]
   ·rw [if_neg h1]
    by_cases h2:zZ (zv g.vec) (zv f.vec)=0
    ·rw [if_pos h2]
     have e:g.vec=f.vec:=YU h2
     have hn:OkG ⟨qy zn g.items f.items,f.vec⟩:=by
      refine⟨hf.1,hf.2.1,qH hg.2.2.1 hf.2.2.1,?_⟩
      obtain⟨x,hx,hm⟩:=JZ hg.2.2.1 hg.2.2.2
      refine zig (x:=x) ?_
      show mem (qy zn g.items f.items) x=true
      rw [qj hg.2.2.1 hf.2.2.1 hx,hm]
      rfl
     refine⟨fun x hx=>?_,⟨fun x hx=>?_,List.pairwise_cons.2 ⟨fun x hx=>?_,hp.2⟩⟩,fun i r c hi=>?_⟩
     ·rcases List.mem_cons.1 hx with rfl | hx
      ·exact⟨hn,.inl rfl⟩
      ·exact⟨ho.ok x (by simp [hx]),.inr (by simp [hx])⟩
     ·rcases List.mem_cons.1 hx with rfl | hx
      ·exact hn
      ·exact ho.ok x (by simp [hx])
     ·have:=hp.1 x hx
      rw [e] at this
      exact this
     ·unfold hasK
      rw [List.any_cons,List.any_cons]
      simp only
      rw [qj hg.2.2.1 hf.2.2.1 hi,e]
      simp only [zn]
      cases mem g.items i<;>cases mem f.items i<;>cases mem (zT f.vec r) c<;>simp
    ·rw [if_neg h2]
     have h3:ZH f.vec g.vec:=zfI h1 h2
     refine⟨fun x hx=>?_,⟨fun x hx=>?_,List.pairwise_cons.2 ⟨fun x hx=>?_,ho.srt⟩⟩,fun i r c hi=>?_⟩
     ·rcases List.mem_cons.1 hx with rfl | hx
      ·exact⟨hf,.inl rfl⟩
      ·exact⟨ho.ok x hx,.inr hx⟩
     ·rcases List.mem_cons.1 hx with rfl | hx
      ·exact hf
      ·exact ho.ok x hx
     ·rcases List.mem_cons.1 hx with rfl | hx
      ·exact h3
      ·exact k8 h3 (hp.1 x hx)
     ·unfold hasK
      rw [List.any_cons,Bool.or_comm]
theorem Yi {f:Fg} (h:ZS f) (hn:¬(zi f.vec=[]\/f.items=[])):OkG ⟨f.items,zi f.vec⟩:=⟨jN h.2,fun e=>hn (.inl e),h.1,fun e=>hn (.inr e)⟩
theorem Yr {o:List Fg} {f:Fg} (ho:GrpI o) (hf:ZS f):GrpI (yo o f)/\∀ i r c,i<zk->hasK (yo o f) i r c=(hasK o i r c || (mem f.items i && mem (zT f.vec r) c)):=by
 unfold yo
 split
 ·rename_i h
  refine⟨ho,fun i r c _=>?_⟩
  rcases h with h | h
  ·rw [<-ja hf.2,h,kr]
   simp
  ·rw [h]
   simp
 ·rename_i h
  obtain⟨_,k2,k3⟩:=Yw ho (Yi hf h)
  refine⟨k2,fun i r c hi=>?_⟩
  rw [k3 i r c hi]
  simp only
  rw [ja hf.2]
theorem jV:∀ {k:List Fg} {o:List Fg},GrpI o->RightK k->GrpI (k.foldl yo o)/\∀ i r c,i<zk->hasK (k.foldl yo o) i r c=(hasK o i r c || hasK k i r c)
 | [],o,ho,_=>⟨ho,fun i r c _=>by simp [hasK]⟩
 | f::k,o,ho,hk=>by
   obtain⟨h1,h2⟩:=Yr ho (hk f (by simp))
   obtain⟨h3,h4⟩:=jV (k:=k) h1 fun g hg=>hk g (by simp [hg])
   refine⟨h3,fun i r c hi=>?_⟩
   rw [List.foldl_cons,h4 i r c hi,h2 i r c hi,Bool.or_assoc]
   rfl
theorem vB {k:List Fg} (h:RightK k):GrpI (zL k):=(jV GrpI.nil h).1
structure CanK (k:List Fg):Prop where
 gi:GrpI k
 apart:xh k
theorem xT {v:List En} (h:CanV v):zi v=v:=Zk (jN h.right) h fun r=>ja h.right r
theorem CanK.one {k:List Fg} (h:CanK k) {f:Fg} (hf:f ∈ k) {i:Nat} (hi:i<zk) (hm:mem f.items i=true) (r c:Nat):hasK k i r c=mem (zT f.vec r) c:=by
 rw [Bool.eq_iff_iff,km]
 constructor
 ·rintro⟨g,hg,m1,m2⟩
  have:f=g:=by
   obtain⟨a,ha,rfl⟩:=List.getElem_of_mem hf
   obtain⟨b,hb,rfl⟩:=List.getElem_of_mem hg
   rcases Nat.lt_trichotomy a b with e | e | e
   ·exact absurd ⟨hm,m1⟩ (List.pairwise_iff_getElem.1 h.apart a b ha hb e i hi)
   ·subst e;rfl
   ·exact absurd ⟨m1,hm⟩ (List.pairwise_iff_getElem.1 h.apart b a hb ha e i hi)
  subst this
  exact m2
 ·intro m2
  exact⟨f,hf,hm,m2⟩
theorem CanK.vec {k:List Fg} (h:CanK k) {f g:Fg} (hf:f ∈ k) (hg:g ∈ k) (e:f.vec=g.vec):f=g:=by
 obtain⟨a,ha,rfl⟩:=List.getElem_of_mem hf
 obtain⟨b,hb,rfl⟩:=List.getElem_of_mem hg
 rcases Nat.lt_trichotomy a b with e3 | e3 | e3
 ·have:=List.pairwise_iff_getElem.1 h.gi.srt a b ha hb e3
  rw [e] at this
  exact absurd this (ku _)
 ·subst e3;rfl
 ·have:=List.pairwise_iff_getElem.1 h.gi.srt b a hb ha e3
  rw [e] at this
  exact absurd this (ku _)
theorem RightK.app {a b:List Fg} (ha:RightK a) (hb:RightK b):RightK (a++b):=fun f hf=>(List.mem_append.1 hf).elim (ha f) (hb f)
theorem CanK.right {k:List Fg} (h:CanK k):RightK k:=h.gi.right
theorem zdi {l:List Iv} {x:Nat} (hm:mem l x=true) (h0:x=0\/mem l (x - 1)=false):x ∈ l.map Iv.lo:=by
 obtain⟨s,hs,h1,h2⟩:=qf.1 hm
 refine List.mem_map.2 ⟨s,hs,?_⟩
 rcases Nat.lt_or_eq_of_le h1 with h3 | h3
 ·rcases h0 with h0 | h0
  ·omega
  ·have:mem l (x - 1)=true:=qf.2 ⟨s,hs,by omega,by omega⟩
   rw [this] at h0;cases h0
 ·exact h3
theorem zbS {a b:List Iv} (ha:Nrm a) (hb:Nrm b):(qy zn a b).length<=a.length+b.length:=by
 have hn:=qH (f:=zn) ha hb
 have:=Ji ((qy zn a b).map Iv.lo) (a.map Iv.lo++b.map Iv.lo) (NF.asc hn) fun y hy=>by
  obtain⟨s,hs,rfl⟩:=List.mem_map.1 hy
  have h1:=NF.lo_ge hn s hs
  have hm:mem (qy zn a b) s.lo=true:=qf.2 ⟨s,hs,Nat.le_refl _,h1.2.1⟩
  have hp:s.lo=0\/(mem a (s.lo - 1)=false/\mem b (s.lo - 1)=false):=by
   by_cases h0:s.lo=0
   ·exact .inl h0
   ·have h2:=NF.lo_prev hn s hs h0
    rw [qj ha hb (by omega)] at h2
    simp only [zn,Bool.or_eq_false_iff] at h2
    exact .inr h2
  rw [qj ha hb (by omega)] at hm
  simp only [zn,Bool.or_eq_true] at hm
  rcases hm with hm | hm
  ·exact List.mem_append_left _ (zdi hm (hp.imp id And.left))
  ·exact List.mem_append_right _ (zdi hm (hp.imp id And.right))
 simpa using this
def qE:List Fg->Nat
 | []=>0
 | f::k=>f.items.length+qE k
theorem kK:∀(a b:List Fg),qE (a++b)=qE a+qE b
 | [],b=>by simp [qE]
 | f::a,b=>by simp only [List.cons_append,qE,kK a b];omega
theorem yv:∀ {k:List Fg} {f:Fg},f ∈ k->f.items.length<=qE k
 | g::k,f,h=>by
   rcases List.mem_cons.1 h with rfl | h
   ·simp only [qE];omega
   ·have:=yv h;simp only [qE];omega
theorem YO:∀ k:List Fg,(CI k).length<=2 * qE k
 | []=>by simp [CI,qE]
 | f::k=>by
   have h1:=YO k
   have h2:=vq f.items
   have:CI (f::k)=z6 f.items++CI k:=rfl
   rw [this,List.length_append,qE];omega
theorem Zf (V:Iv->List En):∀ l:List Iv,qE (l.map fun s=>⟨[s],V s⟩)=l.length
 | []=>rfl
 | s::l=>by rw [List.map_cons,qE,Zf V l];simp;omega
theorem Vg:∀ {o:List Fg} {f:Fg},(∀ g ∈ o,Nrm g.items)->Nrm f.items->qE (qN o f)<=qE o+f.items.length/\(qN o f).length<=o.length+1/\∀ g ∈ qN o f,g.vec=f.vec\/∃ h ∈ o,g.vec=h.vec
 | [],f,_,_=>⟨by simp [qN,qE],by simp [qN],fun g hg=>by simp only [qN,List.mem_singleton] at hg;subst hg;exact .inl rfl⟩
 | g::o,f,ho,hf=>by
   have h1:=Vg (o:=o) (f:=f) (fun x hx=>ho x (by simp [hx])) hf
   have hg:=ho g (by simp)
   have hu:=zbS hg hf
   unfold qN
   by_cases c1:zZ (zv g.vec) (zv f.vec)<0
   ·rw [if_pos c1]
    refine⟨by simp only [qE];omega,by simp only [List.length_cons];omega,fun x hx=>?_⟩
    rcases List.mem_cons.1 hx with rfl | hx
    ·exact .inr ⟨_,by simp,rfl⟩
    ·exact(h1.2.2 x hx).imp id fun⟨y,hy,e⟩=>⟨y,by simp [hy],e⟩
   ·rw [if_neg c1]
    by_cases c2:zZ (zv g.vec) (zv f.vec)=0
    ·rw [if_pos c2]
     refine⟨by simp only [qE];omega,by simp,fun x hx=>?_⟩
     rcases List.mem_cons.1 hx with rfl | hx
     ·exact .inl rfl
     ·exact .inr ⟨x,by simp [hx],rfl⟩
    ·rw [if_neg c2]
     refine⟨by simp only [qE];omega,by simp,fun x hx=>?_⟩
     rcases List.mem_cons.1 hx with rfl | hx
     ·exact .inl rfl
     ·exact .inr ⟨x,hx,rfl⟩
theorem Yq:∀ {k o:List Fg},GrpI o->RightK k->qE (k.foldl yo o)<=qE o+qE k/\(k.foldl yo o).length<=o.length+k.length/\∀ g ∈ k.foldl yo o,(∃ f ∈ k,g.vec=zi f.vec)\/∃ h ∈ o,g.vec=h.vec
 | [],o,_,_=>⟨by simp,by simp,fun g hg=>.inr ⟨g,hg,rfl⟩⟩
 | f::k,o,ho,hk=>by
   have hf:=hk f (by simp)
   have h1:=Yq (k:=k) (o:=yo o f) (Yr ho hf).1 fun g hg=>hk g (by simp [hg])
   rw [List.foldl_cons]
   have h2:qE (yo o f)<=qE o+f.items.length/\(yo o f).length<=o.length+1/\∀ g ∈ yo o f,g.vec=zi f.vec\/∃ h ∈ o,g.vec=h.vec:=by
    unfold yo
    split
    ·exact⟨by omega,by omega,fun g hg=>.inr ⟨g,hg,rfl⟩⟩
    ·exact Vg (fun g hg=>(ho.ok g hg).2.2.1) hf.1
   refine⟨by simp only [qE];omega,by simp only [List.length_cons];omega,fun g hg=>?_⟩
   rcases h1.2.2 g hg with⟨x,hx,e⟩ | ⟨x,hx,e⟩
   ·exact .inl ⟨x,by simp [hx],e⟩
   ·rcases h2.2.2 x hx with e2 | ⟨y,hy,e2⟩
    ·exact .inl ⟨f,by simp,e.trans e2⟩
    ·exact .inr ⟨y,hy,e.trans e2⟩
theorem jU {k:List Fg} (h:RightK k):qE (zL k)<=qE k/\(zL k).length<=k.length/\∀ g ∈ zL k,∃ f ∈ k,g.vec=zi f.vec:=by
 have:=Yq (o:=[]) GrpI.nil h
 refine⟨by simpa [qE,zL] using this.1,by simpa [zL] using this.2.1,fun g hg=>?_⟩
 rcases this.2.2 g hg with h | ⟨x,hx,_⟩
 ·exact h
 ·cases hx
theorem Zo {k:List Fg} {j:Nat} (h:j<k.length):zL (k.take (j+1))=yo (zL (k.take j)) k[j]:=by
 unfold zL
 rw [List.take_succ_eq_append_getElem h,List.foldl_append]
 rfl
theorem zfS {v:List En} {h:Nat} (hh:∀ e ∈ v,e.holes.length<=h):(zv v).length<=1+v.length * (3+2 * h):=by
 have:∀ {v:List En},(∀ e ∈ v,e.holes.length<=h)->(v.flatMap zC).length<=v.length * (3+2 * h):=by
  intro v
  induction v with
  | nil=>intro _;simp
  | cons e v ih=>
    intro hv
    have h1:=ih fun f hf=>hv f (by simp [hf])
    have h2:=hv e (by simp)
    have h3:(v.length+1) * (3+2 * h)=v.length * (3+2 * h)+(3+2 * h):=Nat.succ_mul _ _
    simp only [List.flatMap_cons,List.length_append,zC,List.length_cons,xx,h3]
    omega
 have:=this hh
 unfold zv
 simp only [List.length_cons]
 omega
theorem WV.nlen {C:Nat->List Nat} {R:List Nat} {v:List En} (h:WV C R v) (hC:∀ r,(C r).length<=9000) (hR:R.length<=20000):(zv v).length<=1073741824:=by
 obtain⟨_,h1,h2⟩:=h.bv hC hR
 have h3:=zfS h2
 have h4:v.length * (3+2 * (9000+2))<=20000 * (3+2 * (9000+2)):=Nat.mul_le_mul_right _ h1
 omega
def k12:List Fg:=[⟨[⟨1,5⟩],[⟨1,0,[]⟩]⟩,⟨[⟨4,9⟩],[⟨2,0,[]⟩]⟩]
def zro:List En:=[⟨1,0,[]⟩]
def zrw:List En:=[⟨1,0,[]⟩,⟨2,0,[]⟩]
def zrK:List En:=[⟨2,0,[]⟩]
theorem zsc (r:Nat):kn ⟨r,0,[]⟩=[⟨0,0⟩]:=kn0 _ _ (by rw [zw];omega)
theorem r12:RightK k12:=by simp [k12,RightK,ZS,RightV,zO,zw,Nrm,NF]
theorem zrQ:CanV zro:=⟨by simp [zro,YP,zO,zw,Nrm,NF],by simp [zro]⟩
theorem zrS:CanV zrw:=⟨by simp [zrw,YP,zO,zw,Nrm,NF],by simp [zrw]⟩
theorem zrT:CanV zrK:=⟨by simp [zrK,YP,zO,zw,Nrm,NF],by simp [zrK]⟩
theorem zsW:zq k12=[0,1,4,6,10]:=jK (xc _) (by simp [YN]) fun x=>by
 rw [vZ r12,zw]
 simp only [k12,qX,List.all_cons,List.all_nil,mem,List.any_cons,List.any_nil,Bool.or_false,Bool.and_true,List.mem_cons,List.not_mem_nil,or_false]
 by_cases h1:x=0
 ·subst h1;simp
 ·simp only [h1,false_or]
  constructor
  ·rintro⟨h2,h3⟩
   by_cases h4:x=1\/x=4\/x=6\/x=10
   ·exact h4
   ·have e1:(decide (1<=x - 1) && decide (x - 1<=5))=(decide (1<=x) && decide (x<=5)):=by
     rw [Bool.eq_iff_iff];simp;omega
    have e2:(decide (4<=x - 1) && decide (x - 1<=9))=(decide (4<=x) && decide (x<=9)):=by
     rw [Bool.eq_iff_iff];simp;omega
    rw [e1,e2] at h3
    simp at h3
  ·rintro(rfl | rfl | rfl | rfl)<;>simp
theorem zsT:zu k12=[⟨1,3⟩,⟨4,5⟩,⟨6,9⟩]:=by
 unfold zu y4
 rw [zsW]
 have h0:(zU k12 0).length=0:=by decide
 have h1:(zU k12 1).length=1:=by decide
 have h2:(zU k12 4).length=2:=by decide
 have h3:(zU k12 6).length=1:=by decide
 have h4:(zU k12 10).length=0:=by decide
 simp [vN,h0,h1,h2,h3,h4]
theorem zr2 (i r c:Nat):hasK k12 i r c=((mem [⟨1,5⟩] i && mem (if 1=r then [⟨0,0⟩] else []) c) || (mem [⟨4,9⟩] i && mem (if 2=r then [⟨0,0⟩] else []) c)):=by
 simp only [hasK,k12,List.any_cons,List.any_nil,qm,kr,zsc,Bool.or_false]
theorem zst {i:Nat} {v:List En} (hv:CanV v) (h:∀ r c,c<zk->mem (zT v r) c=hasK k12 i r c):qc k12 i=v:=by
 have h1:=r12.ik.at i
 exact Zk h1.1.can hv fun r=>Nrm.unique (qi h1.1.can.right r) (qi hv.right r) fun c hc=>by rw [h1.2 r c hc,h r c hc]
theorem zsU:jq k12=[⟨[⟨1,3⟩],zro⟩,⟨[⟨4,5⟩],zrw⟩,⟨[⟨6,9⟩],zrK⟩]:=by
 have ha:qc k12 1=zro:=zst zrQ fun r c _=>by
  rw [zr2];simp only [zro,qm,kr,zsc];simp [mem]
 have hb:qc k12 4=zrw:=zst zrS fun r c _=>by
  rw [zr2];simp only [zrw,qm,kr,zsc]
  by_cases h1:1=r
  ·rw [if_pos h1,if_pos h1,if_neg (by omega)];simp [mem]
  ·rw [if_neg h1,if_neg h1];simp [mem]
 have hc:qc k12 6=zrK:=zst zrT fun r c _=>by
  rw [zr2];simp only [zrK,qm,kr,zsc];simp [mem]
 unfold jq
 rw [zsT]
 simp [ha,hb,hc]
theorem zta:(zL (jq k12)).length=3:=by
 rw [zsU]
 unfold zL
 have ea:=xT zrQ
 have eb:=xT zrS
 have ec:=xT zrT
 have na:zro≠[]:=by simp [zro]
 have nb:zrw≠[]:=by simp [zrw]
 have nc:zrK≠[]:=by simp [zrK]
 have c1:zZ (zv zro) (zv zrw)=-1:=by decide
 have c2:zZ (zv zro) (zv zrK)=-1:=by decide
 have c3:zZ (zv zrw) (zv zrK)=1:=by decide
 simp [List.foldl,yo,qN,ea,eb,ec,na,nb,nc,c1,c2,c3]
end Go.Proofs.YtopfkkogooocgaaGreat
